/-
  The walk of bind.line over queries without kids, but phrases and spans.
  The walk of bind.line over a phrase.
  The walk of bind.line over queries that have no kids and no lists: none, all, has, span.
-/
import Derived.Test.YtkcfgcdlnojaeaaGreatDoorDNumA
import Derived.Test.YtkcfgcdlnojaeaaGreatDoorDTextP
set_option linter.unusedVariables false
set_option linter.unusedSimpArgs false
namespace Go.Proofs.YtkcfgcdlnojaeaaGreatDoor.LineLeaf
set_option maxRecDepth 100000
open Go.RowKit Go.PlainAid Base Query QrySize BindBase Bytes Digits Quoted QuoteAll NumAll Rel Relb RelbT RelC TextPlain TextLine TextOne LineBase EndWalk

theorem wt_head {hd : Head} (hw : Hwf hd) {nk : Nat} : wtB hd nk = true := by
  have := hw.weight
  rw [Lit.wf, Bool.and_eq_true, decide_eq_true_eq, decide_eq_true_eq] at this
  have e1 : IntKind.u64.min = 0 := by kernel_rfl
  have e2 : IntKind.u64.max = 18446744073709551615 := by kernel_rfl
  rw [e1, e2] at this
  simp [wtB]
  omega
theorem i64_of {x : Int} (h : (Lit.int .i64 x).wf = true) : -9223372036854775808 ≤ x ∧ x < 9223372036854775808 := by
  rw [Lit.wf, Bool.and_eq_true, decide_eq_true_eq, decide_eq_true_eq] at h
  have e1 : IntKind.i64.min = -9223372036854775808 := by kernel_rfl
  have e2 : IntKind.i64.max = 9223372036854775807 := by kernel_rfl
  rw [e1, e2] at h
  omega
theorem u64_of {x : Int} (h : (Lit.int .u64 x).wf = true) : 0 ≤ x ∧ x < 18446744073709551616 := by
  rw [Lit.wf, Bool.and_eq_true, decide_eq_true_eq, decide_eq_true_eq] at h
  have e1 : IntKind.u64.min = 0 := by kernel_rfl
  have e2 : IntKind.u64.max = 18446744073709551615 := by kernel_rfl
  rw [e1, e2] at h
  omega
theorem bulk_parts (h : Head) : h.text.size ≤ hbulk h ∧ h.lo.text.size ≤ hbulk h ∧ h.hi.text.size ≤ hbulk h := by unfold hbulk; omega
theorem f0_of {k : Nat} {n : Int} {nk : Nat} {h : Head} (ok : Ok (hasOf k) n nk h) : 0 ≤ h.field := by
  cases e : (hasOf k).a with
  | true => exact ok.f1 e
  | false => rw [ok.f0 e]; exact Int.le_refl 0

set_option maxHeartbeats 4000000 in
theorem line_k4 (hd : Head) (hk : hd.kind = 4) (hw : Hwf hd) (hg : locB 16 false hd 0 = true) (A1 A2 A3 A4 : Option Addr) (c1 c2 c3 c4 : Nat) (v : Value) (l : List UInt8) (base : Nat) (w : World) (hown : Byt w base v l) (hb : base ≤ w.heap.size) (ht : Pow base w) (hbk : hbulk hd ≤ 1099511627776) (hl : l.length + 128 * hbulk hd ≤ 8796093022208) :
    Calls Tryz.prog 46 #[v, .agg kindsA, .agg (qcells hd 0 A1 A2 A3 A4 c1 c2 c3 c4)] w (Adds base w v l (lineL (.mk hd []))) := by
  obtain ⟨hk1, hk2, ok⟩ := ok_of hg
  have hwt := wt_head hw (nk := 0)
  have hbl := body_len (by decide) hg hwt
  have hF := i64_of hw.field
  have hN := i64_of hw.n
  have hW := u64_of hw.weight
  obtain ⟨z1, z2, z3⟩ := bulk_parts hd
  rw [hk] at ok
  obtain ⟨kind, field, text, terms, offs, n, weight, lo, hi, occur⟩ := hd
  simp only at hk hF hN hW z1 z2 z3
  subst hk
  have okn := ok.n0
  simp only at okn
  have k9 : kindsA[49]? = some (.string ⟨#[116, 101, 114, 109]⟩) := by kernel_rfl
  generalize kindsA = K at *
  obtain ⟨W2, hW2⟩ : ∃ W, W = (w.alloc (.cells K 86)).alloc (.cells (qcells ⟨4, field, text, terms, offs, n, weight, lo, hi, occur⟩ 0 A1 A2 A3 A4 c1 c2 c3 c4) 29) := ⟨_, rfl⟩
  have K1 : Blk W2 (w.heap.size + 1) 29 (qcells ⟨4, field, text, terms, offs, n, weight, lo, hi, occur⟩ 0 A1 A2 A3 A4 c1 c2 c3 c4) := by
    rw [hW2]
    have := Blk.new (w.alloc (.cells K 86)) 29 (qcells ⟨4, field, text, terms, offs, n, weight, lo, hi, occur⟩ 0 A1 A2 A3 A4 c1 c2 c3 c4)
    rwa [World.size_alloc] at this
  have hsz : w.heap.size + 1 + 1 = W2.heap.size := by rw [hW2]; simp
  have hbW : Below w.heap.size w W2 := by rw [hW2]; (repeat (first | exact Below.refl _ _ | assumption | refine balloc ?_ _ | refine bdrew ?_ | refine bdrewN ?_ _ | refine bchain ?_ (by assumption)))
  have ho2 : Byt W2 base v l := hown.below hbW
  have hne : some (w.heap.size + 1) ≠ v.ownBlock := own_lt hown _ (Nat.le_succ _)
  have ho3 := ho2.below (Below.alloc (Below.refl W2.heap.size W2) (Nat.le_refl _) (.cells #[.int .u8 40] 5))
  have hsr := src_blk (Blk.new W2 5 #[.int .u8 40]) [40] rfl
  rw [← hsz] at hsr
  have HW := Lib.hid hW2
  have HSZ := Lib.hid hsz
  have F0 := Lib.hid (f0_of ok)
  have F1 := Lib.hid hF.2
  have N0 := Lib.hid okn
  have N1 := Lib.hid hN.2
  have W0 := Lib.hid hW.1
  have W1 := Lib.hid hW.2
  have SZ := Lib.hid (Nat.le_trans z1 hbk)
  have SL := Lib.hid (Nat.le_trans z2 hbk)
  have SH := Lib.hid (Nat.le_trans z3 hbk)
  have BK := Lib.hid hbk
  have HB := Lib.hid hbl
  have HL := Lib.hid hl
  unfold qcells at hW2 ⊢
  rw [hW2] at ho3 hsr
  clear hW2 hsz hF hN hW z1 z2 z3 hbk hbl hl okn ok hk1 hk2 hg hwt hw
  go_enter Tryz.func46, Tryz.ntmps46
  go_upto_region 9 with (first | (at_builtin; refine wpList_addB rfl _ _ rfl rfl ho3 rfl hsr (by decide) (by simp; omega) (by have := HL.out; simp; omega) ?_; intro v3 w3 ha3) | (at_builtin; refine wpList_addB rfl _ _ rfl rfl ha3.1 rfl (src_str [116, 101, 114, 109]) (by decide) (by have := ha3.2.1.size; simp at this; omega) (by have := HL.out; simp; omega) ?_; intro v4 w4 ha4; have hA := (ha3.trans ha4).pre (by rw [HW.out]; exact Below.alloc (Below.refl _ _) (Nat.le_refl _) _ : Below W2.heap.size W2 _); have KQ := K1.grown hA.2.1 hne; have q0 : w4.cell? ⟨w.heap.size + 1, 0, none⟩ = some (.int .i64 4) := KQ.cell 0))
  have h4 : Byt w4 base v4 (l ++ ([40] ++ [116, 101, 114, 109])) := hA.1
  have hne4 : some (w.heap.size + 1) ≠ v4.ownBlock := by
    rcases hA.2.2.1 with e | ⟨g, e, hg⟩
    · rw [e]; exact hne
    · rw [e]; intro h; cases h; have := HSZ.out; omega
  have hb4 : base ≤ w4.heap.size := Nat.le_trans (Nat.le_trans hb hbW.size) hA.2.1.size
  have HP := Lib.hid ((ht.on (hbW.mono hb)).add hA ho2 (Nat.le_trans hb hbW.size))
  obtain ⟨l4, hl4⟩ : ∃ l4, l4 = l ++ ([40] ++ [116, 101, 114, 109]) := ⟨_, rfl⟩
  have H4 := Lib.hid (show Byt w4 base v4 l4 by rw [hl4]; exact h4)
  have H1 := Lib.hid (show 1 ≤ l4.length by rw [hl4]; simp)
  obtain ⟨L, hL⟩ : ∃ L : List (List UInt8), L = [num field, [32], quoteL text, num weight] := ⟨_, rfl⟩
  have M0 := Lib.hid (show L[0]? = some (num field) by rw [hL]; rfl)
  have M1 := Lib.hid (show L[1]? = some ([32]) by rw [hL]; rfl)
  have M2 := Lib.hid (show L[2]? = some (quoteL text) by rw [hL]; rfl)
  have M3 := Lib.hid (show L[3]? = some (num weight) by rw [hL]; rfl)
  have HE := Lib.hid (show preL L 4 = bodyL ⟨4, field, text, terms, offs, n, weight, lo, hi, occur⟩ by rw [hL]; simp [preL, bodyL])
  have HL4 := Lib.hid (show l4.length + L.flatten.length ≤ 17592186044416 by
    have e : L.flatten = bodyL ⟨4, field, text, terms, offs, n, weight, lo, hi, occur⟩ := by rw [hL]; simp [bodyL]
    rw [e, hl4]; have := HB.out; have := HL.out; simp; omega)
  have HEl := Lib.hid hl4
  have HA := Lib.hid hA
  have hlt4 : w.heap.size + 1 < w4.heap.size := by have := hA.2.1.size; have := HSZ.out; omega
  have qcell : ∀ {wx : World} (hx : w4.grownBy wx v4.ownBlock) (j : Nat) (u : Value) (_ : (qcells ⟨4, field, text, terms, offs, n, weight, lo, hi, occur⟩ 0 A1 A2 A3 A4 c1 c2 c3 c4)[j]? = some u), wx.cell? ⟨w.heap.size + 1, j, none⟩ = some u := fun hx j u hu => ((KQ.grown hx hne4).cell j).trans hu
  clear ho2 ho3 hsr ha3 ha4 hA h4 hl4 k9 q0 hown hL ht
  refine RelC.wp_region_relc 12 (fun wx => w4.grownBy wx v4.ownBlock) (fun wa wb => Below wa.heap.size wa wb) (fun wa wb => wa.heap.size ≤ wb.heap.size ∧ Heads 1 wa wb) [3, 5, 8, 11] (fun i x wx => AddB base w4 v4 l4 (preL L i) x wx) v4 (by kernel_rfl) (by kernel_rfl) (by kernel_rfl) (by simp) (by kernel_rfl) ⟨rfl, rfl, rfl, Nat.le_refl _, fun _ _ _ => rfl⟩ ((AddB.refl H4.out).post (bdrew (Below.refl _ _))) (fun _ _ _ _ hle h => h.post hle) ?_
  simp only [List.take_succ_cons, List.take_zero, List.drop_succ_cons, List.drop_zero]
  apply RelC.relc_one 1 [] rfl (by kernel_rfl) (by kernel_rfl) (by rfl)
  case hs =>
    intro vv wx hx hf
    clear hf
    try simp only [Relb.putD, Act.put, Base.s1, Base.s2, Base.s3]
    intro KK hK
    go_simp
    exact hK _ _ hx (Below.refl _ _) rfl
  apply RelC.relc_one 2 [] rfl (by kernel_rfl) (by kernel_rfl) (by rfl)
  case hs =>
    intro vv wx hx hf
    clear hf
    try simp only [Relb.putD, Act.put, Base.s1, Base.s2, Base.s3]
    intro KK hK
    go_simp
    exact hK _ _ hx (Below.refl _ _) rfl
  apply RelC.relc_one 3 [(1, 44)] rfl (by kernel_rfl) (by kernel_rfl) (by rfl)
  case hs =>
    intro vv wx hx hf
    have e44 : vv 1 = _ := hf 1 (by simp)
    clear hf
    have q1 := qcell hx 1 (.int .i64 field) rfl
    have q2 := qcell hx 2 (.string text) rfl
    have q6 := qcell hx 6 (.int .u64 weight) rfl
    try simp only [Relb.putD, e44, Act.put, Base.s1, Base.s2, Base.s3]
    intro KK hK
    go_simp
    exact hK _ _ hx (Below.refl _ _) rfl
  apply RelC.relc_chain 0 4 [(0, 43), (2, 45)] rfl (by kernel_rfl) (by kernel_rfl) (by rfl)
  case hs =>
    intro vv wx hx hf hg
    have e43 : vv 0 = _ := hf 0 (by simp)
    have e45 : vv 2 = _ := hf 2 (by simp)
    clear hf
    have q1 := qcell hx 1 (.int .i64 field) rfl
    have q2 := qcell hx 2 (.string text) rfl
    have q6 := qcell hx 6 (.int .u64 weight) rfl
    try simp only [Relb.putD, e43, e45, Act.put, Base.s1, Base.s2, Base.s3]
    intro KK hK
    go_simp
    go_at_call 80
    refine (number_int field F0.out F1.out hg.1 (Nat.le_trans hb4 hx.size) (preL_le HL4.out (by decide)) (HP.out.add hg H4.out hb4)).mono ?_
    rintro e w' ⟨v', rfl, had⟩
    obtain ⟨n1, n2, n3⟩ := chain_next (i := 0) M0.out hg had H1.out
    exact hK _ _ n1 n2 n3
  apply RelC.relc_kind 5 [] (One 32) rfl (by kernel_rfl) (by kernel_rfl) (by rfl) (fun _ _ _ hle h => One.stays hle h)
  case hs =>
    intro vv wx hx hf
    clear hf
    try simp only [Relb.putD, Act.put, Base.s1, Base.s2, Base.s3]
    intro KK hK
    go_simp
    exact hK _ _ (gb_post hx (Below.alloc (Below.refl _ _) (Nat.le_refl _) _)) (Below.alloc (Below.refl _ _) (Nat.le_refl _) _) (one_new wx 32 _ rfl)
  apply RelC.relc_chain 1 6 [(3, 46), (4, 47)] rfl (by kernel_rfl) (by kernel_rfl) (by rfl)
  case hs =>
    intro vv wx hx hf hg
    obtain ⟨g47, e47, h47, c47⟩ := hf 4 (by simp)
    replace e47 : vv 4 = _ := e47
    clear hf
    have q1 := qcell hx 1 (.int .i64 field) rfl
    have q2 := qcell hx 2 (.string text) rfl
    have q6 := qcell hx 6 (.int .u64 weight) rfl
    try simp only [Relb.putD, e47, Act.put, Base.s1, Base.s2, Base.s3]
    intro KK hK
    rw [if_pos (by rfl)]
    refine wp_addB _ _ (by rfl) (by rfl) hg.1 (by rfl) (src_one c47) (by decide) (Nat.le_trans hb4 hx.size) (preL_add HL4.out (by decide)) ?_
    intro v' w' had
    obtain ⟨n1, n2, n3⟩ := chain_next (i := 1) M1.out hg had H1.out
    exact hK _ _ n1 n2 n3
  apply RelC.relc_one 7 [] rfl (by kernel_rfl) (by kernel_rfl) (by rfl)
  case hs =>
    intro vv wx hx hf
    clear hf
    try simp only [Relb.putD, Act.put, Base.s1, Base.s2, Base.s3]
    intro KK hK
    go_simp
    exact hK _ _ hx (Below.refl _ _) rfl
  apply RelC.relc_one 8 [(6, 49)] rfl (by kernel_rfl) (by kernel_rfl) (by rfl)
  case hs =>
    intro vv wx hx hf
    have e49 : vv 6 = _ := hf 6 (by simp)
    clear hf
    have q1 := qcell hx 1 (.int .i64 field) rfl
    have q2 := qcell hx 2 (.string text) rfl
    have q6 := qcell hx 6 (.int .u64 weight) rfl
    try simp only [Relb.putD, e49, Act.put, Base.s1, Base.s2, Base.s3]
    intro KK hK
    go_simp
    exact hK _ _ hx (Below.refl _ _) rfl
  apply RelC.relc_chain 2 9 [(5, 48), (7, 50)] rfl (by kernel_rfl) (by kernel_rfl) (by rfl)
  case hs =>
    intro vv wx hx hf hg
    have e50 : vv 7 = _ := hf 7 (by simp)
    clear hf
    have q1 := qcell hx 1 (.int .i64 field) rfl
    have q2 := qcell hx 2 (.string text) rfl
    have q6 := qcell hx 6 (.int .u64 weight) rfl
    try simp only [Relb.putD, e50, Act.put, Base.s1, Base.s2, Base.s3]
    intro KK hK
    go_simp
    go_at_call 82
    refine (quoted_any text hg.1 (Nat.le_trans hb4 hx.size) (preL_add HL4.out (by have := SZ.out; omega))).mono ?_
    rintro e w' ⟨v', rfl, had⟩
    obtain ⟨n1, n2, n3⟩ := chain_next (i := 2) M2.out hg had H1.out
    exact hK _ _ n1 n2 n3
  apply RelC.relc_one 10 [] rfl (by kernel_rfl) (by kernel_rfl) (by rfl)
  case hs =>
    intro vv wx hx hf
    clear hf
    try simp only [Relb.putD, Act.put, Base.s1, Base.s2, Base.s3]
    intro KK hK
    go_simp
    exact hK _ _ hx (Below.refl _ _) rfl
  apply RelC.relc_one 11 [(9, 52)] rfl (by kernel_rfl) (by kernel_rfl) (by rfl)
  case hs =>
    intro vv wx hx hf
    have e52 : vv 9 = _ := hf 9 (by simp)
    clear hf
    have q1 := qcell hx 1 (.int .i64 field) rfl
    have q2 := qcell hx 2 (.string text) rfl
    have q6 := qcell hx 6 (.int .u64 weight) rfl
    try simp only [Relb.putD, e52, Act.put, Base.s1, Base.s2, Base.s3]
    intro KK hK
    go_simp
    exact hK _ _ hx (Below.refl _ _) rfl
  apply RelC.relc_chain 3 12 [(8, 51), (10, 53)] rfl (by kernel_rfl) (by kernel_rfl) (by rfl)
  case hs =>
    intro vv wx hx hf hg
    have e53 : vv 10 = _ := hf 10 (by simp)
    clear hf
    have q1 := qcell hx 1 (.int .i64 field) rfl
    have q2 := qcell hx 2 (.string text) rfl
    have q6 := qcell hx 6 (.int .u64 weight) rfl
    try simp only [Relb.putD, e53, Act.put, Base.s1, Base.s2, Base.s3]
    intro KK hK
    go_simp
    go_at_call 81
    refine (weight_int weight W0.out W1.out hg.1 (Nat.le_trans hb4 hx.size) (preL_le HL4.out (by decide)) (HP.out.add hg H4.out hb4)).mono ?_
    rintro e w' ⟨v', rfl, had⟩
    obtain ⟨n1, n2, n3⟩ := chain_next (i := 3) M3.out hg had H1.out
    exact hK _ _ n1 n2 n3
  refine RelC.relc_end [(0, 43), (1, 44), (2, 45), (3, 46), (4, 47), (5, 48), (6, 49), (7, 50), (8, 51), (9, 52), (10, 53), (11, 54)] (by kernel_rfl) (by kernel_rfl) ?_
  intro vv wx hx hf hg
  have e43 : vv 0 = _ := hf 0 (by decide)
  have e44 : vv 1 = _ := hf 1 (by decide)
  have e45 : vv 2 = _ := hf 2 (by decide)
  obtain ⟨g47, e47, h47, c47⟩ := hf 4 (by decide)
  replace e47 : vv 4 = _ := e47
  have e49 : vv 6 = _ := hf 6 (by decide)
  have e50 : vv 7 = _ := hf 7 (by decide)
  have e52 : vv 9 = _ := hf 9 (by decide)
  have e53 : vv 10 = _ := hf 10 (by decide)
  clear hf
  simp only [Relb.putD, e43, e44, e45, e47, e49, e50, e52, e53, Act.put, Base.s1, Base.s2, Base.s3]
  have hg' : AddB base w4 v4 l4 (preL L 4) (vv 11) wx := hg
  clear hg
  generalize vv 11 = v9 at hg' ⊢
  have q14 := qcell hx 14 (.slice A4 0 c4) rfl
  have q0' := qcell hx 0 (.int .i64 4) rfl
  have hl9 : (l4 ++ preL L 4).length ≤ 17592186044416 := preL_le HL4.out (Nat.le_refl _)
  have ho9 := hg'.1.below (Below.alloc (Below.refl wx.heap.size wx) (Nat.le_refl _) (.cells #[.int .u8 41] 5))
  have hsr9 := src_blk (Blk.new wx 5 #[.int .u8 41]) [41] rfl
  have HG := Lib.hid hg'
  have hb9 : base ≤ wx.heap.size := Nat.le_trans hb4 hx.size
  clear hg'
  go_wp2_with fail
  refine wp_loop_rounds 1 ?_
  rw [rounds_succ]
  go_wp2_with (at_builtin; refine wpList_addB rfl _ _ rfl rfl ho9 rfl hsr9 (by decide) (by simp; omega) (by rw [show [(41 : UInt8)].length = 1 from rfl]; omega) ?_; intro v10 w10 ha10)
  go_ret
  refine ⟨_, rfl, ?_⟩
  have h1 := HG.out.trans (ha10.pre (Below.alloc (Below.refl wx.heap.size wx) (Nat.le_refl _) _))
  rw [HEl.out, HE.out] at h1
  have h2 := (HA.out.trans h1).pre hbW
  have e : lineL (.mk ⟨4, field, text, terms, offs, n, weight, lo, hi, occur⟩ []) = [40] ++ [116, 101, 114, 109] ++ (bodyL ⟨4, field, text, terms, offs, n, weight, lo, hi, occur⟩ ++ [41]) := by simp [lineL, kidsL, hasOf]
  rw [e]
  exact h2

set_option maxHeartbeats 4000000 in
theorem line_k6 (hd : Head) (hk : hd.kind = 6) (hw : Hwf hd) (hg : locB 16 false hd 0 = true) (A1 A2 A3 A4 : Option Addr) (c1 c2 c3 c4 : Nat) (v : Value) (l : List UInt8) (base : Nat) (w : World) (hown : Byt w base v l) (hb : base ≤ w.heap.size) (ht : Pow base w) (hbk : hbulk hd ≤ 1099511627776) (hl : l.length + 128 * hbulk hd ≤ 8796093022208) :
    Calls Tryz.prog 46 #[v, .agg kindsA, .agg (qcells hd 0 A1 A2 A3 A4 c1 c2 c3 c4)] w (Adds base w v l (lineL (.mk hd []))) := by
  obtain ⟨hk1, hk2, ok⟩ := ok_of hg
  have hwt := wt_head hw (nk := 0)
  have hbl := body_len (by decide) hg hwt
  have hF := i64_of hw.field
  have hN := i64_of hw.n
  have hW := u64_of hw.weight
  obtain ⟨z1, z2, z3⟩ := bulk_parts hd
  rw [hk] at ok
  obtain ⟨kind, field, text, terms, offs, n, weight, lo, hi, occur⟩ := hd
  simp only at hk hF hN hW z1 z2 z3
  subst hk
  have okn := ok.n0
  simp only at okn
  have k9 : kindsA[69]? = some (.string ⟨#[112, 114, 101, 102, 105, 120]⟩) := by kernel_rfl
  generalize kindsA = K at *
  obtain ⟨W2, hW2⟩ : ∃ W, W = (w.alloc (.cells K 86)).alloc (.cells (qcells ⟨6, field, text, terms, offs, n, weight, lo, hi, occur⟩ 0 A1 A2 A3 A4 c1 c2 c3 c4) 29) := ⟨_, rfl⟩
  have K1 : Blk W2 (w.heap.size + 1) 29 (qcells ⟨6, field, text, terms, offs, n, weight, lo, hi, occur⟩ 0 A1 A2 A3 A4 c1 c2 c3 c4) := by
    rw [hW2]
    have := Blk.new (w.alloc (.cells K 86)) 29 (qcells ⟨6, field, text, terms, offs, n, weight, lo, hi, occur⟩ 0 A1 A2 A3 A4 c1 c2 c3 c4)
    rwa [World.size_alloc] at this
  have hsz : w.heap.size + 1 + 1 = W2.heap.size := by rw [hW2]; simp
  have hbW : Below w.heap.size w W2 := by rw [hW2]; (repeat (first | exact Below.refl _ _ | assumption | refine balloc ?_ _ | refine bdrew ?_ | refine bdrewN ?_ _ | refine bchain ?_ (by assumption)))
  have ho2 : Byt W2 base v l := hown.below hbW
  have hne : some (w.heap.size + 1) ≠ v.ownBlock := own_lt hown _ (Nat.le_succ _)
  have ho3 := ho2.below (Below.alloc (Below.refl W2.heap.size W2) (Nat.le_refl _) (.cells #[.int .u8 40] 5))
  have hsr := src_blk (Blk.new W2 5 #[.int .u8 40]) [40] rfl
  rw [← hsz] at hsr
  have HW := Lib.hid hW2
  have HSZ := Lib.hid hsz
  have F0 := Lib.hid (f0_of ok)
  have F1 := Lib.hid hF.2
  have N0 := Lib.hid okn
  have N1 := Lib.hid hN.2
  have W0 := Lib.hid hW.1
  have W1 := Lib.hid hW.2
  have SZ := Lib.hid (Nat.le_trans z1 hbk)
  have SL := Lib.hid (Nat.le_trans z2 hbk)
  have SH := Lib.hid (Nat.le_trans z3 hbk)
  have BK := Lib.hid hbk
  have HB := Lib.hid hbl
  have HL := Lib.hid hl
  unfold qcells at hW2 ⊢
  rw [hW2] at ho3 hsr
  clear hW2 hsz hF hN hW z1 z2 z3 hbk hbl hl okn ok hk1 hk2 hg hwt hw
  go_enter Tryz.func46, Tryz.ntmps46
  go_upto_region 20 with (first | (at_builtin; refine wpList_addB rfl _ _ rfl rfl ho3 rfl hsr (by decide) (by simp; omega) (by have := HL.out; simp; omega) ?_; intro v3 w3 ha3) | (at_builtin; refine wpList_addB rfl _ _ rfl rfl ha3.1 rfl (src_str [112, 114, 101, 102, 105, 120]) (by decide) (by have := ha3.2.1.size; simp at this; omega) (by have := HL.out; simp; omega) ?_; intro v4 w4 ha4; have hA := (ha3.trans ha4).pre (by rw [HW.out]; exact Below.alloc (Below.refl _ _) (Nat.le_refl _) _ : Below W2.heap.size W2 _); have KQ := K1.grown hA.2.1 hne; have q0 : w4.cell? ⟨w.heap.size + 1, 0, none⟩ = some (.int .i64 6) := KQ.cell 0))
  have h4 : Byt w4 base v4 (l ++ ([40] ++ [112, 114, 101, 102, 105, 120])) := hA.1
  have hne4 : some (w.heap.size + 1) ≠ v4.ownBlock := by
    rcases hA.2.2.1 with e | ⟨g, e, hg⟩
    · rw [e]; exact hne
    · rw [e]; intro h; cases h; have := HSZ.out; omega
  have hb4 : base ≤ w4.heap.size := Nat.le_trans (Nat.le_trans hb hbW.size) hA.2.1.size
  have HP := Lib.hid ((ht.on (hbW.mono hb)).add hA ho2 (Nat.le_trans hb hbW.size))
  obtain ⟨l4, hl4⟩ : ∃ l4, l4 = l ++ ([40] ++ [112, 114, 101, 102, 105, 120]) := ⟨_, rfl⟩
  have H4 := Lib.hid (show Byt w4 base v4 l4 by rw [hl4]; exact h4)
  have H1 := Lib.hid (show 1 ≤ l4.length by rw [hl4]; simp)
  obtain ⟨L, hL⟩ : ∃ L : List (List UInt8), L = [num field, [32], quoteL text] := ⟨_, rfl⟩
  have M0 := Lib.hid (show L[0]? = some (num field) by rw [hL]; rfl)
  have M1 := Lib.hid (show L[1]? = some ([32]) by rw [hL]; rfl)
  have M2 := Lib.hid (show L[2]? = some (quoteL text) by rw [hL]; rfl)
  have HE := Lib.hid (show preL L 3 = bodyL ⟨6, field, text, terms, offs, n, weight, lo, hi, occur⟩ by rw [hL]; simp [preL, bodyL])
  have HL4 := Lib.hid (show l4.length + L.flatten.length ≤ 17592186044416 by
    have e : L.flatten = bodyL ⟨6, field, text, terms, offs, n, weight, lo, hi, occur⟩ := by rw [hL]; simp [bodyL]
    rw [e, hl4]; have := HB.out; have := HL.out; simp; omega)
  have HEl := Lib.hid hl4
  have HA := Lib.hid hA
  have hlt4 : w.heap.size + 1 < w4.heap.size := by have := hA.2.1.size; have := HSZ.out; omega
  have qcell : ∀ {wx : World} (hx : w4.grownBy wx v4.ownBlock) (j : Nat) (u : Value) (_ : (qcells ⟨6, field, text, terms, offs, n, weight, lo, hi, occur⟩ 0 A1 A2 A3 A4 c1 c2 c3 c4)[j]? = some u), wx.cell? ⟨w.heap.size + 1, j, none⟩ = some u := fun hx j u hu => ((KQ.grown hx hne4).cell j).trans hu
  clear ho2 ho3 hsr ha3 ha4 hA h4 hl4 k9 q0 hown hL ht
  refine RelC.wp_region_relc 9 (fun wx => w4.grownBy wx v4.ownBlock) (fun wa wb => Below wa.heap.size wa wb) (fun wa wb => wa.heap.size ≤ wb.heap.size ∧ Heads 1 wa wb) [3, 5, 8] (fun i x wx => AddB base w4 v4 l4 (preL L i) x wx) v4 (by kernel_rfl) (by kernel_rfl) (by kernel_rfl) (by simp) (by kernel_rfl) ⟨rfl, rfl, rfl, Nat.le_refl _, fun _ _ _ => rfl⟩ ((AddB.refl H4.out).post (bdrew (Below.refl _ _))) (fun _ _ _ _ hle h => h.post hle) ?_
  simp only [List.take_succ_cons, List.take_zero, List.drop_succ_cons, List.drop_zero]
  apply RelC.relc_one 1 [] rfl (by kernel_rfl) (by kernel_rfl) (by rfl)
  case hs =>
    intro vv wx hx hf
    clear hf
    try simp only [Relb.putD, Act.put, Base.s1, Base.s2, Base.s3]
    intro KK hK
    go_simp
    exact hK _ _ hx (Below.refl _ _) rfl
  apply RelC.relc_one 2 [] rfl (by kernel_rfl) (by kernel_rfl) (by rfl)
  case hs =>
    intro vv wx hx hf
    clear hf
    try simp only [Relb.putD, Act.put, Base.s1, Base.s2, Base.s3]
    intro KK hK
    go_simp
    exact hK _ _ hx (Below.refl _ _) rfl
  apply RelC.relc_one 3 [(1, 94)] rfl (by kernel_rfl) (by kernel_rfl) (by rfl)
  case hs =>
    intro vv wx hx hf
    have e94 : vv 1 = _ := hf 1 (by simp)
    clear hf
    have q1 := qcell hx 1 (.int .i64 field) rfl
    have q2 := qcell hx 2 (.string text) rfl
    try simp only [Relb.putD, e94, Act.put, Base.s1, Base.s2, Base.s3]
    intro KK hK
    go_simp
    exact hK _ _ hx (Below.refl _ _) rfl
  apply RelC.relc_chain 0 4 [(0, 93), (2, 95)] rfl (by kernel_rfl) (by kernel_rfl) (by rfl)
  case hs =>
    intro vv wx hx hf hg
    have e93 : vv 0 = _ := hf 0 (by simp)
    have e95 : vv 2 = _ := hf 2 (by simp)
    clear hf
    have q1 := qcell hx 1 (.int .i64 field) rfl
    have q2 := qcell hx 2 (.string text) rfl
    try simp only [Relb.putD, e93, e95, Act.put, Base.s1, Base.s2, Base.s3]
    intro KK hK
    go_simp
    go_at_call 80
    refine (number_int field F0.out F1.out hg.1 (Nat.le_trans hb4 hx.size) (preL_le HL4.out (by decide)) (HP.out.add hg H4.out hb4)).mono ?_
    rintro e w' ⟨v', rfl, had⟩
    obtain ⟨n1, n2, n3⟩ := chain_next (i := 0) M0.out hg had H1.out
    exact hK _ _ n1 n2 n3
  apply RelC.relc_kind 5 [] (One 32) rfl (by kernel_rfl) (by kernel_rfl) (by rfl) (fun _ _ _ hle h => One.stays hle h)
  case hs =>
    intro vv wx hx hf
    clear hf
    try simp only [Relb.putD, Act.put, Base.s1, Base.s2, Base.s3]
    intro KK hK
    go_simp
    exact hK _ _ (gb_post hx (Below.alloc (Below.refl _ _) (Nat.le_refl _) _)) (Below.alloc (Below.refl _ _) (Nat.le_refl _) _) (one_new wx 32 _ rfl)
  apply RelC.relc_chain 1 6 [(3, 96), (4, 97)] rfl (by kernel_rfl) (by kernel_rfl) (by rfl)
  case hs =>
    intro vv wx hx hf hg
    obtain ⟨g97, e97, h97, c97⟩ := hf 4 (by simp)
    replace e97 : vv 4 = _ := e97
    clear hf
    have q1 := qcell hx 1 (.int .i64 field) rfl
    have q2 := qcell hx 2 (.string text) rfl
    try simp only [Relb.putD, e97, Act.put, Base.s1, Base.s2, Base.s3]
    intro KK hK
    rw [if_pos (by rfl)]
    refine wp_addB _ _ (by rfl) (by rfl) hg.1 (by rfl) (src_one c97) (by decide) (Nat.le_trans hb4 hx.size) (preL_add HL4.out (by decide)) ?_
    intro v' w' had
    obtain ⟨n1, n2, n3⟩ := chain_next (i := 1) M1.out hg had H1.out
    exact hK _ _ n1 n2 n3
  apply RelC.relc_one 7 [] rfl (by kernel_rfl) (by kernel_rfl) (by rfl)
  case hs =>
    intro vv wx hx hf
    clear hf
    try simp only [Relb.putD, Act.put, Base.s1, Base.s2, Base.s3]
    intro KK hK
    go_simp
    exact hK _ _ hx (Below.refl _ _) rfl
  apply RelC.relc_one 8 [(6, 99)] rfl (by kernel_rfl) (by kernel_rfl) (by rfl)
  case hs =>
    intro vv wx hx hf
    have e99 : vv 6 = _ := hf 6 (by simp)
    clear hf
    have q1 := qcell hx 1 (.int .i64 field) rfl
    have q2 := qcell hx 2 (.string text) rfl
    try simp only [Relb.putD, e99, Act.put, Base.s1, Base.s2, Base.s3]
    intro KK hK
    go_simp
    exact hK _ _ hx (Below.refl _ _) rfl
  apply RelC.relc_chain 2 9 [(5, 98), (7, 100)] rfl (by kernel_rfl) (by kernel_rfl) (by rfl)
  case hs =>
    intro vv wx hx hf hg
    have e100 : vv 7 = _ := hf 7 (by simp)
    clear hf
    have q1 := qcell hx 1 (.int .i64 field) rfl
    have q2 := qcell hx 2 (.string text) rfl
    try simp only [Relb.putD, e100, Act.put, Base.s1, Base.s2, Base.s3]
    intro KK hK
    go_simp
    go_at_call 82
    refine (quoted_any text hg.1 (Nat.le_trans hb4 hx.size) (preL_add HL4.out (by have := SZ.out; omega))).mono ?_
    rintro e w' ⟨v', rfl, had⟩
    obtain ⟨n1, n2, n3⟩ := chain_next (i := 2) M2.out hg had H1.out
    exact hK _ _ n1 n2 n3
  refine RelC.relc_end [(0, 93), (1, 94), (2, 95), (3, 96), (4, 97), (5, 98), (6, 99), (7, 100), (8, 101)] (by kernel_rfl) (by kernel_rfl) ?_
  intro vv wx hx hf hg
  have e93 : vv 0 = _ := hf 0 (by decide)
  have e94 : vv 1 = _ := hf 1 (by decide)
  have e95 : vv 2 = _ := hf 2 (by decide)
  obtain ⟨g97, e97, h97, c97⟩ := hf 4 (by decide)
  replace e97 : vv 4 = _ := e97
  have e99 : vv 6 = _ := hf 6 (by decide)
  have e100 : vv 7 = _ := hf 7 (by decide)
  clear hf
  simp only [Relb.putD, e93, e94, e95, e97, e99, e100, Act.put, Base.s1, Base.s2, Base.s3]
  have hg' : AddB base w4 v4 l4 (preL L 3) (vv 8) wx := hg
  clear hg
  generalize vv 8 = v9 at hg' ⊢
  have q14 := qcell hx 14 (.slice A4 0 c4) rfl
  have q0' := qcell hx 0 (.int .i64 6) rfl
  have hl9 : (l4 ++ preL L 3).length ≤ 17592186044416 := preL_le HL4.out (Nat.le_refl _)
  have ho9 := hg'.1.below (Below.alloc (Below.refl wx.heap.size wx) (Nat.le_refl _) (.cells #[.int .u8 41] 5))
  have hsr9 := src_blk (Blk.new wx 5 #[.int .u8 41]) [41] rfl
  have HG := Lib.hid hg'
  have hb9 : base ≤ wx.heap.size := Nat.le_trans hb4 hx.size
  clear hg'
  go_wp2_with fail
  refine wp_loop_rounds 1 ?_
  rw [rounds_succ]
  go_wp2_with (at_builtin; refine wpList_addB rfl _ _ rfl rfl ho9 rfl hsr9 (by decide) (by simp; omega) (by rw [show [(41 : UInt8)].length = 1 from rfl]; omega) ?_; intro v10 w10 ha10)
  go_ret
  refine ⟨_, rfl, ?_⟩
  have h1 := HG.out.trans (ha10.pre (Below.alloc (Below.refl wx.heap.size wx) (Nat.le_refl _) _))
  rw [HEl.out, HE.out] at h1
  have h2 := (HA.out.trans h1).pre hbW
  have e : lineL (.mk ⟨6, field, text, terms, offs, n, weight, lo, hi, occur⟩ []) = [40] ++ [112, 114, 101, 102, 105, 120] ++ (bodyL ⟨6, field, text, terms, offs, n, weight, lo, hi, occur⟩ ++ [41]) := by simp [lineL, kidsL, hasOf]
  rw [e]
  exact h2

set_option maxHeartbeats 4000000 in
theorem line_k7 (hd : Head) (hk : hd.kind = 7) (hw : Hwf hd) (hg : locB 16 false hd 0 = true) (A1 A2 A3 A4 : Option Addr) (c1 c2 c3 c4 : Nat) (v : Value) (l : List UInt8) (base : Nat) (w : World) (hown : Byt w base v l) (hb : base ≤ w.heap.size) (ht : Pow base w) (hbk : hbulk hd ≤ 1099511627776) (hl : l.length + 128 * hbulk hd ≤ 8796093022208) :
    Calls Tryz.prog 46 #[v, .agg kindsA, .agg (qcells hd 0 A1 A2 A3 A4 c1 c2 c3 c4)] w (Adds base w v l (lineL (.mk hd []))) := by
  obtain ⟨hk1, hk2, ok⟩ := ok_of hg
  have hwt := wt_head hw (nk := 0)
  have hbl := body_len (by decide) hg hwt
  have hF := i64_of hw.field
  have hN := i64_of hw.n
  have hW := u64_of hw.weight
  obtain ⟨z1, z2, z3⟩ := bulk_parts hd
  rw [hk] at ok
  obtain ⟨kind, field, text, terms, offs, n, weight, lo, hi, occur⟩ := hd
  simp only at hk hF hN hW z1 z2 z3
  subst hk
  have okn := ok.n0
  simp only at okn
  have k9 : kindsA[79]? = some (.string ⟨#[119, 105, 108, 100]⟩) := by kernel_rfl
  generalize kindsA = K at *
  obtain ⟨W2, hW2⟩ : ∃ W, W = (w.alloc (.cells K 86)).alloc (.cells (qcells ⟨7, field, text, terms, offs, n, weight, lo, hi, occur⟩ 0 A1 A2 A3 A4 c1 c2 c3 c4) 29) := ⟨_, rfl⟩
  have K1 : Blk W2 (w.heap.size + 1) 29 (qcells ⟨7, field, text, terms, offs, n, weight, lo, hi, occur⟩ 0 A1 A2 A3 A4 c1 c2 c3 c4) := by
    rw [hW2]
    have := Blk.new (w.alloc (.cells K 86)) 29 (qcells ⟨7, field, text, terms, offs, n, weight, lo, hi, occur⟩ 0 A1 A2 A3 A4 c1 c2 c3 c4)
    rwa [World.size_alloc] at this
  have hsz : w.heap.size + 1 + 1 = W2.heap.size := by rw [hW2]; simp
  have hbW : Below w.heap.size w W2 := by rw [hW2]; (repeat (first | exact Below.refl _ _ | assumption | refine balloc ?_ _ | refine bdrew ?_ | refine bdrewN ?_ _ | refine bchain ?_ (by assumption)))
  have ho2 : Byt W2 base v l := hown.below hbW
  have hne : some (w.heap.size + 1) ≠ v.ownBlock := own_lt hown _ (Nat.le_succ _)
  have ho3 := ho2.below (Below.alloc (Below.refl W2.heap.size W2) (Nat.le_refl _) (.cells #[.int .u8 40] 5))
  have hsr := src_blk (Blk.new W2 5 #[.int .u8 40]) [40] rfl
  rw [← hsz] at hsr
  have HW := Lib.hid hW2
  have HSZ := Lib.hid hsz
  have F0 := Lib.hid (f0_of ok)
  have F1 := Lib.hid hF.2
  have N0 := Lib.hid okn
  have N1 := Lib.hid hN.2
  have W0 := Lib.hid hW.1
  have W1 := Lib.hid hW.2
  have SZ := Lib.hid (Nat.le_trans z1 hbk)
  have SL := Lib.hid (Nat.le_trans z2 hbk)
  have SH := Lib.hid (Nat.le_trans z3 hbk)
  have BK := Lib.hid hbk
  have HB := Lib.hid hbl
  have HL := Lib.hid hl
  unfold qcells at hW2 ⊢
  rw [hW2] at ho3 hsr
  clear hW2 hsz hF hN hW z1 z2 z3 hbk hbl hl okn ok hk1 hk2 hg hwt hw
  go_enter Tryz.func46, Tryz.ntmps46
  go_upto_region 20 with (first | (at_builtin; refine wpList_addB rfl _ _ rfl rfl ho3 rfl hsr (by decide) (by simp; omega) (by have := HL.out; simp; omega) ?_; intro v3 w3 ha3) | (at_builtin; refine wpList_addB rfl _ _ rfl rfl ha3.1 rfl (src_str [119, 105, 108, 100]) (by decide) (by have := ha3.2.1.size; simp at this; omega) (by have := HL.out; simp; omega) ?_; intro v4 w4 ha4; have hA := (ha3.trans ha4).pre (by rw [HW.out]; exact Below.alloc (Below.refl _ _) (Nat.le_refl _) _ : Below W2.heap.size W2 _); have KQ := K1.grown hA.2.1 hne; have q0 : w4.cell? ⟨w.heap.size + 1, 0, none⟩ = some (.int .i64 7) := KQ.cell 0))
  have h4 : Byt w4 base v4 (l ++ ([40] ++ [119, 105, 108, 100])) := hA.1
  have hne4 : some (w.heap.size + 1) ≠ v4.ownBlock := by
    rcases hA.2.2.1 with e | ⟨g, e, hg⟩
    · rw [e]; exact hne
    · rw [e]; intro h; cases h; have := HSZ.out; omega
  have hb4 : base ≤ w4.heap.size := Nat.le_trans (Nat.le_trans hb hbW.size) hA.2.1.size
  have HP := Lib.hid ((ht.on (hbW.mono hb)).add hA ho2 (Nat.le_trans hb hbW.size))
  obtain ⟨l4, hl4⟩ : ∃ l4, l4 = l ++ ([40] ++ [119, 105, 108, 100]) := ⟨_, rfl⟩
  have H4 := Lib.hid (show Byt w4 base v4 l4 by rw [hl4]; exact h4)
  have H1 := Lib.hid (show 1 ≤ l4.length by rw [hl4]; simp)
  obtain ⟨L, hL⟩ : ∃ L : List (List UInt8), L = [num field, [32], quoteL text] := ⟨_, rfl⟩
  have M0 := Lib.hid (show L[0]? = some (num field) by rw [hL]; rfl)
  have M1 := Lib.hid (show L[1]? = some ([32]) by rw [hL]; rfl)
  have M2 := Lib.hid (show L[2]? = some (quoteL text) by rw [hL]; rfl)
  have HE := Lib.hid (show preL L 3 = bodyL ⟨7, field, text, terms, offs, n, weight, lo, hi, occur⟩ by rw [hL]; simp [preL, bodyL])
  have HL4 := Lib.hid (show l4.length + L.flatten.length ≤ 17592186044416 by
    have e : L.flatten = bodyL ⟨7, field, text, terms, offs, n, weight, lo, hi, occur⟩ := by rw [hL]; simp [bodyL]
    rw [e, hl4]; have := HB.out; have := HL.out; simp; omega)
  have HEl := Lib.hid hl4
  have HA := Lib.hid hA
  have hlt4 : w.heap.size + 1 < w4.heap.size := by have := hA.2.1.size; have := HSZ.out; omega
  have qcell : ∀ {wx : World} (hx : w4.grownBy wx v4.ownBlock) (j : Nat) (u : Value) (_ : (qcells ⟨7, field, text, terms, offs, n, weight, lo, hi, occur⟩ 0 A1 A2 A3 A4 c1 c2 c3 c4)[j]? = some u), wx.cell? ⟨w.heap.size + 1, j, none⟩ = some u := fun hx j u hu => ((KQ.grown hx hne4).cell j).trans hu
  clear ho2 ho3 hsr ha3 ha4 hA h4 hl4 k9 q0 hown hL ht
  refine RelC.wp_region_relc 9 (fun wx => w4.grownBy wx v4.ownBlock) (fun wa wb => Below wa.heap.size wa wb) (fun wa wb => wa.heap.size ≤ wb.heap.size ∧ Heads 1 wa wb) [3, 5, 8] (fun i x wx => AddB base w4 v4 l4 (preL L i) x wx) v4 (by kernel_rfl) (by kernel_rfl) (by kernel_rfl) (by simp) (by kernel_rfl) ⟨rfl, rfl, rfl, Nat.le_refl _, fun _ _ _ => rfl⟩ ((AddB.refl H4.out).post (bdrew (Below.refl _ _))) (fun _ _ _ _ hle h => h.post hle) ?_
  simp only [List.take_succ_cons, List.take_zero, List.drop_succ_cons, List.drop_zero]
  apply RelC.relc_one 1 [] rfl (by kernel_rfl) (by kernel_rfl) (by rfl)
  case hs =>
    intro vv wx hx hf
    clear hf
    try simp only [Relb.putD, Act.put, Base.s1, Base.s2, Base.s3]
    intro KK hK
    go_simp
    exact hK _ _ hx (Below.refl _ _) rfl
  apply RelC.relc_one 2 [] rfl (by kernel_rfl) (by kernel_rfl) (by rfl)
  case hs =>
    intro vv wx hx hf
    clear hf
    try simp only [Relb.putD, Act.put, Base.s1, Base.s2, Base.s3]
    intro KK hK
    go_simp
    exact hK _ _ hx (Below.refl _ _) rfl
  apply RelC.relc_one 3 [(1, 94)] rfl (by kernel_rfl) (by kernel_rfl) (by rfl)
  case hs =>
    intro vv wx hx hf
    have e94 : vv 1 = _ := hf 1 (by simp)
    clear hf
    have q1 := qcell hx 1 (.int .i64 field) rfl
    have q2 := qcell hx 2 (.string text) rfl
    try simp only [Relb.putD, e94, Act.put, Base.s1, Base.s2, Base.s3]
    intro KK hK
    go_simp
    exact hK _ _ hx (Below.refl _ _) rfl
  apply RelC.relc_chain 0 4 [(0, 93), (2, 95)] rfl (by kernel_rfl) (by kernel_rfl) (by rfl)
  case hs =>
    intro vv wx hx hf hg
    have e93 : vv 0 = _ := hf 0 (by simp)
    have e95 : vv 2 = _ := hf 2 (by simp)
    clear hf
    have q1 := qcell hx 1 (.int .i64 field) rfl
    have q2 := qcell hx 2 (.string text) rfl
    try simp only [Relb.putD, e93, e95, Act.put, Base.s1, Base.s2, Base.s3]
    intro KK hK
    go_simp
    go_at_call 80
    refine (number_int field F0.out F1.out hg.1 (Nat.le_trans hb4 hx.size) (preL_le HL4.out (by decide)) (HP.out.add hg H4.out hb4)).mono ?_
    rintro e w' ⟨v', rfl, had⟩
    obtain ⟨n1, n2, n3⟩ := chain_next (i := 0) M0.out hg had H1.out
    exact hK _ _ n1 n2 n3
  apply RelC.relc_kind 5 [] (One 32) rfl (by kernel_rfl) (by kernel_rfl) (by rfl) (fun _ _ _ hle h => One.stays hle h)
  case hs =>
    intro vv wx hx hf
    clear hf
    try simp only [Relb.putD, Act.put, Base.s1, Base.s2, Base.s3]
    intro KK hK
    go_simp
    exact hK _ _ (gb_post hx (Below.alloc (Below.refl _ _) (Nat.le_refl _) _)) (Below.alloc (Below.refl _ _) (Nat.le_refl _) _) (one_new wx 32 _ rfl)
  apply RelC.relc_chain 1 6 [(3, 96), (4, 97)] rfl (by kernel_rfl) (by kernel_rfl) (by rfl)
  case hs =>
    intro vv wx hx hf hg
    obtain ⟨g97, e97, h97, c97⟩ := hf 4 (by simp)
    replace e97 : vv 4 = _ := e97
    clear hf
    have q1 := qcell hx 1 (.int .i64 field) rfl
    have q2 := qcell hx 2 (.string text) rfl
    try simp only [Relb.putD, e97, Act.put, Base.s1, Base.s2, Base.s3]
    intro KK hK
    rw [if_pos (by rfl)]
    refine wp_addB _ _ (by rfl) (by rfl) hg.1 (by rfl) (src_one c97) (by decide) (Nat.le_trans hb4 hx.size) (preL_add HL4.out (by decide)) ?_
    intro v' w' had
    obtain ⟨n1, n2, n3⟩ := chain_next (i := 1) M1.out hg had H1.out
    exact hK _ _ n1 n2 n3
  apply RelC.relc_one 7 [] rfl (by kernel_rfl) (by kernel_rfl) (by rfl)
  case hs =>
    intro vv wx hx hf
    clear hf
    try simp only [Relb.putD, Act.put, Base.s1, Base.s2, Base.s3]
    intro KK hK
    go_simp
    exact hK _ _ hx (Below.refl _ _) rfl
  apply RelC.relc_one 8 [(6, 99)] rfl (by kernel_rfl) (by kernel_rfl) (by rfl)
  case hs =>
    intro vv wx hx hf
    have e99 : vv 6 = _ := hf 6 (by simp)
    clear hf
    have q1 := qcell hx 1 (.int .i64 field) rfl
    have q2 := qcell hx 2 (.string text) rfl
    try simp only [Relb.putD, e99, Act.put, Base.s1, Base.s2, Base.s3]
    intro KK hK
    go_simp
    exact hK _ _ hx (Below.refl _ _) rfl
  apply RelC.relc_chain 2 9 [(5, 98), (7, 100)] rfl (by kernel_rfl) (by kernel_rfl) (by rfl)
  case hs =>
    intro vv wx hx hf hg
    have e100 : vv 7 = _ := hf 7 (by simp)
    clear hf
    have q1 := qcell hx 1 (.int .i64 field) rfl
    have q2 := qcell hx 2 (.string text) rfl
    try simp only [Relb.putD, e100, Act.put, Base.s1, Base.s2, Base.s3]
    intro KK hK
    go_simp
    go_at_call 82
    refine (quoted_any text hg.1 (Nat.le_trans hb4 hx.size) (preL_add HL4.out (by have := SZ.out; omega))).mono ?_
    rintro e w' ⟨v', rfl, had⟩
    obtain ⟨n1, n2, n3⟩ := chain_next (i := 2) M2.out hg had H1.out
    exact hK _ _ n1 n2 n3
  refine RelC.relc_end [(0, 93), (1, 94), (2, 95), (3, 96), (4, 97), (5, 98), (6, 99), (7, 100), (8, 101)] (by kernel_rfl) (by kernel_rfl) ?_
  intro vv wx hx hf hg
  have e93 : vv 0 = _ := hf 0 (by decide)
  have e94 : vv 1 = _ := hf 1 (by decide)
  have e95 : vv 2 = _ := hf 2 (by decide)
  obtain ⟨g97, e97, h97, c97⟩ := hf 4 (by decide)
  replace e97 : vv 4 = _ := e97
  have e99 : vv 6 = _ := hf 6 (by decide)
  have e100 : vv 7 = _ := hf 7 (by decide)
  clear hf
  simp only [Relb.putD, e93, e94, e95, e97, e99, e100, Act.put, Base.s1, Base.s2, Base.s3]
  have hg' : AddB base w4 v4 l4 (preL L 3) (vv 8) wx := hg
  clear hg
  generalize vv 8 = v9 at hg' ⊢
  have q14 := qcell hx 14 (.slice A4 0 c4) rfl
  have q0' := qcell hx 0 (.int .i64 7) rfl
  have hl9 : (l4 ++ preL L 3).length ≤ 17592186044416 := preL_le HL4.out (Nat.le_refl _)
  have ho9 := hg'.1.below (Below.alloc (Below.refl wx.heap.size wx) (Nat.le_refl _) (.cells #[.int .u8 41] 5))
  have hsr9 := src_blk (Blk.new wx 5 #[.int .u8 41]) [41] rfl
  have HG := Lib.hid hg'
  have hb9 : base ≤ wx.heap.size := Nat.le_trans hb4 hx.size
  clear hg'
  go_wp2_with fail
  refine wp_loop_rounds 1 ?_
  rw [rounds_succ]
  go_wp2_with (at_builtin; refine wpList_addB rfl _ _ rfl rfl ho9 rfl hsr9 (by decide) (by simp; omega) (by rw [show [(41 : UInt8)].length = 1 from rfl]; omega) ?_; intro v10 w10 ha10)
  go_ret
  refine ⟨_, rfl, ?_⟩
  have h1 := HG.out.trans (ha10.pre (Below.alloc (Below.refl wx.heap.size wx) (Nat.le_refl _) _))
  rw [HEl.out, HE.out] at h1
  have h2 := (HA.out.trans h1).pre hbW
  have e : lineL (.mk ⟨7, field, text, terms, offs, n, weight, lo, hi, occur⟩ []) = [40] ++ [119, 105, 108, 100] ++ (bodyL ⟨7, field, text, terms, offs, n, weight, lo, hi, occur⟩ ++ [41]) := by simp [lineL, kidsL, hasOf]
  rw [e]
  exact h2

set_option maxHeartbeats 4000000 in
theorem line_k8 (hd : Head) (hk : hd.kind = 8) (hw : Hwf hd) (hg : locB 16 false hd 0 = true) (A1 A2 A3 A4 : Option Addr) (c1 c2 c3 c4 : Nat) (v : Value) (l : List UInt8) (base : Nat) (w : World) (hown : Byt w base v l) (hb : base ≤ w.heap.size) (ht : Pow base w) (hbk : hbulk hd ≤ 1099511627776) (hl : l.length + 128 * hbulk hd ≤ 8796093022208) :
    Calls Tryz.prog 46 #[v, .agg kindsA, .agg (qcells hd 0 A1 A2 A3 A4 c1 c2 c3 c4)] w (Adds base w v l (lineL (.mk hd []))) := by
  obtain ⟨hk1, hk2, ok⟩ := ok_of hg
  have hwt := wt_head hw (nk := 0)
  have hbl := body_len (by decide) hg hwt
  have hF := i64_of hw.field
  have hN := i64_of hw.n
  have hW := u64_of hw.weight
  obtain ⟨z1, z2, z3⟩ := bulk_parts hd
  rw [hk] at ok
  obtain ⟨kind, field, text, terms, offs, n, weight, lo, hi, occur⟩ := hd
  simp only at hk hF hN hW z1 z2 z3
  subst hk
  have okn := ok.n0
  simp only at okn
  have k9 : kindsA[89]? = some (.string ⟨#[102, 117, 122, 122, 121]⟩) := by kernel_rfl
  generalize kindsA = K at *
  obtain ⟨W2, hW2⟩ : ∃ W, W = (w.alloc (.cells K 86)).alloc (.cells (qcells ⟨8, field, text, terms, offs, n, weight, lo, hi, occur⟩ 0 A1 A2 A3 A4 c1 c2 c3 c4) 29) := ⟨_, rfl⟩
  have K1 : Blk W2 (w.heap.size + 1) 29 (qcells ⟨8, field, text, terms, offs, n, weight, lo, hi, occur⟩ 0 A1 A2 A3 A4 c1 c2 c3 c4) := by
    rw [hW2]
    have := Blk.new (w.alloc (.cells K 86)) 29 (qcells ⟨8, field, text, terms, offs, n, weight, lo, hi, occur⟩ 0 A1 A2 A3 A4 c1 c2 c3 c4)
    rwa [World.size_alloc] at this
  have hsz : w.heap.size + 1 + 1 = W2.heap.size := by rw [hW2]; simp
  have hbW : Below w.heap.size w W2 := by rw [hW2]; (repeat (first | exact Below.refl _ _ | assumption | refine balloc ?_ _ | refine bdrew ?_ | refine bdrewN ?_ _ | refine bchain ?_ (by assumption)))
  have ho2 : Byt W2 base v l := hown.below hbW
  have hne : some (w.heap.size + 1) ≠ v.ownBlock := own_lt hown _ (Nat.le_succ _)
  have ho3 := ho2.below (Below.alloc (Below.refl W2.heap.size W2) (Nat.le_refl _) (.cells #[.int .u8 40] 5))
  have hsr := src_blk (Blk.new W2 5 #[.int .u8 40]) [40] rfl
  rw [← hsz] at hsr
  have HW := Lib.hid hW2
  have HSZ := Lib.hid hsz
  have F0 := Lib.hid (f0_of ok)
  have F1 := Lib.hid hF.2
  have N0 := Lib.hid okn
  have N1 := Lib.hid hN.2
  have W0 := Lib.hid hW.1
  have W1 := Lib.hid hW.2
  have SZ := Lib.hid (Nat.le_trans z1 hbk)
  have SL := Lib.hid (Nat.le_trans z2 hbk)
  have SH := Lib.hid (Nat.le_trans z3 hbk)
  have BK := Lib.hid hbk
  have HB := Lib.hid hbl
  have HL := Lib.hid hl
  unfold qcells at hW2 ⊢
  rw [hW2] at ho3 hsr
  clear hW2 hsz hF hN hW z1 z2 z3 hbk hbl hl okn ok hk1 hk2 hg hwt hw
  go_enter Tryz.func46, Tryz.ntmps46
  go_upto_region 22 with (first | (at_builtin; refine wpList_addB rfl _ _ rfl rfl ho3 rfl hsr (by decide) (by simp; omega) (by have := HL.out; simp; omega) ?_; intro v3 w3 ha3) | (at_builtin; refine wpList_addB rfl _ _ rfl rfl ha3.1 rfl (src_str [102, 117, 122, 122, 121]) (by decide) (by have := ha3.2.1.size; simp at this; omega) (by have := HL.out; simp; omega) ?_; intro v4 w4 ha4; have hA := (ha3.trans ha4).pre (by rw [HW.out]; exact Below.alloc (Below.refl _ _) (Nat.le_refl _) _ : Below W2.heap.size W2 _); have KQ := K1.grown hA.2.1 hne; have q0 : w4.cell? ⟨w.heap.size + 1, 0, none⟩ = some (.int .i64 8) := KQ.cell 0))
  have h4 : Byt w4 base v4 (l ++ ([40] ++ [102, 117, 122, 122, 121])) := hA.1
  have hne4 : some (w.heap.size + 1) ≠ v4.ownBlock := by
    rcases hA.2.2.1 with e | ⟨g, e, hg⟩
    · rw [e]; exact hne
    · rw [e]; intro h; cases h; have := HSZ.out; omega
  have hb4 : base ≤ w4.heap.size := Nat.le_trans (Nat.le_trans hb hbW.size) hA.2.1.size
  have HP := Lib.hid ((ht.on (hbW.mono hb)).add hA ho2 (Nat.le_trans hb hbW.size))
  obtain ⟨l4, hl4⟩ : ∃ l4, l4 = l ++ ([40] ++ [102, 117, 122, 122, 121]) := ⟨_, rfl⟩
  have H4 := Lib.hid (show Byt w4 base v4 l4 by rw [hl4]; exact h4)
  have H1 := Lib.hid (show 1 ≤ l4.length by rw [hl4]; simp)
  obtain ⟨L, hL⟩ : ∃ L : List (List UInt8), L = [num field, num n, [32], quoteL text] := ⟨_, rfl⟩
  have M0 := Lib.hid (show L[0]? = some (num field) by rw [hL]; rfl)
  have M1 := Lib.hid (show L[1]? = some (num n) by rw [hL]; rfl)
  have M2 := Lib.hid (show L[2]? = some ([32]) by rw [hL]; rfl)
  have M3 := Lib.hid (show L[3]? = some (quoteL text) by rw [hL]; rfl)
  have HE := Lib.hid (show preL L 4 = bodyL ⟨8, field, text, terms, offs, n, weight, lo, hi, occur⟩ by rw [hL]; simp [preL, bodyL])
  have HL4 := Lib.hid (show l4.length + L.flatten.length ≤ 17592186044416 by
    have e : L.flatten = bodyL ⟨8, field, text, terms, offs, n, weight, lo, hi, occur⟩ := by rw [hL]; simp [bodyL]
    rw [e, hl4]; have := HB.out; have := HL.out; simp; omega)
  have HEl := Lib.hid hl4
  have HA := Lib.hid hA
  have hlt4 : w.heap.size + 1 < w4.heap.size := by have := hA.2.1.size; have := HSZ.out; omega
  have qcell : ∀ {wx : World} (hx : w4.grownBy wx v4.ownBlock) (j : Nat) (u : Value) (_ : (qcells ⟨8, field, text, terms, offs, n, weight, lo, hi, occur⟩ 0 A1 A2 A3 A4 c1 c2 c3 c4)[j]? = some u), wx.cell? ⟨w.heap.size + 1, j, none⟩ = some u := fun hx j u hu => ((KQ.grown hx hne4).cell j).trans hu
  clear ho2 ho3 hsr ha3 ha4 hA h4 hl4 k9 q0 hown hL ht
  refine RelC.wp_region_relc 12 (fun wx => w4.grownBy wx v4.ownBlock) (fun wa wb => Below wa.heap.size wa wb) (fun wa wb => wa.heap.size ≤ wb.heap.size ∧ Heads 1 wa wb) [3, 6, 8, 11] (fun i x wx => AddB base w4 v4 l4 (preL L i) x wx) v4 (by kernel_rfl) (by kernel_rfl) (by kernel_rfl) (by simp) (by kernel_rfl) ⟨rfl, rfl, rfl, Nat.le_refl _, fun _ _ _ => rfl⟩ ((AddB.refl H4.out).post (bdrew (Below.refl _ _))) (fun _ _ _ _ hle h => h.post hle) ?_
  simp only [List.take_succ_cons, List.take_zero, List.drop_succ_cons, List.drop_zero]
  apply RelC.relc_one 1 [] rfl (by kernel_rfl) (by kernel_rfl) (by rfl)
  case hs =>
    intro vv wx hx hf
    clear hf
    try simp only [Relb.putD, Act.put, Base.s1, Base.s2, Base.s3]
    intro KK hK
    go_simp
    exact hK _ _ hx (Below.refl _ _) rfl
  apply RelC.relc_one 2 [] rfl (by kernel_rfl) (by kernel_rfl) (by rfl)
  case hs =>
    intro vv wx hx hf
    clear hf
    try simp only [Relb.putD, Act.put, Base.s1, Base.s2, Base.s3]
    intro KK hK
    go_simp
    exact hK _ _ hx (Below.refl _ _) rfl
  apply RelC.relc_one 3 [(1, 105)] rfl (by kernel_rfl) (by kernel_rfl) (by rfl)
  case hs =>
    intro vv wx hx hf
    have e105 : vv 1 = _ := hf 1 (by simp)
    clear hf
    have q1 := qcell hx 1 (.int .i64 field) rfl
    have q2 := qcell hx 2 (.string text) rfl
    have q5 := qcell hx 5 (.int .i64 n) rfl
    try simp only [Relb.putD, e105, Act.put, Base.s1, Base.s2, Base.s3]
    intro KK hK
    go_simp
    exact hK _ _ hx (Below.refl _ _) rfl
  apply RelC.relc_chain 0 4 [(0, 104), (2, 106)] rfl (by kernel_rfl) (by kernel_rfl) (by rfl)
  case hs =>
    intro vv wx hx hf hg
    have e104 : vv 0 = _ := hf 0 (by simp)
    have e106 : vv 2 = _ := hf 2 (by simp)
    clear hf
    have q1 := qcell hx 1 (.int .i64 field) rfl
    have q2 := qcell hx 2 (.string text) rfl
    have q5 := qcell hx 5 (.int .i64 n) rfl
    try simp only [Relb.putD, e104, e106, Act.put, Base.s1, Base.s2, Base.s3]
    intro KK hK
    go_simp
    go_at_call 80
    refine (number_int field F0.out F1.out hg.1 (Nat.le_trans hb4 hx.size) (preL_le HL4.out (by decide)) (HP.out.add hg H4.out hb4)).mono ?_
    rintro e w' ⟨v', rfl, had⟩
    obtain ⟨n1, n2, n3⟩ := chain_next (i := 0) M0.out hg had H1.out
    exact hK _ _ n1 n2 n3
  apply RelC.relc_one 5 [] rfl (by kernel_rfl) (by kernel_rfl) (by rfl)
  case hs =>
    intro vv wx hx hf
    clear hf
    try simp only [Relb.putD, Act.put, Base.s1, Base.s2, Base.s3]
    intro KK hK
    go_simp
    exact hK _ _ hx (Below.refl _ _) rfl
  apply RelC.relc_one 6 [(4, 108)] rfl (by kernel_rfl) (by kernel_rfl) (by rfl)
  case hs =>
    intro vv wx hx hf
    have e108 : vv 4 = _ := hf 4 (by simp)
    clear hf
    have q1 := qcell hx 1 (.int .i64 field) rfl
    have q2 := qcell hx 2 (.string text) rfl
    have q5 := qcell hx 5 (.int .i64 n) rfl
    try simp only [Relb.putD, e108, Act.put, Base.s1, Base.s2, Base.s3]
    intro KK hK
    go_simp
    exact hK _ _ hx (Below.refl _ _) rfl
  apply RelC.relc_chain 1 7 [(3, 107), (5, 109)] rfl (by kernel_rfl) (by kernel_rfl) (by rfl)
  case hs =>
    intro vv wx hx hf hg
    have e109 : vv 5 = _ := hf 5 (by simp)
    clear hf
    have q1 := qcell hx 1 (.int .i64 field) rfl
    have q2 := qcell hx 2 (.string text) rfl
    have q5 := qcell hx 5 (.int .i64 n) rfl
    try simp only [Relb.putD, e109, Act.put, Base.s1, Base.s2, Base.s3]
    intro KK hK
    go_simp
    go_at_call 80
    refine (number_int n N0.out N1.out hg.1 (Nat.le_trans hb4 hx.size) (preL_le HL4.out (by decide)) (HP.out.add hg H4.out hb4)).mono ?_
    rintro e w' ⟨v', rfl, had⟩
    obtain ⟨n1, n2, n3⟩ := chain_next (i := 1) M1.out hg had H1.out
    exact hK _ _ n1 n2 n3
  apply RelC.relc_kind 8 [] (One 32) rfl (by kernel_rfl) (by kernel_rfl) (by rfl) (fun _ _ _ hle h => One.stays hle h)
  case hs =>
    intro vv wx hx hf
    clear hf
    try simp only [Relb.putD, Act.put, Base.s1, Base.s2, Base.s3]
    intro KK hK
    go_simp
    exact hK _ _ (gb_post hx (Below.alloc (Below.refl _ _) (Nat.le_refl _) _)) (Below.alloc (Below.refl _ _) (Nat.le_refl _) _) (one_new wx 32 _ rfl)
  apply RelC.relc_chain 2 9 [(6, 110), (7, 111)] rfl (by kernel_rfl) (by kernel_rfl) (by rfl)
  case hs =>
    intro vv wx hx hf hg
    obtain ⟨g111, e111, h111, c111⟩ := hf 7 (by simp)
    replace e111 : vv 7 = _ := e111
    clear hf
    have q1 := qcell hx 1 (.int .i64 field) rfl
    have q2 := qcell hx 2 (.string text) rfl
    have q5 := qcell hx 5 (.int .i64 n) rfl
    try simp only [Relb.putD, e111, Act.put, Base.s1, Base.s2, Base.s3]
    intro KK hK
    rw [if_pos (by rfl)]
    refine wp_addB _ _ (by rfl) (by rfl) hg.1 (by rfl) (src_one c111) (by decide) (Nat.le_trans hb4 hx.size) (preL_add HL4.out (by decide)) ?_
    intro v' w' had
    obtain ⟨n1, n2, n3⟩ := chain_next (i := 2) M2.out hg had H1.out
    exact hK _ _ n1 n2 n3
  apply RelC.relc_one 10 [] rfl (by kernel_rfl) (by kernel_rfl) (by rfl)
  case hs =>
    intro vv wx hx hf
    clear hf
    try simp only [Relb.putD, Act.put, Base.s1, Base.s2, Base.s3]
    intro KK hK
    go_simp
    exact hK _ _ hx (Below.refl _ _) rfl
  apply RelC.relc_one 11 [(9, 113)] rfl (by kernel_rfl) (by kernel_rfl) (by rfl)
  case hs =>
    intro vv wx hx hf
    have e113 : vv 9 = _ := hf 9 (by simp)
    clear hf
    have q1 := qcell hx 1 (.int .i64 field) rfl
    have q2 := qcell hx 2 (.string text) rfl
    have q5 := qcell hx 5 (.int .i64 n) rfl
    try simp only [Relb.putD, e113, Act.put, Base.s1, Base.s2, Base.s3]
    intro KK hK
    go_simp
    exact hK _ _ hx (Below.refl _ _) rfl
  apply RelC.relc_chain 3 12 [(8, 112), (10, 114)] rfl (by kernel_rfl) (by kernel_rfl) (by rfl)
  case hs =>
    intro vv wx hx hf hg
    have e114 : vv 10 = _ := hf 10 (by simp)
    clear hf
    have q1 := qcell hx 1 (.int .i64 field) rfl
    have q2 := qcell hx 2 (.string text) rfl
    have q5 := qcell hx 5 (.int .i64 n) rfl
    try simp only [Relb.putD, e114, Act.put, Base.s1, Base.s2, Base.s3]
    intro KK hK
    go_simp
    go_at_call 82
    refine (quoted_any text hg.1 (Nat.le_trans hb4 hx.size) (preL_add HL4.out (by have := SZ.out; omega))).mono ?_
    rintro e w' ⟨v', rfl, had⟩
    obtain ⟨n1, n2, n3⟩ := chain_next (i := 3) M3.out hg had H1.out
    exact hK _ _ n1 n2 n3
  refine RelC.relc_end [(0, 104), (1, 105), (2, 106), (3, 107), (4, 108), (5, 109), (6, 110), (7, 111), (8, 112), (9, 113), (10, 114), (11, 115)] (by kernel_rfl) (by kernel_rfl) ?_
  intro vv wx hx hf hg
  have e104 : vv 0 = _ := hf 0 (by decide)
  have e105 : vv 1 = _ := hf 1 (by decide)
  have e106 : vv 2 = _ := hf 2 (by decide)
  have e108 : vv 4 = _ := hf 4 (by decide)
  have e109 : vv 5 = _ := hf 5 (by decide)
  obtain ⟨g111, e111, h111, c111⟩ := hf 7 (by decide)
  replace e111 : vv 7 = _ := e111
  have e113 : vv 9 = _ := hf 9 (by decide)
  have e114 : vv 10 = _ := hf 10 (by decide)
  clear hf
  simp only [Relb.putD, e104, e105, e106, e108, e109, e111, e113, e114, Act.put, Base.s1, Base.s2, Base.s3]
  have hg' : AddB base w4 v4 l4 (preL L 4) (vv 11) wx := hg
  clear hg
  generalize vv 11 = v9 at hg' ⊢
  have q14 := qcell hx 14 (.slice A4 0 c4) rfl
  have q0' := qcell hx 0 (.int .i64 8) rfl
  have hl9 : (l4 ++ preL L 4).length ≤ 17592186044416 := preL_le HL4.out (Nat.le_refl _)
  have ho9 := hg'.1.below (Below.alloc (Below.refl wx.heap.size wx) (Nat.le_refl _) (.cells #[.int .u8 41] 5))
  have hsr9 := src_blk (Blk.new wx 5 #[.int .u8 41]) [41] rfl
  have HG := Lib.hid hg'
  have hb9 : base ≤ wx.heap.size := Nat.le_trans hb4 hx.size
  clear hg'
  go_wp2_with fail
  refine wp_loop_rounds 1 ?_
  rw [rounds_succ]
  go_wp2_with (at_builtin; refine wpList_addB rfl _ _ rfl rfl ho9 rfl hsr9 (by decide) (by simp; omega) (by rw [show [(41 : UInt8)].length = 1 from rfl]; omega) ?_; intro v10 w10 ha10)
  go_ret
  refine ⟨_, rfl, ?_⟩
  have h1 := HG.out.trans (ha10.pre (Below.alloc (Below.refl wx.heap.size wx) (Nat.le_refl _) _))
  rw [HEl.out, HE.out] at h1
  have h2 := (HA.out.trans h1).pre hbW
  have e : lineL (.mk ⟨8, field, text, terms, offs, n, weight, lo, hi, occur⟩ []) = [40] ++ [102, 117, 122, 122, 121] ++ (bodyL ⟨8, field, text, terms, offs, n, weight, lo, hi, occur⟩ ++ [41]) := by simp [lineL, kidsL, hasOf]
  rw [e]
  exact h2

end Go.Proofs.YtkcfgcdlnojaeaaGreatDoor.LineLeaf

namespace Go.Proofs.YtkcfgcdlnojaeaaGreatDoor.LinePhrase
set_option maxRecDepth 100000
open Go.RowKit Go.PlainAid Base Query QrySize BindBase Bytes Digits Quoted QuoteAll NumAll Rel Relb RelbT RelC TextPlain TextLine TextOne LineBase EndWalk LineLeaf

theorem sum_mem {l : List ByteArray} {t : ByteArray} (h : t ∈ l) : t.size ≤ (l.map fun t => t.size + 1).sum := by
  induction l with
  | nil => cases h
  | cons x r ih =>
    simp only [List.map_cons, List.sum_cons]
    rcases List.mem_cons.1 h with rfl | h
    · omega
    · have := ih h; omega
theorem sum_take (l : List ByteArray) (k : Nat) : ((l.take k).map fun t => t.size + 1).sum ≤ (l.map fun t => t.size + 1).sum := by
  have e : l.map (fun t => t.size + 1) = (l.take k).map (fun t => t.size + 1) ++ (l.drop k).map (fun t => t.size + 1) := by rw [← List.map_append, List.take_append_drop]
  rw [e, List.sum_append]
  omega

set_option maxHeartbeats 4000000 in
theorem line_k5 (hd : Head) (hk : hd.kind = 5) (hw : Hwf hd) (hg : locB 16 false hd 0 = true) (A1 A2 A3 A4 : Option Addr) (c1 c2 c3 c4 : Nat) (v : Value) (l : List UInt8) (base : Nat) (w : World) (hown : Byt w base v l) (hb : base ≤ w.heap.size) (ht : Pow base w) (B : Nat) (hB : B ≤ base) (s1 : Slc w B A1 (strs hd.terms)) (s2 : Slc w B A2 (ints hd.offs)) (hbk : hbulk hd ≤ 1099511627776) (hl : l.length + 128 * hbulk hd ≤ 8796093022208) :
    Calls Tryz.prog 46 #[v, .agg kindsA, .agg (qcells hd 0 A1 A2 A3 A4 c1 c2 c3 c4)] w (Adds base w v l (lineL (.mk hd []))) := by
  obtain ⟨hk1, hk2, ok⟩ := ok_of hg
  have hwt := wt_head hw (nk := 0)
  have hbl := body_len (by decide) hg hwt
  have hF := i64_of hw.field
  have hN := i64_of hw.n
  have hW := u64_of hw.weight
  obtain ⟨z1, z2, z3⟩ := bulk_parts hd
  rw [hk] at ok
  obtain ⟨kind, field, text, terms, offs, n, weight, lo, hi, occur⟩ := hd
  simp only at hk hF hN hW z1 z2 z3
  subst hk
  have okn := ok.n0
  have hlen := ok.s0
  have hoff0 := ok.s2
  have hoff1 : ∀ o ∈ offs, o < 9223372036854775808 := fun o ho => (i64_of (hw.offs o ho)).2
  have hnt : terms.length ≤ 9223372036854775807 := hw.nterms
  have hts : ∀ t ∈ terms, t.size ≤ 1099511627776 := fun t ht => by
    have h1 := sum_mem ht
    have h2 : (terms.map fun t => t.size + 1).sum ≤ hbulk ⟨5, field, text, terms, offs, n, weight, lo, hi, occur⟩ := by unfold hbulk; simp only; omega
    omega
  have htl : ∀ j, j ≤ terms.length → (termsL terms offs j).length ≤ 24 * hbulk ⟨5, field, text, terms, offs, n, weight, lo, hi, occur⟩ := fun j hj => by
    have h1 := terms_len terms offs (fun o ho => by have := hoff1 o ho; omega) j hj
    have h2 := sum_take terms j
    have h3 : (terms.map fun t => t.size + 1).sum ≤ hbulk ⟨5, field, text, terms, offs, n, weight, lo, hi, occur⟩ := by unfold hbulk; simp only; omega
    omega
  simp only at hlen hoff0 s1 s2
  simp only at okn
  have k9 : kindsA[59]? = some (.string ⟨#[112, 104, 114, 97, 115, 101]⟩) := by kernel_rfl
  generalize kindsA = K at *
  obtain ⟨W2, hW2⟩ : ∃ W, W = (w.alloc (.cells K 86)).alloc (.cells (qcells ⟨5, field, text, terms, offs, n, weight, lo, hi, occur⟩ 0 A1 A2 A3 A4 c1 c2 c3 c4) 29) := ⟨_, rfl⟩
  have K1 : Blk W2 (w.heap.size + 1) 29 (qcells ⟨5, field, text, terms, offs, n, weight, lo, hi, occur⟩ 0 A1 A2 A3 A4 c1 c2 c3 c4) := by
    rw [hW2]
    have := Blk.new (w.alloc (.cells K 86)) 29 (qcells ⟨5, field, text, terms, offs, n, weight, lo, hi, occur⟩ 0 A1 A2 A3 A4 c1 c2 c3 c4)
    rwa [World.size_alloc] at this
  have hsz : w.heap.size + 1 + 1 = W2.heap.size := by rw [hW2]; simp
  have hbW : Below w.heap.size w W2 := by rw [hW2]; (repeat (first | exact Below.refl _ _ | assumption | refine balloc ?_ _ | refine bdrew ?_ | refine bdrewN ?_ _ | refine bchain ?_ (by assumption)))
  have ho2 : Byt W2 base v l := hown.below hbW
  have hne : some (w.heap.size + 1) ≠ v.ownBlock := own_lt hown _ (Nat.le_succ _)
  have ho3 := ho2.below (Below.alloc (Below.refl W2.heap.size W2) (Nat.le_refl _) (.cells #[.int .u8 40] 5))
  have hsr := src_blk (Blk.new W2 5 #[.int .u8 40]) [40] rfl
  rw [← hsz] at hsr
  have HW := Lib.hid hW2
  have HSZ := Lib.hid hsz
  have F0 := Lib.hid (f0_of ok)
  have F1 := Lib.hid hF.2
  have N0 := Lib.hid okn
  have N1 := Lib.hid hN.2
  have W0 := Lib.hid hW.1
  have W1 := Lib.hid hW.2
  have SZ := Lib.hid (Nat.le_trans z1 hbk)
  have SL := Lib.hid (Nat.le_trans z2 hbk)
  have SH := Lib.hid (Nat.le_trans z3 hbk)
  have HLEN := Lib.hid hlen
  have HO0 := Lib.hid hoff0
  have HO1 := Lib.hid hoff1
  have HNT := Lib.hid hnt
  have HTS := Lib.hid hts
  have HTL := Lib.hid htl
  have S1 := Lib.hid s1
  have S2 := Lib.hid s2
  have BK := Lib.hid hbk
  have HB := Lib.hid hbl
  have HL := Lib.hid hl
  unfold qcells at hW2 ⊢
  rw [hW2] at ho3 hsr
  clear hlen hoff0 hoff1 hnt hts htl s1 s2
  clear hW2 hsz hF hN hW z1 z2 z3 hbk hbl hl okn ok hk1 hk2 hg hwt hw
  go_enter Tryz.func46, Tryz.ntmps46
  go_upto_region 11 with (first | (at_builtin; refine wpList_addB rfl _ _ rfl rfl ho3 rfl hsr (by decide) (by simp; omega) (by have := HL.out; simp; omega) ?_; intro v3 w3 ha3) | (at_builtin; refine wpList_addB rfl _ _ rfl rfl ha3.1 rfl (src_str [112, 104, 114, 97, 115, 101]) (by decide) (by have := ha3.2.1.size; simp at this; omega) (by have := HL.out; simp; omega) ?_; intro v4 w4 ha4; have hA := (ha3.trans ha4).pre (by rw [HW.out]; exact Below.alloc (Below.refl _ _) (Nat.le_refl _) _ : Below W2.heap.size W2 _); have KQ := K1.grown hA.2.1 hne; have q0 : w4.cell? ⟨w.heap.size + 1, 0, none⟩ = some (.int .i64 5) := KQ.cell 0))
  have h4 : Byt w4 base v4 (l ++ ([40] ++ [112, 104, 114, 97, 115, 101])) := hA.1
  have hne4 : some (w.heap.size + 1) ≠ v4.ownBlock := by
    rcases hA.2.2.1 with e | ⟨g, e, hg⟩
    · rw [e]; exact hne
    · rw [e]; intro h; cases h; have := HSZ.out; omega
  have hb4 : base ≤ w4.heap.size := Nat.le_trans (Nat.le_trans hb hbW.size) hA.2.1.size
  have HP := Lib.hid ((ht.on (hbW.mono hb)).add hA ho2 (Nat.le_trans hb hbW.size))
  obtain ⟨l4, hl4⟩ : ∃ l4, l4 = l ++ ([40] ++ [112, 104, 114, 97, 115, 101]) := ⟨_, rfl⟩
  have H4 := Lib.hid (show Byt w4 base v4 l4 by rw [hl4]; exact h4)
  have H1 := Lib.hid (show 1 ≤ l4.length by rw [hl4]; simp)
  obtain ⟨L, hL⟩ : ∃ L : List (List UInt8), L = [num field, num n, num weight] := ⟨_, rfl⟩
  have M0 := Lib.hid (show L[0]? = some (num field) by rw [hL]; rfl)
  have M1 := Lib.hid (show L[1]? = some (num n) by rw [hL]; rfl)
  have M2 := Lib.hid (show L[2]? = some (num weight) by rw [hL]; rfl)
  have HE := Lib.hid (show preL L 3 ++ termsL terms offs terms.length = bodyL ⟨5, field, text, terms, offs, n, weight, lo, hi, occur⟩ by rw [hL]; simp [preL, bodyL])
  have HL4 := Lib.hid (show l4.length + L.flatten.length ≤ 17592186044416 by
    have e : L.flatten ++ termsL terms offs terms.length = bodyL ⟨5, field, text, terms, offs, n, weight, lo, hi, occur⟩ := by rw [hL]; simp [bodyL]
    have e2 := congrArg List.length e
    rw [List.length_append] at e2
    rw [hl4]; have := HB.out; have := HL.out; simp only [List.length_append, List.length_cons, List.length_nil]; omega)
  have HT4 := Lib.hid (show ∀ j, j ≤ terms.length → l4.length + L.flatten.length + (termsL terms offs j).length ≤ 17592186044416 from fun j hj => by
    have e : L.flatten ++ termsL terms offs terms.length = bodyL ⟨5, field, text, terms, offs, n, weight, lo, hi, occur⟩ := by rw [hL]; simp [bodyL]
    have e2 := congrArg List.length e
    rw [List.length_append] at e2
    have := HTL.out j hj
    rw [hl4]; have := HB.out; have := HL.out; simp only [List.length_append, List.length_cons, List.length_nil]; omega)
  have HEl := Lib.hid hl4
  have HA := Lib.hid hA
  have hlt4 : w.heap.size + 1 < w4.heap.size := by have := hA.2.1.size; have := HSZ.out; omega
  have qcell : ∀ {wx : World} (hx : w4.grownBy wx v4.ownBlock) (j : Nat) (u : Value) (_ : (qcells ⟨5, field, text, terms, offs, n, weight, lo, hi, occur⟩ 0 A1 A2 A3 A4 c1 c2 c3 c4)[j]? = some u), wx.cell? ⟨w.heap.size + 1, j, none⟩ = some u := fun hx j u hu => ((KQ.grown hx hne4).cell j).trans hu
  have hbB : Below base w w4 := (hbW.mono hb).trans (NumAll.AddB.below hA ho2 (Nat.le_trans hb hbW.size))
  have HBB := Lib.hid hbB
  clear hbB
  clear ho2 ho3 hsr ha3 ha4 hA h4 hl4 k9 q0 hown hL ht
  refine RelC.wp_region_relc 10 (fun wx => w4.grownBy wx v4.ownBlock) (fun wa wb => Below wa.heap.size wa wb) (fun wa wb => wa.heap.size ≤ wb.heap.size ∧ Heads 1 wa wb) [3, 6, 9] (fun i x wx => AddB base w4 v4 l4 (preL L i) x wx) v4 (by kernel_rfl) (by kernel_rfl) (by kernel_rfl) (by simp) (by kernel_rfl) ⟨rfl, rfl, rfl, Nat.le_refl _, fun _ _ _ => rfl⟩ ((AddB.refl H4.out).post (bdrew (Below.refl _ _))) (fun _ _ _ _ hle h => h.post hle) ?_
  simp only [List.take_succ_cons, List.take_zero, List.drop_succ_cons, List.drop_zero]
  apply RelC.relc_one 1 [] rfl (by kernel_rfl) (by kernel_rfl) (by rfl)
  case hs =>
    intro vv wx hx hf
    clear hf
    try simp only [Relb.putD, Act.put, Base.s1, Base.s2, Base.s3]
    intro KK hK
    go_simp
    exact hK _ _ hx (Below.refl _ _) rfl
  apply RelC.relc_one 2 [] rfl (by kernel_rfl) (by kernel_rfl) (by rfl)
  case hs =>
    intro vv wx hx hf
    clear hf
    try simp only [Relb.putD, Act.put, Base.s1, Base.s2, Base.s3]
    intro KK hK
    go_simp
    exact hK _ _ hx (Below.refl _ _) rfl
  apply RelC.relc_one 3 [(1, 58)] rfl (by kernel_rfl) (by kernel_rfl) (by rfl)
  case hs =>
    intro vv wx hx hf
    have e58 : vv 1 = _ := hf 1 (by simp)
    clear hf
    have q1 := qcell hx 1 (.int .i64 field) rfl
    have q5 := qcell hx 5 (.int .i64 n) rfl
    have q6 := qcell hx 6 (.int .u64 weight) rfl
    try simp only [Relb.putD, e58, Act.put, Base.s1, Base.s2, Base.s3]
    intro KK hK
    go_simp
    exact hK _ _ hx (Below.refl _ _) rfl
  apply RelC.relc_chain 0 4 [(0, 57), (2, 59)] rfl (by kernel_rfl) (by kernel_rfl) (by rfl)
  case hs =>
    intro vv wx hx hf hg
    have e57 : vv 0 = _ := hf 0 (by simp)
    have e59 : vv 2 = _ := hf 2 (by simp)
    clear hf
    have q1 := qcell hx 1 (.int .i64 field) rfl
    have q5 := qcell hx 5 (.int .i64 n) rfl
    have q6 := qcell hx 6 (.int .u64 weight) rfl
    try simp only [Relb.putD, e57, e59, Act.put, Base.s1, Base.s2, Base.s3]
    intro KK hK
    go_simp
    go_at_call 80
    refine (number_int field F0.out F1.out hg.1 (Nat.le_trans hb4 hx.size) (preL_le HL4.out (by decide)) (HP.out.add hg H4.out hb4)).mono ?_
    rintro e w' ⟨v', rfl, had⟩
    obtain ⟨n1, n2, n3⟩ := chain_next (i := 0) M0.out hg had H1.out
    exact hK _ _ n1 n2 n3
  apply RelC.relc_one 5 [] rfl (by kernel_rfl) (by kernel_rfl) (by rfl)
  case hs =>
    intro vv wx hx hf
    clear hf
    try simp only [Relb.putD, Act.put, Base.s1, Base.s2, Base.s3]
    intro KK hK
    go_simp
    exact hK _ _ hx (Below.refl _ _) rfl
  apply RelC.relc_one 6 [(4, 61)] rfl (by kernel_rfl) (by kernel_rfl) (by rfl)
  case hs =>
    intro vv wx hx hf
    have e61 : vv 4 = _ := hf 4 (by simp)
    clear hf
    have q1 := qcell hx 1 (.int .i64 field) rfl
    have q5 := qcell hx 5 (.int .i64 n) rfl
    have q6 := qcell hx 6 (.int .u64 weight) rfl
    try simp only [Relb.putD, e61, Act.put, Base.s1, Base.s2, Base.s3]
    intro KK hK
    go_simp
    exact hK _ _ hx (Below.refl _ _) rfl
  apply RelC.relc_chain 1 7 [(3, 60), (5, 62)] rfl (by kernel_rfl) (by kernel_rfl) (by rfl)
  case hs =>
    intro vv wx hx hf hg
    have e62 : vv 5 = _ := hf 5 (by simp)
    clear hf
    have q1 := qcell hx 1 (.int .i64 field) rfl
    have q5 := qcell hx 5 (.int .i64 n) rfl
    have q6 := qcell hx 6 (.int .u64 weight) rfl
    try simp only [Relb.putD, e62, Act.put, Base.s1, Base.s2, Base.s3]
    intro KK hK
    go_simp
    go_at_call 80
    refine (number_int n N0.out N1.out hg.1 (Nat.le_trans hb4 hx.size) (preL_le HL4.out (by decide)) (HP.out.add hg H4.out hb4)).mono ?_
    rintro e w' ⟨v', rfl, had⟩
    obtain ⟨n1, n2, n3⟩ := chain_next (i := 1) M1.out hg had H1.out
    exact hK _ _ n1 n2 n3
  apply RelC.relc_one 8 [] rfl (by kernel_rfl) (by kernel_rfl) (by rfl)
  case hs =>
    intro vv wx hx hf
    clear hf
    try simp only [Relb.putD, Act.put, Base.s1, Base.s2, Base.s3]
    intro KK hK
    go_simp
    exact hK _ _ hx (Below.refl _ _) rfl
  apply RelC.relc_one 9 [(7, 64)] rfl (by kernel_rfl) (by kernel_rfl) (by rfl)
  case hs =>
    intro vv wx hx hf
    have e64 : vv 7 = _ := hf 7 (by simp)
    clear hf
    have q1 := qcell hx 1 (.int .i64 field) rfl
    have q5 := qcell hx 5 (.int .i64 n) rfl
    have q6 := qcell hx 6 (.int .u64 weight) rfl
    try simp only [Relb.putD, e64, Act.put, Base.s1, Base.s2, Base.s3]
    intro KK hK
    go_simp
    exact hK _ _ hx (Below.refl _ _) rfl
  apply RelC.relc_chain 2 10 [(6, 63), (8, 65)] rfl (by kernel_rfl) (by kernel_rfl) (by rfl)
  case hs =>
    intro vv wx hx hf hg
    have e65 : vv 8 = _ := hf 8 (by simp)
    clear hf
    have q1 := qcell hx 1 (.int .i64 field) rfl
    have q5 := qcell hx 5 (.int .i64 n) rfl
    have q6 := qcell hx 6 (.int .u64 weight) rfl
    try simp only [Relb.putD, e65, Act.put, Base.s1, Base.s2, Base.s3]
    intro KK hK
    go_simp
    go_at_call 81
    refine (weight_int weight W0.out W1.out hg.1 (Nat.le_trans hb4 hx.size) (preL_le HL4.out (by decide)) (HP.out.add hg H4.out hb4)).mono ?_
    rintro e w' ⟨v', rfl, had⟩
    obtain ⟨n1, n2, n3⟩ := chain_next (i := 2) M2.out hg had H1.out
    exact hK _ _ n1 n2 n3
  refine RelC.relc_end [(0, 57), (1, 58), (2, 59), (3, 60), (4, 61), (5, 62), (6, 63), (7, 64), (8, 65), (9, 66)] (by kernel_rfl) (by kernel_rfl) ?_
  intro vv wx hx hf hg
  have e57 : vv 0 = _ := hf 0 (by decide)
  have e58 : vv 1 = _ := hf 1 (by decide)
  have e59 : vv 2 = _ := hf 2 (by decide)
  have e61 : vv 4 = _ := hf 4 (by decide)
  have e62 : vv 5 = _ := hf 5 (by decide)
  have e64 : vv 7 = _ := hf 7 (by decide)
  have e65 : vv 8 = _ := hf 8 (by decide)
  clear hf
  simp only [Relb.putD, e57, e58, e59, e61, e62, e64, e65, Act.put, Base.s1, Base.s2, Base.s3]
  have hg5 : AddB base w4 v4 l4 (preL L 3) (vv 9) wx := hg
  clear hg
  generalize vv 9 = v5 at hg5 ⊢
  have q3 := qcell hx 3 (.slice A1 terms.length c1) rfl
  have HG5 := Lib.hid hg5
  clear hg5
  go_wp2_with fail
  go_loopw [70, 0] (fun i u wr => ∃ (j : Nat) (v2 : Value), j ≤ terms.length ∧ i = .int .i64 j ∧ u = v2 ∧ AddB base w4 v4 l4 (preL L 3 ++ termsL terms offs j) v2 wr) (fun i _ _ => terms.length - (intOf i).toNat)
  case atStart => exact ⟨0, v5, Nat.zero_le _, rfl, rfl, by rw [show termsL terms offs 0 = [] from rfl, List.append_nil]; exact HG5.out⟩
  case round =>
    obtain ⟨j, v2, hj, rfl, rfl, hadd⟩ := hrel
    have hbr : base ≤ wr.heap.size := Nat.le_trans hb4 hadd.2.1.size
    have HT := HT4.out
    have hpl := preL_len L 3
    have hnt := HNT.out
    have hbe := NumAll.AddB.below hadd H4.out hb4
    have q14 := qcell hadd.2.1 14 (.slice A4 0 c4) rfl
    have q0' := qcell hadd.2.1 0 (.int .i64 5) rfl
    have q4 := qcell hadd.2.1 4 (.slice A2 offs.length c2) rfl
    have HA5 := Lib.hid hadd
    rcases Nat.lt_or_ge j terms.length with hlt | hge
    · have hlen := HLEN.out
      obtain ⟨t, ht⟩ : ∃ t, terms[j]? = some t := ⟨_, List.getElem?_eq_getElem hlt⟩
      obtain ⟨o, ho⟩ : ∃ o, offs[j]? = some o := ⟨_, List.getElem?_eq_getElem (by omega)⟩
      obtain ⟨g1, o1, rfl, hg1, hc1⟩ := S1.out (by intro e; rw [show terms = [] by simpa [strs] using e] at hlt; simp at hlt)
      obtain ⟨g2, o2, rfl, hg2, hc2⟩ := S2.out (by intro e; rw [show offs = [] by simpa [ints] using e] at ho; simp at ho)
      have y1 : wr.cell? ⟨g1, o1 + j, none⟩ = some (.string t) := (((HBB.out.trans hbe)).cell (p := ⟨g1, o1 + j, none⟩) (Nat.lt_of_lt_of_le hg1 hB)).trans (hc1 j _ (by simp [strs, ht]))
      have y2' : w.cell? ⟨g2, o2 + j, none⟩ = some (.int .i64 o) := hc2 j _ (by simp [ints, ho])
      have HS := Lib.hid (HTS.out t (List.mem_of_getElem? ht))
      have HO2 := Lib.hid (HO0.out o (List.mem_of_getElem? ho))
      have HO3 := Lib.hid (HO1.out o (List.mem_of_getElem? ho))
      have HTj := Lib.hid (HT j (by omega))
      have HTS1 := Lib.hid (show termsL terms offs (j + 1) = termsL terms offs j ++ term1 t o by rw [termsL_succ, ht, ho]; rfl)
      have hlt2 : (j : Int) < 9223372036854775807 := by omega
      have i1 : (j : Int) < (terms.length : Int) := by omega
      have i2 : (j : Int) < (offs.length : Int) := by omega
      have ho2 := hadd.1.below (Below.alloc (Below.refl wr.heap.size wr) (Nat.le_refl _) (.cells #[.int .u8 32] 5))
      have hsr2 := src_blk (Blk.new wr 5 #[.int .u8 32]) [32] rfl
      have hll : (l4 ++ (preL L 3 ++ termsL terms offs j)).length ≤ 17592186044416 := by rw [List.length_append, List.length_append]; have := HTj.out; omega
      have HY := Lib.hid y2'
      clear hadd HT hc1 hc2 ht ho y2' hlen
      go_wp2_with (first
        | (at_builtin; refine wpList_addB rfl _ _ rfl rfl ho2 rfl hsr2 (by decide) (by simp; omega) (by simp only [List.length_cons, List.length_nil]; omega) ?_; intro v6 w6 ha6; have ha6' := ha6.pre (Below.alloc (Below.refl wr.heap.size wr) (Nat.le_refl _) _); have hb6 : base ≤ w6.heap.size := Nat.le_trans hbr ha6'.2.1.size)
        | (go_at_call 82; refine (quoted_any t ha6.1 hb6 (by rw [List.length_append]; have := HS.out; simp only [List.length_cons, List.length_nil]; omega)).mono ?_; rintro e w7 ⟨v7, rfl, ha7⟩; have hb7 : base ≤ w7.heap.size := Nat.le_trans hb6 ha7.2.1.size; have ho8 := ha7.1.below (Below.alloc (Below.refl w7.heap.size w7) (Nat.le_refl _) (.cells #[.int .u8 64] 5)); have hsr8 := src_blk (Blk.new w7 5 #[.int .u8 64]) [64] rfl; have hq7 := quote_len t)
        | (at_builtin; refine wpList_addB rfl _ _ rfl rfl ho8 rfl hsr8 (by decide) (by simp; omega) (by have := HS.out; simp only [List.length_append, List.length_cons, List.length_nil] at hll ⊢; omega) ?_; intro v8 w8 ha8; have ha8' := ha8.pre (Below.alloc (Below.refl w7.heap.size w7) (Nat.le_refl _) _); have hA8 := ha6'.trans (ha7.trans ha8'); have hb8 : base ≤ w8.heap.size := Nat.le_trans hb7 (Nat.le_trans (by simp) ha8.2.1.size); have hB8 := NumAll.AddB.below hA8 HA5.out.1 hbr; have c8 := (HBB.out.trans (hbe.trans hB8)).cell (p := ⟨g2, o2 + j, none⟩) (Nat.lt_of_lt_of_le hg2 hB); rw [HY.out] at c8; have d4 := (qcell (HA5.out.trans hA8).2.1) 4 (.slice (some ⟨g2, o2, none⟩) offs.length c2) rfl)
        | (go_at_call 83; refine (int_int o HO2.out HO3.out ha8'.1 hb8 (by have := HS.out; simp only [List.length_append, List.length_cons, List.length_nil] at hll ⊢; omega) (HP.out.on (hbe.trans hB8))).mono ?_; rintro e w9 ⟨v9, rfl, ha9⟩))
      go_roundw
      case rel =>
        refine ⟨j + 1, v9, by omega, by go_num, rfl, ?_⟩
        have e : preL L 3 ++ termsL terms offs (j + 1) = (preL L 3 ++ termsL terms offs j) ++ ([32] ++ (quoteL t ++ ([64] ++ Lib.decDigits o.toNat))) := by rw [HTS1.out]; simp only [term1, List.append_assoc]
        rw [e]
        exact HA5.out.trans (ha6'.trans (ha7.trans (ha8'.trans ha9)))
      case measure => simp [intOf]; omega
    · obtain rfl : j = terms.length := by omega
      have hl9 : (l4 ++ (preL L 3 ++ termsL terms offs terms.length)).length ≤ 17592186044416 := by rw [List.length_append, List.length_append]; have := HT _ hj; omega
      have ho9 := hadd.1.below (Below.alloc (Below.refl wr.heap.size wr) (Nat.le_refl _) (.cells #[.int .u8 41] 5))
      have hsr9 := src_blk (Blk.new wr 5 #[.int .u8 41]) [41] rfl
      clear hadd HT
      go_wp2_with fail
      refine wp_loop_rounds 1 ?_
      rw [rounds_succ]
      go_wp2_with (at_builtin; refine wpList_addB rfl _ _ rfl rfl ho9 rfl hsr9 (by decide) (by simp; omega) (by rw [show [(41 : UInt8)].length = 1 from rfl]; omega) ?_; intro v10 w10 ha10)
      go_ret
      refine ⟨_, rfl, ?_⟩
      have h1 := HA5.out.trans (ha10.pre (Below.alloc (Below.refl wr.heap.size wr) (Nat.le_refl _) _))
      rw [HEl.out, HE.out] at h1
      have h2 := (HA.out.trans h1).pre hbW
      have e : lineL (.mk ⟨5, field, text, terms, offs, n, weight, lo, hi, occur⟩ []) = [40] ++ [112, 104, 114, 97, 115, 101] ++ (bodyL ⟨5, field, text, terms, offs, n, weight, lo, hi, occur⟩ ++ [41]) := by simp [lineL, kidsL, hasOf]
      rw [e]
      exact h2

end Go.Proofs.YtkcfgcdlnojaeaaGreatDoor.LinePhrase

namespace Go.Proofs.YtkcfgcdlnojaeaaGreatDoor.LineFew
set_option maxRecDepth 100000
open Go.RowKit Go.PlainAid Base Query QrySize BindBase Bytes Digits Quoted QuoteAll NumAll Rel Relb RelbT RelC TextPlain TextLine TextOne LineBase EndWalk LineLeaf

set_option maxHeartbeats 4000000 in
theorem line_k3 (hd : Head) (hk : hd.kind = 3) (hw : Hwf hd) (hg : locB 16 false hd 0 = true) (A1 A2 A3 A4 : Option Addr) (c1 c2 c3 c4 : Nat) (v : Value) (l : List UInt8) (base : Nat) (w : World) (hown : Byt w base v l) (hb : base ≤ w.heap.size) (ht : Pow base w) (hbk : hbulk hd ≤ 1099511627776) (hl : l.length + 128 * hbulk hd ≤ 8796093022208) :
    Calls Tryz.prog 46 #[v, .agg kindsA, .agg (qcells hd 0 A1 A2 A3 A4 c1 c2 c3 c4)] w (Adds base w v l (lineL (.mk hd []))) := by
  obtain ⟨hk1, hk2, ok⟩ := ok_of hg
  have hwt := wt_head hw (nk := 0)
  have hbl := body_len (by decide) hg hwt
  have hF := i64_of hw.field
  have hN := i64_of hw.n
  have hW := u64_of hw.weight
  obtain ⟨z1, z2, z3⟩ := bulk_parts hd
  rw [hk] at ok
  obtain ⟨kind, field, text, terms, offs, n, weight, lo, hi, occur⟩ := hd
  simp only at hk hF hN hW z1 z2 z3
  subst hk
  have okn := ok.n0
  simp only at okn
  have k9 : kindsA[39]? = some (.string ⟨#[104, 97, 115]⟩) := by kernel_rfl
  generalize kindsA = K at *
  obtain ⟨W2, hW2⟩ : ∃ W, W = (w.alloc (.cells K 86)).alloc (.cells (qcells ⟨3, field, text, terms, offs, n, weight, lo, hi, occur⟩ 0 A1 A2 A3 A4 c1 c2 c3 c4) 29) := ⟨_, rfl⟩
  have K1 : Blk W2 (w.heap.size + 1) 29 (qcells ⟨3, field, text, terms, offs, n, weight, lo, hi, occur⟩ 0 A1 A2 A3 A4 c1 c2 c3 c4) := by
    rw [hW2]
    have := Blk.new (w.alloc (.cells K 86)) 29 (qcells ⟨3, field, text, terms, offs, n, weight, lo, hi, occur⟩ 0 A1 A2 A3 A4 c1 c2 c3 c4)
    rwa [World.size_alloc] at this
  have hsz : w.heap.size + 1 + 1 = W2.heap.size := by rw [hW2]; simp
  have hbW : Below w.heap.size w W2 := by rw [hW2]; (repeat (first | exact Below.refl _ _ | assumption | refine balloc ?_ _ | refine bdrew ?_ | refine bdrewN ?_ _ | refine bchain ?_ (by assumption)))
  have ho2 : Byt W2 base v l := hown.below hbW
  have hne : some (w.heap.size + 1) ≠ v.ownBlock := own_lt hown _ (Nat.le_succ _)
  have ho3 := ho2.below (Below.alloc (Below.refl W2.heap.size W2) (Nat.le_refl _) (.cells #[.int .u8 40] 5))
  have hsr := src_blk (Blk.new W2 5 #[.int .u8 40]) [40] rfl
  rw [← hsz] at hsr
  have HW := Lib.hid hW2
  have HSZ := Lib.hid hsz
  have F0 := Lib.hid (f0_of ok)
  have F1 := Lib.hid hF.2
  have N0 := Lib.hid okn
  have N1 := Lib.hid hN.2
  have W0 := Lib.hid hW.1
  have W1 := Lib.hid hW.2
  have SZ := Lib.hid (Nat.le_trans z1 hbk)
  have SL := Lib.hid (Nat.le_trans z2 hbk)
  have SH := Lib.hid (Nat.le_trans z3 hbk)
  have BK := Lib.hid hbk
  have HB := Lib.hid hbl
  have HL := Lib.hid hl
  unfold qcells at hW2 ⊢
  rw [hW2] at ho3 hsr
  clear hW2 hsz hF hN hW z1 z2 z3 hbk hbl hl okn ok hk1 hk2 hg hwt hw
  go_enter Tryz.func46, Tryz.ntmps46
  go_upto_region 7 with (first | (at_builtin; refine wpList_addB rfl _ _ rfl rfl ho3 rfl hsr (by decide) (by simp; omega) (by have := HL.out; simp; omega) ?_; intro v3 w3 ha3) | (at_builtin; refine wpList_addB rfl _ _ rfl rfl ha3.1 rfl (src_str [104, 97, 115]) (by decide) (by have := ha3.2.1.size; simp at this; omega) (by have := HL.out; simp; omega) ?_; intro v4 w4 ha4; have hA := (ha3.trans ha4).pre (by rw [HW.out]; exact Below.alloc (Below.refl _ _) (Nat.le_refl _) _ : Below W2.heap.size W2 _); have KQ := K1.grown hA.2.1 hne; have q0 : w4.cell? ⟨w.heap.size + 1, 0, none⟩ = some (.int .i64 3) := KQ.cell 0))
  have h4 : Byt w4 base v4 (l ++ ([40] ++ [104, 97, 115])) := hA.1
  have hne4 : some (w.heap.size + 1) ≠ v4.ownBlock := by
    rcases hA.2.2.1 with e | ⟨g, e, hg⟩
    · rw [e]; exact hne
    · rw [e]; intro h; cases h; have := HSZ.out; omega
  have hb4 : base ≤ w4.heap.size := Nat.le_trans (Nat.le_trans hb hbW.size) hA.2.1.size
  have HP := Lib.hid ((ht.on (hbW.mono hb)).add hA ho2 (Nat.le_trans hb hbW.size))
  obtain ⟨l4, hl4⟩ : ∃ l4, l4 = l ++ ([40] ++ [104, 97, 115]) := ⟨_, rfl⟩
  have H4 := Lib.hid (show Byt w4 base v4 l4 by rw [hl4]; exact h4)
  have H1 := Lib.hid (show 1 ≤ l4.length by rw [hl4]; simp)
  obtain ⟨L, hL⟩ : ∃ L : List (List UInt8), L = [num field] := ⟨_, rfl⟩
  have M0 := Lib.hid (show L[0]? = some (num field) by rw [hL]; rfl)
  have HE := Lib.hid (show preL L 1 = bodyL ⟨3, field, text, terms, offs, n, weight, lo, hi, occur⟩ by rw [hL]; simp [preL, bodyL])
  have HL4 := Lib.hid (show l4.length + L.flatten.length ≤ 17592186044416 by
    have e : L.flatten = bodyL ⟨3, field, text, terms, offs, n, weight, lo, hi, occur⟩ := by rw [hL]; simp [bodyL]
    rw [e, hl4]; have := HB.out; have := HL.out; simp; omega)
  have HEl := Lib.hid hl4
  have HA := Lib.hid hA
  have hlt4 : w.heap.size + 1 < w4.heap.size := by have := hA.2.1.size; have := HSZ.out; omega
  have qcell : ∀ {wx : World} (hx : w4.grownBy wx v4.ownBlock) (j : Nat) (u : Value) (_ : (qcells ⟨3, field, text, terms, offs, n, weight, lo, hi, occur⟩ 0 A1 A2 A3 A4 c1 c2 c3 c4)[j]? = some u), wx.cell? ⟨w.heap.size + 1, j, none⟩ = some u := fun hx j u hu => ((KQ.grown hx hne4).cell j).trans hu
  clear ho2 ho3 hsr ha3 ha4 hA h4 hl4 k9 q0 hown hL ht
  have hx0 : w4.grownBy w4 v4.ownBlock := ⟨rfl, rfl, rfl, Nat.le_refl _, fun _ _ _ => rfl⟩
  have q1 := qcell hx0 1 (.int .i64 field) rfl
  go_upto_region 31 with (go_at_call 80; refine (number_int field F0.out F1.out H4.out hb4 (by have := HL4.out; omega) HP.out).mono ?_; rintro e wx ⟨v9, rfl, had⟩)
  have hx := had.2.1
  have hg' : AddB base w4 v4 l4 (preL L 1) v9 wx := by
    have e : preL L 1 = num field := by rw [preL_succ M0.out]; simp [preL]
    rw [e]; exact had
  clear had
  have q14 := qcell hx 14 (.slice A4 0 c4) rfl
  have q0' := qcell hx 0 (.int .i64 3) rfl
  have hl9 : (l4 ++ preL L 1).length ≤ 17592186044416 := preL_le HL4.out (Nat.le_refl _)
  have ho9 := hg'.1.below (Below.alloc (Below.refl wx.heap.size wx) (Nat.le_refl _) (.cells #[.int .u8 41] 5))
  have hsr9 := src_blk (Blk.new wx 5 #[.int .u8 41]) [41] rfl
  have HG := Lib.hid hg'
  have hb9 : base ≤ wx.heap.size := Nat.le_trans hb4 hx.size
  clear hg'
  go_wp2_with fail
  refine wp_loop_rounds 1 ?_
  rw [rounds_succ]
  go_wp2_with (at_builtin; refine wpList_addB rfl _ _ rfl rfl ho9 rfl hsr9 (by decide) (by simp; omega) (by rw [show [(41 : UInt8)].length = 1 from rfl]; omega) ?_; intro v10 w10 ha10)
  go_ret
  refine ⟨_, rfl, ?_⟩
  have h1 := HG.out.trans (ha10.pre (Below.alloc (Below.refl wx.heap.size wx) (Nat.le_refl _) _))
  rw [HEl.out, HE.out] at h1
  have h2 := (HA.out.trans h1).pre hbW
  have e : lineL (.mk ⟨3, field, text, terms, offs, n, weight, lo, hi, occur⟩ []) = [40] ++ [104, 97, 115] ++ (bodyL ⟨3, field, text, terms, offs, n, weight, lo, hi, occur⟩ ++ [41]) := by simp [lineL, kidsL, hasOf]
  rw [e]
  exact h2

set_option maxHeartbeats 4000000 in
theorem line_k9 (hd : Head) (hk : hd.kind = 9) (hw : Hwf hd) (hg : locB 16 false hd 0 = true) (A1 A2 A3 A4 : Option Addr) (c1 c2 c3 c4 : Nat) (v : Value) (l : List UInt8) (base : Nat) (w : World) (hown : Byt w base v l) (hb : base ≤ w.heap.size) (ht : Pow base w) (hbk : hbulk hd ≤ 1099511627776) (hl : l.length + 128 * hbulk hd ≤ 8796093022208) :
    Calls Tryz.prog 46 #[v, .agg kindsA, .agg (qcells hd 0 A1 A2 A3 A4 c1 c2 c3 c4)] w (Adds base w v l (lineL (.mk hd []))) := by
  obtain ⟨hk1, hk2, ok⟩ := ok_of hg
  have hwt := wt_head hw (nk := 0)
  have hbl := body_len (by decide) hg hwt
  have hF := i64_of hw.field
  have hN := i64_of hw.n
  have hW := u64_of hw.weight
  obtain ⟨z1, z2, z3⟩ := bulk_parts hd
  rw [hk] at ok
  obtain ⟨kind, field, text, terms, offs, n, weight, lo, hi, occur⟩ := hd
  simp only at hk hF hN hW z1 z2 z3
  subst hk
  have okn := ok.n0
  simp only at okn
  have k9 : kindsA[99]? = some (.string ⟨#[115, 112, 97, 110]⟩) := by kernel_rfl
  generalize kindsA = K at *
  obtain ⟨W2, hW2⟩ : ∃ W, W = (w.alloc (.cells K 86)).alloc (.cells (qcells ⟨9, field, text, terms, offs, n, weight, lo, hi, occur⟩ 0 A1 A2 A3 A4 c1 c2 c3 c4) 29) := ⟨_, rfl⟩
  have K1 : Blk W2 (w.heap.size + 1) 29 (qcells ⟨9, field, text, terms, offs, n, weight, lo, hi, occur⟩ 0 A1 A2 A3 A4 c1 c2 c3 c4) := by
    rw [hW2]
    have := Blk.new (w.alloc (.cells K 86)) 29 (qcells ⟨9, field, text, terms, offs, n, weight, lo, hi, occur⟩ 0 A1 A2 A3 A4 c1 c2 c3 c4)
    rwa [World.size_alloc] at this
  have hsz : w.heap.size + 1 + 1 = W2.heap.size := by rw [hW2]; simp
  have hbW : Below w.heap.size w W2 := by rw [hW2]; (repeat (first | exact Below.refl _ _ | assumption | refine balloc ?_ _ | refine bdrew ?_ | refine bdrewN ?_ _ | refine bchain ?_ (by assumption)))
  have ho2 : Byt W2 base v l := hown.below hbW
  have hne : some (w.heap.size + 1) ≠ v.ownBlock := own_lt hown _ (Nat.le_succ _)
  have ho3 := ho2.below (Below.alloc (Below.refl W2.heap.size W2) (Nat.le_refl _) (.cells #[.int .u8 40] 5))
  have hsr := src_blk (Blk.new W2 5 #[.int .u8 40]) [40] rfl
  rw [← hsz] at hsr
  have HW := Lib.hid hW2
  have HSZ := Lib.hid hsz
  have F0 := Lib.hid (f0_of ok)
  have F1 := Lib.hid hF.2
  have N0 := Lib.hid okn
  have N1 := Lib.hid hN.2
  have W0 := Lib.hid hW.1
  have W1 := Lib.hid hW.2
  have SZ := Lib.hid (Nat.le_trans z1 hbk)
  have SL := Lib.hid (Nat.le_trans z2 hbk)
  have SH := Lib.hid (Nat.le_trans z3 hbk)
  have BK := Lib.hid hbk
  have HB := Lib.hid hbl
  have HL := Lib.hid hl
  unfold qcells at hW2 ⊢
  rw [hW2] at ho3 hsr
  clear hW2 hsz hF hN hW z1 z2 z3 hbk hbl hl okn ok hk1 hk2 hg hwt hw
  go_enter Tryz.func46, Tryz.ntmps46
  go_upto_region 24 with (first | (at_builtin; refine wpList_addB rfl _ _ rfl rfl ho3 rfl hsr (by decide) (by simp; omega) (by have := HL.out; simp; omega) ?_; intro v3 w3 ha3) | (at_builtin; refine wpList_addB rfl _ _ rfl rfl ha3.1 rfl (src_str [115, 112, 97, 110]) (by decide) (by have := ha3.2.1.size; simp at this; omega) (by have := HL.out; simp; omega) ?_; intro v4 w4 ha4; have hA := (ha3.trans ha4).pre (by rw [HW.out]; exact Below.alloc (Below.refl _ _) (Nat.le_refl _) _ : Below W2.heap.size W2 _); have KQ := K1.grown hA.2.1 hne; have q0 : w4.cell? ⟨w.heap.size + 1, 0, none⟩ = some (.int .i64 9) := KQ.cell 0))
  have h4 : Byt w4 base v4 (l ++ ([40] ++ [115, 112, 97, 110])) := hA.1
  have hne4 : some (w.heap.size + 1) ≠ v4.ownBlock := by
    rcases hA.2.2.1 with e | ⟨g, e, hg⟩
    · rw [e]; exact hne
    · rw [e]; intro h; cases h; have := HSZ.out; omega
  have hb4 : base ≤ w4.heap.size := Nat.le_trans (Nat.le_trans hb hbW.size) hA.2.1.size
  have HP := Lib.hid ((ht.on (hbW.mono hb)).add hA ho2 (Nat.le_trans hb hbW.size))
  obtain ⟨l4, hl4⟩ : ∃ l4, l4 = l ++ ([40] ++ [115, 112, 97, 110]) := ⟨_, rfl⟩
  have H4 := Lib.hid (show Byt w4 base v4 l4 by rw [hl4]; exact h4)
  have H1 := Lib.hid (show 1 ≤ l4.length by rw [hl4]; simp)
  obtain ⟨L, hL⟩ : ∃ L : List (List UInt8), L = [num field, [32], endL lo] := ⟨_, rfl⟩
  have M0 := Lib.hid (show L[0]? = some (num field) by rw [hL]; rfl)
  have M1 := Lib.hid (show L[1]? = some ([32]) by rw [hL]; rfl)
  have M2 := Lib.hid (show L[2]? = some (endL lo) by rw [hL]; rfl)
  obtain ⟨R, hR⟩ : ∃ R : List (List UInt8), R = [[32], endL hi] := ⟨_, rfl⟩
  have N0_ := Lib.hid (show R[0]? = some ([32]) by rw [hR]; rfl)
  have N1_ := Lib.hid (show R[1]? = some (endL hi) by rw [hR]; rfl)
  have HE := Lib.hid (show preL L 3 ++ preL R 2 = bodyL ⟨9, field, text, terms, offs, n, weight, lo, hi, occur⟩ by rw [hL, hR]; simp [preL, bodyL])
  have HL45 := Lib.hid (show l4.length + L.flatten.length ≤ 17592186044416 ∧ l4.length + L.flatten.length + R.flatten.length ≤ 17592186044416 by
    have e : L.flatten ++ R.flatten = bodyL ⟨9, field, text, terms, offs, n, weight, lo, hi, occur⟩ := by rw [hL, hR]; simp [bodyL]
    have e2 := congrArg List.length e
    rw [List.length_append] at e2
    rw [hl4]; have := HB.out; have := HL.out; simp only [List.length_append, List.length_cons, List.length_nil]; omega)
  have HL4 := Lib.hid HL45.out.1
  have HEl := Lib.hid hl4
  have HA := Lib.hid hA
  have hlt4 : w.heap.size + 1 < w4.heap.size := by have := hA.2.1.size; have := HSZ.out; omega
  have qcell : ∀ {wx : World} (hx : w4.grownBy wx v4.ownBlock) (j : Nat) (u : Value) (_ : (qcells ⟨9, field, text, terms, offs, n, weight, lo, hi, occur⟩ 0 A1 A2 A3 A4 c1 c2 c3 c4)[j]? = some u), wx.cell? ⟨w.heap.size + 1, j, none⟩ = some u := fun hx j u hu => ((KQ.grown hx hne4).cell j).trans hu
  clear ho2 ho3 hsr ha3 ha4 hA h4 hl4 k9 q0 hown hL hR ht
  refine RelC.wp_region_relc 9 (fun wx => w4.grownBy wx v4.ownBlock) (fun wa wb => Below wa.heap.size wa wb) (fun wa wb => wa.heap.size ≤ wb.heap.size ∧ Heads 1 wa wb) [3, 5, 8] (fun i x wx => AddB base w4 v4 l4 (preL L i) x wx) v4 (by kernel_rfl) (by kernel_rfl) (by kernel_rfl) (by simp) (by kernel_rfl) ⟨rfl, rfl, rfl, Nat.le_refl _, fun _ _ _ => rfl⟩ ((AddB.refl H4.out).post (bdrew (Below.refl _ _))) (fun _ _ _ _ hle h => h.post hle) ?_
  simp only [List.take_succ_cons, List.take_zero, List.drop_succ_cons, List.drop_zero]
  apply RelC.relc_one 1 [] rfl (by kernel_rfl) (by kernel_rfl) (by rfl)
  case hs =>
    intro vv wx hx hf
    clear hf
    try simp only [Relb.putD, Act.put, Base.s1, Base.s2, Base.s3]
    intro KK hK
    go_simp
    exact hK _ _ hx (Below.refl _ _) rfl
  apply RelC.relc_one 2 [] rfl (by kernel_rfl) (by kernel_rfl) (by rfl)
  case hs =>
    intro vv wx hx hf
    clear hf
    try simp only [Relb.putD, Act.put, Base.s1, Base.s2, Base.s3]
    intro KK hK
    go_simp
    exact hK _ _ hx (Below.refl _ _) rfl
  apply RelC.relc_one 3 [(1, 119)] rfl (by kernel_rfl) (by kernel_rfl) (by rfl)
  case hs =>
    intro vv wx hx hf
    have e119 : vv 1 = _ := hf 1 (by simp)
    clear hf
    have q1 := qcell hx 1 (.int .i64 field) rfl
    have q7 := qcell hx 7 (.bool lo.op) rfl
    have q8 := qcell hx 8 (.bool lo.inn) rfl
    have q9 := qcell hx 9 (.string lo.text) rfl
    try simp only [Relb.putD, e119, Act.put, Base.s1, Base.s2, Base.s3]
    intro KK hK
    go_simp
    exact hK _ _ hx (Below.refl _ _) rfl
  apply RelC.relc_chain 0 4 [(0, 118), (2, 120)] rfl (by kernel_rfl) (by kernel_rfl) (by rfl)
  case hs =>
    intro vv wx hx hf hg
    have e118 : vv 0 = _ := hf 0 (by simp)
    have e120 : vv 2 = _ := hf 2 (by simp)
    clear hf
    have q1 := qcell hx 1 (.int .i64 field) rfl
    have q7 := qcell hx 7 (.bool lo.op) rfl
    have q8 := qcell hx 8 (.bool lo.inn) rfl
    have q9 := qcell hx 9 (.string lo.text) rfl
    try simp only [Relb.putD, e118, e120, Act.put, Base.s1, Base.s2, Base.s3]
    intro KK hK
    go_simp
    go_at_call 80
    refine (number_int field F0.out F1.out hg.1 (Nat.le_trans hb4 hx.size) (preL_le HL4.out (by decide)) (HP.out.add hg H4.out hb4)).mono ?_
    rintro e w' ⟨v', rfl, had⟩
    obtain ⟨n1, n2, n3⟩ := chain_next (i := 0) M0.out hg had H1.out
    exact hK _ _ n1 n2 n3
  apply RelC.relc_kind 5 [] (One 32) rfl (by kernel_rfl) (by kernel_rfl) (by rfl) (fun _ _ _ hle h => One.stays hle h)
  case hs =>
    intro vv wx hx hf
    clear hf
    try simp only [Relb.putD, Act.put, Base.s1, Base.s2, Base.s3]
    intro KK hK
    go_simp
    exact hK _ _ (gb_post hx (Below.alloc (Below.refl _ _) (Nat.le_refl _) _)) (Below.alloc (Below.refl _ _) (Nat.le_refl _) _) (one_new wx 32 _ rfl)
  apply RelC.relc_chain 1 6 [(3, 121), (4, 122)] rfl (by kernel_rfl) (by kernel_rfl) (by rfl)
  case hs =>
    intro vv wx hx hf hg
    obtain ⟨g122, e122, h122, c122⟩ := hf 4 (by simp)
    replace e122 : vv 4 = _ := e122
    clear hf
    have q1 := qcell hx 1 (.int .i64 field) rfl
    have q7 := qcell hx 7 (.bool lo.op) rfl
    have q8 := qcell hx 8 (.bool lo.inn) rfl
    have q9 := qcell hx 9 (.string lo.text) rfl
    try simp only [Relb.putD, e122, Act.put, Base.s1, Base.s2, Base.s3]
    intro KK hK
    rw [if_pos (by rfl)]
    refine wp_addB _ _ (by rfl) (by rfl) hg.1 (by rfl) (src_one c122) (by decide) (Nat.le_trans hb4 hx.size) (preL_add HL4.out (by decide)) ?_
    intro v' w' had
    obtain ⟨n1, n2, n3⟩ := chain_next (i := 1) M1.out hg had H1.out
    exact hK _ _ n1 n2 n3
  apply RelC.relc_one 7 [] rfl (by kernel_rfl) (by kernel_rfl) (by rfl)
  case hs =>
    intro vv wx hx hf
    clear hf
    try simp only [Relb.putD, Act.put, Base.s1, Base.s2, Base.s3]
    intro KK hK
    go_simp
    exact hK _ _ hx (Below.refl _ _) rfl
  apply RelC.relc_one 8 [(6, 124)] rfl (by kernel_rfl) (by kernel_rfl) (by rfl)
  case hs =>
    intro vv wx hx hf
    have e124 : vv 6 = _ := hf 6 (by simp)
    clear hf
    have q1 := qcell hx 1 (.int .i64 field) rfl
    have q7 := qcell hx 7 (.bool lo.op) rfl
    have q8 := qcell hx 8 (.bool lo.inn) rfl
    have q9 := qcell hx 9 (.string lo.text) rfl
    try simp only [Relb.putD, e124, Act.put, Base.s1, Base.s2, Base.s3]
    intro KK hK
    go_simp
    exact hK _ _ hx (Below.refl _ _) rfl
  apply RelC.relc_chain 2 9 [(5, 123), (7, 125)] rfl (by kernel_rfl) (by kernel_rfl) (by rfl)
  case hs =>
    intro vv wx hx hf hg
    have e125 : vv 7 = _ := hf 7 (by simp)
    clear hf
    have q1 := qcell hx 1 (.int .i64 field) rfl
    have q7 := qcell hx 7 (.bool lo.op) rfl
    have q8 := qcell hx 8 (.bool lo.inn) rfl
    have q9 := qcell hx 9 (.string lo.text) rfl
    try simp only [Relb.putD, e125, Act.put, Base.s1, Base.s2, Base.s3]
    intro KK hK
    go_simp
    go_at_call 84
    refine (end_any lo (Nat.le_trans H1.out (by simp)) SL.out hg.1 (Nat.le_trans hb4 hx.size) (preL_le HL4.out (by decide))).mono ?_
    rintro e w' ⟨v', rfl, had⟩
    obtain ⟨n1, n2, n3⟩ := chain_next (i := 2) M2.out hg had H1.out
    exact hK _ _ n1 n2 n3
  refine RelC.relc_end [(0, 118), (1, 119), (2, 120), (3, 121), (4, 122), (5, 123), (6, 124), (7, 125), (8, 126)] (by kernel_rfl) (by kernel_rfl) ?_
  intro vv w5 hx5 hf hg
  have e118 : vv 0 = _ := hf 0 (by decide)
  have e119 : vv 1 = _ := hf 1 (by decide)
  have e120 : vv 2 = _ := hf 2 (by decide)
  obtain ⟨g122, e122, h122, c122⟩ := hf 4 (by decide)
  replace e122 : vv 4 = _ := e122
  have e124 : vv 6 = _ := hf 6 (by decide)
  have e125 : vv 7 = _ := hf 7 (by decide)
  clear hf
  simp only [Relb.putD, e118, e119, e120, e122, e124, e125, Act.put, Base.s1, Base.s2, Base.s3]
  have hg5 : AddB base w4 v4 l4 (preL L 3) (vv 8) w5 := hg
  clear hg
  generalize vv 8 = v5 at hg5 ⊢
  obtain ⟨l5, hl5⟩ : ∃ l5, l5 = l4 ++ preL L 3 := ⟨_, rfl⟩
  have H5 := Lib.hid (show Byt w5 base v5 l5 by rw [hl5]; exact hg5.1)
  have HP5 := Lib.hid (HP.out.add hg5 H4.out hb4)
  have hb5 : base ≤ w5.heap.size := Nat.le_trans hb4 hx5.size
  have H15 := Lib.hid (show 1 ≤ l5.length by rw [hl5, List.length_append]; exact Nat.le_trans H1.out (Nat.le_add_right _ _))
  have HL5 := Lib.hid (show l5.length + R.flatten.length ≤ 17592186044416 by
    have := HL45.out.2
    have := preL_len L 3
    rw [hl5, List.length_append]
    omega)
  have HG5 := Lib.hid hg5
  have HEl5 := Lib.hid hl5
  have KQ5 := KQ.grown hx5 hne4
  have hne5 : some (w.heap.size + 1) ≠ v5.ownBlock := by
    rcases hg5.2.2.1 with e | ⟨g, e, hg⟩
    · rw [e]; exact hne4
    · rw [e]; intro h; cases h; omega
  have qcell5 : ∀ {wx : World} (hx : w5.grownBy wx v5.ownBlock) (j : Nat) (u : Value) (_ : (qcells ⟨9, field, text, terms, offs, n, weight, lo, hi, occur⟩ 0 A1 A2 A3 A4 c1 c2 c3 c4)[j]? = some u), wx.cell? ⟨w.heap.size + 1, j, none⟩ = some u := fun hx j u hu => ((KQ5.grown hx hne5).cell j).trans hu
  clear hg5 hl5
  go_upto_region 25 with fail
  refine RelC.wp_region_relc 6 (fun wx => w5.grownBy wx v5.ownBlock) (fun wa wb => Below wa.heap.size wa wb) (fun wa wb => wa.heap.size ≤ wb.heap.size ∧ Heads 1 wa wb) [2, 5] (fun i x wx => AddB base w5 v5 l5 (preL R i) x wx) v5 (by kernel_rfl) (by kernel_rfl) (by kernel_rfl) (by simp) (by kernel_rfl) ⟨rfl, rfl, rfl, Nat.le_refl _, fun _ _ _ => rfl⟩ ((AddB.refl H5.out).post (bdrew (Below.refl _ _))) (fun _ _ _ _ hle h => h.post hle) ?_
  simp only [List.take_succ_cons, List.take_zero, List.drop_succ_cons, List.drop_zero]
  apply RelC.relc_one 1 [] rfl (by kernel_rfl) (by kernel_rfl) (by rfl)
  case hs =>
    intro vv wx hx hf
    clear hf
    try simp only [Relb.putD, Act.put, Base.s1, Base.s2, Base.s3]
    intro KK hK
    go_simp
    exact hK _ _ hx (Below.refl _ _) rfl
  apply RelC.relc_kind 2 [] (One 32) rfl (by kernel_rfl) (by kernel_rfl) (by rfl) (fun _ _ _ hle h => One.stays hle h)
  case hs =>
    intro vv wx hx hf
    clear hf
    try simp only [Relb.putD, Act.put, Base.s1, Base.s2, Base.s3]
    intro KK hK
    go_simp
    exact hK _ _ (gb_post hx (Below.alloc (Below.refl _ _) (Nat.le_refl _) _)) (Below.alloc (Below.refl _ _) (Nat.le_refl _) _) (one_new wx 32 _ rfl)
  apply RelC.relc_chain 0 3 [(0, 127), (1, 128)] rfl (by kernel_rfl) (by kernel_rfl) (by rfl)
  case hs =>
    intro vv wx hx hf hg
    have e127 : vv 0 = _ := hf 0 (by simp)
    obtain ⟨g128, e128, h128, c128⟩ := hf 1 (by simp)
    replace e128 : vv 1 = _ := e128
    clear hf
    have q10 := qcell5 hx 10 (.bool hi.op) rfl
    have q11 := qcell5 hx 11 (.bool hi.inn) rfl
    have q12 := qcell5 hx 12 (.string hi.text) rfl
    try simp only [Relb.putD, e127, e128, Act.put, Base.s1, Base.s2, Base.s3]
    intro KK hK
    rw [if_pos (by rfl)]
    refine wp_addB _ _ (by rfl) (by rfl) hg.1 (by rfl) (src_one c128) (by decide) (Nat.le_trans hb5 hx.size) (preL_add HL5.out (by decide)) ?_
    intro v' w' had
    obtain ⟨n1, n2, n3⟩ := chain_next (i := 0) N0_.out hg had H15.out
    exact hK _ _ n1 n2 n3
  apply RelC.relc_one 4 [] rfl (by kernel_rfl) (by kernel_rfl) (by rfl)
  case hs =>
    intro vv wx hx hf
    clear hf
    try simp only [Relb.putD, Act.put, Base.s1, Base.s2, Base.s3]
    intro KK hK
    go_simp
    exact hK _ _ hx (Below.refl _ _) rfl
  apply RelC.relc_one 5 [(3, 130)] rfl (by kernel_rfl) (by kernel_rfl) (by rfl)
  case hs =>
    intro vv wx hx hf
    have e130 : vv 3 = _ := hf 3 (by simp)
    clear hf
    have q10 := qcell5 hx 10 (.bool hi.op) rfl
    have q11 := qcell5 hx 11 (.bool hi.inn) rfl
    have q12 := qcell5 hx 12 (.string hi.text) rfl
    try simp only [Relb.putD, e130, Act.put, Base.s1, Base.s2, Base.s3]
    intro KK hK
    go_simp
    exact hK _ _ hx (Below.refl _ _) rfl
  apply RelC.relc_chain 1 6 [(2, 129), (4, 131)] rfl (by kernel_rfl) (by kernel_rfl) (by rfl)
  case hs =>
    intro vv wx hx hf hg
    have e131 : vv 4 = _ := hf 4 (by simp)
    clear hf
    have q10 := qcell5 hx 10 (.bool hi.op) rfl
    have q11 := qcell5 hx 11 (.bool hi.inn) rfl
    have q12 := qcell5 hx 12 (.string hi.text) rfl
    try simp only [Relb.putD, e131, Act.put, Base.s1, Base.s2, Base.s3]
    intro KK hK
    go_simp
    go_at_call 84
    refine (end_any hi (Nat.le_trans H15.out (by simp)) SH.out hg.1 (Nat.le_trans hb5 hx.size) (preL_le HL5.out (by decide))).mono ?_
    rintro e w' ⟨v', rfl, had⟩
    obtain ⟨n1, n2, n3⟩ := chain_next (i := 1) N1_.out hg had H15.out
    exact hK _ _ n1 n2 n3
  refine RelC.relc_end [(0, 127), (1, 128), (2, 129), (3, 130), (4, 131), (5, 132)] (by kernel_rfl) (by kernel_rfl) ?_
  intro vv wx hx hf hg
  have e127 : vv 0 = _ := hf 0 (by decide)
  obtain ⟨g128, e128, h128, c128⟩ := hf 1 (by decide)
  replace e128 : vv 1 = _ := e128
  have e130 : vv 3 = _ := hf 3 (by decide)
  have e131 : vv 4 = _ := hf 4 (by decide)
  clear hf
  simp only [Relb.putD, e127, e128, e130, e131, Act.put, Base.s1, Base.s2, Base.s3]
  have hg' : AddB base w5 v5 l5 (preL R 2) (vv 5) wx := hg
  clear hg
  generalize vv 5 = v9 at hg' ⊢
  have q14 := qcell5 hx 14 (.slice A4 0 c4) rfl
  have q0' := qcell5 hx 0 (.int .i64 9) rfl
  have hl9 : (l5 ++ preL R 2).length ≤ 17592186044416 := preL_le HL5.out (Nat.le_refl _)
  have ho9 := hg'.1.below (Below.alloc (Below.refl wx.heap.size wx) (Nat.le_refl _) (.cells #[.int .u8 41] 5))
  have hsr9 := src_blk (Blk.new wx 5 #[.int .u8 41]) [41] rfl
  have HG := Lib.hid hg'
  have hb9 : base ≤ wx.heap.size := Nat.le_trans hb5 hx.size
  clear hg'
  go_wp2_with fail
  refine wp_loop_rounds 1 ?_
  rw [rounds_succ]
  go_wp2_with (at_builtin; refine wpList_addB rfl _ _ rfl rfl ho9 rfl hsr9 (by decide) (by simp; omega) (by rw [show [(41 : UInt8)].length = 1 from rfl]; omega) ?_; intro v10 w10 ha10)
  go_ret
  refine ⟨_, rfl, ?_⟩
  have h1 := HG.out.trans (ha10.pre (Below.alloc (Below.refl wx.heap.size wx) (Nat.le_refl _) _))
  rw [HEl5.out] at h1
  have h1 := HG5.out.trans h1
  rw [HEl.out, ← List.append_assoc (preL L 3), HE.out] at h1
  have h2 := (HA.out.trans h1).pre hbW
  have e : lineL (.mk ⟨9, field, text, terms, offs, n, weight, lo, hi, occur⟩ []) = [40] ++ [115, 112, 97, 110] ++ (bodyL ⟨9, field, text, terms, offs, n, weight, lo, hi, occur⟩ ++ [41]) := by simp [lineL, kidsL, hasOf]
  rw [e]
  exact h2

set_option maxHeartbeats 4000000 in
theorem line_k1 (hd : Head) (hk : hd.kind = 1) (hw : Hwf hd) (hg : locB 16 false hd 0 = true) (A1 A2 A3 A4 : Option Addr) (c1 c2 c3 c4 : Nat) (v : Value) (l : List UInt8) (base : Nat) (w : World) (hown : Byt w base v l) (hb : base ≤ w.heap.size) (ht : Pow base w) (hl : l.length + 128 ≤ 8796093022208) :
    Calls Tryz.prog 46 #[v, .agg kindsA, .agg (qcells hd 0 A1 A2 A3 A4 c1 c2 c3 c4)] w (Adds base w v l (lineL (.mk hd []))) := by
  obtain ⟨kind, field, text, terms, offs, n, weight, lo, hi, occur⟩ := hd
  simp only at hk
  subst hk
  have k9 : kindsA[19]? = some (.string ⟨#[110, 111, 110, 101]⟩) := by kernel_rfl
  generalize kindsA = K at *
  obtain ⟨W2, hW2⟩ : ∃ W, W = (w.alloc (.cells K 86)).alloc (.cells (qcells ⟨1, field, text, terms, offs, n, weight, lo, hi, occur⟩ 0 A1 A2 A3 A4 c1 c2 c3 c4) 29) := ⟨_, rfl⟩
  have K1 : Blk W2 (w.heap.size + 1) 29 (qcells ⟨1, field, text, terms, offs, n, weight, lo, hi, occur⟩ 0 A1 A2 A3 A4 c1 c2 c3 c4) := by
    rw [hW2]
    have := Blk.new (w.alloc (.cells K 86)) 29 (qcells ⟨1, field, text, terms, offs, n, weight, lo, hi, occur⟩ 0 A1 A2 A3 A4 c1 c2 c3 c4)
    rwa [World.size_alloc] at this
  have hsz : w.heap.size + 1 + 1 = W2.heap.size := by rw [hW2]; simp
  have hbW : Below w.heap.size w W2 := by rw [hW2]; (repeat (first | exact Below.refl _ _ | assumption | refine balloc ?_ _ | refine bdrew ?_ | refine bdrewN ?_ _ | refine bchain ?_ (by assumption)))
  have ho2 : Byt W2 base v l := hown.below hbW
  have hne : some (w.heap.size + 1) ≠ v.ownBlock := own_lt hown _ (Nat.le_succ _)
  unfold qcells at hW2 ⊢
  rw [hW2] at ho2
  clear K1 hw hg
  go_enter Tryz.func46, Tryz.ntmps46
  go_wp2_with (at_builtin; refine wpList_addB rfl _ _ rfl rfl ho2 rfl (src_str [110, 111, 110, 101]) (by decide) (by simp; omega) (by simp; omega) ?_; intro v3 w3 ha3)
  go_ret
  refine ⟨_, rfl, ?_⟩
  rw [← hW2] at ha3
  have e : lineL (.mk ⟨1, field, text, terms, offs, n, weight, lo, hi, occur⟩ []) = [110, 111, 110, 101] := by simp [lineL, hasOf]
  rw [e]
  exact ha3.pre hbW

set_option maxHeartbeats 4000000 in
theorem line_k2 (hd : Head) (hk : hd.kind = 2) (hw : Hwf hd) (hg : locB 16 false hd 0 = true) (A1 A2 A3 A4 : Option Addr) (c1 c2 c3 c4 : Nat) (v : Value) (l : List UInt8) (base : Nat) (w : World) (hown : Byt w base v l) (hb : base ≤ w.heap.size) (ht : Pow base w) (hl : l.length + 128 ≤ 8796093022208) :
    Calls Tryz.prog 46 #[v, .agg kindsA, .agg (qcells hd 0 A1 A2 A3 A4 c1 c2 c3 c4)] w (Adds base w v l (lineL (.mk hd []))) := by
  obtain ⟨kind, field, text, terms, offs, n, weight, lo, hi, occur⟩ := hd
  simp only at hk
  subst hk
  have k9 : kindsA[29]? = some (.string ⟨#[97, 108, 108]⟩) := by kernel_rfl
  generalize kindsA = K at *
  obtain ⟨W2, hW2⟩ : ∃ W, W = (w.alloc (.cells K 86)).alloc (.cells (qcells ⟨2, field, text, terms, offs, n, weight, lo, hi, occur⟩ 0 A1 A2 A3 A4 c1 c2 c3 c4) 29) := ⟨_, rfl⟩
  have K1 : Blk W2 (w.heap.size + 1) 29 (qcells ⟨2, field, text, terms, offs, n, weight, lo, hi, occur⟩ 0 A1 A2 A3 A4 c1 c2 c3 c4) := by
    rw [hW2]
    have := Blk.new (w.alloc (.cells K 86)) 29 (qcells ⟨2, field, text, terms, offs, n, weight, lo, hi, occur⟩ 0 A1 A2 A3 A4 c1 c2 c3 c4)
    rwa [World.size_alloc] at this
  have hsz : w.heap.size + 1 + 1 = W2.heap.size := by rw [hW2]; simp
  have hbW : Below w.heap.size w W2 := by rw [hW2]; (repeat (first | exact Below.refl _ _ | assumption | refine balloc ?_ _ | refine bdrew ?_ | refine bdrewN ?_ _ | refine bchain ?_ (by assumption)))
  have ho2 : Byt W2 base v l := hown.below hbW
  have hne : some (w.heap.size + 1) ≠ v.ownBlock := own_lt hown _ (Nat.le_succ _)
  unfold qcells at hW2 ⊢
  rw [hW2] at ho2
  clear K1 hw hg
  go_enter Tryz.func46, Tryz.ntmps46
  go_wp2_with (at_builtin; refine wpList_addB rfl _ _ rfl rfl ho2 rfl (src_str [97, 108, 108]) (by decide) (by simp; omega) (by simp; omega) ?_; intro v3 w3 ha3)
  go_ret
  refine ⟨_, rfl, ?_⟩
  rw [← hW2] at ha3
  have e : lineL (.mk ⟨2, field, text, terms, offs, n, weight, lo, hi, occur⟩ []) = [97, 108, 108] := by simp [lineL, hasOf]
  rw [e]
  exact ha3.pre hbW

end Go.Proofs.YtkcfgcdlnojaeaaGreatDoor.LineFew
