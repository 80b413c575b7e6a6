/-
  The walk of bind.line over a term's query.
-/
import Derived.Test.YtkcfgcdlnojaeaaGreatDoorQuoted
import Derived.Test.YtkcfgcdlnojaeaaGreatDoorRelC
import Derived.Test.YtkcfgcdlnojaeaaGreatDoorBindBase
import Derived.Deep.Cut
namespace Go.Proofs.YtkcfgcdlnojaeaaGreatDoor.LineTerm
set_option maxRecDepth 100000
open Go.RowKit Go.PlainAid Base Query BindBase Bytes Digits Quoted Rel Relb RelbT RelC

/-- A term's query as a text. -/
def lineT (f : Nat) (t : ByteArray) : List UInt8 := [40] ++ [116, 101, 114, 109] ++ ([32] ++ digs f) ++ [32] ++ quoteL t ++ ([32] ++ digs 0) ++ [41]

theorem own_lt {w : World} {base : Nat} {v : Value} {l : List UInt8} (h : Byt w base v l) (g : Nat) (hg : w.heap.size ≤ g) : some g ≠ v.ownBlock := by
  intro e
  have := h.lt g e.symm
  omega

/-- What region 9 has put behind so far. -/
def pre9 (f : Nat) (t : ByteArray) : Nat → List UInt8
  | 0 => []
  | 1 => [] ++ ([32] ++ digs f)
  | 2 => [] ++ ([32] ++ digs f) ++ [32]
  | 3 => [] ++ ([32] ++ digs f) ++ [32] ++ quoteL t
  | _ => [] ++ ([32] ++ digs f) ++ [32] ++ quoteL t ++ ([32] ++ digs 0)
theorem digs_len1 {n : Nat} (h : n < 10) : (digs n).length = 1 := by rw [digs_small h]; rfl
theorem quote_len (t : ByteArray) : (quoteL t).length ≤ 3 * t.size + 2 := by
  unfold quoteL
  have := qfrom_len t t.size
  simp
  omega
theorem gb_post {w wx w' : World} {row : Option Nat} (h : w.grownBy wx row) (hb : Below wx.heap.size wx w') : w.grownBy w' row :=
  ⟨hb.os.trans h.os, hb.tape.trans h.tape, hb.output.trans h.output, Nat.le_trans h.size hb.size, fun k hk hne => (hb.block k (Nat.lt_of_lt_of_le hk h.size)).trans (h.block k hk hne)⟩
theorem lit_stays {v : Value} {w w' : World} (hle : Below w.heap.size w w' ∨ (w.heap.size ≤ w'.heap.size ∧ Heads 1 w w')) (h : ∃ g, v = .slice (some ⟨g, 0, none⟩) 1 1 ∧ g < w.heap.size ∧ w.cell? ⟨g, 0, none⟩ = some (.int .u8 32)) :
    ∃ g, v = .slice (some ⟨g, 0, none⟩) 1 1 ∧ g < w'.heap.size ∧ w'.cell? ⟨g, 0, none⟩ = some (.int .u8 32) := by
  obtain ⟨g, e, hg, hc⟩ := h
  rcases hle with hb | ⟨h1, h2⟩
  · exact ⟨g, e, Nat.lt_of_lt_of_le hg hb.size, (hb.cell hg).trans hc⟩
  · exact ⟨g, e, Nat.lt_of_lt_of_le hg h1, (h2 g 0 hg Nat.zero_lt_one).trans hc⟩
theorem src_cell {w : World} {g : Nat} (hc : w.cell? ⟨g, 0, none⟩ = some (.int .u8 32)) : Src Tryz.prog 1 82 (.slice (some ⟨g, 0, none⟩) 1 1) [(32 : UInt8)].length (Base.byteCells [32]) w :=
  Src.ofSlice (P := Tryz.prog) _ u8und ⟨g, 0, none⟩ 1 1 (Base.byteCells [32]) (by rw [bc_len]; rfl)
    (fun j u hu => by
      match j, hu with
      | 0, hu =>
        rw [Addr.add_lit, hc]
        exact hu)
    (fun u hu => by
      unfold Base.byteCells at hu
      obtain ⟨_, _, rfl⟩ := List.mem_map.1 hu
      rfl)
theorem chain_next {base : Nat} {w4 wx w' : World} {v4 x v' : Value} {l4 p m : List UInt8} (hg : AddB base w4 v4 l4 p x wx) (had : AddB base wx x (l4 ++ p) m v' w') (hl : 1 ≤ l4.length) :
    w4.grownBy w' v4.ownBlock ∧ (wx.heap.size ≤ w'.heap.size ∧ Heads 1 wx w') ∧ AddB base w4 v4 l4 (p ++ m) v' w' :=
  have h := hg.trans had
  ⟨h.2.1, ⟨had.2.1.size, fun g i hgs hi => had.2.2.2 g i hgs (by rw [List.length_append]; omega)⟩, h⟩

set_option maxHeartbeats 4000000 in
theorem line_term (f : Nat) (hf : f < 10) (t : ByteArray) (hp : Plain t) (v : Value) (l : List UInt8) (base : Nat) (w : World) (hown : Byt w base v l) (hb : base ≤ w.heap.size) (hl : l.length + 3 * t.size ≤ 17592186044416) :
    Calls Tryz.prog 46 #[v, .agg kindsA, .agg (bareQ 4 f t)] w (Adds base w v l (lineT f t)) := by
  have k9 : kindsA[49]? = some (.string ⟨#[116, 101, 114, 109]⟩) := by kernel_rfl
  generalize kindsA = K at *
  obtain ⟨W2, hW2⟩ : ∃ W, W = (w.alloc (.cells K 86)).alloc (.cells (bareQ 4 f t) 29) := ⟨_, rfl⟩
  have K1 : Blk W2 (w.heap.size + 1) 29 (bareQ 4 f t) := by
    rw [hW2]
    have := Blk.new (w.alloc (.cells K 86)) 29 (bareQ 4 f t)
    rwa [World.size_alloc] at this
  have hsz : w.heap.size + 1 + 1 = W2.heap.size := by rw [hW2]; simp
  have hbW : Below w.heap.size w W2 := by rw [hW2]; (repeat (first | exact Below.refl _ _ | assumption | refine balloc ?_ _ | refine bdrew ?_ | refine bdrewN ?_ _ | refine bchain ?_ (by assumption)))
  have ho2 : Byt W2 base v l := hown.below hbW
  have ho3 := ho2.below (Below.alloc (Below.refl W2.heap.size W2) (Nat.le_refl _) (.cells #[.int .u8 40] 5))
  have hsr := src_blk (Blk.new W2 5 #[.int .u8 40]) [40] rfl
  have hne : some (w.heap.size + 1) ≠ v.ownBlock := own_lt hown _ (Nat.le_succ _)
  rw [← hsz] at hsr
  have HW := Lib.hid hW2
  unfold bareQ at hW2 ⊢
  rw [hW2] at ho3 hsr
  have HSZ := Lib.hid hsz
  clear hW2 hsz
  go_enter Tryz.func46, Tryz.ntmps46
  go_upto_region 9 with (first | (at_builtin; refine wpList_addB rfl _ _ rfl rfl ho3 rfl hsr (by decide) (by simp; omega) (by simp; omega) ?_; intro v3 w3 ha3) | (at_builtin; refine wpList_addB rfl _ _ rfl rfl ha3.1 rfl (src_str [116, 101, 114, 109]) (by decide) (by have := ha3.2.1.size; simp at this; omega) (by simp; omega) ?_; intro v4 w4 ha4; have hA := (ha3.trans ha4).pre (by rw [HW.out]; exact Below.alloc (Below.refl _ _) (Nat.le_refl _) _ : Below W2.heap.size W2 _); have KQ := K1.grown hA.2.1 hne; have q0 : w4.cell? ⟨w.heap.size + 1, 0, none⟩ = some (.int .i64 4) := KQ.cell 0))
  have h4 : Byt w4 base v4 (l ++ ([40] ++ [116, 101, 114, 109])) := hA.1
  have hne4 : some (w.heap.size + 1) ≠ v4.ownBlock := by
    rcases hA.2.2.1 with e | ⟨g, e, hg⟩
    · rw [e]; exact hne
    · rw [e]; intro h; cases h; have := HSZ.out; omega
  have hb4 : base ≤ w4.heap.size := Nat.le_trans (Nat.le_trans hb hbW.size) hA.2.1.size
  obtain ⟨l4, hl4⟩ : ∃ l4, l4 = l ++ ([40] ++ [116, 101, 114, 109]) := ⟨_, rfl⟩
  have H4 := Lib.hid (show Byt w4 base v4 l4 by rw [hl4]; exact h4)
  have HL4 := Lib.hid (show l4.length + 3 * t.size ≤ 17592186044421 by rw [hl4]; simp; omega)
  have H1 := Lib.hid (show 1 ≤ l4.length by rw [hl4]; simp)
  have HE := Lib.hid hl4
  have HA := Lib.hid hA
  have hlt4 : w.heap.size + 1 < w4.heap.size := by have := hA.2.1.size; have := HSZ.out; omega
  have qcell : ∀ {wx : World} (hx : w4.grownBy wx v4.ownBlock) (j : Nat) (u : Value) (_ : (bareQ 4 f t)[j]? = some u), wx.cell? ⟨w.heap.size + 1, j, none⟩ = some u := fun hx j u hu => ((KQ.grown hx hne4).cell j).trans hu
  clear ho2 ho3 hsr ha3 ha4 hA h4 hl4 k9 q0 hown
  refine RelC.wp_region_relc 12 (fun wx => w4.grownBy wx v4.ownBlock) (fun wa wb => Below wa.heap.size wa wb) (fun wa wb => wa.heap.size ≤ wb.heap.size ∧ Heads 1 wa wb) [3, 5, 8, 11] (fun i x wx => AddB base w4 v4 l4 (pre9 f t i) x wx) v4 (by kernel_rfl) (by kernel_rfl) (by kernel_rfl) (by simp) (by kernel_rfl) ⟨rfl, rfl, rfl, Nat.le_refl _, fun _ _ _ => rfl⟩ ((AddB.refl H4.out).post (bdrew (Below.refl _ _))) (fun _ _ _ _ hle h => h.post hle) ?_
  simp only [List.take_succ_cons, List.take_zero, List.drop_succ_cons, List.drop_zero]
  apply RelC.relc_one 1 [] rfl (by kernel_rfl) (by kernel_rfl) (by rfl)
  case hs =>
    intro vv wx hx hf
    clear hf
    try simp only [Relb.putD, Act.put, List.setIfInBounds_toArray, List.set_cons_zero, List.set_cons_succ]
    intro KK hK
    go_simp
    exact hK _ _ hx (Below.refl _ _) rfl
  apply RelC.relc_one 2 [] rfl (by kernel_rfl) (by kernel_rfl) (by rfl)
  case hs =>
    intro vv wx hx hf
    clear hf
    try simp only [Relb.putD, Act.put, List.setIfInBounds_toArray, List.set_cons_zero, List.set_cons_succ]
    intro KK hK
    go_simp
    exact hK _ _ hx (Below.refl _ _) rfl
  apply RelC.relc_one 3 [(1, 44)] rfl (by kernel_rfl) (by kernel_rfl) (by rfl)
  case hs =>
    intro vv wx hx hf
    have e44 : vv 1 = _ := hf 1 (by simp)
    clear hf
    have q1 := qcell hx 1 (.int .i64 f) rfl
    have q2 := qcell hx 2 (.string t) rfl
    have q6 := qcell hx 6 (.int .u64 0) rfl
    try simp only [Relb.putD, e44, Act.put, List.setIfInBounds_toArray, List.set_cons_zero, List.set_cons_succ]
    intro KK hK
    go_simp
    exact hK _ _ hx (Below.refl _ _) rfl
  apply RelC.relc_chain 0 4 [(0, 43), (2, 45)] rfl (by kernel_rfl) (by kernel_rfl) (by rfl)
  case hs =>
    intro vv wx hx hf hg
    have e43 : vv 0 = _ := hf 0 (by simp)
    have e45 : vv 2 = _ := hf 2 (by simp)
    clear hf
    have q1 := qcell hx 1 (.int .i64 f) rfl
    have q2 := qcell hx 2 (.string t) rfl
    have q6 := qcell hx 6 (.int .u64 0) rfl
    try simp only [Relb.putD, e43, e45, Act.put, List.setIfInBounds_toArray, List.set_cons_zero, List.set_cons_succ]
    intro KK hK
    go_simp
    go_at_call 80
    refine (number_any f hf hg.1 (Nat.le_trans hb4 hx.size) (by rw [List.length_append]; have := HL4.out; simp [pre9]; omega)).mono ?_
    rintro e w' ⟨v', rfl, had⟩
    obtain ⟨n1, n2, n3⟩ := chain_next hg had H1.out
    exact hK _ _ n1 n2 n3
  apply RelC.relc_kind 5 [] (fun x wx => ∃ g, x = .slice (some ⟨g, 0, none⟩) 1 1 ∧ g < wx.heap.size ∧ wx.cell? ⟨g, 0, none⟩ = some (.int .u8 32)) rfl (by kernel_rfl) (by kernel_rfl) (by rfl) (fun _ _ _ hle h => lit_stays hle h)
  case hs =>
    intro vv wx hx hf
    clear hf
    try simp only [Relb.putD, Act.put, List.setIfInBounds_toArray, List.set_cons_zero, List.set_cons_succ]
    intro KK hK
    go_simp
    exact hK _ _ (gb_post hx (Below.alloc (Below.refl _ _) (Nat.le_refl _) _)) (Below.alloc (Below.refl _ _) (Nat.le_refl _) _) ⟨wx.heap.size, rfl, by simp, by rw [World.cell?_alloc_mark]; rfl⟩
  apply RelC.relc_chain 1 6 [(3, 46), (4, 47)] rfl (by kernel_rfl) (by kernel_rfl) (by rfl)
  case hs =>
    intro vv wx hx hf hg
    obtain ⟨g47, e47, h47, c47⟩ := hf 4 (by simp)
    replace e47 : vv 4 = _ := e47
    clear hf
    have q1 := qcell hx 1 (.int .i64 f) rfl
    have q2 := qcell hx 2 (.string t) rfl
    have q6 := qcell hx 6 (.int .u64 0) rfl
    try simp only [Relb.putD, e47, Act.put, List.setIfInBounds_toArray, List.set_cons_zero, List.set_cons_succ]
    intro KK hK
    rw [if_pos (by rfl)]
    refine wp_addB _ _ (by rfl) (by rfl) hg.1 (by rfl) (src_cell c47) (by decide) (Nat.le_trans hb4 hx.size) (by rw [List.length_append]; have := HL4.out; have := digs_len1 hf; simp [pre9]; omega) ?_
    intro v' w' had
    obtain ⟨n1, n2, n3⟩ := chain_next hg had H1.out
    exact hK _ _ n1 n2 n3
  apply RelC.relc_one 7 [] rfl (by kernel_rfl) (by kernel_rfl) (by rfl)
  case hs =>
    intro vv wx hx hf
    clear hf
    try simp only [Relb.putD, Act.put, List.setIfInBounds_toArray, List.set_cons_zero, List.set_cons_succ]
    intro KK hK
    go_simp
    exact hK _ _ hx (Below.refl _ _) rfl
  apply RelC.relc_one 8 [(6, 49)] rfl (by kernel_rfl) (by kernel_rfl) (by rfl)
  case hs =>
    intro vv wx hx hf
    have e49 : vv 6 = _ := hf 6 (by simp)
    clear hf
    have q1 := qcell hx 1 (.int .i64 f) rfl
    have q2 := qcell hx 2 (.string t) rfl
    have q6 := qcell hx 6 (.int .u64 0) rfl
    try simp only [Relb.putD, e49, Act.put, List.setIfInBounds_toArray, List.set_cons_zero, List.set_cons_succ]
    intro KK hK
    go_simp
    exact hK _ _ hx (Below.refl _ _) rfl
  apply RelC.relc_chain 2 9 [(5, 48), (7, 50)] rfl (by kernel_rfl) (by kernel_rfl) (by rfl)
  case hs =>
    intro vv wx hx hf hg
    have e50 : vv 7 = _ := hf 7 (by simp)
    clear hf
    have q1 := qcell hx 1 (.int .i64 f) rfl
    have q2 := qcell hx 2 (.string t) rfl
    have q6 := qcell hx 6 (.int .u64 0) rfl
    try simp only [Relb.putD, e50, Act.put, List.setIfInBounds_toArray, List.set_cons_zero, List.set_cons_succ]
    intro KK hK
    go_simp
    go_at_call 82
    refine (quoted_plain t hp hg.1 (Nat.le_trans hb4 hx.size) (by rw [List.length_append]; have := HL4.out; have := digs_len1 hf; simp [pre9]; omega)).mono ?_
    rintro e w' ⟨v', rfl, had⟩
    obtain ⟨n1, n2, n3⟩ := chain_next hg had H1.out
    exact hK _ _ n1 n2 n3
  apply RelC.relc_one 10 [] rfl (by kernel_rfl) (by kernel_rfl) (by rfl)
  case hs =>
    intro vv wx hx hf
    clear hf
    try simp only [Relb.putD, Act.put, List.setIfInBounds_toArray, List.set_cons_zero, List.set_cons_succ]
    intro KK hK
    go_simp
    exact hK _ _ hx (Below.refl _ _) rfl
  apply RelC.relc_one 11 [(9, 52)] rfl (by kernel_rfl) (by kernel_rfl) (by rfl)
  case hs =>
    intro vv wx hx hf
    have e52 : vv 9 = _ := hf 9 (by simp)
    clear hf
    have q1 := qcell hx 1 (.int .i64 f) rfl
    have q2 := qcell hx 2 (.string t) rfl
    have q6 := qcell hx 6 (.int .u64 0) rfl
    try simp only [Relb.putD, e52, Act.put, List.setIfInBounds_toArray, List.set_cons_zero, List.set_cons_succ]
    intro KK hK
    go_simp
    exact hK _ _ hx (Below.refl _ _) rfl
  apply RelC.relc_chain 3 12 [(8, 51), (10, 53)] rfl (by kernel_rfl) (by kernel_rfl) (by rfl)
  case hs =>
    intro vv wx hx hf hg
    have e53 : vv 10 = _ := hf 10 (by simp)
    clear hf
    have q1 := qcell hx 1 (.int .i64 f) rfl
    have q2 := qcell hx 2 (.string t) rfl
    have q6 := qcell hx 6 (.int .u64 0) rfl
    try simp only [Relb.putD, e53, Act.put, List.setIfInBounds_toArray, List.set_cons_zero, List.set_cons_succ]
    intro KK hK
    go_simp
    go_at_call 81
    refine (weight_any 0 (by decide) hg.1 (Nat.le_trans hb4 hx.size) (by rw [List.length_append]; have := HL4.out; have := digs_len1 hf; have := quote_len t; simp [pre9]; omega)).mono ?_
    rintro e w' ⟨v', rfl, had⟩
    obtain ⟨n1, n2, n3⟩ := chain_next hg had H1.out
    exact hK _ _ n1 n2 n3
  refine RelC.relc_end [(0, 43), (1, 44), (2, 45), (3, 46), (4, 47), (5, 48), (6, 49), (7, 50), (8, 51), (9, 52), (10, 53), (11, 54)] (by kernel_rfl) (by kernel_rfl) ?_
  intro vv wx hx hf hg
  have e43 : vv 0 = _ := hf 0 (by decide)
  have e44 : vv 1 = _ := hf 1 (by decide)
  have e45 : vv 2 = _ := hf 2 (by decide)
  obtain ⟨g47, e47, h47, c47⟩ := hf 4 (by decide)
  replace e47 : vv 4 = _ := e47
  have e49 : vv 6 = _ := hf 6 (by decide)
  have e50 : vv 7 = _ := hf 7 (by decide)
  have e52 : vv 9 = _ := hf 9 (by decide)
  have e53 : vv 10 = _ := hf 10 (by decide)
  clear hf
  simp only [Relb.putD, e43, e44, e45, e47, e49, e50, e52, e53, Act.put, List.setIfInBounds_toArray, List.set_cons_zero, List.set_cons_succ]
  -- behind region 9
  have hg' : AddB base w4 v4 l4 (pre9 f t 4) (vv 11) wx := hg
  clear hg e43 e44 e45 e47 e49 e50 e52 e53
  generalize vv 11 = v9 at hg' ⊢
  have q14 := qcell hx 14 (.slice none 0 0) rfl
  have q0' := qcell hx 0 (.int .i64 4) rfl
  have hl9 : (l4 ++ pre9 f t 4).length ≤ 17592186044500 := by
    rw [List.length_append]
    have := HL4.out; have := digs_len1 hf; have := quote_len t; have := digs_len1 (n := 0) (by decide)
    simp [pre9]
    omega
  have ho9 := hg'.1.below (Below.alloc (Below.refl wx.heap.size wx) (Nat.le_refl _) (.cells #[.int .u8 41] 5))
  have hsr9 := src_blk (Blk.new wx 5 #[.int .u8 41]) [41] rfl
  have HG := Lib.hid hg'
  have hb9 : base ≤ wx.heap.size := Nat.le_trans hb4 hx.size
  clear hg' h47 c47
  go_wp2_with fail
  refine wp_loop_rounds 1 ?_
  rw [rounds_succ]
  go_wp2_with (at_builtin; refine wpList_addB rfl _ _ rfl rfl ho9 rfl hsr9 (by decide) (by simp; omega) (by rw [show [(41 : UInt8)].length = 1 from rfl]; omega) ?_; intro v10 w10 ha10)
  go_ret
  refine ⟨_, rfl, ?_⟩
  have h1 := HG.out.trans (ha10.pre (Below.alloc (Below.refl wx.heap.size wx) (Nat.le_refl _) _))
  rw [HE.out] at h1
  have h2 := (HA.out.trans h1).pre hbW
  have e : lineT f t = [40] ++ [116, 101, 114, 109] ++ (pre9 f t 4 ++ [41]) := by simp [lineT, pre9, List.append_assoc]
  rw [e]
  exact h2
end Go.Proofs.YtkcfgcdlnojaeaaGreatDoor.LineTerm
