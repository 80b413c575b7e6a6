/-
  The walk of bind.line over a term's query.
  The walks of bind's numbers, lists, good and Check over a term's query.
  The walk of bind.Text over a term's query.
-/
import Derived.Test.YtkcfgcdlnojaeaaGreatDoorDByt
import Derived.Test.YtkcfgcdlnojaeaaGreatDoorDRel
import Derived.Test.YtkcfgcdlnojaeaaGreatDoorDQry
import Derived.Deep.Cut
set_option linter.unusedVariables false
set_option linter.unusedSimpArgs false
namespace Go.Proofs.YtkcfgcdlnojaeaaGreatDoor.LineTerm
set_option maxRecDepth 100000
open Go.RowKit Go.PlainAid Base Query BindBase Bytes Digits Quoted Rel Relb RelbT RelC

def lineT (f : Nat) (t : ByteArray) : List UInt8 := [40] ++ [116, 101, 114, 109] ++ ([32] ++ digs f) ++ [32] ++ quoteL t ++ ([32] ++ digs 0) ++ [41]

theorem own_lt {w : World} {base : Nat} {v : Value} {l : List UInt8} (h : Byt w base v l) (g : Nat) (hg : w.heap.size ≤ g) : some g ≠ v.ownBlock := by
  intro e
  have := h.lt g e.symm
  omega

def pre9 (f : Nat) (t : ByteArray) : Nat → List UInt8
  | 0 => []
  | 1 => [] ++ ([32] ++ digs f)
  | 2 => [] ++ ([32] ++ digs f) ++ [32]
  | 3 => [] ++ ([32] ++ digs f) ++ [32] ++ quoteL t
  | _ => [] ++ ([32] ++ digs f) ++ [32] ++ quoteL t ++ ([32] ++ digs 0)
theorem digs_len1 {n : Nat} (h : n < 10) : (digs n).length = 1 := by rw [digs_small h]; rfl
theorem quote_len (t : ByteArray) : (quoteL t).length ≤ 3 * t.size + 2 := by
  unfold quoteL
  have := qfrom_len t t.size
  simp
  omega
theorem gb_post {w wx w' : World} {row : Option Nat} (h : w.grownBy wx row) (hb : Below wx.heap.size wx w') : w.grownBy w' row :=
  ⟨hb.os.trans h.os, hb.tape.trans h.tape, hb.output.trans h.output, Nat.le_trans h.size hb.size, fun k hk hne => (hb.block k (Nat.lt_of_lt_of_le hk h.size)).trans (h.block k hk hne)⟩
theorem lit_stays {v : Value} {w w' : World} (hle : Below w.heap.size w w' ∨ (w.heap.size ≤ w'.heap.size ∧ Heads 1 w w')) (h : ∃ g, v = .slice (some ⟨g, 0, none⟩) 1 1 ∧ g < w.heap.size ∧ w.cell? ⟨g, 0, none⟩ = some (.int .u8 32)) :
    ∃ g, v = .slice (some ⟨g, 0, none⟩) 1 1 ∧ g < w'.heap.size ∧ w'.cell? ⟨g, 0, none⟩ = some (.int .u8 32) := by
  obtain ⟨g, e, hg, hc⟩ := h
  rcases hle with hb | ⟨h1, h2⟩
  · exact ⟨g, e, Nat.lt_of_lt_of_le hg hb.size, (hb.cell hg).trans hc⟩
  · exact ⟨g, e, Nat.lt_of_lt_of_le hg h1, (h2 g 0 hg Nat.zero_lt_one).trans hc⟩
theorem src_cell {w : World} {g : Nat} (hc : w.cell? ⟨g, 0, none⟩ = some (.int .u8 32)) : Src Tryz.prog 1 82 (.slice (some ⟨g, 0, none⟩) 1 1) [(32 : UInt8)].length (Base.byteCells [32]) w :=
  Src.ofSlice (P := Tryz.prog) _ u8und ⟨g, 0, none⟩ 1 1 (Base.byteCells [32]) (by rw [bc_len]; rfl)
    (fun j u hu => by
      match j, hu with
      | 0, hu =>
        rw [Addr.add_lit, hc]
        exact hu)
    (fun u hu => by
      unfold Base.byteCells at hu
      obtain ⟨_, _, rfl⟩ := List.mem_map.1 hu
      rfl)
theorem chain_next {base : Nat} {w4 wx w' : World} {v4 x v' : Value} {l4 p m : List UInt8} (hg : AddB base w4 v4 l4 p x wx) (had : AddB base wx x (l4 ++ p) m v' w') (hl : 1 ≤ l4.length) :
    w4.grownBy w' v4.ownBlock ∧ (wx.heap.size ≤ w'.heap.size ∧ Heads 1 wx w') ∧ AddB base w4 v4 l4 (p ++ m) v' w' :=
  have h := hg.trans had
  ⟨h.2.1, ⟨had.2.1.size, fun g i hgs hi => had.2.2.2 g i hgs (by rw [List.length_append]; omega)⟩, h⟩

set_option maxHeartbeats 4000000 in
theorem line_term (f : Nat) (hf : f < 10) (t : ByteArray) (hp : Plain t) (v : Value) (l : List UInt8) (base : Nat) (w : World) (hown : Byt w base v l) (hb : base ≤ w.heap.size) (hl : l.length + 3 * t.size ≤ 17592186044416) :
    Calls Tryz.prog 46 #[v, .agg kindsA, .agg (bareQ 4 f t)] w (Adds base w v l (lineT f t)) := by
  have k9 : kindsA[49]? = some (.string ⟨#[116, 101, 114, 109]⟩) := by kernel_rfl
  generalize kindsA = K at *
  obtain ⟨W2, hW2⟩ : ∃ W, W = (w.alloc (.cells K 86)).alloc (.cells (bareQ 4 f t) 29) := ⟨_, rfl⟩
  have K1 : Blk W2 (w.heap.size + 1) 29 (bareQ 4 f t) := by
    rw [hW2]
    have := Blk.new (w.alloc (.cells K 86)) 29 (bareQ 4 f t)
    rwa [World.size_alloc] at this
  have hsz : w.heap.size + 1 + 1 = W2.heap.size := by rw [hW2]; simp
  have hbW : Below w.heap.size w W2 := by rw [hW2]; exact Base.bel
  have ho2 : Byt W2 base v l := hown.below hbW
  have ho3 := ho2.below (Below.alloc (Below.refl W2.heap.size W2) (Nat.le_refl _) (.cells #[.int .u8 40] 5))
  have hsr := src_blk (Blk.new W2 5 #[.int .u8 40]) [40] rfl
  have hne : some (w.heap.size + 1) ≠ v.ownBlock := own_lt hown _ (Nat.le_succ _)
  rw [← hsz] at hsr
  have HW := Lib.hid hW2
  unfold bareQ at hW2 ⊢
  rw [hW2] at ho3 hsr
  have HSZ := Lib.hid hsz
  clear hW2 hsz
  go_enter Tryz.func46, Tryz.ntmps46
  go_upto_region 9 with (first | (at_builtin; refine wpList_addB rfl _ _ rfl rfl ho3 rfl hsr (by decide) (by simp; omega) (by simp; omega) ?_; intro v3 w3 ha3) | (at_builtin; refine wpList_addB rfl _ _ rfl rfl ha3.1 rfl (src_str [116, 101, 114, 109]) (by decide) (by have := ha3.2.1.size; simp at this; omega) (by simp; omega) ?_; intro v4 w4 ha4; have hA := (ha3.trans ha4).pre (by rw [HW.out]; exact Below.alloc (Below.refl _ _) (Nat.le_refl _) _ : Below W2.heap.size W2 _); have KQ := K1.grown hA.2.1 hne; have q0 : w4.cell? ⟨w.heap.size + 1, 0, none⟩ = some (.int .i64 4) := KQ.cell 0))
  have h4 : Byt w4 base v4 (l ++ ([40] ++ [116, 101, 114, 109])) := hA.1
  have hne4 : some (w.heap.size + 1) ≠ v4.ownBlock := by
    rcases hA.2.2.1 with e | ⟨g, e, hg⟩
    · rw [e]; exact hne
    · rw [e]; intro h; cases h; have := HSZ.out; omega
  have hb4 : base ≤ w4.heap.size := Nat.le_trans (Nat.le_trans hb hbW.size) hA.2.1.size
  obtain ⟨l4, hl4⟩ : ∃ l4, l4 = l ++ ([40] ++ [116, 101, 114, 109]) := ⟨_, rfl⟩
  have H4 := Lib.hid (show Byt w4 base v4 l4 by rw [hl4]; exact h4)
  have HL4 := Lib.hid (show l4.length + 3 * t.size ≤ 17592186044421 by rw [hl4]; simp; omega)
  have H1 := Lib.hid (show 1 ≤ l4.length by rw [hl4]; simp)
  have HE := Lib.hid hl4
  have HA := Lib.hid hA
  have hlt4 : w.heap.size + 1 < w4.heap.size := by have := hA.2.1.size; have := HSZ.out; omega
  have qcell : ∀ {wx : World} (hx : w4.grownBy wx v4.ownBlock) (j : Nat) (u : Value) (_ : (bareQ 4 f t)[j]? = some u), wx.cell? ⟨w.heap.size + 1, j, none⟩ = some u := fun hx j u hu => ((KQ.grown hx hne4).cell j).trans hu
  clear ho2 ho3 hsr ha3 ha4 hA h4 hl4 k9 q0 hown
  refine RelC.wp_region_relc 12 (fun wx => w4.grownBy wx v4.ownBlock) (fun wa wb => Below wa.heap.size wa wb) (fun wa wb => wa.heap.size ≤ wb.heap.size ∧ Heads 1 wa wb) [3, 5, 8, 11] (fun i x wx => AddB base w4 v4 l4 (pre9 f t i) x wx) v4 (by kernel_rfl) (by kernel_rfl) (by kernel_rfl) (by simp) (by kernel_rfl) ⟨rfl, rfl, rfl, Nat.le_refl _, fun _ _ _ => rfl⟩ ((AddB.refl H4.out).post (bdrew (Below.refl _ _))) (fun _ _ _ _ hle h => h.post hle) ?_
  simp only [List.take_succ_cons, List.take_zero, List.drop_succ_cons, List.drop_zero]
  apply RelC.relc_one 1 [] rfl (by kernel_rfl) (by kernel_rfl) (by rfl)
  case hs =>
    intro vv wx hx hf
    clear hf
    try simp only [Relb.putD, Act.put, Base.s1, Base.s2, Base.s3]
    intro KK hK
    go_simp
    exact hK _ _ hx (Below.refl _ _) rfl
  apply RelC.relc_one 2 [] rfl (by kernel_rfl) (by kernel_rfl) (by rfl)
  case hs =>
    intro vv wx hx hf
    clear hf
    try simp only [Relb.putD, Act.put, Base.s1, Base.s2, Base.s3]
    intro KK hK
    go_simp
    exact hK _ _ hx (Below.refl _ _) rfl
  apply RelC.relc_one 3 [(1, 44)] rfl (by kernel_rfl) (by kernel_rfl) (by rfl)
  case hs =>
    intro vv wx hx hf
    have e44 : vv 1 = _ := hf 1 (by simp)
    clear hf
    have q1 := qcell hx 1 (.int .i64 f) rfl
    have q2 := qcell hx 2 (.string t) rfl
    have q6 := qcell hx 6 (.int .u64 0) rfl
    try simp only [Relb.putD, e44, Act.put, Base.s1, Base.s2, Base.s3]
    intro KK hK
    go_simp
    exact hK _ _ hx (Below.refl _ _) rfl
  apply RelC.relc_chain 0 4 [(0, 43), (2, 45)] rfl (by kernel_rfl) (by kernel_rfl) (by rfl)
  case hs =>
    intro vv wx hx hf hg
    have e43 : vv 0 = _ := hf 0 (by simp)
    have e45 : vv 2 = _ := hf 2 (by simp)
    clear hf
    have q1 := qcell hx 1 (.int .i64 f) rfl
    have q2 := qcell hx 2 (.string t) rfl
    have q6 := qcell hx 6 (.int .u64 0) rfl
    try simp only [Relb.putD, e43, e45, Act.put, Base.s1, Base.s2, Base.s3]
    intro KK hK
    go_simp
    go_at_call 80
    refine (number_any f hf hg.1 (Nat.le_trans hb4 hx.size) (by rw [List.length_append]; have := HL4.out; simp [pre9]; omega)).mono ?_
    rintro e w' ⟨v', rfl, had⟩
    obtain ⟨n1, n2, n3⟩ := chain_next hg had H1.out
    exact hK _ _ n1 n2 n3
  apply RelC.relc_kind 5 [] (fun x wx => ∃ g, x = .slice (some ⟨g, 0, none⟩) 1 1 ∧ g < wx.heap.size ∧ wx.cell? ⟨g, 0, none⟩ = some (.int .u8 32)) rfl (by kernel_rfl) (by kernel_rfl) (by rfl) (fun _ _ _ hle h => lit_stays hle h)
  case hs =>
    intro vv wx hx hf
    clear hf
    try simp only [Relb.putD, Act.put, Base.s1, Base.s2, Base.s3]
    intro KK hK
    go_simp
    exact hK _ _ (gb_post hx (Below.alloc (Below.refl _ _) (Nat.le_refl _) _)) (Below.alloc (Below.refl _ _) (Nat.le_refl _) _) ⟨wx.heap.size, rfl, by simp, by rw [World.cell?_alloc_mark]; rfl⟩
  apply RelC.relc_chain 1 6 [(3, 46), (4, 47)] rfl (by kernel_rfl) (by kernel_rfl) (by rfl)
  case hs =>
    intro vv wx hx hf hg
    obtain ⟨g47, e47, h47, c47⟩ := hf 4 (by simp)
    replace e47 : vv 4 = _ := e47
    clear hf
    have q1 := qcell hx 1 (.int .i64 f) rfl
    have q2 := qcell hx 2 (.string t) rfl
    have q6 := qcell hx 6 (.int .u64 0) rfl
    try simp only [Relb.putD, e47, Act.put, Base.s1, Base.s2, Base.s3]
    intro KK hK
    rw [if_pos (by rfl)]
    refine wp_addB _ _ (by rfl) (by rfl) hg.1 (by rfl) (src_cell c47) (by decide) (Nat.le_trans hb4 hx.size) (by rw [List.length_append]; have := HL4.out; have := digs_len1 hf; simp [pre9]; omega) ?_
    intro v' w' had
    obtain ⟨n1, n2, n3⟩ := chain_next hg had H1.out
    exact hK _ _ n1 n2 n3
  apply RelC.relc_one 7 [] rfl (by kernel_rfl) (by kernel_rfl) (by rfl)
  case hs =>
    intro vv wx hx hf
    clear hf
    try simp only [Relb.putD, Act.put, Base.s1, Base.s2, Base.s3]
    intro KK hK
    go_simp
    exact hK _ _ hx (Below.refl _ _) rfl
  apply RelC.relc_one 8 [(6, 49)] rfl (by kernel_rfl) (by kernel_rfl) (by rfl)
  case hs =>
    intro vv wx hx hf
    have e49 : vv 6 = _ := hf 6 (by simp)
    clear hf
    have q1 := qcell hx 1 (.int .i64 f) rfl
    have q2 := qcell hx 2 (.string t) rfl
    have q6 := qcell hx 6 (.int .u64 0) rfl
    try simp only [Relb.putD, e49, Act.put, Base.s1, Base.s2, Base.s3]
    intro KK hK
    go_simp
    exact hK _ _ hx (Below.refl _ _) rfl
  apply RelC.relc_chain 2 9 [(5, 48), (7, 50)] rfl (by kernel_rfl) (by kernel_rfl) (by rfl)
  case hs =>
    intro vv wx hx hf hg
    have e50 : vv 7 = _ := hf 7 (by simp)
    clear hf
    have q1 := qcell hx 1 (.int .i64 f) rfl
    have q2 := qcell hx 2 (.string t) rfl
    have q6 := qcell hx 6 (.int .u64 0) rfl
    try simp only [Relb.putD, e50, Act.put, Base.s1, Base.s2, Base.s3]
    intro KK hK
    go_simp
    go_at_call 82
    refine (quoted_plain t hp hg.1 (Nat.le_trans hb4 hx.size) (by rw [List.length_append]; have := HL4.out; have := digs_len1 hf; simp [pre9]; omega)).mono ?_
    rintro e w' ⟨v', rfl, had⟩
    obtain ⟨n1, n2, n3⟩ := chain_next hg had H1.out
    exact hK _ _ n1 n2 n3
  apply RelC.relc_one 10 [] rfl (by kernel_rfl) (by kernel_rfl) (by rfl)
  case hs =>
    intro vv wx hx hf
    clear hf
    try simp only [Relb.putD, Act.put, Base.s1, Base.s2, Base.s3]
    intro KK hK
    go_simp
    exact hK _ _ hx (Below.refl _ _) rfl
  apply RelC.relc_one 11 [(9, 52)] rfl (by kernel_rfl) (by kernel_rfl) (by rfl)
  case hs =>
    intro vv wx hx hf
    have e52 : vv 9 = _ := hf 9 (by simp)
    clear hf
    have q1 := qcell hx 1 (.int .i64 f) rfl
    have q2 := qcell hx 2 (.string t) rfl
    have q6 := qcell hx 6 (.int .u64 0) rfl
    try simp only [Relb.putD, e52, Act.put, Base.s1, Base.s2, Base.s3]
    intro KK hK
    go_simp
    exact hK _ _ hx (Below.refl _ _) rfl
  apply RelC.relc_chain 3 12 [(8, 51), (10, 53)] rfl (by kernel_rfl) (by kernel_rfl) (by rfl)
  case hs =>
    intro vv wx hx hf hg
    have e53 : vv 10 = _ := hf 10 (by simp)
    clear hf
    have q1 := qcell hx 1 (.int .i64 f) rfl
    have q2 := qcell hx 2 (.string t) rfl
    have q6 := qcell hx 6 (.int .u64 0) rfl
    try simp only [Relb.putD, e53, Act.put, Base.s1, Base.s2, Base.s3]
    intro KK hK
    go_simp
    go_at_call 81
    refine (weight_any 0 (by decide) hg.1 (Nat.le_trans hb4 hx.size) (by rw [List.length_append]; have := HL4.out; have := digs_len1 hf; have := quote_len t; simp [pre9]; omega)).mono ?_
    rintro e w' ⟨v', rfl, had⟩
    obtain ⟨n1, n2, n3⟩ := chain_next hg had H1.out
    exact hK _ _ n1 n2 n3
  refine RelC.relc_end [(0, 43), (1, 44), (2, 45), (3, 46), (4, 47), (5, 48), (6, 49), (7, 50), (8, 51), (9, 52), (10, 53), (11, 54)] (by kernel_rfl) (by kernel_rfl) ?_
  intro vv wx hx hf hg
  have e43 : vv 0 = _ := hf 0 (by decide)
  have e44 : vv 1 = _ := hf 1 (by decide)
  have e45 : vv 2 = _ := hf 2 (by decide)
  obtain ⟨g47, e47, h47, c47⟩ := hf 4 (by decide)
  replace e47 : vv 4 = _ := e47
  have e49 : vv 6 = _ := hf 6 (by decide)
  have e50 : vv 7 = _ := hf 7 (by decide)
  have e52 : vv 9 = _ := hf 9 (by decide)
  have e53 : vv 10 = _ := hf 10 (by decide)
  clear hf
  simp only [Relb.putD, e43, e44, e45, e47, e49, e50, e52, e53, Act.put, Base.s1, Base.s2, Base.s3]
  -- behind region 9
  have hg' : AddB base w4 v4 l4 (pre9 f t 4) (vv 11) wx := hg
  clear hg e43 e44 e45 e47 e49 e50 e52 e53
  generalize vv 11 = v9 at hg' ⊢
  have q14 := qcell hx 14 (.slice none 0 0) rfl
  have q0' := qcell hx 0 (.int .i64 4) rfl
  have hl9 : (l4 ++ pre9 f t 4).length ≤ 17592186044500 := by
    rw [List.length_append]
    have := HL4.out; have := digs_len1 hf; have := quote_len t; have := digs_len1 (n := 0) (by decide)
    simp [pre9]
    omega
  have ho9 := hg'.1.below (Below.alloc (Below.refl wx.heap.size wx) (Nat.le_refl _) (.cells #[.int .u8 41] 5))
  have hsr9 := src_blk (Blk.new wx 5 #[.int .u8 41]) [41] rfl
  have HG := Lib.hid hg'
  have hb9 : base ≤ wx.heap.size := Nat.le_trans hb4 hx.size
  clear hg' h47 c47
  go_wp2_with fail
  refine wp_loop_rounds 1 ?_
  rw [rounds_succ]
  go_wp2_with (at_builtin; refine wpList_addB rfl _ _ rfl rfl ho9 rfl hsr9 (by decide) (by simp; omega) (by rw [show [(41 : UInt8)].length = 1 from rfl]; omega) ?_; intro v10 w10 ha10)
  go_ret
  refine ⟨_, rfl, ?_⟩
  have h1 := HG.out.trans (ha10.pre (Below.alloc (Below.refl wx.heap.size wx) (Nat.le_refl _) _))
  rw [HE.out] at h1
  have h2 := (HA.out.trans h1).pre hbW
  have e : lineT f t = [40] ++ [116, 101, 114, 109] ++ (pre9 f t 4 ++ [41]) := by simp [lineT, pre9, List.append_assoc]
  rw [e]
  exact h2
end Go.Proofs.YtkcfgcdlnojaeaaGreatDoor.LineTerm

namespace Go.Proofs.YtkcfgcdlnojaeaaGreatDoor.TermCheck
set_option maxRecDepth 100000
open Go.RowKit Go.PlainAid Base Query OpenField BindBase

def row4 : Array Value := #[.bool true, .bool true, .bool true, .int .i64 0, .bool false, .bool false, .bool false, .int .i64 0, .bool true, .string ⟨#[116, 101, 114, 109]⟩]
def inF (f n : Int) : Bool := decide (0 ≤ f) && decide (f < n)
theorem inF_yes {f n : Int} (h1 : 0 ≤ f) (h2 : f < n) : inF f n = true := by unfold inF; rw [decide_eq_true h1, decide_eq_true h2]; rfl
theorem inF_no {f n : Int} (h : ¬ (0 ≤ f ∧ f < n)) : inF f n = false := by
  unfold inF
  rcases (by omega : ¬ 0 ≤ f ∨ ¬ f < n) with h | h
  · rw [decide_eq_false h]; rfl
  · rw [decide_eq_false h, Bool.and_false]

set_option maxHeartbeats 2000000 in
theorem numbers_term (f n : Int) (t : ByteArray) (w : World) : Calls Tryz.prog 97 #[.agg row4, .agg (bareQ 4 f t), .int .i64 n] w fun e w' => e = .returned (.bool (inF f n)) ∧ Below w.heap.size w w' := by
  unfold row4 bareQ
  rcases (by omega : f < 0 ∨ (0 ≤ f ∧ n ≤ f) ∨ (0 ≤ f ∧ f < n)) with h | ⟨h1, h2⟩ | ⟨h1, h2⟩
  · rw [inF_no (by omega)]
    have d1 : decide (f < 0) = true := decide_eq_true h
    clear h
    go_enter Tryz.func97, Tryz.ntmps97
    go_wp2_with fail
    go_ret
    exact ⟨rfl, (by exact Base.bel)⟩
  · rw [inF_no (by omega)]
    have d1 : decide (f < 0) = false := decide_eq_false (by omega)
    have d2 : decide (n ≤ f) = true := decide_eq_true h2
    clear h1 h2
    go_enter Tryz.func97, Tryz.ntmps97
    go_wp2_with fail
    go_ret
    exact ⟨rfl, (by exact Base.bel)⟩
  · rw [inF_yes h1 h2]
    have d1 : decide (f < 0) = false := decide_eq_false (by omega)
    have d2 : decide (n ≤ f) = false := decide_eq_false (by omega)
    clear h1 h2
    go_enter Tryz.func97, Tryz.ntmps97
    go_wp2_with fail
    go_ret
    exact ⟨rfl, (by exact Base.bel)⟩

set_option maxHeartbeats 2000000 in
theorem lists_term (f : Int) (t : ByteArray) (w : World) : Calls Tryz.prog 98 #[.agg row4, .agg (bareQ 4 f t)] w fun e w' => e = .returned (.bool true) ∧ Below w.heap.size w w' := by
  unfold row4 bareQ
  go_enter Tryz.func98, Tryz.ntmps98
  go_wp2_with fail
  refine wp_loop_rounds 1 ?_
  rw [rounds_succ]
  go_wp2_with fail
  refine wp_loop_rounds 1 ?_
  rw [rounds_succ]
  go_wp2_with fail
  go_ret
  exact ⟨rfl, (by exact Base.bel)⟩

set_option maxHeartbeats 4000000 in
theorem good_term (f n : Int) (t : ByteArray) (p : Bool) (w : World) : Calls Tryz.prog 55 #[.agg kindsA, .agg (bareQ 4 f t), .int .i64 n, .bool p] w fun e w' => e = .returned (.bool (inF f n)) ∧ Below w.heap.size w w' := by
  have k0 : kindsA[40]? = some (.bool true) := by kernel_rfl
  have k1 : kindsA[41]? = some (.bool true) := by kernel_rfl
  have k2 : kindsA[42]? = some (.bool true) := by kernel_rfl
  have k3 : kindsA[43]? = some (.int .i64 0) := by kernel_rfl
  have k4 : kindsA[44]? = some (.bool false) := by kernel_rfl
  have k5 : kindsA[45]? = some (.bool false) := by kernel_rfl
  have k6 : kindsA[46]? = some (.bool false) := by kernel_rfl
  have k7 : kindsA[47]? = some (.int .i64 0) := by kernel_rfl
  have k8 : kindsA[48]? = some (.bool true) := by kernel_rfl
  have k9 : kindsA[49]? = some (.string ⟨#[116, 101, 114, 109]⟩) := by kernel_rfl
  generalize kindsA = K at *
  unfold bareQ
  have NT := Lib.hid (fun W => numbers_term f n t W)
  have LT := Lib.hid (fun W => lists_term f t W)
  unfold bareQ row4 at NT LT
  obtain ⟨W3, hW3⟩ : ∃ W, W = ((w.alloc (.cells K 86)).alloc (.cells (bareQ 4 f t) 29)).alloc (.cells row4 85) := ⟨_, rfl⟩
  have K1 : Blk W3 (w.heap.size + 1) 29 (bareQ 4 f t) := by
    rw [hW3]
    have := (Blk.new (w.alloc (.cells K 86)) 29 (bareQ 4 f t)).alloc (.cells row4 85)
    rwa [World.size_alloc] at this
  have K2 : Blk W3 (w.heap.size + 1 + 1) 85 row4 := by
    rw [hW3]
    have := Blk.new ((w.alloc (.cells K 86)).alloc (.cells (bareQ 4 f t) 29)) 85 row4
    rwa [World.size_alloc, World.size_alloc] at this
  have hsz : w.heap.size + 3 = W3.heap.size := by rw [hW3]; simp
  have hbW : Below w.heap.size w W3 := by rw [hW3]; exact Base.bel
  have HW := Lib.hid hW3
  clear hW3
  by_cases hb : inF f n = true
  · rw [hb] at NT ⊢
    clear hb
    cases p
    all_goals
      go_enter Tryz.func55, Tryz.ntmps55
      go_wp2_with (first | (go_at_call 97; refine (NT.out _).mono ?_; rintro e w2 ⟨rfl, hb2⟩; have q2 : Below W3.heap.size W3 w2 := (by rw [HW.out]; exact hb2); have aq0 : w2.cell? ⟨w.heap.size + 1, 0, none⟩ = some (.int .i64 4) := (K1.below q2 (by omega)).cell 0; have aq1 : w2.cell? ⟨w.heap.size + 1, 1, none⟩ = some (.int .i64 f) := (K1.below q2 (by omega)).cell 1; have aq2 : w2.cell? ⟨w.heap.size + 1, 2, none⟩ = some (.string t) := (K1.below q2 (by omega)).cell 2; have aq3 : w2.cell? ⟨w.heap.size + 1, 3, none⟩ = some (.slice none 0 0) := (K1.below q2 (by omega)).cell 3; have aq4 : w2.cell? ⟨w.heap.size + 1, 4, none⟩ = some (.slice none 0 0) := (K1.below q2 (by omega)).cell 4; have aq5 : w2.cell? ⟨w.heap.size + 1, 5, none⟩ = some (.int .i64 0) := (K1.below q2 (by omega)).cell 5; have aq6 : w2.cell? ⟨w.heap.size + 1, 6, none⟩ = some (.int .u64 0) := (K1.below q2 (by omega)).cell 6; have aq7 : w2.cell? ⟨w.heap.size + 1, 7, none⟩ = some (.bool false) := (K1.below q2 (by omega)).cell 7; have aq8 : w2.cell? ⟨w.heap.size + 1, 8, none⟩ = some (.bool false) := (K1.below q2 (by omega)).cell 8; have aq9 : w2.cell? ⟨w.heap.size + 1, 9, none⟩ = some (.string ⟨#[]⟩) := (K1.below q2 (by omega)).cell 9; have aq10 : w2.cell? ⟨w.heap.size + 1, 10, none⟩ = some (.bool false) := (K1.below q2 (by omega)).cell 10; have aq11 : w2.cell? ⟨w.heap.size + 1, 11, none⟩ = some (.bool false) := (K1.below q2 (by omega)).cell 11; have aq12 : w2.cell? ⟨w.heap.size + 1, 12, none⟩ = some (.string ⟨#[]⟩) := (K1.below q2 (by omega)).cell 12; have aq13 : w2.cell? ⟨w.heap.size + 1, 13, none⟩ = some (.slice none 0 0) := (K1.below q2 (by omega)).cell 13; have aq14 : w2.cell? ⟨w.heap.size + 1, 14, none⟩ = some (.slice none 0 0) := (K1.below q2 (by omega)).cell 14; have ar0 : w2.cell? ⟨w.heap.size + 1 + 1, 0, none⟩ = some (.bool true) := (K2.below q2 (by omega)).cell 0; have ar1 : w2.cell? ⟨w.heap.size + 1 + 1, 1, none⟩ = some (.bool true) := (K2.below q2 (by omega)).cell 1; have ar2 : w2.cell? ⟨w.heap.size + 1 + 1, 2, none⟩ = some (.bool true) := (K2.below q2 (by omega)).cell 2; have ar3 : w2.cell? ⟨w.heap.size + 1 + 1, 3, none⟩ = some (.int .i64 0) := (K2.below q2 (by omega)).cell 3; have ar4 : w2.cell? ⟨w.heap.size + 1 + 1, 4, none⟩ = some (.bool false) := (K2.below q2 (by omega)).cell 4; have ar5 : w2.cell? ⟨w.heap.size + 1 + 1, 5, none⟩ = some (.bool false) := (K2.below q2 (by omega)).cell 5; have ar6 : w2.cell? ⟨w.heap.size + 1 + 1, 6, none⟩ = some (.bool false) := (K2.below q2 (by omega)).cell 6; have ar7 : w2.cell? ⟨w.heap.size + 1 + 1, 7, none⟩ = some (.int .i64 0) := (K2.below q2 (by omega)).cell 7; have ar8 : w2.cell? ⟨w.heap.size + 1 + 1, 8, none⟩ = some (.bool true) := (K2.below q2 (by omega)).cell 8; have ar9 : w2.cell? ⟨w.heap.size + 1 + 1, 9, none⟩ = some (.string ⟨#[116, 101, 114, 109]⟩) := (K2.below q2 (by omega)).cell 9) | (go_at_call 98; refine (LT.out _).mono ?_; rintro e w3 ⟨rfl, hb3⟩; have q3 : Below W3.heap.size W3 w3 := bchain q2 hb3; have bq0 : w3.cell? ⟨w.heap.size + 1, 0, none⟩ = some (.int .i64 4) := (K1.below q3 (by omega)).cell 0; have bq1 : w3.cell? ⟨w.heap.size + 1, 1, none⟩ = some (.int .i64 f) := (K1.below q3 (by omega)).cell 1; have bq2 : w3.cell? ⟨w.heap.size + 1, 2, none⟩ = some (.string t) := (K1.below q3 (by omega)).cell 2; have bq3 : w3.cell? ⟨w.heap.size + 1, 3, none⟩ = some (.slice none 0 0) := (K1.below q3 (by omega)).cell 3; have bq4 : w3.cell? ⟨w.heap.size + 1, 4, none⟩ = some (.slice none 0 0) := (K1.below q3 (by omega)).cell 4; have bq5 : w3.cell? ⟨w.heap.size + 1, 5, none⟩ = some (.int .i64 0) := (K1.below q3 (by omega)).cell 5; have bq6 : w3.cell? ⟨w.heap.size + 1, 6, none⟩ = some (.int .u64 0) := (K1.below q3 (by omega)).cell 6; have bq7 : w3.cell? ⟨w.heap.size + 1, 7, none⟩ = some (.bool false) := (K1.below q3 (by omega)).cell 7; have bq8 : w3.cell? ⟨w.heap.size + 1, 8, none⟩ = some (.bool false) := (K1.below q3 (by omega)).cell 8; have bq9 : w3.cell? ⟨w.heap.size + 1, 9, none⟩ = some (.string ⟨#[]⟩) := (K1.below q3 (by omega)).cell 9; have bq10 : w3.cell? ⟨w.heap.size + 1, 10, none⟩ = some (.bool false) := (K1.below q3 (by omega)).cell 10; have bq11 : w3.cell? ⟨w.heap.size + 1, 11, none⟩ = some (.bool false) := (K1.below q3 (by omega)).cell 11; have bq12 : w3.cell? ⟨w.heap.size + 1, 12, none⟩ = some (.string ⟨#[]⟩) := (K1.below q3 (by omega)).cell 12; have bq13 : w3.cell? ⟨w.heap.size + 1, 13, none⟩ = some (.slice none 0 0) := (K1.below q3 (by omega)).cell 13; have bq14 : w3.cell? ⟨w.heap.size + 1, 14, none⟩ = some (.slice none 0 0) := (K1.below q3 (by omega)).cell 14))
      refine wp_loop_rounds 1 ?_
      rw [rounds_succ]
      go_wp2_with fail
      go_ret
      exact ⟨rfl, (by exact Base.bel)⟩
  · have hb : inF f n = false := by simpa using hb
    rw [hb] at NT ⊢
    clear hb
    cases p
    all_goals
      go_enter Tryz.func55, Tryz.ntmps55
      go_wp2_with (first | (go_at_call 97; refine (NT.out _).mono ?_; rintro e w2 ⟨rfl, hb2⟩; have q2 : Below W3.heap.size W3 w2 := (by rw [HW.out]; exact hb2); have aq0 : w2.cell? ⟨w.heap.size + 1, 0, none⟩ = some (.int .i64 4) := (K1.below q2 (by omega)).cell 0; have aq1 : w2.cell? ⟨w.heap.size + 1, 1, none⟩ = some (.int .i64 f) := (K1.below q2 (by omega)).cell 1; have aq2 : w2.cell? ⟨w.heap.size + 1, 2, none⟩ = some (.string t) := (K1.below q2 (by omega)).cell 2; have aq3 : w2.cell? ⟨w.heap.size + 1, 3, none⟩ = some (.slice none 0 0) := (K1.below q2 (by omega)).cell 3; have aq4 : w2.cell? ⟨w.heap.size + 1, 4, none⟩ = some (.slice none 0 0) := (K1.below q2 (by omega)).cell 4; have aq5 : w2.cell? ⟨w.heap.size + 1, 5, none⟩ = some (.int .i64 0) := (K1.below q2 (by omega)).cell 5; have aq6 : w2.cell? ⟨w.heap.size + 1, 6, none⟩ = some (.int .u64 0) := (K1.below q2 (by omega)).cell 6; have aq7 : w2.cell? ⟨w.heap.size + 1, 7, none⟩ = some (.bool false) := (K1.below q2 (by omega)).cell 7; have aq8 : w2.cell? ⟨w.heap.size + 1, 8, none⟩ = some (.bool false) := (K1.below q2 (by omega)).cell 8; have aq9 : w2.cell? ⟨w.heap.size + 1, 9, none⟩ = some (.string ⟨#[]⟩) := (K1.below q2 (by omega)).cell 9; have aq10 : w2.cell? ⟨w.heap.size + 1, 10, none⟩ = some (.bool false) := (K1.below q2 (by omega)).cell 10; have aq11 : w2.cell? ⟨w.heap.size + 1, 11, none⟩ = some (.bool false) := (K1.below q2 (by omega)).cell 11; have aq12 : w2.cell? ⟨w.heap.size + 1, 12, none⟩ = some (.string ⟨#[]⟩) := (K1.below q2 (by omega)).cell 12; have aq13 : w2.cell? ⟨w.heap.size + 1, 13, none⟩ = some (.slice none 0 0) := (K1.below q2 (by omega)).cell 13; have aq14 : w2.cell? ⟨w.heap.size + 1, 14, none⟩ = some (.slice none 0 0) := (K1.below q2 (by omega)).cell 14; have ar0 : w2.cell? ⟨w.heap.size + 1 + 1, 0, none⟩ = some (.bool true) := (K2.below q2 (by omega)).cell 0; have ar1 : w2.cell? ⟨w.heap.size + 1 + 1, 1, none⟩ = some (.bool true) := (K2.below q2 (by omega)).cell 1; have ar2 : w2.cell? ⟨w.heap.size + 1 + 1, 2, none⟩ = some (.bool true) := (K2.below q2 (by omega)).cell 2; have ar3 : w2.cell? ⟨w.heap.size + 1 + 1, 3, none⟩ = some (.int .i64 0) := (K2.below q2 (by omega)).cell 3; have ar4 : w2.cell? ⟨w.heap.size + 1 + 1, 4, none⟩ = some (.bool false) := (K2.below q2 (by omega)).cell 4; have ar5 : w2.cell? ⟨w.heap.size + 1 + 1, 5, none⟩ = some (.bool false) := (K2.below q2 (by omega)).cell 5; have ar6 : w2.cell? ⟨w.heap.size + 1 + 1, 6, none⟩ = some (.bool false) := (K2.below q2 (by omega)).cell 6; have ar7 : w2.cell? ⟨w.heap.size + 1 + 1, 7, none⟩ = some (.int .i64 0) := (K2.below q2 (by omega)).cell 7; have ar8 : w2.cell? ⟨w.heap.size + 1 + 1, 8, none⟩ = some (.bool true) := (K2.below q2 (by omega)).cell 8; have ar9 : w2.cell? ⟨w.heap.size + 1 + 1, 9, none⟩ = some (.string ⟨#[116, 101, 114, 109]⟩) := (K2.below q2 (by omega)).cell 9) | (go_at_call 98; refine (LT.out _).mono ?_; rintro e w3 ⟨rfl, hb3⟩; have q3 : Below W3.heap.size W3 w3 := bchain q2 hb3; have bq0 : w3.cell? ⟨w.heap.size + 1, 0, none⟩ = some (.int .i64 4) := (K1.below q3 (by omega)).cell 0; have bq1 : w3.cell? ⟨w.heap.size + 1, 1, none⟩ = some (.int .i64 f) := (K1.below q3 (by omega)).cell 1; have bq2 : w3.cell? ⟨w.heap.size + 1, 2, none⟩ = some (.string t) := (K1.below q3 (by omega)).cell 2; have bq3 : w3.cell? ⟨w.heap.size + 1, 3, none⟩ = some (.slice none 0 0) := (K1.below q3 (by omega)).cell 3; have bq4 : w3.cell? ⟨w.heap.size + 1, 4, none⟩ = some (.slice none 0 0) := (K1.below q3 (by omega)).cell 4; have bq5 : w3.cell? ⟨w.heap.size + 1, 5, none⟩ = some (.int .i64 0) := (K1.below q3 (by omega)).cell 5; have bq6 : w3.cell? ⟨w.heap.size + 1, 6, none⟩ = some (.int .u64 0) := (K1.below q3 (by omega)).cell 6; have bq7 : w3.cell? ⟨w.heap.size + 1, 7, none⟩ = some (.bool false) := (K1.below q3 (by omega)).cell 7; have bq8 : w3.cell? ⟨w.heap.size + 1, 8, none⟩ = some (.bool false) := (K1.below q3 (by omega)).cell 8; have bq9 : w3.cell? ⟨w.heap.size + 1, 9, none⟩ = some (.string ⟨#[]⟩) := (K1.below q3 (by omega)).cell 9; have bq10 : w3.cell? ⟨w.heap.size + 1, 10, none⟩ = some (.bool false) := (K1.below q3 (by omega)).cell 10; have bq11 : w3.cell? ⟨w.heap.size + 1, 11, none⟩ = some (.bool false) := (K1.below q3 (by omega)).cell 11; have bq12 : w3.cell? ⟨w.heap.size + 1, 12, none⟩ = some (.string ⟨#[]⟩) := (K1.below q3 (by omega)).cell 12; have bq13 : w3.cell? ⟨w.heap.size + 1, 13, none⟩ = some (.slice none 0 0) := (K1.below q3 (by omega)).cell 13; have bq14 : w3.cell? ⟨w.heap.size + 1, 14, none⟩ = some (.slice none 0 0) := (K1.below q3 (by omega)).cell 14))
      go_ret
      exact ⟨rfl, (by exact Base.bel)⟩

def errUnless (b : Bool) (ev : Value) : Value := if b then .nilIface else ev
set_option maxHeartbeats 4000000 in
theorem check_term (f n : Int) (t : ByteArray) (p : Bool) (ev : Value) (w : World) (he : w.cell? ⟨1, 0, none⟩ = some ev) (h0 : 1 < w.heap.size) :
    Calls Tryz.prog 19 #[.agg (bareQ 4 f t), .int .i64 n, .bool p] w fun e w' => e = .returned (errUnless (inF f n) ev) ∧ Below w.heap.size w w' := by
  obtain ⟨W1, hW1⟩ : ∃ W, W = w.alloc (.cells (bareQ 4 f t) 29) := ⟨_, rfl⟩
  have K1 : Blk W1 w.heap.size 29 (bareQ 4 f t) := by rw [hW1]; exact Blk.new w _ _
  have hsz : w.heap.size + 1 = W1.heap.size := by rw [hW1]; simp
  have hbW : Below w.heap.size w W1 := by rw [hW1]; exact Base.bel
  have z0 := Bw.cell (B := W1.heap.size) (show W1.cell? ⟨w.heap.size, 0, none⟩ = some (.int .i64 4) from K1.cell 0) (by show w.heap.size < _; omega)
  have z1 := Bw.cell (B := W1.heap.size) (show W1.cell? ⟨w.heap.size, 1, none⟩ = some (.int .i64 f) from K1.cell 1) (by show w.heap.size < _; omega)
  have z2 := Bw.cell (B := W1.heap.size) (show W1.cell? ⟨w.heap.size, 2, none⟩ = some (.string t) from K1.cell 2) (by show w.heap.size < _; omega)
  have z3 := Bw.cell (B := W1.heap.size) (show W1.cell? ⟨w.heap.size, 3, none⟩ = some (.slice none 0 0) from K1.cell 3) (by show w.heap.size < _; omega)
  have z4 := Bw.cell (B := W1.heap.size) (show W1.cell? ⟨w.heap.size, 4, none⟩ = some (.slice none 0 0) from K1.cell 4) (by show w.heap.size < _; omega)
  have z5 := Bw.cell (B := W1.heap.size) (show W1.cell? ⟨w.heap.size, 5, none⟩ = some (.int .i64 0) from K1.cell 5) (by show w.heap.size < _; omega)
  have z6 := Bw.cell (B := W1.heap.size) (show W1.cell? ⟨w.heap.size, 6, none⟩ = some (.int .u64 0) from K1.cell 6) (by show w.heap.size < _; omega)
  have z7 := Bw.cell (B := W1.heap.size) (show W1.cell? ⟨w.heap.size, 7, none⟩ = some (.bool false) from K1.cell 7) (by show w.heap.size < _; omega)
  have z8 := Bw.cell (B := W1.heap.size) (show W1.cell? ⟨w.heap.size, 8, none⟩ = some (.bool false) from K1.cell 8) (by show w.heap.size < _; omega)
  have z9 := Bw.cell (B := W1.heap.size) (show W1.cell? ⟨w.heap.size, 9, none⟩ = some (.string ⟨#[]⟩) from K1.cell 9) (by show w.heap.size < _; omega)
  have z10 := Bw.cell (B := W1.heap.size) (show W1.cell? ⟨w.heap.size, 10, none⟩ = some (.bool false) from K1.cell 10) (by show w.heap.size < _; omega)
  have z11 := Bw.cell (B := W1.heap.size) (show W1.cell? ⟨w.heap.size, 11, none⟩ = some (.bool false) from K1.cell 11) (by show w.heap.size < _; omega)
  have z12 := Bw.cell (B := W1.heap.size) (show W1.cell? ⟨w.heap.size, 12, none⟩ = some (.string ⟨#[]⟩) from K1.cell 12) (by show w.heap.size < _; omega)
  have z13 := Bw.cell (B := W1.heap.size) (show W1.cell? ⟨w.heap.size, 13, none⟩ = some (.slice none 0 0) from K1.cell 13) (by show w.heap.size < _; omega)
  have z14 := Bw.cell (B := W1.heap.size) (show W1.cell? ⟨w.heap.size, 14, none⟩ = some (.slice none 0 0) from K1.cell 14) (by show w.heap.size < _; omega)
  obtain ⟨r, hr⟩ : ∃ r, r = inF f n := ⟨_, rfl⟩
  have KA : ∀ b : Bw W1.heap.size W1, Calls Tryz.prog 47 #[] b.at_ fun e w' => e = .returned (.agg kindsA) ∧ ∃ b' : Bw W1.heap.size W1, w' = b'.at_ := fun b => calls_bw (Nat.le_refl _) (kinds_any _)
  have GT : ∀ b : Bw W1.heap.size W1, Calls Tryz.prog 55 #[.agg kindsA, .agg (bareQ 4 f t), .int .i64 n, .bool p] b.at_ fun e w' => e = .returned (.bool r) ∧ ∃ b' : Bw W1.heap.size W1, w' = b'.at_ := fun b => hr ▸ calls_bw (Nat.le_refl _) (good_term f n t p _)
  rw [← hr]
  generalize kindsA = K at KA GT
  unfold bareQ at GT hW1 ⊢
  have HW := Lib.hid hW1
  clear hW1 hr
  cases r
  · go_enter Tryz.func19, Tryz.ntmps19
    go_upto_region 1 with fail
    rw [← HW.out]
    refine wp_region_bw W1.heap.size (by kernel_rfl) (by kernel_rfl) ?_
    repeat (go_big_quiet_step ((first | (go_at_call 47; with_reducible exact KA _) | (go_at_call 55; with_reducible exact GT _))))
    refine wpQuiet_nil ?_
    intro _ hw'
    obtain ⟨⟨wq, hbq⟩, hw''⟩ := hw'
    subst hw''
    have he2 := (hbq.cell (p := ⟨1, 0, none⟩) (by show 1 < _; omega)).trans ((hbW.cell (p := ⟨1, 0, none⟩) h0).trans he)
    go_wp2_with fail
    go_ret
    exact ⟨rfl, bchain hbW hbq⟩
  · go_enter Tryz.func19, Tryz.ntmps19
    go_upto_region 1 with fail
    rw [← HW.out]
    refine wp_region_bw W1.heap.size (by kernel_rfl) (by kernel_rfl) ?_
    repeat (go_big_quiet_step ((first | (go_at_call 47; with_reducible exact KA _) | (go_at_call 55; with_reducible exact GT _))))
    refine wpQuiet_nil ?_
    intro _ hw'
    obtain ⟨⟨wq, hbq⟩, hw''⟩ := hw'
    subst hw''
    have he2 := (hbq.cell (p := ⟨1, 0, none⟩) (by show 1 < _; omega)).trans ((hbW.cell (p := ⟨1, 0, none⟩) h0).trans he)
    go_wp2_with fail
    go_ret
    exact ⟨rfl, bchain hbW hbq⟩
end Go.Proofs.YtkcfgcdlnojaeaaGreatDoor.TermCheck

namespace Go.Proofs.YtkcfgcdlnojaeaaGreatDoor.TextTerm
set_option maxRecDepth 100000
open Go.RowKit Go.PlainAid Base Query BindBase TermCheck Bytes Digits Quoted Rel Relb RelbT RelC LineTerm

set_option maxHeartbeats 4000000 in
theorem text_term (f : Nat) (hf : f < 10) (t : ByteArray) (hp : Plain t) (ev : Value) (w : World) (ht : t.size ≤ 1048576) (he : w.cell? ⟨1, 0, none⟩ = some ev) (h0 : 1 < w.heap.size) :
    Calls Tryz.prog 13 #[.agg (bareQ 4 f t)] w fun e w' => e = .returned (.string ⟨(lineT f t).toArray⟩) ∧ Below w.heap.size w w' := by
  obtain ⟨W0, hW0⟩ : ∃ W, W = w.alloc (.cells (bareQ 4 f t) 29) := ⟨_, rfl⟩
  have K1 : Blk W0 w.heap.size 29 (bareQ 4 f t) := by rw [hW0]; exact Blk.new w _ _
  have hsz : w.heap.size + 1 = W0.heap.size := by rw [hW0]; simp
  have hbW : Below w.heap.size w W0 := by rw [hW0]; exact Base.bel
  have CT := Lib.hid (check_term f 16 t false ev W0 ((hbW.cell (p := ⟨1, 0, none⟩) h0).trans he) (Nat.lt_of_lt_of_le h0 hbW.size))
  have hin : errUnless (inF f 16) ev = .nilIface := by rw [inF_yes (by omega) (by omega)]; rfl
  rw [hin] at CT
  have LT := Lib.hid (fun W => line_term f hf t hp (.slice none 0 0) [] 0 W (World.ownsRow_nil _ _ _ _) (Nat.zero_le _) (by simp; omega))
  have HW := Lib.hid hW0
  unfold bareQ at CT LT hW0 ⊢
  rw [hW0] at CT
  clear hW0 hin he
  go_enter Tryz.func13, Tryz.ntmps13
  go_upto_region 3 with (go_at_call 19; refine CT.out.mono ?_; rintro e W1 ⟨rfl, hb1⟩)
  have hb01 : Below W0.heap.size W0 W1 := by rw [HW.out]; exact hb1
  have KQ := K1.below hb01 (by omega)
  have hlt1 : w.heap.size < W1.heap.size := KQ.lt
  have qcell : ∀ {wx : World} (hx : Below W1.heap.size W1 wx) (j : Nat) (u : Value) (_ : (bareQ 4 f t)[j]? = some u), wx.cell? ⟨w.heap.size, j, none⟩ = some u := fun hx j u hu => ((KQ.below hx hlt1).cell j).trans hu
  clear CT
  refine RelbT.wp_region_relbt 2 (fun wx => Below W1.heap.size W1 wx) (fun wa wb => Below wa.heap.size wa wb) (by kernel_rfl) (by kernel_rfl) (by kernel_rfl) (by simp) (bdrew (Below.refl _ _)) ?_
  simp only [List.take_succ_cons, List.take_zero, List.drop_succ_cons, List.drop_zero]
  apply Relb.relb_one [] [] (by kernel_rfl) (by kernel_rfl) (by kernel_rfl)
  case hs =>
    intro vv wx hx hf
    clear hf
    have y0 := qcell hx 0 (.int .i64 4) rfl
    have y1 := qcell hx 1 (.int .i64 f) rfl
    have y2 := qcell hx 2 (.string t) rfl
    have y3 := qcell hx 3 (.slice none 0 0) rfl
    have y4 := qcell hx 4 (.slice none 0 0) rfl
    have y5 := qcell hx 5 (.int .i64 0) rfl
    have y6 := qcell hx 6 (.int .u64 0) rfl
    have y7 := qcell hx 7 (.bool false) rfl
    have y8 := qcell hx 8 (.bool false) rfl
    have y9 := qcell hx 9 (.string ⟨#[]⟩) rfl
    have y10 := qcell hx 10 (.bool false) rfl
    have y11 := qcell hx 11 (.bool false) rfl
    have y12 := qcell hx 12 (.string ⟨#[]⟩) rfl
    have y13 := qcell hx 13 (.slice none 0 0) rfl
    have y14 := qcell hx 14 (.slice none 0 0) rfl
    try simp only [Relb.putD, Act.put, Base.s1, Base.s2, Base.s3]
    intro KK hK
    go_simp
    go_at_call 47
    refine (kinds_any _).mono ?_
    rintro e w2 ⟨rfl, hb2⟩
    exact hK _ _ (bchain hx hb2) hb2 rfl
  apply Relb.relb_one [] [] (by kernel_rfl) (by kernel_rfl) (by kernel_rfl)
  case hs =>
    intro vv wx hx hf
    clear hf
    have y0 := qcell hx 0 (.int .i64 4) rfl
    have y1 := qcell hx 1 (.int .i64 f) rfl
    have y2 := qcell hx 2 (.string t) rfl
    have y3 := qcell hx 3 (.slice none 0 0) rfl
    have y4 := qcell hx 4 (.slice none 0 0) rfl
    have y5 := qcell hx 5 (.int .i64 0) rfl
    have y6 := qcell hx 6 (.int .u64 0) rfl
    have y7 := qcell hx 7 (.bool false) rfl
    have y8 := qcell hx 8 (.bool false) rfl
    have y9 := qcell hx 9 (.string ⟨#[]⟩) rfl
    have y10 := qcell hx 10 (.bool false) rfl
    have y11 := qcell hx 11 (.bool false) rfl
    have y12 := qcell hx 12 (.string ⟨#[]⟩) rfl
    have y13 := qcell hx 13 (.slice none 0 0) rfl
    have y14 := qcell hx 14 (.slice none 0 0) rfl
    try simp only [Relb.putD, Act.put, Base.s1, Base.s2, Base.s3]
    intro KK hK
    go_simp
    exact hK _ _ hx (Below.refl _ _) rfl
  refine RelbT.relbt_end [(0, 6), (1, 7)] (by kernel_rfl) (by kernel_rfl) ?_
  intro vv wx hx hf
  have e6 : vv 0 = _ := hf 0 (by decide)
  have e7 : vv 1 = _ := hf 1 (by decide)
  clear hf
  simp only [Relb.putD, e6, e7, Act.put, Base.s1, Base.s2, Base.s3]
  clear e6 e7
  go_wp2_with (go_at_call 46; refine (LT.out _).mono ?_; rintro e w5 ⟨v5, rfl, ha5⟩; have hcv := run_string_own (P := Tryz.prog) (B := 82) (S := 9) u8und Tryz.underlying5 Tryz.underlying9 ha5.1; rw [List.nil_append] at hcv)
  go_ret
  have hb5 : Below wx.heap.size wx w5 := ⟨ha5.2.1.os, ha5.2.1.tape, ha5.2.1.output, ha5.2.1.size, fun k hk => ha5.2.1.block k hk (by intro h; cases h)⟩
  exact ⟨rfl, bchain (bchain (bchain hbW hb01) hx) hb5⟩
end Go.Proofs.YtkcfgcdlnojaeaaGreatDoor.TextTerm
