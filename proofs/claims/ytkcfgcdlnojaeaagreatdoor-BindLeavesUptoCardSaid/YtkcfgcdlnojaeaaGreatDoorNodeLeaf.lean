/-
  The walks of printer's own and Check over leaves.
-/
import Derived.Test.YtkcfgcdlnojaeaaGreatDoorDNode
set_option linter.unusedVariables false
set_option linter.unusedSimpArgs false
namespace Go.Proofs.YtkcfgcdlnojaeaaGreatDoor.NodeLeaf
set_option maxRecDepth 100000
open Go.RowKit Go.PlainAid Base Query BindBase NodeTerm

/-- A leaf's node, without ends. -/
def nodeK (k : Int) (fn T : ByteArray) (n : Int) : Array Value := #[.int .i64 k, .string fn, .string T, .int .i64 n, .bool false, .bool false, .string ⟨#[]⟩, .bool false, .bool false, .string ⟨#[]⟩, .slice none 0 0, .slice none 0 0]

/-- What is asked of a phrase's node. -/
def ask2 : Array Value := #[.bool true, .bool true, .int .i64 0, .int .i64 999999999, .bool false, .bool false, .int .i64 0, .int .i64 0, .int .i64 6, .string ⟨#[]⟩]
def Ask2 (w : World) : Prop := ∀ j u, ask2[j]? = some u → w.cell? ⟨2, 20 + j, none⟩ = some u
theorem Ask2.below {w w' : World} {B : Nat} (h : Ask2 w) (hb : Below B w w') (hB : 2 < B) : Ask2 w' := fun j u hu => (hb.cell (p := ⟨2, 20 + j, none⟩) hB).trans (h j u hu)

set_option maxHeartbeats 4000000 in
theorem own_phrase (fn T : ByteArray) (n : Int) (w : World) (hn : 0 ≤ n ∧ n ≤ 999999999) (ha : Ask2 w) (h0 : 2 < w.heap.size) : Calls Tryz.prog 54 #[.agg (nodeK 2 fn T n)] w fun e w' => e = .returned (.bool true) ∧ Below w.heap.size w w' := by
  have a0 : ∀ o, (w.alloc o).cell? ⟨2, 20, none⟩ = some (.bool true) := fun o => (Ask2.below ha ((Below.refl w.heap.size w).alloc (Nat.le_refl _) o) h0) 0 _ rfl
  have a1 : ∀ o, (w.alloc o).cell? ⟨2, 21, none⟩ = some (.bool true) := fun o => (Ask2.below ha ((Below.refl w.heap.size w).alloc (Nat.le_refl _) o) h0) 1 _ rfl
  have a2 : ∀ o, (w.alloc o).cell? ⟨2, 22, none⟩ = some (.int .i64 0) := fun o => (Ask2.below ha ((Below.refl w.heap.size w).alloc (Nat.le_refl _) o) h0) 2 _ rfl
  have a3 : ∀ o, (w.alloc o).cell? ⟨2, 23, none⟩ = some (.int .i64 999999999) := fun o => (Ask2.below ha ((Below.refl w.heap.size w).alloc (Nat.le_refl _) o) h0) 3 _ rfl
  have a4 : ∀ o, (w.alloc o).cell? ⟨2, 24, none⟩ = some (.bool false) := fun o => (Ask2.below ha ((Below.refl w.heap.size w).alloc (Nat.le_refl _) o) h0) 4 _ rfl
  have a5 : ∀ o, (w.alloc o).cell? ⟨2, 25, none⟩ = some (.bool false) := fun o => (Ask2.below ha ((Below.refl w.heap.size w).alloc (Nat.le_refl _) o) h0) 5 _ rfl
  have a6 : ∀ o, (w.alloc o).cell? ⟨2, 26, none⟩ = some (.int .i64 0) := fun o => (Ask2.below ha ((Below.refl w.heap.size w).alloc (Nat.le_refl _) o) h0) 6 _ rfl
  have a7 : ∀ o, (w.alloc o).cell? ⟨2, 27, none⟩ = some (.int .i64 0) := fun o => (Ask2.below ha ((Below.refl w.heap.size w).alloc (Nat.le_refl _) o) h0) 7 _ rfl
  have a8 : ∀ o, (w.alloc o).cell? ⟨2, 28, none⟩ = some (.int .i64 6) := fun o => (Ask2.below ha ((Below.refl w.heap.size w).alloc (Nat.le_refl _) o) h0) 8 _ rfl
  have a9 : ∀ o, (w.alloc o).cell? ⟨2, 29, none⟩ = some (.string ⟨#[]⟩) := fun o => (Ask2.below ha ((Below.refl w.heap.size w).alloc (Nat.le_refl _) o) h0) 9 _ rfl
  have n1 : decide (n < 0) = false := decide_eq_false (by omega)
  have n2 : decide ((999999999 : Int) < n) = false := decide_eq_false (by omega)
  clear hn
  unfold nodeK
  clear ha
  go_enter Tryz.func54, Tryz.ntmps54
  go_wp2_with fail
  refine wp_loop_rounds 1 ?_
  rw [rounds_succ]
  go_wp2_with fail
  go_ret
  exact ⟨rfl, (by (repeat (first | exact Below.refl _ _ | assumption | refine balloc ?_ _ | refine bdrew ?_ | refine bdrewN ?_ _ | refine bchain ?_ (by assumption))))⟩

set_option maxHeartbeats 4000000 in
theorem checkNode_phrase (fn T : ByteArray) (n : Int) (w : World) (hn : 0 ≤ n ∧ n ≤ 999999999) (ha : Ask2 w) (h0 : 2 < w.heap.size) : Calls Tryz.prog 18 #[.agg (nodeK 2 fn T n)] w fun e w' => e = .returned .nilIface ∧ Below w.heap.size w w' := by
  obtain ⟨W0, hW0⟩ : ∃ W, W = w.alloc (.cells (nodeK 2 fn T n) 39) := ⟨_, rfl⟩
  have K1 : Blk W0 w.heap.size 39 (nodeK 2 fn T n) := by rw [hW0]; exact Blk.new w _ _
  have hsz : w.heap.size + 1 = W0.heap.size := by rw [hW0]; simp
  have hbW : Below w.heap.size w W0 := by rw [hW0]; (repeat (first | exact Below.refl _ _ | assumption | refine balloc ?_ _ | refine bdrew ?_ | refine bdrewN ?_ _ | refine bchain ?_ (by assumption)))
  have OT := Lib.hid (own_phrase fn T n W0 hn (ha.below hbW h0) (Nat.lt_of_lt_of_le h0 hbW.size))
  have HW := Lib.hid hW0
  have HZ := Lib.hid hsz
  unfold nodeK at OT hW0 ⊢
  rw [hW0] at OT
  clear hW0 hsz ha hn
  go_enter Tryz.func18, Tryz.ntmps18
  go_wp2_with (go_at_call 54; refine OT.out.mono ?_; rintro e w1 ⟨rfl, hb1⟩; have hb01 : Below W0.heap.size W0 w1 := (by rw [HW.out]; exact hb1); have c11 : w1.cell? ⟨w.heap.size, 11, none⟩ = some (.slice none 0 0) := (K1.below hb01 (by have := HZ.out; omega)).cell 11)
  refine wp_loop_rounds 1 ?_
  rw [rounds_succ]
  go_wp2_with fail
  go_ret
  exact ⟨rfl, bchain hbW hb01⟩

/-- What is asked of a prefix's node. -/
def ask3 : Array Value := #[.bool true, .bool true, .int .i64 0, .int .i64 0, .bool false, .bool false, .int .i64 0, .int .i64 0, .int .i64 6, .string ⟨#[]⟩]
def Ask3 (w : World) : Prop := ∀ j u, ask3[j]? = some u → w.cell? ⟨2, 30 + j, none⟩ = some u
theorem Ask3.below {w w' : World} {B : Nat} (h : Ask3 w) (hb : Below B w w') (hB : 2 < B) : Ask3 w' := fun j u hu => (hb.cell (p := ⟨2, 30 + j, none⟩) hB).trans (h j u hu)

set_option maxHeartbeats 4000000 in
theorem own_prefix (fn T : ByteArray) (w : World) (hT : T.toList ≠ []) (ha : Ask3 w) (h0 : 2 < w.heap.size) : Calls Tryz.prog 54 #[.agg (nodeK 3 fn T 0)] w fun e w' => e = .returned (.bool true) ∧ Below w.heap.size w w' := by
  have a0 : ∀ o, (w.alloc o).cell? ⟨2, 30, none⟩ = some (.bool true) := fun o => (Ask3.below ha ((Below.refl w.heap.size w).alloc (Nat.le_refl _) o) h0) 0 _ rfl
  have a1 : ∀ o, (w.alloc o).cell? ⟨2, 31, none⟩ = some (.bool true) := fun o => (Ask3.below ha ((Below.refl w.heap.size w).alloc (Nat.le_refl _) o) h0) 1 _ rfl
  have a2 : ∀ o, (w.alloc o).cell? ⟨2, 32, none⟩ = some (.int .i64 0) := fun o => (Ask3.below ha ((Below.refl w.heap.size w).alloc (Nat.le_refl _) o) h0) 2 _ rfl
  have a3 : ∀ o, (w.alloc o).cell? ⟨2, 33, none⟩ = some (.int .i64 0) := fun o => (Ask3.below ha ((Below.refl w.heap.size w).alloc (Nat.le_refl _) o) h0) 3 _ rfl
  have a4 : ∀ o, (w.alloc o).cell? ⟨2, 34, none⟩ = some (.bool false) := fun o => (Ask3.below ha ((Below.refl w.heap.size w).alloc (Nat.le_refl _) o) h0) 4 _ rfl
  have a5 : ∀ o, (w.alloc o).cell? ⟨2, 35, none⟩ = some (.bool false) := fun o => (Ask3.below ha ((Below.refl w.heap.size w).alloc (Nat.le_refl _) o) h0) 5 _ rfl
  have a6 : ∀ o, (w.alloc o).cell? ⟨2, 36, none⟩ = some (.int .i64 0) := fun o => (Ask3.below ha ((Below.refl w.heap.size w).alloc (Nat.le_refl _) o) h0) 6 _ rfl
  have a7 : ∀ o, (w.alloc o).cell? ⟨2, 37, none⟩ = some (.int .i64 0) := fun o => (Ask3.below ha ((Below.refl w.heap.size w).alloc (Nat.le_refl _) o) h0) 7 _ rfl
  have a8 : ∀ o, (w.alloc o).cell? ⟨2, 38, none⟩ = some (.int .i64 6) := fun o => (Ask3.below ha ((Below.refl w.heap.size w).alloc (Nat.le_refl _) o) h0) 8 _ rfl
  have a9 : ∀ o, (w.alloc o).cell? ⟨2, 39, none⟩ = some (.string ⟨#[]⟩) := fun o => (Ask3.below ha ((Below.refl w.heap.size w).alloc (Nat.le_refl _) o) h0) 9 _ rfl
  have hT2 : (T.toList == []) = false := beq_eq_false_iff_ne.2 hT
  have hT3 : T.toList.isEmpty = false := by rw [List.isEmpty_eq_false_iff]; exact hT
  unfold nodeK
  clear ha
  go_enter Tryz.func54, Tryz.ntmps54
  go_wp2_with fail
  refine wp_loop_rounds 1 ?_
  rw [rounds_succ]
  go_wp2_with fail
  go_ret
  exact ⟨rfl, (by (repeat (first | exact Below.refl _ _ | assumption | refine balloc ?_ _ | refine bdrew ?_ | refine bdrewN ?_ _ | refine bchain ?_ (by assumption))))⟩

set_option maxHeartbeats 4000000 in
theorem checkNode_prefix (fn T : ByteArray) (w : World) (hT : T.toList ≠ []) (ha : Ask3 w) (h0 : 2 < w.heap.size) : Calls Tryz.prog 18 #[.agg (nodeK 3 fn T 0)] w fun e w' => e = .returned .nilIface ∧ Below w.heap.size w w' := by
  obtain ⟨W0, hW0⟩ : ∃ W, W = w.alloc (.cells (nodeK 3 fn T 0) 39) := ⟨_, rfl⟩
  have K1 : Blk W0 w.heap.size 39 (nodeK 3 fn T 0) := by rw [hW0]; exact Blk.new w _ _
  have hsz : w.heap.size + 1 = W0.heap.size := by rw [hW0]; simp
  have hbW : Below w.heap.size w W0 := by rw [hW0]; (repeat (first | exact Below.refl _ _ | assumption | refine balloc ?_ _ | refine bdrew ?_ | refine bdrewN ?_ _ | refine bchain ?_ (by assumption)))
  have OT := Lib.hid (own_prefix fn T W0 hT (ha.below hbW h0) (Nat.lt_of_lt_of_le h0 hbW.size))
  have HW := Lib.hid hW0
  have HZ := Lib.hid hsz
  unfold nodeK at OT hW0 ⊢
  rw [hW0] at OT
  clear hW0 hsz ha hT
  go_enter Tryz.func18, Tryz.ntmps18
  go_wp2_with (go_at_call 54; refine OT.out.mono ?_; rintro e w1 ⟨rfl, hb1⟩; have hb01 : Below W0.heap.size W0 w1 := (by rw [HW.out]; exact hb1); have c11 : w1.cell? ⟨w.heap.size, 11, none⟩ = some (.slice none 0 0) := (K1.below hb01 (by have := HZ.out; omega)).cell 11)
  refine wp_loop_rounds 1 ?_
  rw [rounds_succ]
  go_wp2_with fail
  go_ret
  exact ⟨rfl, bchain hbW hb01⟩

/-- What is asked of a fuzzy's node. -/
def ask5 : Array Value := #[.bool true, .bool true, .int .i64 1, .int .i64 2, .bool false, .bool false, .int .i64 0, .int .i64 0, .int .i64 6, .string ⟨#[]⟩]
def Ask5 (w : World) : Prop := ∀ j u, ask5[j]? = some u → w.cell? ⟨2, 50 + j, none⟩ = some u
theorem Ask5.below {w w' : World} {B : Nat} (h : Ask5 w) (hb : Below B w w') (hB : 2 < B) : Ask5 w' := fun j u hu => (hb.cell (p := ⟨2, 50 + j, none⟩) hB).trans (h j u hu)

set_option maxHeartbeats 4000000 in
theorem own_fuzzy (fn T : ByteArray) (n : Int) (w : World) (hT : T.toList ≠ []) (hn : 1 ≤ n ∧ n ≤ 2) (ha : Ask5 w) (h0 : 2 < w.heap.size) : Calls Tryz.prog 54 #[.agg (nodeK 5 fn T n)] w fun e w' => e = .returned (.bool true) ∧ Below w.heap.size w w' := by
  have a0 : ∀ o, (w.alloc o).cell? ⟨2, 50, none⟩ = some (.bool true) := fun o => (Ask5.below ha ((Below.refl w.heap.size w).alloc (Nat.le_refl _) o) h0) 0 _ rfl
  have a1 : ∀ o, (w.alloc o).cell? ⟨2, 51, none⟩ = some (.bool true) := fun o => (Ask5.below ha ((Below.refl w.heap.size w).alloc (Nat.le_refl _) o) h0) 1 _ rfl
  have a2 : ∀ o, (w.alloc o).cell? ⟨2, 52, none⟩ = some (.int .i64 1) := fun o => (Ask5.below ha ((Below.refl w.heap.size w).alloc (Nat.le_refl _) o) h0) 2 _ rfl
  have a3 : ∀ o, (w.alloc o).cell? ⟨2, 53, none⟩ = some (.int .i64 2) := fun o => (Ask5.below ha ((Below.refl w.heap.size w).alloc (Nat.le_refl _) o) h0) 3 _ rfl
  have a4 : ∀ o, (w.alloc o).cell? ⟨2, 54, none⟩ = some (.bool false) := fun o => (Ask5.below ha ((Below.refl w.heap.size w).alloc (Nat.le_refl _) o) h0) 4 _ rfl
  have a5 : ∀ o, (w.alloc o).cell? ⟨2, 55, none⟩ = some (.bool false) := fun o => (Ask5.below ha ((Below.refl w.heap.size w).alloc (Nat.le_refl _) o) h0) 5 _ rfl
  have a6 : ∀ o, (w.alloc o).cell? ⟨2, 56, none⟩ = some (.int .i64 0) := fun o => (Ask5.below ha ((Below.refl w.heap.size w).alloc (Nat.le_refl _) o) h0) 6 _ rfl
  have a7 : ∀ o, (w.alloc o).cell? ⟨2, 57, none⟩ = some (.int .i64 0) := fun o => (Ask5.below ha ((Below.refl w.heap.size w).alloc (Nat.le_refl _) o) h0) 7 _ rfl
  have a8 : ∀ o, (w.alloc o).cell? ⟨2, 58, none⟩ = some (.int .i64 6) := fun o => (Ask5.below ha ((Below.refl w.heap.size w).alloc (Nat.le_refl _) o) h0) 8 _ rfl
  have a9 : ∀ o, (w.alloc o).cell? ⟨2, 59, none⟩ = some (.string ⟨#[]⟩) := fun o => (Ask5.below ha ((Below.refl w.heap.size w).alloc (Nat.le_refl _) o) h0) 9 _ rfl
  have hT2 : (T.toList == []) = false := beq_eq_false_iff_ne.2 hT
  have hT3 : T.toList.isEmpty = false := by rw [List.isEmpty_eq_false_iff]; exact hT
  have n1 : decide (n < 1) = false := decide_eq_false (by omega)
  have n2 : decide ((2 : Int) < n) = false := decide_eq_false (by omega)
  clear hn
  unfold nodeK
  clear ha
  go_enter Tryz.func54, Tryz.ntmps54
  go_wp2_with fail
  refine wp_loop_rounds 1 ?_
  rw [rounds_succ]
  go_wp2_with fail
  go_ret
  exact ⟨rfl, (by (repeat (first | exact Below.refl _ _ | assumption | refine balloc ?_ _ | refine bdrew ?_ | refine bdrewN ?_ _ | refine bchain ?_ (by assumption))))⟩

set_option maxHeartbeats 4000000 in
theorem checkNode_fuzzy (fn T : ByteArray) (n : Int) (w : World) (hT : T.toList ≠ []) (hn : 1 ≤ n ∧ n ≤ 2) (ha : Ask5 w) (h0 : 2 < w.heap.size) : Calls Tryz.prog 18 #[.agg (nodeK 5 fn T n)] w fun e w' => e = .returned .nilIface ∧ Below w.heap.size w w' := by
  obtain ⟨W0, hW0⟩ : ∃ W, W = w.alloc (.cells (nodeK 5 fn T n) 39) := ⟨_, rfl⟩
  have K1 : Blk W0 w.heap.size 39 (nodeK 5 fn T n) := by rw [hW0]; exact Blk.new w _ _
  have hsz : w.heap.size + 1 = W0.heap.size := by rw [hW0]; simp
  have hbW : Below w.heap.size w W0 := by rw [hW0]; (repeat (first | exact Below.refl _ _ | assumption | refine balloc ?_ _ | refine bdrew ?_ | refine bdrewN ?_ _ | refine bchain ?_ (by assumption)))
  have OT := Lib.hid (own_fuzzy fn T n W0 hT hn (ha.below hbW h0) (Nat.lt_of_lt_of_le h0 hbW.size))
  have HW := Lib.hid hW0
  have HZ := Lib.hid hsz
  unfold nodeK at OT hW0 ⊢
  rw [hW0] at OT
  clear hW0 hsz ha hT hn
  go_enter Tryz.func18, Tryz.ntmps18
  go_wp2_with (go_at_call 54; refine OT.out.mono ?_; rintro e w1 ⟨rfl, hb1⟩; have hb01 : Below W0.heap.size W0 w1 := (by rw [HW.out]; exact hb1); have c11 : w1.cell? ⟨w.heap.size, 11, none⟩ = some (.slice none 0 0) := (K1.below hb01 (by have := HZ.out; omega)).cell 11)
  refine wp_loop_rounds 1 ?_
  rw [rounds_succ]
  go_wp2_with fail
  go_ret
  exact ⟨rfl, bchain hbW hb01⟩

/-- What is asked of a has's node. -/
def ask7 : Array Value := #[.bool true, .bool false, .int .i64 0, .int .i64 0, .bool false, .bool false, .int .i64 0, .int .i64 0, .int .i64 6, .string ⟨#[]⟩]
def Ask7 (w : World) : Prop := ∀ j u, ask7[j]? = some u → w.cell? ⟨2, 70 + j, none⟩ = some u
theorem Ask7.below {w w' : World} {B : Nat} (h : Ask7 w) (hb : Below B w w') (hB : 2 < B) : Ask7 w' := fun j u hu => (hb.cell (p := ⟨2, 70 + j, none⟩) hB).trans (h j u hu)

set_option maxHeartbeats 4000000 in
theorem own_has (fn : ByteArray) (w : World)  (ha : Ask7 w) (h0 : 2 < w.heap.size) : Calls Tryz.prog 54 #[.agg (nodeK 7 fn ⟨#[]⟩ 0)] w fun e w' => e = .returned (.bool true) ∧ Below w.heap.size w w' := by
  have a0 : ∀ o, (w.alloc o).cell? ⟨2, 70, none⟩ = some (.bool true) := fun o => (Ask7.below ha ((Below.refl w.heap.size w).alloc (Nat.le_refl _) o) h0) 0 _ rfl
  have a1 : ∀ o, (w.alloc o).cell? ⟨2, 71, none⟩ = some (.bool false) := fun o => (Ask7.below ha ((Below.refl w.heap.size w).alloc (Nat.le_refl _) o) h0) 1 _ rfl
  have a2 : ∀ o, (w.alloc o).cell? ⟨2, 72, none⟩ = some (.int .i64 0) := fun o => (Ask7.below ha ((Below.refl w.heap.size w).alloc (Nat.le_refl _) o) h0) 2 _ rfl
  have a3 : ∀ o, (w.alloc o).cell? ⟨2, 73, none⟩ = some (.int .i64 0) := fun o => (Ask7.below ha ((Below.refl w.heap.size w).alloc (Nat.le_refl _) o) h0) 3 _ rfl
  have a4 : ∀ o, (w.alloc o).cell? ⟨2, 74, none⟩ = some (.bool false) := fun o => (Ask7.below ha ((Below.refl w.heap.size w).alloc (Nat.le_refl _) o) h0) 4 _ rfl
  have a5 : ∀ o, (w.alloc o).cell? ⟨2, 75, none⟩ = some (.bool false) := fun o => (Ask7.below ha ((Below.refl w.heap.size w).alloc (Nat.le_refl _) o) h0) 5 _ rfl
  have a6 : ∀ o, (w.alloc o).cell? ⟨2, 76, none⟩ = some (.int .i64 0) := fun o => (Ask7.below ha ((Below.refl w.heap.size w).alloc (Nat.le_refl _) o) h0) 6 _ rfl
  have a7 : ∀ o, (w.alloc o).cell? ⟨2, 77, none⟩ = some (.int .i64 0) := fun o => (Ask7.below ha ((Below.refl w.heap.size w).alloc (Nat.le_refl _) o) h0) 7 _ rfl
  have a8 : ∀ o, (w.alloc o).cell? ⟨2, 78, none⟩ = some (.int .i64 6) := fun o => (Ask7.below ha ((Below.refl w.heap.size w).alloc (Nat.le_refl _) o) h0) 8 _ rfl
  have a9 : ∀ o, (w.alloc o).cell? ⟨2, 79, none⟩ = some (.string ⟨#[]⟩) := fun o => (Ask7.below ha ((Below.refl w.heap.size w).alloc (Nat.le_refl _) o) h0) 9 _ rfl
  unfold nodeK
  clear ha
  go_enter Tryz.func54, Tryz.ntmps54
  go_wp2_with fail
  refine wp_loop_rounds 1 ?_
  rw [rounds_succ]
  go_wp2_with fail
  go_ret
  exact ⟨rfl, (by (repeat (first | exact Below.refl _ _ | assumption | refine balloc ?_ _ | refine bdrew ?_ | refine bdrewN ?_ _ | refine bchain ?_ (by assumption))))⟩

set_option maxHeartbeats 4000000 in
theorem checkNode_has (fn : ByteArray) (w : World)  (ha : Ask7 w) (h0 : 2 < w.heap.size) : Calls Tryz.prog 18 #[.agg (nodeK 7 fn ⟨#[]⟩ 0)] w fun e w' => e = .returned .nilIface ∧ Below w.heap.size w w' := by
  obtain ⟨W0, hW0⟩ : ∃ W, W = w.alloc (.cells (nodeK 7 fn ⟨#[]⟩ 0) 39) := ⟨_, rfl⟩
  have K1 : Blk W0 w.heap.size 39 (nodeK 7 fn ⟨#[]⟩ 0) := by rw [hW0]; exact Blk.new w _ _
  have hsz : w.heap.size + 1 = W0.heap.size := by rw [hW0]; simp
  have hbW : Below w.heap.size w W0 := by rw [hW0]; (repeat (first | exact Below.refl _ _ | assumption | refine balloc ?_ _ | refine bdrew ?_ | refine bdrewN ?_ _ | refine bchain ?_ (by assumption)))
  have OT := Lib.hid (own_has fn W0  (ha.below hbW h0) (Nat.lt_of_lt_of_le h0 hbW.size))
  have HW := Lib.hid hW0
  have HZ := Lib.hid hsz
  unfold nodeK at OT hW0 ⊢
  rw [hW0] at OT
  clear hW0 hsz ha 
  go_enter Tryz.func18, Tryz.ntmps18
  go_wp2_with (go_at_call 54; refine OT.out.mono ?_; rintro e w1 ⟨rfl, hb1⟩; have hb01 : Below W0.heap.size W0 w1 := (by rw [HW.out]; exact hb1); have c11 : w1.cell? ⟨w.heap.size, 11, none⟩ = some (.slice none 0 0) := (K1.below hb01 (by have := HZ.out; omega)).cell 11)
  refine wp_loop_rounds 1 ?_
  rw [rounds_succ]
  go_wp2_with fail
  go_ret
  exact ⟨rfl, bchain hbW hb01⟩
end Go.Proofs.YtkcfgcdlnojaeaaGreatDoor.NodeLeaf
