/-
  The walks of printer's own and Check over a term's node.
  The walk of bind.newBinder.
-/
import Derived.Test.YtkcfgcdlnojaeaaGreatDoorDQry
import Derived.Laws.EntriesVeiled
set_option linter.unusedVariables false
set_option linter.unusedSimpArgs false
namespace Go.Proofs.YtkcfgcdlnojaeaaGreatDoor.NodeTerm
set_option maxRecDepth 100000
open Go.RowKit Go.PlainAid Base Query BindBase

def nodeT (fn T : ByteArray) : Array Value := #[.int .i64 1, .string fn, .string T, .int .i64 0, .bool false, .bool false, .string ⟨#[]⟩, .bool false, .bool false, .string ⟨#[]⟩, .slice none 0 0, .slice none 0 0]
def ask1 : Array Value := #[.bool true, .bool true, .int .i64 0, .int .i64 0, .bool false, .bool false, .int .i64 0, .int .i64 0, .int .i64 6, .string ⟨#[]⟩]
def Ask1 (w : World) : Prop := ∀ j u, ask1[j]? = some u → w.cell? ⟨2, 10 + j, none⟩ = some u
theorem Ask1.below {w w' : World} {B : Nat} (h : Ask1 w) (hb : Below B w w') (hB : 2 < B) : Ask1 w' := fun j u hu => (hb.cell (p := ⟨2, 10 + j, none⟩) hB).trans (h j u hu)

set_option maxHeartbeats 4000000 in
theorem own_term (fn T : ByteArray) (w : World) (hT : T.toList ≠ []) (ha : Ask1 w) (h0 : 2 < w.heap.size) : Calls Tryz.prog 54 #[.agg (nodeT fn T)] w fun e w' => e = .returned (.bool true) ∧ Below w.heap.size w w' := by
  have a0 : ∀ o, (w.alloc o).cell? ⟨2, 10, none⟩ = some (.bool true) := fun o => (Ask1.below ha ((Below.refl w.heap.size w).alloc (Nat.le_refl _) o) h0) 0 _ rfl
  have a1 : ∀ o, (w.alloc o).cell? ⟨2, 11, none⟩ = some (.bool true) := fun o => (Ask1.below ha ((Below.refl w.heap.size w).alloc (Nat.le_refl _) o) h0) 1 _ rfl
  have a2 : ∀ o, (w.alloc o).cell? ⟨2, 12, none⟩ = some (.int .i64 0) := fun o => (Ask1.below ha ((Below.refl w.heap.size w).alloc (Nat.le_refl _) o) h0) 2 _ rfl
  have a3 : ∀ o, (w.alloc o).cell? ⟨2, 13, none⟩ = some (.int .i64 0) := fun o => (Ask1.below ha ((Below.refl w.heap.size w).alloc (Nat.le_refl _) o) h0) 3 _ rfl
  have a4 : ∀ o, (w.alloc o).cell? ⟨2, 14, none⟩ = some (.bool false) := fun o => (Ask1.below ha ((Below.refl w.heap.size w).alloc (Nat.le_refl _) o) h0) 4 _ rfl
  have a5 : ∀ o, (w.alloc o).cell? ⟨2, 15, none⟩ = some (.bool false) := fun o => (Ask1.below ha ((Below.refl w.heap.size w).alloc (Nat.le_refl _) o) h0) 5 _ rfl
  have a6 : ∀ o, (w.alloc o).cell? ⟨2, 16, none⟩ = some (.int .i64 0) := fun o => (Ask1.below ha ((Below.refl w.heap.size w).alloc (Nat.le_refl _) o) h0) 6 _ rfl
  have a7 : ∀ o, (w.alloc o).cell? ⟨2, 17, none⟩ = some (.int .i64 0) := fun o => (Ask1.below ha ((Below.refl w.heap.size w).alloc (Nat.le_refl _) o) h0) 7 _ rfl
  have a8 : ∀ o, (w.alloc o).cell? ⟨2, 18, none⟩ = some (.int .i64 6) := fun o => (Ask1.below ha ((Below.refl w.heap.size w).alloc (Nat.le_refl _) o) h0) 8 _ rfl
  have a9 : ∀ o, (w.alloc o).cell? ⟨2, 19, none⟩ = some (.string ⟨#[]⟩) := fun o => (Ask1.below ha ((Below.refl w.heap.size w).alloc (Nat.le_refl _) o) h0) 9 _ rfl
  have hT2 : (T.toList == []) = false := beq_eq_false_iff_ne.2 hT
  have hT3 : T.toList.isEmpty = false := by rw [List.isEmpty_eq_false_iff]; exact hT
  unfold nodeT
  clear ha
  go_enter Tryz.func54, Tryz.ntmps54
  go_wp2_with fail
  refine wp_loop_rounds 1 ?_
  rw [rounds_succ]
  go_wp2_with fail
  go_ret
  exact ⟨rfl, (by exact Base.bel)⟩

set_option maxHeartbeats 4000000 in
theorem checkNode_term (fn T : ByteArray) (w : World) (hT : T.toList ≠ []) (ha : Ask1 w) (h0 : 2 < w.heap.size) : Calls Tryz.prog 18 #[.agg (nodeT fn T)] w fun e w' => e = .returned .nilIface ∧ Below w.heap.size w w' := by
  obtain ⟨W0, hW0⟩ : ∃ W, W = w.alloc (.cells (nodeT fn T) 39) := ⟨_, rfl⟩
  have K1 : Blk W0 w.heap.size 39 (nodeT fn T) := by rw [hW0]; exact Blk.new w _ _
  have hsz : w.heap.size + 1 = W0.heap.size := by rw [hW0]; simp
  have hbW : Below w.heap.size w W0 := by rw [hW0]; exact Base.bel
  have OT := Lib.hid (own_term fn T W0 hT (ha.below hbW h0) (Nat.lt_of_lt_of_le h0 hbW.size))
  have HW := Lib.hid hW0
  have HZ := Lib.hid hsz
  unfold nodeT at OT hW0 ⊢
  rw [hW0] at OT
  clear hW0 hsz ha hT
  go_enter Tryz.func18, Tryz.ntmps18
  go_wp2_with (go_at_call 54; refine OT.out.mono ?_; rintro e w1 ⟨rfl, hb1⟩; have hb01 : Below W0.heap.size W0 w1 := (by rw [HW.out]; exact hb1); have c11 : w1.cell? ⟨w.heap.size, 11, none⟩ = some (.slice none 0 0) := (K1.below hb01 (by have := HZ.out; omega)).cell 11)
  refine wp_loop_rounds 1 ?_
  rw [rounds_succ]
  go_wp2_with fail
  go_ret
  exact ⟨rfl, bchain hbW hb01⟩
end Go.Proofs.YtkcfgcdlnojaeaaGreatDoor.NodeTerm

namespace Go.Proofs.YtkcfgcdlnojaeaaGreatDoor.Binder
set_option maxRecDepth 100000
open Go.RowKit Go.PlainAid Base Query BindBase NodeTerm

def fnV (f : Nat) : Value := .func (.func f) #[] #[]
def binderC (A : Option Addr) (n c : Nat) : Array Value := #[.slice A n c, .nilFunc, fnV 88, fnV 88, fnV 89, fnV 90, fnV 91, fnV 92, fnV 93,
  .nilFunc, .nilFunc, .nilFunc, .nilFunc, .nilFunc, .nilFunc, .nilFunc, .nilFunc]

set_option maxHeartbeats 4000000 in
theorem newBinder_any (A : Option Addr) (n c : Nat) (w : World) : Calls Tryz.prog 49 #[.agg #[.slice A n c]] w fun e w' =>
    ∃ g, e = .returned (.pointer (some ⟨g, 0, none⟩)) ∧ Blk w' g 147 (binderC A n c) ∧ Below w.heap.size w w' := by
  go_enter Tryz.func49, Tryz.ntmps49
  go_wp2_with fail
  go_ret
  refine ⟨w.heap.size + 1, rfl, ?_, (by (repeat (first | exact Below.refl _ _ | assumption | refine balloc ?_ _ | refine bdrew ?_ | refine bdrewN ?_ _ | refine bset ?_ (by first | assumption | omega) _ | refine bchain ?_ (by assumption))))⟩
  have := Blk.new (w.alloc (.cells #[.slice A n c] 36)) 147 (binderC A n c)
  rw [World.size_alloc] at this
  exact this
end Go.Proofs.YtkcfgcdlnojaeaaGreatDoor.Binder
