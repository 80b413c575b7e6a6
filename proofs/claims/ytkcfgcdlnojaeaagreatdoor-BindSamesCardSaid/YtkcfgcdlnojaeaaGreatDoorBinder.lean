/-
  The walk of bind.newBinder.
-/
import Derived.Test.YtkcfgcdlnojaeaaGreatDoorNodeTerm
import Derived.Laws.EntriesVeiled
namespace Go.Proofs.YtkcfgcdlnojaeaaGreatDoor.Binder
set_option maxRecDepth 100000
open Go.RowKit Go.PlainAid Base Query BindBase NodeTerm

def fnV (f : Nat) : Value := .func (.func f) #[] #[]
/-- A binder's cells. -/
def binderC (A : Option Addr) (n c : Nat) : Array Value := #[.slice A n c, .nilFunc, fnV 88, fnV 88, fnV 89, fnV 90, fnV 91, fnV 92, fnV 93,
  .nilFunc, .nilFunc, .nilFunc, .nilFunc, .nilFunc, .nilFunc, .nilFunc, .nilFunc]

set_option maxHeartbeats 4000000 in
theorem newBinder_any (A : Option Addr) (n c : Nat) (w : World) : Calls Tryz.prog 49 #[.agg #[.slice A n c]] w fun e w' =>
    ∃ g, e = .returned (.pointer (some ⟨g, 0, none⟩)) ∧ Blk w' g 147 (binderC A n c) ∧ Below w.heap.size w w' := by
  go_enter Tryz.func49, Tryz.ntmps49
  go_wp2_with fail
  go_ret
  refine ⟨w.heap.size + 1, rfl, ?_, (by (repeat (first | exact Below.refl _ _ | assumption | refine balloc ?_ _ | refine bdrew ?_ | refine bdrewN ?_ _ | refine bset ?_ (by first | assumption | omega) _ | refine bchain ?_ (by assumption))))⟩
  have := Blk.new (w.alloc (.cells #[.slice A n c] 36)) 147 (binderC A n c)
  rw [World.size_alloc] at this
  exact this
end Go.Proofs.YtkcfgcdlnojaeaaGreatDoor.Binder
