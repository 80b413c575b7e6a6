/-
  A load of a whole struct, met in a quiet region: one value in every world of the class.
-/
import Derived.Test.YtkcfgcdlnojaeaaGreatDoorBase
set_option linter.unusedVariables false
set_option linter.unusedSimpArgs false
namespace Go.Proofs.YtkcfgcdlnojaeaaGreatDoor.QuietLoad
open Go.RowKit Go.PlainAid Base
section
variable {P : Program} {C : World → Prop} {o : Oper} {a : Act}

theorem quiet_load {K : Act → Prop} (ty : TypeId) (x : Operand) (ad : Addr) (v : Value) (ho : o.op = .load ty x) (hx : a.eval x = .pointer (some ad))
    (hv : ∀ w, C w → (loadVar ty ad).run P w = .ok v w) (hk : K (a.put o.dst v)) : o.quiet P a C K :=
  ⟨v, fun w hw => by
    unfold Oper.quietAt execOp
    simp only [ho, hx, Instr.loadAt, Instr.sureAddr, Sem.run_bind, Sem.run_pure, Result.andThen_ok, hv w hw]
    exact ⟨rfl, rfl⟩, hk⟩

theorem loads_blk {w : World} {B g : Nat} {t ty : TypeId} {cs : Array Value} {d : TypeDesc} (hb : Blk w g t cs) (hg : g < B) (hu : P.underlying ty = some d) (hd : (match d with | .struct _ | .array _ _ => true | _ => false) = true) (hi : (P.info? ty).map (·.size) = some cs.size) :
    ∀ wx, (∃ b : Bw B w, wx = b.at_) → (loadVar ty ⟨g, 0, none⟩).run P wx = .ok (.agg cs) wx := by
  rintro wx ⟨b, rfl⟩
  exact run_loadVar_row b.at_ g t ty cs (0, 0) d (hb.below b.below hg) hu hd hi
end
end Go.Proofs.YtkcfgcdlnojaeaaGreatDoor.QuietLoad
