/-
  Plain aid for the reference's texts: an empty text.
-/
import Derived.Test.YtfpikilhbkeajaaGreatDoorCQry
set_option linter.unusedVariables false
set_option linter.unusedSimpArgs false
namespace Go.Proofs.YtfpikilhbkeajaaGreatDoor.RefAid
theorem size0 {s : ByteArray} (h : s.size = 0) : s = ByteArray.empty := by
  cases s with
  | mk d =>
    have : d = #[] := Array.eq_empty_of_size_eq_zero h
    rw [this]
    rfl
end Go.Proofs.YtfpikilhbkeajaaGreatDoor.RefAid
