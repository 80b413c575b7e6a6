/-
  The reference's Better.
-/
import Derived.Test.YtmddnilephneiaaHitBase
namespace Go.Proofs.Ytmddnilephneiaa.RefBetter
open Go.RowKit Go.PlainAid HitPlain Base HitBase

set_option maxHeartbeats 1000000 in
theorem refBetter_any (i s j t : Int) (w : World) :
    Calls Try.prog 26 #[.agg #[.int .i64 i, .int .u64 s], .agg #[.int .i64 j, .int .u64 t]] w fun e w' => e = .returned (.bool (btr (i, s) (j, t))) ∧ Below w.heap.size w w' := by
  by_cases h : s = t
  · have HB : Hid (btr (i, s) (j, t) = decide (i < j)) := Lib.hid (by simp [btr, h])
    subst h
    go_enter Try.func26, Try.ntmps26
    go_wp2
    go_ret
    exact ⟨ret_bool HB.out.symm, by (repeat (first | exact Below.refl _ _ | assumption | refine balloc ?_ _ | refine bdrew ?_ | refine bdrewN ?_ _ | refine bchain ?_ (by assumption)))⟩
  · have HB : Hid (btr (i, s) (j, t) = decide (t < s)) := Lib.hid (by simp [btr, h])
    go_enter Try.func26, Try.ntmps26
    have h1 : (s == t) = false := by simpa using h
    go_wp2
    go_ret
    exact ⟨ret_bool HB.out.symm, by (repeat (first | exact Below.refl _ _ | assumption | refine balloc ?_ _ | refine bdrew ?_ | refine bdrewN ?_ _ | refine bchain ?_ (by assumption)))⟩
end Go.Proofs.Ytmddnilephneiaa.RefBetter
