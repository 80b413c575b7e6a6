/-
  The walk of score.Avg.
-/
import Derived.Test.YtfpikilhbkeajaaGreatDoorCQry
import Derived.Test.YtfpikilhbkeajaaGreatDoorChecked
import Derived.Deep.RegionLaw
import Derived.BigRegion
import Derived.Deep.Cut
set_option linter.unusedVariables false
set_option linter.unusedSimpArgs false
namespace Go.Proofs.YtfpikilhbkeajaaGreatDoor.Avg
set_option maxRecDepth 100000
open Go.RowKit Go.PlainAid Base Query

def avgOf (d x : Int) : Int := if d < 1 ∨ x < 1 then 0 else x.tdiv d

set_option maxHeartbeats 1000000 in
theorem avg_any (d x : Int) (f n : Nat) (g o c : Nat) (w : World) (hg : g < w.heap.size) (hc : w.cell? ⟨g, o + f, none⟩ = some (.int .i64 x)) (hf : f < n) (hx : x < 9223372036854775808) :
    Calls Tryz.prog 45 #[.agg #[.int .i64 d, .slice (some ⟨g, o, none⟩) n c], .int .i64 (f : Int)] w fun e w' => e = .returned (.int .i64 (avgOf d x)) ∧ Below w.heap.size w w' := by
  obtain ⟨W1, hW1⟩ : ∃ W, W = w.alloc (.cells #[.int .i64 d, .slice (some ⟨g, o, none⟩) n c] 34) := ⟨_, rfl⟩
  have K1 : Blk W1 w.heap.size 34 #[.int .i64 d, .slice (some ⟨g, o, none⟩) n c] := by rw [hW1]; exact Blk.new w _ _
  have hb1 : Below w.heap.size w W1 := by rw [hW1]; exact Base.bel
  have y0 : W1.cell? ⟨w.heap.size, 0, none⟩ = some (.int .i64 d) := K1.cell 0
  have y1 : W1.cell? ⟨w.heap.size, 1, none⟩ = some (.slice (some ⟨g, o, none⟩) n c) := K1.cell 1
  have x0 : W1.cell? ⟨g, o + f, none⟩ = some (.int .i64 x) := (hb1.cell (p := ⟨g, o + f, none⟩) hg).trans hc
  have b2 : decide ((f : Int) < 0) = false := decide_eq_false (by omega)
  have b3 : decide ((n : Int) ≤ (f : Int)) = false := decide_eq_false (by omega)
  have i1 : (f : Int) < (n : Int) := by omega
  have HB := Lib.hid hb1
  have HW1 := Lib.hid hW1
  clear hW1 K1 hb1 hc
  rcases (by omega : d < 1 ∨ 1 ≤ d) with h | h
  · have b1 : decide (d < 1) = true := decide_eq_true h
    rw [show avgOf d x = 0 by unfold avgOf; rw [if_pos (.inl h)]]
    go_enter Tryz.func45, Tryz.ntmps45
    go_upto_region 1 with fail
    rw [← HW1.out]
    go_wp2_with fail
    go_ret
    exact ⟨rfl, by have := HB.out; exact Base.bel⟩
  · have b1 : decide (d < 1) = false := decide_eq_false (by omega)
    rcases (by omega : x < 1 ∨ 1 ≤ x) with h2 | h2
    · have b4 : decide (x < 1) = true := decide_eq_true h2
      rw [show avgOf d x = 0 by unfold avgOf; rw [if_pos (.inr h2)]]
      go_enter Tryz.func45, Tryz.ntmps45
      go_upto_region 1 with fail
      rw [← HW1.out]
      go_wp2_with fail
      go_ret
      exact ⟨rfl, by have := HB.out; exact Base.bel⟩
    · have b4 : decide (x < 1) = false := decide_eq_false (by omega)
      have ne : d ≠ 0 := by omega
      have q0 : 0 ≤ x.tdiv d := Int.tdiv_nonneg (by omega) (by omega)
      have q1 : x.tdiv d ≤ x := by
        rw [Int.tdiv_eq_ediv_of_nonneg (by omega)]
        exact Int.ediv_le_self _ (by omega)
      have q2 : x.tdiv d < 9223372036854775808 := by omega
      rw [show avgOf d x = x.tdiv d by unfold avgOf; rw [if_neg (by omega)]]
      go_enter Tryz.func45, Tryz.ntmps45
      go_upto_region 1 with fail
      rw [← HW1.out]
      go_upto_region 3 with fail
      go_region
      go_wp2_with fail
      go_ret
      exact ⟨rfl, by have := HB.out; exact Base.bel⟩
end Go.Proofs.YtfpikilhbkeajaaGreatDoor.Avg
