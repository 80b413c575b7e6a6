/-
  The walk of TokensStems.
-/
import Derived.Test.YtmoahflgcojfcaaLives
import Derived.Test.YtmoahflgcojfcaaRefStem
namespace Go.Proofs.Ytmoahflgcojfcaa.TokensStemsWalk
open Go.RowKit Go.PlainAid StemPlain Base StemWalk8 RefStem Lives

theorem walk (a0 : ByteArray) (z0 : a0.size ≤ 140737488351232) (w : World) :
    Calls Try.prog 7 #[.string a0] w fun e w' => e = .returned (.bool true) ∧ Below w.heap.size w w' := by
  go_enter Try.func7, Try.ntmps7
  go_wp2_with (first
    | (go_at_call 11; refine (lives_any _).mono ?_; rintro e w1 ⟨rfl, hb1⟩)
    | (go_at_call 16; refine (stem_any _ _ (by omega)).mono ?_; rintro e w2 ⟨rfl, hb2⟩)
    | (go_at_call 17; refine (stem_ref _ _ (by omega)).mono ?_; rintro e w3 ⟨rfl, hb3⟩))
  go_ret
  exact ⟨rfl, bchain (bchain hb1 hb2) hb3⟩
end Go.Proofs.Ytmoahflgcojfcaa.TokensStemsWalk
