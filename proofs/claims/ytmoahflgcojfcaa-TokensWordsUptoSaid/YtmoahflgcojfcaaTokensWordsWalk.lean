/-
  The walk of TokensWords.
-/
import Derived.Test.YtmoahflgcojfcaaLives
import Derived.Test.YtmoahflgcojfcaaWordsRef
import Derived.Test.YtmoahflgcojfcaaSameWalk
namespace Go.Proofs.Ytmoahflgcojfcaa.TokensWordsWalk
open Go.RowKit Go.PlainAid WordPlain Base WordBytes WordsWalk WordsRef SameWalk Lives

set_option maxHeartbeats 2000000 in
theorem walk (a0 : ByteArray) (z0 : a0.size ≤ 1048576) (w : World) :
    Calls Try.prog 5 #[.string a0] w fun e w' => e = .returned (.bool true) ∧ Below w.heap.size w w' := by
  have hl := words_len a0
  go_enter Try.func5, Try.ntmps5
  go_wp2_with (first
    | (go_at_call 11; refine (lives_any _).mono ?_; rintro e w1 ⟨rfl, hb1⟩)
    | (go_at_call 13; refine (words_any _ _ (by omega)).mono ?_; rintro e w2 ⟨A1, c1, rfl, hown1, hb2⟩)
    | (go_at_call 14; refine (words_ref _ _ (by omega)).mono ?_; rintro e w3 ⟨A2, c2, rfl, hown2, hb3⟩)
    | (go_at_call 12; refine (same_eq (words a0) A1 A2 c1 c2 w3.heap.size _ (Nat.le_refl _) (by omega) (((slc_own hown1).below hb3 (Nat.le_refl _)).mono hb3.size) (slc_own hown2)).mono ?_; rintro e w4 ⟨rfl, hb4⟩))
  go_ret
  exact ⟨rfl, bchain (bchain (bchain hb1 hb2) hb3) hb4⟩
end Go.Proofs.Ytmoahflgcojfcaa.TokensWordsWalk
