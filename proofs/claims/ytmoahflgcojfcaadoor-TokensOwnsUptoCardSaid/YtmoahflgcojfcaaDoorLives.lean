/-
  The laws' fixed fact.
-/
import Derived.Test.YtmoahflgcojfcaaDoorDWords
import Derived.Test.YtmoahflgcojfcaaDoorDStems
namespace Go.Proofs.YtmoahflgcojfcaaDoor.Lives
set_option maxRecDepth 100000
open Go.RowKit Go.PlainAid WordPlain StemPlain Base WordBytes WordsWalk StemWalk8

theorem words_T : words ⟨#[105, 116, 39, 115, 32, 51, 46, 49, 52, 44, 32, 111, 107, 46]⟩ = [⟨⟨#[105, 116, 39, 115]⟩, 0, 0, 0, 4⟩, ⟨⟨#[51, 46, 49, 52]⟩, 0, 1, 5, 9⟩, ⟨⟨#[111, 107]⟩, 0, 2, 11, 13⟩] := by kernel_rfl
theorem stem_M : stem ⟨#[109, 111, 116, 111, 114, 105, 110, 103]⟩ = ⟨#[109, 111, 116, 111, 114]⟩ := by kernel_rfl

set_option maxHeartbeats 2000000 in
theorem lives_any (w : World) : Calls Tryd.prog 12 #[] w fun e w' => e = .returned (.bool true) ∧ Below w.heap.size w w' := by
  have HM := Lib.hid stem_M
  go_enter Tryd.func12, Tryd.ntmps12
  go_wp2_with fail
  refine (words_any ⟨#[105, 116, 39, 115, 32, 51, 46, 49, 52, 44, 32, 111, 107, 46]⟩ _ (by decide)).mono ?_
  rw [words_T]
  rintro e w1 ⟨A, c, rfl, hown, hb1⟩
  obtain ⟨g, o, rfl, hg, hc⟩ := (slc_own hown) (by simp [tokCells, tokC])
  have c1 : w1.cell? ⟨g, o + 5, none⟩ = some (.string ⟨#[51, 46, 49, 52]⟩) := hc 5 _ rfl
  have c2 : w1.cell? ⟨g, o + 7, none⟩ = some (.int .i64 1) := hc 7 _ rfl
  have c3 : w1.cell? ⟨g, o + 5 + 2, none⟩ = some (.int .i64 1) := hc 7 _ rfl
  clear hc hown
  simp only [List.length_cons, List.length_nil]
  go_wp2_with (go_at_call 16; refine (stem_any _ _ (by decide)).mono ?_; rw [HM.out]; rintro e w2 ⟨rfl, hb2⟩)
  go_ret
  exact ⟨rfl, bchain hb1 hb2⟩
end Go.Proofs.YtmoahflgcojfcaaDoor.Lives
