/-
  The walk of TokensFoldsPieces: out of the contract of Fold.
-/
import Derived.Test.YtmoahflgcojfcaaTokensFoldsWalk
namespace Go.Proofs.Ytmoahflgcojfcaa.TokensFoldsPiecesWalk
open Go.RowKit Go.PlainAid FoldPlain Base FoldWalk TokensFoldsWalk

theorem walk (a0 a1 : ByteArray) (z0 : a0.size ≤ 140737488351232) (z1 : a1.size ≤ 140737488351232) (w : World) :
    Calls Try.prog 4 #[.string a0, .string a1] w fun e w' => e = .returned (.bool true) ∧ Below w.heap.size w w' := by
  have m0 : a0.size ≤ maxLen := by unfold maxLen; omega
  have m1 : a1.size ≤ maxLen := by unfold maxLen; omega
  have m2 : (a0 ++ a1).size ≤ maxLen := by rw [ByteArray.size_append]; unfold maxLen; omega
  have mz : (⟨#[65, 98, 90]⟩ : ByteArray).size ≤ maxLen := by decide
  have HZ := Lib.hid fold_abz
  have hb := get_bt a0
  by_cases h : 0 < a0.size ∧ bt a0 (a0.size - 1) = 195
  · obtain ⟨h0, h1⟩ := h
    have H1 := Lib.hid h1
    clear h1
    go_enter Try.func4, Try.ntmps4
    go_wp2_with fail
    refine (fold_any _ _ mz).mono ?_
    rintro e w2 ⟨rfl, hb2⟩
    rw [HZ.out]
    have h1 := H1.out
    go_wp2
    go_ret
    exact ⟨rfl, hb2⟩
  · have HA := Lib.hid (foldS_append a0 a1 (by
      by_cases h0 : a0.size = 0
      · exact .inl h0
      · exact .inr fun e => h ⟨by omega, e⟩))
    go_enter Try.func4, Try.ntmps4
    go_wp2_with fail
    refine (fold_any _ _ mz).mono ?_
    rintro e w2 ⟨rfl, hb2⟩
    rw [HZ.out]
    go_wp2_with fail
    all_goals
      refine (fold_any _ _ m2).mono ?_
      rintro e w3 ⟨rfl, hb3⟩
      rw [HA.out]
      go_wp2_with fail
      refine (fold_any _ _ m0).mono ?_
      rintro e w4 ⟨rfl, hb4⟩
      go_wp2_with fail
      refine (fold_any _ _ m1).mono ?_
      rintro e w5 ⟨rfl, hb5⟩
      have g0 : (foldS a0).size ≤ 140737488351232 := by rw [foldS_size]; exact z0
      have g1 : (foldS a1).size ≤ 140737488351232 := by rw [foldS_size]; exact z1
      go_wp2
      go_ret
      have s2 := hb2.size
      have s3 := hb3.size
      have s4 := hb4.size
      exact ⟨rfl, ((hb2.trans (hb3.mono (by omega))).trans (hb4.mono (by omega))).trans (hb5.mono (by omega))⟩
end Go.Proofs.Ytmoahflgcojfcaa.TokensFoldsPiecesWalk
