/-
  The walk of TokensFolds: out of the contracts of the two Folds.
-/
import Derived.Test.YtmoahflgcojfcaaFoldWalk
import Derived.Test.YtmoahflgcojfcaaFoldRef
namespace Go.Proofs.Ytmoahflgcojfcaa.TokensFoldsWalk
open Go.RowKit Go.PlainAid FoldPlain Base FoldWalk FoldRef

def abz : ByteArray := ⟨#[65, 98, 90]⟩
theorem fold_abz : foldS ⟨#[65, 98, 90]⟩ = ⟨#[97, 98, 122]⟩ := by decide +kernel

theorem walk (a0 : ByteArray) (z0 : a0.size ≤ 140737488351232) (w : World) :
    Calls Try.prog 3 #[.string a0] w fun e w' => e = .returned (.bool true) ∧ Below w.heap.size w w' := by
  have m0 : a0.size ≤ maxLen := by unfold maxLen; omega
  have mf : (foldS a0).size ≤ maxLen := by rw [foldS_size]; exact m0
  have mz : (⟨#[65, 98, 90]⟩ : ByteArray).size ≤ maxLen := by decide
  have hff := foldS_foldS a0
  have hfs := foldS_size a0
  have hz := fold_abz
  have HFF := Lib.hid hff
  have HFS := Lib.hid hfs
  have HZ := Lib.hid hz
  clear hff hfs hz
  go_enter Try.func3, Try.ntmps3
  go_wp2_with fail
  refine (fold_any _ _ m0).mono ?_
  rintro e w1 ⟨rfl, hb1⟩
  go_wp2_with fail
  refine (fold_any _ _ mz).mono ?_
  rintro e w2 ⟨rfl, hb2⟩
  rw [HZ.out]
  go_wp2_with fail
  refine (fold_ref _ _ z0).mono ?_
  rintro e w3 ⟨rfl, hb3⟩
  go_wp2_with fail
  refine (fold_any _ _ mf).mono ?_
  rintro e w4 ⟨rfl, hb4⟩
  rw [HFF.out]
  have hfs := HFS.out
  go_wp2
  go_ret
  have s1 := hb1.size
  have s2 := hb2.size
  have s3 := hb3.size
  exact ⟨rfl, ((hb1.trans (hb2.mono (by omega))).trans (hb3.mono (by omega))).trans (hb4.mono (by omega))⟩
end Go.Proofs.Ytmoahflgcojfcaa.TokensFoldsWalk
