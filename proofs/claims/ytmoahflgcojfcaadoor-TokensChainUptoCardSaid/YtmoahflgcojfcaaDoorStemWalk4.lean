/-
  The walks of tokens.step1b to step5 and Stem.
-/
import Derived.Test.YtmoahflgcojfcaaDoorStemWalk3
namespace Go.Proofs.YtmoahflgcojfcaaDoor.StemWalk4
set_option maxRecDepth 100000
open Go.RowKit Go.PlainAid StemPlain Base Vowels StemWalk StemWalk2 StemWalk3

set_option maxHeartbeats 1000000 in
theorem step1c_any (s : ByteArray) (w : World) (hs : s.size ≤ 281474976710656) :
    Calls Tryd.prog 38 #[.string s] w fun r w' => r = .returned (.string (s1c s)) ∧ Below w.heap.size w w' := by
  rcases hx : sfx s ⟨#[121]⟩ with _ | _
  · have HX := Lib.hid hx
    have HN : Hid (s1c s = s) := Lib.hid (by unfold s1c; rw [hx]; rfl)
    clear hx
    go_enter Tryd.func38, Tryd.ntmps38
    go_wp2_with (go_at_call 55; refine (cutSuffix_no s _ _ hs (by decide) HX.out).mono ?_; rintro e w' ⟨rfl, rfl⟩)
    go_ret
    exact ⟨ret_str HN.out.symm, Below.refl _ _⟩
  · have HX := Lib.hid hx
    have hcs : (cut s ⟨#[121]⟩).size ≤ 281474976710656 := by rw [cut_size]; omega
    rcases hv : hasV (cut s ⟨#[121]⟩) with _ | _
    · have HV := Lib.hid hv
      have HN : Hid (s1c s = s) := Lib.hid (by unfold s1c; rw [hx, hv]; rfl)
      clear hx
      go_enter Tryd.func38, Tryd.ntmps38
      go_wp2_with (first
        | (go_at_call 55; refine (cutSuffix_yes s _ _ hs HX.out).mono ?_; rintro e w' ⟨rfl, rfl⟩)
        | (go_at_call 60; refine (hasVowel_any _ _ hcs).mono ?_; rw [HV.out]; rintro e w1 ⟨rfl, hb1⟩))
      go_ret
      exact ⟨ret_str HN.out.symm, hb1⟩
    · have HV := Lib.hid hv
      have HN : Hid (s1c s = cut s ⟨#[121]⟩ ++ ⟨#[105]⟩) := Lib.hid (by unfold s1c; rw [hx, hv]; rfl)
      clear hx
      go_enter Tryd.func38, Tryd.ntmps38
      go_wp2_with (first
        | (go_at_call 55; refine (cutSuffix_yes s _ _ hs HX.out).mono ?_; rintro e w' ⟨rfl, rfl⟩)
        | (go_at_call 60; refine (hasVowel_any _ _ hcs).mono ?_; rw [HV.out]; rintro e w1 ⟨rfl, hb1⟩))
      go_ret
      exact ⟨ret_str HN.out.symm, hb1⟩

set_option maxHeartbeats 1000000 in
theorem step2_any (s : ByteArray) (w : World) (hs : s.size ≤ 281474976710656) :
    Calls Tryd.prog 37 #[.string s] w fun r w' => r = .returned (.string (rep s L2 0)) ∧ Below w.heap.size w w' := by
  go_enter Tryd.func37, Tryd.ntmps37
  go_wp2_with (go_at_call 59; refine (replace_any s L2 _ _ (w.heap.size + 1) 0 _ hs (by decide) (by decide) (by decide) (by simp) (slc_new w _ _)).mono ?_; rintro e w1 ⟨rfl, hb1⟩)
  go_ret
  exact ⟨rfl, ((Below.refl _ _).alloc (Nat.le_refl _) _).trans (hb1.mono (by simp))⟩

set_option maxHeartbeats 1000000 in
theorem step3_any (s : ByteArray) (w : World) (hs : s.size ≤ 281474976710656) :
    Calls Tryd.prog 36 #[.string s] w fun r w' => r = .returned (.string (rep s L3 0)) ∧ Below w.heap.size w w' := by
  go_enter Tryd.func36, Tryd.ntmps36
  go_wp2_with (go_at_call 59; refine (replace_any s L3 _ _ (w.heap.size + 1) 0 _ hs (by decide) (by decide) (by decide) (by simp) (slc_new w _ _)).mono ?_; rintro e w1 ⟨rfl, hb1⟩)
  go_ret
  exact ⟨rfl, ((Below.refl _ _).alloc (Nat.le_refl _) _).trans (hb1.mono (by simp))⟩
end Go.Proofs.YtmoahflgcojfcaaDoor.StemWalk4
