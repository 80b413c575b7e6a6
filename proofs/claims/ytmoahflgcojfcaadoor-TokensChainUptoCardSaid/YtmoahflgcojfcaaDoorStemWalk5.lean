/-
  The walk of tokens.step1b.
-/
import Derived.Test.YtmoahflgcojfcaaDoorStemWalk3
import Derived.Test.YtmoahflgcojfcaaDoorEndsDouble
import Derived.LoopN
namespace Go.Proofs.YtmoahflgcojfcaaDoor.StemWalk5
set_option maxRecDepth 100000
open Go.RowKit Go.PlainAid StemPlain Base Vowels StemWalk StemWalk2 StemWalk3 EndsDouble

set_option maxHeartbeats 1000000 in
theorem step1b_none (s : ByteArray) (w : World) (hs : s.size ≤ 281474976710656) (hbs : bst s L1b L1b.length = none) :
    Calls Tryd.prog 39 #[.string s] w fun r w' => r = .returned (.string (s1b s)) ∧ Below w.heap.size w w' := by
  have HN := Lib.hid (s1b_none hbs)
  have HL := Lib.hid (lrest_none hbs)
  have HB := Lib.hid hbs
  clear hbs
  go_enter Tryd.func39, Tryd.ntmps39
  go_wp2_with (go_at_call 58; refine (longest_any s L1b _ _ (w.heap.size + 1) _ hs (by decide) (by decide) (by simp) (slc_new w _ _)).mono ?_; rw [HL.out, HB.out]; simp only [atv]; rintro e w1 ⟨rfl, hb1⟩)
  go_ret
  exact ⟨ret_str HN.out.symm, bchain (balloc (Below.refl _ _) _) hb1⟩

set_option maxHeartbeats 1000000 in
theorem step1b_0 (s : ByteArray) (w : World) (hs : s.size ≤ 281474976710656) (hbs : bst s L1b L1b.length = some 0) :
    Calls Tryd.prog 39 #[.string s] w fun r w' => r = .returned (.string (s1b s)) ∧ Below w.heap.size w w' := by
  have HN := Lib.hid (s1b_0 hbs)
  have HL := Lib.hid (lrest_some (q := (⟨#[101, 101, 100]⟩, ⟨#[101, 101]⟩)) hbs rfl)
  have HB := Lib.hid hbs
  have hcs : (cut s ⟨#[101, 101, 100]⟩).size ≤ 281474976710656 := by rw [cut_size]; omega
  have hms := meas_lt (cut s ⟨#[101, 101, 100]⟩)
  clear hbs
  by_cases hm : 0 < meas (cut s ⟨#[101, 101, 100]⟩)
  · have hm' : (0 : Int) < ((meas (cut s ⟨#[101, 101, 100]⟩) : Nat) : Int) := by omega
    have HM := Lib.hid hm
    clear hm
    go_enter Tryd.func39, Tryd.ntmps39
    go_wp2_with (first
      | (go_at_call 58; refine (longest_any s L1b _ _ (w.heap.size + 1) _ hs (by decide) (by decide) (by simp) (slc_new w _ _)).mono ?_; rw [HL.out, HB.out]; simp only [atv]; rintro e w1 ⟨rfl, hb1⟩)
      | (go_at_call 56; refine (measure_any _ _ hcs).mono ?_; rintro e w2 ⟨rfl, hb2⟩))
    go_ret
    exact ⟨ret_str (by rw [HN.out, if_pos HM.out]), bchain (bchain (balloc (Below.refl _ _) _) hb1) hb2⟩
  · have hm' : ¬ (0 : Int) < ((meas (cut s ⟨#[101, 101, 100]⟩) : Nat) : Int) := by omega
    have HM := Lib.hid hm
    clear hm
    go_enter Tryd.func39, Tryd.ntmps39
    go_wp2_with (first
      | (go_at_call 58; refine (longest_any s L1b _ _ (w.heap.size + 1) _ hs (by decide) (by decide) (by simp) (slc_new w _ _)).mono ?_; rw [HL.out, HB.out]; simp only [atv]; rintro e w1 ⟨rfl, hb1⟩)
      | (go_at_call 56; refine (measure_any _ _ hcs).mono ?_; rintro e w2 ⟨rfl, hb2⟩))
    go_ret
    exact ⟨ret_str (by rw [HN.out, if_neg HM.out]), bchain (bchain (balloc (Below.refl _ _) _) hb1) hb2⟩

theorem mend_suf {r : ByteArray} (h : sfx r ⟨#[97, 116]⟩ = true ∨ sfx r ⟨#[98, 108]⟩ = true ∨ sfx r ⟨#[105, 122]⟩ = true) : mend r = r ++ ⟨#[101]⟩ := by
  unfold mend
  rw [if_pos]
  rcases h with h | h | h <;> simp [h]
theorem mend_rest {r : ByteArray} (h1 : sfx r ⟨#[97, 116]⟩ = false) (h2 : sfx r ⟨#[98, 108]⟩ = false) (h3 : sfx r ⟨#[105, 122]⟩ = false) :
    mend r = if dbl r && !lsz (bt r (r.size - 1)) then chop r else if meas r == 1 && shrt r then r ++ ⟨#[101]⟩ else r := by
  unfold mend
  rw [if_neg (by simp [h1, h2, h3])]
theorem dbl_size {r : ByteArray} (h : dbl r = true) : 2 ≤ r.size := by
  unfold dbl at h; simp only [Bool.and_eq_true, decide_eq_true_eq] at h; exact h.1


set_option maxHeartbeats 8000000 in
theorem step1b_1 (s : ByteArray) (w : World) (hs : s.size ≤ 281474976710656) (hbs : bst s L1b L1b.length = some 1) :
    Calls Tryd.prog 39 #[.string s] w fun r w' => r = .returned (.string (s1b s)) ∧ Below w.heap.size w w' := by
  have HN := Lib.hid (s1b_1 hbs)
  have HL := Lib.hid (lrest_some (q := (⟨#[101, 100]⟩, ⟨#[]⟩)) hbs rfl)
  have HB := Lib.hid hbs
  have hcs : (cut s ⟨#[101, 100]⟩).size ≤ 281474976710656 := by rw [cut_size]; omega
  obtain ⟨r, hr⟩ : ∃ r, r = cut s ⟨#[101, 100]⟩ := ⟨_, rfl⟩
  rw [← hr] at HN HL hcs
  have hms := meas_lt r
  have q0 := bt_nonneg r (r.size - 1)
  have q1 := bt_le r (r.size - 1)
  have hgb := get_bt r
  clear hbs hr
  rcases hv : hasV r with _ | _
  · have HV := Lib.hid hv
    go_enter Tryd.func39, Tryd.ntmps39
    go_wp2_with (first
      | (go_at_call 58; refine (longest_any s L1b _ _ (w.heap.size + 1) _ hs (by decide) (by decide) (by simp) (slc_new w _ _)).mono ?_; rw [HL.out, HB.out]; simp only [atv]; rintro e w1 ⟨rfl, hb1⟩)
      | (go_at_call 60; refine (hasVowel_any _ _ hcs).mono ?_; rintro e w2 ⟨rfl, hb2⟩))
    go_ret
    exact ⟨ret_str (by rw [HN.out, HV.out]; rfl), bchain (bchain (balloc (Below.refl _ _) _) hb1) hb2⟩
  · have HS : Hid (s1b s = mend r) := Lib.hid (by rw [HN.out, hv]; rfl)
    clear HN
    rcases h1 : sfx r ⟨#[97, 116]⟩ with _ | _
    · rcases h2 : sfx r ⟨#[98, 108]⟩ with _ | _
      · rcases h3 : sfx r ⟨#[105, 122]⟩ with _ | _
        · have HM := Lib.hid (mend_rest h1 h2 h3)
          rcases hd : dbl r with _ | _
          · have HD : Hid ((dbl r && !lsz (bt r (r.size - 1))) = false) := Lib.hid (by rw [hd]; rfl)
            rcases hm : (meas r == 1) with _ | _
            · have HM1 := Lib.hid hm
              have hmi : (((meas r : Nat) : Int) == 1) = false := by have : meas r ≠ 1 := by simpa using hm
                                                                     simp; omega
              clear hm
              go_enter Tryd.func39, Tryd.ntmps39
              go_wp2_with (first
                | (go_at_call 58; refine (longest_any s L1b _ _ (w.heap.size + 1) _ hs (by decide) (by decide) (by simp) (slc_new w _ _)).mono ?_; rw [HL.out, HB.out]; simp only [atv]; rintro e w1 ⟨rfl, hb1⟩)
                | (go_at_call 60; refine (hasVowel_any _ _ hcs).mono ?_; rintro e w2 ⟨rfl, hb2⟩))
              refine wp_loop_rounds 4 ?_
              iterate 4 (rw [rounds_succ]; go_wp2_with (first
                | (go_at_call 33; refine (hasSuffix_any _ _ _ hcs (by decide)).mono ?_; rintro e w' ⟨rfl, rfl⟩)
                | (go_at_call 61; refine (endsDouble_any _ _ hcs).mono ?_; rintro e w3 ⟨rfl, hb3⟩)
                | (go_at_call 56; refine (measure_any _ _ hcs).mono ?_; rintro e w4 ⟨rfl, hb4⟩)
                | (go_at_call 57; refine (endsShort_any _ _ hcs).mono ?_; rintro e w5 ⟨rfl, hb5⟩)))
              go_ret
              refine ⟨ret_str ?_, by (repeat (first | exact Below.refl _ _ | assumption | refine balloc ?_ _ | refine bdrew ?_ | refine bdrewN ?_ _ | refine bchain ?_ (by assumption)))⟩
              rw [HS.out, HM.out, HD.out, HM1.out]
              rfl
            · have HM1 := Lib.hid hm
              have hmi : (((meas r : Nat) : Int) == 1) = true := by have : meas r = 1 := by simpa using hm
                                                                    simp; omega
              clear hm
              rcases hsh : shrt r with _ | _
              · have HSH := Lib.hid hsh
                go_enter Tryd.func39, Tryd.ntmps39
                go_wp2_with (first
                  | (go_at_call 58; refine (longest_any s L1b _ _ (w.heap.size + 1) _ hs (by decide) (by decide) (by simp) (slc_new w _ _)).mono ?_; rw [HL.out, HB.out]; simp only [atv]; rintro e w1 ⟨rfl, hb1⟩)
                  | (go_at_call 60; refine (hasVowel_any _ _ hcs).mono ?_; rintro e w2 ⟨rfl, hb2⟩))
                refine wp_loop_rounds 4 ?_
                iterate 4 (rw [rounds_succ]; go_wp2_with (first
                  | (go_at_call 33; refine (hasSuffix_any _ _ _ hcs (by decide)).mono ?_; rintro e w' ⟨rfl, rfl⟩)
                  | (go_at_call 61; refine (endsDouble_any _ _ hcs).mono ?_; rintro e w3 ⟨rfl, hb3⟩)
                  | (go_at_call 56; refine (measure_any _ _ hcs).mono ?_; rintro e w4 ⟨rfl, hb4⟩)
                  | (go_at_call 57; refine (endsShort_any _ _ hcs).mono ?_; rintro e w5 ⟨rfl, hb5⟩)))
                go_ret
                refine ⟨ret_str ?_, by (repeat (first | exact Below.refl _ _ | assumption | refine balloc ?_ _ | refine bdrew ?_ | refine bdrewN ?_ _ | refine bchain ?_ (by assumption)))⟩
                rw [HS.out, HM.out, HD.out, HM1.out, HSH.out]
                rfl
              · have HSH := Lib.hid hsh
                go_enter Tryd.func39, Tryd.ntmps39
                go_wp2_with (first
                  | (go_at_call 58; refine (longest_any s L1b _ _ (w.heap.size + 1) _ hs (by decide) (by decide) (by simp) (slc_new w _ _)).mono ?_; rw [HL.out, HB.out]; simp only [atv]; rintro e w1 ⟨rfl, hb1⟩)
                  | (go_at_call 60; refine (hasVowel_any _ _ hcs).mono ?_; rintro e w2 ⟨rfl, hb2⟩))
                refine wp_loop_rounds 4 ?_
                iterate 4 (rw [rounds_succ]; go_wp2_with (first
                  | (go_at_call 33; refine (hasSuffix_any _ _ _ hcs (by decide)).mono ?_; rintro e w' ⟨rfl, rfl⟩)
                  | (go_at_call 61; refine (endsDouble_any _ _ hcs).mono ?_; rintro e w3 ⟨rfl, hb3⟩)
                  | (go_at_call 56; refine (measure_any _ _ hcs).mono ?_; rintro e w4 ⟨rfl, hb4⟩)
                  | (go_at_call 57; refine (endsShort_any _ _ hcs).mono ?_; rintro e w5 ⟨rfl, hb5⟩)))
                go_ret
                refine ⟨ret_str ?_, by (repeat (first | exact Below.refl _ _ | assumption | refine balloc ?_ _ | refine bdrew ?_ | refine bdrewN ?_ _ | refine bchain ?_ (by assumption)))⟩
                rw [HS.out, HM.out, HD.out, HM1.out, HSH.out]
                rfl
          · have hsz := dbl_size hd
            rcases hl : lsz (bt r (r.size - 1)) with _ | _
            · have HD : Hid ((dbl r && !lsz (bt r (r.size - 1))) = true) := Lib.hid (by rw [hd, hl]; rfl)
              have HLZ := Lib.hid hl
              clear hl
              go_enter Tryd.func39, Tryd.ntmps39
              go_wp2_with (first
                | (go_at_call 58; refine (longest_any s L1b _ _ (w.heap.size + 1) _ hs (by decide) (by decide) (by simp) (slc_new w _ _)).mono ?_; rw [HL.out, HB.out]; simp only [atv]; rintro e w1 ⟨rfl, hb1⟩)
                | (go_at_call 60; refine (hasVowel_any _ _ hcs).mono ?_; rintro e w2 ⟨rfl, hb2⟩))
              refine wp_loop_rounds 4 ?_
              iterate 4 (rw [rounds_succ]; go_wp2_with (first
                | (go_at_call 33; refine (hasSuffix_any _ _ _ hcs (by decide)).mono ?_; rintro e w' ⟨rfl, rfl⟩)
                | (go_at_call 61; refine (endsDouble_any _ _ hcs).mono ?_; rintro e w3 ⟨rfl, hb3⟩)
                | (go_at_call 56; refine (measure_any _ _ hcs).mono ?_; rintro e w4 ⟨rfl, hb4⟩)
                | (go_at_call 57; refine (endsShort_any _ _ hcs).mono ?_; rintro e w5 ⟨rfl, hb5⟩)
                | (go_at_call 62; refine (lsz_no _ _ q0 q1 HLZ.out).mono ?_; rintro e w' ⟨⟨i, rfl, hi⟩, rfl⟩)))
              go_ret
              refine ⟨ret_str ?_, by (repeat (first | exact Below.refl _ _ | assumption | refine balloc ?_ _ | refine bdrew ?_ | refine bdrewN ?_ _ | refine bchain ?_ (by assumption)))⟩
              rw [HS.out, HM.out, HD.out]
              rfl
            · have HD : Hid ((dbl r && !lsz (bt r (r.size - 1))) = false) := Lib.hid (by rw [hd, hl]; rfl)
              have HLZ := Lib.hid hl
              clear hl
              rcases hm : (meas r == 1) with _ | _
              · have HM1 := Lib.hid hm
                have hmi : (((meas r : Nat) : Int) == 1) = false := by have : meas r ≠ 1 := by simpa using hm
                                                                       simp; omega
                clear hm
                go_enter Tryd.func39, Tryd.ntmps39
                go_wp2_with (first
                  | (go_at_call 58; refine (longest_any s L1b _ _ (w.heap.size + 1) _ hs (by decide) (by decide) (by simp) (slc_new w _ _)).mono ?_; rw [HL.out, HB.out]; simp only [atv]; rintro e w1 ⟨rfl, hb1⟩)
                  | (go_at_call 60; refine (hasVowel_any _ _ hcs).mono ?_; rintro e w2 ⟨rfl, hb2⟩))
                refine wp_loop_rounds 4 ?_
                iterate 4 (rw [rounds_succ]; go_wp2_with (first
                  | (go_at_call 33; refine (hasSuffix_any _ _ _ hcs (by decide)).mono ?_; rintro e w' ⟨rfl, rfl⟩)
                  | (go_at_call 61; refine (endsDouble_any _ _ hcs).mono ?_; rintro e w3 ⟨rfl, hb3⟩)
                  | (go_at_call 56; refine (measure_any _ _ hcs).mono ?_; rintro e w4 ⟨rfl, hb4⟩)
                  | (go_at_call 57; refine (endsShort_any _ _ hcs).mono ?_; rintro e w5 ⟨rfl, hb5⟩)
                  | (go_at_call 62; refine (lsz_yes _ _ q0 q1 HLZ.out).mono ?_; rintro e w' ⟨⟨i, rfl, hi⟩, rfl⟩)))
                go_ret
                refine ⟨ret_str ?_, by (repeat (first | exact Below.refl _ _ | assumption | refine balloc ?_ _ | refine bdrew ?_ | refine bdrewN ?_ _ | refine bchain ?_ (by assumption)))⟩
                rw [HS.out, HM.out, HD.out, HM1.out]
                rfl
              · have HM1 := Lib.hid hm
                have hmi : (((meas r : Nat) : Int) == 1) = true := by have : meas r = 1 := by simpa using hm
                                                                      simp; omega
                clear hm
                rcases hsh : shrt r with _ | _
                · have HSH := Lib.hid hsh
                  go_enter Tryd.func39, Tryd.ntmps39
                  go_wp2_with (first
                    | (go_at_call 58; refine (longest_any s L1b _ _ (w.heap.size + 1) _ hs (by decide) (by decide) (by simp) (slc_new w _ _)).mono ?_; rw [HL.out, HB.out]; simp only [atv]; rintro e w1 ⟨rfl, hb1⟩)
                    | (go_at_call 60; refine (hasVowel_any _ _ hcs).mono ?_; rintro e w2 ⟨rfl, hb2⟩))
                  refine wp_loop_rounds 4 ?_
                  iterate 4 (rw [rounds_succ]; go_wp2_with (first
                    | (go_at_call 33; refine (hasSuffix_any _ _ _ hcs (by decide)).mono ?_; rintro e w' ⟨rfl, rfl⟩)
                    | (go_at_call 61; refine (endsDouble_any _ _ hcs).mono ?_; rintro e w3 ⟨rfl, hb3⟩)
                    | (go_at_call 56; refine (measure_any _ _ hcs).mono ?_; rintro e w4 ⟨rfl, hb4⟩)
                    | (go_at_call 57; refine (endsShort_any _ _ hcs).mono ?_; rintro e w5 ⟨rfl, hb5⟩)
                    | (go_at_call 62; refine (lsz_yes _ _ q0 q1 HLZ.out).mono ?_; rintro e w' ⟨⟨i, rfl, hi⟩, rfl⟩)))
                  go_ret
                  refine ⟨ret_str ?_, by (repeat (first | exact Below.refl _ _ | assumption | refine balloc ?_ _ | refine bdrew ?_ | refine bdrewN ?_ _ | refine bchain ?_ (by assumption)))⟩
                  rw [HS.out, HM.out, HD.out, HM1.out, HSH.out]
                  rfl
                · have HSH := Lib.hid hsh
                  go_enter Tryd.func39, Tryd.ntmps39
                  go_wp2_with (first
                    | (go_at_call 58; refine (longest_any s L1b _ _ (w.heap.size + 1) _ hs (by decide) (by decide) (by simp) (slc_new w _ _)).mono ?_; rw [HL.out, HB.out]; simp only [atv]; rintro e w1 ⟨rfl, hb1⟩)
                    | (go_at_call 60; refine (hasVowel_any _ _ hcs).mono ?_; rintro e w2 ⟨rfl, hb2⟩))
                  refine wp_loop_rounds 4 ?_
                  iterate 4 (rw [rounds_succ]; go_wp2_with (first
                    | (go_at_call 33; refine (hasSuffix_any _ _ _ hcs (by decide)).mono ?_; rintro e w' ⟨rfl, rfl⟩)
                    | (go_at_call 61; refine (endsDouble_any _ _ hcs).mono ?_; rintro e w3 ⟨rfl, hb3⟩)
                    | (go_at_call 56; refine (measure_any _ _ hcs).mono ?_; rintro e w4 ⟨rfl, hb4⟩)
                    | (go_at_call 57; refine (endsShort_any _ _ hcs).mono ?_; rintro e w5 ⟨rfl, hb5⟩)
                    | (go_at_call 62; refine (lsz_yes _ _ q0 q1 HLZ.out).mono ?_; rintro e w' ⟨⟨i, rfl, hi⟩, rfl⟩)))
                  go_ret
                  refine ⟨ret_str ?_, by (repeat (first | exact Below.refl _ _ | assumption | refine balloc ?_ _ | refine bdrew ?_ | refine bdrewN ?_ _ | refine bchain ?_ (by assumption)))⟩
                  rw [HS.out, HM.out, HD.out, HM1.out, HSH.out]
                  rfl
        · have HM := Lib.hid (mend_suf (.inr (.inr h3)))
          go_enter Tryd.func39, Tryd.ntmps39
          go_wp2_with (first
            | (go_at_call 58; refine (longest_any s L1b _ _ (w.heap.size + 1) _ hs (by decide) (by decide) (by simp) (slc_new w _ _)).mono ?_; rw [HL.out, HB.out]; simp only [atv]; rintro e w1 ⟨rfl, hb1⟩)
            | (go_at_call 60; refine (hasVowel_any _ _ hcs).mono ?_; rintro e w2 ⟨rfl, hb2⟩))
          refine wp_loop_rounds 4 ?_
          iterate 3 (rw [rounds_succ]; go_wp2_with (first
            | (go_at_call 33; refine (hasSuffix_any _ _ _ hcs (by decide)).mono ?_; rintro e w' ⟨rfl, rfl⟩)
            | (go_at_call 61; refine (endsDouble_any _ _ hcs).mono ?_; rintro e w3 ⟨rfl, hb3⟩)
            | (go_at_call 56; refine (measure_any _ _ hcs).mono ?_; rintro e w4 ⟨rfl, hb4⟩)
            | (go_at_call 57; refine (endsShort_any _ _ hcs).mono ?_; rintro e w5 ⟨rfl, hb5⟩)))
          go_ret
          refine ⟨ret_str ?_, by (repeat (first | exact Below.refl _ _ | assumption | refine balloc ?_ _ | refine bdrew ?_ | refine bdrewN ?_ _ | refine bchain ?_ (by assumption)))⟩
          exact (HS.out.trans HM.out).symm
      · have HM := Lib.hid (mend_suf (.inr (.inl h2)))
        go_enter Tryd.func39, Tryd.ntmps39
        go_wp2_with (first
          | (go_at_call 58; refine (longest_any s L1b _ _ (w.heap.size + 1) _ hs (by decide) (by decide) (by simp) (slc_new w _ _)).mono ?_; rw [HL.out, HB.out]; simp only [atv]; rintro e w1 ⟨rfl, hb1⟩)
          | (go_at_call 60; refine (hasVowel_any _ _ hcs).mono ?_; rintro e w2 ⟨rfl, hb2⟩))
        refine wp_loop_rounds 4 ?_
        iterate 2 (rw [rounds_succ]; go_wp2_with (first
          | (go_at_call 33; refine (hasSuffix_any _ _ _ hcs (by decide)).mono ?_; rintro e w' ⟨rfl, rfl⟩)
          | (go_at_call 61; refine (endsDouble_any _ _ hcs).mono ?_; rintro e w3 ⟨rfl, hb3⟩)
          | (go_at_call 56; refine (measure_any _ _ hcs).mono ?_; rintro e w4 ⟨rfl, hb4⟩)
          | (go_at_call 57; refine (endsShort_any _ _ hcs).mono ?_; rintro e w5 ⟨rfl, hb5⟩)))
        go_ret
        refine ⟨ret_str ?_, by (repeat (first | exact Below.refl _ _ | assumption | refine balloc ?_ _ | refine bdrew ?_ | refine bdrewN ?_ _ | refine bchain ?_ (by assumption)))⟩
        exact (HS.out.trans HM.out).symm
    · have HM := Lib.hid (mend_suf (.inl h1))
      go_enter Tryd.func39, Tryd.ntmps39
      go_wp2_with (first
        | (go_at_call 58; refine (longest_any s L1b _ _ (w.heap.size + 1) _ hs (by decide) (by decide) (by simp) (slc_new w _ _)).mono ?_; rw [HL.out, HB.out]; simp only [atv]; rintro e w1 ⟨rfl, hb1⟩)
        | (go_at_call 60; refine (hasVowel_any _ _ hcs).mono ?_; rintro e w2 ⟨rfl, hb2⟩))
      refine wp_loop_rounds 4 ?_
      iterate 1 (rw [rounds_succ]; go_wp2_with (first
        | (go_at_call 33; refine (hasSuffix_any _ _ _ hcs (by decide)).mono ?_; rintro e w' ⟨rfl, rfl⟩)
        | (go_at_call 61; refine (endsDouble_any _ _ hcs).mono ?_; rintro e w3 ⟨rfl, hb3⟩)
        | (go_at_call 56; refine (measure_any _ _ hcs).mono ?_; rintro e w4 ⟨rfl, hb4⟩)
        | (go_at_call 57; refine (endsShort_any _ _ hcs).mono ?_; rintro e w5 ⟨rfl, hb5⟩)))
      go_ret
      refine ⟨ret_str ?_, by (repeat (first | exact Below.refl _ _ | assumption | refine balloc ?_ _ | refine bdrew ?_ | refine bdrewN ?_ _ | refine bchain ?_ (by assumption)))⟩
      exact (HS.out.trans HM.out).symm

set_option maxHeartbeats 8000000 in
theorem step1b_2 (s : ByteArray) (w : World) (hs : s.size ≤ 281474976710656) (hbs : bst s L1b L1b.length = some 2) :
    Calls Tryd.prog 39 #[.string s] w fun r w' => r = .returned (.string (s1b s)) ∧ Below w.heap.size w w' := by
  have HN := Lib.hid (s1b_2 hbs)
  have HL := Lib.hid (lrest_some (q := (⟨#[105, 110, 103]⟩, ⟨#[]⟩)) hbs rfl)
  have HB := Lib.hid hbs
  have hcs : (cut s ⟨#[105, 110, 103]⟩).size ≤ 281474976710656 := by rw [cut_size]; omega
  obtain ⟨r, hr⟩ : ∃ r, r = cut s ⟨#[105, 110, 103]⟩ := ⟨_, rfl⟩
  rw [← hr] at HN HL hcs
  have hms := meas_lt r
  have q0 := bt_nonneg r (r.size - 1)
  have q1 := bt_le r (r.size - 1)
  have hgb := get_bt r
  clear hbs hr
  rcases hv : hasV r with _ | _
  · have HV := Lib.hid hv
    go_enter Tryd.func39, Tryd.ntmps39
    go_wp2_with (first
      | (go_at_call 58; refine (longest_any s L1b _ _ (w.heap.size + 1) _ hs (by decide) (by decide) (by simp) (slc_new w _ _)).mono ?_; rw [HL.out, HB.out]; simp only [atv]; rintro e w1 ⟨rfl, hb1⟩)
      | (go_at_call 60; refine (hasVowel_any _ _ hcs).mono ?_; rintro e w2 ⟨rfl, hb2⟩))
    go_ret
    exact ⟨ret_str (by rw [HN.out, HV.out]; rfl), bchain (bchain (balloc (Below.refl _ _) _) hb1) hb2⟩
  · have HS : Hid (s1b s = mend r) := Lib.hid (by rw [HN.out, hv]; rfl)
    clear HN
    rcases h1 : sfx r ⟨#[97, 116]⟩ with _ | _
    · rcases h2 : sfx r ⟨#[98, 108]⟩ with _ | _
      · rcases h3 : sfx r ⟨#[105, 122]⟩ with _ | _
        · have HM := Lib.hid (mend_rest h1 h2 h3)
          rcases hd : dbl r with _ | _
          · have HD : Hid ((dbl r && !lsz (bt r (r.size - 1))) = false) := Lib.hid (by rw [hd]; rfl)
            rcases hm : (meas r == 1) with _ | _
            · have HM1 := Lib.hid hm
              have hmi : (((meas r : Nat) : Int) == 1) = false := by have : meas r ≠ 1 := by simpa using hm
                                                                     simp; omega
              clear hm
              go_enter Tryd.func39, Tryd.ntmps39
              go_wp2_with (first
                | (go_at_call 58; refine (longest_any s L1b _ _ (w.heap.size + 1) _ hs (by decide) (by decide) (by simp) (slc_new w _ _)).mono ?_; rw [HL.out, HB.out]; simp only [atv]; rintro e w1 ⟨rfl, hb1⟩)
                | (go_at_call 60; refine (hasVowel_any _ _ hcs).mono ?_; rintro e w2 ⟨rfl, hb2⟩))
              refine wp_loop_rounds 4 ?_
              iterate 4 (rw [rounds_succ]; go_wp2_with (first
                | (go_at_call 33; refine (hasSuffix_any _ _ _ hcs (by decide)).mono ?_; rintro e w' ⟨rfl, rfl⟩)
                | (go_at_call 61; refine (endsDouble_any _ _ hcs).mono ?_; rintro e w3 ⟨rfl, hb3⟩)
                | (go_at_call 56; refine (measure_any _ _ hcs).mono ?_; rintro e w4 ⟨rfl, hb4⟩)
                | (go_at_call 57; refine (endsShort_any _ _ hcs).mono ?_; rintro e w5 ⟨rfl, hb5⟩)))
              go_ret
              refine ⟨ret_str ?_, by (repeat (first | exact Below.refl _ _ | assumption | refine balloc ?_ _ | refine bdrew ?_ | refine bdrewN ?_ _ | refine bchain ?_ (by assumption)))⟩
              rw [HS.out, HM.out, HD.out, HM1.out]
              rfl
            · have HM1 := Lib.hid hm
              have hmi : (((meas r : Nat) : Int) == 1) = true := by have : meas r = 1 := by simpa using hm
                                                                    simp; omega
              clear hm
              rcases hsh : shrt r with _ | _
              · have HSH := Lib.hid hsh
                go_enter Tryd.func39, Tryd.ntmps39
                go_wp2_with (first
                  | (go_at_call 58; refine (longest_any s L1b _ _ (w.heap.size + 1) _ hs (by decide) (by decide) (by simp) (slc_new w _ _)).mono ?_; rw [HL.out, HB.out]; simp only [atv]; rintro e w1 ⟨rfl, hb1⟩)
                  | (go_at_call 60; refine (hasVowel_any _ _ hcs).mono ?_; rintro e w2 ⟨rfl, hb2⟩))
                refine wp_loop_rounds 4 ?_
                iterate 4 (rw [rounds_succ]; go_wp2_with (first
                  | (go_at_call 33; refine (hasSuffix_any _ _ _ hcs (by decide)).mono ?_; rintro e w' ⟨rfl, rfl⟩)
                  | (go_at_call 61; refine (endsDouble_any _ _ hcs).mono ?_; rintro e w3 ⟨rfl, hb3⟩)
                  | (go_at_call 56; refine (measure_any _ _ hcs).mono ?_; rintro e w4 ⟨rfl, hb4⟩)
                  | (go_at_call 57; refine (endsShort_any _ _ hcs).mono ?_; rintro e w5 ⟨rfl, hb5⟩)))
                go_ret
                refine ⟨ret_str ?_, by (repeat (first | exact Below.refl _ _ | assumption | refine balloc ?_ _ | refine bdrew ?_ | refine bdrewN ?_ _ | refine bchain ?_ (by assumption)))⟩
                rw [HS.out, HM.out, HD.out, HM1.out, HSH.out]
                rfl
              · have HSH := Lib.hid hsh
                go_enter Tryd.func39, Tryd.ntmps39
                go_wp2_with (first
                  | (go_at_call 58; refine (longest_any s L1b _ _ (w.heap.size + 1) _ hs (by decide) (by decide) (by simp) (slc_new w _ _)).mono ?_; rw [HL.out, HB.out]; simp only [atv]; rintro e w1 ⟨rfl, hb1⟩)
                  | (go_at_call 60; refine (hasVowel_any _ _ hcs).mono ?_; rintro e w2 ⟨rfl, hb2⟩))
                refine wp_loop_rounds 4 ?_
                iterate 4 (rw [rounds_succ]; go_wp2_with (first
                  | (go_at_call 33; refine (hasSuffix_any _ _ _ hcs (by decide)).mono ?_; rintro e w' ⟨rfl, rfl⟩)
                  | (go_at_call 61; refine (endsDouble_any _ _ hcs).mono ?_; rintro e w3 ⟨rfl, hb3⟩)
                  | (go_at_call 56; refine (measure_any _ _ hcs).mono ?_; rintro e w4 ⟨rfl, hb4⟩)
                  | (go_at_call 57; refine (endsShort_any _ _ hcs).mono ?_; rintro e w5 ⟨rfl, hb5⟩)))
                go_ret
                refine ⟨ret_str ?_, by (repeat (first | exact Below.refl _ _ | assumption | refine balloc ?_ _ | refine bdrew ?_ | refine bdrewN ?_ _ | refine bchain ?_ (by assumption)))⟩
                rw [HS.out, HM.out, HD.out, HM1.out, HSH.out]
                rfl
          · have hsz := dbl_size hd
            rcases hl : lsz (bt r (r.size - 1)) with _ | _
            · have HD : Hid ((dbl r && !lsz (bt r (r.size - 1))) = true) := Lib.hid (by rw [hd, hl]; rfl)
              have HLZ := Lib.hid hl
              clear hl
              go_enter Tryd.func39, Tryd.ntmps39
              go_wp2_with (first
                | (go_at_call 58; refine (longest_any s L1b _ _ (w.heap.size + 1) _ hs (by decide) (by decide) (by simp) (slc_new w _ _)).mono ?_; rw [HL.out, HB.out]; simp only [atv]; rintro e w1 ⟨rfl, hb1⟩)
                | (go_at_call 60; refine (hasVowel_any _ _ hcs).mono ?_; rintro e w2 ⟨rfl, hb2⟩))
              refine wp_loop_rounds 4 ?_
              iterate 4 (rw [rounds_succ]; go_wp2_with (first
                | (go_at_call 33; refine (hasSuffix_any _ _ _ hcs (by decide)).mono ?_; rintro e w' ⟨rfl, rfl⟩)
                | (go_at_call 61; refine (endsDouble_any _ _ hcs).mono ?_; rintro e w3 ⟨rfl, hb3⟩)
                | (go_at_call 56; refine (measure_any _ _ hcs).mono ?_; rintro e w4 ⟨rfl, hb4⟩)
                | (go_at_call 57; refine (endsShort_any _ _ hcs).mono ?_; rintro e w5 ⟨rfl, hb5⟩)
                | (go_at_call 62; refine (lsz_no _ _ q0 q1 HLZ.out).mono ?_; rintro e w' ⟨⟨i, rfl, hi⟩, rfl⟩)))
              go_ret
              refine ⟨ret_str ?_, by (repeat (first | exact Below.refl _ _ | assumption | refine balloc ?_ _ | refine bdrew ?_ | refine bdrewN ?_ _ | refine bchain ?_ (by assumption)))⟩
              rw [HS.out, HM.out, HD.out]
              rfl
            · have HD : Hid ((dbl r && !lsz (bt r (r.size - 1))) = false) := Lib.hid (by rw [hd, hl]; rfl)
              have HLZ := Lib.hid hl
              clear hl
              rcases hm : (meas r == 1) with _ | _
              · have HM1 := Lib.hid hm
                have hmi : (((meas r : Nat) : Int) == 1) = false := by have : meas r ≠ 1 := by simpa using hm
                                                                       simp; omega
                clear hm
                go_enter Tryd.func39, Tryd.ntmps39
                go_wp2_with (first
                  | (go_at_call 58; refine (longest_any s L1b _ _ (w.heap.size + 1) _ hs (by decide) (by decide) (by simp) (slc_new w _ _)).mono ?_; rw [HL.out, HB.out]; simp only [atv]; rintro e w1 ⟨rfl, hb1⟩)
                  | (go_at_call 60; refine (hasVowel_any _ _ hcs).mono ?_; rintro e w2 ⟨rfl, hb2⟩))
                refine wp_loop_rounds 4 ?_
                iterate 4 (rw [rounds_succ]; go_wp2_with (first
                  | (go_at_call 33; refine (hasSuffix_any _ _ _ hcs (by decide)).mono ?_; rintro e w' ⟨rfl, rfl⟩)
                  | (go_at_call 61; refine (endsDouble_any _ _ hcs).mono ?_; rintro e w3 ⟨rfl, hb3⟩)
                  | (go_at_call 56; refine (measure_any _ _ hcs).mono ?_; rintro e w4 ⟨rfl, hb4⟩)
                  | (go_at_call 57; refine (endsShort_any _ _ hcs).mono ?_; rintro e w5 ⟨rfl, hb5⟩)
                  | (go_at_call 62; refine (lsz_yes _ _ q0 q1 HLZ.out).mono ?_; rintro e w' ⟨⟨i, rfl, hi⟩, rfl⟩)))
                go_ret
                refine ⟨ret_str ?_, by (repeat (first | exact Below.refl _ _ | assumption | refine balloc ?_ _ | refine bdrew ?_ | refine bdrewN ?_ _ | refine bchain ?_ (by assumption)))⟩
                rw [HS.out, HM.out, HD.out, HM1.out]
                rfl
              · have HM1 := Lib.hid hm
                have hmi : (((meas r : Nat) : Int) == 1) = true := by have : meas r = 1 := by simpa using hm
                                                                      simp; omega
                clear hm
                rcases hsh : shrt r with _ | _
                · have HSH := Lib.hid hsh
                  go_enter Tryd.func39, Tryd.ntmps39
                  go_wp2_with (first
                    | (go_at_call 58; refine (longest_any s L1b _ _ (w.heap.size + 1) _ hs (by decide) (by decide) (by simp) (slc_new w _ _)).mono ?_; rw [HL.out, HB.out]; simp only [atv]; rintro e w1 ⟨rfl, hb1⟩)
                    | (go_at_call 60; refine (hasVowel_any _ _ hcs).mono ?_; rintro e w2 ⟨rfl, hb2⟩))
                  refine wp_loop_rounds 4 ?_
                  iterate 4 (rw [rounds_succ]; go_wp2_with (first
                    | (go_at_call 33; refine (hasSuffix_any _ _ _ hcs (by decide)).mono ?_; rintro e w' ⟨rfl, rfl⟩)
                    | (go_at_call 61; refine (endsDouble_any _ _ hcs).mono ?_; rintro e w3 ⟨rfl, hb3⟩)
                    | (go_at_call 56; refine (measure_any _ _ hcs).mono ?_; rintro e w4 ⟨rfl, hb4⟩)
                    | (go_at_call 57; refine (endsShort_any _ _ hcs).mono ?_; rintro e w5 ⟨rfl, hb5⟩)
                    | (go_at_call 62; refine (lsz_yes _ _ q0 q1 HLZ.out).mono ?_; rintro e w' ⟨⟨i, rfl, hi⟩, rfl⟩)))
                  go_ret
                  refine ⟨ret_str ?_, by (repeat (first | exact Below.refl _ _ | assumption | refine balloc ?_ _ | refine bdrew ?_ | refine bdrewN ?_ _ | refine bchain ?_ (by assumption)))⟩
                  rw [HS.out, HM.out, HD.out, HM1.out, HSH.out]
                  rfl
                · have HSH := Lib.hid hsh
                  go_enter Tryd.func39, Tryd.ntmps39
                  go_wp2_with (first
                    | (go_at_call 58; refine (longest_any s L1b _ _ (w.heap.size + 1) _ hs (by decide) (by decide) (by simp) (slc_new w _ _)).mono ?_; rw [HL.out, HB.out]; simp only [atv]; rintro e w1 ⟨rfl, hb1⟩)
                    | (go_at_call 60; refine (hasVowel_any _ _ hcs).mono ?_; rintro e w2 ⟨rfl, hb2⟩))
                  refine wp_loop_rounds 4 ?_
                  iterate 4 (rw [rounds_succ]; go_wp2_with (first
                    | (go_at_call 33; refine (hasSuffix_any _ _ _ hcs (by decide)).mono ?_; rintro e w' ⟨rfl, rfl⟩)
                    | (go_at_call 61; refine (endsDouble_any _ _ hcs).mono ?_; rintro e w3 ⟨rfl, hb3⟩)
                    | (go_at_call 56; refine (measure_any _ _ hcs).mono ?_; rintro e w4 ⟨rfl, hb4⟩)
                    | (go_at_call 57; refine (endsShort_any _ _ hcs).mono ?_; rintro e w5 ⟨rfl, hb5⟩)
                    | (go_at_call 62; refine (lsz_yes _ _ q0 q1 HLZ.out).mono ?_; rintro e w' ⟨⟨i, rfl, hi⟩, rfl⟩)))
                  go_ret
                  refine ⟨ret_str ?_, by (repeat (first | exact Below.refl _ _ | assumption | refine balloc ?_ _ | refine bdrew ?_ | refine bdrewN ?_ _ | refine bchain ?_ (by assumption)))⟩
                  rw [HS.out, HM.out, HD.out, HM1.out, HSH.out]
                  rfl
        · have HM := Lib.hid (mend_suf (.inr (.inr h3)))
          go_enter Tryd.func39, Tryd.ntmps39
          go_wp2_with (first
            | (go_at_call 58; refine (longest_any s L1b _ _ (w.heap.size + 1) _ hs (by decide) (by decide) (by simp) (slc_new w _ _)).mono ?_; rw [HL.out, HB.out]; simp only [atv]; rintro e w1 ⟨rfl, hb1⟩)
            | (go_at_call 60; refine (hasVowel_any _ _ hcs).mono ?_; rintro e w2 ⟨rfl, hb2⟩))
          refine wp_loop_rounds 4 ?_
          iterate 3 (rw [rounds_succ]; go_wp2_with (first
            | (go_at_call 33; refine (hasSuffix_any _ _ _ hcs (by decide)).mono ?_; rintro e w' ⟨rfl, rfl⟩)
            | (go_at_call 61; refine (endsDouble_any _ _ hcs).mono ?_; rintro e w3 ⟨rfl, hb3⟩)
            | (go_at_call 56; refine (measure_any _ _ hcs).mono ?_; rintro e w4 ⟨rfl, hb4⟩)
            | (go_at_call 57; refine (endsShort_any _ _ hcs).mono ?_; rintro e w5 ⟨rfl, hb5⟩)))
          go_ret
          refine ⟨ret_str ?_, by (repeat (first | exact Below.refl _ _ | assumption | refine balloc ?_ _ | refine bdrew ?_ | refine bdrewN ?_ _ | refine bchain ?_ (by assumption)))⟩
          exact (HS.out.trans HM.out).symm
      · have HM := Lib.hid (mend_suf (.inr (.inl h2)))
        go_enter Tryd.func39, Tryd.ntmps39
        go_wp2_with (first
          | (go_at_call 58; refine (longest_any s L1b _ _ (w.heap.size + 1) _ hs (by decide) (by decide) (by simp) (slc_new w _ _)).mono ?_; rw [HL.out, HB.out]; simp only [atv]; rintro e w1 ⟨rfl, hb1⟩)
          | (go_at_call 60; refine (hasVowel_any _ _ hcs).mono ?_; rintro e w2 ⟨rfl, hb2⟩))
        refine wp_loop_rounds 4 ?_
        iterate 2 (rw [rounds_succ]; go_wp2_with (first
          | (go_at_call 33; refine (hasSuffix_any _ _ _ hcs (by decide)).mono ?_; rintro e w' ⟨rfl, rfl⟩)
          | (go_at_call 61; refine (endsDouble_any _ _ hcs).mono ?_; rintro e w3 ⟨rfl, hb3⟩)
          | (go_at_call 56; refine (measure_any _ _ hcs).mono ?_; rintro e w4 ⟨rfl, hb4⟩)
          | (go_at_call 57; refine (endsShort_any _ _ hcs).mono ?_; rintro e w5 ⟨rfl, hb5⟩)))
        go_ret
        refine ⟨ret_str ?_, by (repeat (first | exact Below.refl _ _ | assumption | refine balloc ?_ _ | refine bdrew ?_ | refine bdrewN ?_ _ | refine bchain ?_ (by assumption)))⟩
        exact (HS.out.trans HM.out).symm
    · have HM := Lib.hid (mend_suf (.inl h1))
      go_enter Tryd.func39, Tryd.ntmps39
      go_wp2_with (first
        | (go_at_call 58; refine (longest_any s L1b _ _ (w.heap.size + 1) _ hs (by decide) (by decide) (by simp) (slc_new w _ _)).mono ?_; rw [HL.out, HB.out]; simp only [atv]; rintro e w1 ⟨rfl, hb1⟩)
        | (go_at_call 60; refine (hasVowel_any _ _ hcs).mono ?_; rintro e w2 ⟨rfl, hb2⟩))
      refine wp_loop_rounds 4 ?_
      iterate 1 (rw [rounds_succ]; go_wp2_with (first
        | (go_at_call 33; refine (hasSuffix_any _ _ _ hcs (by decide)).mono ?_; rintro e w' ⟨rfl, rfl⟩)
        | (go_at_call 61; refine (endsDouble_any _ _ hcs).mono ?_; rintro e w3 ⟨rfl, hb3⟩)
        | (go_at_call 56; refine (measure_any _ _ hcs).mono ?_; rintro e w4 ⟨rfl, hb4⟩)
        | (go_at_call 57; refine (endsShort_any _ _ hcs).mono ?_; rintro e w5 ⟨rfl, hb5⟩)))
      go_ret
      refine ⟨ret_str ?_, by (repeat (first | exact Below.refl _ _ | assumption | refine balloc ?_ _ | refine bdrew ?_ | refine bdrewN ?_ _ | refine bchain ?_ (by assumption)))⟩
      exact (HS.out.trans HM.out).symm

theorem step1b_any (s : ByteArray) (w : World) (hs : s.size ≤ 281474976710656) :
    Calls Tryd.prog 39 #[.string s] w fun r w' => r = .returned (.string (s1b s)) ∧ Below w.heap.size w w' := by
  rcases hbs : bst s L1b L1b.length with _ | j
  · exact step1b_none s w hs hbs
  · have hj : j < 3 := (bst_lt s L1b L1b.length j hbs).1
    obtain rfl | rfl | rfl : j = 0 ∨ j = 1 ∨ j = 2 := by omega
    · exact step1b_0 s w hs hbs
    · exact step1b_1 s w hs hbs
    · exact step1b_2 s w hs hbs
end Go.Proofs.YtmoahflgcojfcaaDoor.StemWalk5
