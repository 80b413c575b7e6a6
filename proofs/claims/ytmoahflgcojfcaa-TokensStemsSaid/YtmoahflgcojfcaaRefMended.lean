/-
  The walk of the reference's mended.
-/
import Derived.Test.YtmoahflgcojfcaaRefLongest
import Derived.Test.YtmoahflgcojfcaaStemWalk5
namespace Go.Proofs.Ytmoahflgcojfcaa.RefMended
open Go.RowKit Go.PlainAid StemPlain Base Vowels StemWalk StemWalk2 RefForm RefShort RefLongest
open StemWalk5 (mend_suf mend_rest dbl_size)

theorem sfx_one {s : ByteArray} (c : UInt8) (h : 1 ≤ s.size) : sfx s ⟨#[c]⟩ = (bt s (s.size - 1) == (c.toNat : Int)) := by
  unfold sfx
  have e : (⟨#[c]⟩ : ByteArray).size = 1 := rfl
  rw [e, decide_eq_true h, Bool.true_and, ByteArray.data_extract]
  have hl : (s.data.extract (s.size - 1) s.size).toList = [s[s.size - 1]'(by omega)] := by
    apply List.ext_getElem?
    intro j
    rcases j with _ | j
    · simp only [Array.getElem?_toList, Array.getElem?_extract]
      have : s.size - 1 < s.data.size := by show s.size - 1 < s.size; omega
      have h2 : 0 < min s.size s.data.size - (s.size - 1) := by show 0 < min s.size s.size - (s.size - 1); omega
      simp [h2, this]
      exact ⟨by omega, Array.getElem?_eq_getElem this⟩
    · simp
      omega
  rw [hl]
  unfold bt
  rw [dif_pos (by omega)]
  show ([s[s.size - 1]] == [c]) = _
  rw [Bool.eq_iff_iff]
  simp
  rw [← UInt8.toNat_inj]
  omega

theorem lsz_sfx {s : ByteArray} (h : 1 ≤ s.size) (hl : lsz (bt s (s.size - 1)) = false) : sfx s ⟨#[108]⟩ = false ∧ sfx s ⟨#[115]⟩ = false ∧ sfx s ⟨#[122]⟩ = false := by
  rw [sfx_one 108 h, sfx_one 115 h, sfx_one 122 h]
  unfold lsz at hl
  simp only [Bool.or_eq_false_iff] at hl
  exact ⟨hl.1.1, hl.1.2, hl.2⟩
theorem lsz_sfx' {s : ByteArray} (h : 1 ≤ s.size) (hl : lsz (bt s (s.size - 1)) = true) : sfx s ⟨#[108]⟩ = true ∨ (sfx s ⟨#[108]⟩ = false ∧ sfx s ⟨#[115]⟩ = true) ∨ (sfx s ⟨#[108]⟩ = false ∧ sfx s ⟨#[115]⟩ = false ∧ sfx s ⟨#[122]⟩ = true) := by
  rw [sfx_one 108 h, sfx_one 115 h, sfx_one 122 h]
  unfold lsz at hl
  simp only [Bool.or_eq_true] at hl
  cases h1 : (bt s (s.size - 1) == ((108 : UInt8).toNat : Int)) <;> cases h2 : (bt s (s.size - 1) == ((115 : UInt8).toNat : Int)) <;> cases h3 : (bt s (s.size - 1) == ((122 : UInt8).toNat : Int)) <;> simp
  rcases hl with (h | h) | h
  · exact absurd (h.symm.trans h1) (by simp)
  · exact absurd (h.symm.trans h2) (by simp)
  · exact absurd (h.symm.trans h3) (by simp)

set_option maxHeartbeats 8000000 in
theorem mended_any (r : ByteArray) (w : World) (hs : r.size ≤ 140737488351327) :
    Calls Try.prog 49 #[.string r] w fun e w' => e = .returned (.string (mend r)) ∧ Below w.heap.size w w' := by
  have hs1 : r.size ≤ 140737488355327 := by omega
  have hs2 : r.size ≤ 281474976710656 := by omega
  have hms : meas r ≤ r.size := by unfold meas; have := msTo_le r (r.size - 1); omega
  rcases h1 : sfx r ⟨#[97, 116]⟩ with _ | _
  · rcases h2 : sfx r ⟨#[98, 108]⟩ with _ | _
    · rcases h3 : sfx r ⟨#[105, 122]⟩ with _ | _
      · have HM := Lib.hid (mend_rest h1 h2 h3)
        rcases hd : dbl r with _ | _
        · have HD : Hid ((dbl r && !lsz (bt r (r.size - 1))) = false) := Lib.hid (by rw [hd]; rfl)
          rcases hm : (meas r == 1) with _ | _
          · have HM1 := Lib.hid hm
            have hmi : (((meas r : Nat) : Int) == 1) = false := by have : meas r ≠ 1 := by simpa using hm
                                                                   simp; omega
            clear hm
            go_enter Try.func49, Try.ntmps49
            go_wp2_with (first
              | (go_at_call 30; refine (ends_any _ _ _ hs2 (by decide)).mono ?_; rintro e w' ⟨rfl, rfl⟩)
              | (go_at_call 56; refine (double_any _ _ hs1).mono ?_; rintro e w3 ⟨rfl, hb3⟩)
              | (go_at_call 47; refine (measure_ref _ _ hs1).mono ?_; rintro e w4 ⟨rfl, hb4⟩)
              | (go_at_call 51; refine (short_any _ _ hs1).mono ?_; rintro e w5 ⟨rfl, hb5⟩))
            go_ret
            refine ⟨ret_str ?_, by (repeat (first | exact Below.refl _ _ | assumption | refine balloc ?_ _ | refine bdrew ?_ | refine bdrewN ?_ _ | refine bchain ?_ (by assumption)))⟩
            rw [HM.out, HD.out, HM1.out]
            rfl
          · have HM1 := Lib.hid hm
            have hmi : (((meas r : Nat) : Int) == 1) = true := by have : meas r = 1 := by simpa using hm
                                                                  simp; omega
            clear hm
            rcases hsh : shrt r with _ | _
            · have HSH := Lib.hid hsh
              go_enter Try.func49, Try.ntmps49
              go_wp2_with (first
                | (go_at_call 30; refine (ends_any _ _ _ hs2 (by decide)).mono ?_; rintro e w' ⟨rfl, rfl⟩)
                | (go_at_call 56; refine (double_any _ _ hs1).mono ?_; rintro e w3 ⟨rfl, hb3⟩)
                | (go_at_call 47; refine (measure_ref _ _ hs1).mono ?_; rintro e w4 ⟨rfl, hb4⟩)
                | (go_at_call 51; refine (short_any _ _ hs1).mono ?_; rintro e w5 ⟨rfl, hb5⟩))
              go_ret
              refine ⟨ret_str ?_, by (repeat (first | exact Below.refl _ _ | assumption | refine balloc ?_ _ | refine bdrew ?_ | refine bdrewN ?_ _ | refine bchain ?_ (by assumption)))⟩
              rw [HM.out, HD.out, HM1.out, HSH.out]
              rfl
            · have HSH := Lib.hid hsh
              go_enter Try.func49, Try.ntmps49
              go_wp2_with (first
                | (go_at_call 30; refine (ends_any _ _ _ hs2 (by decide)).mono ?_; rintro e w' ⟨rfl, rfl⟩)
                | (go_at_call 56; refine (double_any _ _ hs1).mono ?_; rintro e w3 ⟨rfl, hb3⟩)
                | (go_at_call 47; refine (measure_ref _ _ hs1).mono ?_; rintro e w4 ⟨rfl, hb4⟩)
                | (go_at_call 51; refine (short_any _ _ hs1).mono ?_; rintro e w5 ⟨rfl, hb5⟩))
              go_ret
              refine ⟨ret_str ?_, by (repeat (first | exact Below.refl _ _ | assumption | refine balloc ?_ _ | refine bdrew ?_ | refine bdrewN ?_ _ | refine bchain ?_ (by assumption)))⟩
              rw [HM.out, HD.out, HM1.out, HSH.out]
              rfl
        · have hsz := dbl_size hd
          rcases hl : lsz (bt r (r.size - 1)) with _ | _
          · have HD : Hid ((dbl r && !lsz (bt r (r.size - 1))) = true) := Lib.hid (by rw [hd, hl]; rfl)
            obtain ⟨g1, g2, g3⟩ := lsz_sfx (by omega) hl
            clear hl
            go_enter Try.func49, Try.ntmps49
            go_wp2_with (first
              | (go_at_call 30; refine (ends_any _ _ _ hs2 (by decide)).mono ?_; rintro e w' ⟨rfl, rfl⟩)
              | (go_at_call 56; refine (double_any _ _ hs1).mono ?_; rintro e w3 ⟨rfl, hb3⟩)
              | (go_at_call 47; refine (measure_ref _ _ hs1).mono ?_; rintro e w4 ⟨rfl, hb4⟩)
              | (go_at_call 51; refine (short_any _ _ hs1).mono ?_; rintro e w5 ⟨rfl, hb5⟩))
            go_ret
            refine ⟨ret_str ?_, by (repeat (first | exact Below.refl _ _ | assumption | refine balloc ?_ _ | refine bdrew ?_ | refine bdrewN ?_ _ | refine bchain ?_ (by assumption)))⟩
            rw [HM.out, HD.out]
            rfl
          · have HD : Hid ((dbl r && !lsz (bt r (r.size - 1))) = false) := Lib.hid (by rw [hd, hl]; rfl)
            have hw := lsz_sfx' (by omega) hl
            clear hl
            rcases hw with g1 | ⟨g1, g2⟩ | ⟨g1, g2, g3⟩
            · skip
              rcases hm : (meas r == 1) with _ | _
              · have HM1 := Lib.hid hm
                have hmi : (((meas r : Nat) : Int) == 1) = false := by have : meas r ≠ 1 := by simpa using hm
                                                                       simp; omega
                clear hm
                go_enter Try.func49, Try.ntmps49
                go_wp2_with (first
                  | (go_at_call 30; refine (ends_any _ _ _ hs2 (by decide)).mono ?_; rintro e w' ⟨rfl, rfl⟩)
                  | (go_at_call 56; refine (double_any _ _ hs1).mono ?_; rintro e w3 ⟨rfl, hb3⟩)
                  | (go_at_call 47; refine (measure_ref _ _ hs1).mono ?_; rintro e w4 ⟨rfl, hb4⟩)
                  | (go_at_call 51; refine (short_any _ _ hs1).mono ?_; rintro e w5 ⟨rfl, hb5⟩))
                go_ret
                refine ⟨ret_str ?_, by (repeat (first | exact Below.refl _ _ | assumption | refine balloc ?_ _ | refine bdrew ?_ | refine bdrewN ?_ _ | refine bchain ?_ (by assumption)))⟩
                rw [HM.out, HD.out, HM1.out]
                rfl
              · have HM1 := Lib.hid hm
                have hmi : (((meas r : Nat) : Int) == 1) = true := by have : meas r = 1 := by simpa using hm
                                                                      simp; omega
                clear hm
                rcases hsh : shrt r with _ | _
                · have HSH := Lib.hid hsh
                  go_enter Try.func49, Try.ntmps49
                  go_wp2_with (first
                    | (go_at_call 30; refine (ends_any _ _ _ hs2 (by decide)).mono ?_; rintro e w' ⟨rfl, rfl⟩)
                    | (go_at_call 56; refine (double_any _ _ hs1).mono ?_; rintro e w3 ⟨rfl, hb3⟩)
                    | (go_at_call 47; refine (measure_ref _ _ hs1).mono ?_; rintro e w4 ⟨rfl, hb4⟩)
                    | (go_at_call 51; refine (short_any _ _ hs1).mono ?_; rintro e w5 ⟨rfl, hb5⟩))
                  go_ret
                  refine ⟨ret_str ?_, by (repeat (first | exact Below.refl _ _ | assumption | refine balloc ?_ _ | refine bdrew ?_ | refine bdrewN ?_ _ | refine bchain ?_ (by assumption)))⟩
                  rw [HM.out, HD.out, HM1.out, HSH.out]
                  rfl
                · have HSH := Lib.hid hsh
                  go_enter Try.func49, Try.ntmps49
                  go_wp2_with (first
                    | (go_at_call 30; refine (ends_any _ _ _ hs2 (by decide)).mono ?_; rintro e w' ⟨rfl, rfl⟩)
                    | (go_at_call 56; refine (double_any _ _ hs1).mono ?_; rintro e w3 ⟨rfl, hb3⟩)
                    | (go_at_call 47; refine (measure_ref _ _ hs1).mono ?_; rintro e w4 ⟨rfl, hb4⟩)
                    | (go_at_call 51; refine (short_any _ _ hs1).mono ?_; rintro e w5 ⟨rfl, hb5⟩))
                  go_ret
                  refine ⟨ret_str ?_, by (repeat (first | exact Below.refl _ _ | assumption | refine balloc ?_ _ | refine bdrew ?_ | refine bdrewN ?_ _ | refine bchain ?_ (by assumption)))⟩
                  rw [HM.out, HD.out, HM1.out, HSH.out]
                  rfl
            · skip
              rcases hm : (meas r == 1) with _ | _
              · have HM1 := Lib.hid hm
                have hmi : (((meas r : Nat) : Int) == 1) = false := by have : meas r ≠ 1 := by simpa using hm
                                                                       simp; omega
                clear hm
                go_enter Try.func49, Try.ntmps49
                go_wp2_with (first
                  | (go_at_call 30; refine (ends_any _ _ _ hs2 (by decide)).mono ?_; rintro e w' ⟨rfl, rfl⟩)
                  | (go_at_call 56; refine (double_any _ _ hs1).mono ?_; rintro e w3 ⟨rfl, hb3⟩)
                  | (go_at_call 47; refine (measure_ref _ _ hs1).mono ?_; rintro e w4 ⟨rfl, hb4⟩)
                  | (go_at_call 51; refine (short_any _ _ hs1).mono ?_; rintro e w5 ⟨rfl, hb5⟩))
                go_ret
                refine ⟨ret_str ?_, by (repeat (first | exact Below.refl _ _ | assumption | refine balloc ?_ _ | refine bdrew ?_ | refine bdrewN ?_ _ | refine bchain ?_ (by assumption)))⟩
                rw [HM.out, HD.out, HM1.out]
                rfl
              · have HM1 := Lib.hid hm
                have hmi : (((meas r : Nat) : Int) == 1) = true := by have : meas r = 1 := by simpa using hm
                                                                      simp; omega
                clear hm
                rcases hsh : shrt r with _ | _
                · have HSH := Lib.hid hsh
                  go_enter Try.func49, Try.ntmps49
                  go_wp2_with (first
                    | (go_at_call 30; refine (ends_any _ _ _ hs2 (by decide)).mono ?_; rintro e w' ⟨rfl, rfl⟩)
                    | (go_at_call 56; refine (double_any _ _ hs1).mono ?_; rintro e w3 ⟨rfl, hb3⟩)
                    | (go_at_call 47; refine (measure_ref _ _ hs1).mono ?_; rintro e w4 ⟨rfl, hb4⟩)
                    | (go_at_call 51; refine (short_any _ _ hs1).mono ?_; rintro e w5 ⟨rfl, hb5⟩))
                  go_ret
                  refine ⟨ret_str ?_, by (repeat (first | exact Below.refl _ _ | assumption | refine balloc ?_ _ | refine bdrew ?_ | refine bdrewN ?_ _ | refine bchain ?_ (by assumption)))⟩
                  rw [HM.out, HD.out, HM1.out, HSH.out]
                  rfl
                · have HSH := Lib.hid hsh
                  go_enter Try.func49, Try.ntmps49
                  go_wp2_with (first
                    | (go_at_call 30; refine (ends_any _ _ _ hs2 (by decide)).mono ?_; rintro e w' ⟨rfl, rfl⟩)
                    | (go_at_call 56; refine (double_any _ _ hs1).mono ?_; rintro e w3 ⟨rfl, hb3⟩)
                    | (go_at_call 47; refine (measure_ref _ _ hs1).mono ?_; rintro e w4 ⟨rfl, hb4⟩)
                    | (go_at_call 51; refine (short_any _ _ hs1).mono ?_; rintro e w5 ⟨rfl, hb5⟩))
                  go_ret
                  refine ⟨ret_str ?_, by (repeat (first | exact Below.refl _ _ | assumption | refine balloc ?_ _ | refine bdrew ?_ | refine bdrewN ?_ _ | refine bchain ?_ (by assumption)))⟩
                  rw [HM.out, HD.out, HM1.out, HSH.out]
                  rfl
            · skip
              rcases hm : (meas r == 1) with _ | _
              · have HM1 := Lib.hid hm
                have hmi : (((meas r : Nat) : Int) == 1) = false := by have : meas r ≠ 1 := by simpa using hm
                                                                       simp; omega
                clear hm
                go_enter Try.func49, Try.ntmps49
                go_wp2_with (first
                  | (go_at_call 30; refine (ends_any _ _ _ hs2 (by decide)).mono ?_; rintro e w' ⟨rfl, rfl⟩)
                  | (go_at_call 56; refine (double_any _ _ hs1).mono ?_; rintro e w3 ⟨rfl, hb3⟩)
                  | (go_at_call 47; refine (measure_ref _ _ hs1).mono ?_; rintro e w4 ⟨rfl, hb4⟩)
                  | (go_at_call 51; refine (short_any _ _ hs1).mono ?_; rintro e w5 ⟨rfl, hb5⟩))
                go_ret
                refine ⟨ret_str ?_, by (repeat (first | exact Below.refl _ _ | assumption | refine balloc ?_ _ | refine bdrew ?_ | refine bdrewN ?_ _ | refine bchain ?_ (by assumption)))⟩
                rw [HM.out, HD.out, HM1.out]
                rfl
              · have HM1 := Lib.hid hm
                have hmi : (((meas r : Nat) : Int) == 1) = true := by have : meas r = 1 := by simpa using hm
                                                                      simp; omega
                clear hm
                rcases hsh : shrt r with _ | _
                · have HSH := Lib.hid hsh
                  go_enter Try.func49, Try.ntmps49
                  go_wp2_with (first
                    | (go_at_call 30; refine (ends_any _ _ _ hs2 (by decide)).mono ?_; rintro e w' ⟨rfl, rfl⟩)
                    | (go_at_call 56; refine (double_any _ _ hs1).mono ?_; rintro e w3 ⟨rfl, hb3⟩)
                    | (go_at_call 47; refine (measure_ref _ _ hs1).mono ?_; rintro e w4 ⟨rfl, hb4⟩)
                    | (go_at_call 51; refine (short_any _ _ hs1).mono ?_; rintro e w5 ⟨rfl, hb5⟩))
                  go_ret
                  refine ⟨ret_str ?_, by (repeat (first | exact Below.refl _ _ | assumption | refine balloc ?_ _ | refine bdrew ?_ | refine bdrewN ?_ _ | refine bchain ?_ (by assumption)))⟩
                  rw [HM.out, HD.out, HM1.out, HSH.out]
                  rfl
                · have HSH := Lib.hid hsh
                  go_enter Try.func49, Try.ntmps49
                  go_wp2_with (first
                    | (go_at_call 30; refine (ends_any _ _ _ hs2 (by decide)).mono ?_; rintro e w' ⟨rfl, rfl⟩)
                    | (go_at_call 56; refine (double_any _ _ hs1).mono ?_; rintro e w3 ⟨rfl, hb3⟩)
                    | (go_at_call 47; refine (measure_ref _ _ hs1).mono ?_; rintro e w4 ⟨rfl, hb4⟩)
                    | (go_at_call 51; refine (short_any _ _ hs1).mono ?_; rintro e w5 ⟨rfl, hb5⟩))
                  go_ret
                  refine ⟨ret_str ?_, by (repeat (first | exact Below.refl _ _ | assumption | refine balloc ?_ _ | refine bdrew ?_ | refine bdrewN ?_ _ | refine bchain ?_ (by assumption)))⟩
                  rw [HM.out, HD.out, HM1.out, HSH.out]
                  rfl
      · have HM := Lib.hid (mend_suf (.inr (.inr h3)))
        go_enter Try.func49, Try.ntmps49
        go_wp2_with (first
          | (go_at_call 30; refine (ends_any _ _ _ hs2 (by decide)).mono ?_; rintro e w' ⟨rfl, rfl⟩)
          | (go_at_call 56; refine (double_any _ _ hs1).mono ?_; rintro e w3 ⟨rfl, hb3⟩)
          | (go_at_call 47; refine (measure_ref _ _ hs1).mono ?_; rintro e w4 ⟨rfl, hb4⟩)
          | (go_at_call 51; refine (short_any _ _ hs1).mono ?_; rintro e w5 ⟨rfl, hb5⟩))
        go_ret
        refine ⟨ret_str ?_, by (repeat (first | exact Below.refl _ _ | assumption | refine balloc ?_ _ | refine bdrew ?_ | refine bdrewN ?_ _ | refine bchain ?_ (by assumption)))⟩
        exact HM.out.symm
    · have HM := Lib.hid (mend_suf (.inr (.inl h2)))
      go_enter Try.func49, Try.ntmps49
      go_wp2_with (first
        | (go_at_call 30; refine (ends_any _ _ _ hs2 (by decide)).mono ?_; rintro e w' ⟨rfl, rfl⟩)
        | (go_at_call 56; refine (double_any _ _ hs1).mono ?_; rintro e w3 ⟨rfl, hb3⟩)
        | (go_at_call 47; refine (measure_ref _ _ hs1).mono ?_; rintro e w4 ⟨rfl, hb4⟩)
        | (go_at_call 51; refine (short_any _ _ hs1).mono ?_; rintro e w5 ⟨rfl, hb5⟩))
      go_ret
      refine ⟨ret_str ?_, by (repeat (first | exact Below.refl _ _ | assumption | refine balloc ?_ _ | refine bdrew ?_ | refine bdrewN ?_ _ | refine bchain ?_ (by assumption)))⟩
      exact HM.out.symm
  · have HM := Lib.hid (mend_suf (.inl h1))
    go_enter Try.func49, Try.ntmps49
    go_wp2_with (first
      | (go_at_call 30; refine (ends_any _ _ _ hs2 (by decide)).mono ?_; rintro e w' ⟨rfl, rfl⟩)
      | (go_at_call 56; refine (double_any _ _ hs1).mono ?_; rintro e w3 ⟨rfl, hb3⟩)
      | (go_at_call 47; refine (measure_ref _ _ hs1).mono ?_; rintro e w4 ⟨rfl, hb4⟩)
      | (go_at_call 51; refine (short_any _ _ hs1).mono ?_; rintro e w5 ⟨rfl, hb5⟩))
    go_ret
    refine ⟨ret_str ?_, by (repeat (first | exact Below.refl _ _ | assumption | refine balloc ?_ _ | refine bdrew ?_ | refine bdrewN ?_ _ | refine bchain ?_ (by assumption)))⟩
    exact HM.out.symm
end Go.Proofs.Ytmoahflgcojfcaa.RefMended
