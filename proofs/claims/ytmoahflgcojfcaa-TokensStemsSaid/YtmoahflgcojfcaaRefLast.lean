/-
  The walk of the reference's last.
-/
import Derived.Test.YtmoahflgcojfcaaRefMended
import Derived.Test.YtmoahflgcojfcaaStemWalk7
import Derived.Deep.RegionWith
namespace Go.Proofs.Ytmoahflgcojfcaa.RefLast
open Go.RowKit Go.PlainAid StemPlain StemSize Base Vowels StemWalk StemWalk2 StemWalk3 StemWalk7 RefForm RefShort RefLongest

set_option maxHeartbeats 8000000 in
theorem last_any (s : ByteArray) (w : World) (hs : s.size ≤ 140737488355327) :
    Calls Try.prog 33 #[.string s] w fun r w' => r = .returned (.string (s5b (s5a s))) ∧ Below w.heap.size w w' := by
  have hcs : (cut s ⟨#[101]⟩).size ≤ 140737488355327 := by rw [cut_size]; omega
  obtain ⟨r, hr⟩ : ∃ r, r = cut s ⟨#[101]⟩ := ⟨_, rfl⟩
  have hms := meas_lt r
  have hs2 : s.size ≤ 281474976710656 := by omega
  have hmu := meas_lt s
  rw [← hr] at hcs
  have hcs2 : r.size ≤ 281474976710656 := by omega
  rcases hx : sfx s ⟨#[101]⟩ with _ | _
  · have HX := Lib.hid hx
    have HA := Lib.hid (s5a_no hx)
    clear hr
    rcases hll : sfx s ⟨#[108, 108]⟩ with _ | _
    · have HBB := Lib.hid (s5b_no hll)
      go_enter Try.func33, Try.ntmps33
      go_wp2_with (first
        | (go_at_call_of 47 (Value.string r); refine (measure_ref r _ hcs).mono ?_; rintro e wA ⟨rfl, hA⟩)
        | (go_at_call_of 47 (Value.string s); refine (measure_ref s _ hs).mono ?_; rintro e wB ⟨rfl, hB⟩)
        | (go_at_call 51; refine (short_any r _ hcs).mono ?_; rintro e wC ⟨rfl, hC⟩)
        | (go_at_call 30; refine (ends_any _ _ _ (by (first | exact hs2 | exact hcs2)) (by decide)).mono ?_; rintro e w' ⟨rfl, rfl⟩))
      all_goals (try (exfalso; omega))
      all_goals
        go_ret
        refine ⟨ret_str ?_, by (repeat (first | exact Below.refl _ _ | assumption | refine balloc ?_ _ | refine bdrew ?_ | refine bdrewN ?_ _ | refine bchain ?_ (by assumption)))⟩
        rw [HA.out, HBB.out]
    · have hle := sfx_le hll
      have hle2 : 2 ≤ s.size := hle
      by_cases hm2 : 1 < meas s
      · have HBB := Lib.hid (s5b_yes hll hm2)
        have hm2i : (1 : Int) < ((meas s : Nat) : Int) := by omega
        clear hm2
        go_enter Try.func33, Try.ntmps33
        go_wp2_with (first
          | (go_at_call_of 47 (Value.string r); refine (measure_ref r _ hcs).mono ?_; rintro e wA ⟨rfl, hA⟩)
          | (go_at_call_of 47 (Value.string s); refine (measure_ref s _ hs).mono ?_; rintro e wB ⟨rfl, hB⟩)
          | (go_at_call 51; refine (short_any r _ hcs).mono ?_; rintro e wC ⟨rfl, hC⟩)
          | (go_at_call 30; refine (ends_any _ _ _ (by (first | exact hs2 | exact hcs2)) (by decide)).mono ?_; rintro e w' ⟨rfl, rfl⟩))
        all_goals (try (exfalso; omega))
        all_goals
          go_ret
          refine ⟨ret_str ?_, by (repeat (first | exact Below.refl _ _ | assumption | refine balloc ?_ _ | refine bdrew ?_ | refine bdrewN ?_ _ | refine bchain ?_ (by assumption)))⟩
          rw [HA.out, HBB.out]
          first | rfl | exact HRE.out.symm
      · have HBB := Lib.hid (s5b_low hm2)
        have hm2i : ¬ (1 : Int) < ((meas s : Nat) : Int) := by omega
        clear hm2
        go_enter Try.func33, Try.ntmps33
        go_wp2_with (first
          | (go_at_call_of 47 (Value.string r); refine (measure_ref r _ hcs).mono ?_; rintro e wA ⟨rfl, hA⟩)
          | (go_at_call_of 47 (Value.string s); refine (measure_ref s _ hs).mono ?_; rintro e wB ⟨rfl, hB⟩)
          | (go_at_call 51; refine (short_any r _ hcs).mono ?_; rintro e wC ⟨rfl, hC⟩)
          | (go_at_call 30; refine (ends_any _ _ _ (by (first | exact hs2 | exact hcs2)) (by decide)).mono ?_; rintro e w' ⟨rfl, rfl⟩))
        all_goals (try (exfalso; omega))
        all_goals
          go_ret
          refine ⟨ret_str ?_, by (repeat (first | exact Below.refl _ _ | assumption | refine balloc ?_ _ | refine bdrew ?_ | refine bdrewN ?_ _ | refine bchain ?_ (by assumption)))⟩
          rw [HA.out, HBB.out]
  · have HX := Lib.hid hx
    have HR := Lib.hid hr
    have hle1 := sfx_le hx
    have hle0 : 1 ≤ s.size := hle1
    have hre : s.extract 0 (s.size - 1) = r := hr.symm
    have HRE := Lib.hid hre
    by_cases hm : 1 < meas r
    · have HA := Lib.hid (s5a_high hx (by rw [← hr]; exact hm))
      rw [← hr] at HA
      have hmi : (1 : Int) < ((meas r : Nat) : Int) := by omega
      clear hr hm
      rcases hll : sfx r ⟨#[108, 108]⟩ with _ | _
      · have HBB := Lib.hid (s5b_no hll)
        go_enter Try.func33, Try.ntmps33
        go_wp2_with (first
          | (go_at_call_of 47 (Value.string r); refine (measure_ref r _ hcs).mono ?_; rintro e wA ⟨rfl, hA⟩)
          | (go_at_call_of 47 (Value.string s); refine (measure_ref s _ hs).mono ?_; rintro e wB ⟨rfl, hB⟩)
          | (go_at_call 51; refine (short_any r _ hcs).mono ?_; rintro e wC ⟨rfl, hC⟩)
          | (go_at_call 30; refine (ends_any _ _ _ (by (first | exact hs2 | exact hcs2)) (by decide)).mono ?_; rintro e w' ⟨rfl, rfl⟩))
        all_goals (try (exfalso; omega))
        all_goals
          go_ret
          refine ⟨ret_str ?_, by (repeat (first | exact Below.refl _ _ | assumption | refine balloc ?_ _ | refine bdrew ?_ | refine bdrewN ?_ _ | refine bchain ?_ (by assumption)))⟩
          rw [HA.out, HBB.out]
      · have hle := sfx_le hll
        have hle2 : 2 ≤ r.size := hle
        by_cases hm2 : 1 < meas r
        · have HBB := Lib.hid (s5b_yes hll hm2)
          have hm2i : (1 : Int) < ((meas r : Nat) : Int) := by omega
          clear hm2
          go_enter Try.func33, Try.ntmps33
          go_wp2_with (first
            | (go_at_call_of 47 (Value.string r); refine (measure_ref r _ hcs).mono ?_; rintro e wA ⟨rfl, hA⟩)
            | (go_at_call_of 47 (Value.string s); refine (measure_ref s _ hs).mono ?_; rintro e wB ⟨rfl, hB⟩)
            | (go_at_call 51; refine (short_any r _ hcs).mono ?_; rintro e wC ⟨rfl, hC⟩)
            | (go_at_call 30; refine (ends_any _ _ _ (by (first | exact hs2 | exact hcs2)) (by decide)).mono ?_; rintro e w' ⟨rfl, rfl⟩))
          all_goals (try (exfalso; omega))
          all_goals
            go_ret
            refine ⟨ret_str ?_, by (repeat (first | exact Below.refl _ _ | assumption | refine balloc ?_ _ | refine bdrew ?_ | refine bdrewN ?_ _ | refine bchain ?_ (by assumption)))⟩
            rw [HA.out, HBB.out]
            first | rfl | exact HRE.out.symm
        · have HBB := Lib.hid (s5b_low hm2)
          have hm2i : ¬ (1 : Int) < ((meas r : Nat) : Int) := by omega
          clear hm2
          go_enter Try.func33, Try.ntmps33
          go_wp2_with (first
            | (go_at_call_of 47 (Value.string r); refine (measure_ref r _ hcs).mono ?_; rintro e wA ⟨rfl, hA⟩)
            | (go_at_call_of 47 (Value.string s); refine (measure_ref s _ hs).mono ?_; rintro e wB ⟨rfl, hB⟩)
            | (go_at_call 51; refine (short_any r _ hcs).mono ?_; rintro e wC ⟨rfl, hC⟩)
            | (go_at_call 30; refine (ends_any _ _ _ (by (first | exact hs2 | exact hcs2)) (by decide)).mono ?_; rintro e w' ⟨rfl, rfl⟩))
          all_goals (try (exfalso; omega))
          all_goals
            go_ret
            refine ⟨ret_str ?_, by (repeat (first | exact Below.refl _ _ | assumption | refine balloc ?_ _ | refine bdrew ?_ | refine bdrewN ?_ _ | refine bchain ?_ (by assumption)))⟩
            rw [HA.out, HBB.out]
    · by_cases hm1 : meas r = 1
      · have hmi : ¬ (1 : Int) < ((meas r : Nat) : Int) := by omega
        have hmj : (((meas r : Nat) : Int) == 1) = true := by simp; omega
        rcases hsh : shrt r with _ | _
        · have HA := Lib.hid (s5a_one hx (by rw [← hr]; exact hm1) (by rw [← hr]; exact hsh))
          rw [← hr] at HA
          clear hr hm hm1
          rcases hll : sfx r ⟨#[108, 108]⟩ with _ | _
          · have HBB := Lib.hid (s5b_no hll)
            go_enter Try.func33, Try.ntmps33
            go_wp2_with (first
              | (go_at_call_of 47 (Value.string r); refine (measure_ref r _ hcs).mono ?_; rintro e wA ⟨rfl, hA⟩)
              | (go_at_call_of 47 (Value.string s); refine (measure_ref s _ hs).mono ?_; rintro e wB ⟨rfl, hB⟩)
              | (go_at_call 51; refine (short_any r _ hcs).mono ?_; rintro e wC ⟨rfl, hC⟩)
              | (go_at_call 30; refine (ends_any _ _ _ (by (first | exact hs2 | exact hcs2)) (by decide)).mono ?_; rintro e w' ⟨rfl, rfl⟩))
            all_goals (try (exfalso; omega))
            all_goals
              go_ret
              refine ⟨ret_str ?_, by (repeat (first | exact Below.refl _ _ | assumption | refine balloc ?_ _ | refine bdrew ?_ | refine bdrewN ?_ _ | refine bchain ?_ (by assumption)))⟩
              rw [HA.out, HBB.out]
          · have hle := sfx_le hll
            have hle2 : 2 ≤ r.size := hle
            by_cases hm2 : 1 < meas r
            · have HBB := Lib.hid (s5b_yes hll hm2)
              have hm2i : (1 : Int) < ((meas r : Nat) : Int) := by omega
              clear hm2
              go_enter Try.func33, Try.ntmps33
              go_wp2_with (first
                | (go_at_call_of 47 (Value.string r); refine (measure_ref r _ hcs).mono ?_; rintro e wA ⟨rfl, hA⟩)
                | (go_at_call_of 47 (Value.string s); refine (measure_ref s _ hs).mono ?_; rintro e wB ⟨rfl, hB⟩)
                | (go_at_call 51; refine (short_any r _ hcs).mono ?_; rintro e wC ⟨rfl, hC⟩)
                | (go_at_call 30; refine (ends_any _ _ _ (by (first | exact hs2 | exact hcs2)) (by decide)).mono ?_; rintro e w' ⟨rfl, rfl⟩))
              all_goals (try (exfalso; omega))
              all_goals
                go_ret
                refine ⟨ret_str ?_, by (repeat (first | exact Below.refl _ _ | assumption | refine balloc ?_ _ | refine bdrew ?_ | refine bdrewN ?_ _ | refine bchain ?_ (by assumption)))⟩
                rw [HA.out, HBB.out]
                first | rfl | exact HRE.out.symm
            · have HBB := Lib.hid (s5b_low hm2)
              have hm2i : ¬ (1 : Int) < ((meas r : Nat) : Int) := by omega
              clear hm2
              go_enter Try.func33, Try.ntmps33
              go_wp2_with (first
                | (go_at_call_of 47 (Value.string r); refine (measure_ref r _ hcs).mono ?_; rintro e wA ⟨rfl, hA⟩)
                | (go_at_call_of 47 (Value.string s); refine (measure_ref s _ hs).mono ?_; rintro e wB ⟨rfl, hB⟩)
                | (go_at_call 51; refine (short_any r _ hcs).mono ?_; rintro e wC ⟨rfl, hC⟩)
                | (go_at_call 30; refine (ends_any _ _ _ (by (first | exact hs2 | exact hcs2)) (by decide)).mono ?_; rintro e w' ⟨rfl, rfl⟩))
              all_goals (try (exfalso; omega))
              all_goals
                go_ret
                refine ⟨ret_str ?_, by (repeat (first | exact Below.refl _ _ | assumption | refine balloc ?_ _ | refine bdrew ?_ | refine bdrewN ?_ _ | refine bchain ?_ (by assumption)))⟩
                rw [HA.out, HBB.out]
        · have HA := Lib.hid (s5a_short (s := s) (by rw [← hr]; exact hm1) (by rw [← hr]; exact hsh))
          clear hr hm hm1
          rcases hll : sfx s ⟨#[108, 108]⟩ with _ | _
          · have HBB := Lib.hid (s5b_no hll)
            go_enter Try.func33, Try.ntmps33
            go_wp2_with (first
              | (go_at_call_of 47 (Value.string r); refine (measure_ref r _ hcs).mono ?_; rintro e wA ⟨rfl, hA⟩)
              | (go_at_call_of 47 (Value.string s); refine (measure_ref s _ hs).mono ?_; rintro e wB ⟨rfl, hB⟩)
              | (go_at_call 51; refine (short_any r _ hcs).mono ?_; rintro e wC ⟨rfl, hC⟩)
              | (go_at_call 30; refine (ends_any _ _ _ (by (first | exact hs2 | exact hcs2)) (by decide)).mono ?_; rintro e w' ⟨rfl, rfl⟩))
            all_goals (try (exfalso; omega))
            all_goals
              go_ret
              refine ⟨ret_str ?_, by (repeat (first | exact Below.refl _ _ | assumption | refine balloc ?_ _ | refine bdrew ?_ | refine bdrewN ?_ _ | refine bchain ?_ (by assumption)))⟩
              rw [HA.out, HBB.out]
          · have hle := sfx_le hll
            have hle2 : 2 ≤ s.size := hle
            by_cases hm2 : 1 < meas s
            · have HBB := Lib.hid (s5b_yes hll hm2)
              have hm2i : (1 : Int) < ((meas s : Nat) : Int) := by omega
              clear hm2
              go_enter Try.func33, Try.ntmps33
              go_wp2_with (first
                | (go_at_call_of 47 (Value.string r); refine (measure_ref r _ hcs).mono ?_; rintro e wA ⟨rfl, hA⟩)
                | (go_at_call_of 47 (Value.string s); refine (measure_ref s _ hs).mono ?_; rintro e wB ⟨rfl, hB⟩)
                | (go_at_call 51; refine (short_any r _ hcs).mono ?_; rintro e wC ⟨rfl, hC⟩)
                | (go_at_call 30; refine (ends_any _ _ _ (by (first | exact hs2 | exact hcs2)) (by decide)).mono ?_; rintro e w' ⟨rfl, rfl⟩))
              all_goals (try (exfalso; omega))
              all_goals
                go_ret
                refine ⟨ret_str ?_, by (repeat (first | exact Below.refl _ _ | assumption | refine balloc ?_ _ | refine bdrew ?_ | refine bdrewN ?_ _ | refine bchain ?_ (by assumption)))⟩
                rw [HA.out, HBB.out]
                first | rfl | exact HRE.out.symm
            · have HBB := Lib.hid (s5b_low hm2)
              have hm2i : ¬ (1 : Int) < ((meas s : Nat) : Int) := by omega
              clear hm2
              go_enter Try.func33, Try.ntmps33
              go_wp2_with (first
                | (go_at_call_of 47 (Value.string r); refine (measure_ref r _ hcs).mono ?_; rintro e wA ⟨rfl, hA⟩)
                | (go_at_call_of 47 (Value.string s); refine (measure_ref s _ hs).mono ?_; rintro e wB ⟨rfl, hB⟩)
                | (go_at_call 51; refine (short_any r _ hcs).mono ?_; rintro e wC ⟨rfl, hC⟩)
                | (go_at_call 30; refine (ends_any _ _ _ (by (first | exact hs2 | exact hcs2)) (by decide)).mono ?_; rintro e w' ⟨rfl, rfl⟩))
              all_goals (try (exfalso; omega))
              all_goals
                go_ret
                refine ⟨ret_str ?_, by (repeat (first | exact Below.refl _ _ | assumption | refine balloc ?_ _ | refine bdrew ?_ | refine bdrewN ?_ _ | refine bchain ?_ (by assumption)))⟩
                rw [HA.out, HBB.out]
      · have HA := Lib.hid (s5a_zero (s := s) (by rw [← hr]; omega))
        have hmi : ¬ (1 : Int) < ((meas r : Nat) : Int) := by omega
        have hmj : (((meas r : Nat) : Int) == 1) = false := by simp; omega
        clear hr hm hm1
        rcases hll : sfx s ⟨#[108, 108]⟩ with _ | _
        · have HBB := Lib.hid (s5b_no hll)
          go_enter Try.func33, Try.ntmps33
          go_wp2_with (first
            | (go_at_call_of 47 (Value.string r); refine (measure_ref r _ hcs).mono ?_; rintro e wA ⟨rfl, hA⟩)
            | (go_at_call_of 47 (Value.string s); refine (measure_ref s _ hs).mono ?_; rintro e wB ⟨rfl, hB⟩)
            | (go_at_call 51; refine (short_any r _ hcs).mono ?_; rintro e wC ⟨rfl, hC⟩)
            | (go_at_call 30; refine (ends_any _ _ _ (by (first | exact hs2 | exact hcs2)) (by decide)).mono ?_; rintro e w' ⟨rfl, rfl⟩))
          all_goals (try (exfalso; omega))
          all_goals
            go_ret
            refine ⟨ret_str ?_, by (repeat (first | exact Below.refl _ _ | assumption | refine balloc ?_ _ | refine bdrew ?_ | refine bdrewN ?_ _ | refine bchain ?_ (by assumption)))⟩
            rw [HA.out, HBB.out]
        · have hle := sfx_le hll
          have hle2 : 2 ≤ s.size := hle
          by_cases hm2 : 1 < meas s
          · have HBB := Lib.hid (s5b_yes hll hm2)
            have hm2i : (1 : Int) < ((meas s : Nat) : Int) := by omega
            clear hm2
            go_enter Try.func33, Try.ntmps33
            go_wp2_with (first
              | (go_at_call_of 47 (Value.string r); refine (measure_ref r _ hcs).mono ?_; rintro e wA ⟨rfl, hA⟩)
              | (go_at_call_of 47 (Value.string s); refine (measure_ref s _ hs).mono ?_; rintro e wB ⟨rfl, hB⟩)
              | (go_at_call 51; refine (short_any r _ hcs).mono ?_; rintro e wC ⟨rfl, hC⟩)
              | (go_at_call 30; refine (ends_any _ _ _ (by (first | exact hs2 | exact hcs2)) (by decide)).mono ?_; rintro e w' ⟨rfl, rfl⟩))
            all_goals (try (exfalso; omega))
            all_goals
              go_ret
              refine ⟨ret_str ?_, by (repeat (first | exact Below.refl _ _ | assumption | refine balloc ?_ _ | refine bdrew ?_ | refine bdrewN ?_ _ | refine bchain ?_ (by assumption)))⟩
              rw [HA.out, HBB.out]
              first | rfl | exact HRE.out.symm
          · have HBB := Lib.hid (s5b_low hm2)
            have hm2i : ¬ (1 : Int) < ((meas s : Nat) : Int) := by omega
            clear hm2
            go_enter Try.func33, Try.ntmps33
            go_wp2_with (first
              | (go_at_call_of 47 (Value.string r); refine (measure_ref r _ hcs).mono ?_; rintro e wA ⟨rfl, hA⟩)
              | (go_at_call_of 47 (Value.string s); refine (measure_ref s _ hs).mono ?_; rintro e wB ⟨rfl, hB⟩)
              | (go_at_call 51; refine (short_any r _ hcs).mono ?_; rintro e wC ⟨rfl, hC⟩)
              | (go_at_call 30; refine (ends_any _ _ _ (by (first | exact hs2 | exact hcs2)) (by decide)).mono ?_; rintro e w' ⟨rfl, rfl⟩))
            all_goals (try (exfalso; omega))
            all_goals
              go_ret
              refine ⟨ret_str ?_, by (repeat (first | exact Below.refl _ _ | assumption | refine balloc ?_ _ | refine bdrew ?_ | refine bdrewN ?_ _ | refine bchain ?_ (by assumption)))⟩
              rw [HA.out, HBB.out]

end Go.Proofs.Ytmoahflgcojfcaa.RefLast
