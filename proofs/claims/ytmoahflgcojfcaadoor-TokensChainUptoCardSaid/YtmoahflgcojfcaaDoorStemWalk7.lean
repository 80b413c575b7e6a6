/-
  The walks of tokens.step5 and Stem.
-/
import Derived.Test.YtmoahflgcojfcaaDoorStemWalk6
import Derived.Test.YtmoahflgcojfcaaDoorStemSize
import Derived.Deep.RegionWith
namespace Go.Proofs.YtmoahflgcojfcaaDoor.StemWalk7
set_option maxRecDepth 100000
open Go.RowKit Go.PlainAid StemPlain StemSize Base Vowels StemWalk StemWalk2 StemWalk3 StemWalk4 StemWalk5 StemWalk6

theorem s5b_no {s : ByteArray} (h : sfx s ⟨#[108, 108]⟩ = false) : s5b s = s := by unfold s5b; rw [h]; rfl
theorem s5b_low {s : ByteArray} (h : ¬ 1 < meas s) : s5b s = s := by unfold s5b; rw [decide_eq_false h, Bool.and_false]; rfl
theorem s5b_yes {s : ByteArray} (h : sfx s ⟨#[108, 108]⟩ = true) (h' : 1 < meas s) : s5b s = chop s := by unfold s5b; rw [h, decide_eq_true h']; rfl
theorem s5a_no {s : ByteArray} (h : sfx s ⟨#[101]⟩ = false) : s5a s = s := by unfold s5a; rw [h]; rfl
theorem s5a_high {s : ByteArray} (h : sfx s ⟨#[101]⟩ = true) (h' : 1 < meas (cut s ⟨#[101]⟩)) : s5a s = cut s ⟨#[101]⟩ := by unfold s5a; rw [h, decide_eq_true h']; rfl
theorem s5a_one {s : ByteArray} (h : sfx s ⟨#[101]⟩ = true) (h' : meas (cut s ⟨#[101]⟩) = 1) (h2 : shrt (cut s ⟨#[101]⟩) = false) : s5a s = cut s ⟨#[101]⟩ := by unfold s5a; rw [h, h', h2]; rfl
theorem s5a_short {s : ByteArray} (h' : meas (cut s ⟨#[101]⟩) = 1) (h2 : shrt (cut s ⟨#[101]⟩) = true) : s5a s = s := by unfold s5a; rw [h', h2]; simp
theorem s5a_zero {s : ByteArray} (h' : meas (cut s ⟨#[101]⟩) = 0) : s5a s = s := by unfold s5a; rw [h']; simp

set_option maxHeartbeats 8000000 in
theorem step5_any (s : ByteArray) (w : World) (hs : s.size ≤ 281474976710656) :
    Calls Tryd.prog 34 #[.string s] w fun r w' => r = .returned (.string (s5b (s5a s))) ∧ Below w.heap.size w w' := by
  have hcs : (cut s ⟨#[101]⟩).size ≤ 281474976710656 := by rw [cut_size]; omega
  obtain ⟨r, hr⟩ : ∃ r, r = cut s ⟨#[101]⟩ := ⟨_, rfl⟩
  have hms := meas_lt r
  have hmu := meas_lt s
  rw [← hr] at hcs
  rcases hx : sfx s ⟨#[101]⟩ with _ | _
  · have HX := Lib.hid hx
    have HA := Lib.hid (s5a_no hx)
    clear hx hr
    rcases hll : sfx s ⟨#[108, 108]⟩ with _ | _
    · have HBB := Lib.hid (s5b_no hll)
      go_enter Tryd.func34, Tryd.ntmps34
      go_wp2_with (first
        | (go_at_call 55; refine (cutSuffix_no s _ _ hs (by decide) HX.out).mono ?_; rintro e w' ⟨rfl, rfl⟩)
        | (go_at_call_of 56 (Value.string r); refine (measure_any r _ hcs).mono ?_; rintro e wA ⟨rfl, hA⟩)
        | (go_at_call_of 56 (Value.string s); refine (measure_any s _ hs).mono ?_; rintro e wB ⟨rfl, hB⟩)
        | (go_at_call 57; refine (endsShort_any r _ hcs).mono ?_; rintro e wC ⟨rfl, hC⟩)
        | (go_at_call 33; refine (hasSuffix_any _ _ _ (by assumption) (by decide)).mono ?_; rintro e w' ⟨rfl, rfl⟩))
      all_goals (try (exfalso; omega))
      all_goals
        go_ret
        refine ⟨ret_str ?_, by (repeat (first | exact Below.refl _ _ | assumption | refine balloc ?_ _ | refine bdrew ?_ | refine bdrewN ?_ _ | refine bchain ?_ (by assumption)))⟩
        rw [HA.out, HBB.out]
    · have hle := sfx_le hll
      have hle2 : 2 ≤ s.size := hle
      by_cases hm2 : 1 < meas s
      · have HBB := Lib.hid (s5b_yes hll hm2)
        have hm2i : (1 : Int) < ((meas s : Nat) : Int) := by omega
        clear hm2
        go_enter Tryd.func34, Tryd.ntmps34
        go_wp2_with (first
          | (go_at_call 55; refine (cutSuffix_no s _ _ hs (by decide) HX.out).mono ?_; rintro e w' ⟨rfl, rfl⟩)
          | (go_at_call_of 56 (Value.string r); refine (measure_any r _ hcs).mono ?_; rintro e wA ⟨rfl, hA⟩)
          | (go_at_call_of 56 (Value.string s); refine (measure_any s _ hs).mono ?_; rintro e wB ⟨rfl, hB⟩)
          | (go_at_call 57; refine (endsShort_any r _ hcs).mono ?_; rintro e wC ⟨rfl, hC⟩)
          | (go_at_call 33; refine (hasSuffix_any _ _ _ (by assumption) (by decide)).mono ?_; rintro e w' ⟨rfl, rfl⟩))
        all_goals (try (exfalso; omega))
        all_goals
          go_ret
          refine ⟨ret_str ?_, by (repeat (first | exact Below.refl _ _ | assumption | refine balloc ?_ _ | refine bdrew ?_ | refine bdrewN ?_ _ | refine bchain ?_ (by assumption)))⟩
          rw [HA.out, HBB.out]
          rfl
      · have HBB := Lib.hid (s5b_low hm2)
        have hm2i : ¬ (1 : Int) < ((meas s : Nat) : Int) := by omega
        clear hm2
        go_enter Tryd.func34, Tryd.ntmps34
        go_wp2_with (first
          | (go_at_call 55; refine (cutSuffix_no s _ _ hs (by decide) HX.out).mono ?_; rintro e w' ⟨rfl, rfl⟩)
          | (go_at_call_of 56 (Value.string r); refine (measure_any r _ hcs).mono ?_; rintro e wA ⟨rfl, hA⟩)
          | (go_at_call_of 56 (Value.string s); refine (measure_any s _ hs).mono ?_; rintro e wB ⟨rfl, hB⟩)
          | (go_at_call 57; refine (endsShort_any r _ hcs).mono ?_; rintro e wC ⟨rfl, hC⟩)
          | (go_at_call 33; refine (hasSuffix_any _ _ _ (by assumption) (by decide)).mono ?_; rintro e w' ⟨rfl, rfl⟩))
        all_goals (try (exfalso; omega))
        all_goals
          go_ret
          refine ⟨ret_str ?_, by (repeat (first | exact Below.refl _ _ | assumption | refine balloc ?_ _ | refine bdrew ?_ | refine bdrewN ?_ _ | refine bchain ?_ (by assumption)))⟩
          rw [HA.out, HBB.out]
  · have HX := Lib.hid hx
    have HR := Lib.hid hr
    by_cases hm : 1 < meas r
    · have HA := Lib.hid (s5a_high hx (by rw [← hr]; exact hm))
      rw [← hr] at HA
      have hmi : (1 : Int) < ((meas r : Nat) : Int) := by omega
      clear hx hr hm
      rcases hll : sfx r ⟨#[108, 108]⟩ with _ | _
      · have HBB := Lib.hid (s5b_no hll)
        go_enter Tryd.func34, Tryd.ntmps34
        go_wp2_with (first
          | (go_at_call 55; refine (cutSuffix_yes s _ _ hs HX.out).mono ?_; rw [← HR.out]; rintro e w' ⟨rfl, rfl⟩)
          | (go_at_call_of 56 (Value.string r); refine (measure_any r _ hcs).mono ?_; rintro e wA ⟨rfl, hA⟩)
          | (go_at_call_of 56 (Value.string s); refine (measure_any s _ hs).mono ?_; rintro e wB ⟨rfl, hB⟩)
          | (go_at_call 57; refine (endsShort_any r _ hcs).mono ?_; rintro e wC ⟨rfl, hC⟩)
          | (go_at_call 33; refine (hasSuffix_any _ _ _ (by assumption) (by decide)).mono ?_; rintro e w' ⟨rfl, rfl⟩))
        all_goals (try (exfalso; omega))
        all_goals
          go_ret
          refine ⟨ret_str ?_, by (repeat (first | exact Below.refl _ _ | assumption | refine balloc ?_ _ | refine bdrew ?_ | refine bdrewN ?_ _ | refine bchain ?_ (by assumption)))⟩
          rw [HA.out, HBB.out]
      · have hle := sfx_le hll
        have hle2 : 2 ≤ r.size := hle
        by_cases hm2 : 1 < meas r
        · have HBB := Lib.hid (s5b_yes hll hm2)
          have hm2i : (1 : Int) < ((meas r : Nat) : Int) := by omega
          clear hm2
          go_enter Tryd.func34, Tryd.ntmps34
          go_wp2_with (first
            | (go_at_call 55; refine (cutSuffix_yes s _ _ hs HX.out).mono ?_; rw [← HR.out]; rintro e w' ⟨rfl, rfl⟩)
            | (go_at_call_of 56 (Value.string r); refine (measure_any r _ hcs).mono ?_; rintro e wA ⟨rfl, hA⟩)
            | (go_at_call_of 56 (Value.string s); refine (measure_any s _ hs).mono ?_; rintro e wB ⟨rfl, hB⟩)
            | (go_at_call 57; refine (endsShort_any r _ hcs).mono ?_; rintro e wC ⟨rfl, hC⟩)
            | (go_at_call 33; refine (hasSuffix_any _ _ _ (by assumption) (by decide)).mono ?_; rintro e w' ⟨rfl, rfl⟩))
          all_goals (try (exfalso; omega))
          all_goals
            go_ret
            refine ⟨ret_str ?_, by (repeat (first | exact Below.refl _ _ | assumption | refine balloc ?_ _ | refine bdrew ?_ | refine bdrewN ?_ _ | refine bchain ?_ (by assumption)))⟩
            rw [HA.out, HBB.out]
            rfl
        · have HBB := Lib.hid (s5b_low hm2)
          have hm2i : ¬ (1 : Int) < ((meas r : Nat) : Int) := by omega
          clear hm2
          go_enter Tryd.func34, Tryd.ntmps34
          go_wp2_with (first
            | (go_at_call 55; refine (cutSuffix_yes s _ _ hs HX.out).mono ?_; rw [← HR.out]; rintro e w' ⟨rfl, rfl⟩)
            | (go_at_call_of 56 (Value.string r); refine (measure_any r _ hcs).mono ?_; rintro e wA ⟨rfl, hA⟩)
            | (go_at_call_of 56 (Value.string s); refine (measure_any s _ hs).mono ?_; rintro e wB ⟨rfl, hB⟩)
            | (go_at_call 57; refine (endsShort_any r _ hcs).mono ?_; rintro e wC ⟨rfl, hC⟩)
            | (go_at_call 33; refine (hasSuffix_any _ _ _ (by assumption) (by decide)).mono ?_; rintro e w' ⟨rfl, rfl⟩))
          all_goals (try (exfalso; omega))
          all_goals
            go_ret
            refine ⟨ret_str ?_, by (repeat (first | exact Below.refl _ _ | assumption | refine balloc ?_ _ | refine bdrew ?_ | refine bdrewN ?_ _ | refine bchain ?_ (by assumption)))⟩
            rw [HA.out, HBB.out]
    · by_cases hm1 : meas r = 1
      · have hmi : ¬ (1 : Int) < ((meas r : Nat) : Int) := by omega
        have hmj : (((meas r : Nat) : Int) == 1) = true := by simp; omega
        rcases hsh : shrt r with _ | _
        · have HA := Lib.hid (s5a_one hx (by rw [← hr]; exact hm1) (by rw [← hr]; exact hsh))
          rw [← hr] at HA
          clear hx hr hm hm1
          rcases hll : sfx r ⟨#[108, 108]⟩ with _ | _
          · have HBB := Lib.hid (s5b_no hll)
            go_enter Tryd.func34, Tryd.ntmps34
            go_wp2_with (first
              | (go_at_call 55; refine (cutSuffix_yes s _ _ hs HX.out).mono ?_; rw [← HR.out]; rintro e w' ⟨rfl, rfl⟩)
              | (go_at_call_of 56 (Value.string r); refine (measure_any r _ hcs).mono ?_; rintro e wA ⟨rfl, hA⟩)
              | (go_at_call_of 56 (Value.string s); refine (measure_any s _ hs).mono ?_; rintro e wB ⟨rfl, hB⟩)
              | (go_at_call 57; refine (endsShort_any r _ hcs).mono ?_; rintro e wC ⟨rfl, hC⟩)
              | (go_at_call 33; refine (hasSuffix_any _ _ _ (by assumption) (by decide)).mono ?_; rintro e w' ⟨rfl, rfl⟩))
            all_goals (try (exfalso; omega))
            all_goals
              go_ret
              refine ⟨ret_str ?_, by (repeat (first | exact Below.refl _ _ | assumption | refine balloc ?_ _ | refine bdrew ?_ | refine bdrewN ?_ _ | refine bchain ?_ (by assumption)))⟩
              rw [HA.out, HBB.out]
          · have hle := sfx_le hll
            have hle2 : 2 ≤ r.size := hle
            by_cases hm2 : 1 < meas r
            · have HBB := Lib.hid (s5b_yes hll hm2)
              have hm2i : (1 : Int) < ((meas r : Nat) : Int) := by omega
              clear hm2
              go_enter Tryd.func34, Tryd.ntmps34
              go_wp2_with (first
                | (go_at_call 55; refine (cutSuffix_yes s _ _ hs HX.out).mono ?_; rw [← HR.out]; rintro e w' ⟨rfl, rfl⟩)
                | (go_at_call_of 56 (Value.string r); refine (measure_any r _ hcs).mono ?_; rintro e wA ⟨rfl, hA⟩)
                | (go_at_call_of 56 (Value.string s); refine (measure_any s _ hs).mono ?_; rintro e wB ⟨rfl, hB⟩)
                | (go_at_call 57; refine (endsShort_any r _ hcs).mono ?_; rintro e wC ⟨rfl, hC⟩)
                | (go_at_call 33; refine (hasSuffix_any _ _ _ (by assumption) (by decide)).mono ?_; rintro e w' ⟨rfl, rfl⟩))
              all_goals (try (exfalso; omega))
              all_goals
                go_ret
                refine ⟨ret_str ?_, by (repeat (first | exact Below.refl _ _ | assumption | refine balloc ?_ _ | refine bdrew ?_ | refine bdrewN ?_ _ | refine bchain ?_ (by assumption)))⟩
                rw [HA.out, HBB.out]
                rfl
            · have HBB := Lib.hid (s5b_low hm2)
              have hm2i : ¬ (1 : Int) < ((meas r : Nat) : Int) := by omega
              clear hm2
              go_enter Tryd.func34, Tryd.ntmps34
              go_wp2_with (first
                | (go_at_call 55; refine (cutSuffix_yes s _ _ hs HX.out).mono ?_; rw [← HR.out]; rintro e w' ⟨rfl, rfl⟩)
                | (go_at_call_of 56 (Value.string r); refine (measure_any r _ hcs).mono ?_; rintro e wA ⟨rfl, hA⟩)
                | (go_at_call_of 56 (Value.string s); refine (measure_any s _ hs).mono ?_; rintro e wB ⟨rfl, hB⟩)
                | (go_at_call 57; refine (endsShort_any r _ hcs).mono ?_; rintro e wC ⟨rfl, hC⟩)
                | (go_at_call 33; refine (hasSuffix_any _ _ _ (by assumption) (by decide)).mono ?_; rintro e w' ⟨rfl, rfl⟩))
              all_goals (try (exfalso; omega))
              all_goals
                go_ret
                refine ⟨ret_str ?_, by (repeat (first | exact Below.refl _ _ | assumption | refine balloc ?_ _ | refine bdrew ?_ | refine bdrewN ?_ _ | refine bchain ?_ (by assumption)))⟩
                rw [HA.out, HBB.out]
        · have HA := Lib.hid (s5a_short (s := s) (by rw [← hr]; exact hm1) (by rw [← hr]; exact hsh))
          clear hx hr hm hm1
          rcases hll : sfx s ⟨#[108, 108]⟩ with _ | _
          · have HBB := Lib.hid (s5b_no hll)
            go_enter Tryd.func34, Tryd.ntmps34
            go_wp2_with (first
              | (go_at_call 55; refine (cutSuffix_yes s _ _ hs HX.out).mono ?_; rw [← HR.out]; rintro e w' ⟨rfl, rfl⟩)
              | (go_at_call_of 56 (Value.string r); refine (measure_any r _ hcs).mono ?_; rintro e wA ⟨rfl, hA⟩)
              | (go_at_call_of 56 (Value.string s); refine (measure_any s _ hs).mono ?_; rintro e wB ⟨rfl, hB⟩)
              | (go_at_call 57; refine (endsShort_any r _ hcs).mono ?_; rintro e wC ⟨rfl, hC⟩)
              | (go_at_call 33; refine (hasSuffix_any _ _ _ (by assumption) (by decide)).mono ?_; rintro e w' ⟨rfl, rfl⟩))
            all_goals (try (exfalso; omega))
            all_goals
              go_ret
              refine ⟨ret_str ?_, by (repeat (first | exact Below.refl _ _ | assumption | refine balloc ?_ _ | refine bdrew ?_ | refine bdrewN ?_ _ | refine bchain ?_ (by assumption)))⟩
              rw [HA.out, HBB.out]
          · have hle := sfx_le hll
            have hle2 : 2 ≤ s.size := hle
            by_cases hm2 : 1 < meas s
            · have HBB := Lib.hid (s5b_yes hll hm2)
              have hm2i : (1 : Int) < ((meas s : Nat) : Int) := by omega
              clear hm2
              go_enter Tryd.func34, Tryd.ntmps34
              go_wp2_with (first
                | (go_at_call 55; refine (cutSuffix_yes s _ _ hs HX.out).mono ?_; rw [← HR.out]; rintro e w' ⟨rfl, rfl⟩)
                | (go_at_call_of 56 (Value.string r); refine (measure_any r _ hcs).mono ?_; rintro e wA ⟨rfl, hA⟩)
                | (go_at_call_of 56 (Value.string s); refine (measure_any s _ hs).mono ?_; rintro e wB ⟨rfl, hB⟩)
                | (go_at_call 57; refine (endsShort_any r _ hcs).mono ?_; rintro e wC ⟨rfl, hC⟩)
                | (go_at_call 33; refine (hasSuffix_any _ _ _ (by assumption) (by decide)).mono ?_; rintro e w' ⟨rfl, rfl⟩))
              all_goals (try (exfalso; omega))
              all_goals
                go_ret
                refine ⟨ret_str ?_, by (repeat (first | exact Below.refl _ _ | assumption | refine balloc ?_ _ | refine bdrew ?_ | refine bdrewN ?_ _ | refine bchain ?_ (by assumption)))⟩
                rw [HA.out, HBB.out]
                rfl
            · have HBB := Lib.hid (s5b_low hm2)
              have hm2i : ¬ (1 : Int) < ((meas s : Nat) : Int) := by omega
              clear hm2
              go_enter Tryd.func34, Tryd.ntmps34
              go_wp2_with (first
                | (go_at_call 55; refine (cutSuffix_yes s _ _ hs HX.out).mono ?_; rw [← HR.out]; rintro e w' ⟨rfl, rfl⟩)
                | (go_at_call_of 56 (Value.string r); refine (measure_any r _ hcs).mono ?_; rintro e wA ⟨rfl, hA⟩)
                | (go_at_call_of 56 (Value.string s); refine (measure_any s _ hs).mono ?_; rintro e wB ⟨rfl, hB⟩)
                | (go_at_call 57; refine (endsShort_any r _ hcs).mono ?_; rintro e wC ⟨rfl, hC⟩)
                | (go_at_call 33; refine (hasSuffix_any _ _ _ (by assumption) (by decide)).mono ?_; rintro e w' ⟨rfl, rfl⟩))
              all_goals (try (exfalso; omega))
              all_goals
                go_ret
                refine ⟨ret_str ?_, by (repeat (first | exact Below.refl _ _ | assumption | refine balloc ?_ _ | refine bdrew ?_ | refine bdrewN ?_ _ | refine bchain ?_ (by assumption)))⟩
                rw [HA.out, HBB.out]
      · have HA := Lib.hid (s5a_zero (s := s) (by rw [← hr]; omega))
        have hmi : ¬ (1 : Int) < ((meas r : Nat) : Int) := by omega
        have hmj : (((meas r : Nat) : Int) == 1) = false := by simp; omega
        clear hx hr hm hm1
        rcases hll : sfx s ⟨#[108, 108]⟩ with _ | _
        · have HBB := Lib.hid (s5b_no hll)
          go_enter Tryd.func34, Tryd.ntmps34
          go_wp2_with (first
            | (go_at_call 55; refine (cutSuffix_yes s _ _ hs HX.out).mono ?_; rw [← HR.out]; rintro e w' ⟨rfl, rfl⟩)
            | (go_at_call_of 56 (Value.string r); refine (measure_any r _ hcs).mono ?_; rintro e wA ⟨rfl, hA⟩)
            | (go_at_call_of 56 (Value.string s); refine (measure_any s _ hs).mono ?_; rintro e wB ⟨rfl, hB⟩)
            | (go_at_call 57; refine (endsShort_any r _ hcs).mono ?_; rintro e wC ⟨rfl, hC⟩)
            | (go_at_call 33; refine (hasSuffix_any _ _ _ (by assumption) (by decide)).mono ?_; rintro e w' ⟨rfl, rfl⟩))
          all_goals (try (exfalso; omega))
          all_goals
            go_ret
            refine ⟨ret_str ?_, by (repeat (first | exact Below.refl _ _ | assumption | refine balloc ?_ _ | refine bdrew ?_ | refine bdrewN ?_ _ | refine bchain ?_ (by assumption)))⟩
            rw [HA.out, HBB.out]
        · have hle := sfx_le hll
          have hle2 : 2 ≤ s.size := hle
          by_cases hm2 : 1 < meas s
          · have HBB := Lib.hid (s5b_yes hll hm2)
            have hm2i : (1 : Int) < ((meas s : Nat) : Int) := by omega
            clear hm2
            go_enter Tryd.func34, Tryd.ntmps34
            go_wp2_with (first
              | (go_at_call 55; refine (cutSuffix_yes s _ _ hs HX.out).mono ?_; rw [← HR.out]; rintro e w' ⟨rfl, rfl⟩)
              | (go_at_call_of 56 (Value.string r); refine (measure_any r _ hcs).mono ?_; rintro e wA ⟨rfl, hA⟩)
              | (go_at_call_of 56 (Value.string s); refine (measure_any s _ hs).mono ?_; rintro e wB ⟨rfl, hB⟩)
              | (go_at_call 57; refine (endsShort_any r _ hcs).mono ?_; rintro e wC ⟨rfl, hC⟩)
              | (go_at_call 33; refine (hasSuffix_any _ _ _ (by assumption) (by decide)).mono ?_; rintro e w' ⟨rfl, rfl⟩))
            all_goals (try (exfalso; omega))
            all_goals
              go_ret
              refine ⟨ret_str ?_, by (repeat (first | exact Below.refl _ _ | assumption | refine balloc ?_ _ | refine bdrew ?_ | refine bdrewN ?_ _ | refine bchain ?_ (by assumption)))⟩
              rw [HA.out, HBB.out]
              rfl
          · have HBB := Lib.hid (s5b_low hm2)
            have hm2i : ¬ (1 : Int) < ((meas s : Nat) : Int) := by omega
            clear hm2
            go_enter Tryd.func34, Tryd.ntmps34
            go_wp2_with (first
              | (go_at_call 55; refine (cutSuffix_yes s _ _ hs HX.out).mono ?_; rw [← HR.out]; rintro e w' ⟨rfl, rfl⟩)
              | (go_at_call_of 56 (Value.string r); refine (measure_any r _ hcs).mono ?_; rintro e wA ⟨rfl, hA⟩)
              | (go_at_call_of 56 (Value.string s); refine (measure_any s _ hs).mono ?_; rintro e wB ⟨rfl, hB⟩)
              | (go_at_call 57; refine (endsShort_any r _ hcs).mono ?_; rintro e wC ⟨rfl, hC⟩)
              | (go_at_call 33; refine (hasSuffix_any _ _ _ (by assumption) (by decide)).mono ?_; rintro e w' ⟨rfl, rfl⟩))
            all_goals (try (exfalso; omega))
            all_goals
              go_ret
              refine ⟨ret_str ?_, by (repeat (first | exact Below.refl _ _ | assumption | refine balloc ?_ _ | refine bdrew ?_ | refine bdrewN ?_ _ | refine bchain ?_ (by assumption)))⟩
              rw [HA.out, HBB.out]

end Go.Proofs.YtmoahflgcojfcaaDoor.StemWalk7
