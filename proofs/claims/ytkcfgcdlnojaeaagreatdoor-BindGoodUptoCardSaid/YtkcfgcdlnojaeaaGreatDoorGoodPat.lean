/-
  The walks of auto.Good and the reference's Good over whatever text.
-/
import Derived.Test.YtkcfgcdlnojaeaaGreatDoorDTextP
import Derived.Test.YtkcfgcdlnojaeaaGreatDoorChecked
set_option linter.unusedVariables false
set_option linter.unusedSimpArgs false
namespace Go.Proofs.YtkcfgcdlnojaeaaGreatDoor.GoodPat
set_option maxRecDepth 100000
open Go.RowKit Go.PlainAid Base Query TextPlain

theorem pat_end {s : ByteArray} {k : Nat} (h : s.size ≤ k) : pat s k = true := by rw [pat, if_neg (by omega)]
theorem pat_esc {s : ByteArray} {k : Nat} (h : k + 1 < s.size) (hb : bt s k = 92) : pat s k = pat s (k + 2) := by rw [pat, if_pos (by omega), if_pos hb, if_pos h]
theorem pat_bad {s : ByteArray} {k : Nat} (h : k + 1 = s.size) (hb : bt s k = 92) : pat s k = false := by rw [pat, if_pos (by omega), if_pos hb, if_neg (by omega)]
theorem pat_plain {s : ByteArray} {k : Nat} (h : k < s.size) (hb : bt s k ≠ 92) : pat s k = pat s (k + 1) := by
  conv => lhs; rw [pat, if_pos h, if_neg hb]

theorem elA : Elem Tryz.prog 180 195 (.agg #[.int .i64 0, .int .u8 0]) 2 16 := Elem.mk_ Tryz.underlying180 (by kernel_rfl) rfl (by decide)

set_option maxHeartbeats 4000000 in
theorem elements_any (s : ByteArray) (w : World) (hs : s.size ≤ 1099511627776) : Calls Tryz.prog 124 #[.string s] w fun e w' => (∃ v, e = .returned (.tuple #[v, .bool (pat s 0)])) ∧ Below w.heap.size w w' := by
  go_enter Tryz.func124, Tryz.ntmps124
  go_wp2_with fail
  go_loopw [5, 4] (fun i u wr => ∃ (k n : Nat) (v2 : Value) (xs : List Value), k ≤ s.size ∧ n ≤ k ∧ i = .int .i64 k ∧ u = v2 ∧ wr.ownsRow w.heap.size 195 2 v2 n xs ∧ Below w.heap.size w wr ∧ pat s 0 = pat s k) (fun i _ _ => s.size - (intOf i).toNat)
  case atStart => exact ⟨0, 0, _, [], Nat.zero_le _, Nat.le_refl _, rfl, rfl, World.ownsRow_nil _ _ _ _, (by (repeat (first | exact Below.refl _ _ | assumption | refine balloc ?_ _ | refine bdrew ?_ | refine bdrewN ?_ _ | refine bchain ?_ (by assumption)))), rfl⟩
  case round =>
    obtain ⟨k, n, v2, xs, hk, hn, rfl, rfl, hown, hbel, hp⟩ := hrel
    have hbr := hbel.size
    rcases Nat.lt_or_ge k s.size with hlt | hge
    · have hgb := get_bt s
      have r0 := bt_nonneg s k
      have r1 := bt_le s k
      have i3 : (k : Int) < 9223372036854775807 := by omega
      have HP := Lib.hid hp
      have HO := Lib.hid hown
      have HBL := Lib.hid hbel
      clear hp hown hbel
      by_cases c1 : bt s k = 92
      · have b1 : (bt s k == 42) = false := beq_eq_false_iff_ne.2 (by omega)
        have b2 : (bt s k == 63) = false := beq_eq_false_iff_ne.2 (by omega)
        have b3 : (bt s k == 92) = true := beq_iff_eq.2 c1
        have C1 := Lib.hid c1
        clear c1
        by_cases c2 : k + 1 = s.size
        · have b4 : ((k : Int) + 1 == (s.size : Int)) = true := beq_iff_eq.2 (by omega)
          have HB := Lib.hid (pat_bad c2 C1.out)
          have HK := Lib.hid c2
          clear c2
          go_wp2_with fail
          go_ret2
          rw [HP.out, HB.out]
          exact ⟨⟨_, rfl⟩, HBL.out⟩
        · have b4 : ((k : Int) + 1 == (s.size : Int)) = false := beq_eq_false_iff_ne.2 (by omega)
          have HE := Lib.hid (pat_esc (s := s) (k := k) (by omega) C1.out)
          have i4 : (k : Int) + 1 < s.size := by omega
          have i5 : (k : Int) + 1 < 9223372036854775807 := by omega
          have i6 : (0 : Int) ≤ (k : Int) + 1 := by omega
          have h63 : k + 2 ≤ s.size := by omega
          clear c2
          go_wp2_with (at_builtin; refine wpList_append1 rfl _ _ rfl elA HO.out rfl rfl rfl (by rfl) (by omega) (by unfold maxLen; omega) hbr ?_; intro v3 w3 hown3 hg3 hbb)
          go_roundw
          case rel => exact ⟨k + 2, n + 1, v3, _, by omega, by omega, by go_num, rfl, hown3, hbb _ HBL.out, by rw [HP.out, HE.out]⟩
          case measure => simp [intOf]; omega
      · have HE := Lib.hid (pat_plain hlt c1)
        have b3 : (bt s k == 92) = false := beq_eq_false_iff_ne.2 c1
        have h63 : k + 1 ≤ s.size := by omega
        rcases (by omega : bt s k = 42 ∨ (bt s k ≠ 42 ∧ bt s k = 63) ∨ (bt s k ≠ 42 ∧ bt s k ≠ 63)) with c2 | ⟨c2, c3⟩ | ⟨c2, c3⟩
        · have b1 : (bt s k == 42) = true := beq_iff_eq.2 c2
          clear c1 c2
          go_wp2_with (at_builtin; refine wpList_append1 rfl _ _ rfl elA HO.out rfl rfl rfl (by rfl) (by omega) (by unfold maxLen; omega) hbr ?_; intro v3 w3 hown3 hg3 hbb)
          go_roundw
          case rel => exact ⟨k + 1, n + 1, v3, _, by omega, by omega, by go_num, rfl, hown3, hbb _ HBL.out, by rw [HP.out, HE.out]⟩
          case measure => simp [intOf]; omega
        · have b1 : (bt s k == 42) = false := beq_eq_false_iff_ne.2 c2
          have b2 : (bt s k == 63) = true := beq_iff_eq.2 c3
          clear c1 c2 c3
          go_wp2_with (at_builtin; refine wpList_append1 rfl _ _ rfl elA HO.out rfl rfl rfl (by rfl) (by omega) (by unfold maxLen; omega) hbr ?_; intro v3 w3 hown3 hg3 hbb)
          go_roundw
          case rel => exact ⟨k + 1, n + 1, v3, _, by omega, by omega, by go_num, rfl, hown3, hbb _ HBL.out, by rw [HP.out, HE.out]⟩
          case measure => simp [intOf]; omega
        · have b1 : (bt s k == 42) = false := beq_eq_false_iff_ne.2 c2
          have b2 : (bt s k == 63) = false := beq_eq_false_iff_ne.2 c3
          clear c1 c2 c3
          go_wp2_with (at_builtin; refine wpList_append1 rfl _ _ rfl elA HO.out rfl rfl rfl (by rfl) (by omega) (by unfold maxLen; omega) hbr ?_; intro v3 w3 hown3 hg3 hbb)
          go_roundw
          case rel => exact ⟨k + 1, n + 1, v3, _, by omega, by omega, by go_num, rfl, hown3, hbb _ HBL.out, by rw [HP.out, HE.out]⟩
          case measure => simp [intOf]; omega
    · obtain rfl : k = s.size := by omega
      rw [pat_end (Nat.le_refl _)] at hp
      go_wp2_with fail
      go_ret2
      rw [hp]
      exact ⟨⟨_, rfl⟩, hbel⟩

set_option maxHeartbeats 1000000 in
theorem good_pat (s : ByteArray) (w : World) (hs : s.size ≤ 1099511627776) : Calls Tryz.prog 99 #[.string s] w fun e w' => e = .returned (.bool (pat s 0)) ∧ Below w.heap.size w w' := by
  have EA := Lib.hid (elements_any s w hs)
  go_enter Tryz.func99, Tryz.ntmps99
  go_wp2_with (go_at_call 124; refine EA.out.mono ?_; rintro e w2 ⟨⟨v, rfl⟩, hb⟩)
  go_ret
  exact ⟨rfl, hb⟩

theorem elB : Elem Tryz.prog 196 221 (.agg #[.bool false, .bool false, .int .u8 0]) 3 3 := Elem.mk_ Tryz.underlying196 (by kernel_rfl) rfl (by decide)

set_option maxHeartbeats 4000000 in
theorem refElements_any (s : ByteArray) (w : World) (hs : s.size ≤ 1099511627776) : Calls Tryz.prog 147 #[.string s] w fun e w' => (∃ v, e = .returned (.tuple #[v, .bool (pat s 0)])) ∧ Below w.heap.size w w' := by
  go_enter Tryz.func147, Tryz.ntmps147
  go_wp2_with fail
  go_loopw [5, 4] (fun i u wr => ∃ (k n : Nat) (v2 : Value) (xs : List Value), k ≤ s.size ∧ n ≤ k ∧ i = .int .i64 k ∧ u = v2 ∧ wr.ownsRow w.heap.size 221 3 v2 n xs ∧ Below w.heap.size w wr ∧ pat s 0 = pat s k) (fun i _ _ => s.size - (intOf i).toNat)
  case atStart => exact ⟨0, 0, _, [], Nat.zero_le _, Nat.le_refl _, rfl, rfl, World.ownsRow_lit w #[] 0 (Nat.le_refl _) (by decide) rfl, (by (repeat (first | exact Below.refl _ _ | assumption | refine balloc ?_ _ | refine bdrew ?_ | refine bdrewN ?_ _ | refine bchain ?_ (by assumption)))), rfl⟩
  case round =>
    obtain ⟨k, n, v2, xs, hk, hn, rfl, rfl, hown, hbel, hp⟩ := hrel
    have hbr := hbel.size
    rcases Nat.lt_or_ge k s.size with hlt | hge
    · have hgb := get_bt s
      have r0 := bt_nonneg s k
      have r1 := bt_le s k
      have i3 : (k : Int) < 9223372036854775807 := by omega
      have HP := Lib.hid hp
      have HO := Lib.hid hown
      have HBL := Lib.hid hbel
      clear hp hown hbel
      by_cases c1 : bt s k = 92
      · have b1 : (bt s k == 42) = false := beq_eq_false_iff_ne.2 (by omega)
        have b2 : (bt s k == 63) = false := beq_eq_false_iff_ne.2 (by omega)
        have b3 : (bt s k == 92) = true := beq_iff_eq.2 c1
        have C1 := Lib.hid c1
        clear c1
        by_cases c2 : k + 1 = s.size
        · have b4 : ((k : Int) + 1 == (s.size : Int)) = true := beq_iff_eq.2 (by omega)
          have HB := Lib.hid (pat_bad c2 C1.out)
          have HK := Lib.hid c2
          clear c2
          go_wp2_with fail
          go_ret2
          rw [HP.out, HB.out]
          exact ⟨⟨_, rfl⟩, HBL.out⟩
        · have b4 : ((k : Int) + 1 == (s.size : Int)) = false := beq_eq_false_iff_ne.2 (by omega)
          have HE := Lib.hid (pat_esc (s := s) (k := k) (by omega) C1.out)
          have i4 : (k : Int) + 1 < s.size := by omega
          have i5 : (k : Int) + 1 < 9223372036854775807 := by omega
          have i6 : (0 : Int) ≤ (k : Int) + 1 := by omega
          have h63 : k + 2 ≤ s.size := by omega
          clear c2
          go_wp2_with (at_builtin; refine wpList_append1 rfl _ _ rfl elB HO.out rfl rfl rfl (by rfl) (by omega) (by unfold maxLen; omega) hbr ?_; intro v3 w3 hown3 hg3 hbb)
          go_roundw
          case rel => exact ⟨k + 2, n + 1, v3, _, by omega, by omega, by go_num, rfl, hown3, hbb _ HBL.out, by rw [HP.out, HE.out]⟩
          case measure => simp [intOf]; omega
      · have HE := Lib.hid (pat_plain hlt c1)
        have b3 : (bt s k == 92) = false := beq_eq_false_iff_ne.2 c1
        have h63 : k + 1 ≤ s.size := by omega
        rcases (by omega : bt s k = 42 ∨ (bt s k ≠ 42 ∧ bt s k = 63) ∨ (bt s k ≠ 42 ∧ bt s k ≠ 63)) with c2 | ⟨c2, c3⟩ | ⟨c2, c3⟩
        · have b1 : (bt s k == 42) = true := beq_iff_eq.2 c2
          clear c1 c2
          go_wp2_with (at_builtin; refine wpList_append1 rfl _ _ rfl elB HO.out rfl rfl rfl (by rfl) (by omega) (by unfold maxLen; omega) hbr ?_; intro v3 w3 hown3 hg3 hbb)
          go_roundw
          case rel => exact ⟨k + 1, n + 1, v3, _, by omega, by omega, by go_num, rfl, hown3, hbb _ HBL.out, by rw [HP.out, HE.out]⟩
          case measure => simp [intOf]; omega
        · have b1 : (bt s k == 42) = false := beq_eq_false_iff_ne.2 c2
          have b2 : (bt s k == 63) = true := beq_iff_eq.2 c3
          clear c1 c2 c3
          go_wp2_with (at_builtin; refine wpList_append1 rfl _ _ rfl elB HO.out rfl rfl rfl (by rfl) (by omega) (by unfold maxLen; omega) hbr ?_; intro v3 w3 hown3 hg3 hbb)
          go_roundw
          case rel => exact ⟨k + 1, n + 1, v3, _, by omega, by omega, by go_num, rfl, hown3, hbb _ HBL.out, by rw [HP.out, HE.out]⟩
          case measure => simp [intOf]; omega
        · have b1 : (bt s k == 42) = false := beq_eq_false_iff_ne.2 c2
          have b2 : (bt s k == 63) = false := beq_eq_false_iff_ne.2 c3
          clear c1 c2 c3
          go_wp2_with (at_builtin; refine wpList_append1 rfl _ _ rfl elB HO.out rfl rfl rfl (by rfl) (by omega) (by unfold maxLen; omega) hbr ?_; intro v3 w3 hown3 hg3 hbb)
          go_roundw
          case rel => exact ⟨k + 1, n + 1, v3, _, by omega, by omega, by go_num, rfl, hown3, hbb _ HBL.out, by rw [HP.out, HE.out]⟩
          case measure => simp [intOf]; omega
    · obtain rfl : k = s.size := by omega
      rw [pat_end (Nat.le_refl _)] at hp
      go_wp2_with fail
      go_ret2
      rw [hp]
      exact ⟨⟨_, rfl⟩, hbel⟩

set_option maxHeartbeats 1000000 in
theorem refGood_pat (s : ByteArray) (w : World) (hs : s.size ≤ 1099511627776) : Calls Tryz.prog 129 #[.string s] w fun e w' => e = .returned (.bool (pat s 0)) ∧ Below w.heap.size w w' := by
  have EA := Lib.hid (refElements_any s w hs)
  go_enter Tryz.func129, Tryz.ntmps129
  go_wp2_with (go_at_call 147; refine EA.out.mono ?_; rintro e w2 ⟨⟨v, rfl⟩, hb⟩)
  go_ret
  exact ⟨rfl, hb⟩
end Go.Proofs.YtkcfgcdlnojaeaaGreatDoor.GoodPat
