/-
  The walk of the reference's ParseNumber.
-/
import Derived.Test.YtmoahflgcojfcaaDoorDNums
import Derived.Deep.DeepCutAuto
namespace Go.Proofs.YtmoahflgcojfcaaDoor.NumRef
set_option maxRecDepth 100000
open Go.RowKit Go.PlainAid Base NumPlain NumWalk

set_option maxHeartbeats 4000000 in
theorem parse_ref (s : ByteArray) (w : World) (hs : s.size ≤ 281474976710656) :
    Calls Tryd.prog 44 #[.string s] w fun e w' => e = .returned (numV (parseN s)) ∧ w' = w := by
  have hds := digits_size s
  obtain ⟨r, hr⟩ : ∃ r, r = parseN s := ⟨_, rfl⟩
  rw [← hr]
  have HR := Lib.hid hr
  clear hr
  have HE := Lib.hid (fun h => parse_empty (s := s) h)
  have HN := Lib.hid (fun h => parse_none (s := s) h)
  have HM := Lib.hid (fun v h0 h hm => parse_minus (s := s) (v := v) h0 h hm)
  have HL := Lib.hid (fun v h hm hv => parse_least (s := s) (v := v) h hm hv)
  have HP := Lib.hid (fun v h0 h hm hv => parse_plus (s := s) (v := v) h0 h hm hv)
  have hb0 := get_bt s
  cases hm : minusB s
  · have HD := digits_no hm
    have hno := minus_no hm
    rw [hm] at HM HL HP
    rw [HD] at HE HN HM HL HP
    clear hm HD hds
    obtain ⟨d, hd⟩ : ∃ d, d = s := ⟨_, rfl⟩
    by_cases h0 : 0 < s.size
    · have h45 : (bt s 0 == 45) = false := by rw [beq_eq_false_iff_ne]; intro h; exact hno ⟨h0, h⟩
      have hdz : d.size = s.size := by rw [hd]
      clear hno
      go_enter Tryd.func44, Tryd.ntmps44
      go_upto_region 8 with fail
      rw [← hd] at HR HE HN HM HL HP ⊢
      clear hd hb0 h45
      go_wp2_with fail
      go_loop [6, 7, 8] (fun v6 f7 i => ∃ (k : Nat) (v : Int) (b : Bool), k ≤ d.size ∧ i = .int .i64 k ∧ v6 = .int .i64 v ∧ f7 = .bool b ∧ (b = true → least ≤ v ∧ v ≤ 0) ∧ Hid (nst d k = if b then some v else none)) (fun _ _ i => d.size - (intOf i).toNat)
      case atStart => exact ⟨0, 0, true, Nat.zero_le _, rfl, rfl, rfl, fun _ => by decide, Lib.hid rfl⟩
      case round =>
        obtain ⟨k, v, b, hk, rfl, rfl, rfl, hbd, hst⟩ := hrel
        by_cases hlt : k < d.size
        · have hb := get_bt d
          have r0 := bt_nonneg d k
          have r1 := bt_le d k
          by_cases hdg : 48 ≤ bt d k ∧ bt d k ≤ 57
          · obtain ⟨h48, h57⟩ := hdg
            cases b
            · have hn := Lib.hid (nst_none (d := d) (k := k) hst.out)
              clear hbd
              go_wp2_with fail
              all_goals
                go_round
                case rel => exact ⟨k + 1, v, false, by omega, by go_num, rfl, rfl, (fun h => by cases h), hn⟩
                case measure => simp [intOf]; omega
            · obtain ⟨b1, b2⟩ := hbd rfl
              have hl := least_eq
              by_cases h3 : least ≤ 10 * v - (bt d k - 48)
              · have hn := Lib.hid (nst_yes (d := d) (k := k) hst.out h48 h57 h3)
                have hbd' := (nst_bd hn.out)
                have hw1 : wrap64 (10 * v) = 10 * v := IntWalk.wrap64_in _ (by omega)
                have hw2 : wrap64 (10 * v - (bt d k - 48)) = 10 * v - (bt d k - 48) := IntWalk.wrap64_in _ (by omega)
                have g1 : decide (v < -922337203685477580) = false := decide_eq_false (by omega)
                have g2 : decide (10 * v < -9223372036854775808 + (bt d k - 48)) = false := decide_eq_false (by omega)
                clear hbd hbd' hl h3
                go_wp2_with fail
                try rw [hw2]
                go_round
                case rel => exact ⟨k + 1, _, true, by omega, by go_num, rfl, rfl, (fun _ => nst_bd hn.out), hn⟩
                case measure => simp [intOf]; omega
              · have hn := Lib.hid (nst_no (d := d) (k := k) hst.out (fun h => h3 h.2.2))
                by_cases g1 : v < -922337203685477580
                · clear hbd hl h3
                  go_wp2_with fail
                  go_round
                  case rel => exact ⟨k + 1, v, false, by omega, by go_num, rfl, rfl, (fun h => by cases h), hn⟩
                  case measure => simp [intOf]; omega
                · have hw1 : wrap64 (10 * v) = 10 * v := IntWalk.wrap64_in _ (by omega)
                  have g2 : decide (10 * v < -9223372036854775808 + (bt d k - 48)) = true := decide_eq_true (by omega)
                  clear hbd hl h3
                  go_wp2_with fail
                  go_round
                  case rel => exact ⟨k + 1, v, false, by omega, by go_num, rfl, rfl, (fun h => by cases h), Lib.hid hn.out⟩
                  case measure => simp [intOf]; omega
          · have hr := HR.out.trans (HN.out (nst_digit hlt (by omega)))
            by_cases h48 : bt d k < 48
            · clear hdg
              go_wp2_with fail
              go_ret2
              exact ⟨ret_num (b := false) rfl (fun _ => rfl), rfl⟩
            · have h57 : 57 < bt d k := by omega
              clear hdg
              go_wp2_with fail
              go_ret2
              exact ⟨ret_num (b := false) rfl (fun _ => rfl), rfl⟩
        · obtain rfl : k = d.size := by omega
          have hl := least_eq
          have e0 : d.size ≠ 0 := by omega
          cases b
          · have hr := HR.out.trans (HN.out hst.out)
            clear hbd
            go_wp2_with fail
            go_ret2
            exact ⟨ret_num (b := false) rfl (fun _ => rfl), rfl⟩
          · obtain ⟨b1, b2⟩ := hbd rfl
            clear hbd
            by_cases hv : v = least
            · have hvb : (v == -9223372036854775808) = true := by rw [beq_iff_eq]; omega
              have hr := HR.out.trans (HL.out v hst.out trivial hv)
              clear hv
              go_wp2_with fail
              go_ret2
              exact ⟨ret_num (b := false) rfl (fun _ => rfl), rfl⟩
            · have hvb : (v == -9223372036854775808) = false := by rw [beq_eq_false_iff_ne]; intro h; exact hv (by omega)
              have hr := HR.out.trans (HP.out v e0 hst.out trivial hv)
              have hw : wrap64 (-v) = -v := IntWalk.wrap64_in _ (by omega)
              clear hv
              go_wp2_with fail
              go_ret2
              exact ⟨ret_num (b := true) rfl (fun h => by cases h), rfl⟩
    · have hr := HR.out.trans (HE.out (by omega))
      go_enter Tryd.func44, Tryd.ntmps44
      go_wp2_with fail
      go_ret2
      exact ⟨ret_num (b := false) rfl (fun _ => rfl), rfl⟩
  · have HD := digits_yes hm
    obtain ⟨h0, h45⟩ := minus_yes hm
    have h45' : (bt s 0 == 45) = true := by rw [beq_iff_eq]; exact h45
    rw [hm] at HM HL HP
    rw [HD] at HE HN HM HL HP
    have hdz : (s.extract 1 s.size).size = s.size - 1 := by rw [ByteArray.size_extract]; omega
    clear hm HD hds h45
    by_cases h1 : 1 < s.size
    · go_enter Tryd.func44, Tryd.ntmps44
      go_upto_region 8 with fail
      clear hb0 h45'
      generalize s.extract 1 s.size = d at *
      go_wp2_with fail
      go_loop [6, 7, 8] (fun v6 f7 i => ∃ (k : Nat) (v : Int) (b : Bool), k ≤ d.size ∧ i = .int .i64 k ∧ v6 = .int .i64 v ∧ f7 = .bool b ∧ (b = true → least ≤ v ∧ v ≤ 0) ∧ Hid (nst d k = if b then some v else none)) (fun _ _ i => d.size - (intOf i).toNat)
      case atStart => exact ⟨0, 0, true, Nat.zero_le _, rfl, rfl, rfl, fun _ => by decide, Lib.hid rfl⟩
      case round =>
        obtain ⟨k, v, b, hk, rfl, rfl, rfl, hbd, hst⟩ := hrel
        by_cases hlt : k < d.size
        · have hb := get_bt d
          have r0 := bt_nonneg d k
          have r1 := bt_le d k
          by_cases hdg : 48 ≤ bt d k ∧ bt d k ≤ 57
          · obtain ⟨h48, h57⟩ := hdg
            cases b
            · have hn := Lib.hid (nst_none (d := d) (k := k) hst.out)
              clear hbd
              go_wp2_with fail
              all_goals
                go_round
                case rel => exact ⟨k + 1, v, false, by omega, by go_num, rfl, rfl, (fun h => by cases h), hn⟩
                case measure => simp [intOf]; omega
            · obtain ⟨b1, b2⟩ := hbd rfl
              have hl := least_eq
              by_cases h3 : least ≤ 10 * v - (bt d k - 48)
              · have hn := Lib.hid (nst_yes (d := d) (k := k) hst.out h48 h57 h3)
                have hbd' := (nst_bd hn.out)
                have hw1 : wrap64 (10 * v) = 10 * v := IntWalk.wrap64_in _ (by omega)
                have hw2 : wrap64 (10 * v - (bt d k - 48)) = 10 * v - (bt d k - 48) := IntWalk.wrap64_in _ (by omega)
                have g1 : decide (v < -922337203685477580) = false := decide_eq_false (by omega)
                have g2 : decide (10 * v < -9223372036854775808 + (bt d k - 48)) = false := decide_eq_false (by omega)
                clear hbd hbd' hl h3
                go_wp2_with fail
                try rw [hw2]
                go_round
                case rel => exact ⟨k + 1, _, true, by omega, by go_num, rfl, rfl, (fun _ => nst_bd hn.out), hn⟩
                case measure => simp [intOf]; omega
              · have hn := Lib.hid (nst_no (d := d) (k := k) hst.out (fun h => h3 h.2.2))
                by_cases g1 : v < -922337203685477580
                · clear hbd hl h3
                  go_wp2_with fail
                  go_round
                  case rel => exact ⟨k + 1, v, false, by omega, by go_num, rfl, rfl, (fun h => by cases h), hn⟩
                  case measure => simp [intOf]; omega
                · have hw1 : wrap64 (10 * v) = 10 * v := IntWalk.wrap64_in _ (by omega)
                  have g2 : decide (10 * v < -9223372036854775808 + (bt d k - 48)) = true := decide_eq_true (by omega)
                  clear hbd hl h3
                  go_wp2_with fail
                  go_round
                  case rel => exact ⟨k + 1, v, false, by omega, by go_num, rfl, rfl, (fun h => by cases h), Lib.hid hn.out⟩
                  case measure => simp [intOf]; omega
          · have hr := HR.out.trans (HN.out (nst_digit hlt (by omega)))
            by_cases h48 : bt d k < 48
            · clear hdg
              go_wp2_with fail
              go_ret2
              exact ⟨ret_num (b := false) rfl (fun _ => rfl), rfl⟩
            · have h57 : 57 < bt d k := by omega
              clear hdg
              go_wp2_with fail
              go_ret2
              exact ⟨ret_num (b := false) rfl (fun _ => rfl), rfl⟩
        · obtain rfl : k = d.size := by omega
          have hl := least_eq
          have e0 : d.size ≠ 0 := by omega
          cases b
          · have hr := HR.out.trans (HN.out hst.out)
            clear hbd
            go_wp2_with fail
            go_ret2
            exact ⟨ret_num (b := false) rfl (fun _ => rfl), rfl⟩
          · obtain ⟨b1, b2⟩ := hbd rfl
            clear hbd
            have hr := HR.out.trans (HM.out v e0 hst.out trivial)
            go_wp2_with fail
            go_ret2
            exact ⟨ret_num (b := true) rfl (fun h => by cases h), rfl⟩
    · have hr := HR.out.trans (HE.out (by omega))
      go_enter Tryd.func44, Tryd.ntmps44
      go_wp2_with fail
      go_ret2
      exact ⟨ret_num (b := false) rfl (fun _ => rfl), rfl⟩
end Go.Proofs.YtmoahflgcojfcaaDoor.NumRef
