/-
  The walks over bytes: which bytes stand in words, by the program, the reference and the laws.
-/
import Derived.Test.YtmoahflgcojfcaaDoorChecked
import Derived.Test.YtmoahflgcojfcaaDoorWordPlain
import Derived.Test.YtmoahflgcojfcaaDoorBase
import Derived.Deep.QuietTactic
import Derived.BigQuiet
namespace Go.Proofs.YtmoahflgcojfcaaDoor.WordBytes
set_option maxRecDepth 100000
open Go.RowKit Go.PlainAid WordPlain Base

theorem ret_bool {a b : Bool} (h : a = b) : Ending.returned (.bool a) = .returned (.bool b) := by rw [h]

set_option maxHeartbeats 1000000 in
theorem isDigit_any (x : Int) (w : World) : Calls Tryd.prog 53 #[.int .u8 x] w fun e w' => e = .returned (.bool (dg x)) ∧ w = w' := by
  go_enter Tryd.func53, Tryd.ntmps53
  go_wp2
  all_goals
    go_ret
    exact ⟨ret_bool (dg_eq (by simp; try omega)), rfl⟩

set_option maxHeartbeats 1000000 in
theorem digit_any (x : Int) (w : World) : Calls Tryd.prog 84 #[.int .u8 x] w fun e w' => e = .returned (.bool (dg x)) ∧ w = w' := by
  go_enter Tryd.func84, Tryd.ntmps84
  go_wp2
  all_goals
    go_ret
    exact ⟨ret_bool (dg_eq (by simp; try omega)), rfl⟩

set_option maxHeartbeats 1000000 in
theorem isWord_any (x : Int) (w : World) : Calls Tryd.prog 31 #[.int .u8 x] w fun e w' => e = .returned (.bool (wb x)) ∧ w = w' := by
  by_cases hd : 48 ≤ x ∧ x ≤ 57
  · obtain ⟨h1, h2⟩ := hd
    go_enter Tryd.func31, Tryd.ntmps31
    go_wp2
    go_ret
    exact ⟨ret_bool (wb_eq (by simp; try omega)), rfl⟩
  · go_enter Tryd.func31, Tryd.ntmps31
    go_wp2
    all_goals (try (exfalso; omega))
    all_goals
      go_ret
      exact ⟨ret_bool (wb_eq (by simp; try omega)), rfl⟩

theorem or32_all : ∀ n : Fin 256, bits .or .u8 (n.1 : Int) 32 = (if (n.1 / 32) % 2 = 1 then (n.1 : Int) else (n.1 : Int) + 32) := by decide +kernel
/-- 'b | 32' of a byte. -/
theorem or32 (x : Int) (h0 : 0 ≤ x) (h1 : x ≤ 255) : bits .or .u8 x 32 = (if (x / 32) % 2 = 1 then x else x + 32) := by
  obtain ⟨n, rfl⟩ := Int.eq_ofNat_of_zero_le h0
  have := or32_all ⟨n, by omega⟩
  simp only at this
  rw [this]
  by_cases h : n / 32 % 2 = 1
  · rw [if_pos h, if_pos (by omega)]
  · rw [if_neg h, if_neg (by omega)]

set_option maxHeartbeats 1000000 in
theorem wordByte_ref (x : Int) (h0 : 0 ≤ x) (h1 : x ≤ 255) (w : World) : Calls Tryd.prog 83 #[.int .u8 x] w fun e w' => e = .returned (.bool (wb x)) ∧ w = w' := by
  have ho := or32 x h0 h1
  by_cases hq : (x / 32) % 2 = 1
  · rw [if_pos hq] at ho
    have HQ := Lib.hid hq
    clear hq
    go_enter Tryd.func83, Tryd.ntmps83
    go_wp2
    all_goals (try (exfalso; omega))
    all_goals
      have hq := HQ.out
      go_ret
      exact ⟨ret_bool (wb_eq (by simp; try omega)), rfl⟩
  · rw [if_neg hq] at ho
    have HQ := Lib.hid hq
    clear hq
    go_enter Tryd.func83, Tryd.ntmps83
    go_wp2
    all_goals (try (exfalso; omega))
    all_goals
      have hq := HQ.out
      go_ret
      exact ⟨ret_bool (wb_eq (by simp; try omega)), rfl⟩

set_option maxHeartbeats 1000000 in
theorem inside_any (s : ByteArray) (k : Nat) (w : World) (hs : s.size ≤ 140737488351232) (hk : k < s.size) :
    Calls Tryd.prog 32 #[.string s, .int .i64 k] w fun e w' => e = .returned (.bool (mk s k)) ∧ w = w' := by
  have hb := get_bt s
  by_cases hm : 0 < k ∧ k + 1 < s.size
  · obtain ⟨h1, h2⟩ := hm
    have e1 : ((k : Int) == 0) = false := by simp; omega
    go_enter Tryd.func32, Tryd.ntmps32
    go_wp2_with (first
      | (go_at_call 31; refine (isWord_any _ _).mono ?_; rintro e w' ⟨rfl, rfl⟩)
      | (go_at_call 53; refine (isDigit_any _ _).mono ?_; rintro e w' ⟨rfl, rfl⟩))
    all_goals
      go_ret
      refine ⟨ret_bool ?_, rfl⟩
      first
        | (rw [mk39 h1 h2 ‹(bt s k == 39) = true›]; simp [*]; done)
        | (rw [mk46 h1 h2 ‹(bt s k == 46) = true›]; simp [*]; done)
        | (rw [mkno h1 h2 ‹(bt s k == 39) = false› ‹(bt s k == 46) = false›])
  · have HM := Lib.hid (mk_false_of hm)
    by_cases h0 : k = 0
    · subst h0
      go_enter Tryd.func32, Tryd.ntmps32
      go_wp2
      go_ret
      exact ⟨ret_bool HM.out.symm, rfl⟩
    · have h3 : ¬ k + 1 < s.size := fun h => hm ⟨by omega, h⟩
      have e1 : ((k : Int) == 0) = false := by simp; omega
      go_enter Tryd.func32, Tryd.ntmps32
      go_wp2
      go_ret
      exact ⟨ret_bool HM.out.symm, rfl⟩

set_option maxHeartbeats 1000000 in
theorem inWord_ref (s : ByteArray) (k : Nat) (w : World) (hs : s.size ≤ 140737488351232) (hk : k < s.size) :
    Calls Tryd.prog 63 #[.string s, .int .i64 k] w fun e w' => e = .returned (.bool (wb (bt s k) || mk s k)) ∧ Below w.heap.size w w' := by
  have hb := get_bt s
  have r0 := bt_nonneg s k
  have r1 := bt_le s k
  by_cases hw : wb (bt s k) = true
  · go_enter Tryd.func63, Tryd.ntmps63
    go_wp2_with (go_at_call 83; refine (wordByte_ref _ (by assumption) (by assumption) _).mono ?_; rintro e w' ⟨rfl, rfl⟩)
    go_ret
    exact ⟨ret_bool (by rw [hw]; rfl), Below.refl _ _⟩
  · have hw : wb (bt s k) = false := by simpa using hw
    by_cases hm : 0 < k ∧ k + 1 < s.size
    · obtain ⟨h1, h2⟩ := hm
      have e1 : ((k : Int) == 0) = false := by simp; omega
      have p0 := bt_nonneg s (k - 1)
      have p1 := bt_le s (k - 1)
      have q0 := bt_nonneg s (k + 1)
      have q1 := bt_le s (k + 1)
      go_enter Tryd.func63, Tryd.ntmps63
      go_wp2_with (go_at_call 83; refine (wordByte_ref _ (by assumption) (by assumption) _).mono ?_; rintro e w' ⟨rfl, rfl⟩)
      go_quiet (fail)
      go_wp2_with (first
        | (go_at_call 83; refine (wordByte_ref _ (by assumption) (by assumption) _).mono ?_; rintro e w' ⟨rfl, rfl⟩)
        | (go_at_call 84; refine (digit_any _ _).mono ?_; rintro e w' ⟨rfl, rfl⟩))
      all_goals
        go_ret
        refine ⟨ret_bool ?_, ⟨rfl, rfl, rfl, Nat.le_refl _, fun _ _ => rfl⟩⟩
        rw [hw, Bool.false_or]
        first
          | (rw [mk39 h1 h2 ‹(bt s k == 39) = true›]; simp [*]; done)
          | (rw [mk46 h1 h2 ‹(bt s k == 46) = true›]; simp [*]; done)
          | (rw [mkno h1 h2 ‹(bt s k == 39) = false› ‹(bt s k == 46) = false›])
          | (rw [mk46 h1 h2 (beq_iff_eq.2 ‹bt s k = 46›)]; simp [*]; done)
          | (rw [mkno h1 h2 ‹(bt s k == 39) = false› (beq_eq_false_iff_ne.2 ‹¬ bt s k = 46›)])
    · have HM := Lib.hid (mk_false_of hm)
      by_cases h0 : k = 0
      · subst h0
        go_enter Tryd.func63, Tryd.ntmps63
        go_wp2_with (go_at_call 83; refine (wordByte_ref _ (by assumption) (by assumption) _).mono ?_; rintro e w' ⟨rfl, rfl⟩)
        go_ret
        exact ⟨ret_bool (by rw [hw, HM.out]; rfl), Below.refl _ _⟩
      · have h3 : ¬ k + 1 < s.size := fun h => hm ⟨by omega, h⟩
        have e1 : ((k : Int) == 0) = false := by simp; omega
        go_enter Tryd.func63, Tryd.ntmps63
        go_wp2_with (go_at_call 83; refine (wordByte_ref _ (by assumption) (by assumption) _).mono ?_; rintro e w' ⟨rfl, rfl⟩)
        go_ret
        exact ⟨ret_bool (by rw [hw, HM.out]; rfl), Below.refl _ _⟩

end Go.Proofs.YtmoahflgcojfcaaDoor.WordBytes
