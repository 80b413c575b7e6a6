/-
  The walks over bytes: which bytes stand in words, by the program, the reference and the laws.
  The walk of tokens.Words.
-/
import Derived.Test.YtkcfgcdlnojaeaaGreatDoorChecked
import Derived.Test.YtkcfgcdlnojaeaaGreatDoorDPlains
import Derived.Test.YtkcfgcdlnojaeaaGreatDoorBase
import Derived.Deep.QuietTactic
import Derived.BigQuiet
set_option linter.unusedVariables false
set_option linter.unusedSimpArgs false
namespace Go.Proofs.YtkcfgcdlnojaeaaGreatDoor.WordBytes
set_option maxRecDepth 100000
open Go.RowKit Go.PlainAid WordPlain Base

theorem ret_bool {a b : Bool} (h : a = b) : Ending.returned (.bool a) = .returned (.bool b) := by rw [h]

set_option maxHeartbeats 1000000 in
theorem isDigit_any (x : Int) (w : World) : Calls Tryz.prog 144 #[.int .u8 x] w fun e w' => e = .returned (.bool (dg x)) ∧ w = w' := by
  go_enter Tryz.func144, Tryz.ntmps144
  go_wp2
  all_goals
    go_ret
    exact ⟨ret_bool (dg_eq (by simp; try omega)), rfl⟩

set_option maxHeartbeats 1000000 in
theorem digit_any (x : Int) (w : World) : Calls Tryz.prog 152 #[.int .u8 x] w fun e w' => e = .returned (.bool (dg x)) ∧ w = w' := by
  go_enter Tryz.func152, Tryz.ntmps152
  go_wp2
  all_goals
    go_ret
    exact ⟨ret_bool (dg_eq (by simp; try omega)), rfl⟩

set_option maxHeartbeats 1000000 in
theorem isWord_any (x : Int) (w : World) : Calls Tryz.prog 117 #[.int .u8 x] w fun e w' => e = .returned (.bool (wb x)) ∧ w = w' := by
  by_cases hd : 48 ≤ x ∧ x ≤ 57
  · obtain ⟨h1, h2⟩ := hd
    go_enter Tryz.func117, Tryz.ntmps117
    go_wp2
    go_ret
    exact ⟨ret_bool (wb_eq (by simp; try omega)), rfl⟩
  · go_enter Tryz.func117, Tryz.ntmps117
    go_wp2
    all_goals (try (exfalso; omega))
    all_goals
      go_ret
      exact ⟨ret_bool (wb_eq (by simp; try omega)), rfl⟩

theorem or32_all : ∀ n : Fin 256, bits .or .u8 (n.1 : Int) 32 = (if (n.1 / 32) % 2 = 1 then (n.1 : Int) else (n.1 : Int) + 32) := by decide +kernel
theorem or32 (x : Int) (h0 : 0 ≤ x) (h1 : x ≤ 255) : bits .or .u8 x 32 = (if (x / 32) % 2 = 1 then x else x + 32) := by
  obtain ⟨n, rfl⟩ := Int.eq_ofNat_of_zero_le h0
  have := or32_all ⟨n, by omega⟩
  simp only at this
  rw [this]
  by_cases h : n / 32 % 2 = 1
  · rw [if_pos h, if_pos (by omega)]
  · rw [if_neg h, if_neg (by omega)]

set_option maxHeartbeats 1000000 in
theorem wordByte_ref (x : Int) (h0 : 0 ≤ x) (h1 : x ≤ 255) (w : World) : Calls Tryz.prog 151 #[.int .u8 x] w fun e w' => e = .returned (.bool (wb x)) ∧ w = w' := by
  have ho := or32 x h0 h1
  by_cases hq : (x / 32) % 2 = 1
  · rw [if_pos hq] at ho
    have HQ := Lib.hid hq
    clear hq
    go_enter Tryz.func151, Tryz.ntmps151
    go_wp2
    all_goals (try (exfalso; omega))
    all_goals
      have hq := HQ.out
      go_ret
      exact ⟨ret_bool (wb_eq (by simp; try omega)), rfl⟩
  · rw [if_neg hq] at ho
    have HQ := Lib.hid hq
    clear hq
    go_enter Tryz.func151, Tryz.ntmps151
    go_wp2
    all_goals (try (exfalso; omega))
    all_goals
      have hq := HQ.out
      go_ret
      exact ⟨ret_bool (wb_eq (by simp; try omega)), rfl⟩

set_option maxHeartbeats 1000000 in
theorem inside_any (s : ByteArray) (k : Nat) (w : World) (hs : s.size ≤ 140737488351232) (hk : k < s.size) :
    Calls Tryz.prog 118 #[.string s, .int .i64 k] w fun e w' => e = .returned (.bool (mk s k)) ∧ w = w' := by
  have hb := get_bt s
  by_cases hm : 0 < k ∧ k + 1 < s.size
  · obtain ⟨h1, h2⟩ := hm
    have e1 : ((k : Int) == 0) = false := by simp; omega
    go_enter Tryz.func118, Tryz.ntmps118
    go_wp2_with (first
      | (go_at_call 117; refine (isWord_any _ _).mono ?_; rintro e w' ⟨rfl, rfl⟩)
      | (go_at_call 144; refine (isDigit_any _ _).mono ?_; rintro e w' ⟨rfl, rfl⟩))
    all_goals
      go_ret
      refine ⟨ret_bool ?_, rfl⟩
      first
        | (rw [mk39 h1 h2 ‹(bt s k == 39) = true›]; simp [*]; done)
        | (rw [mk46 h1 h2 ‹(bt s k == 46) = true›]; simp [*]; done)
        | (rw [mkno h1 h2 ‹(bt s k == 39) = false› ‹(bt s k == 46) = false›])
  · have HM := Lib.hid (mk_false_of hm)
    by_cases h0 : k = 0
    · subst h0
      go_enter Tryz.func118, Tryz.ntmps118
      go_wp2
      go_ret
      exact ⟨ret_bool HM.out.symm, rfl⟩
    · have h3 : ¬ k + 1 < s.size := fun h => hm ⟨by omega, h⟩
      have e1 : ((k : Int) == 0) = false := by simp; omega
      go_enter Tryz.func118, Tryz.ntmps118
      go_wp2
      go_ret
      exact ⟨ret_bool HM.out.symm, rfl⟩

set_option maxHeartbeats 1000000 in
theorem inWord_ref (s : ByteArray) (k : Nat) (w : World) (hs : s.size ≤ 140737488351232) (hk : k < s.size) :
    Calls Tryz.prog 134 #[.string s, .int .i64 k] w fun e w' => e = .returned (.bool (wb (bt s k) || mk s k)) ∧ Below w.heap.size w w' := by
  have hb := get_bt s
  have r0 := bt_nonneg s k
  have r1 := bt_le s k
  by_cases hw : wb (bt s k) = true
  · go_enter Tryz.func134, Tryz.ntmps134
    go_wp2_with (go_at_call 151; refine (wordByte_ref _ (by assumption) (by assumption) _).mono ?_; rintro e w' ⟨rfl, rfl⟩)
    go_ret
    exact ⟨ret_bool (by rw [hw]; rfl), Below.refl _ _⟩
  · have hw : wb (bt s k) = false := by simpa using hw
    by_cases hm : 0 < k ∧ k + 1 < s.size
    · obtain ⟨h1, h2⟩ := hm
      have e1 : ((k : Int) == 0) = false := by simp; omega
      have p0 := bt_nonneg s (k - 1)
      have p1 := bt_le s (k - 1)
      have q0 := bt_nonneg s (k + 1)
      have q1 := bt_le s (k + 1)
      go_enter Tryz.func134, Tryz.ntmps134
      go_wp2_with (go_at_call 151; refine (wordByte_ref _ (by assumption) (by assumption) _).mono ?_; rintro e w' ⟨rfl, rfl⟩)
      go_quiet (fail)
      go_wp2_with (first
        | (go_at_call 151; refine (wordByte_ref _ (by assumption) (by assumption) _).mono ?_; rintro e w' ⟨rfl, rfl⟩)
        | (go_at_call 152; refine (digit_any _ _).mono ?_; rintro e w' ⟨rfl, rfl⟩))
      all_goals
        go_ret
        refine ⟨ret_bool ?_, ⟨rfl, rfl, rfl, Nat.le_refl _, fun _ _ => rfl⟩⟩
        rw [hw, Bool.false_or]
        first
          | (rw [mk39 h1 h2 ‹(bt s k == 39) = true›]; simp [*]; done)
          | (rw [mk46 h1 h2 ‹(bt s k == 46) = true›]; simp [*]; done)
          | (rw [mkno h1 h2 ‹(bt s k == 39) = false› ‹(bt s k == 46) = false›])
          | (rw [mk46 h1 h2 (beq_iff_eq.2 ‹bt s k = 46›)]; simp [*]; done)
          | (rw [mkno h1 h2 ‹(bt s k == 39) = false› (beq_eq_false_iff_ne.2 ‹¬ bt s k = 46›)])
    · have HM := Lib.hid (mk_false_of hm)
      by_cases h0 : k = 0
      · subst h0
        go_enter Tryz.func134, Tryz.ntmps134
        go_wp2_with (go_at_call 151; refine (wordByte_ref _ (by assumption) (by assumption) _).mono ?_; rintro e w' ⟨rfl, rfl⟩)
        go_ret
        exact ⟨ret_bool (by rw [hw, HM.out]; rfl), Below.refl _ _⟩
      · have h3 : ¬ k + 1 < s.size := fun h => hm ⟨by omega, h⟩
        have e1 : ((k : Int) == 0) = false := by simp; omega
        go_enter Tryz.func134, Tryz.ntmps134
        go_wp2_with (go_at_call 151; refine (wordByte_ref _ (by assumption) (by assumption) _).mono ?_; rintro e w' ⟨rfl, rfl⟩)
        go_ret
        exact ⟨ret_bool (by rw [hw, HM.out]; rfl), Below.refl _ _⟩

end Go.Proofs.YtkcfgcdlnojaeaaGreatDoor.WordBytes

namespace Go.Proofs.YtkcfgcdlnojaeaaGreatDoor.WordsWalk
set_option maxRecDepth 100000
open Go.RowKit Go.PlainAid WordPlain Base WordBytes

theorem tokElem : Elem Tryz.prog 71 115 (.agg #[.string ⟨#[]⟩, .int .i64 0, .int .i64 0, .int .i64 0, .int .i64 0]) 5 48 := .mk_ (by kernel_rfl) (by kernel_rfl) rfl (by decide)

set_option maxHeartbeats 2000000 in
theorem words_any (s : ByteArray) (w : World) (hs : s.size ≤ 1099511627776) :
    Calls Tryz.prog 75 #[.string s] w fun e w' => ∃ A c, e = .returned (.slice A (words s).length c) ∧
      w'.ownsRow w.heap.size 115 5 (.slice A (words s).length c) (words s).length (tokCells (words s)) ∧ Below w.heap.size w w' := by
  go_enter Tryz.func75, Tryz.ntmps75
  go_wp2
  go_loopw [3, 4, 5] (fun v st i wr => ∃ k : Nat, k ≤ s.size + 1 ∧ i = .int .i64 k ∧ st = .int .i64 (stv (wst s k).2) ∧
      wr.ownsRow w.heap.size 115 5 v (wst s k).1.length (tokCells (wst s k).1) ∧ Below w.heap.size w wr) (fun _ _ i _ => s.size + 1 - (intOf i).toNat)
  case atStart => exact ⟨0, Nat.zero_le _, rfl, rfl, World.ownsRow_nil _ _ _ _, Below.refl _ _⟩
  case round =>
    obtain ⟨k, hk, rfl, rfl, hown, hbel⟩ := hrel
    obtain ⟨A, c, rfl⟩ := own_slice hown
    have hsz := hbel.size
    have hlen := wst_len s k
    by_cases hlt : k ≤ s.size
    · have hb := get_bt s
      have arms : True := trivial
      rcases hi : inW s k with _ | _
      · -- no byte of a word
        rcases h2 : (wst s k).2 with _ | j
        · have HS := Lib.hid (wst_out_none hi h2)
          clear h2
          simp only [stv]
          by_cases hks : k < s.size
          · have hw : wb (bt s k) = false := by unfold inW at hi; simp [hks] at hi; exact hi.1
            have hm : mk s k = false := by unfold inW at hi; simp [hks] at hi; exact hi.2
            clear hi
            go_wp2_with (first
              | (go_at_call 117; refine (isWord_any _ _).mono ?_; rintro e w' ⟨rfl, rfl⟩)
              | (go_at_call 118; refine (inside_any _ _ _ (by omega) (by omega)).mono ?_; rintro e w' ⟨rfl, rfl⟩))
            go_roundw
            case rel => exact ⟨k + 1, by omega, by go_num, by rw [HS.out], by rw [HS.out]; exact hown, hbel⟩
            case measure => simp [intOf]; omega
          · clear hi
            go_wp2
            go_roundw
            case rel => exact ⟨k + 1, by omega, by go_num, by rw [HS.out], by rw [HS.out]; exact hown, hbel⟩
            case measure => simp [intOf]; omega
        · have hj := wst_lt s k j h2
          have HS := Lib.hid (wst_out_some hi h2)
          clear h2
          simp only [stv]
          have hL : Hid (tokCells (wst s (k + 1)).1 = tokCells (wst s k).1 ++ [.string (s.extract j k), .int .i64 0, .int .i64 ((wst s k).1.length : Nat), .int .i64 (j : Nat), .int .i64 (k : Nat)]) :=
            Lib.hid (by rw [HS.out, tokCells_append]; rfl)
          by_cases hks : k < s.size
          · have hw : wb (bt s k) = false := by unfold inW at hi; simp [hks] at hi; exact hi.1
            have hm : mk s k = false := by unfold inW at hi; simp [hks] at hi; exact hi.2
            clear hi
            go_wp2_with (first
              | (go_at_call 117; refine (isWord_any _ _).mono ?_; rintro e w' ⟨rfl, rfl⟩)
              | (go_at_call 118; refine (inside_any _ _ _ (by omega) (by omega)).mono ?_; rintro e w' ⟨rfl, rfl⟩)
              | (at_builtin; refine wpList_append1 rfl _ _ rfl tokElem hown rfl rfl rfl rfl (by omega) (by unfold maxLen; omega) hsz ?_))
            intro v' w1 hown' _ hbel'
            have hbel1 := hbel' _ hbel
            clear hbel' hown
            go_wp2
            go_roundw
            case rel => exact ⟨k + 1, by omega, by go_num, by rw [HS.out], by rw [hL.out, HS.out, List.length_append]; exact hown', hbel1⟩
            case measure => simp [intOf]; omega
          · clear hi
            go_wp2_with (at_builtin; refine wpList_append1 rfl _ _ rfl tokElem hown rfl rfl rfl rfl (by omega) (by unfold maxLen; omega) hsz ?_)
            intro v' w1 hown' _ hbel'
            have hbel1 := hbel' _ hbel
            clear hbel' hown
            go_wp2
            go_roundw
            case rel => exact ⟨k + 1, by omega, by go_num, by rw [HS.out], by rw [hL.out, HS.out, List.length_append]; exact hown', hbel1⟩
            case measure => simp [intOf]; omega
      · have hks : k < s.size := by unfold inW at hi; simp at hi; exact hi.1
        have hwm : wb (bt s k) = true ∨ (wb (bt s k) = false ∧ mk s k = true) := by
          unfold inW at hi
          simp only [Bool.and_eq_true, Bool.or_eq_true] at hi
          rcases hi.2 with h | h
          · exact .inl h
          · cases hwb : wb (bt s k)
            · exact .inr ⟨rfl, h⟩
            · exact .inl rfl
        rcases h2 : (wst s k).2 with _ | j
        · have HS := Lib.hid (wst_in_none hi h2)
          clear h2 hi
          simp only [stv]
          rcases hwm with hw | ⟨hw, hm⟩
          all_goals
            go_wp2_with (first
              | (go_at_call 117; refine (isWord_any _ _).mono ?_; rintro e w' ⟨rfl, rfl⟩)
              | (go_at_call 118; refine (inside_any _ _ _ (by omega) (by omega)).mono ?_; rintro e w' ⟨rfl, rfl⟩))
            go_roundw
            case rel => exact ⟨k + 1, by omega, by go_num, by rw [HS.out], by rw [HS.out]; exact hown, hbel⟩
            case measure => simp [intOf]; omega
        · have hj := wst_lt s k j h2
          have HS := Lib.hid (wst_in_some hi h2)
          clear h2 hi
          simp only [stv]
          rcases hwm with hw | ⟨hw, hm⟩
          all_goals
            go_wp2_with (first
              | (go_at_call 117; refine (isWord_any _ _).mono ?_; rintro e w' ⟨rfl, rfl⟩)
              | (go_at_call 118; refine (inside_any _ _ _ (by omega) (by omega)).mono ?_; rintro e w' ⟨rfl, rfl⟩))
            go_roundw
            case rel => exact ⟨k + 1, by omega, by go_num, by rw [HS.out], by rw [HS.out]; exact hown, hbel⟩
            case measure => simp [intOf]; omega
    · obtain rfl : k = s.size + 1 := by omega
      go_wp2
      go_ret
      exact ⟨A, c, rfl, hown, hbel⟩
end Go.Proofs.YtkcfgcdlnojaeaaGreatDoor.WordsWalk
