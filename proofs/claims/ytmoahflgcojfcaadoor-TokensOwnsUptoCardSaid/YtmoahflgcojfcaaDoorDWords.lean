/-
  The walks over bytes: which bytes stand in words, by the program, the reference and the laws.
  The walk of tokens.Words.
  The walk of the reference's Words.
  The walk of the laws' 'same' where the two lists are alike.
-/
import Derived.Test.YtmoahflgcojfcaaDoorChecked
import Derived.Test.YtmoahflgcojfcaaDoorDPlains
import Derived.Test.YtmoahflgcojfcaaDoorBase
import Derived.Deep.QuietTactic
import Derived.BigQuiet
namespace Go.Proofs.YtmoahflgcojfcaaDoor.WordBytes
set_option maxRecDepth 100000
open Go.RowKit Go.PlainAid WordPlain Base

theorem ret_bool {a b : Bool} (h : a = b) : Ending.returned (.bool a) = .returned (.bool b) := by rw [h]

set_option maxHeartbeats 1000000 in
theorem isDigit_any (x : Int) (w : World) : Calls Tryd.prog 53 #[.int .u8 x] w fun e w' => e = .returned (.bool (dg x)) ∧ w = w' := by
  go_enter Tryd.func53, Tryd.ntmps53
  go_wp2
  all_goals
    go_ret
    exact ⟨ret_bool (dg_eq (by simp; try omega)), rfl⟩

set_option maxHeartbeats 1000000 in
theorem digit_any (x : Int) (w : World) : Calls Tryd.prog 84 #[.int .u8 x] w fun e w' => e = .returned (.bool (dg x)) ∧ w = w' := by
  go_enter Tryd.func84, Tryd.ntmps84
  go_wp2
  all_goals
    go_ret
    exact ⟨ret_bool (dg_eq (by simp; try omega)), rfl⟩

set_option maxHeartbeats 1000000 in
theorem isWord_any (x : Int) (w : World) : Calls Tryd.prog 31 #[.int .u8 x] w fun e w' => e = .returned (.bool (wb x)) ∧ w = w' := by
  by_cases hd : 48 ≤ x ∧ x ≤ 57
  · obtain ⟨h1, h2⟩ := hd
    go_enter Tryd.func31, Tryd.ntmps31
    go_wp2
    go_ret
    exact ⟨ret_bool (wb_eq (by simp; try omega)), rfl⟩
  · go_enter Tryd.func31, Tryd.ntmps31
    go_wp2
    all_goals (try (exfalso; omega))
    all_goals
      go_ret
      exact ⟨ret_bool (wb_eq (by simp; try omega)), rfl⟩

theorem or32_all : ∀ n : Fin 256, bits .or .u8 (n.1 : Int) 32 = (if (n.1 / 32) % 2 = 1 then (n.1 : Int) else (n.1 : Int) + 32) := by decide +kernel
/-- 'b | 32' of a byte. -/
theorem or32 (x : Int) (h0 : 0 ≤ x) (h1 : x ≤ 255) : bits .or .u8 x 32 = (if (x / 32) % 2 = 1 then x else x + 32) := by
  obtain ⟨n, rfl⟩ := Int.eq_ofNat_of_zero_le h0
  have := or32_all ⟨n, by omega⟩
  simp only at this
  rw [this]
  by_cases h : n / 32 % 2 = 1
  · rw [if_pos h, if_pos (by omega)]
  · rw [if_neg h, if_neg (by omega)]

set_option maxHeartbeats 1000000 in
theorem wordByte_ref (x : Int) (h0 : 0 ≤ x) (h1 : x ≤ 255) (w : World) : Calls Tryd.prog 83 #[.int .u8 x] w fun e w' => e = .returned (.bool (wb x)) ∧ w = w' := by
  have ho := or32 x h0 h1
  by_cases hq : (x / 32) % 2 = 1
  · rw [if_pos hq] at ho
    have HQ := Lib.hid hq
    clear hq
    go_enter Tryd.func83, Tryd.ntmps83
    go_wp2
    all_goals (try (exfalso; omega))
    all_goals
      have hq := HQ.out
      go_ret
      exact ⟨ret_bool (wb_eq (by simp; try omega)), rfl⟩
  · rw [if_neg hq] at ho
    have HQ := Lib.hid hq
    clear hq
    go_enter Tryd.func83, Tryd.ntmps83
    go_wp2
    all_goals (try (exfalso; omega))
    all_goals
      have hq := HQ.out
      go_ret
      exact ⟨ret_bool (wb_eq (by simp; try omega)), rfl⟩

set_option maxHeartbeats 1000000 in
theorem inside_any (s : ByteArray) (k : Nat) (w : World) (hs : s.size ≤ 140737488351232) (hk : k < s.size) :
    Calls Tryd.prog 32 #[.string s, .int .i64 k] w fun e w' => e = .returned (.bool (mk s k)) ∧ w = w' := by
  have hb := get_bt s
  by_cases hm : 0 < k ∧ k + 1 < s.size
  · obtain ⟨h1, h2⟩ := hm
    have e1 : ((k : Int) == 0) = false := by simp; omega
    go_enter Tryd.func32, Tryd.ntmps32
    go_wp2_with (first
      | (go_at_call 31; refine (isWord_any _ _).mono ?_; rintro e w' ⟨rfl, rfl⟩)
      | (go_at_call 53; refine (isDigit_any _ _).mono ?_; rintro e w' ⟨rfl, rfl⟩))
    all_goals
      go_ret
      refine ⟨ret_bool ?_, rfl⟩
      first
        | (rw [mk39 h1 h2 ‹(bt s k == 39) = true›]; simp [*]; done)
        | (rw [mk46 h1 h2 ‹(bt s k == 46) = true›]; simp [*]; done)
        | (rw [mkno h1 h2 ‹(bt s k == 39) = false› ‹(bt s k == 46) = false›])
  · have HM := Lib.hid (mk_false_of hm)
    by_cases h0 : k = 0
    · subst h0
      go_enter Tryd.func32, Tryd.ntmps32
      go_wp2
      go_ret
      exact ⟨ret_bool HM.out.symm, rfl⟩
    · have h3 : ¬ k + 1 < s.size := fun h => hm ⟨by omega, h⟩
      have e1 : ((k : Int) == 0) = false := by simp; omega
      go_enter Tryd.func32, Tryd.ntmps32
      go_wp2
      go_ret
      exact ⟨ret_bool HM.out.symm, rfl⟩

set_option maxHeartbeats 1000000 in
theorem inWord_ref (s : ByteArray) (k : Nat) (w : World) (hs : s.size ≤ 140737488351232) (hk : k < s.size) :
    Calls Tryd.prog 63 #[.string s, .int .i64 k] w fun e w' => e = .returned (.bool (wb (bt s k) || mk s k)) ∧ Below w.heap.size w w' := by
  have hb := get_bt s
  have r0 := bt_nonneg s k
  have r1 := bt_le s k
  by_cases hw : wb (bt s k) = true
  · go_enter Tryd.func63, Tryd.ntmps63
    go_wp2_with (go_at_call 83; refine (wordByte_ref _ (by assumption) (by assumption) _).mono ?_; rintro e w' ⟨rfl, rfl⟩)
    go_ret
    exact ⟨ret_bool (by rw [hw]; rfl), Below.refl _ _⟩
  · have hw : wb (bt s k) = false := by simpa using hw
    by_cases hm : 0 < k ∧ k + 1 < s.size
    · obtain ⟨h1, h2⟩ := hm
      have e1 : ((k : Int) == 0) = false := by simp; omega
      have p0 := bt_nonneg s (k - 1)
      have p1 := bt_le s (k - 1)
      have q0 := bt_nonneg s (k + 1)
      have q1 := bt_le s (k + 1)
      go_enter Tryd.func63, Tryd.ntmps63
      go_wp2_with (go_at_call 83; refine (wordByte_ref _ (by assumption) (by assumption) _).mono ?_; rintro e w' ⟨rfl, rfl⟩)
      go_quiet (fail)
      go_wp2_with (first
        | (go_at_call 83; refine (wordByte_ref _ (by assumption) (by assumption) _).mono ?_; rintro e w' ⟨rfl, rfl⟩)
        | (go_at_call 84; refine (digit_any _ _).mono ?_; rintro e w' ⟨rfl, rfl⟩))
      all_goals
        go_ret
        refine ⟨ret_bool ?_, ⟨rfl, rfl, rfl, Nat.le_refl _, fun _ _ => rfl⟩⟩
        rw [hw, Bool.false_or]
        first
          | (rw [mk39 h1 h2 ‹(bt s k == 39) = true›]; simp [*]; done)
          | (rw [mk46 h1 h2 ‹(bt s k == 46) = true›]; simp [*]; done)
          | (rw [mkno h1 h2 ‹(bt s k == 39) = false› ‹(bt s k == 46) = false›])
          | (rw [mk46 h1 h2 (beq_iff_eq.2 ‹bt s k = 46›)]; simp [*]; done)
          | (rw [mkno h1 h2 ‹(bt s k == 39) = false› (beq_eq_false_iff_ne.2 ‹¬ bt s k = 46›)])
    · have HM := Lib.hid (mk_false_of hm)
      by_cases h0 : k = 0
      · subst h0
        go_enter Tryd.func63, Tryd.ntmps63
        go_wp2_with (go_at_call 83; refine (wordByte_ref _ (by assumption) (by assumption) _).mono ?_; rintro e w' ⟨rfl, rfl⟩)
        go_ret
        exact ⟨ret_bool (by rw [hw, HM.out]; rfl), Below.refl _ _⟩
      · have h3 : ¬ k + 1 < s.size := fun h => hm ⟨by omega, h⟩
        have e1 : ((k : Int) == 0) = false := by simp; omega
        go_enter Tryd.func63, Tryd.ntmps63
        go_wp2_with (go_at_call 83; refine (wordByte_ref _ (by assumption) (by assumption) _).mono ?_; rintro e w' ⟨rfl, rfl⟩)
        go_ret
        exact ⟨ret_bool (by rw [hw, HM.out]; rfl), Below.refl _ _⟩

end Go.Proofs.YtmoahflgcojfcaaDoor.WordBytes

namespace Go.Proofs.YtmoahflgcojfcaaDoor.WordsWalk
set_option maxRecDepth 100000
open Go.RowKit Go.PlainAid WordPlain Base WordBytes

theorem tokElem : Elem Tryd.prog 28 32 (.agg #[.string ⟨#[]⟩, .int .i64 0, .int .i64 0, .int .i64 0, .int .i64 0]) 5 48 := .mk_ (by kernel_rfl) (by kernel_rfl) rfl (by decide)

set_option maxHeartbeats 2000000 in
theorem words_any (s : ByteArray) (w : World) (hs : s.size ≤ 1099511627776) :
    Calls Tryd.prog 14 #[.string s] w fun e w' => ∃ A c, e = .returned (.slice A (words s).length c) ∧
      w'.ownsRow w.heap.size 32 5 (.slice A (words s).length c) (words s).length (tokCells (words s)) ∧ Below w.heap.size w w' := by
  go_enter Tryd.func14, Tryd.ntmps14
  go_wp2
  go_loopw [3, 4, 5] (fun v st i wr => ∃ k : Nat, k ≤ s.size + 1 ∧ i = .int .i64 k ∧ st = .int .i64 (stv (wst s k).2) ∧
      wr.ownsRow w.heap.size 32 5 v (wst s k).1.length (tokCells (wst s k).1) ∧ Below w.heap.size w wr) (fun _ _ i _ => s.size + 1 - (intOf i).toNat)
  case atStart => exact ⟨0, Nat.zero_le _, rfl, rfl, World.ownsRow_nil _ _ _ _, Below.refl _ _⟩
  case round =>
    obtain ⟨k, hk, rfl, rfl, hown, hbel⟩ := hrel
    obtain ⟨A, c, rfl⟩ := own_slice hown
    have hsz := hbel.size
    have hlen := wst_len s k
    by_cases hlt : k ≤ s.size
    · have hb := get_bt s
      have arms : True := trivial
      rcases hi : inW s k with _ | _
      · -- no byte of a word
        rcases h2 : (wst s k).2 with _ | j
        · have HS := Lib.hid (wst_out_none hi h2)
          clear h2
          simp only [stv]
          by_cases hks : k < s.size
          · have hw : wb (bt s k) = false := by unfold inW at hi; simp [hks] at hi; exact hi.1
            have hm : mk s k = false := by unfold inW at hi; simp [hks] at hi; exact hi.2
            clear hi
            go_wp2_with (first
              | (go_at_call 31; refine (isWord_any _ _).mono ?_; rintro e w' ⟨rfl, rfl⟩)
              | (go_at_call 32; refine (inside_any _ _ _ (by omega) (by omega)).mono ?_; rintro e w' ⟨rfl, rfl⟩))
            go_roundw
            case rel => exact ⟨k + 1, by omega, by go_num, by rw [HS.out], by rw [HS.out]; exact hown, hbel⟩
            case measure => simp [intOf]; omega
          · clear hi
            go_wp2
            go_roundw
            case rel => exact ⟨k + 1, by omega, by go_num, by rw [HS.out], by rw [HS.out]; exact hown, hbel⟩
            case measure => simp [intOf]; omega
        · have hj := wst_lt s k j h2
          have HS := Lib.hid (wst_out_some hi h2)
          clear h2
          simp only [stv]
          have hL : Hid (tokCells (wst s (k + 1)).1 = tokCells (wst s k).1 ++ [.string (s.extract j k), .int .i64 0, .int .i64 ((wst s k).1.length : Nat), .int .i64 (j : Nat), .int .i64 (k : Nat)]) :=
            Lib.hid (by rw [HS.out, tokCells_append]; rfl)
          by_cases hks : k < s.size
          · have hw : wb (bt s k) = false := by unfold inW at hi; simp [hks] at hi; exact hi.1
            have hm : mk s k = false := by unfold inW at hi; simp [hks] at hi; exact hi.2
            clear hi
            go_wp2_with (first
              | (go_at_call 31; refine (isWord_any _ _).mono ?_; rintro e w' ⟨rfl, rfl⟩)
              | (go_at_call 32; refine (inside_any _ _ _ (by omega) (by omega)).mono ?_; rintro e w' ⟨rfl, rfl⟩)
              | (at_builtin; refine wpList_append1 rfl _ _ rfl tokElem hown rfl rfl rfl rfl (by omega) (by unfold maxLen; omega) hsz ?_))
            intro v' w1 hown' _ hbel'
            have hbel1 := hbel' _ hbel
            clear hbel' hown
            go_wp2
            go_roundw
            case rel => exact ⟨k + 1, by omega, by go_num, by rw [HS.out], by rw [hL.out, HS.out, List.length_append]; exact hown', hbel1⟩
            case measure => simp [intOf]; omega
          · clear hi
            go_wp2_with (at_builtin; refine wpList_append1 rfl _ _ rfl tokElem hown rfl rfl rfl rfl (by omega) (by unfold maxLen; omega) hsz ?_)
            intro v' w1 hown' _ hbel'
            have hbel1 := hbel' _ hbel
            clear hbel' hown
            go_wp2
            go_roundw
            case rel => exact ⟨k + 1, by omega, by go_num, by rw [HS.out], by rw [hL.out, HS.out, List.length_append]; exact hown', hbel1⟩
            case measure => simp [intOf]; omega
      · have hks : k < s.size := by unfold inW at hi; simp at hi; exact hi.1
        have hwm : wb (bt s k) = true ∨ (wb (bt s k) = false ∧ mk s k = true) := by
          unfold inW at hi
          simp only [Bool.and_eq_true, Bool.or_eq_true] at hi
          rcases hi.2 with h | h
          · exact .inl h
          · cases hwb : wb (bt s k)
            · exact .inr ⟨rfl, h⟩
            · exact .inl rfl
        rcases h2 : (wst s k).2 with _ | j
        · have HS := Lib.hid (wst_in_none hi h2)
          clear h2 hi
          simp only [stv]
          rcases hwm with hw | ⟨hw, hm⟩
          all_goals
            go_wp2_with (first
              | (go_at_call 31; refine (isWord_any _ _).mono ?_; rintro e w' ⟨rfl, rfl⟩)
              | (go_at_call 32; refine (inside_any _ _ _ (by omega) (by omega)).mono ?_; rintro e w' ⟨rfl, rfl⟩))
            go_roundw
            case rel => exact ⟨k + 1, by omega, by go_num, by rw [HS.out], by rw [HS.out]; exact hown, hbel⟩
            case measure => simp [intOf]; omega
        · have hj := wst_lt s k j h2
          have HS := Lib.hid (wst_in_some hi h2)
          clear h2 hi
          simp only [stv]
          rcases hwm with hw | ⟨hw, hm⟩
          all_goals
            go_wp2_with (first
              | (go_at_call 31; refine (isWord_any _ _).mono ?_; rintro e w' ⟨rfl, rfl⟩)
              | (go_at_call 32; refine (inside_any _ _ _ (by omega) (by omega)).mono ?_; rintro e w' ⟨rfl, rfl⟩))
            go_roundw
            case rel => exact ⟨k + 1, by omega, by go_num, by rw [HS.out], by rw [HS.out]; exact hown, hbel⟩
            case measure => simp [intOf]; omega
    · obtain rfl : k = s.size + 1 := by omega
      go_wp2
      go_ret
      exact ⟨A, c, rfl, hown, hbel⟩
end Go.Proofs.YtmoahflgcojfcaaDoor.WordsWalk

namespace Go.Proofs.YtmoahflgcojfcaaDoor.WordsRef
set_option maxRecDepth 100000
open Go.RowKit Go.PlainAid WordPlain Base WordBytes WordsWalk

set_option maxHeartbeats 2000000 in
theorem words_ref (s : ByteArray) (w : World) (hs : s.size ≤ 1099511627776) :
    Calls Tryd.prog 41 #[.string s] w fun e w' => ∃ A c, e = .returned (.slice A (words s).length c) ∧
      w'.ownsRow w.heap.size 32 5 (.slice A (words s).length c) (words s).length (tokCells (words s)) ∧ Below w.heap.size w w' := by
  go_enter Tryd.func41, Tryd.ntmps41
  go_wp2
  go_loopw [3, 4, 5] (fun v st i wr => ∃ k : Nat, k ≤ s.size + 1 ∧ i = .int .i64 k ∧ st = .int .i64 (stv (wst s k).2) ∧
      wr.ownsRow w.heap.size 32 5 v (wst s k).1.length (tokCells (wst s k).1) ∧ Below w.heap.size w wr) (fun _ _ i _ => s.size + 1 - (intOf i).toNat)
  case atStart => exact ⟨0, Nat.zero_le _, rfl, rfl, World.ownsRow_lit w #[] 0 (Nat.le_refl _) (by decide) rfl, (Below.refl _ _).alloc (Nat.le_refl _) _⟩
  case round =>
    obtain ⟨k, hk, rfl, rfl, hown, hbel⟩ := hrel
    obtain ⟨A, c, rfl⟩ := own_slice hown
    have hsz := hbel.size
    have hlen := wst_len s k
    by_cases hlt : k ≤ s.size
    · rcases hi : inW s k with _ | _
      · -- no byte of a word
        rcases h2 : (wst s k).2 with _ | j
        · have HS := Lib.hid (wst_out_none hi h2)
          clear h2
          simp only [stv]
          by_cases hks : k < s.size
          · have hin : (wb (bt s k) || mk s k) = false := by unfold inW at hi; simpa [hks] using hi
            clear hi
            go_wp2_with (go_at_call 63; refine (inWord_ref _ _ _ (by omega) (by omega)).mono ?_; rintro e w2 ⟨rfl, hb2⟩)
            have hown2 := own_below hown hb2
            have hbel2 := hbel.trans (hb2.mono hsz)
            clear hown hbel hb2
            go_roundw
            case rel => exact ⟨k + 1, by omega, by go_num, by rw [HS.out], by rw [HS.out]; exact hown2, hbel2⟩
            case measure => simp [intOf]; omega
          · clear hi
            go_wp2
            go_roundw
            case rel => exact ⟨k + 1, by omega, by go_num, by rw [HS.out], by rw [HS.out]; exact hown, hbel⟩
            case measure => simp [intOf]; omega
        · have hj := wst_lt s k j h2
          have HS := Lib.hid (wst_out_some hi h2)
          clear h2
          simp only [stv]
          have hL : Hid (tokCells (wst s (k + 1)).1 = tokCells (wst s k).1 ++ [.string (s.extract j k), .int .i64 0, .int .i64 ((wst s k).1.length : Nat), .int .i64 (j : Nat), .int .i64 (k : Nat)]) :=
            Lib.hid (by rw [HS.out, tokCells_append]; rfl)
          by_cases hks : k < s.size
          · have hin : (wb (bt s k) || mk s k) = false := by unfold inW at hi; simpa [hks] using hi
            clear hi
            go_wp2_with (first
              | (go_at_call 63; refine (inWord_ref _ _ _ (by omega) (by omega)).mono ?_; rintro e w2 ⟨rfl, hb2⟩; have hown2 := own_below hown hb2; have hsz2 := Nat.le_trans hsz hb2.size)
              | (at_builtin; refine wpList_append1 rfl _ _ rfl tokElem hown2 rfl rfl rfl rfl (by omega) (by unfold maxLen; omega) hsz2 ?_))
            intro v' w1 hown' _ hbel'
            have hbel1 := hbel' _ (hbel.trans (hb2.mono hsz))
            clear hbel' hown hown2
            go_wp2
            go_roundw
            case rel => exact ⟨k + 1, by omega, by go_num, by rw [HS.out], by rw [hL.out, HS.out, List.length_append]; exact hown', hbel1⟩
            case measure => simp [intOf]; omega
          · clear hi
            go_wp2_with (at_builtin; refine wpList_append1 rfl _ _ rfl tokElem hown rfl rfl rfl rfl (by omega) (by unfold maxLen; omega) hsz ?_)
            intro v' w1 hown' _ hbel'
            have hbel1 := hbel' _ hbel
            clear hbel' hown
            go_wp2
            go_roundw
            case rel => exact ⟨k + 1, by omega, by go_num, by rw [HS.out], by rw [hL.out, HS.out, List.length_append]; exact hown', hbel1⟩
            case measure => simp [intOf]; omega
      · have hks : k < s.size := by unfold inW at hi; simp at hi; exact hi.1
        have hin : (wb (bt s k) || mk s k) = true := by unfold inW at hi; simpa [hks] using hi
        rcases h2 : (wst s k).2 with _ | j
        · have HS := Lib.hid (wst_in_none hi h2)
          clear h2 hi
          simp only [stv]
          go_wp2_with (go_at_call 63; refine (inWord_ref _ _ _ (by omega) (by omega)).mono ?_; rintro e w2 ⟨rfl, hb2⟩)
          have hown2 := own_below hown hb2
          have hbel2 := hbel.trans (hb2.mono hsz)
          clear hown hbel hb2
          go_roundw
          case rel => exact ⟨k + 1, by omega, by go_num, by rw [HS.out], by rw [HS.out]; exact hown2, hbel2⟩
          case measure => simp [intOf]; omega
        · have hj := wst_lt s k j h2
          have HS := Lib.hid (wst_in_some hi h2)
          clear h2 hi
          simp only [stv]
          go_wp2_with (go_at_call 63; refine (inWord_ref _ _ _ (by omega) (by omega)).mono ?_; rintro e w2 ⟨rfl, hb2⟩)
          have hown2 := own_below hown hb2
          have hbel2 := hbel.trans (hb2.mono hsz)
          clear hown hbel hb2
          go_roundw
          case rel => exact ⟨k + 1, by omega, by go_num, by rw [HS.out], by rw [HS.out]; exact hown2, hbel2⟩
          case measure => simp [intOf]; omega
    · obtain rfl : k = s.size + 1 := by omega
      go_wp2
      go_ret
      exact ⟨A, c, rfl, hown, hbel⟩
end Go.Proofs.YtmoahflgcojfcaaDoor.WordsRef

namespace Go.Proofs.YtmoahflgcojfcaaDoor.SameWalk
set_option maxRecDepth 100000
open Go.RowKit Go.PlainAid WordPlain Base WordBytes

set_option maxHeartbeats 2000000 in
theorem same_eq (ts : List Tok) (A1 A2 : Option Addr) (c1 c2 B : Nat) (w : World) (hB : B ≤ w.heap.size) (hl : ts.length ≤ 1099511627776) (h1 : Slc w B A1 (tokCells ts)) (h2 : Slc w B A2 (tokCells ts)) :
    Calls Tryd.prog 18 #[.slice A1 ts.length c1, .slice A2 ts.length c2] w fun e w' => e = .returned (.bool true) ∧ Below w.heap.size w w' := by
  go_enter Tryd.func18, Tryd.ntmps18
  go_wp2
  go_loopw [13] (fun i wr => ∃ k : Nat, k ≤ ts.length ∧ i = .int .i64 k ∧ Below w.heap.size w wr) (fun i _ => ts.length - (intOf i).toNat)
  case atStart => exact ⟨0, Nat.zero_le _, rfl, Below.refl _ _⟩
  case round =>
    obtain ⟨k, hk, rfl, hbel⟩ := hrel
    by_cases hlt : k < ts.length
    · have hne : tokCells ts ≠ [] := by
        intro h
        have := tokCells_len ts
        rw [h] at this
        simp at this
        omega
      obtain ⟨g1, o1, rfl, hg1, hc1⟩ := (h1.below hbel hB) hne
      obtain ⟨g2, o2, rfl, hg2, hc2⟩ := (h2.below hbel hB) hne
      obtain ⟨t, ht⟩ : ∃ t, ts[k]? = some t := ⟨_, List.getElem?_eq_getElem hlt⟩
      have e := fun j (hj : j < 5) => tokCells_at ts k t j ht hj
      have x0 : wr.cell? ⟨g1, o1 + k * 5, none⟩ = some (.string t.text) := hc1 (k * 5 + 0) _ (e 0 (by omega))
      have x1 : wr.cell? ⟨g1, o1 + k * 5 + 1, none⟩ = some (.int .i64 t.value) := by have := hc1 (k * 5 + 1) _ (e 1 (by omega)); rwa [← Nat.add_assoc] at this
      have x2 : wr.cell? ⟨g1, o1 + k * 5 + 2, none⟩ = some (.int .i64 t.pos) := by have := hc1 (k * 5 + 2) _ (e 2 (by omega)); rwa [← Nat.add_assoc] at this
      have x3 : wr.cell? ⟨g1, o1 + k * 5 + 3, none⟩ = some (.int .i64 t.start) := by have := hc1 (k * 5 + 3) _ (e 3 (by omega)); rwa [← Nat.add_assoc] at this
      have x4 : wr.cell? ⟨g1, o1 + k * 5 + 4, none⟩ = some (.int .i64 t.stop) := by have := hc1 (k * 5 + 4) _ (e 4 (by omega)); rwa [← Nat.add_assoc] at this
      have y0 : wr.cell? ⟨g2, o2 + k * 5, none⟩ = some (.string t.text) := hc2 (k * 5 + 0) _ (e 0 (by omega))
      have y1 : wr.cell? ⟨g2, o2 + k * 5 + 1, none⟩ = some (.int .i64 t.value) := by have := hc2 (k * 5 + 1) _ (e 1 (by omega)); rwa [← Nat.add_assoc] at this
      have y2 : wr.cell? ⟨g2, o2 + k * 5 + 2, none⟩ = some (.int .i64 t.pos) := by have := hc2 (k * 5 + 2) _ (e 2 (by omega)); rwa [← Nat.add_assoc] at this
      have y3 : wr.cell? ⟨g2, o2 + k * 5 + 3, none⟩ = some (.int .i64 t.start) := by have := hc2 (k * 5 + 3) _ (e 3 (by omega)); rwa [← Nat.add_assoc] at this
      have y4 : wr.cell? ⟨g2, o2 + k * 5 + 4, none⟩ = some (.int .i64 t.stop) := by have := hc2 (k * 5 + 4) _ (e 4 (by omega)); rwa [← Nat.add_assoc] at this
      clear e hc1 hc2
      go_wp2_with fail
      go_quiet (fail)
      go_wp2
      go_roundw
      case rel => exact ⟨k + 1, by omega, by go_num, hbel.trans ⟨rfl, rfl, rfl, Nat.le_refl _, fun _ _ => rfl⟩⟩
      case measure => simp [intOf]; omega
    · obtain rfl : k = ts.length := by omega
      go_wp2
      go_ret
      exact ⟨rfl, hbel⟩
end Go.Proofs.YtmoahflgcojfcaaDoor.SameWalk
