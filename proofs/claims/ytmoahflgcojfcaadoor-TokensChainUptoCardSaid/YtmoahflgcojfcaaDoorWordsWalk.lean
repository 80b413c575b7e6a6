/-
  The walk of tokens.Words.
-/
import Derived.Test.YtmoahflgcojfcaaDoorWordBytes
namespace Go.Proofs.YtmoahflgcojfcaaDoor.WordsWalk
set_option maxRecDepth 100000
open Go.RowKit Go.PlainAid WordPlain Base WordBytes

theorem tokElem : Elem Tryd.prog 28 32 (.agg #[.string ⟨#[]⟩, .int .i64 0, .int .i64 0, .int .i64 0, .int .i64 0]) 5 48 := .mk_ (by kernel_rfl) (by kernel_rfl) rfl (by decide)

set_option maxHeartbeats 2000000 in
theorem words_any (s : ByteArray) (w : World) (hs : s.size ≤ 1099511627776) :
    Calls Tryd.prog 14 #[.string s] w fun e w' => ∃ A c, e = .returned (.slice A (words s).length c) ∧
      w'.ownsRow w.heap.size 32 5 (.slice A (words s).length c) (words s).length (tokCells (words s)) ∧ Below w.heap.size w w' := by
  go_enter Tryd.func14, Tryd.ntmps14
  go_wp2
  go_loopw [3, 4, 5] (fun v st i wr => ∃ k : Nat, k ≤ s.size + 1 ∧ i = .int .i64 k ∧ st = .int .i64 (stv (wst s k).2) ∧
      wr.ownsRow w.heap.size 32 5 v (wst s k).1.length (tokCells (wst s k).1) ∧ Below w.heap.size w wr) (fun _ _ i _ => s.size + 1 - (intOf i).toNat)
  case atStart => exact ⟨0, Nat.zero_le _, rfl, rfl, World.ownsRow_nil _ _ _ _, Below.refl _ _⟩
  case round =>
    obtain ⟨k, hk, rfl, rfl, hown, hbel⟩ := hrel
    obtain ⟨A, c, rfl⟩ := own_slice hown
    have hsz := hbel.size
    have hlen := wst_len s k
    by_cases hlt : k ≤ s.size
    · have hb := get_bt s
      have arms : True := trivial
      rcases hi : inW s k with _ | _
      · -- no byte of a word
        rcases h2 : (wst s k).2 with _ | j
        · have HS := Lib.hid (wst_out_none hi h2)
          clear h2
          simp only [stv]
          by_cases hks : k < s.size
          · have hw : wb (bt s k) = false := by unfold inW at hi; simp [hks] at hi; exact hi.1
            have hm : mk s k = false := by unfold inW at hi; simp [hks] at hi; exact hi.2
            clear hi
            go_wp2_with (first
              | (go_at_call 31; refine (isWord_any _ _).mono ?_; rintro e w' ⟨rfl, rfl⟩)
              | (go_at_call 32; refine (inside_any _ _ _ (by omega) (by omega)).mono ?_; rintro e w' ⟨rfl, rfl⟩))
            go_roundw
            case rel => exact ⟨k + 1, by omega, by go_num, by rw [HS.out], by rw [HS.out]; exact hown, hbel⟩
            case measure => simp [intOf]; omega
          · clear hi
            go_wp2
            go_roundw
            case rel => exact ⟨k + 1, by omega, by go_num, by rw [HS.out], by rw [HS.out]; exact hown, hbel⟩
            case measure => simp [intOf]; omega
        · have hj := wst_lt s k j h2
          have HS := Lib.hid (wst_out_some hi h2)
          clear h2
          simp only [stv]
          have hL : Hid (tokCells (wst s (k + 1)).1 = tokCells (wst s k).1 ++ [.string (s.extract j k), .int .i64 0, .int .i64 ((wst s k).1.length : Nat), .int .i64 (j : Nat), .int .i64 (k : Nat)]) :=
            Lib.hid (by rw [HS.out, tokCells_append]; rfl)
          by_cases hks : k < s.size
          · have hw : wb (bt s k) = false := by unfold inW at hi; simp [hks] at hi; exact hi.1
            have hm : mk s k = false := by unfold inW at hi; simp [hks] at hi; exact hi.2
            clear hi
            go_wp2_with (first
              | (go_at_call 31; refine (isWord_any _ _).mono ?_; rintro e w' ⟨rfl, rfl⟩)
              | (go_at_call 32; refine (inside_any _ _ _ (by omega) (by omega)).mono ?_; rintro e w' ⟨rfl, rfl⟩)
              | (at_builtin; refine wpList_append1 rfl _ _ rfl tokElem hown rfl rfl rfl rfl (by omega) (by unfold maxLen; omega) hsz ?_))
            intro v' w1 hown' _ hbel'
            have hbel1 := hbel' _ hbel
            clear hbel' hown
            go_wp2
            go_roundw
            case rel => exact ⟨k + 1, by omega, by go_num, by rw [HS.out], by rw [hL.out, HS.out, List.length_append]; exact hown', hbel1⟩
            case measure => simp [intOf]; omega
          · clear hi
            go_wp2_with (at_builtin; refine wpList_append1 rfl _ _ rfl tokElem hown rfl rfl rfl rfl (by omega) (by unfold maxLen; omega) hsz ?_)
            intro v' w1 hown' _ hbel'
            have hbel1 := hbel' _ hbel
            clear hbel' hown
            go_wp2
            go_roundw
            case rel => exact ⟨k + 1, by omega, by go_num, by rw [HS.out], by rw [hL.out, HS.out, List.length_append]; exact hown', hbel1⟩
            case measure => simp [intOf]; omega
      · have hks : k < s.size := by unfold inW at hi; simp at hi; exact hi.1
        have hwm : wb (bt s k) = true ∨ (wb (bt s k) = false ∧ mk s k = true) := by
          unfold inW at hi
          simp only [Bool.and_eq_true, Bool.or_eq_true] at hi
          rcases hi.2 with h | h
          · exact .inl h
          · cases hwb : wb (bt s k)
            · exact .inr ⟨rfl, h⟩
            · exact .inl rfl
        rcases h2 : (wst s k).2 with _ | j
        · have HS := Lib.hid (wst_in_none hi h2)
          clear h2 hi
          simp only [stv]
          rcases hwm with hw | ⟨hw, hm⟩
          all_goals
            go_wp2_with (first
              | (go_at_call 31; refine (isWord_any _ _).mono ?_; rintro e w' ⟨rfl, rfl⟩)
              | (go_at_call 32; refine (inside_any _ _ _ (by omega) (by omega)).mono ?_; rintro e w' ⟨rfl, rfl⟩))
            go_roundw
            case rel => exact ⟨k + 1, by omega, by go_num, by rw [HS.out], by rw [HS.out]; exact hown, hbel⟩
            case measure => simp [intOf]; omega
        · have hj := wst_lt s k j h2
          have HS := Lib.hid (wst_in_some hi h2)
          clear h2 hi
          simp only [stv]
          rcases hwm with hw | ⟨hw, hm⟩
          all_goals
            go_wp2_with (first
              | (go_at_call 31; refine (isWord_any _ _).mono ?_; rintro e w' ⟨rfl, rfl⟩)
              | (go_at_call 32; refine (inside_any _ _ _ (by omega) (by omega)).mono ?_; rintro e w' ⟨rfl, rfl⟩))
            go_roundw
            case rel => exact ⟨k + 1, by omega, by go_num, by rw [HS.out], by rw [HS.out]; exact hown, hbel⟩
            case measure => simp [intOf]; omega
    · obtain rfl : k = s.size + 1 := by omega
      go_wp2
      go_ret
      exact ⟨A, c, rfl, hown, hbel⟩
end Go.Proofs.YtmoahflgcojfcaaDoor.WordsWalk
