/-
  The walk of TokensRuns.
-/
import Derived.Test.YtmoahflgcojfcaaLives
import Derived.Test.YtmoahflgcojfcaaRunsPlain
namespace Go.Proofs.Ytmoahflgcojfcaa.TokensRunsWalk
open Go.RowKit Go.PlainAid WordPlain RunsPlain Base WordBytes WordsWalk Lives

theorem get_tok {L : List Tok} {n : Nat} (h : n < L.length) : ∃ t, L[n]? = some t := ⟨_, List.getElem?_eq_getElem h⟩
theorem stp_succ {L : List Tok} {n : Nat} {t : Tok} (h : L[n]? = some t) : stp L (n + 1) = t.stop.toNat := by
  show (match L[n]? with | some t => t.stop.toNat | none => 0) = _
  rw [h]

set_option maxRecDepth 100000 in
set_option maxHeartbeats 4000000 in
theorem walk (a0 : ByteArray) (z0 : a0.size ≤ 1048576) (w : World) :
    Calls Try.prog 6 #[.string a0] w fun e w' => e = .returned (.bool true) ∧ Below w.heap.size w w' := by
  have hl := words_len a0
  have hb := get_bt a0
  go_enter Try.func6, Try.ntmps6
  go_wp2_with (first
    | (go_at_call 11; refine (lives_any _).mono ?_; rintro e w1 ⟨rfl, hb1⟩)
    | (go_at_call 13; refine (words_any _ _ (by omega)).mono ?_; rintro e w2 ⟨A1, c1, rfl, hown1, hb2⟩))
  have hslc := slc_own hown1
  have hbel := bchain hb1 hb2
  clear hown1 hb1 hb2
  go_loopw [3, 12] (fun at_ i wr => ∃ n : Nat, n ≤ (words a0).length ∧ i = .int .i64 n ∧ at_ = .int .i64 (stp (words a0) n : Nat) ∧ Below w2.heap.size w2 wr) (fun _ i _ => (words a0).length - (intOf i).toNat)
  case atStart => exact ⟨0, Nat.zero_le _, rfl, rfl, Below.refl _ _⟩
  case round =>
    obtain ⟨n, hn, rfl, rfl, hbw⟩ := hrel
    by_cases hlt : n < (words a0).length
    · obtain ⟨t, ht⟩ := get_tok hlt
      obtain ⟨j, k, r⟩ := words_runs a0 n t ht
      have hne : tokCells (words a0) ≠ [] := by
        intro h
        have := tokCells_len (words a0)
        rw [h] at this
        simp at this
        omega
      obtain ⟨g1, o1, rfl, hg1, hc1⟩ := (hslc.below hbw (Nat.le_refl _)) hne
      have e := fun q (hq : q < 5) => tokCells_at (words a0) n t q ht hq
      obtain ⟨p, hp⟩ : ∃ p, p = stp (words a0) n := ⟨_, rfl⟩
      have HP1 : Hid (stp (words a0) (n + 1) = k) := Lib.hid (by rw [stp_succ ht, r.eq]; rfl)
      rw [← hp] at r ⊢
      obtain ⟨u, hu⟩ : ∃ u, u = a0.extract j k := ⟨_, rfl⟩
      have q0 := r.lo
      have q1 := r.ap
      have q2 := r.lt
      have q3 := r.hi
      have us : u.size = k - j := by rw [hu, ByteArray.size_extract]; omega
      have f1 : wb (bt u 0) = true := by rw [hu, bt_extract q3 (by omega)]; exact first_wb r
      have f2 : wb (bt u (u.size - 1)) = true := by rw [us, hu, bt_extract q3 (by omega), show j + (k - j - 1) = k - 1 by omega]; exact last_wb r
      have HW : Hid (words u = [⟨u, 0, 0, 0, ((k - j : Nat) : Int)⟩]) := Lib.hid (by rw [hu]; exact words_alone r)
      have HG : Hid (∀ x, p ≤ x → x < j → wb (bt a0 x) = false) := Lib.hid (fun x h1 h2 => wb_in (by omega) (r.gap x h1 h2))
      have te := r.eq
      rw [← hu] at te
      rw [te] at e
      have x0 : wr.cell? ⟨g1, o1 + n * 5, none⟩ = some (.string u) := hc1 (n * 5 + 0) _ (e 0 (by omega))
      have x1 : wr.cell? ⟨g1, o1 + n * 5 + 1, none⟩ = some (.int .i64 0) := by have := hc1 (n * 5 + 1) _ (e 1 (by omega)); rwa [← Nat.add_assoc] at this
      have x2 : wr.cell? ⟨g1, o1 + n * 5 + 2, none⟩ = some (.int .i64 n) := by have := hc1 (n * 5 + 2) _ (e 2 (by omega)); rwa [← Nat.add_assoc] at this
      have x3 : wr.cell? ⟨g1, o1 + n * 5 + 3, none⟩ = some (.int .i64 j) := by have := hc1 (n * 5 + 3) _ (e 3 (by omega)); rwa [← Nat.add_assoc] at this
      have x4 : wr.cell? ⟨g1, o1 + n * 5 + 4, none⟩ = some (.int .i64 k) := by have := hc1 (n * 5 + 4) _ (e 4 (by omega)); rwa [← Nat.add_assoc] at this
      have u1 : 0 < u.size := by omega
      have u2 : u.size ≤ 1048576 := by omega
      have hbu := get_bt u
      have huu : Hid (u = a0.extract j k) := Lib.hid hu
      have d1 : decide (k ≤ j) = false := by simp; omega
      have d4 : decide (j < p) = false := by simp; omega
      have d3 : decide (a0.size < k) = false := by simp; omega
      have d2 : (u.toList == (a0.extract j k).toList) = true := by rw [hu]; simp
      clear e hc1 us r te hu hp ht
      have ways : (0 < n ∧ decide (0 < n) = true ∧ ((j : Int) == (p : Int)) = false) ∨ (¬ 0 < n ∧ decide (0 < n) = false ∧ True) := by
        by_cases h : 0 < n
        · exact .inl ⟨h, by simp [h], by have := q1 h; simp; omega⟩
        · exact .inr ⟨h, by simp [h], trivial⟩
      clear q1
      rcases ways with ⟨v1, v2, v3⟩ | ⟨v1, v2, v3⟩
      all_goals
        go_wp2_with fail
        go_quiet (fail)
        go_wp2_with (go_at_call 15; refine (wordByte_law _ _).mono ?_; rintro e w' ⟨rfl, rfl⟩)
        go_loop [3] (fun at_ => ∃ x : Nat, p ≤ x ∧ x ≤ j ∧ at_ = .int .i64 x) (fun at_ => j - (intOf at_).toNat)
        case atStart => exact ⟨p, Nat.le_refl _, q0, rfl⟩
        case round =>
          obtain ⟨x, hx1, hx2, rfl⟩ := hrel
          by_cases hxj : x < j
          · have HX : Hid (wb (bt a0 x) = false) := Lib.hid (HG.out x hx1 hxj)
            go_wp2_with (go_at_call 15; refine (wordByte_law _ _).mono ?_; rw [HX.out]; rintro e w' ⟨rfl, rfl⟩)
            go_round
            case rel => exact ⟨x + 1, by omega, by omega, by go_num⟩
            case measure => simp [intOf]; omega
          · obtain rfl : x = j := by omega
            go_wp2_with (go_at_call 13; refine (words_any _ _ (by omega)).mono ?_; rw [HW.out]; rintro e w5 ⟨A5, c5, rfl, hown5, hb5⟩)
            obtain ⟨g5, o5, rfl, hg5, hc5⟩ := (slc_own hown5) (by simp [tokCells, tokC])
            have y5 : w5.cell? ⟨g5, o5, none⟩ = some (.string u) := hc5 0 _ rfl
            have y0 : w5.cell? ⟨wr.heap.size, 0, none⟩ = some (.string u) := (hb5.cell (p := ⟨wr.heap.size, 0, none⟩) (by show wr.heap.size < _; simp)).trans (by show (wr.alloc _).cell? _ = _; rw [World.cell?_alloc_mark]; rfl)
            have y4 : w5.cell? ⟨wr.heap.size, 4, none⟩ = some (.int .i64 k) := (hb5.cell (p := ⟨wr.heap.size, 4, none⟩) (by show wr.heap.size < _; simp)).trans (by show (wr.alloc _).cell? _ = _; rw [World.cell?_alloc_mark]; rfl)
            clear hc5 hown5
            go_wp2_with fail
            go_quiet (fail)
            go_wp2
            go_roundw
            case rel => exact ⟨n + 1, by omega, by go_num, by rw [HP1.out], by (repeat (first | exact Below.refl _ _ | assumption | refine balloc ?_ _ | refine bdrew ?_ | refine bdrewN ?_ _ | refine bchain ?_ (by assumption)))⟩
            case measure => simp [intOf]; omega
    · obtain rfl : n = (words a0).length := by omega
      have HT : Hid (∀ x, stp (words a0) (words a0).length ≤ x → x < a0.size → wb (bt a0 x) = false) := Lib.hid (fun x h1 h2 => wb_in h2 (words_tail a0 x h1 h2))
      have hps : stp (words a0) (words a0).length ≤ a0.size + 1 := ((inv a0 (a0.size + 1)).none_ (words_none a0)).1
      obtain ⟨p, hp⟩ : ∃ p, p = stp (words a0) (words a0).length := ⟨_, rfl⟩
      rw [← hp] at HT hps ⊢
      have hfin := hbel.trans (hbw.mono hbel.size)
      clear hp hbel hbw
      go_wp2_with fail
      go_loop [3] (fun at_ => ∃ x : Nat, p ≤ x ∧ x ≤ a0.size + 1 ∧ at_ = .int .i64 x) (fun at_ => a0.size + 1 - (intOf at_).toNat)
      case atStart => exact ⟨p, Nat.le_refl _, hps, rfl⟩
      case round =>
        obtain ⟨x, hx1, hx2, rfl⟩ := hrel
        by_cases hxj : x < a0.size
        · have HX : Hid (wb (bt a0 x) = false) := Lib.hid (HT.out x hx1 hxj)
          go_wp2_with (go_at_call 15; refine (wordByte_law _ _).mono ?_; rw [HX.out]; rintro e w' ⟨rfl, rfl⟩)
          go_round
          case rel => exact ⟨x + 1, by omega, by omega, by go_num⟩
          case measure => simp [intOf]; omega
        · go_wp2_with fail
          go_ret
          exact ⟨rfl, hfin⟩
end Go.Proofs.Ytmoahflgcojfcaa.TokensRunsWalk
