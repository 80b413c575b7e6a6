/-
  The walk of printer's own over nodes of the kinds 11 to 15.
-/
import Derived.Test.YtkcfgcdlnojaeaaGreatDoorNodeOwn
import Derived.Test.YtkcfgcdlnojaeaaGreatDoorNodeOwn2
set_option linter.unusedVariables false
set_option linter.unusedSimpArgs false
namespace Go.Proofs.YtkcfgcdlnojaeaaGreatDoor.NodeOwn3
set_option maxRecDepth 100000
open Go.RowKit Go.PlainAid Base Query NodeTree NodeWalk TextPlain NodePlain NodeWild BindBase Numbers Lists NodeOwn
open NodeOwn2 hiding bel

set_option maxHeartbeats 8000000 in
theorem own_11 (fn T : ByteArray) (n : Int) (lo hi : Bnd) (occ : List Int) (nk : Nat) (A1 A2 : Option Addr) (c1 c2 : Nat) (w : World) (hs : T.size ≤ 1099511627776) (s1 : Slc w w.heap.size A1 (ints occ)) (hno : occ.length ≤ maxLen) (hnk : nk ≤ maxLen) (ha : Asks w) (h0 : 2 < w.heap.size) :
    Calls Tryz.prog 54 #[.agg (nodeV 11 fn T n ⟨lo, hi, A1, occ.length, c1, A2, nk, c2⟩)] w fun e w' => e = .returned (.bool (ownB ⟨11, fn, T, n, lo, hi, occ⟩ nk)) ∧ Below w.heap.size w w' := by
  obtain ⟨r, hr⟩ : ∃ r, r = ownB ⟨11, fn, T, n, lo, hi, occ⟩ nk := ⟨_, rfl⟩
  rw [← hr]
  have HR := Lib.hid hr
  clear hr
  have hml : maxLen = 9223372036854775807 := rfl
  have NO := Lib.hid (show occ.length ≤ 9223372036854775807 from hno)
  have NK := Lib.hid (show nk ≤ 9223372036854775807 from hnk)
  have S1 := Lib.hid s1
  obtain ⟨no, hno1⟩ : ∃ x, x = occ.length := ⟨_, rfl⟩
  rw [← hno1] at NO ⊢
  have NL := Lib.hid hno1
  clear hno hnk s1 hml hno1
  have AS := fun o => Asks.below ha ((Below.refl w.heap.size w).alloc (Nat.le_refl _) o) h0
  have a0 : ∀ o, (w.alloc o).cell? ⟨2, 110, none⟩ = some (.bool false) := fun o => AS o 11 0 _ (by decide) rfl
  have a1 : ∀ o, (w.alloc o).cell? ⟨2, 111, none⟩ = some (.bool false) := fun o => AS o 11 1 _ (by decide) rfl
  have a2 : ∀ o, (w.alloc o).cell? ⟨2, 112, none⟩ = some (.int .i64 0) := fun o => AS o 11 2 _ (by decide) rfl
  have a3 : ∀ o, (w.alloc o).cell? ⟨2, 113, none⟩ = some (.int .i64 0) := fun o => AS o 11 3 _ (by decide) rfl
  have a4 : ∀ o, (w.alloc o).cell? ⟨2, 114, none⟩ = some (.bool false) := fun o => AS o 11 4 _ (by decide) rfl
  have a5 : ∀ o, (w.alloc o).cell? ⟨2, 115, none⟩ = some (.bool false) := fun o => AS o 11 5 _ (by decide) rfl
  have a6 : ∀ o, (w.alloc o).cell? ⟨2, 116, none⟩ = some (.int .i64 1) := fun o => AS o 11 6 _ (by decide) rfl
  have a7 : ∀ o, (w.alloc o).cell? ⟨2, 117, none⟩ = some (.int .i64 (-1)) := fun o => AS o 11 7 _ (by decide) rfl
  have a8 : ∀ o, (w.alloc o).cell? ⟨2, 118, none⟩ = some (.int .i64 1) := fun o => AS o 11 8 _ (by decide) rfl
  have a9 : ∀ o, (w.alloc o).cell? ⟨2, 119, none⟩ = some (.string ⟨#[32, 79, 82, 32]⟩) := fun o => AS o 11 9 _ (by decide) rfl
  unfold nodeV
  simp only
  clear ha AS
  clear hs
  go_enter Tryz.func54, Tryz.ntmps54
  go_upto_region 4 with fail
  clear a0 a1 a2 a3 a4 a5 a6 a7 a8 a9
  by_cases q1 : fn.size = 0
  rotate_left
  · obtain ⟨t1, t2⟩ := tl_ne q1
    have HF := Lib.hid (show r = false by rw [HR.out]; simp [ownB, askN, askOf, q1])
    clear q1
    go_wp2_with fail
    go_ret
    exact ⟨by rw [HF.out]; rfl, bel⟩
  obtain rfl := size_nil q1
  clear q1
  by_cases q2 : T.size = 0
  rotate_left
  · obtain ⟨t1, t2⟩ := tl_ne q2
    have HF := Lib.hid (show r = false by rw [HR.out]; simp [ownB, askN, askOf, q2])
    clear q2
    go_wp2_with fail
    go_ret
    exact ⟨by rw [HF.out]; rfl, bel⟩
  obtain rfl := size_nil q2
  clear q2
  by_cases q3 : 0 ≤ n
  rotate_left
  · have d1 : decide (n < 0) = true := decide_eq_true (by omega)
    have HF := Lib.hid (show r = false by rw [HR.out]; simp [ownB, askN, askOf, q3])
    clear q3
    go_wp2_with fail
    go_ret
    exact ⟨by rw [HF.out]; rfl, bel⟩
  have d1 : decide (n < 0) = false := decide_eq_false (by omega)
  by_cases q4 : n ≤ 0
  rotate_left
  · have d2 : decide ((0 : Int) < n) = true := decide_eq_true (by omega)
    have HF := Lib.hid (show r = false by rw [HR.out]; simp [ownB, askN, askOf, q4])
    clear q4
    go_wp2_with fail
    go_ret
    exact ⟨by rw [HF.out]; rfl, bel⟩
  have d2 : decide ((0 : Int) < n) = false := decide_eq_false (by omega)
  have Q3 := Lib.hid q3
  have Q4 := Lib.hid q4
  clear q3 q4
  go_upto_region 6 with fail
  clear d1 d2
  rcases bnd_cases lo with rfl | ⟨i, t, rfl⟩ | ⟨t, rfl⟩ | ⟨t, ht, rfl⟩
  rotate_left
  · skip
    have HF := Lib.hid (show r = false by rw [HR.out]; simp [ownB, askN, askOf, noEnd])
    go_wp2_with fail
    go_ret
    exact ⟨by rw [HF.out]; rfl, bel⟩
  · skip
    have HF := Lib.hid (show r = false by rw [HR.out]; simp [ownB, askN, askOf, noEnd])
    go_wp2_with fail
    go_ret
    exact ⟨by rw [HF.out]; rfl, bel⟩
  · obtain ⟨t1, t2⟩ := tl_ne ht
    have HF := Lib.hid (show r = false by rw [HR.out]; simp [ownB, askN, askOf, noEnd, ht])
    clear ht
    go_wp2_with fail
    go_ret
    exact ⟨by rw [HF.out]; rfl, bel⟩
  rcases bnd_cases hi with rfl | ⟨i, t, rfl⟩ | ⟨t, rfl⟩ | ⟨t, ht, rfl⟩
  rotate_left
  · skip
    have HF := Lib.hid (show r = false by rw [HR.out]; simp [ownB, askN, askOf, noEnd])
    go_wp2_with fail
    go_ret
    exact ⟨by rw [HF.out]; rfl, bel⟩
  · skip
    have HF := Lib.hid (show r = false by rw [HR.out]; simp [ownB, askN, askOf, noEnd])
    go_wp2_with fail
    go_ret
    exact ⟨by rw [HF.out]; rfl, bel⟩
  · obtain ⟨t1, t2⟩ := tl_ne ht
    have HF := Lib.hid (show r = false by rw [HR.out]; simp [ownB, askN, askOf, noEnd, ht])
    clear ht
    go_wp2_with fail
    go_ret
    exact ⟨by rw [HF.out]; rfl, bel⟩
  go_upto_region 8 with fail
  by_cases q7 : 1 ≤ nk
  rotate_left
  · have d3 : decide ((nk : Int) < 1) = true := decide_eq_true (by omega)
    have q8 : nk = 0 := by omega
    have HF := Lib.hid (show r = false by rw [HR.out]; simp [ownB, askN, askOf, q8])
    clear q7 q8
    go_wp2_with fail
    go_ret
    exact ⟨by rw [HF.out]; rfl, bel⟩
  have d3 : decide ((nk : Int) < 1) = false := decide_eq_false (by omega)
  have Q7b := Lib.hid (show (1 : Int) ≤ (nk : Int) by omega)
  have Q7 := Lib.hid q7
  clear q7
  go_upto_region 10 with fail
  clear d3
  by_cases q10 : no = 0
  rotate_left
  · have d5 : decide ((0 : Int) < (no : Int)) = true := decide_eq_true (by omega)
    have d5n : decide (0 < no) = true := decide_eq_true (by omega)
    have q11 : occ ≠ [] := by intro h; have := NL.out; rw [h] at this; simp at this; omega
    have HF := Lib.hid (show r = false by rw [HR.out]; simp [ownB, askN, askOf, q11])
    clear q10 q11
    go_wp2_with fail
    go_ret
    exact ⟨by rw [HF.out]; rfl, bel⟩
  have d5 : decide ((0 : Int) < (no : Int)) = false := decide_eq_false (by omega)
  have d5n : decide (0 < no) = false := decide_eq_false (by omega)
  have Q10 := Lib.hid (show occ = [] by have := NL.out; exact List.eq_nil_of_length_eq_zero (by omega))
  clear q10
  have HL := Lib.hid (show r = (occ.all occB && (true)) by rw [HR.out]; simp [ownB, askN, askOf, Q3.out, Q4.out, noEnd, Q7b.out, Q10.out] <;> (intros; rfl))
  go_upto_region 12 with fail
  clear d5 d5n
  go_wp2_with fail
  go_loop [124] (fun i => ∃ j : Nat, j ≤ no ∧ i = .int .i64 j ∧ (occ.take j).all occB = true) (fun i => no - (intOf i).toNat)
  case atStart => exact ⟨0, Nat.zero_le _, rfl, rfl⟩
  case round =>
    obtain ⟨j, hj, rfl, hall⟩ := hrel
    have HA := Lib.hid hall
    clear hall
    rcases Nat.lt_or_ge j no with hlt | hge
    · obtain ⟨z, hz⟩ : ∃ z, occ[j]? = some z := ⟨_, List.getElem?_eq_getElem (by have := NL.out; omega)⟩
      obtain ⟨g3, o3, rfl, hg3, hc3⟩ := S1.out (by intro h; rw [show occ = [] by simpa [ints] using h] at hz; simp at hz)
      have y : ∀ u u', ((w.alloc u).alloc u').cell? ⟨g3, o3 + j, none⟩ = some (.int .i64 z) := fun u u' => ((show Below w.heap.size w ((w.alloc u).alloc u') by exact Base.bel).cell (p := ⟨g3, o3 + j, none⟩) hg3).trans (hc3 j (.int .i64 z) (by simp [ints, hz]))
      have HT := Lib.hid (all_take (f := occB) hz HA.out)
      have HB := Lib.hid (fun h => all_bad (f := occB) hz h)
      have hlt2 : (j : Int) < 9223372036854775807 := by have := NO.out; omega
      have i1 : (j : Int) < (no : Int) := by omega
      clear hz hc3
      rcases (by omega : z = 0 ∨ z = 1 ∨ z = 2 ∨ (z ≠ 0 ∧ z ≠ 1 ∧ z ≠ 2)) with rfl | rfl | rfl | ⟨z0, z1, z2⟩
      rotate_left 3
      · have e0 : (z != 0) = true := bne_iff_ne.2 z0
        have e1 : (z != 1) = true := bne_iff_ne.2 z1
        have e2 : (z != 2) = true := bne_iff_ne.2 z2
        have HQ9 := Lib.hid (show r = false by rw [HL.out, HB.out (show occB z = false by simp [occB, z0, z1, z2])]; rfl)
        clear z0 z1 z2
        go_wp2_with fail
        go_ret
        exact ⟨by rw [HQ9.out]; rfl, bel⟩
      all_goals
        go_wp2_with fail
        (try go_big_round); refine ⟨⟨j + 1, by omega, by go_num, ?_⟩, by simp [intOf]; omega⟩; rw [HT.out]; rfl
    · have hj' : j = no := by omega
      have HO := Lib.hid (show occ.all occB = true by have := HA.out; rw [hj', NL.out, List.take_length] at this; exact this)
      have i1 : ¬ ((j : Int) < (no : Int)) := by omega
      clear hj'
      go_wp2_with fail
      go_ret
      exact ⟨by rw [HL.out, HO.out]; rfl, bel⟩

set_option maxHeartbeats 8000000 in
theorem own_12 (fn T : ByteArray) (n : Int) (lo hi : Bnd) (occ : List Int) (nk : Nat) (A1 A2 : Option Addr) (c1 c2 : Nat) (w : World) (hs : T.size ≤ 1099511627776) (s1 : Slc w w.heap.size A1 (ints occ)) (hno : occ.length ≤ maxLen) (hnk : nk ≤ maxLen) (ha : Asks w) (h0 : 2 < w.heap.size) :
    Calls Tryz.prog 54 #[.agg (nodeV 12 fn T n ⟨lo, hi, A1, occ.length, c1, A2, nk, c2⟩)] w fun e w' => e = .returned (.bool (ownB ⟨12, fn, T, n, lo, hi, occ⟩ nk)) ∧ Below w.heap.size w w' := by
  obtain ⟨r, hr⟩ : ∃ r, r = ownB ⟨12, fn, T, n, lo, hi, occ⟩ nk := ⟨_, rfl⟩
  rw [← hr]
  have HR := Lib.hid hr
  clear hr
  have hml : maxLen = 9223372036854775807 := rfl
  have NO := Lib.hid (show occ.length ≤ 9223372036854775807 from hno)
  have NK := Lib.hid (show nk ≤ 9223372036854775807 from hnk)
  have S1 := Lib.hid s1
  obtain ⟨no, hno1⟩ : ∃ x, x = occ.length := ⟨_, rfl⟩
  rw [← hno1] at NO ⊢
  have NL := Lib.hid hno1
  clear hno hnk s1 hml hno1
  have AS := fun o => Asks.below ha ((Below.refl w.heap.size w).alloc (Nat.le_refl _) o) h0
  have a0 : ∀ o, (w.alloc o).cell? ⟨2, 120, none⟩ = some (.bool false) := fun o => AS o 12 0 _ (by decide) rfl
  have a1 : ∀ o, (w.alloc o).cell? ⟨2, 121, none⟩ = some (.bool false) := fun o => AS o 12 1 _ (by decide) rfl
  have a2 : ∀ o, (w.alloc o).cell? ⟨2, 122, none⟩ = some (.int .i64 0) := fun o => AS o 12 2 _ (by decide) rfl
  have a3 : ∀ o, (w.alloc o).cell? ⟨2, 123, none⟩ = some (.int .i64 0) := fun o => AS o 12 3 _ (by decide) rfl
  have a4 : ∀ o, (w.alloc o).cell? ⟨2, 124, none⟩ = some (.bool false) := fun o => AS o 12 4 _ (by decide) rfl
  have a5 : ∀ o, (w.alloc o).cell? ⟨2, 125, none⟩ = some (.bool false) := fun o => AS o 12 5 _ (by decide) rfl
  have a6 : ∀ o, (w.alloc o).cell? ⟨2, 126, none⟩ = some (.int .i64 1) := fun o => AS o 12 6 _ (by decide) rfl
  have a7 : ∀ o, (w.alloc o).cell? ⟨2, 127, none⟩ = some (.int .i64 (-1)) := fun o => AS o 12 7 _ (by decide) rfl
  have a8 : ∀ o, (w.alloc o).cell? ⟨2, 128, none⟩ = some (.int .i64 3) := fun o => AS o 12 8 _ (by decide) rfl
  have a9 : ∀ o, (w.alloc o).cell? ⟨2, 129, none⟩ = some (.string ⟨#[32, 124, 32]⟩) := fun o => AS o 12 9 _ (by decide) rfl
  unfold nodeV
  simp only
  clear ha AS
  clear hs
  go_enter Tryz.func54, Tryz.ntmps54
  go_upto_region 4 with fail
  clear a0 a1 a2 a3 a4 a5 a6 a7 a8 a9
  by_cases q1 : fn.size = 0
  rotate_left
  · obtain ⟨t1, t2⟩ := tl_ne q1
    have HF := Lib.hid (show r = false by rw [HR.out]; simp [ownB, askN, askOf, q1])
    clear q1
    go_wp2_with fail
    go_ret
    exact ⟨by rw [HF.out]; rfl, bel⟩
  obtain rfl := size_nil q1
  clear q1
  by_cases q2 : T.size = 0
  rotate_left
  · obtain ⟨t1, t2⟩ := tl_ne q2
    have HF := Lib.hid (show r = false by rw [HR.out]; simp [ownB, askN, askOf, q2])
    clear q2
    go_wp2_with fail
    go_ret
    exact ⟨by rw [HF.out]; rfl, bel⟩
  obtain rfl := size_nil q2
  clear q2
  by_cases q3 : 0 ≤ n
  rotate_left
  · have d1 : decide (n < 0) = true := decide_eq_true (by omega)
    have HF := Lib.hid (show r = false by rw [HR.out]; simp [ownB, askN, askOf, q3])
    clear q3
    go_wp2_with fail
    go_ret
    exact ⟨by rw [HF.out]; rfl, bel⟩
  have d1 : decide (n < 0) = false := decide_eq_false (by omega)
  by_cases q4 : n ≤ 0
  rotate_left
  · have d2 : decide ((0 : Int) < n) = true := decide_eq_true (by omega)
    have HF := Lib.hid (show r = false by rw [HR.out]; simp [ownB, askN, askOf, q4])
    clear q4
    go_wp2_with fail
    go_ret
    exact ⟨by rw [HF.out]; rfl, bel⟩
  have d2 : decide ((0 : Int) < n) = false := decide_eq_false (by omega)
  have Q3 := Lib.hid q3
  have Q4 := Lib.hid q4
  clear q3 q4
  go_upto_region 6 with fail
  clear d1 d2
  rcases bnd_cases lo with rfl | ⟨i, t, rfl⟩ | ⟨t, rfl⟩ | ⟨t, ht, rfl⟩
  rotate_left
  · skip
    have HF := Lib.hid (show r = false by rw [HR.out]; simp [ownB, askN, askOf, noEnd])
    go_wp2_with fail
    go_ret
    exact ⟨by rw [HF.out]; rfl, bel⟩
  · skip
    have HF := Lib.hid (show r = false by rw [HR.out]; simp [ownB, askN, askOf, noEnd])
    go_wp2_with fail
    go_ret
    exact ⟨by rw [HF.out]; rfl, bel⟩
  · obtain ⟨t1, t2⟩ := tl_ne ht
    have HF := Lib.hid (show r = false by rw [HR.out]; simp [ownB, askN, askOf, noEnd, ht])
    clear ht
    go_wp2_with fail
    go_ret
    exact ⟨by rw [HF.out]; rfl, bel⟩
  rcases bnd_cases hi with rfl | ⟨i, t, rfl⟩ | ⟨t, rfl⟩ | ⟨t, ht, rfl⟩
  rotate_left
  · skip
    have HF := Lib.hid (show r = false by rw [HR.out]; simp [ownB, askN, askOf, noEnd])
    go_wp2_with fail
    go_ret
    exact ⟨by rw [HF.out]; rfl, bel⟩
  · skip
    have HF := Lib.hid (show r = false by rw [HR.out]; simp [ownB, askN, askOf, noEnd])
    go_wp2_with fail
    go_ret
    exact ⟨by rw [HF.out]; rfl, bel⟩
  · obtain ⟨t1, t2⟩ := tl_ne ht
    have HF := Lib.hid (show r = false by rw [HR.out]; simp [ownB, askN, askOf, noEnd, ht])
    clear ht
    go_wp2_with fail
    go_ret
    exact ⟨by rw [HF.out]; rfl, bel⟩
  go_upto_region 8 with fail
  by_cases q7 : 1 ≤ nk
  rotate_left
  · have d3 : decide ((nk : Int) < 1) = true := decide_eq_true (by omega)
    have q8 : nk = 0 := by omega
    have HF := Lib.hid (show r = false by rw [HR.out]; simp [ownB, askN, askOf, q8])
    clear q7 q8
    go_wp2_with fail
    go_ret
    exact ⟨by rw [HF.out]; rfl, bel⟩
  have d3 : decide ((nk : Int) < 1) = false := decide_eq_false (by omega)
  have Q7b := Lib.hid (show (1 : Int) ≤ (nk : Int) by omega)
  have Q7 := Lib.hid q7
  clear q7
  go_upto_region 10 with fail
  clear d3
  by_cases q10 : no = 0
  rotate_left
  · have d5 : decide ((0 : Int) < (no : Int)) = true := decide_eq_true (by omega)
    have d5n : decide (0 < no) = true := decide_eq_true (by omega)
    have q11 : occ ≠ [] := by intro h; have := NL.out; rw [h] at this; simp at this; omega
    have HF := Lib.hid (show r = false by rw [HR.out]; simp [ownB, askN, askOf, q11])
    clear q10 q11
    go_wp2_with fail
    go_ret
    exact ⟨by rw [HF.out]; rfl, bel⟩
  have d5 : decide ((0 : Int) < (no : Int)) = false := decide_eq_false (by omega)
  have d5n : decide (0 < no) = false := decide_eq_false (by omega)
  have Q10 := Lib.hid (show occ = [] by have := NL.out; exact List.eq_nil_of_length_eq_zero (by omega))
  clear q10
  have HL := Lib.hid (show r = (occ.all occB && (true)) by rw [HR.out]; simp [ownB, askN, askOf, Q3.out, Q4.out, noEnd, Q7b.out, Q10.out] <;> (intros; rfl))
  go_upto_region 12 with fail
  clear d5 d5n
  go_wp2_with fail
  go_loop [124] (fun i => ∃ j : Nat, j ≤ no ∧ i = .int .i64 j ∧ (occ.take j).all occB = true) (fun i => no - (intOf i).toNat)
  case atStart => exact ⟨0, Nat.zero_le _, rfl, rfl⟩
  case round =>
    obtain ⟨j, hj, rfl, hall⟩ := hrel
    have HA := Lib.hid hall
    clear hall
    rcases Nat.lt_or_ge j no with hlt | hge
    · obtain ⟨z, hz⟩ : ∃ z, occ[j]? = some z := ⟨_, List.getElem?_eq_getElem (by have := NL.out; omega)⟩
      obtain ⟨g3, o3, rfl, hg3, hc3⟩ := S1.out (by intro h; rw [show occ = [] by simpa [ints] using h] at hz; simp at hz)
      have y : ∀ u u', ((w.alloc u).alloc u').cell? ⟨g3, o3 + j, none⟩ = some (.int .i64 z) := fun u u' => ((show Below w.heap.size w ((w.alloc u).alloc u') by exact Base.bel).cell (p := ⟨g3, o3 + j, none⟩) hg3).trans (hc3 j (.int .i64 z) (by simp [ints, hz]))
      have HT := Lib.hid (all_take (f := occB) hz HA.out)
      have HB := Lib.hid (fun h => all_bad (f := occB) hz h)
      have hlt2 : (j : Int) < 9223372036854775807 := by have := NO.out; omega
      have i1 : (j : Int) < (no : Int) := by omega
      clear hz hc3
      rcases (by omega : z = 0 ∨ z = 1 ∨ z = 2 ∨ (z ≠ 0 ∧ z ≠ 1 ∧ z ≠ 2)) with rfl | rfl | rfl | ⟨z0, z1, z2⟩
      rotate_left 3
      · have e0 : (z != 0) = true := bne_iff_ne.2 z0
        have e1 : (z != 1) = true := bne_iff_ne.2 z1
        have e2 : (z != 2) = true := bne_iff_ne.2 z2
        have HQ9 := Lib.hid (show r = false by rw [HL.out, HB.out (show occB z = false by simp [occB, z0, z1, z2])]; rfl)
        clear z0 z1 z2
        go_wp2_with fail
        go_ret
        exact ⟨by rw [HQ9.out]; rfl, bel⟩
      all_goals
        go_wp2_with fail
        (try go_big_round); refine ⟨⟨j + 1, by omega, by go_num, ?_⟩, by simp [intOf]; omega⟩; rw [HT.out]; rfl
    · have hj' : j = no := by omega
      have HO := Lib.hid (show occ.all occB = true by have := HA.out; rw [hj', NL.out, List.take_length] at this; exact this)
      have i1 : ¬ ((j : Int) < (no : Int)) := by omega
      clear hj'
      go_wp2_with fail
      go_ret
      exact ⟨by rw [HL.out, HO.out]; rfl, bel⟩

set_option maxHeartbeats 8000000 in
theorem own_13 (fn T : ByteArray) (n : Int) (lo hi : Bnd) (occ : List Int) (nk : Nat) (A1 A2 : Option Addr) (c1 c2 : Nat) (w : World) (hs : T.size ≤ 1099511627776) (s1 : Slc w w.heap.size A1 (ints occ)) (hno : occ.length ≤ maxLen) (hnk : nk ≤ maxLen) (ha : Asks w) (h0 : 2 < w.heap.size) :
    Calls Tryz.prog 54 #[.agg (nodeV 13 fn T n ⟨lo, hi, A1, occ.length, c1, A2, nk, c2⟩)] w fun e w' => e = .returned (.bool (ownB ⟨13, fn, T, n, lo, hi, occ⟩ nk)) ∧ Below w.heap.size w w' := by
  obtain ⟨r, hr⟩ : ∃ r, r = ownB ⟨13, fn, T, n, lo, hi, occ⟩ nk := ⟨_, rfl⟩
  rw [← hr]
  have HR := Lib.hid hr
  clear hr
  have hml : maxLen = 9223372036854775807 := rfl
  have NO := Lib.hid (show occ.length ≤ 9223372036854775807 from hno)
  have NK := Lib.hid (show nk ≤ 9223372036854775807 from hnk)
  have S1 := Lib.hid s1
  obtain ⟨no, hno1⟩ : ∃ x, x = occ.length := ⟨_, rfl⟩
  rw [← hno1] at NO ⊢
  have NL := Lib.hid hno1
  clear hno hnk s1 hml hno1
  have AS := fun o => Asks.below ha ((Below.refl w.heap.size w).alloc (Nat.le_refl _) o) h0
  have a0 : ∀ o, (w.alloc o).cell? ⟨2, 130, none⟩ = some (.bool false) := fun o => AS o 13 0 _ (by decide) rfl
  have a1 : ∀ o, (w.alloc o).cell? ⟨2, 131, none⟩ = some (.bool false) := fun o => AS o 13 1 _ (by decide) rfl
  have a2 : ∀ o, (w.alloc o).cell? ⟨2, 132, none⟩ = some (.int .i64 0) := fun o => AS o 13 2 _ (by decide) rfl
  have a3 : ∀ o, (w.alloc o).cell? ⟨2, 133, none⟩ = some (.int .i64 0) := fun o => AS o 13 3 _ (by decide) rfl
  have a4 : ∀ o, (w.alloc o).cell? ⟨2, 134, none⟩ = some (.bool false) := fun o => AS o 13 4 _ (by decide) rfl
  have a5 : ∀ o, (w.alloc o).cell? ⟨2, 135, none⟩ = some (.bool false) := fun o => AS o 13 5 _ (by decide) rfl
  have a6 : ∀ o, (w.alloc o).cell? ⟨2, 136, none⟩ = some (.int .i64 1) := fun o => AS o 13 6 _ (by decide) rfl
  have a7 : ∀ o, (w.alloc o).cell? ⟨2, 137, none⟩ = some (.int .i64 (1)) := fun o => AS o 13 7 _ (by decide) rfl
  have a8 : ∀ o, (w.alloc o).cell? ⟨2, 138, none⟩ = some (.int .i64 4) := fun o => AS o 13 8 _ (by decide) rfl
  have a9 : ∀ o, (w.alloc o).cell? ⟨2, 139, none⟩ = some (.string ⟨#[]⟩) := fun o => AS o 13 9 _ (by decide) rfl
  unfold nodeV
  simp only
  clear ha AS
  clear hs
  go_enter Tryz.func54, Tryz.ntmps54
  go_upto_region 4 with fail
  clear a0 a1 a2 a3 a4 a5 a6 a7 a8 a9
  by_cases q1 : fn.size = 0
  rotate_left
  · obtain ⟨t1, t2⟩ := tl_ne q1
    have HF := Lib.hid (show r = false by rw [HR.out]; simp [ownB, askN, askOf, q1])
    clear q1
    go_wp2_with fail
    go_ret
    exact ⟨by rw [HF.out]; rfl, bel⟩
  obtain rfl := size_nil q1
  clear q1
  by_cases q2 : T.size = 0
  rotate_left
  · obtain ⟨t1, t2⟩ := tl_ne q2
    have HF := Lib.hid (show r = false by rw [HR.out]; simp [ownB, askN, askOf, q2])
    clear q2
    go_wp2_with fail
    go_ret
    exact ⟨by rw [HF.out]; rfl, bel⟩
  obtain rfl := size_nil q2
  clear q2
  by_cases q3 : 0 ≤ n
  rotate_left
  · have d1 : decide (n < 0) = true := decide_eq_true (by omega)
    have HF := Lib.hid (show r = false by rw [HR.out]; simp [ownB, askN, askOf, q3])
    clear q3
    go_wp2_with fail
    go_ret
    exact ⟨by rw [HF.out]; rfl, bel⟩
  have d1 : decide (n < 0) = false := decide_eq_false (by omega)
  by_cases q4 : n ≤ 0
  rotate_left
  · have d2 : decide ((0 : Int) < n) = true := decide_eq_true (by omega)
    have HF := Lib.hid (show r = false by rw [HR.out]; simp [ownB, askN, askOf, q4])
    clear q4
    go_wp2_with fail
    go_ret
    exact ⟨by rw [HF.out]; rfl, bel⟩
  have d2 : decide ((0 : Int) < n) = false := decide_eq_false (by omega)
  have Q3 := Lib.hid q3
  have Q4 := Lib.hid q4
  clear q3 q4
  go_upto_region 6 with fail
  clear d1 d2
  rcases bnd_cases lo with rfl | ⟨i, t, rfl⟩ | ⟨t, rfl⟩ | ⟨t, ht, rfl⟩
  rotate_left
  · skip
    have HF := Lib.hid (show r = false by rw [HR.out]; simp [ownB, askN, askOf, noEnd])
    go_wp2_with fail
    go_ret
    exact ⟨by rw [HF.out]; rfl, bel⟩
  · skip
    have HF := Lib.hid (show r = false by rw [HR.out]; simp [ownB, askN, askOf, noEnd])
    go_wp2_with fail
    go_ret
    exact ⟨by rw [HF.out]; rfl, bel⟩
  · obtain ⟨t1, t2⟩ := tl_ne ht
    have HF := Lib.hid (show r = false by rw [HR.out]; simp [ownB, askN, askOf, noEnd, ht])
    clear ht
    go_wp2_with fail
    go_ret
    exact ⟨by rw [HF.out]; rfl, bel⟩
  rcases bnd_cases hi with rfl | ⟨i, t, rfl⟩ | ⟨t, rfl⟩ | ⟨t, ht, rfl⟩
  rotate_left
  · skip
    have HF := Lib.hid (show r = false by rw [HR.out]; simp [ownB, askN, askOf, noEnd])
    go_wp2_with fail
    go_ret
    exact ⟨by rw [HF.out]; rfl, bel⟩
  · skip
    have HF := Lib.hid (show r = false by rw [HR.out]; simp [ownB, askN, askOf, noEnd])
    go_wp2_with fail
    go_ret
    exact ⟨by rw [HF.out]; rfl, bel⟩
  · obtain ⟨t1, t2⟩ := tl_ne ht
    have HF := Lib.hid (show r = false by rw [HR.out]; simp [ownB, askN, askOf, noEnd, ht])
    clear ht
    go_wp2_with fail
    go_ret
    exact ⟨by rw [HF.out]; rfl, bel⟩
  go_upto_region 8 with fail
  by_cases q7 : 1 ≤ nk
  rotate_left
  · have d3 : decide ((nk : Int) < 1) = true := decide_eq_true (by omega)
    have q8 : nk = 0 := by omega
    have HF := Lib.hid (show r = false by rw [HR.out]; simp [ownB, askN, askOf, q8])
    clear q7 q8
    go_wp2_with fail
    go_ret
    exact ⟨by rw [HF.out]; rfl, bel⟩
  have d3 : decide ((nk : Int) < 1) = false := decide_eq_false (by omega)
  by_cases q8 : nk ≤ 1
  rotate_left
  · have d4 : decide ((1 : Int) < (nk : Int)) = true := decide_eq_true (by omega)
    have q9 : ¬ ((nk : Int) ≤ 1) := by omega
    have HF := Lib.hid (show r = false by rw [HR.out]; simp [ownB, askN, askOf, q9])
    clear q7 q8 q9
    go_wp2_with fail
    go_ret
    exact ⟨by rw [HF.out]; rfl, bel⟩
  have d4 : decide ((1 : Int) < (nk : Int)) = false := decide_eq_false (by omega)
  have Q8 := Lib.hid (show nk = 1 by omega)
  clear q8
  have Q7b := Lib.hid (show (1 : Int) ≤ (nk : Int) by omega)
  have Q7 := Lib.hid q7
  clear q7
  go_upto_region 10 with fail
  clear d3 d4
  by_cases q10 : no = 0
  rotate_left
  · have d5 : decide ((0 : Int) < (no : Int)) = true := decide_eq_true (by omega)
    have d5n : decide (0 < no) = true := decide_eq_true (by omega)
    have q11 : occ ≠ [] := by intro h; have := NL.out; rw [h] at this; simp at this; omega
    have HF := Lib.hid (show r = false by rw [HR.out]; simp [ownB, askN, askOf, q11])
    clear q10 q11
    go_wp2_with fail
    go_ret
    exact ⟨by rw [HF.out]; rfl, bel⟩
  have d5 : decide ((0 : Int) < (no : Int)) = false := decide_eq_false (by omega)
  have d5n : decide (0 < no) = false := decide_eq_false (by omega)
  have Q10 := Lib.hid (show occ = [] by have := NL.out; exact List.eq_nil_of_length_eq_zero (by omega))
  clear q10
  have HL := Lib.hid (show r = (occ.all occB && (true)) by rw [HR.out]; simp [ownB, askN, askOf, Q3.out, Q4.out, noEnd, Q8.out, Q10.out] <;> (intros; rfl))
  go_upto_region 12 with fail
  clear d5 d5n
  go_wp2_with fail
  go_loop [124] (fun i => ∃ j : Nat, j ≤ no ∧ i = .int .i64 j ∧ (occ.take j).all occB = true) (fun i => no - (intOf i).toNat)
  case atStart => exact ⟨0, Nat.zero_le _, rfl, rfl⟩
  case round =>
    obtain ⟨j, hj, rfl, hall⟩ := hrel
    have HA := Lib.hid hall
    clear hall
    rcases Nat.lt_or_ge j no with hlt | hge
    · obtain ⟨z, hz⟩ : ∃ z, occ[j]? = some z := ⟨_, List.getElem?_eq_getElem (by have := NL.out; omega)⟩
      obtain ⟨g3, o3, rfl, hg3, hc3⟩ := S1.out (by intro h; rw [show occ = [] by simpa [ints] using h] at hz; simp at hz)
      have y : ∀ u u', ((w.alloc u).alloc u').cell? ⟨g3, o3 + j, none⟩ = some (.int .i64 z) := fun u u' => ((show Below w.heap.size w ((w.alloc u).alloc u') by exact Base.bel).cell (p := ⟨g3, o3 + j, none⟩) hg3).trans (hc3 j (.int .i64 z) (by simp [ints, hz]))
      have HT := Lib.hid (all_take (f := occB) hz HA.out)
      have HB := Lib.hid (fun h => all_bad (f := occB) hz h)
      have hlt2 : (j : Int) < 9223372036854775807 := by have := NO.out; omega
      have i1 : (j : Int) < (no : Int) := by omega
      clear hz hc3
      rcases (by omega : z = 0 ∨ z = 1 ∨ z = 2 ∨ (z ≠ 0 ∧ z ≠ 1 ∧ z ≠ 2)) with rfl | rfl | rfl | ⟨z0, z1, z2⟩
      rotate_left 3
      · have e0 : (z != 0) = true := bne_iff_ne.2 z0
        have e1 : (z != 1) = true := bne_iff_ne.2 z1
        have e2 : (z != 2) = true := bne_iff_ne.2 z2
        have HQ9 := Lib.hid (show r = false by rw [HL.out, HB.out (show occB z = false by simp [occB, z0, z1, z2])]; rfl)
        clear z0 z1 z2
        go_wp2_with fail
        go_ret
        exact ⟨by rw [HQ9.out]; rfl, bel⟩
      all_goals
        go_wp2_with fail
        (try go_big_round); refine ⟨⟨j + 1, by omega, by go_num, ?_⟩, by simp [intOf]; omega⟩; rw [HT.out]; rfl
    · have hj' : j = no := by omega
      have HO := Lib.hid (show occ.all occB = true by have := HA.out; rw [hj', NL.out, List.take_length] at this; exact this)
      have i1 : ¬ ((j : Int) < (no : Int)) := by omega
      clear hj'
      go_wp2_with fail
      go_ret
      exact ⟨by rw [HL.out, HO.out]; rfl, bel⟩

set_option maxHeartbeats 8000000 in
theorem own_14 (fn T : ByteArray) (n : Int) (lo hi : Bnd) (occ : List Int) (nk : Nat) (A1 A2 : Option Addr) (c1 c2 : Nat) (w : World) (hs : T.size ≤ 1099511627776) (s1 : Slc w w.heap.size A1 (ints occ)) (hno : occ.length ≤ maxLen) (hnk : nk ≤ maxLen) (ha : Asks w) (h0 : 2 < w.heap.size) :
    Calls Tryz.prog 54 #[.agg (nodeV 14 fn T n ⟨lo, hi, A1, occ.length, c1, A2, nk, c2⟩)] w fun e w' => e = .returned (.bool (ownB ⟨14, fn, T, n, lo, hi, occ⟩ nk)) ∧ Below w.heap.size w w' := by
  obtain ⟨r, hr⟩ : ∃ r, r = ownB ⟨14, fn, T, n, lo, hi, occ⟩ nk := ⟨_, rfl⟩
  rw [← hr]
  have HR := Lib.hid hr
  clear hr
  have hml : maxLen = 9223372036854775807 := rfl
  have NO := Lib.hid (show occ.length ≤ 9223372036854775807 from hno)
  have NK := Lib.hid (show nk ≤ 9223372036854775807 from hnk)
  have S1 := Lib.hid s1
  obtain ⟨no, hno1⟩ : ∃ x, x = occ.length := ⟨_, rfl⟩
  rw [← hno1] at NO ⊢
  have NL := Lib.hid hno1
  clear hno hnk s1 hml hno1
  have AS := fun o => Asks.below ha ((Below.refl w.heap.size w).alloc (Nat.le_refl _) o) h0
  have a0 : ∀ o, (w.alloc o).cell? ⟨2, 140, none⟩ = some (.bool false) := fun o => AS o 14 0 _ (by decide) rfl
  have a1 : ∀ o, (w.alloc o).cell? ⟨2, 141, none⟩ = some (.bool false) := fun o => AS o 14 1 _ (by decide) rfl
  have a2 : ∀ o, (w.alloc o).cell? ⟨2, 142, none⟩ = some (.int .i64 0) := fun o => AS o 14 2 _ (by decide) rfl
  have a3 : ∀ o, (w.alloc o).cell? ⟨2, 143, none⟩ = some (.int .i64 999999999) := fun o => AS o 14 3 _ (by decide) rfl
  have a4 : ∀ o, (w.alloc o).cell? ⟨2, 144, none⟩ = some (.bool false) := fun o => AS o 14 4 _ (by decide) rfl
  have a5 : ∀ o, (w.alloc o).cell? ⟨2, 145, none⟩ = some (.bool false) := fun o => AS o 14 5 _ (by decide) rfl
  have a6 : ∀ o, (w.alloc o).cell? ⟨2, 146, none⟩ = some (.int .i64 1) := fun o => AS o 14 6 _ (by decide) rfl
  have a7 : ∀ o, (w.alloc o).cell? ⟨2, 147, none⟩ = some (.int .i64 (1)) := fun o => AS o 14 7 _ (by decide) rfl
  have a8 : ∀ o, (w.alloc o).cell? ⟨2, 148, none⟩ = some (.int .i64 5) := fun o => AS o 14 8 _ (by decide) rfl
  have a9 : ∀ o, (w.alloc o).cell? ⟨2, 149, none⟩ = some (.string ⟨#[94]⟩) := fun o => AS o 14 9 _ (by decide) rfl
  unfold nodeV
  simp only
  clear ha AS
  clear hs
  go_enter Tryz.func54, Tryz.ntmps54
  go_upto_region 4 with fail
  clear a0 a1 a2 a3 a4 a5 a6 a7 a8 a9
  by_cases q1 : fn.size = 0
  rotate_left
  · obtain ⟨t1, t2⟩ := tl_ne q1
    have HF := Lib.hid (show r = false by rw [HR.out]; simp [ownB, askN, askOf, q1])
    clear q1
    go_wp2_with fail
    go_ret
    exact ⟨by rw [HF.out]; rfl, bel⟩
  obtain rfl := size_nil q1
  clear q1
  by_cases q2 : T.size = 0
  rotate_left
  · obtain ⟨t1, t2⟩ := tl_ne q2
    have HF := Lib.hid (show r = false by rw [HR.out]; simp [ownB, askN, askOf, q2])
    clear q2
    go_wp2_with fail
    go_ret
    exact ⟨by rw [HF.out]; rfl, bel⟩
  obtain rfl := size_nil q2
  clear q2
  by_cases q3 : 0 ≤ n
  rotate_left
  · have d1 : decide (n < 0) = true := decide_eq_true (by omega)
    have HF := Lib.hid (show r = false by rw [HR.out]; simp [ownB, askN, askOf, q3])
    clear q3
    go_wp2_with fail
    go_ret
    exact ⟨by rw [HF.out]; rfl, bel⟩
  have d1 : decide (n < 0) = false := decide_eq_false (by omega)
  by_cases q4 : n ≤ 999999999
  rotate_left
  · have d2 : decide ((999999999 : Int) < n) = true := decide_eq_true (by omega)
    have HF := Lib.hid (show r = false by rw [HR.out]; simp [ownB, askN, askOf, q4])
    clear q4
    go_wp2_with fail
    go_ret
    exact ⟨by rw [HF.out]; rfl, bel⟩
  have d2 : decide ((999999999 : Int) < n) = false := decide_eq_false (by omega)
  have Q3 := Lib.hid q3
  have Q4 := Lib.hid q4
  clear q3 q4
  go_upto_region 6 with fail
  clear d1 d2
  rcases bnd_cases lo with rfl | ⟨i, t, rfl⟩ | ⟨t, rfl⟩ | ⟨t, ht, rfl⟩
  rotate_left
  · skip
    have HF := Lib.hid (show r = false by rw [HR.out]; simp [ownB, askN, askOf, noEnd])
    go_wp2_with fail
    go_ret
    exact ⟨by rw [HF.out]; rfl, bel⟩
  · skip
    have HF := Lib.hid (show r = false by rw [HR.out]; simp [ownB, askN, askOf, noEnd])
    go_wp2_with fail
    go_ret
    exact ⟨by rw [HF.out]; rfl, bel⟩
  · obtain ⟨t1, t2⟩ := tl_ne ht
    have HF := Lib.hid (show r = false by rw [HR.out]; simp [ownB, askN, askOf, noEnd, ht])
    clear ht
    go_wp2_with fail
    go_ret
    exact ⟨by rw [HF.out]; rfl, bel⟩
  rcases bnd_cases hi with rfl | ⟨i, t, rfl⟩ | ⟨t, rfl⟩ | ⟨t, ht, rfl⟩
  rotate_left
  · skip
    have HF := Lib.hid (show r = false by rw [HR.out]; simp [ownB, askN, askOf, noEnd])
    go_wp2_with fail
    go_ret
    exact ⟨by rw [HF.out]; rfl, bel⟩
  · skip
    have HF := Lib.hid (show r = false by rw [HR.out]; simp [ownB, askN, askOf, noEnd])
    go_wp2_with fail
    go_ret
    exact ⟨by rw [HF.out]; rfl, bel⟩
  · obtain ⟨t1, t2⟩ := tl_ne ht
    have HF := Lib.hid (show r = false by rw [HR.out]; simp [ownB, askN, askOf, noEnd, ht])
    clear ht
    go_wp2_with fail
    go_ret
    exact ⟨by rw [HF.out]; rfl, bel⟩
  go_upto_region 8 with fail
  by_cases q7 : 1 ≤ nk
  rotate_left
  · have d3 : decide ((nk : Int) < 1) = true := decide_eq_true (by omega)
    have q8 : nk = 0 := by omega
    have HF := Lib.hid (show r = false by rw [HR.out]; simp [ownB, askN, askOf, q8])
    clear q7 q8
    go_wp2_with fail
    go_ret
    exact ⟨by rw [HF.out]; rfl, bel⟩
  have d3 : decide ((nk : Int) < 1) = false := decide_eq_false (by omega)
  by_cases q8 : nk ≤ 1
  rotate_left
  · have d4 : decide ((1 : Int) < (nk : Int)) = true := decide_eq_true (by omega)
    have q9 : ¬ ((nk : Int) ≤ 1) := by omega
    have HF := Lib.hid (show r = false by rw [HR.out]; simp [ownB, askN, askOf, q9])
    clear q7 q8 q9
    go_wp2_with fail
    go_ret
    exact ⟨by rw [HF.out]; rfl, bel⟩
  have d4 : decide ((1 : Int) < (nk : Int)) = false := decide_eq_false (by omega)
  have Q8 := Lib.hid (show nk = 1 by omega)
  clear q8
  have Q7b := Lib.hid (show (1 : Int) ≤ (nk : Int) by omega)
  have Q7 := Lib.hid q7
  clear q7
  go_upto_region 10 with fail
  clear d3 d4
  by_cases q10 : no = 0
  rotate_left
  · have d5 : decide ((0 : Int) < (no : Int)) = true := decide_eq_true (by omega)
    have d5n : decide (0 < no) = true := decide_eq_true (by omega)
    have q11 : occ ≠ [] := by intro h; have := NL.out; rw [h] at this; simp at this; omega
    have HF := Lib.hid (show r = false by rw [HR.out]; simp [ownB, askN, askOf, q11])
    clear q10 q11
    go_wp2_with fail
    go_ret
    exact ⟨by rw [HF.out]; rfl, bel⟩
  have d5 : decide ((0 : Int) < (no : Int)) = false := decide_eq_false (by omega)
  have d5n : decide (0 < no) = false := decide_eq_false (by omega)
  have Q10 := Lib.hid (show occ = [] by have := NL.out; exact List.eq_nil_of_length_eq_zero (by omega))
  clear q10
  have HL := Lib.hid (show r = (occ.all occB && (true)) by rw [HR.out]; simp [ownB, askN, askOf, Q3.out, Q4.out, noEnd, Q8.out, Q10.out] <;> (intros; rfl))
  go_upto_region 12 with fail
  clear d5 d5n
  go_wp2_with fail
  go_loop [124] (fun i => ∃ j : Nat, j ≤ no ∧ i = .int .i64 j ∧ (occ.take j).all occB = true) (fun i => no - (intOf i).toNat)
  case atStart => exact ⟨0, Nat.zero_le _, rfl, rfl⟩
  case round =>
    obtain ⟨j, hj, rfl, hall⟩ := hrel
    have HA := Lib.hid hall
    clear hall
    rcases Nat.lt_or_ge j no with hlt | hge
    · obtain ⟨z, hz⟩ : ∃ z, occ[j]? = some z := ⟨_, List.getElem?_eq_getElem (by have := NL.out; omega)⟩
      obtain ⟨g3, o3, rfl, hg3, hc3⟩ := S1.out (by intro h; rw [show occ = [] by simpa [ints] using h] at hz; simp at hz)
      have y : ∀ u u', ((w.alloc u).alloc u').cell? ⟨g3, o3 + j, none⟩ = some (.int .i64 z) := fun u u' => ((show Below w.heap.size w ((w.alloc u).alloc u') by exact Base.bel).cell (p := ⟨g3, o3 + j, none⟩) hg3).trans (hc3 j (.int .i64 z) (by simp [ints, hz]))
      have HT := Lib.hid (all_take (f := occB) hz HA.out)
      have HB := Lib.hid (fun h => all_bad (f := occB) hz h)
      have hlt2 : (j : Int) < 9223372036854775807 := by have := NO.out; omega
      have i1 : (j : Int) < (no : Int) := by omega
      clear hz hc3
      rcases (by omega : z = 0 ∨ z = 1 ∨ z = 2 ∨ (z ≠ 0 ∧ z ≠ 1 ∧ z ≠ 2)) with rfl | rfl | rfl | ⟨z0, z1, z2⟩
      rotate_left 3
      · have e0 : (z != 0) = true := bne_iff_ne.2 z0
        have e1 : (z != 1) = true := bne_iff_ne.2 z1
        have e2 : (z != 2) = true := bne_iff_ne.2 z2
        have HQ9 := Lib.hid (show r = false by rw [HL.out, HB.out (show occB z = false by simp [occB, z0, z1, z2])]; rfl)
        clear z0 z1 z2
        go_wp2_with fail
        go_ret
        exact ⟨by rw [HQ9.out]; rfl, bel⟩
      all_goals
        go_wp2_with fail
        (try go_big_round); refine ⟨⟨j + 1, by omega, by go_num, ?_⟩, by simp [intOf]; omega⟩; rw [HT.out]; rfl
    · have hj' : j = no := by omega
      have HO := Lib.hid (show occ.all occB = true by have := HA.out; rw [hj', NL.out, List.take_length] at this; exact this)
      have i1 : ¬ ((j : Int) < (no : Int)) := by omega
      clear hj'
      go_wp2_with fail
      go_ret
      exact ⟨by rw [HL.out, HO.out]; rfl, bel⟩

set_option maxHeartbeats 8000000 in
theorem own_15 (fn T : ByteArray) (n : Int) (lo hi : Bnd) (occ : List Int) (nk : Nat) (A1 A2 : Option Addr) (c1 c2 : Nat) (w : World) (hs : T.size ≤ 1099511627776) (s1 : Slc w w.heap.size A1 (ints occ)) (hno : occ.length ≤ maxLen) (hnk : nk ≤ maxLen) (ha : Asks w) (h0 : 2 < w.heap.size) :
    Calls Tryz.prog 54 #[.agg (nodeV 15 fn T n ⟨lo, hi, A1, occ.length, c1, A2, nk, c2⟩)] w fun e w' => e = .returned (.bool (ownB ⟨15, fn, T, n, lo, hi, occ⟩ nk)) ∧ Below w.heap.size w w' := by
  obtain ⟨r, hr⟩ : ∃ r, r = ownB ⟨15, fn, T, n, lo, hi, occ⟩ nk := ⟨_, rfl⟩
  rw [← hr]
  have HR := Lib.hid hr
  clear hr
  have hml : maxLen = 9223372036854775807 := rfl
  have NO := Lib.hid (show occ.length ≤ 9223372036854775807 from hno)
  have NK := Lib.hid (show nk ≤ 9223372036854775807 from hnk)
  have S1 := Lib.hid s1
  obtain ⟨no, hno1⟩ : ∃ x, x = occ.length := ⟨_, rfl⟩
  rw [← hno1] at NO ⊢
  have NL := Lib.hid hno1
  clear hno hnk s1 hml hno1
  have AS := fun o => Asks.below ha ((Below.refl w.heap.size w).alloc (Nat.le_refl _) o) h0
  have a0 : ∀ o, (w.alloc o).cell? ⟨2, 150, none⟩ = some (.bool false) := fun o => AS o 15 0 _ (by decide) rfl
  have a1 : ∀ o, (w.alloc o).cell? ⟨2, 151, none⟩ = some (.bool false) := fun o => AS o 15 1 _ (by decide) rfl
  have a2 : ∀ o, (w.alloc o).cell? ⟨2, 152, none⟩ = some (.int .i64 0) := fun o => AS o 15 2 _ (by decide) rfl
  have a3 : ∀ o, (w.alloc o).cell? ⟨2, 153, none⟩ = some (.int .i64 999999999) := fun o => AS o 15 3 _ (by decide) rfl
  have a4 : ∀ o, (w.alloc o).cell? ⟨2, 154, none⟩ = some (.bool false) := fun o => AS o 15 4 _ (by decide) rfl
  have a5 : ∀ o, (w.alloc o).cell? ⟨2, 155, none⟩ = some (.bool false) := fun o => AS o 15 5 _ (by decide) rfl
  have a6 : ∀ o, (w.alloc o).cell? ⟨2, 156, none⟩ = some (.int .i64 1) := fun o => AS o 15 6 _ (by decide) rfl
  have a7 : ∀ o, (w.alloc o).cell? ⟨2, 157, none⟩ = some (.int .i64 (1)) := fun o => AS o 15 7 _ (by decide) rfl
  have a8 : ∀ o, (w.alloc o).cell? ⟨2, 158, none⟩ = some (.int .i64 5) := fun o => AS o 15 8 _ (by decide) rfl
  have a9 : ∀ o, (w.alloc o).cell? ⟨2, 159, none⟩ = some (.string ⟨#[94, 61]⟩) := fun o => AS o 15 9 _ (by decide) rfl
  unfold nodeV
  simp only
  clear ha AS
  clear hs
  go_enter Tryz.func54, Tryz.ntmps54
  go_upto_region 4 with fail
  clear a0 a1 a2 a3 a4 a5 a6 a7 a8 a9
  by_cases q1 : fn.size = 0
  rotate_left
  · obtain ⟨t1, t2⟩ := tl_ne q1
    have HF := Lib.hid (show r = false by rw [HR.out]; simp [ownB, askN, askOf, q1])
    clear q1
    go_wp2_with fail
    go_ret
    exact ⟨by rw [HF.out]; rfl, bel⟩
  obtain rfl := size_nil q1
  clear q1
  by_cases q2 : T.size = 0
  rotate_left
  · obtain ⟨t1, t2⟩ := tl_ne q2
    have HF := Lib.hid (show r = false by rw [HR.out]; simp [ownB, askN, askOf, q2])
    clear q2
    go_wp2_with fail
    go_ret
    exact ⟨by rw [HF.out]; rfl, bel⟩
  obtain rfl := size_nil q2
  clear q2
  by_cases q3 : 0 ≤ n
  rotate_left
  · have d1 : decide (n < 0) = true := decide_eq_true (by omega)
    have HF := Lib.hid (show r = false by rw [HR.out]; simp [ownB, askN, askOf, q3])
    clear q3
    go_wp2_with fail
    go_ret
    exact ⟨by rw [HF.out]; rfl, bel⟩
  have d1 : decide (n < 0) = false := decide_eq_false (by omega)
  by_cases q4 : n ≤ 999999999
  rotate_left
  · have d2 : decide ((999999999 : Int) < n) = true := decide_eq_true (by omega)
    have HF := Lib.hid (show r = false by rw [HR.out]; simp [ownB, askN, askOf, q4])
    clear q4
    go_wp2_with fail
    go_ret
    exact ⟨by rw [HF.out]; rfl, bel⟩
  have d2 : decide ((999999999 : Int) < n) = false := decide_eq_false (by omega)
  have Q3 := Lib.hid q3
  have Q4 := Lib.hid q4
  clear q3 q4
  go_upto_region 6 with fail
  clear d1 d2
  rcases bnd_cases lo with rfl | ⟨i, t, rfl⟩ | ⟨t, rfl⟩ | ⟨t, ht, rfl⟩
  rotate_left
  · skip
    have HF := Lib.hid (show r = false by rw [HR.out]; simp [ownB, askN, askOf, noEnd])
    go_wp2_with fail
    go_ret
    exact ⟨by rw [HF.out]; rfl, bel⟩
  · skip
    have HF := Lib.hid (show r = false by rw [HR.out]; simp [ownB, askN, askOf, noEnd])
    go_wp2_with fail
    go_ret
    exact ⟨by rw [HF.out]; rfl, bel⟩
  · obtain ⟨t1, t2⟩ := tl_ne ht
    have HF := Lib.hid (show r = false by rw [HR.out]; simp [ownB, askN, askOf, noEnd, ht])
    clear ht
    go_wp2_with fail
    go_ret
    exact ⟨by rw [HF.out]; rfl, bel⟩
  rcases bnd_cases hi with rfl | ⟨i, t, rfl⟩ | ⟨t, rfl⟩ | ⟨t, ht, rfl⟩
  rotate_left
  · skip
    have HF := Lib.hid (show r = false by rw [HR.out]; simp [ownB, askN, askOf, noEnd])
    go_wp2_with fail
    go_ret
    exact ⟨by rw [HF.out]; rfl, bel⟩
  · skip
    have HF := Lib.hid (show r = false by rw [HR.out]; simp [ownB, askN, askOf, noEnd])
    go_wp2_with fail
    go_ret
    exact ⟨by rw [HF.out]; rfl, bel⟩
  · obtain ⟨t1, t2⟩ := tl_ne ht
    have HF := Lib.hid (show r = false by rw [HR.out]; simp [ownB, askN, askOf, noEnd, ht])
    clear ht
    go_wp2_with fail
    go_ret
    exact ⟨by rw [HF.out]; rfl, bel⟩
  go_upto_region 8 with fail
  by_cases q7 : 1 ≤ nk
  rotate_left
  · have d3 : decide ((nk : Int) < 1) = true := decide_eq_true (by omega)
    have q8 : nk = 0 := by omega
    have HF := Lib.hid (show r = false by rw [HR.out]; simp [ownB, askN, askOf, q8])
    clear q7 q8
    go_wp2_with fail
    go_ret
    exact ⟨by rw [HF.out]; rfl, bel⟩
  have d3 : decide ((nk : Int) < 1) = false := decide_eq_false (by omega)
  by_cases q8 : nk ≤ 1
  rotate_left
  · have d4 : decide ((1 : Int) < (nk : Int)) = true := decide_eq_true (by omega)
    have q9 : ¬ ((nk : Int) ≤ 1) := by omega
    have HF := Lib.hid (show r = false by rw [HR.out]; simp [ownB, askN, askOf, q9])
    clear q7 q8 q9
    go_wp2_with fail
    go_ret
    exact ⟨by rw [HF.out]; rfl, bel⟩
  have d4 : decide ((1 : Int) < (nk : Int)) = false := decide_eq_false (by omega)
  have Q8 := Lib.hid (show nk = 1 by omega)
  clear q8
  have Q7b := Lib.hid (show (1 : Int) ≤ (nk : Int) by omega)
  have Q7 := Lib.hid q7
  clear q7
  go_upto_region 10 with fail
  clear d3 d4
  by_cases q10 : no = 0
  rotate_left
  · have d5 : decide ((0 : Int) < (no : Int)) = true := decide_eq_true (by omega)
    have d5n : decide (0 < no) = true := decide_eq_true (by omega)
    have q11 : occ ≠ [] := by intro h; have := NL.out; rw [h] at this; simp at this; omega
    have HF := Lib.hid (show r = false by rw [HR.out]; simp [ownB, askN, askOf, q11])
    clear q10 q11
    go_wp2_with fail
    go_ret
    exact ⟨by rw [HF.out]; rfl, bel⟩
  have d5 : decide ((0 : Int) < (no : Int)) = false := decide_eq_false (by omega)
  have d5n : decide (0 < no) = false := decide_eq_false (by omega)
  have Q10 := Lib.hid (show occ = [] by have := NL.out; exact List.eq_nil_of_length_eq_zero (by omega))
  clear q10
  have HL := Lib.hid (show r = (occ.all occB && (true)) by rw [HR.out]; simp [ownB, askN, askOf, Q3.out, Q4.out, noEnd, Q8.out, Q10.out] <;> (intros; rfl))
  go_upto_region 12 with fail
  clear d5 d5n
  go_wp2_with fail
  go_loop [124] (fun i => ∃ j : Nat, j ≤ no ∧ i = .int .i64 j ∧ (occ.take j).all occB = true) (fun i => no - (intOf i).toNat)
  case atStart => exact ⟨0, Nat.zero_le _, rfl, rfl⟩
  case round =>
    obtain ⟨j, hj, rfl, hall⟩ := hrel
    have HA := Lib.hid hall
    clear hall
    rcases Nat.lt_or_ge j no with hlt | hge
    · obtain ⟨z, hz⟩ : ∃ z, occ[j]? = some z := ⟨_, List.getElem?_eq_getElem (by have := NL.out; omega)⟩
      obtain ⟨g3, o3, rfl, hg3, hc3⟩ := S1.out (by intro h; rw [show occ = [] by simpa [ints] using h] at hz; simp at hz)
      have y : ∀ u u', ((w.alloc u).alloc u').cell? ⟨g3, o3 + j, none⟩ = some (.int .i64 z) := fun u u' => ((show Below w.heap.size w ((w.alloc u).alloc u') by exact Base.bel).cell (p := ⟨g3, o3 + j, none⟩) hg3).trans (hc3 j (.int .i64 z) (by simp [ints, hz]))
      have HT := Lib.hid (all_take (f := occB) hz HA.out)
      have HB := Lib.hid (fun h => all_bad (f := occB) hz h)
      have hlt2 : (j : Int) < 9223372036854775807 := by have := NO.out; omega
      have i1 : (j : Int) < (no : Int) := by omega
      clear hz hc3
      rcases (by omega : z = 0 ∨ z = 1 ∨ z = 2 ∨ (z ≠ 0 ∧ z ≠ 1 ∧ z ≠ 2)) with rfl | rfl | rfl | ⟨z0, z1, z2⟩
      rotate_left 3
      · have e0 : (z != 0) = true := bne_iff_ne.2 z0
        have e1 : (z != 1) = true := bne_iff_ne.2 z1
        have e2 : (z != 2) = true := bne_iff_ne.2 z2
        have HQ9 := Lib.hid (show r = false by rw [HL.out, HB.out (show occB z = false by simp [occB, z0, z1, z2])]; rfl)
        clear z0 z1 z2
        go_wp2_with fail
        go_ret
        exact ⟨by rw [HQ9.out]; rfl, bel⟩
      all_goals
        go_wp2_with fail
        (try go_big_round); refine ⟨⟨j + 1, by omega, by go_num, ?_⟩, by simp [intOf]; omega⟩; rw [HT.out]; rfl
    · have hj' : j = no := by omega
      have HO := Lib.hid (show occ.all occB = true by have := HA.out; rw [hj', NL.out, List.take_length] at this; exact this)
      have i1 : ¬ ((j : Int) < (no : Int)) := by omega
      clear hj'
      go_wp2_with fail
      go_ret
      exact ⟨by rw [HL.out, HO.out]; rfl, bel⟩

set_option maxHeartbeats 2000000 in
theorem own_any (hd : NHead) (nk : Nat) (A1 A2 : Option Addr) (c1 c2 : Nat) (w : World) (hs : hd.text.size ≤ 1099511627776) (s1 : Slc w w.heap.size A1 (ints hd.occur)) (hno : hd.occur.length ≤ maxLen) (hnk : nk ≤ maxLen) (ha : Asks w) (h0 : 2 < w.heap.size) :
    Calls Tryz.prog 54 #[.agg (nodeV hd.kind hd.field hd.text hd.n ⟨hd.lo, hd.hi, A1, hd.occur.length, c1, A2, nk, c2⟩)] w fun e w' => e = .returned (.bool (ownB hd nk)) ∧ Below w.heap.size w w' := by
  obtain ⟨kind, fn, T, n, lo, hi, occ⟩ := hd
  simp only at hs s1 hno ⊢
  rcases (by omega : kind < 1 ∨ (1 ≤ kind ∧ 15 < kind) ∨ kind = 1 ∨ kind = 2 ∨ kind = 3 ∨ kind = 4 ∨ kind = 5 ∨ kind = 6 ∨ kind = 7 ∨ kind = 8 ∨ kind = 9 ∨ kind = 10 ∨ kind = 11 ∨ kind = 12 ∨ kind = 13 ∨ kind = 14 ∨ kind = 15) with h | ⟨h, h2⟩ | rfl | rfl | rfl | rfl | rfl | rfl | rfl | rfl | rfl | rfl | rfl | rfl | rfl | rfl | rfl
  · have HF := Lib.hid (show ownB ⟨kind, fn, T, n, lo, hi, occ⟩ nk = false by simp [ownB]; omega)
    have d1 : decide (kind < 1) = true := decide_eq_true h
    unfold nodeV
    clear h ha s1 hno hnk hs
    go_enter Tryz.func54, Tryz.ntmps54
    go_wp2_with fail
    go_ret
    exact ⟨by rw [HF.out]; rfl, bel⟩
  · have HF := Lib.hid (show ownB ⟨kind, fn, T, n, lo, hi, occ⟩ nk = false by simp [ownB]; omega)
    have d1 : decide (kind < 1) = false := decide_eq_false (by omega)
    have d2 : decide ((15 : Int) < kind) = true := decide_eq_true h2
    unfold nodeV
    clear h h2 ha s1 hno hnk hs
    go_enter Tryz.func54, Tryz.ntmps54
    go_wp2_with fail
    go_ret
    exact ⟨by rw [HF.out]; rfl, bel⟩
  · exact own_1 fn T n lo hi occ nk A1 A2 c1 c2 w hs s1 hno hnk ha h0
  · exact own_2 fn T n lo hi occ nk A1 A2 c1 c2 w hs s1 hno hnk ha h0
  · exact own_3 fn T n lo hi occ nk A1 A2 c1 c2 w hs s1 hno hnk ha h0
  · exact own_4 fn T n lo hi occ nk A1 A2 c1 c2 w hs s1 hno hnk ha h0
  · exact own_5 fn T n lo hi occ nk A1 A2 c1 c2 w hs s1 hno hnk ha h0
  · exact own_6 fn T n lo hi occ nk A1 A2 c1 c2 w hs s1 hno hnk ha h0
  · exact own_7 fn T n lo hi occ nk A1 A2 c1 c2 w hs s1 hno hnk ha h0
  · exact own_8 fn T n lo hi occ nk A1 A2 c1 c2 w hs s1 hno hnk ha h0
  · exact own_9 fn T n lo hi occ nk A1 A2 c1 c2 w hs s1 hno hnk ha h0
  · exact own_10 fn T n lo hi occ nk A1 A2 c1 c2 w hs s1 hno hnk ha h0
  · exact own_11 fn T n lo hi occ nk A1 A2 c1 c2 w hs s1 hno hnk ha h0
  · exact own_12 fn T n lo hi occ nk A1 A2 c1 c2 w hs s1 hno hnk ha h0
  · exact own_13 fn T n lo hi occ nk A1 A2 c1 c2 w hs s1 hno hnk ha h0
  · exact own_14 fn T n lo hi occ nk A1 A2 c1 c2 w hs s1 hno hnk ha h0
  · exact own_15 fn T n lo hi occ nk A1 A2 c1 c2 w hs s1 hno hnk ha h0
end Go.Proofs.YtkcfgcdlnojaeaaGreatDoor.NodeOwn3
