/-
  The walk of printer's own over any node.
-/
import Derived.Test.YtkcfgcdlnojaeaaGreatDoorDNodT
import Derived.Test.YtkcfgcdlnojaeaaGreatDoorLists
set_option linter.unusedVariables false
set_option linter.unusedSimpArgs false
namespace Go.Proofs.YtkcfgcdlnojaeaaGreatDoor.NodeOwn
set_option maxRecDepth 100000
open Go.RowKit Go.PlainAid Base Query NodeTree NodeWalk TextPlain NodePlain NodeWild BindBase Numbers Lists

def Asks (w : World) : Prop := ∀ k j u, k < 16 → (askV (askOf k))[j]? = some u → w.cell? ⟨2, k * 10 + j, none⟩ = some u
theorem Asks.below {w w' : World} {B : Nat} (h : Asks w) (hb : Below B w w') (hB : 2 < B) : Asks w' := fun k j u hk hu => (hb.cell (p := ⟨2, k * 10 + j, none⟩) hB).trans (h k j u hk hu)
theorem size_nil {t : ByteArray} (h : t.size = 0) : t = ⟨#[]⟩ := by
  cases t with
  | mk a => simp only [ByteArray.size] at h; rw [Array.size_eq_zero_iff.1 h]
theorem tl_ne {t : ByteArray} (h : t.size ≠ 0) : (t.toList == []) = false ∧ t.toList.isEmpty = false := by
  have h1 := tl_empty t
  rw [beq_eq_false_iff_ne.2 h] at h1
  exact ⟨beq_eq_false_iff_ne.2 (by rw [← List.isEmpty_eq_false_iff]; exact h1), h1⟩
theorem bnd_cases (b : Bnd) : b = ⟨false, false, ⟨#[]⟩⟩ ∨ (∃ i t, b = ⟨true, i, t⟩) ∨ (∃ t, b = ⟨false, true, t⟩) ∨ (∃ t, t.size ≠ 0 ∧ b = ⟨false, false, t⟩) := by
  obtain ⟨a, i, t⟩ := b
  cases a
  · cases i
    · by_cases h : t.size = 0
      · exact .inl (by rw [size_nil h])
      · exact .inr (.inr (.inr ⟨t, h, rfl⟩))
    · exact .inr (.inr (.inl ⟨t, rfl⟩))
  · exact .inr (.inl ⟨i, t, rfl⟩)
set_option maxHeartbeats 1000000 in
theorem bound_any (b : Bnd) (w : World) : Calls Tryz.prog 95 #[.agg #[.bool b.op, .bool b.inn, .string b.text]] w fun e w' => e = .returned (.bool (okEnd b)) ∧ Below w.heap.size w w' := by
  obtain ⟨x, hx⟩ : ∃ x, x = okEnd b := ⟨_, rfl⟩
  rw [← hx]
  have HX := Lib.hid hx
  clear hx
  rcases bnd_cases b with rfl | ⟨i, t, rfl⟩ | ⟨t, rfl⟩ | ⟨t, ht, rfl⟩
  · go_enter Tryz.func95, Tryz.ntmps95
    go_wp2_with fail
    go_ret
    exact ⟨by rw [HX.out]; rfl, (by exact Base.bel)⟩
  · cases i
    · by_cases h : t.size = 0
      · obtain rfl := size_nil h
        go_enter Tryz.func95, Tryz.ntmps95
        go_wp2_with fail
        go_ret
        exact ⟨by rw [HX.out]; rfl, (by exact Base.bel)⟩
      · obtain ⟨t1, t2⟩ := tl_ne h
        have HF := Lib.hid (show x = false by rw [HX.out]; simp [okEnd, h])
        clear h
        go_enter Tryz.func95, Tryz.ntmps95
        go_wp2_with fail
        go_ret
        exact ⟨by rw [HF.out]; rfl, (by exact Base.bel)⟩
    · go_enter Tryz.func95, Tryz.ntmps95
      go_wp2_with fail
      go_ret
      exact ⟨by rw [HX.out]; rfl, (by exact Base.bel)⟩
  · go_enter Tryz.func95, Tryz.ntmps95
    go_wp2_with fail
    go_ret
    exact ⟨by rw [HX.out]; rfl, (by exact Base.bel)⟩
  · go_enter Tryz.func95, Tryz.ntmps95
    go_wp2_with fail
    go_ret
    exact ⟨by rw [HX.out]; rfl, (by exact Base.bel)⟩

set_option maxHeartbeats 8000000 in
theorem own_1 (fn T : ByteArray) (n : Int) (lo hi : Bnd) (occ : List Int) (nk : Nat) (A1 A2 : Option Addr) (c1 c2 : Nat) (w : World) (hs : T.size ≤ 1099511627776) (s1 : Slc w w.heap.size A1 (ints occ)) (hno : occ.length ≤ maxLen) (hnk : nk ≤ maxLen) (ha : Asks w) (h0 : 2 < w.heap.size) :
    Calls Tryz.prog 54 #[.agg (nodeV 1 fn T n ⟨lo, hi, A1, occ.length, c1, A2, nk, c2⟩)] w fun e w' => e = .returned (.bool (ownB ⟨1, fn, T, n, lo, hi, occ⟩ nk)) ∧ Below w.heap.size w w' := by
  obtain ⟨r, hr⟩ : ∃ r, r = ownB ⟨1, fn, T, n, lo, hi, occ⟩ nk := ⟨_, rfl⟩
  rw [← hr]
  have HR := Lib.hid hr
  clear hr
  have hml : maxLen = 9223372036854775807 := rfl
  have NO := Lib.hid (show occ.length ≤ 9223372036854775807 from hno)
  have NK := Lib.hid (show nk ≤ 9223372036854775807 from hnk)
  have S1 := Lib.hid s1
  obtain ⟨no, hno1⟩ : ∃ x, x = occ.length := ⟨_, rfl⟩
  rw [← hno1] at NO ⊢
  have NL := Lib.hid hno1
  clear hno hnk s1 hml hno1
  have a0 : ∀ o, (w.alloc o).cell? ⟨2, 10, none⟩ = some (.bool true) := fun o => (Asks.below ha ((Below.refl w.heap.size w).alloc (Nat.le_refl _) o) h0) 1 0 _ (by decide) rfl
  have a1 : ∀ o, (w.alloc o).cell? ⟨2, 11, none⟩ = some (.bool true) := fun o => (Asks.below ha ((Below.refl w.heap.size w).alloc (Nat.le_refl _) o) h0) 1 1 _ (by decide) rfl
  have a2 : ∀ o, (w.alloc o).cell? ⟨2, 12, none⟩ = some (.int .i64 0) := fun o => (Asks.below ha ((Below.refl w.heap.size w).alloc (Nat.le_refl _) o) h0) 1 2 _ (by decide) rfl
  have a3 : ∀ o, (w.alloc o).cell? ⟨2, 13, none⟩ = some (.int .i64 0) := fun o => (Asks.below ha ((Below.refl w.heap.size w).alloc (Nat.le_refl _) o) h0) 1 3 _ (by decide) rfl
  have a4 : ∀ o, (w.alloc o).cell? ⟨2, 14, none⟩ = some (.bool false) := fun o => (Asks.below ha ((Below.refl w.heap.size w).alloc (Nat.le_refl _) o) h0) 1 4 _ (by decide) rfl
  have a5 : ∀ o, (w.alloc o).cell? ⟨2, 15, none⟩ = some (.bool false) := fun o => (Asks.below ha ((Below.refl w.heap.size w).alloc (Nat.le_refl _) o) h0) 1 5 _ (by decide) rfl
  have a6 : ∀ o, (w.alloc o).cell? ⟨2, 16, none⟩ = some (.int .i64 0) := fun o => (Asks.below ha ((Below.refl w.heap.size w).alloc (Nat.le_refl _) o) h0) 1 6 _ (by decide) rfl
  have a7 : ∀ o, (w.alloc o).cell? ⟨2, 17, none⟩ = some (.int .i64 (0)) := fun o => (Asks.below ha ((Below.refl w.heap.size w).alloc (Nat.le_refl _) o) h0) 1 7 _ (by decide) rfl
  have a8 : ∀ o, (w.alloc o).cell? ⟨2, 18, none⟩ = some (.int .i64 6) := fun o => (Asks.below ha ((Below.refl w.heap.size w).alloc (Nat.le_refl _) o) h0) 1 8 _ (by decide) rfl
  have a9 : ∀ o, (w.alloc o).cell? ⟨2, 19, none⟩ = some (.string ⟨#[]⟩) := fun o => (Asks.below ha ((Below.refl w.heap.size w).alloc (Nat.le_refl _) o) h0) 1 9 _ (by decide) rfl
  unfold nodeV
  simp only
  clear ha
  clear hs
  go_enter Tryz.func54, Tryz.ntmps54
  go_upto_region 4 with fail
  clear a0 a1 a2 a3 a4 a5 a6 a7 a8 a9
  by_cases q3 : 0 ≤ n
  rotate_left
  · have d1 : decide (n < 0) = true := decide_eq_true (by omega)
    have HF := Lib.hid (show r = false by rw [HR.out]; simp [ownB, askN, askOf, q3])
    clear q3
    go_wp2_with fail
    go_ret
    exact ⟨by rw [HF.out]; rfl, (by exact Base.bel)⟩
  have d1 : decide (n < 0) = false := decide_eq_false (by omega)
  by_cases q4 : n ≤ 0
  rotate_left
  · have d2 : decide ((0 : Int) < n) = true := decide_eq_true (by omega)
    have HF := Lib.hid (show r = false by rw [HR.out]; simp [ownB, askN, askOf, q4])
    clear q4
    go_wp2_with fail
    go_ret
    exact ⟨by rw [HF.out]; rfl, (by exact Base.bel)⟩
  have d2 : decide ((0 : Int) < n) = false := decide_eq_false (by omega)
  have Q3 := Lib.hid q3
  have Q4 := Lib.hid q4
  clear q3 q4
  go_upto_region 6 with fail
  clear d1 d2
  rcases bnd_cases lo with rfl | ⟨i, t, rfl⟩ | ⟨t, rfl⟩ | ⟨t, ht, rfl⟩
  rotate_left
  · skip
    have HF := Lib.hid (show r = false by rw [HR.out]; simp [ownB, askN, askOf, noEnd])
    go_wp2_with fail
    go_ret
    exact ⟨by rw [HF.out]; rfl, (by exact Base.bel)⟩
  · skip
    have HF := Lib.hid (show r = false by rw [HR.out]; simp [ownB, askN, askOf, noEnd])
    go_wp2_with fail
    go_ret
    exact ⟨by rw [HF.out]; rfl, (by exact Base.bel)⟩
  · obtain ⟨t1, t2⟩ := tl_ne ht
    have HF := Lib.hid (show r = false by rw [HR.out]; simp [ownB, askN, askOf, noEnd, ht])
    clear ht
    go_wp2_with fail
    go_ret
    exact ⟨by rw [HF.out]; rfl, (by exact Base.bel)⟩
  rcases bnd_cases hi with rfl | ⟨i, t, rfl⟩ | ⟨t, rfl⟩ | ⟨t, ht, rfl⟩
  rotate_left
  · skip
    have HF := Lib.hid (show r = false by rw [HR.out]; simp [ownB, askN, askOf, noEnd])
    go_wp2_with fail
    go_ret
    exact ⟨by rw [HF.out]; rfl, (by exact Base.bel)⟩
  · skip
    have HF := Lib.hid (show r = false by rw [HR.out]; simp [ownB, askN, askOf, noEnd])
    go_wp2_with fail
    go_ret
    exact ⟨by rw [HF.out]; rfl, (by exact Base.bel)⟩
  · obtain ⟨t1, t2⟩ := tl_ne ht
    have HF := Lib.hid (show r = false by rw [HR.out]; simp [ownB, askN, askOf, noEnd, ht])
    clear ht
    go_wp2_with fail
    go_ret
    exact ⟨by rw [HF.out]; rfl, (by exact Base.bel)⟩
  go_upto_region 8 with fail
  have d3 : decide ((nk : Int) < 0) = false := decide_eq_false (by omega)
  by_cases q7 : nk = 0
  rotate_left
  · have d4 : decide ((0 : Int) < (nk : Int)) = true := decide_eq_true (by omega)
    have d4n : decide (0 < nk) = true := decide_eq_true (by omega)
    have HF := Lib.hid (show r = false by rw [HR.out]; simp [ownB, askN, askOf, q7])
    clear q7
    go_wp2_with fail
    go_ret
    exact ⟨by rw [HF.out]; rfl, (by exact Base.bel)⟩
  have d4 : decide ((0 : Int) < (nk : Int)) = false := decide_eq_false (by omega)
  have d4n : decide (0 < nk) = false := decide_eq_false (by omega)
  have Q7 := Lib.hid q7
  clear q7
  go_upto_region 10 with fail
  clear d3 d4 d4n
  by_cases q10 : no = 0
  rotate_left
  · have d5 : decide ((0 : Int) < (no : Int)) = true := decide_eq_true (by omega)
    have d5n : decide (0 < no) = true := decide_eq_true (by omega)
    have q11 : occ ≠ [] := by intro h; have := NL.out; rw [h] at this; simp at this; omega
    have HF := Lib.hid (show r = false by rw [HR.out]; simp [ownB, askN, askOf, q11])
    clear q10 q11
    go_wp2_with fail
    go_ret
    exact ⟨by rw [HF.out]; rfl, (by exact Base.bel)⟩
  have d5 : decide ((0 : Int) < (no : Int)) = false := decide_eq_false (by omega)
  have d5n : decide (0 < no) = false := decide_eq_false (by omega)
  have Q10 := Lib.hid (show occ = [] by have := NL.out; exact List.eq_nil_of_length_eq_zero (by omega))
  clear q10
  have HL := Lib.hid (show r = (occ.all occB && (T.size != 0)) by rw [HR.out]; simp [ownB, askN, askOf, Q3.out, Q4.out, noEnd, Q7.out, Q10.out] <;> (intros; rfl))
  go_upto_region 12 with fail
  clear d5 d5n
  go_wp2_with fail
  go_loop [124] (fun i => ∃ j : Nat, j ≤ no ∧ i = .int .i64 j ∧ (occ.take j).all occB = true) (fun i => no - (intOf i).toNat)
  case atStart => exact ⟨0, Nat.zero_le _, rfl, rfl⟩
  case round =>
    obtain ⟨j, hj, rfl, hall⟩ := hrel
    have HA := Lib.hid hall
    clear hall
    rcases Nat.lt_or_ge j no with hlt | hge
    · obtain ⟨z, hz⟩ : ∃ z, occ[j]? = some z := ⟨_, List.getElem?_eq_getElem (by have := NL.out; omega)⟩
      obtain ⟨g3, o3, rfl, hg3, hc3⟩ := S1.out (by intro h; rw [show occ = [] by simpa [ints] using h] at hz; simp at hz)
      have y : ∀ u u', ((w.alloc u).alloc u').cell? ⟨g3, o3 + j, none⟩ = some (.int .i64 z) := fun u u' => ((show Below w.heap.size w ((w.alloc u).alloc u') by exact Base.bel).cell (p := ⟨g3, o3 + j, none⟩) hg3).trans (hc3 j (.int .i64 z) (by simp [ints, hz]))
      have HT := Lib.hid (all_take (f := occB) hz HA.out)
      have HB := Lib.hid (fun h => all_bad (f := occB) hz h)
      have hlt2 : (j : Int) < 9223372036854775807 := by have := NO.out; omega
      have i1 : (j : Int) < (no : Int) := by omega
      clear hz hc3
      rcases (by omega : z = 0 ∨ z = 1 ∨ z = 2 ∨ (z ≠ 0 ∧ z ≠ 1 ∧ z ≠ 2)) with rfl | rfl | rfl | ⟨z0, z1, z2⟩
      rotate_left 3
      · have e0 : (z != 0) = true := bne_iff_ne.2 z0
        have e1 : (z != 1) = true := bne_iff_ne.2 z1
        have e2 : (z != 2) = true := bne_iff_ne.2 z2
        have HQ9 := Lib.hid (show r = false by rw [HL.out, HB.out (show occB z = false by simp [occB, z0, z1, z2])]; rfl)
        clear z0 z1 z2
        go_wp2_with fail
        go_ret
        exact ⟨by rw [HQ9.out]; rfl, (by exact Base.bel)⟩
      all_goals
        go_wp2_with fail
        (try go_big_round); refine ⟨⟨j + 1, by omega, by go_num, ?_⟩, by simp [intOf]; omega⟩; rw [HT.out]; rfl
    · have hj' : j = no := by omega
      have HO := Lib.hid (show occ.all occB = true by have := HA.out; rw [hj', NL.out, List.take_length] at this; exact this)
      have i1 : ¬ ((j : Int) < (no : Int)) := by omega
      clear hj'
      by_cases q12 : T.size = 0
      · obtain rfl := size_nil q12
        clear q12
        go_wp2_with fail
        go_ret
        exact ⟨by rw [HL.out, HO.out]; rfl, (by exact Base.bel)⟩
      · obtain ⟨t1, t2⟩ := tl_ne q12
        have HF := Lib.hid (show r = true by rw [HL.out, HO.out]; simp [q12])
        clear q12
        go_wp2_with fail
        go_ret
        exact ⟨by rw [HF.out]; rfl, (by exact Base.bel)⟩

set_option maxHeartbeats 8000000 in
theorem own_2 (fn T : ByteArray) (n : Int) (lo hi : Bnd) (occ : List Int) (nk : Nat) (A1 A2 : Option Addr) (c1 c2 : Nat) (w : World) (hs : T.size ≤ 1099511627776) (s1 : Slc w w.heap.size A1 (ints occ)) (hno : occ.length ≤ maxLen) (hnk : nk ≤ maxLen) (ha : Asks w) (h0 : 2 < w.heap.size) :
    Calls Tryz.prog 54 #[.agg (nodeV 2 fn T n ⟨lo, hi, A1, occ.length, c1, A2, nk, c2⟩)] w fun e w' => e = .returned (.bool (ownB ⟨2, fn, T, n, lo, hi, occ⟩ nk)) ∧ Below w.heap.size w w' := by
  obtain ⟨r, hr⟩ : ∃ r, r = ownB ⟨2, fn, T, n, lo, hi, occ⟩ nk := ⟨_, rfl⟩
  rw [← hr]
  have HR := Lib.hid hr
  clear hr
  have hml : maxLen = 9223372036854775807 := rfl
  have NO := Lib.hid (show occ.length ≤ 9223372036854775807 from hno)
  have NK := Lib.hid (show nk ≤ 9223372036854775807 from hnk)
  have S1 := Lib.hid s1
  obtain ⟨no, hno1⟩ : ∃ x, x = occ.length := ⟨_, rfl⟩
  rw [← hno1] at NO ⊢
  have NL := Lib.hid hno1
  clear hno hnk s1 hml hno1
  have a0 : ∀ o, (w.alloc o).cell? ⟨2, 20, none⟩ = some (.bool true) := fun o => (Asks.below ha ((Below.refl w.heap.size w).alloc (Nat.le_refl _) o) h0) 2 0 _ (by decide) rfl
  have a1 : ∀ o, (w.alloc o).cell? ⟨2, 21, none⟩ = some (.bool true) := fun o => (Asks.below ha ((Below.refl w.heap.size w).alloc (Nat.le_refl _) o) h0) 2 1 _ (by decide) rfl
  have a2 : ∀ o, (w.alloc o).cell? ⟨2, 22, none⟩ = some (.int .i64 0) := fun o => (Asks.below ha ((Below.refl w.heap.size w).alloc (Nat.le_refl _) o) h0) 2 2 _ (by decide) rfl
  have a3 : ∀ o, (w.alloc o).cell? ⟨2, 23, none⟩ = some (.int .i64 999999999) := fun o => (Asks.below ha ((Below.refl w.heap.size w).alloc (Nat.le_refl _) o) h0) 2 3 _ (by decide) rfl
  have a4 : ∀ o, (w.alloc o).cell? ⟨2, 24, none⟩ = some (.bool false) := fun o => (Asks.below ha ((Below.refl w.heap.size w).alloc (Nat.le_refl _) o) h0) 2 4 _ (by decide) rfl
  have a5 : ∀ o, (w.alloc o).cell? ⟨2, 25, none⟩ = some (.bool false) := fun o => (Asks.below ha ((Below.refl w.heap.size w).alloc (Nat.le_refl _) o) h0) 2 5 _ (by decide) rfl
  have a6 : ∀ o, (w.alloc o).cell? ⟨2, 26, none⟩ = some (.int .i64 0) := fun o => (Asks.below ha ((Below.refl w.heap.size w).alloc (Nat.le_refl _) o) h0) 2 6 _ (by decide) rfl
  have a7 : ∀ o, (w.alloc o).cell? ⟨2, 27, none⟩ = some (.int .i64 (0)) := fun o => (Asks.below ha ((Below.refl w.heap.size w).alloc (Nat.le_refl _) o) h0) 2 7 _ (by decide) rfl
  have a8 : ∀ o, (w.alloc o).cell? ⟨2, 28, none⟩ = some (.int .i64 6) := fun o => (Asks.below ha ((Below.refl w.heap.size w).alloc (Nat.le_refl _) o) h0) 2 8 _ (by decide) rfl
  have a9 : ∀ o, (w.alloc o).cell? ⟨2, 29, none⟩ = some (.string ⟨#[]⟩) := fun o => (Asks.below ha ((Below.refl w.heap.size w).alloc (Nat.le_refl _) o) h0) 2 9 _ (by decide) rfl
  unfold nodeV
  simp only
  clear ha
  clear hs
  go_enter Tryz.func54, Tryz.ntmps54
  go_upto_region 4 with fail
  clear a0 a1 a2 a3 a4 a5 a6 a7 a8 a9
  by_cases q3 : 0 ≤ n
  rotate_left
  · have d1 : decide (n < 0) = true := decide_eq_true (by omega)
    have HF := Lib.hid (show r = false by rw [HR.out]; simp [ownB, askN, askOf, q3])
    clear q3
    go_wp2_with fail
    go_ret
    exact ⟨by rw [HF.out]; rfl, (by exact Base.bel)⟩
  have d1 : decide (n < 0) = false := decide_eq_false (by omega)
  by_cases q4 : n ≤ 999999999
  rotate_left
  · have d2 : decide ((999999999 : Int) < n) = true := decide_eq_true (by omega)
    have HF := Lib.hid (show r = false by rw [HR.out]; simp [ownB, askN, askOf, q4])
    clear q4
    go_wp2_with fail
    go_ret
    exact ⟨by rw [HF.out]; rfl, (by exact Base.bel)⟩
  have d2 : decide ((999999999 : Int) < n) = false := decide_eq_false (by omega)
  have Q3 := Lib.hid q3
  have Q4 := Lib.hid q4
  clear q3 q4
  go_upto_region 6 with fail
  clear d1 d2
  rcases bnd_cases lo with rfl | ⟨i, t, rfl⟩ | ⟨t, rfl⟩ | ⟨t, ht, rfl⟩
  rotate_left
  · skip
    have HF := Lib.hid (show r = false by rw [HR.out]; simp [ownB, askN, askOf, noEnd])
    go_wp2_with fail
    go_ret
    exact ⟨by rw [HF.out]; rfl, (by exact Base.bel)⟩
  · skip
    have HF := Lib.hid (show r = false by rw [HR.out]; simp [ownB, askN, askOf, noEnd])
    go_wp2_with fail
    go_ret
    exact ⟨by rw [HF.out]; rfl, (by exact Base.bel)⟩
  · obtain ⟨t1, t2⟩ := tl_ne ht
    have HF := Lib.hid (show r = false by rw [HR.out]; simp [ownB, askN, askOf, noEnd, ht])
    clear ht
    go_wp2_with fail
    go_ret
    exact ⟨by rw [HF.out]; rfl, (by exact Base.bel)⟩
  rcases bnd_cases hi with rfl | ⟨i, t, rfl⟩ | ⟨t, rfl⟩ | ⟨t, ht, rfl⟩
  rotate_left
  · skip
    have HF := Lib.hid (show r = false by rw [HR.out]; simp [ownB, askN, askOf, noEnd])
    go_wp2_with fail
    go_ret
    exact ⟨by rw [HF.out]; rfl, (by exact Base.bel)⟩
  · skip
    have HF := Lib.hid (show r = false by rw [HR.out]; simp [ownB, askN, askOf, noEnd])
    go_wp2_with fail
    go_ret
    exact ⟨by rw [HF.out]; rfl, (by exact Base.bel)⟩
  · obtain ⟨t1, t2⟩ := tl_ne ht
    have HF := Lib.hid (show r = false by rw [HR.out]; simp [ownB, askN, askOf, noEnd, ht])
    clear ht
    go_wp2_with fail
    go_ret
    exact ⟨by rw [HF.out]; rfl, (by exact Base.bel)⟩
  go_upto_region 8 with fail
  have d3 : decide ((nk : Int) < 0) = false := decide_eq_false (by omega)
  by_cases q7 : nk = 0
  rotate_left
  · have d4 : decide ((0 : Int) < (nk : Int)) = true := decide_eq_true (by omega)
    have d4n : decide (0 < nk) = true := decide_eq_true (by omega)
    have HF := Lib.hid (show r = false by rw [HR.out]; simp [ownB, askN, askOf, q7])
    clear q7
    go_wp2_with fail
    go_ret
    exact ⟨by rw [HF.out]; rfl, (by exact Base.bel)⟩
  have d4 : decide ((0 : Int) < (nk : Int)) = false := decide_eq_false (by omega)
  have d4n : decide (0 < nk) = false := decide_eq_false (by omega)
  have Q7 := Lib.hid q7
  clear q7
  go_upto_region 10 with fail
  clear d3 d4 d4n
  by_cases q10 : no = 0
  rotate_left
  · have d5 : decide ((0 : Int) < (no : Int)) = true := decide_eq_true (by omega)
    have d5n : decide (0 < no) = true := decide_eq_true (by omega)
    have q11 : occ ≠ [] := by intro h; have := NL.out; rw [h] at this; simp at this; omega
    have HF := Lib.hid (show r = false by rw [HR.out]; simp [ownB, askN, askOf, q11])
    clear q10 q11
    go_wp2_with fail
    go_ret
    exact ⟨by rw [HF.out]; rfl, (by exact Base.bel)⟩
  have d5 : decide ((0 : Int) < (no : Int)) = false := decide_eq_false (by omega)
  have d5n : decide (0 < no) = false := decide_eq_false (by omega)
  have Q10 := Lib.hid (show occ = [] by have := NL.out; exact List.eq_nil_of_length_eq_zero (by omega))
  clear q10
  have HL := Lib.hid (show r = (occ.all occB && (true)) by rw [HR.out]; simp [ownB, askN, askOf, Q3.out, Q4.out, noEnd, Q7.out, Q10.out] <;> (intros; rfl))
  go_upto_region 12 with fail
  clear d5 d5n
  go_wp2_with fail
  go_loop [124] (fun i => ∃ j : Nat, j ≤ no ∧ i = .int .i64 j ∧ (occ.take j).all occB = true) (fun i => no - (intOf i).toNat)
  case atStart => exact ⟨0, Nat.zero_le _, rfl, rfl⟩
  case round =>
    obtain ⟨j, hj, rfl, hall⟩ := hrel
    have HA := Lib.hid hall
    clear hall
    rcases Nat.lt_or_ge j no with hlt | hge
    · obtain ⟨z, hz⟩ : ∃ z, occ[j]? = some z := ⟨_, List.getElem?_eq_getElem (by have := NL.out; omega)⟩
      obtain ⟨g3, o3, rfl, hg3, hc3⟩ := S1.out (by intro h; rw [show occ = [] by simpa [ints] using h] at hz; simp at hz)
      have y : ∀ u u', ((w.alloc u).alloc u').cell? ⟨g3, o3 + j, none⟩ = some (.int .i64 z) := fun u u' => ((show Below w.heap.size w ((w.alloc u).alloc u') by exact Base.bel).cell (p := ⟨g3, o3 + j, none⟩) hg3).trans (hc3 j (.int .i64 z) (by simp [ints, hz]))
      have HT := Lib.hid (all_take (f := occB) hz HA.out)
      have HB := Lib.hid (fun h => all_bad (f := occB) hz h)
      have hlt2 : (j : Int) < 9223372036854775807 := by have := NO.out; omega
      have i1 : (j : Int) < (no : Int) := by omega
      clear hz hc3
      rcases (by omega : z = 0 ∨ z = 1 ∨ z = 2 ∨ (z ≠ 0 ∧ z ≠ 1 ∧ z ≠ 2)) with rfl | rfl | rfl | ⟨z0, z1, z2⟩
      rotate_left 3
      · have e0 : (z != 0) = true := bne_iff_ne.2 z0
        have e1 : (z != 1) = true := bne_iff_ne.2 z1
        have e2 : (z != 2) = true := bne_iff_ne.2 z2
        have HQ9 := Lib.hid (show r = false by rw [HL.out, HB.out (show occB z = false by simp [occB, z0, z1, z2])]; rfl)
        clear z0 z1 z2
        go_wp2_with fail
        go_ret
        exact ⟨by rw [HQ9.out]; rfl, (by exact Base.bel)⟩
      all_goals
        go_wp2_with fail
        (try go_big_round); refine ⟨⟨j + 1, by omega, by go_num, ?_⟩, by simp [intOf]; omega⟩; rw [HT.out]; rfl
    · have hj' : j = no := by omega
      have HO := Lib.hid (show occ.all occB = true by have := HA.out; rw [hj', NL.out, List.take_length] at this; exact this)
      have i1 : ¬ ((j : Int) < (no : Int)) := by omega
      clear hj'
      go_wp2_with fail
      go_ret
      exact ⟨by rw [HL.out, HO.out]; rfl, (by exact Base.bel)⟩

set_option maxHeartbeats 8000000 in
theorem own_3 (fn T : ByteArray) (n : Int) (lo hi : Bnd) (occ : List Int) (nk : Nat) (A1 A2 : Option Addr) (c1 c2 : Nat) (w : World) (hs : T.size ≤ 1099511627776) (s1 : Slc w w.heap.size A1 (ints occ)) (hno : occ.length ≤ maxLen) (hnk : nk ≤ maxLen) (ha : Asks w) (h0 : 2 < w.heap.size) :
    Calls Tryz.prog 54 #[.agg (nodeV 3 fn T n ⟨lo, hi, A1, occ.length, c1, A2, nk, c2⟩)] w fun e w' => e = .returned (.bool (ownB ⟨3, fn, T, n, lo, hi, occ⟩ nk)) ∧ Below w.heap.size w w' := by
  obtain ⟨r, hr⟩ : ∃ r, r = ownB ⟨3, fn, T, n, lo, hi, occ⟩ nk := ⟨_, rfl⟩
  rw [← hr]
  have HR := Lib.hid hr
  clear hr
  have hml : maxLen = 9223372036854775807 := rfl
  have NO := Lib.hid (show occ.length ≤ 9223372036854775807 from hno)
  have NK := Lib.hid (show nk ≤ 9223372036854775807 from hnk)
  have S1 := Lib.hid s1
  obtain ⟨no, hno1⟩ : ∃ x, x = occ.length := ⟨_, rfl⟩
  rw [← hno1] at NO ⊢
  have NL := Lib.hid hno1
  clear hno hnk s1 hml hno1
  have a0 : ∀ o, (w.alloc o).cell? ⟨2, 30, none⟩ = some (.bool true) := fun o => (Asks.below ha ((Below.refl w.heap.size w).alloc (Nat.le_refl _) o) h0) 3 0 _ (by decide) rfl
  have a1 : ∀ o, (w.alloc o).cell? ⟨2, 31, none⟩ = some (.bool true) := fun o => (Asks.below ha ((Below.refl w.heap.size w).alloc (Nat.le_refl _) o) h0) 3 1 _ (by decide) rfl
  have a2 : ∀ o, (w.alloc o).cell? ⟨2, 32, none⟩ = some (.int .i64 0) := fun o => (Asks.below ha ((Below.refl w.heap.size w).alloc (Nat.le_refl _) o) h0) 3 2 _ (by decide) rfl
  have a3 : ∀ o, (w.alloc o).cell? ⟨2, 33, none⟩ = some (.int .i64 0) := fun o => (Asks.below ha ((Below.refl w.heap.size w).alloc (Nat.le_refl _) o) h0) 3 3 _ (by decide) rfl
  have a4 : ∀ o, (w.alloc o).cell? ⟨2, 34, none⟩ = some (.bool false) := fun o => (Asks.below ha ((Below.refl w.heap.size w).alloc (Nat.le_refl _) o) h0) 3 4 _ (by decide) rfl
  have a5 : ∀ o, (w.alloc o).cell? ⟨2, 35, none⟩ = some (.bool false) := fun o => (Asks.below ha ((Below.refl w.heap.size w).alloc (Nat.le_refl _) o) h0) 3 5 _ (by decide) rfl
  have a6 : ∀ o, (w.alloc o).cell? ⟨2, 36, none⟩ = some (.int .i64 0) := fun o => (Asks.below ha ((Below.refl w.heap.size w).alloc (Nat.le_refl _) o) h0) 3 6 _ (by decide) rfl
  have a7 : ∀ o, (w.alloc o).cell? ⟨2, 37, none⟩ = some (.int .i64 (0)) := fun o => (Asks.below ha ((Below.refl w.heap.size w).alloc (Nat.le_refl _) o) h0) 3 7 _ (by decide) rfl
  have a8 : ∀ o, (w.alloc o).cell? ⟨2, 38, none⟩ = some (.int .i64 6) := fun o => (Asks.below ha ((Below.refl w.heap.size w).alloc (Nat.le_refl _) o) h0) 3 8 _ (by decide) rfl
  have a9 : ∀ o, (w.alloc o).cell? ⟨2, 39, none⟩ = some (.string ⟨#[]⟩) := fun o => (Asks.below ha ((Below.refl w.heap.size w).alloc (Nat.le_refl _) o) h0) 3 9 _ (by decide) rfl
  unfold nodeV
  simp only
  clear ha
  clear hs
  go_enter Tryz.func54, Tryz.ntmps54
  go_upto_region 4 with fail
  clear a0 a1 a2 a3 a4 a5 a6 a7 a8 a9
  by_cases q3 : 0 ≤ n
  rotate_left
  · have d1 : decide (n < 0) = true := decide_eq_true (by omega)
    have HF := Lib.hid (show r = false by rw [HR.out]; simp [ownB, askN, askOf, q3])
    clear q3
    go_wp2_with fail
    go_ret
    exact ⟨by rw [HF.out]; rfl, (by exact Base.bel)⟩
  have d1 : decide (n < 0) = false := decide_eq_false (by omega)
  by_cases q4 : n ≤ 0
  rotate_left
  · have d2 : decide ((0 : Int) < n) = true := decide_eq_true (by omega)
    have HF := Lib.hid (show r = false by rw [HR.out]; simp [ownB, askN, askOf, q4])
    clear q4
    go_wp2_with fail
    go_ret
    exact ⟨by rw [HF.out]; rfl, (by exact Base.bel)⟩
  have d2 : decide ((0 : Int) < n) = false := decide_eq_false (by omega)
  have Q3 := Lib.hid q3
  have Q4 := Lib.hid q4
  clear q3 q4
  go_upto_region 6 with fail
  clear d1 d2
  rcases bnd_cases lo with rfl | ⟨i, t, rfl⟩ | ⟨t, rfl⟩ | ⟨t, ht, rfl⟩
  rotate_left
  · skip
    have HF := Lib.hid (show r = false by rw [HR.out]; simp [ownB, askN, askOf, noEnd])
    go_wp2_with fail
    go_ret
    exact ⟨by rw [HF.out]; rfl, (by exact Base.bel)⟩
  · skip
    have HF := Lib.hid (show r = false by rw [HR.out]; simp [ownB, askN, askOf, noEnd])
    go_wp2_with fail
    go_ret
    exact ⟨by rw [HF.out]; rfl, (by exact Base.bel)⟩
  · obtain ⟨t1, t2⟩ := tl_ne ht
    have HF := Lib.hid (show r = false by rw [HR.out]; simp [ownB, askN, askOf, noEnd, ht])
    clear ht
    go_wp2_with fail
    go_ret
    exact ⟨by rw [HF.out]; rfl, (by exact Base.bel)⟩
  rcases bnd_cases hi with rfl | ⟨i, t, rfl⟩ | ⟨t, rfl⟩ | ⟨t, ht, rfl⟩
  rotate_left
  · skip
    have HF := Lib.hid (show r = false by rw [HR.out]; simp [ownB, askN, askOf, noEnd])
    go_wp2_with fail
    go_ret
    exact ⟨by rw [HF.out]; rfl, (by exact Base.bel)⟩
  · skip
    have HF := Lib.hid (show r = false by rw [HR.out]; simp [ownB, askN, askOf, noEnd])
    go_wp2_with fail
    go_ret
    exact ⟨by rw [HF.out]; rfl, (by exact Base.bel)⟩
  · obtain ⟨t1, t2⟩ := tl_ne ht
    have HF := Lib.hid (show r = false by rw [HR.out]; simp [ownB, askN, askOf, noEnd, ht])
    clear ht
    go_wp2_with fail
    go_ret
    exact ⟨by rw [HF.out]; rfl, (by exact Base.bel)⟩
  go_upto_region 8 with fail
  have d3 : decide ((nk : Int) < 0) = false := decide_eq_false (by omega)
  by_cases q7 : nk = 0
  rotate_left
  · have d4 : decide ((0 : Int) < (nk : Int)) = true := decide_eq_true (by omega)
    have d4n : decide (0 < nk) = true := decide_eq_true (by omega)
    have HF := Lib.hid (show r = false by rw [HR.out]; simp [ownB, askN, askOf, q7])
    clear q7
    go_wp2_with fail
    go_ret
    exact ⟨by rw [HF.out]; rfl, (by exact Base.bel)⟩
  have d4 : decide ((0 : Int) < (nk : Int)) = false := decide_eq_false (by omega)
  have d4n : decide (0 < nk) = false := decide_eq_false (by omega)
  have Q7 := Lib.hid q7
  clear q7
  go_upto_region 10 with fail
  clear d3 d4 d4n
  by_cases q10 : no = 0
  rotate_left
  · have d5 : decide ((0 : Int) < (no : Int)) = true := decide_eq_true (by omega)
    have d5n : decide (0 < no) = true := decide_eq_true (by omega)
    have q11 : occ ≠ [] := by intro h; have := NL.out; rw [h] at this; simp at this; omega
    have HF := Lib.hid (show r = false by rw [HR.out]; simp [ownB, askN, askOf, q11])
    clear q10 q11
    go_wp2_with fail
    go_ret
    exact ⟨by rw [HF.out]; rfl, (by exact Base.bel)⟩
  have d5 : decide ((0 : Int) < (no : Int)) = false := decide_eq_false (by omega)
  have d5n : decide (0 < no) = false := decide_eq_false (by omega)
  have Q10 := Lib.hid (show occ = [] by have := NL.out; exact List.eq_nil_of_length_eq_zero (by omega))
  clear q10
  have HL := Lib.hid (show r = (occ.all occB && (T.size != 0)) by rw [HR.out]; simp [ownB, askN, askOf, Q3.out, Q4.out, noEnd, Q7.out, Q10.out] <;> (intros; rfl))
  go_upto_region 12 with fail
  clear d5 d5n
  go_wp2_with fail
  go_loop [124] (fun i => ∃ j : Nat, j ≤ no ∧ i = .int .i64 j ∧ (occ.take j).all occB = true) (fun i => no - (intOf i).toNat)
  case atStart => exact ⟨0, Nat.zero_le _, rfl, rfl⟩
  case round =>
    obtain ⟨j, hj, rfl, hall⟩ := hrel
    have HA := Lib.hid hall
    clear hall
    rcases Nat.lt_or_ge j no with hlt | hge
    · obtain ⟨z, hz⟩ : ∃ z, occ[j]? = some z := ⟨_, List.getElem?_eq_getElem (by have := NL.out; omega)⟩
      obtain ⟨g3, o3, rfl, hg3, hc3⟩ := S1.out (by intro h; rw [show occ = [] by simpa [ints] using h] at hz; simp at hz)
      have y : ∀ u u', ((w.alloc u).alloc u').cell? ⟨g3, o3 + j, none⟩ = some (.int .i64 z) := fun u u' => ((show Below w.heap.size w ((w.alloc u).alloc u') by exact Base.bel).cell (p := ⟨g3, o3 + j, none⟩) hg3).trans (hc3 j (.int .i64 z) (by simp [ints, hz]))
      have HT := Lib.hid (all_take (f := occB) hz HA.out)
      have HB := Lib.hid (fun h => all_bad (f := occB) hz h)
      have hlt2 : (j : Int) < 9223372036854775807 := by have := NO.out; omega
      have i1 : (j : Int) < (no : Int) := by omega
      clear hz hc3
      rcases (by omega : z = 0 ∨ z = 1 ∨ z = 2 ∨ (z ≠ 0 ∧ z ≠ 1 ∧ z ≠ 2)) with rfl | rfl | rfl | ⟨z0, z1, z2⟩
      rotate_left 3
      · have e0 : (z != 0) = true := bne_iff_ne.2 z0
        have e1 : (z != 1) = true := bne_iff_ne.2 z1
        have e2 : (z != 2) = true := bne_iff_ne.2 z2
        have HQ9 := Lib.hid (show r = false by rw [HL.out, HB.out (show occB z = false by simp [occB, z0, z1, z2])]; rfl)
        clear z0 z1 z2
        go_wp2_with fail
        go_ret
        exact ⟨by rw [HQ9.out]; rfl, (by exact Base.bel)⟩
      all_goals
        go_wp2_with fail
        (try go_big_round); refine ⟨⟨j + 1, by omega, by go_num, ?_⟩, by simp [intOf]; omega⟩; rw [HT.out]; rfl
    · have hj' : j = no := by omega
      have HO := Lib.hid (show occ.all occB = true by have := HA.out; rw [hj', NL.out, List.take_length] at this; exact this)
      have i1 : ¬ ((j : Int) < (no : Int)) := by omega
      clear hj'
      by_cases q12 : T.size = 0
      · obtain rfl := size_nil q12
        clear q12
        go_wp2_with fail
        go_ret
        exact ⟨by rw [HL.out, HO.out]; rfl, (by exact Base.bel)⟩
      · obtain ⟨t1, t2⟩ := tl_ne q12
        have HF := Lib.hid (show r = true by rw [HL.out, HO.out]; simp [q12])
        clear q12
        go_wp2_with fail
        go_ret
        exact ⟨by rw [HF.out]; rfl, (by exact Base.bel)⟩

set_option maxHeartbeats 8000000 in
theorem own_4 (fn T : ByteArray) (n : Int) (lo hi : Bnd) (occ : List Int) (nk : Nat) (A1 A2 : Option Addr) (c1 c2 : Nat) (w : World) (hs : T.size ≤ 1099511627776) (s1 : Slc w w.heap.size A1 (ints occ)) (hno : occ.length ≤ maxLen) (hnk : nk ≤ maxLen) (ha : Asks w) (h0 : 2 < w.heap.size) :
    Calls Tryz.prog 54 #[.agg (nodeV 4 fn T n ⟨lo, hi, A1, occ.length, c1, A2, nk, c2⟩)] w fun e w' => e = .returned (.bool (ownB ⟨4, fn, T, n, lo, hi, occ⟩ nk)) ∧ Below w.heap.size w w' := by
  obtain ⟨r, hr⟩ : ∃ r, r = ownB ⟨4, fn, T, n, lo, hi, occ⟩ nk := ⟨_, rfl⟩
  rw [← hr]
  have HR := Lib.hid hr
  clear hr
  have hml : maxLen = 9223372036854775807 := rfl
  have NO := Lib.hid (show occ.length ≤ 9223372036854775807 from hno)
  have NK := Lib.hid (show nk ≤ 9223372036854775807 from hnk)
  have S1 := Lib.hid s1
  obtain ⟨no, hno1⟩ : ∃ x, x = occ.length := ⟨_, rfl⟩
  rw [← hno1] at NO ⊢
  have NL := Lib.hid hno1
  clear hno hnk s1 hml hno1
  have a0 : ∀ o, (w.alloc o).cell? ⟨2, 40, none⟩ = some (.bool true) := fun o => (Asks.below ha ((Below.refl w.heap.size w).alloc (Nat.le_refl _) o) h0) 4 0 _ (by decide) rfl
  have a1 : ∀ o, (w.alloc o).cell? ⟨2, 41, none⟩ = some (.bool true) := fun o => (Asks.below ha ((Below.refl w.heap.size w).alloc (Nat.le_refl _) o) h0) 4 1 _ (by decide) rfl
  have a2 : ∀ o, (w.alloc o).cell? ⟨2, 42, none⟩ = some (.int .i64 0) := fun o => (Asks.below ha ((Below.refl w.heap.size w).alloc (Nat.le_refl _) o) h0) 4 2 _ (by decide) rfl
  have a3 : ∀ o, (w.alloc o).cell? ⟨2, 43, none⟩ = some (.int .i64 0) := fun o => (Asks.below ha ((Below.refl w.heap.size w).alloc (Nat.le_refl _) o) h0) 4 3 _ (by decide) rfl
  have a4 : ∀ o, (w.alloc o).cell? ⟨2, 44, none⟩ = some (.bool false) := fun o => (Asks.below ha ((Below.refl w.heap.size w).alloc (Nat.le_refl _) o) h0) 4 4 _ (by decide) rfl
  have a5 : ∀ o, (w.alloc o).cell? ⟨2, 45, none⟩ = some (.bool false) := fun o => (Asks.below ha ((Below.refl w.heap.size w).alloc (Nat.le_refl _) o) h0) 4 5 _ (by decide) rfl
  have a6 : ∀ o, (w.alloc o).cell? ⟨2, 46, none⟩ = some (.int .i64 0) := fun o => (Asks.below ha ((Below.refl w.heap.size w).alloc (Nat.le_refl _) o) h0) 4 6 _ (by decide) rfl
  have a7 : ∀ o, (w.alloc o).cell? ⟨2, 47, none⟩ = some (.int .i64 (0)) := fun o => (Asks.below ha ((Below.refl w.heap.size w).alloc (Nat.le_refl _) o) h0) 4 7 _ (by decide) rfl
  have a8 : ∀ o, (w.alloc o).cell? ⟨2, 48, none⟩ = some (.int .i64 6) := fun o => (Asks.below ha ((Below.refl w.heap.size w).alloc (Nat.le_refl _) o) h0) 4 8 _ (by decide) rfl
  have a9 : ∀ o, (w.alloc o).cell? ⟨2, 49, none⟩ = some (.string ⟨#[]⟩) := fun o => (Asks.below ha ((Below.refl w.heap.size w).alloc (Nat.le_refl _) o) h0) 4 9 _ (by decide) rfl
  unfold nodeV
  simp only
  clear ha
  have WK := Lib.hid (fun W => wild_any T W hs)
  clear hs
  go_enter Tryz.func54, Tryz.ntmps54
  go_upto_region 4 with fail
  clear a0 a1 a2 a3 a4 a5 a6 a7 a8 a9
  by_cases q3 : 0 ≤ n
  rotate_left
  · have d1 : decide (n < 0) = true := decide_eq_true (by omega)
    have HF := Lib.hid (show r = false by rw [HR.out]; simp [ownB, askN, askOf, q3])
    clear q3
    go_wp2_with fail
    go_ret
    exact ⟨by rw [HF.out]; rfl, (by exact Base.bel)⟩
  have d1 : decide (n < 0) = false := decide_eq_false (by omega)
  by_cases q4 : n ≤ 0
  rotate_left
  · have d2 : decide ((0 : Int) < n) = true := decide_eq_true (by omega)
    have HF := Lib.hid (show r = false by rw [HR.out]; simp [ownB, askN, askOf, q4])
    clear q4
    go_wp2_with fail
    go_ret
    exact ⟨by rw [HF.out]; rfl, (by exact Base.bel)⟩
  have d2 : decide ((0 : Int) < n) = false := decide_eq_false (by omega)
  have Q3 := Lib.hid q3
  have Q4 := Lib.hid q4
  clear q3 q4
  go_upto_region 6 with fail
  clear d1 d2
  rcases bnd_cases lo with rfl | ⟨i, t, rfl⟩ | ⟨t, rfl⟩ | ⟨t, ht, rfl⟩
  rotate_left
  · skip
    have HF := Lib.hid (show r = false by rw [HR.out]; simp [ownB, askN, askOf, noEnd])
    go_wp2_with fail
    go_ret
    exact ⟨by rw [HF.out]; rfl, (by exact Base.bel)⟩
  · skip
    have HF := Lib.hid (show r = false by rw [HR.out]; simp [ownB, askN, askOf, noEnd])
    go_wp2_with fail
    go_ret
    exact ⟨by rw [HF.out]; rfl, (by exact Base.bel)⟩
  · obtain ⟨t1, t2⟩ := tl_ne ht
    have HF := Lib.hid (show r = false by rw [HR.out]; simp [ownB, askN, askOf, noEnd, ht])
    clear ht
    go_wp2_with fail
    go_ret
    exact ⟨by rw [HF.out]; rfl, (by exact Base.bel)⟩
  rcases bnd_cases hi with rfl | ⟨i, t, rfl⟩ | ⟨t, rfl⟩ | ⟨t, ht, rfl⟩
  rotate_left
  · skip
    have HF := Lib.hid (show r = false by rw [HR.out]; simp [ownB, askN, askOf, noEnd])
    go_wp2_with fail
    go_ret
    exact ⟨by rw [HF.out]; rfl, (by exact Base.bel)⟩
  · skip
    have HF := Lib.hid (show r = false by rw [HR.out]; simp [ownB, askN, askOf, noEnd])
    go_wp2_with fail
    go_ret
    exact ⟨by rw [HF.out]; rfl, (by exact Base.bel)⟩
  · obtain ⟨t1, t2⟩ := tl_ne ht
    have HF := Lib.hid (show r = false by rw [HR.out]; simp [ownB, askN, askOf, noEnd, ht])
    clear ht
    go_wp2_with fail
    go_ret
    exact ⟨by rw [HF.out]; rfl, (by exact Base.bel)⟩
  go_upto_region 8 with fail
  have d3 : decide ((nk : Int) < 0) = false := decide_eq_false (by omega)
  by_cases q7 : nk = 0
  rotate_left
  · have d4 : decide ((0 : Int) < (nk : Int)) = true := decide_eq_true (by omega)
    have d4n : decide (0 < nk) = true := decide_eq_true (by omega)
    have HF := Lib.hid (show r = false by rw [HR.out]; simp [ownB, askN, askOf, q7])
    clear q7
    go_wp2_with fail
    go_ret
    exact ⟨by rw [HF.out]; rfl, (by exact Base.bel)⟩
  have d4 : decide ((0 : Int) < (nk : Int)) = false := decide_eq_false (by omega)
  have d4n : decide (0 < nk) = false := decide_eq_false (by omega)
  have Q7 := Lib.hid q7
  clear q7
  go_upto_region 10 with fail
  clear d3 d4 d4n
  by_cases q10 : no = 0
  rotate_left
  · have d5 : decide ((0 : Int) < (no : Int)) = true := decide_eq_true (by omega)
    have d5n : decide (0 < no) = true := decide_eq_true (by omega)
    have q11 : occ ≠ [] := by intro h; have := NL.out; rw [h] at this; simp at this; omega
    have HF := Lib.hid (show r = false by rw [HR.out]; simp [ownB, askN, askOf, q11])
    clear q10 q11
    go_wp2_with fail
    go_ret
    exact ⟨by rw [HF.out]; rfl, (by exact Base.bel)⟩
  have d5 : decide ((0 : Int) < (no : Int)) = false := decide_eq_false (by omega)
  have d5n : decide (0 < no) = false := decide_eq_false (by omega)
  have Q10 := Lib.hid (show occ = [] by have := NL.out; exact List.eq_nil_of_length_eq_zero (by omega))
  clear q10
  have HL := Lib.hid (show r = (occ.all occB && (wildB T)) by rw [HR.out]; simp [ownB, askN, askOf, Q3.out, Q4.out, noEnd, Q7.out, Q10.out] <;> (intros; rfl))
  go_upto_region 12 with fail
  clear d5 d5n
  go_wp2_with fail
  go_loop [124] (fun i => ∃ j : Nat, j ≤ no ∧ i = .int .i64 j ∧ (occ.take j).all occB = true) (fun i => no - (intOf i).toNat)
  case atStart => exact ⟨0, Nat.zero_le _, rfl, rfl⟩
  case round =>
    obtain ⟨j, hj, rfl, hall⟩ := hrel
    have HA := Lib.hid hall
    clear hall
    rcases Nat.lt_or_ge j no with hlt | hge
    · obtain ⟨z, hz⟩ : ∃ z, occ[j]? = some z := ⟨_, List.getElem?_eq_getElem (by have := NL.out; omega)⟩
      obtain ⟨g3, o3, rfl, hg3, hc3⟩ := S1.out (by intro h; rw [show occ = [] by simpa [ints] using h] at hz; simp at hz)
      have y : ∀ u u', ((w.alloc u).alloc u').cell? ⟨g3, o3 + j, none⟩ = some (.int .i64 z) := fun u u' => ((show Below w.heap.size w ((w.alloc u).alloc u') by exact Base.bel).cell (p := ⟨g3, o3 + j, none⟩) hg3).trans (hc3 j (.int .i64 z) (by simp [ints, hz]))
      have HT := Lib.hid (all_take (f := occB) hz HA.out)
      have HB := Lib.hid (fun h => all_bad (f := occB) hz h)
      have hlt2 : (j : Int) < 9223372036854775807 := by have := NO.out; omega
      have i1 : (j : Int) < (no : Int) := by omega
      clear hz hc3
      rcases (by omega : z = 0 ∨ z = 1 ∨ z = 2 ∨ (z ≠ 0 ∧ z ≠ 1 ∧ z ≠ 2)) with rfl | rfl | rfl | ⟨z0, z1, z2⟩
      rotate_left 3
      · have e0 : (z != 0) = true := bne_iff_ne.2 z0
        have e1 : (z != 1) = true := bne_iff_ne.2 z1
        have e2 : (z != 2) = true := bne_iff_ne.2 z2
        have HQ9 := Lib.hid (show r = false by rw [HL.out, HB.out (show occB z = false by simp [occB, z0, z1, z2])]; rfl)
        clear z0 z1 z2
        go_wp2_with fail
        go_ret
        exact ⟨by rw [HQ9.out]; rfl, (by exact Base.bel)⟩
      all_goals
        go_wp2_with fail
        (try go_big_round); refine ⟨⟨j + 1, by omega, by go_num, ?_⟩, by simp [intOf]; omega⟩; rw [HT.out]; rfl
    · have hj' : j = no := by omega
      have HO := Lib.hid (show occ.all occB = true by have := HA.out; rw [hj', NL.out, List.take_length] at this; exact this)
      have i1 : ¬ ((j : Int) < (no : Int)) := by omega
      clear hj'
      go_wp2_with (go_at_call 96; refine (WK.out _).mono ?_; rintro e wd ⟨rfl, hbd⟩)
      go_ret
      exact ⟨by rw [HL.out, HO.out]; rfl, bchain (by exact Base.bel) hbd⟩

set_option maxHeartbeats 8000000 in
theorem own_5 (fn T : ByteArray) (n : Int) (lo hi : Bnd) (occ : List Int) (nk : Nat) (A1 A2 : Option Addr) (c1 c2 : Nat) (w : World) (hs : T.size ≤ 1099511627776) (s1 : Slc w w.heap.size A1 (ints occ)) (hno : occ.length ≤ maxLen) (hnk : nk ≤ maxLen) (ha : Asks w) (h0 : 2 < w.heap.size) :
    Calls Tryz.prog 54 #[.agg (nodeV 5 fn T n ⟨lo, hi, A1, occ.length, c1, A2, nk, c2⟩)] w fun e w' => e = .returned (.bool (ownB ⟨5, fn, T, n, lo, hi, occ⟩ nk)) ∧ Below w.heap.size w w' := by
  obtain ⟨r, hr⟩ : ∃ r, r = ownB ⟨5, fn, T, n, lo, hi, occ⟩ nk := ⟨_, rfl⟩
  rw [← hr]
  have HR := Lib.hid hr
  clear hr
  have hml : maxLen = 9223372036854775807 := rfl
  have NO := Lib.hid (show occ.length ≤ 9223372036854775807 from hno)
  have NK := Lib.hid (show nk ≤ 9223372036854775807 from hnk)
  have S1 := Lib.hid s1
  obtain ⟨no, hno1⟩ : ∃ x, x = occ.length := ⟨_, rfl⟩
  rw [← hno1] at NO ⊢
  have NL := Lib.hid hno1
  clear hno hnk s1 hml hno1
  have a0 : ∀ o, (w.alloc o).cell? ⟨2, 50, none⟩ = some (.bool true) := fun o => (Asks.below ha ((Below.refl w.heap.size w).alloc (Nat.le_refl _) o) h0) 5 0 _ (by decide) rfl
  have a1 : ∀ o, (w.alloc o).cell? ⟨2, 51, none⟩ = some (.bool true) := fun o => (Asks.below ha ((Below.refl w.heap.size w).alloc (Nat.le_refl _) o) h0) 5 1 _ (by decide) rfl
  have a2 : ∀ o, (w.alloc o).cell? ⟨2, 52, none⟩ = some (.int .i64 1) := fun o => (Asks.below ha ((Below.refl w.heap.size w).alloc (Nat.le_refl _) o) h0) 5 2 _ (by decide) rfl
  have a3 : ∀ o, (w.alloc o).cell? ⟨2, 53, none⟩ = some (.int .i64 2) := fun o => (Asks.below ha ((Below.refl w.heap.size w).alloc (Nat.le_refl _) o) h0) 5 3 _ (by decide) rfl
  have a4 : ∀ o, (w.alloc o).cell? ⟨2, 54, none⟩ = some (.bool false) := fun o => (Asks.below ha ((Below.refl w.heap.size w).alloc (Nat.le_refl _) o) h0) 5 4 _ (by decide) rfl
  have a5 : ∀ o, (w.alloc o).cell? ⟨2, 55, none⟩ = some (.bool false) := fun o => (Asks.below ha ((Below.refl w.heap.size w).alloc (Nat.le_refl _) o) h0) 5 5 _ (by decide) rfl
  have a6 : ∀ o, (w.alloc o).cell? ⟨2, 56, none⟩ = some (.int .i64 0) := fun o => (Asks.below ha ((Below.refl w.heap.size w).alloc (Nat.le_refl _) o) h0) 5 6 _ (by decide) rfl
  have a7 : ∀ o, (w.alloc o).cell? ⟨2, 57, none⟩ = some (.int .i64 (0)) := fun o => (Asks.below ha ((Below.refl w.heap.size w).alloc (Nat.le_refl _) o) h0) 5 7 _ (by decide) rfl
  have a8 : ∀ o, (w.alloc o).cell? ⟨2, 58, none⟩ = some (.int .i64 6) := fun o => (Asks.below ha ((Below.refl w.heap.size w).alloc (Nat.le_refl _) o) h0) 5 8 _ (by decide) rfl
  have a9 : ∀ o, (w.alloc o).cell? ⟨2, 59, none⟩ = some (.string ⟨#[]⟩) := fun o => (Asks.below ha ((Below.refl w.heap.size w).alloc (Nat.le_refl _) o) h0) 5 9 _ (by decide) rfl
  unfold nodeV
  simp only
  clear ha
  clear hs
  go_enter Tryz.func54, Tryz.ntmps54
  go_upto_region 4 with fail
  clear a0 a1 a2 a3 a4 a5 a6 a7 a8 a9
  by_cases q3 : 1 ≤ n
  rotate_left
  · have d1 : decide (n < 1) = true := decide_eq_true (by omega)
    have HF := Lib.hid (show r = false by rw [HR.out]; simp [ownB, askN, askOf, q3])
    clear q3
    go_wp2_with fail
    go_ret
    exact ⟨by rw [HF.out]; rfl, (by exact Base.bel)⟩
  have d1 : decide (n < 1) = false := decide_eq_false (by omega)
  by_cases q4 : n ≤ 2
  rotate_left
  · have d2 : decide ((2 : Int) < n) = true := decide_eq_true (by omega)
    have HF := Lib.hid (show r = false by rw [HR.out]; simp [ownB, askN, askOf, q4])
    clear q4
    go_wp2_with fail
    go_ret
    exact ⟨by rw [HF.out]; rfl, (by exact Base.bel)⟩
  have d2 : decide ((2 : Int) < n) = false := decide_eq_false (by omega)
  have Q3 := Lib.hid q3
  have Q4 := Lib.hid q4
  clear q3 q4
  go_upto_region 6 with fail
  clear d1 d2
  rcases bnd_cases lo with rfl | ⟨i, t, rfl⟩ | ⟨t, rfl⟩ | ⟨t, ht, rfl⟩
  rotate_left
  · skip
    have HF := Lib.hid (show r = false by rw [HR.out]; simp [ownB, askN, askOf, noEnd])
    go_wp2_with fail
    go_ret
    exact ⟨by rw [HF.out]; rfl, (by exact Base.bel)⟩
  · skip
    have HF := Lib.hid (show r = false by rw [HR.out]; simp [ownB, askN, askOf, noEnd])
    go_wp2_with fail
    go_ret
    exact ⟨by rw [HF.out]; rfl, (by exact Base.bel)⟩
  · obtain ⟨t1, t2⟩ := tl_ne ht
    have HF := Lib.hid (show r = false by rw [HR.out]; simp [ownB, askN, askOf, noEnd, ht])
    clear ht
    go_wp2_with fail
    go_ret
    exact ⟨by rw [HF.out]; rfl, (by exact Base.bel)⟩
  rcases bnd_cases hi with rfl | ⟨i, t, rfl⟩ | ⟨t, rfl⟩ | ⟨t, ht, rfl⟩
  rotate_left
  · skip
    have HF := Lib.hid (show r = false by rw [HR.out]; simp [ownB, askN, askOf, noEnd])
    go_wp2_with fail
    go_ret
    exact ⟨by rw [HF.out]; rfl, (by exact Base.bel)⟩
  · skip
    have HF := Lib.hid (show r = false by rw [HR.out]; simp [ownB, askN, askOf, noEnd])
    go_wp2_with fail
    go_ret
    exact ⟨by rw [HF.out]; rfl, (by exact Base.bel)⟩
  · obtain ⟨t1, t2⟩ := tl_ne ht
    have HF := Lib.hid (show r = false by rw [HR.out]; simp [ownB, askN, askOf, noEnd, ht])
    clear ht
    go_wp2_with fail
    go_ret
    exact ⟨by rw [HF.out]; rfl, (by exact Base.bel)⟩
  go_upto_region 8 with fail
  have d3 : decide ((nk : Int) < 0) = false := decide_eq_false (by omega)
  by_cases q7 : nk = 0
  rotate_left
  · have d4 : decide ((0 : Int) < (nk : Int)) = true := decide_eq_true (by omega)
    have d4n : decide (0 < nk) = true := decide_eq_true (by omega)
    have HF := Lib.hid (show r = false by rw [HR.out]; simp [ownB, askN, askOf, q7])
    clear q7
    go_wp2_with fail
    go_ret
    exact ⟨by rw [HF.out]; rfl, (by exact Base.bel)⟩
  have d4 : decide ((0 : Int) < (nk : Int)) = false := decide_eq_false (by omega)
  have d4n : decide (0 < nk) = false := decide_eq_false (by omega)
  have Q7 := Lib.hid q7
  clear q7
  go_upto_region 10 with fail
  clear d3 d4 d4n
  by_cases q10 : no = 0
  rotate_left
  · have d5 : decide ((0 : Int) < (no : Int)) = true := decide_eq_true (by omega)
    have d5n : decide (0 < no) = true := decide_eq_true (by omega)
    have q11 : occ ≠ [] := by intro h; have := NL.out; rw [h] at this; simp at this; omega
    have HF := Lib.hid (show r = false by rw [HR.out]; simp [ownB, askN, askOf, q11])
    clear q10 q11
    go_wp2_with fail
    go_ret
    exact ⟨by rw [HF.out]; rfl, (by exact Base.bel)⟩
  have d5 : decide ((0 : Int) < (no : Int)) = false := decide_eq_false (by omega)
  have d5n : decide (0 < no) = false := decide_eq_false (by omega)
  have Q10 := Lib.hid (show occ = [] by have := NL.out; exact List.eq_nil_of_length_eq_zero (by omega))
  clear q10
  have HL := Lib.hid (show r = (occ.all occB && (T.size != 0)) by rw [HR.out]; simp [ownB, askN, askOf, Q3.out, Q4.out, noEnd, Q7.out, Q10.out] <;> (intros; rfl))
  go_upto_region 12 with fail
  clear d5 d5n
  go_wp2_with fail
  go_loop [124] (fun i => ∃ j : Nat, j ≤ no ∧ i = .int .i64 j ∧ (occ.take j).all occB = true) (fun i => no - (intOf i).toNat)
  case atStart => exact ⟨0, Nat.zero_le _, rfl, rfl⟩
  case round =>
    obtain ⟨j, hj, rfl, hall⟩ := hrel
    have HA := Lib.hid hall
    clear hall
    rcases Nat.lt_or_ge j no with hlt | hge
    · obtain ⟨z, hz⟩ : ∃ z, occ[j]? = some z := ⟨_, List.getElem?_eq_getElem (by have := NL.out; omega)⟩
      obtain ⟨g3, o3, rfl, hg3, hc3⟩ := S1.out (by intro h; rw [show occ = [] by simpa [ints] using h] at hz; simp at hz)
      have y : ∀ u u', ((w.alloc u).alloc u').cell? ⟨g3, o3 + j, none⟩ = some (.int .i64 z) := fun u u' => ((show Below w.heap.size w ((w.alloc u).alloc u') by exact Base.bel).cell (p := ⟨g3, o3 + j, none⟩) hg3).trans (hc3 j (.int .i64 z) (by simp [ints, hz]))
      have HT := Lib.hid (all_take (f := occB) hz HA.out)
      have HB := Lib.hid (fun h => all_bad (f := occB) hz h)
      have hlt2 : (j : Int) < 9223372036854775807 := by have := NO.out; omega
      have i1 : (j : Int) < (no : Int) := by omega
      clear hz hc3
      rcases (by omega : z = 0 ∨ z = 1 ∨ z = 2 ∨ (z ≠ 0 ∧ z ≠ 1 ∧ z ≠ 2)) with rfl | rfl | rfl | ⟨z0, z1, z2⟩
      rotate_left 3
      · have e0 : (z != 0) = true := bne_iff_ne.2 z0
        have e1 : (z != 1) = true := bne_iff_ne.2 z1
        have e2 : (z != 2) = true := bne_iff_ne.2 z2
        have HQ9 := Lib.hid (show r = false by rw [HL.out, HB.out (show occB z = false by simp [occB, z0, z1, z2])]; rfl)
        clear z0 z1 z2
        go_wp2_with fail
        go_ret
        exact ⟨by rw [HQ9.out]; rfl, (by exact Base.bel)⟩
      all_goals
        go_wp2_with fail
        (try go_big_round); refine ⟨⟨j + 1, by omega, by go_num, ?_⟩, by simp [intOf]; omega⟩; rw [HT.out]; rfl
    · have hj' : j = no := by omega
      have HO := Lib.hid (show occ.all occB = true by have := HA.out; rw [hj', NL.out, List.take_length] at this; exact this)
      have i1 : ¬ ((j : Int) < (no : Int)) := by omega
      clear hj'
      by_cases q12 : T.size = 0
      · obtain rfl := size_nil q12
        clear q12
        go_wp2_with fail
        go_ret
        exact ⟨by rw [HL.out, HO.out]; rfl, (by exact Base.bel)⟩
      · obtain ⟨t1, t2⟩ := tl_ne q12
        have HF := Lib.hid (show r = true by rw [HL.out, HO.out]; simp [q12])
        clear q12
        go_wp2_with fail
        go_ret
        exact ⟨by rw [HF.out]; rfl, (by exact Base.bel)⟩
end Go.Proofs.YtkcfgcdlnojaeaaGreatDoor.NodeOwn
