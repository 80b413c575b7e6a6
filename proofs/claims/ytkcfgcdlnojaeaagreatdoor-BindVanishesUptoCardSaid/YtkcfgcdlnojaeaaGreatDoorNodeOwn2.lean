/-
  The walk of printer's own over nodes of the kinds 6 to 10.
-/
import Derived.Test.YtkcfgcdlnojaeaaGreatDoorNodeOwn
set_option linter.unusedVariables false
set_option linter.unusedSimpArgs false
namespace Go.Proofs.YtkcfgcdlnojaeaaGreatDoor.NodeOwn2
set_option maxRecDepth 100000
open Go.RowKit Go.PlainAid Base Query NodeTree NodeWalk TextPlain NodePlain NodeWild BindBase Numbers Lists NodeOwn

theorem bel {w w' : World} (h : Below w.heap.size w w' := by exact Base.bel) : Below w.heap.size w w' := h
set_option maxHeartbeats 8000000 in
theorem own_6 (fn T : ByteArray) (n : Int) (lo hi : Bnd) (occ : List Int) (nk : Nat) (A1 A2 : Option Addr) (c1 c2 : Nat) (w : World) (hs : T.size ≤ 1099511627776) (s1 : Slc w w.heap.size A1 (ints occ)) (hno : occ.length ≤ maxLen) (hnk : nk ≤ maxLen) (ha : Asks w) (h0 : 2 < w.heap.size) :
    Calls Tryz.prog 54 #[.agg (nodeV 6 fn T n ⟨lo, hi, A1, occ.length, c1, A2, nk, c2⟩)] w fun e w' => e = .returned (.bool (ownB ⟨6, fn, T, n, lo, hi, occ⟩ nk)) ∧ Below w.heap.size w w' := by
  obtain ⟨r, hr⟩ : ∃ r, r = ownB ⟨6, fn, T, n, lo, hi, occ⟩ nk := ⟨_, rfl⟩
  rw [← hr]
  have HR := Lib.hid hr
  clear hr
  have hml : maxLen = 9223372036854775807 := rfl
  have NO := Lib.hid (show occ.length ≤ 9223372036854775807 from hno)
  have NK := Lib.hid (show nk ≤ 9223372036854775807 from hnk)
  have S1 := Lib.hid s1
  obtain ⟨no, hno1⟩ : ∃ x, x = occ.length := ⟨_, rfl⟩
  rw [← hno1] at NO ⊢
  have NL := Lib.hid hno1
  clear hno hnk s1 hml hno1
  have AS := fun o => Asks.below ha ((Below.refl w.heap.size w).alloc (Nat.le_refl _) o) h0
  have a0 : ∀ o, (w.alloc o).cell? ⟨2, 60, none⟩ = some (.bool true) := fun o => AS o 6 0 _ (by decide) rfl
  have a1 : ∀ o, (w.alloc o).cell? ⟨2, 61, none⟩ = some (.bool false) := fun o => AS o 6 1 _ (by decide) rfl
  have a2 : ∀ o, (w.alloc o).cell? ⟨2, 62, none⟩ = some (.int .i64 0) := fun o => AS o 6 2 _ (by decide) rfl
  have a3 : ∀ o, (w.alloc o).cell? ⟨2, 63, none⟩ = some (.int .i64 0) := fun o => AS o 6 3 _ (by decide) rfl
  have a4 : ∀ o, (w.alloc o).cell? ⟨2, 64, none⟩ = some (.bool true) := fun o => AS o 6 4 _ (by decide) rfl
  have a5 : ∀ o, (w.alloc o).cell? ⟨2, 65, none⟩ = some (.bool false) := fun o => AS o 6 5 _ (by decide) rfl
  have a6 : ∀ o, (w.alloc o).cell? ⟨2, 66, none⟩ = some (.int .i64 0) := fun o => AS o 6 6 _ (by decide) rfl
  have a7 : ∀ o, (w.alloc o).cell? ⟨2, 67, none⟩ = some (.int .i64 (0)) := fun o => AS o 6 7 _ (by decide) rfl
  have a8 : ∀ o, (w.alloc o).cell? ⟨2, 68, none⟩ = some (.int .i64 6) := fun o => AS o 6 8 _ (by decide) rfl
  have a9 : ∀ o, (w.alloc o).cell? ⟨2, 69, none⟩ = some (.string ⟨#[]⟩) := fun o => AS o 6 9 _ (by decide) rfl
  unfold nodeV
  simp only
  clear ha AS
  obtain ⟨W2, hW2⟩ : ∃ W, W = (w.alloc (.cells #[.int .i64 6, .string fn, .string T, .int .i64 n, .bool lo.op, .bool lo.inn, .string lo.text, .bool hi.op, .bool hi.inn, .string hi.text, .slice A1 no c1, .slice A2 nk c2] 39)).alloc (.cells #[.bool true, .bool false, .int .i64 0, .int .i64 0, .bool true, .bool false, .int .i64 0, .int .i64 (0), .int .i64 6, .string ⟨#[]⟩] 150) := ⟨_, rfl⟩
  have K1 : Blk W2 w.heap.size 39 #[.int .i64 6, .string fn, .string T, .int .i64 n, .bool lo.op, .bool lo.inn, .string lo.text, .bool hi.op, .bool hi.inn, .string hi.text, .slice A1 no c1, .slice A2 nk c2] := by rw [hW2]; exact (Blk.new w _ _).alloc _
  have K2 : Blk W2 (w.heap.size + 1) 150 #[.bool true, .bool false, .int .i64 0, .int .i64 0, .bool true, .bool false, .int .i64 0, .int .i64 (0), .int .i64 6, .string ⟨#[]⟩] := by
    rw [hW2]
    have := Blk.new (w.alloc (.cells #[.int .i64 6, .string fn, .string T, .int .i64 n, .bool lo.op, .bool lo.inn, .string lo.text, .bool hi.op, .bool hi.inn, .string hi.text, .slice A1 no c1, .slice A2 nk c2] 39)) 150 #[.bool true, .bool false, .int .i64 0, .int .i64 0, .bool true, .bool false, .int .i64 0, .int .i64 (0), .int .i64 6, .string ⟨#[]⟩]
    rwa [World.size_alloc] at this
  have hsz : w.heap.size + 2 = W2.heap.size := by rw [hW2]; simp
  have hbW : Below w.heap.size w W2 := by rw [hW2]; exact Base.bel
  have HW := Lib.hid hW2
  clear hW2
  clear hs
  go_enter Tryz.func54, Tryz.ntmps54
  go_upto_region 4 with fail
  clear a0 a1 a2 a3 a4 a5 a6 a7 a8 a9
  by_cases q2 : T.size = 0
  rotate_left
  · obtain ⟨t1, t2⟩ := tl_ne q2
    have HF := Lib.hid (show r = false by rw [HR.out]; simp [ownB, askN, askOf, q2])
    clear q2
    go_wp2_with fail
    go_ret
    exact ⟨by rw [HF.out]; rfl, bel⟩
  obtain rfl := size_nil q2
  clear q2
  by_cases q3 : 0 ≤ n
  rotate_left
  · have d1 : decide (n < 0) = true := decide_eq_true (by omega)
    have HF := Lib.hid (show r = false by rw [HR.out]; simp [ownB, askN, askOf, q3])
    clear q3
    go_wp2_with fail
    go_ret
    exact ⟨by rw [HF.out]; rfl, bel⟩
  have d1 : decide (n < 0) = false := decide_eq_false (by omega)
  by_cases q4 : n ≤ 0
  rotate_left
  · have d2 : decide ((0 : Int) < n) = true := decide_eq_true (by omega)
    have HF := Lib.hid (show r = false by rw [HR.out]; simp [ownB, askN, askOf, q4])
    clear q4
    go_wp2_with fail
    go_ret
    exact ⟨by rw [HF.out]; rfl, bel⟩
  have d2 : decide ((0 : Int) < n) = false := decide_eq_false (by omega)
  have Q3 := Lib.hid q3
  have Q4 := Lib.hid q4
  clear q3 q4
  go_upto_region 6 with fail
  clear d1 d2
  obtain ⟨bl, hbl⟩ : ∃ b, b = okEnd lo := ⟨_, rfl⟩
  obtain ⟨bh, hbh⟩ : ∃ b, b = okEnd hi := ⟨_, rfl⟩
  have BL := Lib.hid (fun W => bound_any lo W)
  have BH := Lib.hid (fun W => bound_any hi W)
  rw [← hbl] at BL
  rw [← hbh] at BH
  have QL := Lib.hid hbl.symm
  have QH := Lib.hid hbh.symm
  clear hbl hbh
  cases bl
  · skip
    have HF := Lib.hid (show r = false by rw [HR.out]; simp [ownB, askN, askOf, QL.out])
    go_wp2_with (first | (go_at_call 95; (with_reducible refine (BL.out _).mono ?_); rintro e wb ⟨rfl, hbl⟩; have q2 : Below W2.heap.size W2 wb := (by rw [HW.out]; exact hbl); obtain ⟨y0, y1, y2, y3, y4, y5, y6, y7, y8, y9, y10, y11⟩ := nrow (K1.below q2 (by omega)); obtain ⟨r0, r1, r2, r3, r4, r5, r6, r7, r8, r9⟩ := hrow (K2.below q2 (by omega))) | (go_at_call 95; (with_reducible refine (BH.out _).mono ?_); rintro e wc ⟨rfl, hbh⟩; have q3 : Below W2.heap.size W2 wc := bchain q2 hbh; obtain ⟨p0, p1, p2, p3, p4, p5, p6, p7, p8, p9, p10, p11⟩ := nrow (K1.below q3 (by omega)); obtain ⟨s0, s1, s2, s3, s4, s5, s6, s7, s8, s9⟩ := hrow (K2.below q3 (by omega))))
    go_ret
    exact ⟨by rw [HF.out]; rfl, bchain hbW q2⟩
  cases bh
  · skip
    have HF := Lib.hid (show r = false by rw [HR.out]; simp [ownB, askN, askOf, QL.out, QH.out])
    go_wp2_with (first | (go_at_call 95; (with_reducible refine (BL.out _).mono ?_); rintro e wb ⟨rfl, hbl⟩; have q2 : Below W2.heap.size W2 wb := (by rw [HW.out]; exact hbl); obtain ⟨y0, y1, y2, y3, y4, y5, y6, y7, y8, y9, y10, y11⟩ := nrow (K1.below q2 (by omega)); obtain ⟨r0, r1, r2, r3, r4, r5, r6, r7, r8, r9⟩ := hrow (K2.below q2 (by omega))) | (go_at_call 95; (with_reducible refine (BH.out _).mono ?_); rintro e wc ⟨rfl, hbh⟩; have q3 : Below W2.heap.size W2 wc := bchain q2 hbh; obtain ⟨p0, p1, p2, p3, p4, p5, p6, p7, p8, p9, p10, p11⟩ := nrow (K1.below q3 (by omega)); obtain ⟨s0, s1, s2, s3, s4, s5, s6, s7, s8, s9⟩ := hrow (K2.below q3 (by omega))))
    go_ret
    exact ⟨by rw [HF.out]; rfl, bchain hbW q3⟩
  go_upto_region 8 with (first | (go_at_call 95; (with_reducible refine (BL.out _).mono ?_); rintro e wb ⟨rfl, hbl⟩; have q2 : Below W2.heap.size W2 wb := (by rw [HW.out]; exact hbl); obtain ⟨y0, y1, y2, y3, y4, y5, y6, y7, y8, y9, y10, y11⟩ := nrow (K1.below q2 (by omega)); obtain ⟨r0, r1, r2, r3, r4, r5, r6, r7, r8, r9⟩ := hrow (K2.below q2 (by omega))) | (go_at_call 95; (with_reducible refine (BH.out _).mono ?_); rintro e wc ⟨rfl, hbh⟩; have q3 : Below W2.heap.size W2 wc := bchain q2 hbh; obtain ⟨p0, p1, p2, p3, p4, p5, p6, p7, p8, p9, p10, p11⟩ := nrow (K1.below q3 (by omega)); obtain ⟨s0, s1, s2, s3, s4, s5, s6, s7, s8, s9⟩ := hrow (K2.below q3 (by omega))))
  clear y0 y1 y2 y3 y4 y5 y6 y7 y8 y9 y10 y11 r0 r1 r2 r3 r4 r5 r6 r7 r8 r9
  have d3 : decide ((nk : Int) < 0) = false := decide_eq_false (by omega)
  by_cases q7 : nk = 0
  rotate_left
  · have d4 : decide ((0 : Int) < (nk : Int)) = true := decide_eq_true (by omega)
    have d4n : decide (0 < nk) = true := decide_eq_true (by omega)
    have HF := Lib.hid (show r = false by rw [HR.out]; simp [ownB, askN, askOf, q7])
    clear q7
    go_wp2_with fail
    go_ret
    exact ⟨by rw [HF.out]; rfl, (bchain hbW q3)⟩
  have d4 : decide ((0 : Int) < (nk : Int)) = false := decide_eq_false (by omega)
  have d4n : decide (0 < nk) = false := decide_eq_false (by omega)
  have Q7 := Lib.hid q7
  clear q7
  go_upto_region 10 with fail
  clear d3 d4 d4n
  by_cases q10 : no = 0
  rotate_left
  · have d5 : decide ((0 : Int) < (no : Int)) = true := decide_eq_true (by omega)
    have d5n : decide (0 < no) = true := decide_eq_true (by omega)
    have q11 : occ ≠ [] := by intro h; have := NL.out; rw [h] at this; simp at this; omega
    have HF := Lib.hid (show r = false by rw [HR.out]; simp [ownB, askN, askOf, q11])
    clear q10 q11
    go_wp2_with fail
    go_ret
    exact ⟨by rw [HF.out]; rfl, (bchain hbW q3)⟩
  have d5 : decide ((0 : Int) < (no : Int)) = false := decide_eq_false (by omega)
  have d5n : decide (0 < no) = false := decide_eq_false (by omega)
  have Q10 := Lib.hid (show occ = [] by have := NL.out; exact List.eq_nil_of_length_eq_zero (by omega))
  clear q10
  have HL := Lib.hid (show r = (occ.all occB && (true)) by rw [HR.out]; simp [ownB, askN, askOf, Q3.out, Q4.out, QL.out, QH.out, Q7.out, Q10.out] <;> (intros; rfl))
  go_upto_region 12 with fail
  clear d5 d5n
  go_wp2_with fail
  go_loop [124] (fun i => ∃ j : Nat, j ≤ no ∧ i = .int .i64 j ∧ (occ.take j).all occB = true) (fun i => no - (intOf i).toNat)
  case atStart => exact ⟨0, Nat.zero_le _, rfl, rfl⟩
  case round =>
    obtain ⟨j, hj, rfl, hall⟩ := hrel
    have HA := Lib.hid hall
    clear hall
    rcases Nat.lt_or_ge j no with hlt | hge
    · obtain ⟨z, hz⟩ : ∃ z, occ[j]? = some z := ⟨_, List.getElem?_eq_getElem (by have := NL.out; omega)⟩
      obtain ⟨g3, o3, rfl, hg3, hc3⟩ := S1.out (by intro h; rw [show occ = [] by simpa [ints] using h] at hz; simp at hz)
      have y : wc.cell? ⟨g3, o3 + j, none⟩ = some (.int .i64 z) := ((bchain hbW q3).cell (p := ⟨g3, o3 + j, none⟩) hg3).trans (hc3 j (.int .i64 z) (by simp [ints, hz]))
      have HT := Lib.hid (all_take (f := occB) hz HA.out)
      have HB := Lib.hid (fun h => all_bad (f := occB) hz h)
      have hlt2 : (j : Int) < 9223372036854775807 := by have := NO.out; omega
      have i1 : (j : Int) < (no : Int) := by omega
      clear hz hc3
      rcases (by omega : z = 0 ∨ z = 1 ∨ z = 2 ∨ (z ≠ 0 ∧ z ≠ 1 ∧ z ≠ 2)) with rfl | rfl | rfl | ⟨z0, z1, z2⟩
      rotate_left 3
      · have e0 : (z != 0) = true := bne_iff_ne.2 z0
        have e1 : (z != 1) = true := bne_iff_ne.2 z1
        have e2 : (z != 2) = true := bne_iff_ne.2 z2
        have HQ9 := Lib.hid (show r = false by rw [HL.out, HB.out (show occB z = false by simp [occB, z0, z1, z2])]; rfl)
        clear z0 z1 z2
        go_wp2_with fail
        go_ret
        exact ⟨by rw [HQ9.out]; rfl, (bchain hbW q3)⟩
      all_goals
        go_wp2_with fail
        (try go_big_round); refine ⟨⟨j + 1, by omega, by go_num, ?_⟩, by simp [intOf]; omega⟩; rw [HT.out]; rfl
    · have hj' : j = no := by omega
      have HO := Lib.hid (show occ.all occB = true by have := HA.out; rw [hj', NL.out, List.take_length] at this; exact this)
      have i1 : ¬ ((j : Int) < (no : Int)) := by omega
      clear hj'
      go_wp2_with fail
      go_ret
      exact ⟨by rw [HL.out, HO.out]; rfl, (bchain hbW q3)⟩

set_option maxHeartbeats 8000000 in
theorem own_7 (fn T : ByteArray) (n : Int) (lo hi : Bnd) (occ : List Int) (nk : Nat) (A1 A2 : Option Addr) (c1 c2 : Nat) (w : World) (hs : T.size ≤ 1099511627776) (s1 : Slc w w.heap.size A1 (ints occ)) (hno : occ.length ≤ maxLen) (hnk : nk ≤ maxLen) (ha : Asks w) (h0 : 2 < w.heap.size) :
    Calls Tryz.prog 54 #[.agg (nodeV 7 fn T n ⟨lo, hi, A1, occ.length, c1, A2, nk, c2⟩)] w fun e w' => e = .returned (.bool (ownB ⟨7, fn, T, n, lo, hi, occ⟩ nk)) ∧ Below w.heap.size w w' := by
  obtain ⟨r, hr⟩ : ∃ r, r = ownB ⟨7, fn, T, n, lo, hi, occ⟩ nk := ⟨_, rfl⟩
  rw [← hr]
  have HR := Lib.hid hr
  clear hr
  have hml : maxLen = 9223372036854775807 := rfl
  have NO := Lib.hid (show occ.length ≤ 9223372036854775807 from hno)
  have NK := Lib.hid (show nk ≤ 9223372036854775807 from hnk)
  have S1 := Lib.hid s1
  obtain ⟨no, hno1⟩ : ∃ x, x = occ.length := ⟨_, rfl⟩
  rw [← hno1] at NO ⊢
  have NL := Lib.hid hno1
  clear hno hnk s1 hml hno1
  have AS := fun o => Asks.below ha ((Below.refl w.heap.size w).alloc (Nat.le_refl _) o) h0
  have a0 : ∀ o, (w.alloc o).cell? ⟨2, 70, none⟩ = some (.bool true) := fun o => AS o 7 0 _ (by decide) rfl
  have a1 : ∀ o, (w.alloc o).cell? ⟨2, 71, none⟩ = some (.bool false) := fun o => AS o 7 1 _ (by decide) rfl
  have a2 : ∀ o, (w.alloc o).cell? ⟨2, 72, none⟩ = some (.int .i64 0) := fun o => AS o 7 2 _ (by decide) rfl
  have a3 : ∀ o, (w.alloc o).cell? ⟨2, 73, none⟩ = some (.int .i64 0) := fun o => AS o 7 3 _ (by decide) rfl
  have a4 : ∀ o, (w.alloc o).cell? ⟨2, 74, none⟩ = some (.bool false) := fun o => AS o 7 4 _ (by decide) rfl
  have a5 : ∀ o, (w.alloc o).cell? ⟨2, 75, none⟩ = some (.bool false) := fun o => AS o 7 5 _ (by decide) rfl
  have a6 : ∀ o, (w.alloc o).cell? ⟨2, 76, none⟩ = some (.int .i64 0) := fun o => AS o 7 6 _ (by decide) rfl
  have a7 : ∀ o, (w.alloc o).cell? ⟨2, 77, none⟩ = some (.int .i64 (0)) := fun o => AS o 7 7 _ (by decide) rfl
  have a8 : ∀ o, (w.alloc o).cell? ⟨2, 78, none⟩ = some (.int .i64 6) := fun o => AS o 7 8 _ (by decide) rfl
  have a9 : ∀ o, (w.alloc o).cell? ⟨2, 79, none⟩ = some (.string ⟨#[]⟩) := fun o => AS o 7 9 _ (by decide) rfl
  unfold nodeV
  simp only
  clear ha AS
  clear hs
  go_enter Tryz.func54, Tryz.ntmps54
  go_upto_region 4 with fail
  clear a0 a1 a2 a3 a4 a5 a6 a7 a8 a9
  by_cases q2 : T.size = 0
  rotate_left
  · obtain ⟨t1, t2⟩ := tl_ne q2
    have HF := Lib.hid (show r = false by rw [HR.out]; simp [ownB, askN, askOf, q2])
    clear q2
    go_wp2_with fail
    go_ret
    exact ⟨by rw [HF.out]; rfl, bel⟩
  obtain rfl := size_nil q2
  clear q2
  by_cases q3 : 0 ≤ n
  rotate_left
  · have d1 : decide (n < 0) = true := decide_eq_true (by omega)
    have HF := Lib.hid (show r = false by rw [HR.out]; simp [ownB, askN, askOf, q3])
    clear q3
    go_wp2_with fail
    go_ret
    exact ⟨by rw [HF.out]; rfl, bel⟩
  have d1 : decide (n < 0) = false := decide_eq_false (by omega)
  by_cases q4 : n ≤ 0
  rotate_left
  · have d2 : decide ((0 : Int) < n) = true := decide_eq_true (by omega)
    have HF := Lib.hid (show r = false by rw [HR.out]; simp [ownB, askN, askOf, q4])
    clear q4
    go_wp2_with fail
    go_ret
    exact ⟨by rw [HF.out]; rfl, bel⟩
  have d2 : decide ((0 : Int) < n) = false := decide_eq_false (by omega)
  have Q3 := Lib.hid q3
  have Q4 := Lib.hid q4
  clear q3 q4
  go_upto_region 6 with fail
  clear d1 d2
  rcases bnd_cases lo with rfl | ⟨i, t, rfl⟩ | ⟨t, rfl⟩ | ⟨t, ht, rfl⟩
  rotate_left
  · skip
    have HF := Lib.hid (show r = false by rw [HR.out]; simp [ownB, askN, askOf, noEnd])
    go_wp2_with fail
    go_ret
    exact ⟨by rw [HF.out]; rfl, bel⟩
  · skip
    have HF := Lib.hid (show r = false by rw [HR.out]; simp [ownB, askN, askOf, noEnd])
    go_wp2_with fail
    go_ret
    exact ⟨by rw [HF.out]; rfl, bel⟩
  · obtain ⟨t1, t2⟩ := tl_ne ht
    have HF := Lib.hid (show r = false by rw [HR.out]; simp [ownB, askN, askOf, noEnd, ht])
    clear ht
    go_wp2_with fail
    go_ret
    exact ⟨by rw [HF.out]; rfl, bel⟩
  rcases bnd_cases hi with rfl | ⟨i, t, rfl⟩ | ⟨t, rfl⟩ | ⟨t, ht, rfl⟩
  rotate_left
  · skip
    have HF := Lib.hid (show r = false by rw [HR.out]; simp [ownB, askN, askOf, noEnd])
    go_wp2_with fail
    go_ret
    exact ⟨by rw [HF.out]; rfl, bel⟩
  · skip
    have HF := Lib.hid (show r = false by rw [HR.out]; simp [ownB, askN, askOf, noEnd])
    go_wp2_with fail
    go_ret
    exact ⟨by rw [HF.out]; rfl, bel⟩
  · obtain ⟨t1, t2⟩ := tl_ne ht
    have HF := Lib.hid (show r = false by rw [HR.out]; simp [ownB, askN, askOf, noEnd, ht])
    clear ht
    go_wp2_with fail
    go_ret
    exact ⟨by rw [HF.out]; rfl, bel⟩
  go_upto_region 8 with fail
  have d3 : decide ((nk : Int) < 0) = false := decide_eq_false (by omega)
  by_cases q7 : nk = 0
  rotate_left
  · have d4 : decide ((0 : Int) < (nk : Int)) = true := decide_eq_true (by omega)
    have d4n : decide (0 < nk) = true := decide_eq_true (by omega)
    have HF := Lib.hid (show r = false by rw [HR.out]; simp [ownB, askN, askOf, q7])
    clear q7
    go_wp2_with fail
    go_ret
    exact ⟨by rw [HF.out]; rfl, bel⟩
  have d4 : decide ((0 : Int) < (nk : Int)) = false := decide_eq_false (by omega)
  have d4n : decide (0 < nk) = false := decide_eq_false (by omega)
  have Q7 := Lib.hid q7
  clear q7
  go_upto_region 10 with fail
  clear d3 d4 d4n
  by_cases q10 : no = 0
  rotate_left
  · have d5 : decide ((0 : Int) < (no : Int)) = true := decide_eq_true (by omega)
    have d5n : decide (0 < no) = true := decide_eq_true (by omega)
    have q11 : occ ≠ [] := by intro h; have := NL.out; rw [h] at this; simp at this; omega
    have HF := Lib.hid (show r = false by rw [HR.out]; simp [ownB, askN, askOf, q11])
    clear q10 q11
    go_wp2_with fail
    go_ret
    exact ⟨by rw [HF.out]; rfl, bel⟩
  have d5 : decide ((0 : Int) < (no : Int)) = false := decide_eq_false (by omega)
  have d5n : decide (0 < no) = false := decide_eq_false (by omega)
  have Q10 := Lib.hid (show occ = [] by have := NL.out; exact List.eq_nil_of_length_eq_zero (by omega))
  clear q10
  have HL := Lib.hid (show r = (occ.all occB && (true)) by rw [HR.out]; simp [ownB, askN, askOf, Q3.out, Q4.out, noEnd, Q7.out, Q10.out] <;> (intros; rfl))
  go_upto_region 12 with fail
  clear d5 d5n
  go_wp2_with fail
  go_loop [124] (fun i => ∃ j : Nat, j ≤ no ∧ i = .int .i64 j ∧ (occ.take j).all occB = true) (fun i => no - (intOf i).toNat)
  case atStart => exact ⟨0, Nat.zero_le _, rfl, rfl⟩
  case round =>
    obtain ⟨j, hj, rfl, hall⟩ := hrel
    have HA := Lib.hid hall
    clear hall
    rcases Nat.lt_or_ge j no with hlt | hge
    · obtain ⟨z, hz⟩ : ∃ z, occ[j]? = some z := ⟨_, List.getElem?_eq_getElem (by have := NL.out; omega)⟩
      obtain ⟨g3, o3, rfl, hg3, hc3⟩ := S1.out (by intro h; rw [show occ = [] by simpa [ints] using h] at hz; simp at hz)
      have y : ∀ u u', ((w.alloc u).alloc u').cell? ⟨g3, o3 + j, none⟩ = some (.int .i64 z) := fun u u' => ((show Below w.heap.size w ((w.alloc u).alloc u') by exact Base.bel).cell (p := ⟨g3, o3 + j, none⟩) hg3).trans (hc3 j (.int .i64 z) (by simp [ints, hz]))
      have HT := Lib.hid (all_take (f := occB) hz HA.out)
      have HB := Lib.hid (fun h => all_bad (f := occB) hz h)
      have hlt2 : (j : Int) < 9223372036854775807 := by have := NO.out; omega
      have i1 : (j : Int) < (no : Int) := by omega
      clear hz hc3
      rcases (by omega : z = 0 ∨ z = 1 ∨ z = 2 ∨ (z ≠ 0 ∧ z ≠ 1 ∧ z ≠ 2)) with rfl | rfl | rfl | ⟨z0, z1, z2⟩
      rotate_left 3
      · have e0 : (z != 0) = true := bne_iff_ne.2 z0
        have e1 : (z != 1) = true := bne_iff_ne.2 z1
        have e2 : (z != 2) = true := bne_iff_ne.2 z2
        have HQ9 := Lib.hid (show r = false by rw [HL.out, HB.out (show occB z = false by simp [occB, z0, z1, z2])]; rfl)
        clear z0 z1 z2
        go_wp2_with fail
        go_ret
        exact ⟨by rw [HQ9.out]; rfl, bel⟩
      all_goals
        go_wp2_with fail
        (try go_big_round); refine ⟨⟨j + 1, by omega, by go_num, ?_⟩, by simp [intOf]; omega⟩; rw [HT.out]; rfl
    · have hj' : j = no := by omega
      have HO := Lib.hid (show occ.all occB = true by have := HA.out; rw [hj', NL.out, List.take_length] at this; exact this)
      have i1 : ¬ ((j : Int) < (no : Int)) := by omega
      clear hj'
      go_wp2_with fail
      go_ret
      exact ⟨by rw [HL.out, HO.out]; rfl, bel⟩

set_option maxHeartbeats 8000000 in
theorem own_8 (fn T : ByteArray) (n : Int) (lo hi : Bnd) (occ : List Int) (nk : Nat) (A1 A2 : Option Addr) (c1 c2 : Nat) (w : World) (hs : T.size ≤ 1099511627776) (s1 : Slc w w.heap.size A1 (ints occ)) (hno : occ.length ≤ maxLen) (hnk : nk ≤ maxLen) (ha : Asks w) (h0 : 2 < w.heap.size) :
    Calls Tryz.prog 54 #[.agg (nodeV 8 fn T n ⟨lo, hi, A1, occ.length, c1, A2, nk, c2⟩)] w fun e w' => e = .returned (.bool (ownB ⟨8, fn, T, n, lo, hi, occ⟩ nk)) ∧ Below w.heap.size w w' := by
  obtain ⟨r, hr⟩ : ∃ r, r = ownB ⟨8, fn, T, n, lo, hi, occ⟩ nk := ⟨_, rfl⟩
  rw [← hr]
  have HR := Lib.hid hr
  clear hr
  have hml : maxLen = 9223372036854775807 := rfl
  have NO := Lib.hid (show occ.length ≤ 9223372036854775807 from hno)
  have NK := Lib.hid (show nk ≤ 9223372036854775807 from hnk)
  have S1 := Lib.hid s1
  obtain ⟨no, hno1⟩ : ∃ x, x = occ.length := ⟨_, rfl⟩
  rw [← hno1] at NO ⊢
  have NL := Lib.hid hno1
  clear hno hnk s1 hml hno1
  have AS := fun o => Asks.below ha ((Below.refl w.heap.size w).alloc (Nat.le_refl _) o) h0
  have a0 : ∀ o, (w.alloc o).cell? ⟨2, 80, none⟩ = some (.bool false) := fun o => AS o 8 0 _ (by decide) rfl
  have a1 : ∀ o, (w.alloc o).cell? ⟨2, 81, none⟩ = some (.bool false) := fun o => AS o 8 1 _ (by decide) rfl
  have a2 : ∀ o, (w.alloc o).cell? ⟨2, 82, none⟩ = some (.int .i64 0) := fun o => AS o 8 2 _ (by decide) rfl
  have a3 : ∀ o, (w.alloc o).cell? ⟨2, 83, none⟩ = some (.int .i64 0) := fun o => AS o 8 3 _ (by decide) rfl
  have a4 : ∀ o, (w.alloc o).cell? ⟨2, 84, none⟩ = some (.bool false) := fun o => AS o 8 4 _ (by decide) rfl
  have a5 : ∀ o, (w.alloc o).cell? ⟨2, 85, none⟩ = some (.bool false) := fun o => AS o 8 5 _ (by decide) rfl
  have a6 : ∀ o, (w.alloc o).cell? ⟨2, 86, none⟩ = some (.int .i64 0) := fun o => AS o 8 6 _ (by decide) rfl
  have a7 : ∀ o, (w.alloc o).cell? ⟨2, 87, none⟩ = some (.int .i64 (0)) := fun o => AS o 8 7 _ (by decide) rfl
  have a8 : ∀ o, (w.alloc o).cell? ⟨2, 88, none⟩ = some (.int .i64 6) := fun o => AS o 8 8 _ (by decide) rfl
  have a9 : ∀ o, (w.alloc o).cell? ⟨2, 89, none⟩ = some (.string ⟨#[]⟩) := fun o => AS o 8 9 _ (by decide) rfl
  unfold nodeV
  simp only
  clear ha AS
  clear hs
  go_enter Tryz.func54, Tryz.ntmps54
  go_upto_region 4 with fail
  clear a0 a1 a2 a3 a4 a5 a6 a7 a8 a9
  by_cases q1 : fn.size = 0
  rotate_left
  · obtain ⟨t1, t2⟩ := tl_ne q1
    have HF := Lib.hid (show r = false by rw [HR.out]; simp [ownB, askN, askOf, q1])
    clear q1
    go_wp2_with fail
    go_ret
    exact ⟨by rw [HF.out]; rfl, bel⟩
  obtain rfl := size_nil q1
  clear q1
  by_cases q2 : T.size = 0
  rotate_left
  · obtain ⟨t1, t2⟩ := tl_ne q2
    have HF := Lib.hid (show r = false by rw [HR.out]; simp [ownB, askN, askOf, q2])
    clear q2
    go_wp2_with fail
    go_ret
    exact ⟨by rw [HF.out]; rfl, bel⟩
  obtain rfl := size_nil q2
  clear q2
  by_cases q3 : 0 ≤ n
  rotate_left
  · have d1 : decide (n < 0) = true := decide_eq_true (by omega)
    have HF := Lib.hid (show r = false by rw [HR.out]; simp [ownB, askN, askOf, q3])
    clear q3
    go_wp2_with fail
    go_ret
    exact ⟨by rw [HF.out]; rfl, bel⟩
  have d1 : decide (n < 0) = false := decide_eq_false (by omega)
  by_cases q4 : n ≤ 0
  rotate_left
  · have d2 : decide ((0 : Int) < n) = true := decide_eq_true (by omega)
    have HF := Lib.hid (show r = false by rw [HR.out]; simp [ownB, askN, askOf, q4])
    clear q4
    go_wp2_with fail
    go_ret
    exact ⟨by rw [HF.out]; rfl, bel⟩
  have d2 : decide ((0 : Int) < n) = false := decide_eq_false (by omega)
  have Q3 := Lib.hid q3
  have Q4 := Lib.hid q4
  clear q3 q4
  go_upto_region 6 with fail
  clear d1 d2
  rcases bnd_cases lo with rfl | ⟨i, t, rfl⟩ | ⟨t, rfl⟩ | ⟨t, ht, rfl⟩
  rotate_left
  · skip
    have HF := Lib.hid (show r = false by rw [HR.out]; simp [ownB, askN, askOf, noEnd])
    go_wp2_with fail
    go_ret
    exact ⟨by rw [HF.out]; rfl, bel⟩
  · skip
    have HF := Lib.hid (show r = false by rw [HR.out]; simp [ownB, askN, askOf, noEnd])
    go_wp2_with fail
    go_ret
    exact ⟨by rw [HF.out]; rfl, bel⟩
  · obtain ⟨t1, t2⟩ := tl_ne ht
    have HF := Lib.hid (show r = false by rw [HR.out]; simp [ownB, askN, askOf, noEnd, ht])
    clear ht
    go_wp2_with fail
    go_ret
    exact ⟨by rw [HF.out]; rfl, bel⟩
  rcases bnd_cases hi with rfl | ⟨i, t, rfl⟩ | ⟨t, rfl⟩ | ⟨t, ht, rfl⟩
  rotate_left
  · skip
    have HF := Lib.hid (show r = false by rw [HR.out]; simp [ownB, askN, askOf, noEnd])
    go_wp2_with fail
    go_ret
    exact ⟨by rw [HF.out]; rfl, bel⟩
  · skip
    have HF := Lib.hid (show r = false by rw [HR.out]; simp [ownB, askN, askOf, noEnd])
    go_wp2_with fail
    go_ret
    exact ⟨by rw [HF.out]; rfl, bel⟩
  · obtain ⟨t1, t2⟩ := tl_ne ht
    have HF := Lib.hid (show r = false by rw [HR.out]; simp [ownB, askN, askOf, noEnd, ht])
    clear ht
    go_wp2_with fail
    go_ret
    exact ⟨by rw [HF.out]; rfl, bel⟩
  go_upto_region 8 with fail
  have d3 : decide ((nk : Int) < 0) = false := decide_eq_false (by omega)
  by_cases q7 : nk = 0
  rotate_left
  · have d4 : decide ((0 : Int) < (nk : Int)) = true := decide_eq_true (by omega)
    have d4n : decide (0 < nk) = true := decide_eq_true (by omega)
    have HF := Lib.hid (show r = false by rw [HR.out]; simp [ownB, askN, askOf, q7])
    clear q7
    go_wp2_with fail
    go_ret
    exact ⟨by rw [HF.out]; rfl, bel⟩
  have d4 : decide ((0 : Int) < (nk : Int)) = false := decide_eq_false (by omega)
  have d4n : decide (0 < nk) = false := decide_eq_false (by omega)
  have Q7 := Lib.hid q7
  clear q7
  go_upto_region 10 with fail
  clear d3 d4 d4n
  by_cases q10 : no = 0
  rotate_left
  · have d5 : decide ((0 : Int) < (no : Int)) = true := decide_eq_true (by omega)
    have d5n : decide (0 < no) = true := decide_eq_true (by omega)
    have q11 : occ ≠ [] := by intro h; have := NL.out; rw [h] at this; simp at this; omega
    have HF := Lib.hid (show r = false by rw [HR.out]; simp [ownB, askN, askOf, q11])
    clear q10 q11
    go_wp2_with fail
    go_ret
    exact ⟨by rw [HF.out]; rfl, bel⟩
  have d5 : decide ((0 : Int) < (no : Int)) = false := decide_eq_false (by omega)
  have d5n : decide (0 < no) = false := decide_eq_false (by omega)
  have Q10 := Lib.hid (show occ = [] by have := NL.out; exact List.eq_nil_of_length_eq_zero (by omega))
  clear q10
  have HL := Lib.hid (show r = (occ.all occB && (true)) by rw [HR.out]; simp [ownB, askN, askOf, Q3.out, Q4.out, noEnd, Q7.out, Q10.out] <;> (intros; rfl))
  go_upto_region 12 with fail
  clear d5 d5n
  go_wp2_with fail
  go_loop [124] (fun i => ∃ j : Nat, j ≤ no ∧ i = .int .i64 j ∧ (occ.take j).all occB = true) (fun i => no - (intOf i).toNat)
  case atStart => exact ⟨0, Nat.zero_le _, rfl, rfl⟩
  case round =>
    obtain ⟨j, hj, rfl, hall⟩ := hrel
    have HA := Lib.hid hall
    clear hall
    rcases Nat.lt_or_ge j no with hlt | hge
    · obtain ⟨z, hz⟩ : ∃ z, occ[j]? = some z := ⟨_, List.getElem?_eq_getElem (by have := NL.out; omega)⟩
      obtain ⟨g3, o3, rfl, hg3, hc3⟩ := S1.out (by intro h; rw [show occ = [] by simpa [ints] using h] at hz; simp at hz)
      have y : ∀ u u', ((w.alloc u).alloc u').cell? ⟨g3, o3 + j, none⟩ = some (.int .i64 z) := fun u u' => ((show Below w.heap.size w ((w.alloc u).alloc u') by exact Base.bel).cell (p := ⟨g3, o3 + j, none⟩) hg3).trans (hc3 j (.int .i64 z) (by simp [ints, hz]))
      have HT := Lib.hid (all_take (f := occB) hz HA.out)
      have HB := Lib.hid (fun h => all_bad (f := occB) hz h)
      have hlt2 : (j : Int) < 9223372036854775807 := by have := NO.out; omega
      have i1 : (j : Int) < (no : Int) := by omega
      clear hz hc3
      rcases (by omega : z = 0 ∨ z = 1 ∨ z = 2 ∨ (z ≠ 0 ∧ z ≠ 1 ∧ z ≠ 2)) with rfl | rfl | rfl | ⟨z0, z1, z2⟩
      rotate_left 3
      · have e0 : (z != 0) = true := bne_iff_ne.2 z0
        have e1 : (z != 1) = true := bne_iff_ne.2 z1
        have e2 : (z != 2) = true := bne_iff_ne.2 z2
        have HQ9 := Lib.hid (show r = false by rw [HL.out, HB.out (show occB z = false by simp [occB, z0, z1, z2])]; rfl)
        clear z0 z1 z2
        go_wp2_with fail
        go_ret
        exact ⟨by rw [HQ9.out]; rfl, bel⟩
      all_goals
        go_wp2_with fail
        (try go_big_round); refine ⟨⟨j + 1, by omega, by go_num, ?_⟩, by simp [intOf]; omega⟩; rw [HT.out]; rfl
    · have hj' : j = no := by omega
      have HO := Lib.hid (show occ.all occB = true by have := HA.out; rw [hj', NL.out, List.take_length] at this; exact this)
      have i1 : ¬ ((j : Int) < (no : Int)) := by omega
      clear hj'
      go_wp2_with fail
      go_ret
      exact ⟨by rw [HL.out, HO.out]; rfl, bel⟩

set_option maxHeartbeats 8000000 in
theorem own_9 (fn T : ByteArray) (n : Int) (lo hi : Bnd) (occ : List Int) (nk : Nat) (A1 A2 : Option Addr) (c1 c2 : Nat) (w : World) (hs : T.size ≤ 1099511627776) (s1 : Slc w w.heap.size A1 (ints occ)) (hno : occ.length ≤ maxLen) (hnk : nk ≤ maxLen) (ha : Asks w) (h0 : 2 < w.heap.size) :
    Calls Tryz.prog 54 #[.agg (nodeV 9 fn T n ⟨lo, hi, A1, occ.length, c1, A2, nk, c2⟩)] w fun e w' => e = .returned (.bool (ownB ⟨9, fn, T, n, lo, hi, occ⟩ nk)) ∧ Below w.heap.size w w' := by
  obtain ⟨r, hr⟩ : ∃ r, r = ownB ⟨9, fn, T, n, lo, hi, occ⟩ nk := ⟨_, rfl⟩
  rw [← hr]
  have HR := Lib.hid hr
  clear hr
  have hml : maxLen = 9223372036854775807 := rfl
  have NO := Lib.hid (show occ.length ≤ 9223372036854775807 from hno)
  have NK := Lib.hid (show nk ≤ 9223372036854775807 from hnk)
  have S1 := Lib.hid s1
  obtain ⟨no, hno1⟩ : ∃ x, x = occ.length := ⟨_, rfl⟩
  rw [← hno1] at NO ⊢
  have NL := Lib.hid hno1
  clear hno hnk s1 hml hno1
  have AS := fun o => Asks.below ha ((Below.refl w.heap.size w).alloc (Nat.le_refl _) o) h0
  have a0 : ∀ o, (w.alloc o).cell? ⟨2, 90, none⟩ = some (.bool false) := fun o => AS o 9 0 _ (by decide) rfl
  have a1 : ∀ o, (w.alloc o).cell? ⟨2, 91, none⟩ = some (.bool false) := fun o => AS o 9 1 _ (by decide) rfl
  have a2 : ∀ o, (w.alloc o).cell? ⟨2, 92, none⟩ = some (.int .i64 0) := fun o => AS o 9 2 _ (by decide) rfl
  have a3 : ∀ o, (w.alloc o).cell? ⟨2, 93, none⟩ = some (.int .i64 999999999) := fun o => AS o 9 3 _ (by decide) rfl
  have a4 : ∀ o, (w.alloc o).cell? ⟨2, 94, none⟩ = some (.bool false) := fun o => AS o 9 4 _ (by decide) rfl
  have a5 : ∀ o, (w.alloc o).cell? ⟨2, 95, none⟩ = some (.bool true) := fun o => AS o 9 5 _ (by decide) rfl
  have a6 : ∀ o, (w.alloc o).cell? ⟨2, 96, none⟩ = some (.int .i64 1) := fun o => AS o 9 6 _ (by decide) rfl
  have a7 : ∀ o, (w.alloc o).cell? ⟨2, 97, none⟩ = some (.int .i64 (-1)) := fun o => AS o 9 7 _ (by decide) rfl
  have a8 : ∀ o, (w.alloc o).cell? ⟨2, 98, none⟩ = some (.int .i64 0) := fun o => AS o 9 8 _ (by decide) rfl
  have a9 : ∀ o, (w.alloc o).cell? ⟨2, 99, none⟩ = some (.string ⟨#[]⟩) := fun o => AS o 9 9 _ (by decide) rfl
  unfold nodeV
  simp only
  clear ha AS
  clear hs
  go_enter Tryz.func54, Tryz.ntmps54
  go_upto_region 4 with fail
  clear a0 a1 a2 a3 a4 a5 a6 a7 a8 a9
  by_cases q1 : fn.size = 0
  rotate_left
  · obtain ⟨t1, t2⟩ := tl_ne q1
    have HF := Lib.hid (show r = false by rw [HR.out]; simp [ownB, askN, askOf, q1])
    clear q1
    go_wp2_with fail
    go_ret
    exact ⟨by rw [HF.out]; rfl, bel⟩
  obtain rfl := size_nil q1
  clear q1
  by_cases q2 : T.size = 0
  rotate_left
  · obtain ⟨t1, t2⟩ := tl_ne q2
    have HF := Lib.hid (show r = false by rw [HR.out]; simp [ownB, askN, askOf, q2])
    clear q2
    go_wp2_with fail
    go_ret
    exact ⟨by rw [HF.out]; rfl, bel⟩
  obtain rfl := size_nil q2
  clear q2
  by_cases q3 : 0 ≤ n
  rotate_left
  · have d1 : decide (n < 0) = true := decide_eq_true (by omega)
    have HF := Lib.hid (show r = false by rw [HR.out]; simp [ownB, askN, askOf, q3])
    clear q3
    go_wp2_with fail
    go_ret
    exact ⟨by rw [HF.out]; rfl, bel⟩
  have d1 : decide (n < 0) = false := decide_eq_false (by omega)
  by_cases q4 : n ≤ 999999999
  rotate_left
  · have d2 : decide ((999999999 : Int) < n) = true := decide_eq_true (by omega)
    have HF := Lib.hid (show r = false by rw [HR.out]; simp [ownB, askN, askOf, q4])
    clear q4
    go_wp2_with fail
    go_ret
    exact ⟨by rw [HF.out]; rfl, bel⟩
  have d2 : decide ((999999999 : Int) < n) = false := decide_eq_false (by omega)
  have Q3 := Lib.hid q3
  have Q4 := Lib.hid q4
  clear q3 q4
  go_upto_region 6 with fail
  clear d1 d2
  rcases bnd_cases lo with rfl | ⟨i, t, rfl⟩ | ⟨t, rfl⟩ | ⟨t, ht, rfl⟩
  rotate_left
  · skip
    have HF := Lib.hid (show r = false by rw [HR.out]; simp [ownB, askN, askOf, noEnd])
    go_wp2_with fail
    go_ret
    exact ⟨by rw [HF.out]; rfl, bel⟩
  · skip
    have HF := Lib.hid (show r = false by rw [HR.out]; simp [ownB, askN, askOf, noEnd])
    go_wp2_with fail
    go_ret
    exact ⟨by rw [HF.out]; rfl, bel⟩
  · obtain ⟨t1, t2⟩ := tl_ne ht
    have HF := Lib.hid (show r = false by rw [HR.out]; simp [ownB, askN, askOf, noEnd, ht])
    clear ht
    go_wp2_with fail
    go_ret
    exact ⟨by rw [HF.out]; rfl, bel⟩
  rcases bnd_cases hi with rfl | ⟨i, t, rfl⟩ | ⟨t, rfl⟩ | ⟨t, ht, rfl⟩
  rotate_left
  · skip
    have HF := Lib.hid (show r = false by rw [HR.out]; simp [ownB, askN, askOf, noEnd])
    go_wp2_with fail
    go_ret
    exact ⟨by rw [HF.out]; rfl, bel⟩
  · skip
    have HF := Lib.hid (show r = false by rw [HR.out]; simp [ownB, askN, askOf, noEnd])
    go_wp2_with fail
    go_ret
    exact ⟨by rw [HF.out]; rfl, bel⟩
  · obtain ⟨t1, t2⟩ := tl_ne ht
    have HF := Lib.hid (show r = false by rw [HR.out]; simp [ownB, askN, askOf, noEnd, ht])
    clear ht
    go_wp2_with fail
    go_ret
    exact ⟨by rw [HF.out]; rfl, bel⟩
  go_upto_region 8 with fail
  by_cases q7 : 1 ≤ nk
  rotate_left
  · have d3 : decide ((nk : Int) < 1) = true := decide_eq_true (by omega)
    have q8 : nk = 0 := by omega
    have HF := Lib.hid (show r = false by rw [HR.out]; simp [ownB, askN, askOf, q8])
    clear q7 q8
    go_wp2_with fail
    go_ret
    exact ⟨by rw [HF.out]; rfl, bel⟩
  have d3 : decide ((nk : Int) < 1) = false := decide_eq_false (by omega)
  have Q7b := Lib.hid (show (1 : Int) ≤ (nk : Int) by omega)
  have Q7 := Lib.hid q7
  clear q7
  go_upto_region 10 with fail
  clear d3
  by_cases q10 : (no : Int) = nk
  rotate_left
  · have d5 : ((no : Int) != (nk : Int)) = true := bne_iff_ne.2 q10
    have q11 : occ.length ≠ nk := by have := NL.out; omega
    have HF := Lib.hid (show r = false by rw [HR.out]; simp [ownB, askN, askOf, q11])
    clear q10 q11
    go_wp2_with fail
    go_ret
    exact ⟨by rw [HF.out]; rfl, bel⟩
  have d5 : ((no : Int) != (nk : Int)) = false := by rw [q10]; simp
  have Q10 := Lib.hid (show occ.length = nk by have := NL.out; omega)
  clear q10
  have HL := Lib.hid (show r = (occ.all occB && (true)) by rw [HR.out]; simp [ownB, askN, askOf, Q3.out, Q4.out, noEnd, Q7b.out, Q10.out] <;> (intros; rfl))
  go_upto_region 12 with fail
  clear d5
  go_wp2_with fail
  go_loop [124] (fun i => ∃ j : Nat, j ≤ no ∧ i = .int .i64 j ∧ (occ.take j).all occB = true) (fun i => no - (intOf i).toNat)
  case atStart => exact ⟨0, Nat.zero_le _, rfl, rfl⟩
  case round =>
    obtain ⟨j, hj, rfl, hall⟩ := hrel
    have HA := Lib.hid hall
    clear hall
    rcases Nat.lt_or_ge j no with hlt | hge
    · obtain ⟨z, hz⟩ : ∃ z, occ[j]? = some z := ⟨_, List.getElem?_eq_getElem (by have := NL.out; omega)⟩
      obtain ⟨g3, o3, rfl, hg3, hc3⟩ := S1.out (by intro h; rw [show occ = [] by simpa [ints] using h] at hz; simp at hz)
      have y : ∀ u u', ((w.alloc u).alloc u').cell? ⟨g3, o3 + j, none⟩ = some (.int .i64 z) := fun u u' => ((show Below w.heap.size w ((w.alloc u).alloc u') by exact Base.bel).cell (p := ⟨g3, o3 + j, none⟩) hg3).trans (hc3 j (.int .i64 z) (by simp [ints, hz]))
      have HT := Lib.hid (all_take (f := occB) hz HA.out)
      have HB := Lib.hid (fun h => all_bad (f := occB) hz h)
      have hlt2 : (j : Int) < 9223372036854775807 := by have := NO.out; omega
      have i1 : (j : Int) < (no : Int) := by omega
      clear hz hc3
      rcases (by omega : z = 0 ∨ z = 1 ∨ z = 2 ∨ (z ≠ 0 ∧ z ≠ 1 ∧ z ≠ 2)) with rfl | rfl | rfl | ⟨z0, z1, z2⟩
      rotate_left 3
      · have e0 : (z != 0) = true := bne_iff_ne.2 z0
        have e1 : (z != 1) = true := bne_iff_ne.2 z1
        have e2 : (z != 2) = true := bne_iff_ne.2 z2
        have HQ9 := Lib.hid (show r = false by rw [HL.out, HB.out (show occB z = false by simp [occB, z0, z1, z2])]; rfl)
        clear z0 z1 z2
        go_wp2_with fail
        go_ret
        exact ⟨by rw [HQ9.out]; rfl, bel⟩
      all_goals
        go_wp2_with fail
        (try go_big_round); refine ⟨⟨j + 1, by omega, by go_num, ?_⟩, by simp [intOf]; omega⟩; rw [HT.out]; rfl
    · have hj' : j = no := by omega
      have HO := Lib.hid (show occ.all occB = true by have := HA.out; rw [hj', NL.out, List.take_length] at this; exact this)
      have i1 : ¬ ((j : Int) < (no : Int)) := by omega
      clear hj'
      go_wp2_with fail
      go_ret
      exact ⟨by rw [HL.out, HO.out]; rfl, bel⟩

set_option maxHeartbeats 8000000 in
theorem own_10 (fn T : ByteArray) (n : Int) (lo hi : Bnd) (occ : List Int) (nk : Nat) (A1 A2 : Option Addr) (c1 c2 : Nat) (w : World) (hs : T.size ≤ 1099511627776) (s1 : Slc w w.heap.size A1 (ints occ)) (hno : occ.length ≤ maxLen) (hnk : nk ≤ maxLen) (ha : Asks w) (h0 : 2 < w.heap.size) :
    Calls Tryz.prog 54 #[.agg (nodeV 10 fn T n ⟨lo, hi, A1, occ.length, c1, A2, nk, c2⟩)] w fun e w' => e = .returned (.bool (ownB ⟨10, fn, T, n, lo, hi, occ⟩ nk)) ∧ Below w.heap.size w w' := by
  obtain ⟨r, hr⟩ : ∃ r, r = ownB ⟨10, fn, T, n, lo, hi, occ⟩ nk := ⟨_, rfl⟩
  rw [← hr]
  have HR := Lib.hid hr
  clear hr
  have hml : maxLen = 9223372036854775807 := rfl
  have NO := Lib.hid (show occ.length ≤ 9223372036854775807 from hno)
  have NK := Lib.hid (show nk ≤ 9223372036854775807 from hnk)
  have S1 := Lib.hid s1
  obtain ⟨no, hno1⟩ : ∃ x, x = occ.length := ⟨_, rfl⟩
  rw [← hno1] at NO ⊢
  have NL := Lib.hid hno1
  clear hno hnk s1 hml hno1
  have AS := fun o => Asks.below ha ((Below.refl w.heap.size w).alloc (Nat.le_refl _) o) h0
  have a0 : ∀ o, (w.alloc o).cell? ⟨2, 100, none⟩ = some (.bool false) := fun o => AS o 10 0 _ (by decide) rfl
  have a1 : ∀ o, (w.alloc o).cell? ⟨2, 101, none⟩ = some (.bool false) := fun o => AS o 10 1 _ (by decide) rfl
  have a2 : ∀ o, (w.alloc o).cell? ⟨2, 102, none⟩ = some (.int .i64 0) := fun o => AS o 10 2 _ (by decide) rfl
  have a3 : ∀ o, (w.alloc o).cell? ⟨2, 103, none⟩ = some (.int .i64 0) := fun o => AS o 10 3 _ (by decide) rfl
  have a4 : ∀ o, (w.alloc o).cell? ⟨2, 104, none⟩ = some (.bool false) := fun o => AS o 10 4 _ (by decide) rfl
  have a5 : ∀ o, (w.alloc o).cell? ⟨2, 105, none⟩ = some (.bool false) := fun o => AS o 10 5 _ (by decide) rfl
  have a6 : ∀ o, (w.alloc o).cell? ⟨2, 106, none⟩ = some (.int .i64 1) := fun o => AS o 10 6 _ (by decide) rfl
  have a7 : ∀ o, (w.alloc o).cell? ⟨2, 107, none⟩ = some (.int .i64 (-1)) := fun o => AS o 10 7 _ (by decide) rfl
  have a8 : ∀ o, (w.alloc o).cell? ⟨2, 108, none⟩ = some (.int .i64 2) := fun o => AS o 10 8 _ (by decide) rfl
  have a9 : ∀ o, (w.alloc o).cell? ⟨2, 109, none⟩ = some (.string ⟨#[32, 65, 78, 68, 32]⟩) := fun o => AS o 10 9 _ (by decide) rfl
  unfold nodeV
  simp only
  clear ha AS
  clear hs
  go_enter Tryz.func54, Tryz.ntmps54
  go_upto_region 4 with fail
  clear a0 a1 a2 a3 a4 a5 a6 a7 a8 a9
  by_cases q1 : fn.size = 0
  rotate_left
  · obtain ⟨t1, t2⟩ := tl_ne q1
    have HF := Lib.hid (show r = false by rw [HR.out]; simp [ownB, askN, askOf, q1])
    clear q1
    go_wp2_with fail
    go_ret
    exact ⟨by rw [HF.out]; rfl, bel⟩
  obtain rfl := size_nil q1
  clear q1
  by_cases q2 : T.size = 0
  rotate_left
  · obtain ⟨t1, t2⟩ := tl_ne q2
    have HF := Lib.hid (show r = false by rw [HR.out]; simp [ownB, askN, askOf, q2])
    clear q2
    go_wp2_with fail
    go_ret
    exact ⟨by rw [HF.out]; rfl, bel⟩
  obtain rfl := size_nil q2
  clear q2
  by_cases q3 : 0 ≤ n
  rotate_left
  · have d1 : decide (n < 0) = true := decide_eq_true (by omega)
    have HF := Lib.hid (show r = false by rw [HR.out]; simp [ownB, askN, askOf, q3])
    clear q3
    go_wp2_with fail
    go_ret
    exact ⟨by rw [HF.out]; rfl, bel⟩
  have d1 : decide (n < 0) = false := decide_eq_false (by omega)
  by_cases q4 : n ≤ 0
  rotate_left
  · have d2 : decide ((0 : Int) < n) = true := decide_eq_true (by omega)
    have HF := Lib.hid (show r = false by rw [HR.out]; simp [ownB, askN, askOf, q4])
    clear q4
    go_wp2_with fail
    go_ret
    exact ⟨by rw [HF.out]; rfl, bel⟩
  have d2 : decide ((0 : Int) < n) = false := decide_eq_false (by omega)
  have Q3 := Lib.hid q3
  have Q4 := Lib.hid q4
  clear q3 q4
  go_upto_region 6 with fail
  clear d1 d2
  rcases bnd_cases lo with rfl | ⟨i, t, rfl⟩ | ⟨t, rfl⟩ | ⟨t, ht, rfl⟩
  rotate_left
  · skip
    have HF := Lib.hid (show r = false by rw [HR.out]; simp [ownB, askN, askOf, noEnd])
    go_wp2_with fail
    go_ret
    exact ⟨by rw [HF.out]; rfl, bel⟩
  · skip
    have HF := Lib.hid (show r = false by rw [HR.out]; simp [ownB, askN, askOf, noEnd])
    go_wp2_with fail
    go_ret
    exact ⟨by rw [HF.out]; rfl, bel⟩
  · obtain ⟨t1, t2⟩ := tl_ne ht
    have HF := Lib.hid (show r = false by rw [HR.out]; simp [ownB, askN, askOf, noEnd, ht])
    clear ht
    go_wp2_with fail
    go_ret
    exact ⟨by rw [HF.out]; rfl, bel⟩
  rcases bnd_cases hi with rfl | ⟨i, t, rfl⟩ | ⟨t, rfl⟩ | ⟨t, ht, rfl⟩
  rotate_left
  · skip
    have HF := Lib.hid (show r = false by rw [HR.out]; simp [ownB, askN, askOf, noEnd])
    go_wp2_with fail
    go_ret
    exact ⟨by rw [HF.out]; rfl, bel⟩
  · skip
    have HF := Lib.hid (show r = false by rw [HR.out]; simp [ownB, askN, askOf, noEnd])
    go_wp2_with fail
    go_ret
    exact ⟨by rw [HF.out]; rfl, bel⟩
  · obtain ⟨t1, t2⟩ := tl_ne ht
    have HF := Lib.hid (show r = false by rw [HR.out]; simp [ownB, askN, askOf, noEnd, ht])
    clear ht
    go_wp2_with fail
    go_ret
    exact ⟨by rw [HF.out]; rfl, bel⟩
  go_upto_region 8 with fail
  by_cases q7 : 1 ≤ nk
  rotate_left
  · have d3 : decide ((nk : Int) < 1) = true := decide_eq_true (by omega)
    have q8 : nk = 0 := by omega
    have HF := Lib.hid (show r = false by rw [HR.out]; simp [ownB, askN, askOf, q8])
    clear q7 q8
    go_wp2_with fail
    go_ret
    exact ⟨by rw [HF.out]; rfl, bel⟩
  have d3 : decide ((nk : Int) < 1) = false := decide_eq_false (by omega)
  have Q7b := Lib.hid (show (1 : Int) ≤ (nk : Int) by omega)
  have Q7 := Lib.hid q7
  clear q7
  go_upto_region 10 with fail
  clear d3
  by_cases q10 : no = 0
  rotate_left
  · have d5 : decide ((0 : Int) < (no : Int)) = true := decide_eq_true (by omega)
    have d5n : decide (0 < no) = true := decide_eq_true (by omega)
    have q11 : occ ≠ [] := by intro h; have := NL.out; rw [h] at this; simp at this; omega
    have HF := Lib.hid (show r = false by rw [HR.out]; simp [ownB, askN, askOf, q11])
    clear q10 q11
    go_wp2_with fail
    go_ret
    exact ⟨by rw [HF.out]; rfl, bel⟩
  have d5 : decide ((0 : Int) < (no : Int)) = false := decide_eq_false (by omega)
  have d5n : decide (0 < no) = false := decide_eq_false (by omega)
  have Q10 := Lib.hid (show occ = [] by have := NL.out; exact List.eq_nil_of_length_eq_zero (by omega))
  clear q10
  have HL := Lib.hid (show r = (occ.all occB && (true)) by rw [HR.out]; simp [ownB, askN, askOf, Q3.out, Q4.out, noEnd, Q7b.out, Q10.out] <;> (intros; rfl))
  go_upto_region 12 with fail
  clear d5 d5n
  go_wp2_with fail
  go_loop [124] (fun i => ∃ j : Nat, j ≤ no ∧ i = .int .i64 j ∧ (occ.take j).all occB = true) (fun i => no - (intOf i).toNat)
  case atStart => exact ⟨0, Nat.zero_le _, rfl, rfl⟩
  case round =>
    obtain ⟨j, hj, rfl, hall⟩ := hrel
    have HA := Lib.hid hall
    clear hall
    rcases Nat.lt_or_ge j no with hlt | hge
    · obtain ⟨z, hz⟩ : ∃ z, occ[j]? = some z := ⟨_, List.getElem?_eq_getElem (by have := NL.out; omega)⟩
      obtain ⟨g3, o3, rfl, hg3, hc3⟩ := S1.out (by intro h; rw [show occ = [] by simpa [ints] using h] at hz; simp at hz)
      have y : ∀ u u', ((w.alloc u).alloc u').cell? ⟨g3, o3 + j, none⟩ = some (.int .i64 z) := fun u u' => ((show Below w.heap.size w ((w.alloc u).alloc u') by exact Base.bel).cell (p := ⟨g3, o3 + j, none⟩) hg3).trans (hc3 j (.int .i64 z) (by simp [ints, hz]))
      have HT := Lib.hid (all_take (f := occB) hz HA.out)
      have HB := Lib.hid (fun h => all_bad (f := occB) hz h)
      have hlt2 : (j : Int) < 9223372036854775807 := by have := NO.out; omega
      have i1 : (j : Int) < (no : Int) := by omega
      clear hz hc3
      rcases (by omega : z = 0 ∨ z = 1 ∨ z = 2 ∨ (z ≠ 0 ∧ z ≠ 1 ∧ z ≠ 2)) with rfl | rfl | rfl | ⟨z0, z1, z2⟩
      rotate_left 3
      · have e0 : (z != 0) = true := bne_iff_ne.2 z0
        have e1 : (z != 1) = true := bne_iff_ne.2 z1
        have e2 : (z != 2) = true := bne_iff_ne.2 z2
        have HQ9 := Lib.hid (show r = false by rw [HL.out, HB.out (show occB z = false by simp [occB, z0, z1, z2])]; rfl)
        clear z0 z1 z2
        go_wp2_with fail
        go_ret
        exact ⟨by rw [HQ9.out]; rfl, bel⟩
      all_goals
        go_wp2_with fail
        (try go_big_round); refine ⟨⟨j + 1, by omega, by go_num, ?_⟩, by simp [intOf]; omega⟩; rw [HT.out]; rfl
    · have hj' : j = no := by omega
      have HO := Lib.hid (show occ.all occB = true by have := HA.out; rw [hj', NL.out, List.take_length] at this; exact this)
      have i1 : ¬ ((j : Int) < (no : Int)) := by omega
      clear hj'
      go_wp2_with fail
      go_ret
      exact ⟨by rw [HL.out, HO.out]; rfl, bel⟩
end Go.Proofs.YtkcfgcdlnojaeaaGreatDoor.NodeOwn2
