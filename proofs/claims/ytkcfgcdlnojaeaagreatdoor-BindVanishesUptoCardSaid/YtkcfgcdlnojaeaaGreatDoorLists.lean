/-
  The walk of bind's lists over whatever row and query.
-/
import Derived.Test.YtkcfgcdlnojaeaaGreatDoorNumbers
set_option linter.unusedVariables false
set_option linter.unusedSimpArgs false
namespace Go.Proofs.YtkcfgcdlnojaeaaGreatDoor.Lists
set_option maxRecDepth 100000
open Go.RowKit Go.PlainAid Base Query QrySize BindBase TextPlain Numbers

theorem all_take {f : Int → Bool} {l : List Int} {j : Nat} {x : Int} (h : l[j]? = some x) (ha : (l.take j).all f = true) : (l.take (j + 1)).all f = f x := by
  rw [List.take_add_one, h, List.all_append, ha]
  simp
theorem all_bad {f : Int → Bool} {l : List Int} {j : Nat} {x : Int} (h : l[j]? = some x) (hx : f x = false) : l.all f = false := by
  rw [List.all_eq_false]
  exact ⟨x, List.mem_of_getElem? h, by simp [hx]⟩
def lenB (x : Has) (nk no nf nt : Nat) : Bool := (if 0 ≤ x.k then (nk : Int) == x.k else nk != 0) && (if x.f then no == nk else no == 0)
def lenC (x : Has) (nf nt : Nat) : Bool := nf == nt && (x.e == (nt != 0))
theorem lst_eq (x : Has) (nk : Nat) (h : Head) : lstB x nk h = (lenB x nk h.occur.length h.offs.length h.terms.length && h.occur.all occB && (lenC x h.offs.length h.terms.length && h.offs.all offB)) := by
  unfold lstB lenB lenC
  simp only [Bool.and_assoc]

set_option maxHeartbeats 4000000 in
theorem lists_any (x : Has) (hx : (x.e = false ∧ x.f = false ∧ x.k = 0) ∨ (x.e = true ∧ x.f = false ∧ x.k = 0) ∨ (x.e = false ∧ x.f = true ∧ x.k = -1) ∨ (x.e = false ∧ x.f = false ∧ x.k = -1) ∨ (x.e = false ∧ x.f = false ∧ x.k = 1))
    (hd : Head) (hw : Hwf hd) (nk : Nat) (A1 A2 A3 A4 : Option Addr) (c1 c2 c3 c4 : Nat) (w : World) (s2 : Slc w w.heap.size A2 (ints hd.offs)) (s3 : Slc w w.heap.size A3 (ints hd.occur)) :
    Calls Tryz.prog 98 #[.agg (rowV x), .agg (qcells hd nk A1 A2 A3 A4 c1 c2 c3 c4)] w fun e w' => e = .returned (.bool (lstB x nk hd)) ∧ Below w.heap.size w w' := by
  rw [lst_eq]
  have hno : hd.occur.length ≤ 9223372036854775807 := hw.noccur
  have hnf : hd.offs.length ≤ 9223372036854775807 := hw.noffs
  obtain ⟨a, b, c, m, d, e, f, k, p, nm⟩ := x
  obtain ⟨kind, field, text, terms, offs, qn, weight, lo, hi, occur⟩ := hd
  simp only at hx s2 s3 hno hnf ⊢
  clear hw
  obtain ⟨no, hno'⟩ : ∃ no, no = occur.length := ⟨_, rfl⟩
  obtain ⟨nf, hnf'⟩ : ∃ nf, nf = offs.length := ⟨_, rfl⟩
  obtain ⟨nt, hnt'⟩ : ∃ nt, nt = terms.length := ⟨_, rfl⟩
  have NO := Lib.hid hno'
  have NF := Lib.hid hnf'
  have S2 := Lib.hid s2
  have S3 := Lib.hid s3
  unfold rowV qcells
  simp only
  rw [← hno', ← hnf', ← hnt']
  rw [← hno'] at hno
  rw [← hnf'] at hnf
  clear hno' hnf' hnt' s2 s3
  obtain ⟨LB, hLB⟩ : ∃ v, v = lenB ⟨a, b, c, m, d, e, f, k, p, nm⟩ nk no nf nt := ⟨_, rfl⟩
  obtain ⟨LC, hLC⟩ : ∃ v, v = lenC ⟨a, b, c, m, d, e, f, k, p, nm⟩ nf nt := ⟨_, rfl⟩
  rw [← hLB, ← hLC]
  rcases hx with ⟨rfl, rfl, rfl⟩ | ⟨rfl, rfl, rfl⟩ | ⟨rfl, rfl, rfl⟩ | ⟨rfl, rfl, rfl⟩ | ⟨rfl, rfl, rfl⟩
  rotate_left 2
  rcases Decidable.em (no = nk) with hon | hon
  obtain rfl : no = nk := hon
  rotate_left 1
  have hon' : ¬ ((no : Int) = (nk : Int)) := by omega
  clear hon
  all_goals rcases Decidable.em (nf = nt) with hft | hft
  all_goals first | (obtain rfl : nf = nt := hft) | (have hft' : ¬ ((nf : Int) = (nt : Int)) := (by omega); clear hft)
  all_goals
    have HLB := Lib.hid hLB
    have HLC := Lib.hid hLC
    clear hLB hLC
    go_enter Tryz.func98, Tryz.ntmps98
    go_wp2_with fail
  all_goals (first | (go_ret; refine ⟨congrArg (fun b => Ending.returned (.bool b)) ?_, (by exact Base.bel)⟩; rw [HLB.out]; simp only [lenB]; first | grind | ((try simp only [Bool.not_eq_false', Bool.not_eq_true', Bool.not_eq_eq_eq_not, Bool.not_true, Bool.not_false, decide_eq_true_eq, decide_eq_false_iff_not, beq_iff_eq, beq_eq_false_iff_ne, ne_eq] at *); simp; omega)) | skip)
  all_goals
    have l1 : LB = true := by rw [HLB.out]; simp only [lenB]; first | grind | ((try simp only [Bool.not_eq_false', Bool.not_eq_true', Bool.not_eq_eq_eq_not, Bool.not_true, Bool.not_false, decide_eq_true_eq, decide_eq_false_iff_not, beq_iff_eq, beq_eq_false_iff_ne, ne_eq] at *); simp; omega)
    have L1 := Lib.hid l1
    clear l1
    try (rename (no : Int) = (nk : Int) => hnn; clear hnn)
    go_loop [56] (fun i => ∃ j : Nat, j ≤ no ∧ i = .int .i64 j ∧ (occur.take j).all occB = true) (fun i => no - (intOf i).toNat)
    case atStart => exact ⟨0, Nat.zero_le _, rfl, rfl⟩
    case round =>
      obtain ⟨j, hj, rfl, hall⟩ := hrel
      have HA := Lib.hid hall
      clear hall
      rcases Nat.lt_or_ge j no with hlt | hge
      · obtain ⟨z, hz⟩ : ∃ z, occur[j]? = some z := ⟨_, List.getElem?_eq_getElem (by have := NO.out; omega)⟩
        obtain ⟨g3, o3, rfl, hg3, hc3⟩ := S3.out (by intro h; rw [show occur = [] by simpa [ints] using h] at hz; simp at hz)
        have y : ∀ u u', ((w.alloc u).alloc u').cell? ⟨g3, o3 + j, none⟩ = some (.int .i64 z) := fun u u' => ((show Below w.heap.size w ((w.alloc u).alloc u') by exact Base.bel).cell (p := ⟨g3, o3 + j, none⟩) hg3).trans (hc3 j (.int .i64 z) (by simp [ints, hz]))
        have HT := Lib.hid (all_take (f := occB) hz HA.out)
        have HB := Lib.hid (fun h => all_bad (f := occB) hz h)
        have hlt2 : (j : Int) < 9223372036854775807 := by omega
        have i1 : (j : Int) < (no : Int) := by omega
        clear hz hc3
        rcases (by omega : z = 0 ∨ z = 1 ∨ z = 2 ∨ (z ≠ 0 ∧ z ≠ 1 ∧ z ≠ 2)) with rfl | rfl | rfl | ⟨z0, z1, z2⟩
        rotate_left 3
        · have e0 : (z != 0) = true := bne_iff_ne.2 z0
          have e1 : (z != 1) = true := bne_iff_ne.2 z1
          have e2 : (z != 2) = true := bne_iff_ne.2 z2
          have HQ9 := Lib.hid (HB.out (show occB z = false by simp [occB, z0, z1, z2]))
          clear z0 z1 z2
          go_wp2_with fail
          (go_ret; refine ⟨congrArg (fun b => Ending.returned (.bool b)) ?_, (by exact Base.bel)⟩; rw [L1.out, HQ9.out]; rfl)
        all_goals
          go_wp2_with fail
          (try go_big_round); refine ⟨⟨j + 1, by omega, by go_num, ?_⟩, by simp [intOf]; omega⟩; rw [HT.out]; rfl
      · have hj' : j = no := by omega
        have HO := Lib.hid (show occur.all occB = true by have := HA.out; rw [hj', NO.out, List.take_length] at this; exact this)
        have i1 : ¬ ((j : Int) < (no : Int)) := by omega
        clear hj'
        go_wp2_with fail
        all_goals (first | (go_ret; refine ⟨congrArg (fun b => Ending.returned (.bool b)) ?_, (by exact Base.bel)⟩; rw [L1.out, HO.out, HLC.out]; simp only [lenC]; first | grind | ((try simp only [Bool.not_eq_false', Bool.not_eq_true', Bool.not_eq_eq_eq_not, Bool.not_true, Bool.not_false, decide_eq_true_eq, decide_eq_false_iff_not, beq_iff_eq, beq_eq_false_iff_ne, ne_eq] at *); simp; omega)) | skip)
        all_goals
          have l2 : LC = true := by rw [HLC.out]; simp only [lenC]; first | grind | ((try simp only [Bool.not_eq_false', Bool.not_eq_true', Bool.not_eq_eq_eq_not, Bool.not_true, Bool.not_false, decide_eq_true_eq, decide_eq_false_iff_not, beq_iff_eq, beq_eq_false_iff_ne, ne_eq] at *); simp; omega)
          have L2 := Lib.hid l2
          clear l2
          try (rename (nf : Int) = (nt : Int) => hnn; clear hnn)
          go_loop [90] (fun i => ∃ j : Nat, j ≤ nf ∧ i = .int .i64 j ∧ (offs.take j).all offB = true) (fun i => nf - (intOf i).toNat)
          case atStart => exact ⟨0, Nat.zero_le _, rfl, rfl⟩
          case round =>
            obtain ⟨j2, hj2, rfl, hall2⟩ := hrel
            have HA2 := Lib.hid hall2
            clear hall2
            rcases Nat.lt_or_ge j2 nf with hlt2 | hge2
            · obtain ⟨z, hz⟩ : ∃ z, offs[j2]? = some z := ⟨_, List.getElem?_eq_getElem (by have := NF.out; omega)⟩
              obtain ⟨g3, o3, rfl, hg3, hc3⟩ := S2.out (by intro h; rw [show offs = [] by simpa [ints] using h] at hz; simp at hz)
              have y : ∀ u u', ((w.alloc u).alloc u').cell? ⟨g3, o3 + j2, none⟩ = some (.int .i64 z) := fun u u' => ((show Below w.heap.size w ((w.alloc u).alloc u') by exact Base.bel).cell (p := ⟨g3, o3 + j2, none⟩) hg3).trans (hc3 j2 (.int .i64 z) (by simp [ints, hz]))
              have HT := Lib.hid (all_take (f := offB) hz HA2.out)
              have HB := Lib.hid (fun h => all_bad (f := offB) hz h)
              have hlt3 : (j2 : Int) < 9223372036854775807 := by omega
              have i3 : (j2 : Int) < (nf : Int) := by omega
              clear hz hc3
              rcases (by omega : z < 0 ∨ (0 ≤ z ∧ 2147483647 ≤ z) ∨ (0 ≤ z ∧ z < 2147483647)) with z0 | ⟨z0, z1⟩ | ⟨z0, z1⟩
              · have e0 : decide (z < 0) = true := decide_eq_true z0
                have HQ9 := Lib.hid (HB.out (show offB z = false by simp [offB]; omega))
                clear z0
                go_wp2_with fail
                (go_ret; refine ⟨congrArg (fun b => Ending.returned (.bool b)) ?_, (by exact Base.bel)⟩; rw [L1.out, HO.out, L2.out, HQ9.out]; rfl)
              · have e0 : decide (z < 0) = false := decide_eq_false (by omega)
                have e1 : decide (2147483647 ≤ z) = true := decide_eq_true z1
                have HQ9 := Lib.hid (HB.out (show offB z = false by simp [offB]; omega))
                clear z0 z1
                go_wp2_with fail
                (go_ret; refine ⟨congrArg (fun b => Ending.returned (.bool b)) ?_, (by exact Base.bel)⟩; rw [L1.out, HO.out, L2.out, HQ9.out]; rfl)
              · have e0 : decide (z < 0) = false := decide_eq_false (by omega)
                have e1 : decide (2147483647 ≤ z) = false := decide_eq_false (by omega)
                have HQ9 := Lib.hid (show offB z = true by simp [offB]; omega)
                clear z0 z1
                go_wp2_with fail
                (try go_big_round); refine ⟨⟨j2 + 1, by omega, by go_num, ?_⟩, by simp [intOf]; omega⟩; rw [HT.out]; exact HQ9.out
            · have hj3 : j2 = nf := by omega
              have HF := Lib.hid (show offs.all offB = true by have := HA2.out; rw [hj3, NF.out, List.take_length] at this; exact this)
              have i3 : ¬ ((j2 : Int) < (nf : Int)) := by omega
              clear hj3
              go_wp2_with fail
              go_ret
              refine ⟨congrArg (fun b => Ending.returned (.bool b)) ?_, (by exact Base.bel)⟩
              rw [L1.out, HO.out, L2.out, HF.out]
              rfl
end Go.Proofs.YtkcfgcdlnojaeaaGreatDoor.Lists
