/-
  The walks of the reference's end, Multi and asked over whatever query.
-/
import Derived.Test.YtkcfgcdlnojaeaaGreatDoorLists
import Derived.Test.YtkcfgcdlnojaeaaGreatDoorGoodPat
import Derived.Test.YtkcfgcdlnojaeaaGreatDoorDTextP
set_option linter.unusedVariables false
set_option linter.unusedSimpArgs false
namespace Go.Proofs.YtkcfgcdlnojaeaaGreatDoor.RefAsked
set_option maxRecDepth 100000
open Go.RowKit Go.PlainAid Base Query QrySize BindBase TextPlain TextOne Numbers Lists GoodPat

set_option maxHeartbeats 1000000 in
theorem rend_any (b : Bnd) (w : World) : Calls Tryz.prog 130 #[.agg #[.bool b.op, .bool b.inn, .string b.text]] w fun e w' => e = .returned (.bool (okEnd b)) ∧ Below w.heap.size w w' := by
  obtain ⟨o, i, t⟩ := b
  simp only
  cases o <;> cases i
  all_goals
    go_enter Tryz.func130, Tryz.ntmps130
    go_wp2_with fail
    go_ret
    refine ⟨congrArg (fun b => Ending.returned (.bool b)) ?_, (by (repeat (first | exact Below.refl _ _ | assumption | refine balloc ?_ _ | refine bdrew ?_ | refine bdrewN ?_ _ | refine bchain ?_ (by assumption))))⟩
    simp [okEnd, tl_empty, tl_nil]

/-- A query's cells after box. -/
theorem asked_simple (hd : Head) (hk : hd.kind = 1 ∨ hd.kind = 2 ∨ hd.kind = 3 ∨ hd.kind = 4 ∨ hd.kind = 6 ∨ hd.kind = 11 ∨ hd.kind = 12 ∨ hd.kind = 13 ∨ hd.kind = 14) (nk : Nat) (A1 A2 A3 A4 : Option Addr) (c1 c2 c3 c4 : Nat) (w : World) :
    Calls Tryz.prog 106 #[.agg (qcells hd nk A1 A2 A3 A4 c1 c2 c3 c4)] w fun e w' => e = .returned (.bool (askB hd nk)) ∧ Below w.heap.size w w' := by
  obtain ⟨kind, field, text, terms, offs, n, weight, lo, hi, occur⟩ := hd
  simp only at hk
  rcases hk with rfl | rfl | rfl | rfl | rfl | rfl | rfl | rfl | rfl
  all_goals
    unfold qcells
    go_enter Tryz.func106, Tryz.ntmps106
    go_wp2_with fail
    go_ret
    refine ⟨congrArg (fun b => Ending.returned (.bool b)) ?_, (by (repeat (first | exact Below.refl _ _ | assumption | refine balloc ?_ _ | refine bdrew ?_ | refine bdrewN ?_ _ | refine bchain ?_ (by assumption))))⟩
    simp [askB]
    try grind
set_option maxHeartbeats 4000000 in
theorem asked_7 (hd : Head) (hk : hd.kind = 7) (hs : hd.text.size ≤ 1099511627776) (nk : Nat) (A1 A2 A3 A4 : Option Addr) (c1 c2 c3 c4 : Nat) (w : World) :
    Calls Tryz.prog 106 #[.agg (qcells hd nk A1 A2 A3 A4 c1 c2 c3 c4)] w fun e w' => e = .returned (.bool (askB hd nk)) ∧ Below w.heap.size w w' := by
  obtain ⟨kind, field, text, terms, offs, n, weight, lo, hi, occur⟩ := hd
  simp only at hk hs
  subst hk
  have PA := Lib.hid (fun W => refGood_pat text W hs)
  unfold qcells
  go_enter Tryz.func106, Tryz.ntmps106
  go_wp2_with (go_at_call 129; refine (PA.out _).mono ?_; rintro e w2 ⟨rfl, hb2⟩)
  go_ret
  refine ⟨congrArg (fun b => Ending.returned (.bool b)) ?_, (by (repeat (first | exact Below.refl _ _ | assumption | refine balloc ?_ _ | refine bdrew ?_ | refine bdrewN ?_ _ | refine bchain ?_ (by assumption))))⟩
  simp [askB]
set_option maxHeartbeats 4000000 in
theorem asked_8 (hd : Head) (hk : hd.kind = 8) (nk : Nat) (A1 A2 A3 A4 : Option Addr) (c1 c2 c3 c4 : Nat) (w : World) :
    Calls Tryz.prog 106 #[.agg (qcells hd nk A1 A2 A3 A4 c1 c2 c3 c4)] w fun e w' => e = .returned (.bool (askB hd nk)) ∧ Below w.heap.size w w' := by
  obtain ⟨kind, field, text, terms, offs, n, weight, lo, hi, occur⟩ := hd
  simp only at hk
  subst hk
  unfold qcells
  rcases (by omega : n < 0 ∨ (0 ≤ n ∧ 2 < n) ∨ (0 ≤ n ∧ n ≤ 2)) with h | ⟨h, h2⟩ | ⟨h, h2⟩
  all_goals
    go_enter Tryz.func106, Tryz.ntmps106
    go_wp2_with fail
    all_goals go_ret
    all_goals refine ⟨congrArg (fun b => Ending.returned (.bool b)) ?_, (by (repeat (first | exact Below.refl _ _ | assumption | refine balloc ?_ _ | refine bdrew ?_ | refine bdrewN ?_ _ | refine bchain ?_ (by assumption))))⟩
    all_goals (simp [askB]; try omega)
set_option maxHeartbeats 4000000 in
theorem asked_9 (hd : Head) (hk : hd.kind = 9) (nk : Nat) (A1 A2 A3 A4 : Option Addr) (c1 c2 c3 c4 : Nat) (w : World) :
    Calls Tryz.prog 106 #[.agg (qcells hd nk A1 A2 A3 A4 c1 c2 c3 c4)] w fun e w' => e = .returned (.bool (askB hd nk)) ∧ Below w.heap.size w w' := by
  obtain ⟨kind, field, text, terms, offs, n, weight, lo, hi, occur⟩ := hd
  simp only at hk
  subst hk
  have E1 := Lib.hid (fun W => rend_any lo W)
  have E2 := Lib.hid (fun W => rend_any hi W)
  obtain ⟨b1, hb1⟩ : ∃ b, b = okEnd lo := ⟨_, rfl⟩
  obtain ⟨b2, hb2⟩ : ∃ b, b = okEnd hi := ⟨_, rfl⟩
  have hv : askB ⟨9, field, text, terms, offs, n, weight, lo, hi, occur⟩ nk = (b1 && b2) := by rw [hb1, hb2]; simp [askB]
  rw [hv]
  simp only [← hb1] at E1
  simp only [← hb2] at E2
  clear hv hb1 hb2
  obtain ⟨W1, hW1⟩ : ∃ W, W = w.alloc (.cells (qcells ⟨9, field, text, terms, offs, n, weight, lo, hi, occur⟩ nk A1 A2 A3 A4 c1 c2 c3 c4) 29) := ⟨_, rfl⟩
  have K1 : Blk W1 w.heap.size 29 (qcells ⟨9, field, text, terms, offs, n, weight, lo, hi, occur⟩ nk A1 A2 A3 A4 c1 c2 c3 c4) := by rw [hW1]; exact Blk.new w _ _
  have hsz : w.heap.size + 1 = W1.heap.size := by rw [hW1]; simp
  have hbW : Below w.heap.size w W1 := by rw [hW1]; (repeat (first | exact Below.refl _ _ | assumption | refine balloc ?_ _ | refine bdrew ?_ | refine bdrewN ?_ _ | refine bchain ?_ (by assumption)))
  have HW := Lib.hid hW1
  have HZ := Lib.hid hsz
  clear hW1 hsz
  unfold qcells at K1 ⊢
  cases b1 <;> cases b2
  all_goals
    go_enter Tryz.func106, Tryz.ntmps106
    go_wp2_with (first | (go_at_call 130; (with_reducible refine (E1.out _).mono ?_); rintro e w2 ⟨rfl, hb2⟩; have q2 : Below W1.heap.size W1 w2 := (by rw [HW.out]; exact hb2); have y10 : w2.cell? ⟨w.heap.size, 10, none⟩ = some (.bool hi.op) := (K1.below q2 (by have := HZ.out; omega)).cell 10; have y11 : w2.cell? ⟨w.heap.size, 11, none⟩ = some (.bool hi.inn) := (K1.below q2 (by have := HZ.out; omega)).cell 11; have y12 : w2.cell? ⟨w.heap.size, 12, none⟩ = some (.string hi.text) := (K1.below q2 (by have := HZ.out; omega)).cell 12) | (go_at_call 130; (with_reducible refine (E2.out _).mono ?_); rintro e w3 ⟨rfl, hb3⟩))
    go_ret
    first | exact ⟨rfl, bchain (bchain hbW q2) hb3⟩ | exact ⟨rfl, bchain hbW q2⟩
set_option maxHeartbeats 8000000 in
theorem asked_5 (hd : Head) (hk : hd.kind = 5) (hw : Hwf hd) (nk : Nat) (A1 A2 A3 A4 : Option Addr) (c1 c2 c3 c4 : Nat) (w : World) (s2 : Slc w w.heap.size A2 (ints hd.offs)) :
    Calls Tryz.prog 106 #[.agg (qcells hd nk A1 A2 A3 A4 c1 c2 c3 c4)] w fun e w' => e = .returned (.bool (askB hd nk)) ∧ Below w.heap.size w w' := by
  obtain ⟨kind, field, text, terms, offs, n, weight, lo, hi, occur⟩ := hd
  simp only at hk s2
  subst hk
  have hnl : offs.length ≤ 9223372036854775807 := hw.noffs
  clear hw
  obtain ⟨nf, hnf⟩ : ∃ nf, nf = offs.length := ⟨_, rfl⟩
  obtain ⟨nt, hnt⟩ : ∃ nt, nt = terms.length := ⟨_, rfl⟩
  have NF := Lib.hid hnf
  have S2 := Lib.hid s2
  unfold qcells
  simp only
  rw [← hnf, ← hnt]
  rw [← hnf] at hnl
  obtain ⟨b0, hb0⟩ : ∃ b0, b0 = (decide (0 < nt) && nf == nt && decide (0 ≤ n) && decide (n ≤ 999999999)) := ⟨_, rfl⟩
  have HVAL := Lib.hid (show askB ⟨5, field, text, terms, offs, n, weight, lo, hi, occur⟩ nk = (b0 && offs.all offR) by rw [hb0, hnf, hnt]; simp [askB])
  clear hnt
  clear hnf s2
  have hcase : (¬ (0 < nt) ∧ b0 = false) ∨ (0 < nt ∧ nf ≠ nt ∧ b0 = false) ∨ (0 < nt ∧ nf = nt ∧ n < 0 ∧ b0 = false) ∨ (0 < nt ∧ nf = nt ∧ 0 ≤ n ∧ 999999999 < n ∧ b0 = false) ∨ (0 < nt ∧ nf = nt ∧ 0 ≤ n ∧ n ≤ 999999999 ∧ b0 = true) := by
    rw [hb0]
    simp
    omega
  clear hb0
  have hmain : ∀ (b : Bool), b0 = b → ((¬ ((0:Int) < nt)) ∨ ((0:Int) < nt ∧ ((nf : Int) == nt) = false) ∨ True) → True := fun _ _ _ => trivial
  clear hmain
  rcases hcase with ⟨i1, rfl⟩ | ⟨i1, i2, rfl⟩ | ⟨i1, i2, i3, rfl⟩ | ⟨i1, i2, i3, i4, rfl⟩ | ⟨i1, i2, i3, i4, rfl⟩
  · have j1 : ¬ ((0 : Int) < (nt : Int)) := by omega
    go_enter Tryz.func106, Tryz.ntmps106
    go_wp2_with fail
    go_loop [39, 3] (fun i u => ∃ j : Nat, j ≤ nf ∧ i = .int .i64 j ∧ u = .bool false) (fun i _ => nf - (intOf i).toNat)
    case atStart => exact ⟨0, Nat.zero_le _, rfl, rfl⟩
    case round =>
      obtain ⟨j, hj, rfl, rfl⟩ := hrel
      rcases Nat.lt_or_ge j nf with hlt | hge
      · obtain ⟨z, hz⟩ : ∃ z, offs[j]? = some z := ⟨_, List.getElem?_eq_getElem (by have := NF.out; omega)⟩
        obtain ⟨g3, o3, rfl, hg3, hc3⟩ := S2.out (by intro h; rw [show offs = [] by simpa [ints] using h] at hz; simp at hz)
        have y : ∀ u, (w.alloc u).cell? ⟨g3, o3 + j, none⟩ = some (.int .i64 z) := fun u => ((show Below w.heap.size w (w.alloc u) by (repeat (first | exact Below.refl _ _ | assumption | refine balloc ?_ _ | refine bdrew ?_ | refine bdrewN ?_ _ | refine bchain ?_ (by assumption)))).cell (p := ⟨g3, o3 + j, none⟩) hg3).trans (hc3 j (.int .i64 z) (by simp [ints, hz]))
        have HT := Lib.hid (show (offs.take (j + 1)).all offR = ((offs.take j).all offR && offR z) by rw [List.take_add_one, hz, List.all_append]; simp)
        have hlt2 : (j : Int) < 9223372036854775807 := by omega
        have k1 : (j : Int) < (nf : Int) := by omega
        clear hz hc3
        go_wp2_with fail
        (try go_big_round); refine ⟨⟨j + 1, by omega, by go_num, ?_⟩, by simp [intOf]; omega⟩; rfl
      · have hj' : j = nf := by omega
        have HO := Lib.hid (show (offs.take j).all offR = offs.all offR by rw [hj', NF.out, List.take_length])
        have k1 : ¬ ((j : Int) < (nf : Int)) := by omega
        clear hj'
        go_wp2_with fail
        go_ret
        refine ⟨congrArg (fun b => Ending.returned (.bool b)) ?_, (by (repeat (first | exact Below.refl _ _ | assumption | refine balloc ?_ _ | refine bdrew ?_ | refine bdrewN ?_ _ | refine bchain ?_ (by assumption))))⟩
        rw [HVAL.out, ← HO.out]
        simp
  · have j1 : (0 : Int) < (nt : Int) := by omega
    have j2 : ((nf : Int) == (nt : Int)) = false := beq_eq_false_iff_ne.2 (by omega)
    go_enter Tryz.func106, Tryz.ntmps106
    go_wp2_with fail
    go_loop [39, 3] (fun i u => ∃ j : Nat, j ≤ nf ∧ i = .int .i64 j ∧ u = .bool false) (fun i _ => nf - (intOf i).toNat)
    case atStart => exact ⟨0, Nat.zero_le _, rfl, rfl⟩
    case round =>
      obtain ⟨j, hj, rfl, rfl⟩ := hrel
      rcases Nat.lt_or_ge j nf with hlt | hge
      · obtain ⟨z, hz⟩ : ∃ z, offs[j]? = some z := ⟨_, List.getElem?_eq_getElem (by have := NF.out; omega)⟩
        obtain ⟨g3, o3, rfl, hg3, hc3⟩ := S2.out (by intro h; rw [show offs = [] by simpa [ints] using h] at hz; simp at hz)
        have y : ∀ u, (w.alloc u).cell? ⟨g3, o3 + j, none⟩ = some (.int .i64 z) := fun u => ((show Below w.heap.size w (w.alloc u) by (repeat (first | exact Below.refl _ _ | assumption | refine balloc ?_ _ | refine bdrew ?_ | refine bdrewN ?_ _ | refine bchain ?_ (by assumption)))).cell (p := ⟨g3, o3 + j, none⟩) hg3).trans (hc3 j (.int .i64 z) (by simp [ints, hz]))
        have HT := Lib.hid (show (offs.take (j + 1)).all offR = ((offs.take j).all offR && offR z) by rw [List.take_add_one, hz, List.all_append]; simp)
        have hlt2 : (j : Int) < 9223372036854775807 := by omega
        have k1 : (j : Int) < (nf : Int) := by omega
        clear hz hc3
        go_wp2_with fail
        (try go_big_round); refine ⟨⟨j + 1, by omega, by go_num, ?_⟩, by simp [intOf]; omega⟩; rfl
      · have hj' : j = nf := by omega
        have HO := Lib.hid (show (offs.take j).all offR = offs.all offR by rw [hj', NF.out, List.take_length])
        have k1 : ¬ ((j : Int) < (nf : Int)) := by omega
        clear hj'
        go_wp2_with fail
        go_ret
        refine ⟨congrArg (fun b => Ending.returned (.bool b)) ?_, (by (repeat (first | exact Below.refl _ _ | assumption | refine balloc ?_ _ | refine bdrew ?_ | refine bdrewN ?_ _ | refine bchain ?_ (by assumption))))⟩
        rw [HVAL.out, ← HO.out]
        simp
  · have j1 : (0 : Int) < (nt : Int) := by omega
    have j3 : decide (0 ≤ n) = false := decide_eq_false (by omega)
    obtain rfl := i2
    go_enter Tryz.func106, Tryz.ntmps106
    go_wp2_with fail
    go_loop [39, 3] (fun i u => ∃ j : Nat, j ≤ nf ∧ i = .int .i64 j ∧ u = .bool false) (fun i _ => nf - (intOf i).toNat)
    case atStart => exact ⟨0, Nat.zero_le _, rfl, rfl⟩
    case round =>
      obtain ⟨j, hj, rfl, rfl⟩ := hrel
      rcases Nat.lt_or_ge j nf with hlt | hge
      · obtain ⟨z, hz⟩ : ∃ z, offs[j]? = some z := ⟨_, List.getElem?_eq_getElem (by have := NF.out; omega)⟩
        obtain ⟨g3, o3, rfl, hg3, hc3⟩ := S2.out (by intro h; rw [show offs = [] by simpa [ints] using h] at hz; simp at hz)
        have y : ∀ u, (w.alloc u).cell? ⟨g3, o3 + j, none⟩ = some (.int .i64 z) := fun u => ((show Below w.heap.size w (w.alloc u) by (repeat (first | exact Below.refl _ _ | assumption | refine balloc ?_ _ | refine bdrew ?_ | refine bdrewN ?_ _ | refine bchain ?_ (by assumption)))).cell (p := ⟨g3, o3 + j, none⟩) hg3).trans (hc3 j (.int .i64 z) (by simp [ints, hz]))
        have HT := Lib.hid (show (offs.take (j + 1)).all offR = ((offs.take j).all offR && offR z) by rw [List.take_add_one, hz, List.all_append]; simp)
        have hlt2 : (j : Int) < 9223372036854775807 := by omega
        have k1 : (j : Int) < (nf : Int) := by omega
        clear hz hc3
        go_wp2_with fail
        (try go_big_round); refine ⟨⟨j + 1, by omega, by go_num, ?_⟩, by simp [intOf]; omega⟩; rfl
      · have hj' : j = nf := by omega
        have HO := Lib.hid (show (offs.take j).all offR = offs.all offR by rw [hj', NF.out, List.take_length])
        have k1 : ¬ ((j : Int) < (nf : Int)) := by omega
        clear hj'
        go_wp2_with fail
        go_ret
        refine ⟨congrArg (fun b => Ending.returned (.bool b)) ?_, (by (repeat (first | exact Below.refl _ _ | assumption | refine balloc ?_ _ | refine bdrew ?_ | refine bdrewN ?_ _ | refine bchain ?_ (by assumption))))⟩
        rw [HVAL.out, ← HO.out]
        simp
  · have j1 : (0 : Int) < (nt : Int) := by omega
    have j3 : decide (0 ≤ n) = true := decide_eq_true i3
    have j4 : decide (n ≤ 999999999) = false := decide_eq_false (by omega)
    obtain rfl := i2
    go_enter Tryz.func106, Tryz.ntmps106
    go_wp2_with fail
    go_loop [39, 3] (fun i u => ∃ j : Nat, j ≤ nf ∧ i = .int .i64 j ∧ u = .bool false) (fun i _ => nf - (intOf i).toNat)
    case atStart => exact ⟨0, Nat.zero_le _, rfl, rfl⟩
    case round =>
      obtain ⟨j, hj, rfl, rfl⟩ := hrel
      rcases Nat.lt_or_ge j nf with hlt | hge
      · obtain ⟨z, hz⟩ : ∃ z, offs[j]? = some z := ⟨_, List.getElem?_eq_getElem (by have := NF.out; omega)⟩
        obtain ⟨g3, o3, rfl, hg3, hc3⟩ := S2.out (by intro h; rw [show offs = [] by simpa [ints] using h] at hz; simp at hz)
        have y : ∀ u, (w.alloc u).cell? ⟨g3, o3 + j, none⟩ = some (.int .i64 z) := fun u => ((show Below w.heap.size w (w.alloc u) by (repeat (first | exact Below.refl _ _ | assumption | refine balloc ?_ _ | refine bdrew ?_ | refine bdrewN ?_ _ | refine bchain ?_ (by assumption)))).cell (p := ⟨g3, o3 + j, none⟩) hg3).trans (hc3 j (.int .i64 z) (by simp [ints, hz]))
        have HT := Lib.hid (show (offs.take (j + 1)).all offR = ((offs.take j).all offR && offR z) by rw [List.take_add_one, hz, List.all_append]; simp)
        have hlt2 : (j : Int) < 9223372036854775807 := by omega
        have k1 : (j : Int) < (nf : Int) := by omega
        clear hz hc3
        go_wp2_with fail
        (try go_big_round); refine ⟨⟨j + 1, by omega, by go_num, ?_⟩, by simp [intOf]; omega⟩; rfl
      · have hj' : j = nf := by omega
        have HO := Lib.hid (show (offs.take j).all offR = offs.all offR by rw [hj', NF.out, List.take_length])
        have k1 : ¬ ((j : Int) < (nf : Int)) := by omega
        clear hj'
        go_wp2_with fail
        go_ret
        refine ⟨congrArg (fun b => Ending.returned (.bool b)) ?_, (by (repeat (first | exact Below.refl _ _ | assumption | refine balloc ?_ _ | refine bdrew ?_ | refine bdrewN ?_ _ | refine bchain ?_ (by assumption))))⟩
        rw [HVAL.out, ← HO.out]
        simp
  · have j1 : (0 : Int) < (nt : Int) := by omega
    have j3 : decide (0 ≤ n) = true := decide_eq_true i3
    have j4 : decide (n ≤ 999999999) = true := decide_eq_true i4
    obtain rfl := i2
    go_enter Tryz.func106, Tryz.ntmps106
    go_wp2_with fail
    go_loop [39, 3] (fun i u => ∃ j : Nat, j ≤ nf ∧ i = .int .i64 j ∧ u = .bool ((offs.take j).all offR)) (fun i _ => nf - (intOf i).toNat)
    case atStart => exact ⟨0, Nat.zero_le _, rfl, rfl⟩
    case round =>
      obtain ⟨j, hj, rfl, rfl⟩ := hrel
      rcases Nat.lt_or_ge j nf with hlt | hge
      · obtain ⟨z, hz⟩ : ∃ z, offs[j]? = some z := ⟨_, List.getElem?_eq_getElem (by have := NF.out; omega)⟩
        obtain ⟨g3, o3, rfl, hg3, hc3⟩ := S2.out (by intro h; rw [show offs = [] by simpa [ints] using h] at hz; simp at hz)
        have y : ∀ u, (w.alloc u).cell? ⟨g3, o3 + j, none⟩ = some (.int .i64 z) := fun u => ((show Below w.heap.size w (w.alloc u) by (repeat (first | exact Below.refl _ _ | assumption | refine balloc ?_ _ | refine bdrew ?_ | refine bdrewN ?_ _ | refine bchain ?_ (by assumption)))).cell (p := ⟨g3, o3 + j, none⟩) hg3).trans (hc3 j (.int .i64 z) (by simp [ints, hz]))
        have HT := Lib.hid (show (offs.take (j + 1)).all offR = ((offs.take j).all offR && offR z) by rw [List.take_add_one, hz, List.all_append]; simp)
        have hlt2 : (j : Int) < 9223372036854775807 := by omega
        have k1 : (j : Int) < (nf : Int) := by omega
        clear hz hc3
        obtain ⟨acc, hacc⟩ : ∃ acc, acc = (offs.take j).all offR := ⟨_, rfl⟩
        rw [← hacc]
        have HACC := Lib.hid hacc
        clear hacc
        cases acc
        · go_wp2_with fail
          (try go_big_round); refine ⟨⟨j + 1, by omega, by go_num, ?_⟩, by simp [intOf]; omega⟩; rw [HT.out, ← HACC.out]; rfl
        · rcases (by omega : z < 0 ∨ (0 ≤ z ∧ 2147483646 < z) ∨ (0 ≤ z ∧ z ≤ 2147483646)) with z0 | ⟨z0, z1⟩ | ⟨z0, z1⟩
          · have HZ := Lib.hid (show offR z = false by simp [offR]; omega)
            have d1 : decide (0 ≤ z) = false := decide_eq_false (by omega)
            clear z0
            go_wp2_with fail
            (try go_big_round); refine ⟨⟨j + 1, by omega, by go_num, ?_⟩, by simp [intOf]; omega⟩; rw [HT.out, ← HACC.out, HZ.out]; rfl
          · have HZ := Lib.hid (show offR z = false by simp [offR]; omega)
            have d1 : decide (0 ≤ z) = true := decide_eq_true z0
            have d2 : decide (z ≤ 2147483646) = false := decide_eq_false (by omega)
            clear z0 z1
            go_wp2_with fail
            (try go_big_round); refine ⟨⟨j + 1, by omega, by go_num, ?_⟩, by simp [intOf]; omega⟩; rw [HT.out, ← HACC.out, HZ.out]; rfl
          · have HZ := Lib.hid (show offR z = true by simp [offR]; omega)
            have d1 : decide (0 ≤ z) = true := decide_eq_true z0
            have d2 : decide (z ≤ 2147483646) = true := decide_eq_true z1
            clear z0 z1
            go_wp2_with fail
            (try go_big_round); refine ⟨⟨j + 1, by omega, by go_num, ?_⟩, by simp [intOf]; omega⟩; rw [HT.out, ← HACC.out, HZ.out]; rfl
      · have hj' : j = nf := by omega
        have HO := Lib.hid (show (offs.take j).all offR = offs.all offR by rw [hj', NF.out, List.take_length])
        have k1 : ¬ ((j : Int) < (nf : Int)) := by omega
        clear hj'
        go_wp2_with fail
        go_ret
        refine ⟨congrArg (fun b => Ending.returned (.bool b)) ?_, (by (repeat (first | exact Below.refl _ _ | assumption | refine balloc ?_ _ | refine bdrew ?_ | refine bdrewN ?_ _ | refine bchain ?_ (by assumption))))⟩
        rw [HVAL.out, ← HO.out]
        simp
set_option maxHeartbeats 8000000 in
theorem asked_10 (hd : Head) (hk : hd.kind = 10) (hw : Hwf hd) (nk : Nat) (A1 A2 A3 A4 : Option Addr) (c1 c2 c3 c4 : Nat) (w : World) (s2 : Slc w w.heap.size A3 (ints hd.occur)) :
    Calls Tryz.prog 106 #[.agg (qcells hd nk A1 A2 A3 A4 c1 c2 c3 c4)] w fun e w' => e = .returned (.bool (askB hd nk)) ∧ Below w.heap.size w w' := by
  obtain ⟨kind, field, text, terms, offs, n, weight, lo, hi, occur⟩ := hd
  simp only at hk s2
  subst hk
  have hnl : occur.length ≤ 9223372036854775807 := hw.noccur
  clear hw
  obtain ⟨nf, hnf⟩ : ∃ nf, nf = occur.length := ⟨_, rfl⟩
  obtain ⟨nt, hnt⟩ : ∃ nt, nt = nk := ⟨_, rfl⟩
  have NF := Lib.hid hnf
  have S2 := Lib.hid s2
  unfold qcells
  simp only
  rw [← hnf, ← hnt]
  rw [← hnf] at hnl
  obtain ⟨b0, hb0⟩ : ∃ b0, b0 = (decide (0 < nt) && nf == nt && decide (0 ≤ n) && decide (n ≤ 999999999)) := ⟨_, rfl⟩
  have HVAL := Lib.hid (show askB ⟨10, field, text, terms, offs, n, weight, lo, hi, occur⟩ nt = (b0 && occur.all occB) by rw [hb0, hnf]; simp [askB])
  have HNT := Lib.hid hnt; clear hnt
  clear hnf s2
  have hcase : (¬ (0 < nt) ∧ b0 = false) ∨ (0 < nt ∧ nf ≠ nt ∧ b0 = false) ∨ (0 < nt ∧ nf = nt ∧ n < 0 ∧ b0 = false) ∨ (0 < nt ∧ nf = nt ∧ 0 ≤ n ∧ 999999999 < n ∧ b0 = false) ∨ (0 < nt ∧ nf = nt ∧ 0 ≤ n ∧ n ≤ 999999999 ∧ b0 = true) := by
    rw [hb0]
    simp
    omega
  clear hb0
  have hmain : ∀ (b : Bool), b0 = b → ((¬ ((0:Int) < nt)) ∨ ((0:Int) < nt ∧ ((nf : Int) == nt) = false) ∨ True) → True := fun _ _ _ => trivial
  clear hmain
  rcases hcase with ⟨i1, rfl⟩ | ⟨i1, i2, rfl⟩ | ⟨i1, i2, i3, rfl⟩ | ⟨i1, i2, i3, i4, rfl⟩ | ⟨i1, i2, i3, i4, rfl⟩
  · have j1 : ¬ ((0 : Int) < (nt : Int)) := by omega
    go_enter Tryz.func106, Tryz.ntmps106
    go_wp2_with fail
    go_loop [107, 6] (fun i u => ∃ j : Nat, j ≤ nf ∧ i = .int .i64 j ∧ u = .bool false) (fun i _ => nf - (intOf i).toNat)
    case atStart => exact ⟨0, Nat.zero_le _, rfl, rfl⟩
    case round =>
      obtain ⟨j, hj, rfl, rfl⟩ := hrel
      rcases Nat.lt_or_ge j nf with hlt | hge
      · obtain ⟨z, hz⟩ : ∃ z, occur[j]? = some z := ⟨_, List.getElem?_eq_getElem (by have := NF.out; omega)⟩
        obtain ⟨g3, o3, rfl, hg3, hc3⟩ := S2.out (by intro h; rw [show occur = [] by simpa [ints] using h] at hz; simp at hz)
        have y : ∀ u, (w.alloc u).cell? ⟨g3, o3 + j, none⟩ = some (.int .i64 z) := fun u => ((show Below w.heap.size w (w.alloc u) by (repeat (first | exact Below.refl _ _ | assumption | refine balloc ?_ _ | refine bdrew ?_ | refine bdrewN ?_ _ | refine bchain ?_ (by assumption)))).cell (p := ⟨g3, o3 + j, none⟩) hg3).trans (hc3 j (.int .i64 z) (by simp [ints, hz]))
        have HT := Lib.hid (show (occur.take (j + 1)).all occB = ((occur.take j).all occB && occB z) by rw [List.take_add_one, hz, List.all_append]; simp)
        have hlt2 : (j : Int) < 9223372036854775807 := by omega
        have k1 : (j : Int) < (nf : Int) := by omega
        clear hz hc3
        go_wp2_with fail
        (try go_big_round); refine ⟨⟨j + 1, by omega, by go_num, ?_⟩, by simp [intOf]; omega⟩; rfl
      · have hj' : j = nf := by omega
        have HO := Lib.hid (show (occur.take j).all occB = occur.all occB by rw [hj', NF.out, List.take_length])
        have k1 : ¬ ((j : Int) < (nf : Int)) := by omega
        clear hj'
        go_wp2_with fail
        go_ret
        refine ⟨congrArg (fun b => Ending.returned (.bool b)) ?_, (by (repeat (first | exact Below.refl _ _ | assumption | refine balloc ?_ _ | refine bdrew ?_ | refine bdrewN ?_ _ | refine bchain ?_ (by assumption))))⟩
        rw [HVAL.out, ← HO.out]
        simp
  · have j1 : (0 : Int) < (nt : Int) := by omega
    have j2 : ((nf : Int) == (nt : Int)) = false := beq_eq_false_iff_ne.2 (by omega)
    go_enter Tryz.func106, Tryz.ntmps106
    go_wp2_with fail
    go_loop [107, 6] (fun i u => ∃ j : Nat, j ≤ nf ∧ i = .int .i64 j ∧ u = .bool false) (fun i _ => nf - (intOf i).toNat)
    case atStart => exact ⟨0, Nat.zero_le _, rfl, rfl⟩
    case round =>
      obtain ⟨j, hj, rfl, rfl⟩ := hrel
      rcases Nat.lt_or_ge j nf with hlt | hge
      · obtain ⟨z, hz⟩ : ∃ z, occur[j]? = some z := ⟨_, List.getElem?_eq_getElem (by have := NF.out; omega)⟩
        obtain ⟨g3, o3, rfl, hg3, hc3⟩ := S2.out (by intro h; rw [show occur = [] by simpa [ints] using h] at hz; simp at hz)
        have y : ∀ u, (w.alloc u).cell? ⟨g3, o3 + j, none⟩ = some (.int .i64 z) := fun u => ((show Below w.heap.size w (w.alloc u) by (repeat (first | exact Below.refl _ _ | assumption | refine balloc ?_ _ | refine bdrew ?_ | refine bdrewN ?_ _ | refine bchain ?_ (by assumption)))).cell (p := ⟨g3, o3 + j, none⟩) hg3).trans (hc3 j (.int .i64 z) (by simp [ints, hz]))
        have HT := Lib.hid (show (occur.take (j + 1)).all occB = ((occur.take j).all occB && occB z) by rw [List.take_add_one, hz, List.all_append]; simp)
        have hlt2 : (j : Int) < 9223372036854775807 := by omega
        have k1 : (j : Int) < (nf : Int) := by omega
        clear hz hc3
        go_wp2_with fail
        (try go_big_round); refine ⟨⟨j + 1, by omega, by go_num, ?_⟩, by simp [intOf]; omega⟩; rfl
      · have hj' : j = nf := by omega
        have HO := Lib.hid (show (occur.take j).all occB = occur.all occB by rw [hj', NF.out, List.take_length])
        have k1 : ¬ ((j : Int) < (nf : Int)) := by omega
        clear hj'
        go_wp2_with fail
        go_ret
        refine ⟨congrArg (fun b => Ending.returned (.bool b)) ?_, (by (repeat (first | exact Below.refl _ _ | assumption | refine balloc ?_ _ | refine bdrew ?_ | refine bdrewN ?_ _ | refine bchain ?_ (by assumption))))⟩
        rw [HVAL.out, ← HO.out]
        simp
  · have j1 : (0 : Int) < (nt : Int) := by omega
    have j3 : decide (0 ≤ n) = false := decide_eq_false (by omega)
    obtain rfl := i2
    go_enter Tryz.func106, Tryz.ntmps106
    go_wp2_with fail
    go_loop [107, 6] (fun i u => ∃ j : Nat, j ≤ nf ∧ i = .int .i64 j ∧ u = .bool false) (fun i _ => nf - (intOf i).toNat)
    case atStart => exact ⟨0, Nat.zero_le _, rfl, rfl⟩
    case round =>
      obtain ⟨j, hj, rfl, rfl⟩ := hrel
      rcases Nat.lt_or_ge j nf with hlt | hge
      · obtain ⟨z, hz⟩ : ∃ z, occur[j]? = some z := ⟨_, List.getElem?_eq_getElem (by have := NF.out; omega)⟩
        obtain ⟨g3, o3, rfl, hg3, hc3⟩ := S2.out (by intro h; rw [show occur = [] by simpa [ints] using h] at hz; simp at hz)
        have y : ∀ u, (w.alloc u).cell? ⟨g3, o3 + j, none⟩ = some (.int .i64 z) := fun u => ((show Below w.heap.size w (w.alloc u) by (repeat (first | exact Below.refl _ _ | assumption | refine balloc ?_ _ | refine bdrew ?_ | refine bdrewN ?_ _ | refine bchain ?_ (by assumption)))).cell (p := ⟨g3, o3 + j, none⟩) hg3).trans (hc3 j (.int .i64 z) (by simp [ints, hz]))
        have HT := Lib.hid (show (occur.take (j + 1)).all occB = ((occur.take j).all occB && occB z) by rw [List.take_add_one, hz, List.all_append]; simp)
        have hlt2 : (j : Int) < 9223372036854775807 := by omega
        have k1 : (j : Int) < (nf : Int) := by omega
        clear hz hc3
        go_wp2_with fail
        (try go_big_round); refine ⟨⟨j + 1, by omega, by go_num, ?_⟩, by simp [intOf]; omega⟩; rfl
      · have hj' : j = nf := by omega
        have HO := Lib.hid (show (occur.take j).all occB = occur.all occB by rw [hj', NF.out, List.take_length])
        have k1 : ¬ ((j : Int) < (nf : Int)) := by omega
        clear hj'
        go_wp2_with fail
        go_ret
        refine ⟨congrArg (fun b => Ending.returned (.bool b)) ?_, (by (repeat (first | exact Below.refl _ _ | assumption | refine balloc ?_ _ | refine bdrew ?_ | refine bdrewN ?_ _ | refine bchain ?_ (by assumption))))⟩
        rw [HVAL.out, ← HO.out]
        simp
  · have j1 : (0 : Int) < (nt : Int) := by omega
    have j3 : decide (0 ≤ n) = true := decide_eq_true i3
    have j4 : decide (n ≤ 999999999) = false := decide_eq_false (by omega)
    obtain rfl := i2
    go_enter Tryz.func106, Tryz.ntmps106
    go_wp2_with fail
    go_loop [107, 6] (fun i u => ∃ j : Nat, j ≤ nf ∧ i = .int .i64 j ∧ u = .bool false) (fun i _ => nf - (intOf i).toNat)
    case atStart => exact ⟨0, Nat.zero_le _, rfl, rfl⟩
    case round =>
      obtain ⟨j, hj, rfl, rfl⟩ := hrel
      rcases Nat.lt_or_ge j nf with hlt | hge
      · obtain ⟨z, hz⟩ : ∃ z, occur[j]? = some z := ⟨_, List.getElem?_eq_getElem (by have := NF.out; omega)⟩
        obtain ⟨g3, o3, rfl, hg3, hc3⟩ := S2.out (by intro h; rw [show occur = [] by simpa [ints] using h] at hz; simp at hz)
        have y : ∀ u, (w.alloc u).cell? ⟨g3, o3 + j, none⟩ = some (.int .i64 z) := fun u => ((show Below w.heap.size w (w.alloc u) by (repeat (first | exact Below.refl _ _ | assumption | refine balloc ?_ _ | refine bdrew ?_ | refine bdrewN ?_ _ | refine bchain ?_ (by assumption)))).cell (p := ⟨g3, o3 + j, none⟩) hg3).trans (hc3 j (.int .i64 z) (by simp [ints, hz]))
        have HT := Lib.hid (show (occur.take (j + 1)).all occB = ((occur.take j).all occB && occB z) by rw [List.take_add_one, hz, List.all_append]; simp)
        have hlt2 : (j : Int) < 9223372036854775807 := by omega
        have k1 : (j : Int) < (nf : Int) := by omega
        clear hz hc3
        go_wp2_with fail
        (try go_big_round); refine ⟨⟨j + 1, by omega, by go_num, ?_⟩, by simp [intOf]; omega⟩; rfl
      · have hj' : j = nf := by omega
        have HO := Lib.hid (show (occur.take j).all occB = occur.all occB by rw [hj', NF.out, List.take_length])
        have k1 : ¬ ((j : Int) < (nf : Int)) := by omega
        clear hj'
        go_wp2_with fail
        go_ret
        refine ⟨congrArg (fun b => Ending.returned (.bool b)) ?_, (by (repeat (first | exact Below.refl _ _ | assumption | refine balloc ?_ _ | refine bdrew ?_ | refine bdrewN ?_ _ | refine bchain ?_ (by assumption))))⟩
        rw [HVAL.out, ← HO.out]
        simp
  · have j1 : (0 : Int) < (nt : Int) := by omega
    have j3 : decide (0 ≤ n) = true := decide_eq_true i3
    have j4 : decide (n ≤ 999999999) = true := decide_eq_true i4
    obtain rfl := i2
    go_enter Tryz.func106, Tryz.ntmps106
    go_wp2_with fail
    go_loop [107, 6] (fun i u => ∃ j : Nat, j ≤ nf ∧ i = .int .i64 j ∧ u = .bool ((occur.take j).all occB)) (fun i _ => nf - (intOf i).toNat)
    case atStart => exact ⟨0, Nat.zero_le _, rfl, rfl⟩
    case round =>
      obtain ⟨j, hj, rfl, rfl⟩ := hrel
      rcases Nat.lt_or_ge j nf with hlt | hge
      · obtain ⟨z, hz⟩ : ∃ z, occur[j]? = some z := ⟨_, List.getElem?_eq_getElem (by have := NF.out; omega)⟩
        obtain ⟨g3, o3, rfl, hg3, hc3⟩ := S2.out (by intro h; rw [show occur = [] by simpa [ints] using h] at hz; simp at hz)
        have y : ∀ u, (w.alloc u).cell? ⟨g3, o3 + j, none⟩ = some (.int .i64 z) := fun u => ((show Below w.heap.size w (w.alloc u) by (repeat (first | exact Below.refl _ _ | assumption | refine balloc ?_ _ | refine bdrew ?_ | refine bdrewN ?_ _ | refine bchain ?_ (by assumption)))).cell (p := ⟨g3, o3 + j, none⟩) hg3).trans (hc3 j (.int .i64 z) (by simp [ints, hz]))
        have HT := Lib.hid (show (occur.take (j + 1)).all occB = ((occur.take j).all occB && occB z) by rw [List.take_add_one, hz, List.all_append]; simp)
        have hlt2 : (j : Int) < 9223372036854775807 := by omega
        have k1 : (j : Int) < (nf : Int) := by omega
        clear hz hc3
        obtain ⟨acc, hacc⟩ : ∃ acc, acc = (occur.take j).all occB := ⟨_, rfl⟩
        rw [← hacc]
        have HACC := Lib.hid hacc
        clear hacc
        cases acc
        · go_wp2_with fail
          (try go_big_round); refine ⟨⟨j + 1, by omega, by go_num, ?_⟩, by simp [intOf]; omega⟩; rw [HT.out, ← HACC.out]; rfl
        · rcases (by omega : z = 0 ∨ z = 1 ∨ z = 2 ∨ (z ≠ 0 ∧ z ≠ 1 ∧ z ≠ 2)) with rfl | rfl | rfl | ⟨z0, z1, z2⟩
          · go_wp2_with fail
            (try go_big_round); refine ⟨⟨j + 1, by omega, by go_num, ?_⟩, by simp [intOf]; omega⟩; rw [HT.out, ← HACC.out]; rfl
          · go_wp2_with fail
            (try go_big_round); refine ⟨⟨j + 1, by omega, by go_num, ?_⟩, by simp [intOf]; omega⟩; rw [HT.out, ← HACC.out]; rfl
          · go_wp2_with fail
            (try go_big_round); refine ⟨⟨j + 1, by omega, by go_num, ?_⟩, by simp [intOf]; omega⟩; rw [HT.out, ← HACC.out]; rfl
          · have HZ := Lib.hid (show occB z = false by simp [occB, z0, z1, z2])
            have d1 : (z == 0) = false := beq_eq_false_iff_ne.2 z0
            have d2 : (z == 1) = false := beq_eq_false_iff_ne.2 z1
            have d3 : (z == 2) = false := beq_eq_false_iff_ne.2 z2
            clear z0 z1 z2
            go_wp2_with fail
            (try go_big_round); refine ⟨⟨j + 1, by omega, by go_num, ?_⟩, by simp [intOf]; omega⟩; rw [HT.out, ← HACC.out, HZ.out]; rfl
      · have hj' : j = nf := by omega
        have HO := Lib.hid (show (occur.take j).all occB = occur.all occB by rw [hj', NF.out, List.take_length])
        have k1 : ¬ ((j : Int) < (nf : Int)) := by omega
        clear hj'
        go_wp2_with fail
        go_ret
        refine ⟨congrArg (fun b => Ending.returned (.bool b)) ?_, (by (repeat (first | exact Below.refl _ _ | assumption | refine balloc ?_ _ | refine bdrew ?_ | refine bdrewN ?_ _ | refine bchain ?_ (by assumption))))⟩
        rw [HVAL.out, ← HO.out]
        simp
theorem asked_any (hd : Head) (hk : 1 ≤ hd.kind ∧ hd.kind ≤ 14) (hw : Hwf hd) (hs : hd.text.size ≤ 1099511627776) (nk : Nat) (A1 A2 A3 A4 : Option Addr) (c1 c2 c3 c4 : Nat) (w : World) (s2 : Slc w w.heap.size A2 (ints hd.offs)) (s3 : Slc w w.heap.size A3 (ints hd.occur)) :
    Calls Tryz.prog 106 #[.agg (qcells hd nk A1 A2 A3 A4 c1 c2 c3 c4)] w fun e w' => e = .returned (.bool (askB hd nk)) ∧ Below w.heap.size w w' := by
  rcases (by omega : hd.kind = 5 ∨ hd.kind = 7 ∨ hd.kind = 8 ∨ hd.kind = 9 ∨ hd.kind = 10 ∨ (hd.kind = 1 ∨ hd.kind = 2 ∨ hd.kind = 3 ∨ hd.kind = 4 ∨ hd.kind = 6 ∨ hd.kind = 11 ∨ hd.kind = 12 ∨ hd.kind = 13 ∨ hd.kind = 14)) with h | h | h | h | h | h
  · exact asked_5 hd h hw nk A1 A2 A3 A4 c1 c2 c3 c4 w s2
  · exact asked_7 hd h hs nk A1 A2 A3 A4 c1 c2 c3 c4 w
  · exact asked_8 hd h nk A1 A2 A3 A4 c1 c2 c3 c4 w
  · exact asked_9 hd h nk A1 A2 A3 A4 c1 c2 c3 c4 w
  · exact asked_10 hd h hw nk A1 A2 A3 A4 c1 c2 c3 c4 w s3
  · exact asked_simple hd h nk A1 A2 A3 A4 c1 c2 c3 c4 w
end Go.Proofs.YtkcfgcdlnojaeaaGreatDoor.RefAsked
