/-
  The walk of the reference good, part 1.
-/
import Derived.Test.YtfpikilhbkeajaaGreatDoorCRef
import Derived.Test.YtfpikilhbkeajaaGreatDoorCText
set_option linter.unusedVariables false
set_option linter.unusedSimpArgs false
namespace Go.Proofs.YtfpikilhbkeajaaGreatDoor.RefGoodP1
set_option maxRecDepth 100000
open Go.RowKit Go.PlainAid Base Query QrySize BindBase TextPlain Numbers Lists RefAsked LineBase

set_option maxHeartbeats 8000000 in
theorem rg_1_false_false (k field qn weight n : Int) (text : ByteArray) (terms : List ByteArray) (offs : List Int) (lo hi : Bnd) (occur : List Int) (ks : List Qry) (kc : Nat → List Value) (A1 A2 A3 A4 : Option Addr) (c1 c2 c3 c4 : Nat) (B : Nat) (w W1 : World) (hB : B ≤ w.heap.size) (hkl' : ks.length ≤ 9223372036854775807)
    (K1 : Blk W1 w.heap.size 29 (qcells ⟨k, field, text, terms, offs, qn, weight, lo, hi, occur⟩ ks.length A1 A2 A3 A4 c1 c2 c3 c4)) (HZ : RowKit.Hid (w.heap.size + 1 = W1.heap.size)) (hbW : Below w.heap.size w W1) (HW : RowKit.Hid (W1 = w.alloc (.cells (qcells ⟨k, field, text, terms, offs, qn, weight, lo, hi, occur⟩ ks.length A1 A2 A3 A4 c1 c2 c3 c4) 29)))
    (MU : RowKit.Hid (∀ W, Calls Tryz.prog 84 #[.int .i64 k] W fun e w' => e = .returned (.bool false) ∧ Below W.heap.size W w'))
    (BK : RowKit.Hid (∀ W, Calls Tryz.prog 85 #[.agg (qcells ⟨k, field, text, terms, offs, qn, weight, lo, hi, occur⟩ ks.length A1 A2 A3 A4 c1 c2 c3 c4)] W fun e w' => e = .returned (.bool false) ∧ Below W.heap.size W w'))
    (AK : RowKit.Hid (∀ W, Below W1.heap.size W1 W → Calls Tryz.prog 86 #[.agg (qcells ⟨k, field, text, terms, offs, qn, weight, lo, hi, occur⟩ ks.length A1 A2 A3 A4 c1 c2 c3 c4)] W fun e w' => e = .returned (.bool false) ∧ Below W.heap.size W w'))
    (H4 : RowKit.Hid (ks ≠ [] → ∃ g o, A4 = some ⟨g, o, none⟩ ∧ g < B ∧ ∀ i, i < ks.length → ∀ j u, (kc i)[j]? = some u → w.cell? ⟨g, o + i * 15 + j, none⟩ = some u)) (H5 : RowKit.Hid (∀ i k, ks[i]? = some k → QVal w B (kc i) k))
    (IH : RowKit.Hid (∀ W, Below w.heap.size w W → ∀ (i : Nat) (x : Qry), ks[i]? = some x → Calls Tryz.prog 61 #[.agg (kc i).toArray, .int .i64 n, .bool true] W fun e w' => e = .returned (.bool (goodBy (rlocB n true) x)) ∧ Below W.heap.size W w'))
    (b1 : decide (k < 1) = false) (b2 : decide ((14 : Int) < k) = false) (e1 : decide (3 ≤ k) = false) :
    Calls Tryz.prog 61 #[.agg (qcells ⟨k, field, text, terms, offs, qn, weight, lo, hi, occur⟩ ks.length A1 A2 A3 A4 c1 c2 c3 c4), .int .i64 n, .bool true] w fun e w' => e = .returned (.bool (true && false && false && goodsBy (rlocB n true) ks)) ∧ Below w.heap.size w w' := by
  unfold qcells at K1 HW BK AK ⊢
  dsimp only at K1 HW BK AK ⊢
  go_enter Tryz.func61, Tryz.ntmps61
  go_wp2_with (first | (go_at_call 84; refine (MU.out _).mono ?_; rintro e w1 ⟨rfl, hb1⟩; have q1 : Below W1.heap.size W1 w1 := (by rw [HW.out]; exact hb1); obtain ⟨mq0, mq1, mq2, mq3, mq4, mq5, mq6, mq7, mq8, mq9, mq10, mq11, mq12, mq13, mq14⟩ := qrow (K1.below q1 (by have := HZ.out; omega))) | (go_at_call 85; refine (BK.out _).mono ?_; rintro e w2 ⟨rfl, hb2⟩; have q2 : Below W1.heap.size W1 w2 := bchain q1 hb2; obtain ⟨aq0, aq1, aq2, aq3, aq4, aq5, aq6, aq7, aq8, aq9, aq10, aq11, aq12, aq13, aq14⟩ := qrow (K1.below q2 (by have := HZ.out; omega))) | (go_at_call 86; refine (AK.out w2 q2).mono ?_; rintro e w3 ⟨rfl, hb3⟩; have q3 : Below W1.heap.size W1 w3 := bchain q2 hb3; obtain ⟨bq0, bq1, bq2, bq3, bq4, bq5, bq6, bq7, bq8, bq9, bq10, bq11, bq12, bq13, bq14⟩ := qrow (K1.below q3 (by have := HZ.out; omega))))
  go_loopw [54, 7] (fun i u wr => ∃ j : Nat, j ≤ ks.length ∧ i = .int .i64 j ∧ u = .bool (false) ∧ Below W1.heap.size W1 wr) (fun i _ _ => ks.length - (intOf i).toNat)
  case atStart => exact ⟨0, Nat.zero_le _, rfl, rfl, q2⟩
  case round =>
    obtain ⟨j, hj, rfl, rfl, hbel⟩ := hrel
    have c14 : wr.cell? ⟨w.heap.size, 14, none⟩ = some (.slice A4 ks.length c4) := (K1.below hbel (by have := HZ.out; omega)).cell 14
    rcases Nat.lt_or_ge j ks.length with hlt | hge
    · obtain ⟨g, o, rfl, hg, hc⟩ := H4.out (by intro h; subst h; simp at hlt)
      obtain ⟨x, hx1⟩ : ∃ x, ks[j]? = some x := ⟨_, List.getElem?_eq_getElem hlt⟩
      have hbw := bchain hbW hbel
      have hq := (H5.out j x hx1).kept hbw hB
      obtain ⟨B1, B2, B3, B4, d1, d2, d3, d4, e, x0, x1, x2, x3, x4, x5, x6, x7, x8, x9, x10, x11, x12, x13, x14⟩ := kid_cells hq (fun j' u hu => (hbw.cell (p := ⟨g, o + j * 15 + j', none⟩) (Nat.lt_of_lt_of_le hg hB)).trans (hc j hlt j' u hu))
      have IH2 := Lib.hid (fun W hW => IH.out W hW j x hx1)
      rw [e] at IH2
      unfold qcells at IH2
      have HT := Lib.hid (show goodsBy (rlocB n true) (ks.take (j + 1)) = (goodsBy (rlocB n true) (ks.take j) && goodBy (rlocB n true) x) by rw [goodsBy_all, goodsBy_all, List.take_add_one, hx1, List.all_append]; simp)
      have hlt2 : (j : Int) < 9223372036854775807 := by omega
      have i2 : (j : Int) < (ks.length : Int) := by omega
      have HBW2 := Lib.hid hbw
      have HBL := Lib.hid hbel
      have hbx : Below w.heap.size w (wr.alloc (.cells #[.int .i64 x.h.kind, .int .i64 x.h.field, .string x.h.text, .slice B1 x.h.terms.length d1, .slice B2 x.h.offs.length d2, .int .i64 x.h.n, .int .u64 x.h.weight, .bool x.h.lo.op, .bool x.h.lo.inn, .string x.h.lo.text, .bool x.h.hi.op, .bool x.h.hi.inn, .string x.h.hi.text, .slice B3 x.h.occur.length d3, .slice B4 x.kids.length d4] 29)) := Below.alloc hbw (Nat.le_trans hbW.size hbel.size) _
      have HBX := Lib.hid hbx
      clear hc hq e hx1 hbw hbel hbx
      go_wp2_with fail
      go_roundw
      case rel => exact ⟨j + 1, by omega, by go_num, rfl, Below.alloc HBL.out HBL.out.size _⟩
      case measure => simp [intOf]; omega
    · have hj' : j = ks.length := by omega
      have HO := Lib.hid (show goodsBy (rlocB n true) (ks.take j) = goodsBy (rlocB n true) ks by rw [hj', List.take_length])
      have i2 : ¬ ((j : Int) < (ks.length : Int)) := by omega
      clear hj'
      go_wp2_with fail
      go_ret
      refine ⟨congrArg (fun b => Ending.returned (.bool b)) ?_, bchain hbW hbel⟩
      first | rfl | exact HO.out | (rw [HO.out]; rfl) | simp

set_option maxHeartbeats 8000000 in
theorem rg_1_false_true (k field qn weight n : Int) (text : ByteArray) (terms : List ByteArray) (offs : List Int) (lo hi : Bnd) (occur : List Int) (ks : List Qry) (kc : Nat → List Value) (A1 A2 A3 A4 : Option Addr) (c1 c2 c3 c4 : Nat) (B : Nat) (w W1 : World) (hB : B ≤ w.heap.size) (hkl' : ks.length ≤ 9223372036854775807)
    (K1 : Blk W1 w.heap.size 29 (qcells ⟨k, field, text, terms, offs, qn, weight, lo, hi, occur⟩ ks.length A1 A2 A3 A4 c1 c2 c3 c4)) (HZ : RowKit.Hid (w.heap.size + 1 = W1.heap.size)) (hbW : Below w.heap.size w W1) (HW : RowKit.Hid (W1 = w.alloc (.cells (qcells ⟨k, field, text, terms, offs, qn, weight, lo, hi, occur⟩ ks.length A1 A2 A3 A4 c1 c2 c3 c4) 29)))
    (MU : RowKit.Hid (∀ W, Calls Tryz.prog 84 #[.int .i64 k] W fun e w' => e = .returned (.bool false) ∧ Below W.heap.size W w'))
    (BK : RowKit.Hid (∀ W, Calls Tryz.prog 85 #[.agg (qcells ⟨k, field, text, terms, offs, qn, weight, lo, hi, occur⟩ ks.length A1 A2 A3 A4 c1 c2 c3 c4)] W fun e w' => e = .returned (.bool false) ∧ Below W.heap.size W w'))
    (AK : RowKit.Hid (∀ W, Below W1.heap.size W1 W → Calls Tryz.prog 86 #[.agg (qcells ⟨k, field, text, terms, offs, qn, weight, lo, hi, occur⟩ ks.length A1 A2 A3 A4 c1 c2 c3 c4)] W fun e w' => e = .returned (.bool true) ∧ Below W.heap.size W w'))
    (H4 : RowKit.Hid (ks ≠ [] → ∃ g o, A4 = some ⟨g, o, none⟩ ∧ g < B ∧ ∀ i, i < ks.length → ∀ j u, (kc i)[j]? = some u → w.cell? ⟨g, o + i * 15 + j, none⟩ = some u)) (H5 : RowKit.Hid (∀ i k, ks[i]? = some k → QVal w B (kc i) k))
    (IH : RowKit.Hid (∀ W, Below w.heap.size w W → ∀ (i : Nat) (x : Qry), ks[i]? = some x → Calls Tryz.prog 61 #[.agg (kc i).toArray, .int .i64 n, .bool true] W fun e w' => e = .returned (.bool (goodBy (rlocB n true) x)) ∧ Below W.heap.size W w'))
    (b1 : decide (k < 1) = false) (b2 : decide ((14 : Int) < k) = false) (e1 : decide (3 ≤ k) = false) :
    Calls Tryz.prog 61 #[.agg (qcells ⟨k, field, text, terms, offs, qn, weight, lo, hi, occur⟩ ks.length A1 A2 A3 A4 c1 c2 c3 c4), .int .i64 n, .bool true] w fun e w' => e = .returned (.bool (true && false && true && goodsBy (rlocB n true) ks)) ∧ Below w.heap.size w w' := by
  unfold qcells at K1 HW BK AK ⊢
  dsimp only at K1 HW BK AK ⊢
  go_enter Tryz.func61, Tryz.ntmps61
  go_wp2_with (first | (go_at_call 84; refine (MU.out _).mono ?_; rintro e w1 ⟨rfl, hb1⟩; have q1 : Below W1.heap.size W1 w1 := (by rw [HW.out]; exact hb1); obtain ⟨mq0, mq1, mq2, mq3, mq4, mq5, mq6, mq7, mq8, mq9, mq10, mq11, mq12, mq13, mq14⟩ := qrow (K1.below q1 (by have := HZ.out; omega))) | (go_at_call 85; refine (BK.out _).mono ?_; rintro e w2 ⟨rfl, hb2⟩; have q2 : Below W1.heap.size W1 w2 := bchain q1 hb2; obtain ⟨aq0, aq1, aq2, aq3, aq4, aq5, aq6, aq7, aq8, aq9, aq10, aq11, aq12, aq13, aq14⟩ := qrow (K1.below q2 (by have := HZ.out; omega))) | (go_at_call 86; refine (AK.out w2 q2).mono ?_; rintro e w3 ⟨rfl, hb3⟩; have q3 : Below W1.heap.size W1 w3 := bchain q2 hb3; obtain ⟨bq0, bq1, bq2, bq3, bq4, bq5, bq6, bq7, bq8, bq9, bq10, bq11, bq12, bq13, bq14⟩ := qrow (K1.below q3 (by have := HZ.out; omega))))
  go_loopw [54, 7] (fun i u wr => ∃ j : Nat, j ≤ ks.length ∧ i = .int .i64 j ∧ u = .bool (false) ∧ Below W1.heap.size W1 wr) (fun i _ _ => ks.length - (intOf i).toNat)
  case atStart => exact ⟨0, Nat.zero_le _, rfl, rfl, q2⟩
  case round =>
    obtain ⟨j, hj, rfl, rfl, hbel⟩ := hrel
    have c14 : wr.cell? ⟨w.heap.size, 14, none⟩ = some (.slice A4 ks.length c4) := (K1.below hbel (by have := HZ.out; omega)).cell 14
    rcases Nat.lt_or_ge j ks.length with hlt | hge
    · obtain ⟨g, o, rfl, hg, hc⟩ := H4.out (by intro h; subst h; simp at hlt)
      obtain ⟨x, hx1⟩ : ∃ x, ks[j]? = some x := ⟨_, List.getElem?_eq_getElem hlt⟩
      have hbw := bchain hbW hbel
      have hq := (H5.out j x hx1).kept hbw hB
      obtain ⟨B1, B2, B3, B4, d1, d2, d3, d4, e, x0, x1, x2, x3, x4, x5, x6, x7, x8, x9, x10, x11, x12, x13, x14⟩ := kid_cells hq (fun j' u hu => (hbw.cell (p := ⟨g, o + j * 15 + j', none⟩) (Nat.lt_of_lt_of_le hg hB)).trans (hc j hlt j' u hu))
      have IH2 := Lib.hid (fun W hW => IH.out W hW j x hx1)
      rw [e] at IH2
      unfold qcells at IH2
      have HT := Lib.hid (show goodsBy (rlocB n true) (ks.take (j + 1)) = (goodsBy (rlocB n true) (ks.take j) && goodBy (rlocB n true) x) by rw [goodsBy_all, goodsBy_all, List.take_add_one, hx1, List.all_append]; simp)
      have hlt2 : (j : Int) < 9223372036854775807 := by omega
      have i2 : (j : Int) < (ks.length : Int) := by omega
      have HBW2 := Lib.hid hbw
      have HBL := Lib.hid hbel
      have hbx : Below w.heap.size w (wr.alloc (.cells #[.int .i64 x.h.kind, .int .i64 x.h.field, .string x.h.text, .slice B1 x.h.terms.length d1, .slice B2 x.h.offs.length d2, .int .i64 x.h.n, .int .u64 x.h.weight, .bool x.h.lo.op, .bool x.h.lo.inn, .string x.h.lo.text, .bool x.h.hi.op, .bool x.h.hi.inn, .string x.h.hi.text, .slice B3 x.h.occur.length d3, .slice B4 x.kids.length d4] 29)) := Below.alloc hbw (Nat.le_trans hbW.size hbel.size) _
      have HBX := Lib.hid hbx
      clear hc hq e hx1 hbw hbel hbx
      go_wp2_with fail
      go_roundw
      case rel => exact ⟨j + 1, by omega, by go_num, rfl, Below.alloc HBL.out HBL.out.size _⟩
      case measure => simp [intOf]; omega
    · have hj' : j = ks.length := by omega
      have HO := Lib.hid (show goodsBy (rlocB n true) (ks.take j) = goodsBy (rlocB n true) ks by rw [hj', List.take_length])
      have i2 : ¬ ((j : Int) < (ks.length : Int)) := by omega
      clear hj'
      go_wp2_with fail
      go_ret
      refine ⟨congrArg (fun b => Ending.returned (.bool b)) ?_, bchain hbW hbel⟩
      first | rfl | exact HO.out | (rw [HO.out]; rfl) | simp

set_option maxHeartbeats 8000000 in
theorem rg_1_true_false (k field qn weight n : Int) (text : ByteArray) (terms : List ByteArray) (offs : List Int) (lo hi : Bnd) (occur : List Int) (ks : List Qry) (kc : Nat → List Value) (A1 A2 A3 A4 : Option Addr) (c1 c2 c3 c4 : Nat) (B : Nat) (w W1 : World) (hB : B ≤ w.heap.size) (hkl' : ks.length ≤ 9223372036854775807)
    (K1 : Blk W1 w.heap.size 29 (qcells ⟨k, field, text, terms, offs, qn, weight, lo, hi, occur⟩ ks.length A1 A2 A3 A4 c1 c2 c3 c4)) (HZ : RowKit.Hid (w.heap.size + 1 = W1.heap.size)) (hbW : Below w.heap.size w W1) (HW : RowKit.Hid (W1 = w.alloc (.cells (qcells ⟨k, field, text, terms, offs, qn, weight, lo, hi, occur⟩ ks.length A1 A2 A3 A4 c1 c2 c3 c4) 29)))
    (MU : RowKit.Hid (∀ W, Calls Tryz.prog 84 #[.int .i64 k] W fun e w' => e = .returned (.bool false) ∧ Below W.heap.size W w'))
    (BK : RowKit.Hid (∀ W, Calls Tryz.prog 85 #[.agg (qcells ⟨k, field, text, terms, offs, qn, weight, lo, hi, occur⟩ ks.length A1 A2 A3 A4 c1 c2 c3 c4)] W fun e w' => e = .returned (.bool true) ∧ Below W.heap.size W w'))
    (AK : RowKit.Hid (∀ W, Below W1.heap.size W1 W → Calls Tryz.prog 86 #[.agg (qcells ⟨k, field, text, terms, offs, qn, weight, lo, hi, occur⟩ ks.length A1 A2 A3 A4 c1 c2 c3 c4)] W fun e w' => e = .returned (.bool false) ∧ Below W.heap.size W w'))
    (H4 : RowKit.Hid (ks ≠ [] → ∃ g o, A4 = some ⟨g, o, none⟩ ∧ g < B ∧ ∀ i, i < ks.length → ∀ j u, (kc i)[j]? = some u → w.cell? ⟨g, o + i * 15 + j, none⟩ = some u)) (H5 : RowKit.Hid (∀ i k, ks[i]? = some k → QVal w B (kc i) k))
    (IH : RowKit.Hid (∀ W, Below w.heap.size w W → ∀ (i : Nat) (x : Qry), ks[i]? = some x → Calls Tryz.prog 61 #[.agg (kc i).toArray, .int .i64 n, .bool true] W fun e w' => e = .returned (.bool (goodBy (rlocB n true) x)) ∧ Below W.heap.size W w'))
    (b1 : decide (k < 1) = false) (b2 : decide ((14 : Int) < k) = false) (e1 : decide (3 ≤ k) = false) :
    Calls Tryz.prog 61 #[.agg (qcells ⟨k, field, text, terms, offs, qn, weight, lo, hi, occur⟩ ks.length A1 A2 A3 A4 c1 c2 c3 c4), .int .i64 n, .bool true] w fun e w' => e = .returned (.bool (true && true && false && goodsBy (rlocB n true) ks)) ∧ Below w.heap.size w w' := by
  unfold qcells at K1 HW BK AK ⊢
  dsimp only at K1 HW BK AK ⊢
  go_enter Tryz.func61, Tryz.ntmps61
  go_wp2_with (first | (go_at_call 84; refine (MU.out _).mono ?_; rintro e w1 ⟨rfl, hb1⟩; have q1 : Below W1.heap.size W1 w1 := (by rw [HW.out]; exact hb1); obtain ⟨mq0, mq1, mq2, mq3, mq4, mq5, mq6, mq7, mq8, mq9, mq10, mq11, mq12, mq13, mq14⟩ := qrow (K1.below q1 (by have := HZ.out; omega))) | (go_at_call 85; refine (BK.out _).mono ?_; rintro e w2 ⟨rfl, hb2⟩; have q2 : Below W1.heap.size W1 w2 := bchain q1 hb2; obtain ⟨aq0, aq1, aq2, aq3, aq4, aq5, aq6, aq7, aq8, aq9, aq10, aq11, aq12, aq13, aq14⟩ := qrow (K1.below q2 (by have := HZ.out; omega))) | (go_at_call 86; refine (AK.out w2 q2).mono ?_; rintro e w3 ⟨rfl, hb3⟩; have q3 : Below W1.heap.size W1 w3 := bchain q2 hb3; obtain ⟨bq0, bq1, bq2, bq3, bq4, bq5, bq6, bq7, bq8, bq9, bq10, bq11, bq12, bq13, bq14⟩ := qrow (K1.below q3 (by have := HZ.out; omega))))
  go_loopw [54, 7] (fun i u wr => ∃ j : Nat, j ≤ ks.length ∧ i = .int .i64 j ∧ u = .bool (false) ∧ Below W1.heap.size W1 wr) (fun i _ _ => ks.length - (intOf i).toNat)
  case atStart => exact ⟨0, Nat.zero_le _, rfl, rfl, q3⟩
  case round =>
    obtain ⟨j, hj, rfl, rfl, hbel⟩ := hrel
    have c14 : wr.cell? ⟨w.heap.size, 14, none⟩ = some (.slice A4 ks.length c4) := (K1.below hbel (by have := HZ.out; omega)).cell 14
    rcases Nat.lt_or_ge j ks.length with hlt | hge
    · obtain ⟨g, o, rfl, hg, hc⟩ := H4.out (by intro h; subst h; simp at hlt)
      obtain ⟨x, hx1⟩ : ∃ x, ks[j]? = some x := ⟨_, List.getElem?_eq_getElem hlt⟩
      have hbw := bchain hbW hbel
      have hq := (H5.out j x hx1).kept hbw hB
      obtain ⟨B1, B2, B3, B4, d1, d2, d3, d4, e, x0, x1, x2, x3, x4, x5, x6, x7, x8, x9, x10, x11, x12, x13, x14⟩ := kid_cells hq (fun j' u hu => (hbw.cell (p := ⟨g, o + j * 15 + j', none⟩) (Nat.lt_of_lt_of_le hg hB)).trans (hc j hlt j' u hu))
      have IH2 := Lib.hid (fun W hW => IH.out W hW j x hx1)
      rw [e] at IH2
      unfold qcells at IH2
      have HT := Lib.hid (show goodsBy (rlocB n true) (ks.take (j + 1)) = (goodsBy (rlocB n true) (ks.take j) && goodBy (rlocB n true) x) by rw [goodsBy_all, goodsBy_all, List.take_add_one, hx1, List.all_append]; simp)
      have hlt2 : (j : Int) < 9223372036854775807 := by omega
      have i2 : (j : Int) < (ks.length : Int) := by omega
      have HBW2 := Lib.hid hbw
      have HBL := Lib.hid hbel
      have hbx : Below w.heap.size w (wr.alloc (.cells #[.int .i64 x.h.kind, .int .i64 x.h.field, .string x.h.text, .slice B1 x.h.terms.length d1, .slice B2 x.h.offs.length d2, .int .i64 x.h.n, .int .u64 x.h.weight, .bool x.h.lo.op, .bool x.h.lo.inn, .string x.h.lo.text, .bool x.h.hi.op, .bool x.h.hi.inn, .string x.h.hi.text, .slice B3 x.h.occur.length d3, .slice B4 x.kids.length d4] 29)) := Below.alloc hbw (Nat.le_trans hbW.size hbel.size) _
      have HBX := Lib.hid hbx
      clear hc hq e hx1 hbw hbel hbx
      go_wp2_with fail
      go_roundw
      case rel => exact ⟨j + 1, by omega, by go_num, rfl, Below.alloc HBL.out HBL.out.size _⟩
      case measure => simp [intOf]; omega
    · have hj' : j = ks.length := by omega
      have HO := Lib.hid (show goodsBy (rlocB n true) (ks.take j) = goodsBy (rlocB n true) ks by rw [hj', List.take_length])
      have i2 : ¬ ((j : Int) < (ks.length : Int)) := by omega
      clear hj'
      go_wp2_with fail
      go_ret
      refine ⟨congrArg (fun b => Ending.returned (.bool b)) ?_, bchain hbW hbel⟩
      first | rfl | exact HO.out | (rw [HO.out]; rfl) | simp

set_option maxHeartbeats 8000000 in
theorem rg_1_true_true (k field qn weight n : Int) (text : ByteArray) (terms : List ByteArray) (offs : List Int) (lo hi : Bnd) (occur : List Int) (ks : List Qry) (kc : Nat → List Value) (A1 A2 A3 A4 : Option Addr) (c1 c2 c3 c4 : Nat) (B : Nat) (w W1 : World) (hB : B ≤ w.heap.size) (hkl' : ks.length ≤ 9223372036854775807)
    (K1 : Blk W1 w.heap.size 29 (qcells ⟨k, field, text, terms, offs, qn, weight, lo, hi, occur⟩ ks.length A1 A2 A3 A4 c1 c2 c3 c4)) (HZ : RowKit.Hid (w.heap.size + 1 = W1.heap.size)) (hbW : Below w.heap.size w W1) (HW : RowKit.Hid (W1 = w.alloc (.cells (qcells ⟨k, field, text, terms, offs, qn, weight, lo, hi, occur⟩ ks.length A1 A2 A3 A4 c1 c2 c3 c4) 29)))
    (MU : RowKit.Hid (∀ W, Calls Tryz.prog 84 #[.int .i64 k] W fun e w' => e = .returned (.bool false) ∧ Below W.heap.size W w'))
    (BK : RowKit.Hid (∀ W, Calls Tryz.prog 85 #[.agg (qcells ⟨k, field, text, terms, offs, qn, weight, lo, hi, occur⟩ ks.length A1 A2 A3 A4 c1 c2 c3 c4)] W fun e w' => e = .returned (.bool true) ∧ Below W.heap.size W w'))
    (AK : RowKit.Hid (∀ W, Below W1.heap.size W1 W → Calls Tryz.prog 86 #[.agg (qcells ⟨k, field, text, terms, offs, qn, weight, lo, hi, occur⟩ ks.length A1 A2 A3 A4 c1 c2 c3 c4)] W fun e w' => e = .returned (.bool true) ∧ Below W.heap.size W w'))
    (H4 : RowKit.Hid (ks ≠ [] → ∃ g o, A4 = some ⟨g, o, none⟩ ∧ g < B ∧ ∀ i, i < ks.length → ∀ j u, (kc i)[j]? = some u → w.cell? ⟨g, o + i * 15 + j, none⟩ = some u)) (H5 : RowKit.Hid (∀ i k, ks[i]? = some k → QVal w B (kc i) k))
    (IH : RowKit.Hid (∀ W, Below w.heap.size w W → ∀ (i : Nat) (x : Qry), ks[i]? = some x → Calls Tryz.prog 61 #[.agg (kc i).toArray, .int .i64 n, .bool true] W fun e w' => e = .returned (.bool (goodBy (rlocB n true) x)) ∧ Below W.heap.size W w'))
    (b1 : decide (k < 1) = false) (b2 : decide ((14 : Int) < k) = false) (e1 : decide (3 ≤ k) = false) :
    Calls Tryz.prog 61 #[.agg (qcells ⟨k, field, text, terms, offs, qn, weight, lo, hi, occur⟩ ks.length A1 A2 A3 A4 c1 c2 c3 c4), .int .i64 n, .bool true] w fun e w' => e = .returned (.bool (true && true && true && goodsBy (rlocB n true) ks)) ∧ Below w.heap.size w w' := by
  unfold qcells at K1 HW BK AK ⊢
  dsimp only at K1 HW BK AK ⊢
  go_enter Tryz.func61, Tryz.ntmps61
  go_wp2_with (first | (go_at_call 84; refine (MU.out _).mono ?_; rintro e w1 ⟨rfl, hb1⟩; have q1 : Below W1.heap.size W1 w1 := (by rw [HW.out]; exact hb1); obtain ⟨mq0, mq1, mq2, mq3, mq4, mq5, mq6, mq7, mq8, mq9, mq10, mq11, mq12, mq13, mq14⟩ := qrow (K1.below q1 (by have := HZ.out; omega))) | (go_at_call 85; refine (BK.out _).mono ?_; rintro e w2 ⟨rfl, hb2⟩; have q2 : Below W1.heap.size W1 w2 := bchain q1 hb2; obtain ⟨aq0, aq1, aq2, aq3, aq4, aq5, aq6, aq7, aq8, aq9, aq10, aq11, aq12, aq13, aq14⟩ := qrow (K1.below q2 (by have := HZ.out; omega))) | (go_at_call 86; refine (AK.out w2 q2).mono ?_; rintro e w3 ⟨rfl, hb3⟩; have q3 : Below W1.heap.size W1 w3 := bchain q2 hb3; obtain ⟨bq0, bq1, bq2, bq3, bq4, bq5, bq6, bq7, bq8, bq9, bq10, bq11, bq12, bq13, bq14⟩ := qrow (K1.below q3 (by have := HZ.out; omega))))
  go_loopw [54, 7] (fun i u wr => ∃ j : Nat, j ≤ ks.length ∧ i = .int .i64 j ∧ u = .bool (goodsBy (rlocB n true) (ks.take j)) ∧ Below W1.heap.size W1 wr) (fun i _ _ => ks.length - (intOf i).toNat)
  case atStart => exact ⟨0, Nat.zero_le _, rfl, rfl, q3⟩
  case round =>
    obtain ⟨j, hj, rfl, rfl, hbel⟩ := hrel
    have c14 : wr.cell? ⟨w.heap.size, 14, none⟩ = some (.slice A4 ks.length c4) := (K1.below hbel (by have := HZ.out; omega)).cell 14
    rcases Nat.lt_or_ge j ks.length with hlt | hge
    · obtain ⟨g, o, rfl, hg, hc⟩ := H4.out (by intro h; subst h; simp at hlt)
      obtain ⟨x, hx1⟩ : ∃ x, ks[j]? = some x := ⟨_, List.getElem?_eq_getElem hlt⟩
      have hbw := bchain hbW hbel
      have hq := (H5.out j x hx1).kept hbw hB
      obtain ⟨B1, B2, B3, B4, d1, d2, d3, d4, e, x0, x1, x2, x3, x4, x5, x6, x7, x8, x9, x10, x11, x12, x13, x14⟩ := kid_cells hq (fun j' u hu => (hbw.cell (p := ⟨g, o + j * 15 + j', none⟩) (Nat.lt_of_lt_of_le hg hB)).trans (hc j hlt j' u hu))
      have IH2 := Lib.hid (fun W hW => IH.out W hW j x hx1)
      rw [e] at IH2
      unfold qcells at IH2
      have HT := Lib.hid (show goodsBy (rlocB n true) (ks.take (j + 1)) = (goodsBy (rlocB n true) (ks.take j) && goodBy (rlocB n true) x) by rw [goodsBy_all, goodsBy_all, List.take_add_one, hx1, List.all_append]; simp)
      have hlt2 : (j : Int) < 9223372036854775807 := by omega
      have i2 : (j : Int) < (ks.length : Int) := by omega
      have HBW2 := Lib.hid hbw
      have HBL := Lib.hid hbel
      have hbx : Below w.heap.size w (wr.alloc (.cells #[.int .i64 x.h.kind, .int .i64 x.h.field, .string x.h.text, .slice B1 x.h.terms.length d1, .slice B2 x.h.offs.length d2, .int .i64 x.h.n, .int .u64 x.h.weight, .bool x.h.lo.op, .bool x.h.lo.inn, .string x.h.lo.text, .bool x.h.hi.op, .bool x.h.hi.inn, .string x.h.hi.text, .slice B3 x.h.occur.length d3, .slice B4 x.kids.length d4] 29)) := Below.alloc hbw (Nat.le_trans hbW.size hbel.size) _
      have HBX := Lib.hid hbx
      clear hc hq e hx1 hbw hbel hbx
      obtain ⟨acc, hacc⟩ : ∃ acc, acc = goodsBy (rlocB n true) (ks.take j) := ⟨_, rfl⟩
      rw [← hacc]
      have HACC := Lib.hid hacc
      clear hacc
      cases acc
      · go_wp2_with fail
        go_roundw
        case rel => exact ⟨j + 1, by omega, by go_num, by rw [HT.out, ← HACC.out]; rfl, Below.alloc HBL.out HBL.out.size _⟩
        case measure => simp [intOf]; omega
      · obtain ⟨kb, hkb⟩ : ∃ kb, kb = goodBy (rlocB n true) x := ⟨_, rfl⟩
        simp only [← hkb] at IH2
        have HKB := Lib.hid hkb
        clear hkb
        go_wp2_with (go_at_call 61; refine (IH2.out _ HBX.out).mono ?_; rintro e w6 ⟨rfl, hb6⟩)
        go_roundw
        case rel => exact ⟨j + 1, by omega, by go_num, by rw [HT.out, ← HACC.out, ← HKB.out]; rfl, bchain (Below.alloc HBL.out HBL.out.size _) hb6⟩
        case measure => simp [intOf]; omega
    · have hj' : j = ks.length := by omega
      have HO := Lib.hid (show goodsBy (rlocB n true) (ks.take j) = goodsBy (rlocB n true) ks by rw [hj', List.take_length])
      have i2 : ¬ ((j : Int) < (ks.length : Int)) := by omega
      clear hj'
      go_wp2_with fail
      go_ret
      refine ⟨congrArg (fun b => Ending.returned (.bool b)) ?_, bchain hbW hbel⟩
      first | rfl | exact HO.out | (rw [HO.out]; rfl) | simp

end Go.Proofs.YtfpikilhbkeajaaGreatDoor.RefGoodP1
