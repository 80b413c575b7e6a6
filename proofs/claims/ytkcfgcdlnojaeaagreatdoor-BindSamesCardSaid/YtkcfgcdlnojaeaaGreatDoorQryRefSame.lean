/-
  The walk of concordref16.Same over any two queries.
-/
import Derived.Test.YtkcfgcdlnojaeaaGreatDoorQryLists
set_option linter.unusedVariables false
set_option linter.unusedSimpArgs false
namespace Go.Proofs.YtkcfgcdlnojaeaaGreatDoor.QryRefSame
set_option maxRecDepth 100000
open Go.RowKit Go.PlainAid Base Query QrySize QrySame QryLists

theorem told_t {f : FuncId} {args : Array Value} {P : Prop} {w : World} (hp : P) (h : Calls Tryz.prog f args w (QrySame.Told P w)) : Calls Tryz.prog f args w fun e w' => e = .returned (.bool true) ∧ Below w.heap.size w w' :=
  h.mono fun e w' he => ⟨by obtain ⟨⟨r, h1, h2⟩, _⟩ := he; rw [h1, h2.2 hp], he.2⟩
theorem told_f {f : FuncId} {args : Array Value} {P : Prop} {w : World} (hp : ¬ P) (h : Calls Tryz.prog f args w (QrySame.Told P w)) : Calls Tryz.prog f args w fun e w' => e = .returned (.bool false) ∧ Below w.heap.size w w' :=
  h.mono fun e w' he => ⟨by obtain ⟨⟨r, h1, h2⟩, _⟩ := he; cases r; exact h1; exact absurd (h2.1 rfl) hp, he.2⟩

set_option maxHeartbeats 4000000 in
theorem refSame_any (q : Qry) : ∀ (q2 : Qry) (cs cs2 : List Value) (B : Nat) (w : World), QVal w B cs q → QVal w B cs2 q2 → B ≤ w.heap.size →
    Calls Tryz.prog 42 #[.agg cs.toArray, .agg cs2.toArray] w (QrySame.Told (q = q2) w) := by
  induction q using Qry.ind with
  | h q ih =>
    intro q2 cs cs2 B w hq hq2 hB
    obtain ⟨hd, ks, A1, A2, A3, A4, c1, c2, c3, c4, kc, hw, hk, h1, h2, h3, h4, h5⟩ := hq
    obtain ⟨hd2, ks2, B1, B2, B3, B4, d1, d2, d3, d4, kc2, hw2, hk2, g1, g2, g3, g4, g5⟩ := hq2
    simp only [Qry.kids] at ih
    have lt1 : hd.terms.length ≤ 9223372036854775807 := hw.nterms
    have lt2 : hd.offs.length ≤ 9223372036854775807 := hw.noffs
    have lt3 : hd.occur.length ≤ 9223372036854775807 := hw.noccur
    have lt4 : ks.length ≤ 9223372036854775807 := hk
    clear hw hw2 hk hk2
    by_cases hsh : hd2.kind = hd.kind ∧ hd2.field = hd.field ∧ hd2.text = hd.text ∧ hd2.n = hd.n ∧ hd2.weight = hd.weight ∧ hd2.lo = hd.lo ∧ hd2.hi = hd.hi
    case neg =>
      have HN := Lib.hid hsh
      clear hsh ih h1 h2 h3 h4 h5 g1 g2 g3 g4 g5
      go_enter Tryz.func42, Tryz.ntmps42
      go_upto_region 2 with fail
      all_goals first
        | (exfalso
           exact HN.out ⟨(show hd.kind = hd2.kind from ‹_›).symm, (show hd.field = hd2.field from ‹_›).symm, (ba_eq (show hd.text.toList = hd2.text.toList from ‹_›)).symm, (show hd.n = hd2.n from ‹_›).symm, (show hd.weight = hd2.weight from ‹_›).symm,
             (bnd_eq (show hd.lo.op = hd2.lo.op from ‹_›) (show hd.lo.inn = hd2.lo.inn from ‹_›) (show hd.lo.text.toList = hd2.lo.text.toList from ‹_›)).symm,
             (bnd_eq (show hd.hi.op = hd2.hi.op from ‹_›) (show hd.hi.inn = hd2.hi.inn from ‹_›) (show hd.hi.text.toList = hd2.hi.text.toList from ‹_›)).symm⟩)
        | skip
      all_goals
        go_wp2_with fail
        refine wp_loop_rounds 1 ?_
        rw [rounds_succ]
        go_wp2_with fail
        go_ret
        refine told_no (fun h => HN.out ?_) (by (repeat (first | exact Below.refl _ _ | assumption | refine balloc ?_ _ | refine bdrew ?_ | refine bdrewN ?_ _ | refine bchain ?_ (by assumption))))
        have h := (Qry.mk.inj h).1
        rw [← h]
        exact ⟨rfl, rfl, rfl, rfl, rfl, rfl, rfl⟩
    obtain ⟨e1, e2, e3, e4, e5, e6, e7⟩ := hsh
    obtain ⟨kd2, fd2, tx2, ts2, os2, nn2, wt2, lo2, hi2, oc2⟩ := hd2
    simp only at e1 e2 e3 e4 e5 e6 e7 g1 g2 g3
    subst e1 e2 e3 e4 e5 e6 e7
    have HP0 : (Qry.mk hd ks = Qry.mk ⟨hd.kind, hd.field, hd.text, ts2, os2, hd.n, hd.weight, hd.lo, hd.hi, oc2⟩ ks2) ↔ (hd.terms = ts2 ∧ hd.offs = os2 ∧ hd.occur = oc2 ∧ ks = ks2) := by
      constructor
      · intro h
        have h' := Qry.mk.inj h
        exact ⟨congrArg Head.terms h'.1, congrArg Head.offs h'.1, congrArg Head.occur h'.1, h'.2⟩
      · rintro ⟨rfl, rfl, rfl, rfl⟩
        rfl
    generalize (Qry.mk hd ks = Qry.mk ⟨hd.kind, hd.field, hd.text, ts2, os2, hd.n, hd.weight, hd.lo, hd.hi, oc2⟩ ks2) = P at HP0 ⊢
    simp only
    have ST := Lib.hid (fun W (hW : Below w.heap.size w W) => sameTexts_any hd.terms ts2 A1 B1 c1 d1 B W (Nat.le_trans hB hW.size) (h1.below hW hB) (g1.below hW hB) lt1)
    have SI := Lib.hid (fun W (hW : Below w.heap.size w W) => sameInts_any hd.offs os2 A2 B2 c2 d2 B W (Nat.le_trans hB hW.size) (h2.below hW hB) (g2.below hW hB) lt2)
    have SO := Lib.hid (fun W (hW : Below w.heap.size w W) => sameInts_any hd.occur oc2 A3 B3 c3 d3 B W (Nat.le_trans hB hW.size) (h3.below hW hB) (g3.below hW hB) lt3)
    clear h1 h2 h3 g1 g2 g3
    have HP := Lib.hid HP0
    clear HP0
    by_cases t1 : hd.terms = ts2
    case neg =>
      have HN := Lib.hid t1
      clear t1 h4 h5 g4 g5 ih
      obtain ⟨W2, hW2⟩ : ∃ W, W = (w.alloc (.cells (qcells hd ks.length A1 A2 A3 A4 c1 c2 c3 c4) 29)).alloc (.cells (qcells ⟨hd.kind, hd.field, hd.text, ts2, os2, hd.n, hd.weight, hd.lo, hd.hi, oc2⟩ ks2.length B1 B2 B3 B4 d1 d2 d3 d4) 29) := ⟨_, rfl⟩
      have k1 : Blk W2 w.heap.size 29 (qcells hd ks.length A1 A2 A3 A4 c1 c2 c3 c4) := by rw [hW2]; exact (Blk.new w _ _).alloc _
      have k2 : Blk W2 (w.heap.size + 1) 29 (qcells ⟨hd.kind, hd.field, hd.text, ts2, os2, hd.n, hd.weight, hd.lo, hd.hi, oc2⟩ ks2.length B1 B2 B3 B4 d1 d2 d3 d4) := by
        rw [hW2]
        have := Blk.new (w.alloc (.cells (qcells hd ks.length A1 A2 A3 A4 c1 c2 c3 c4) 29)) 29 (qcells ⟨hd.kind, hd.field, hd.text, ts2, os2, hd.n, hd.weight, hd.lo, hd.hi, oc2⟩ ks2.length B1 B2 B3 B4 d1 d2 d3 d4)
        rwa [World.size_alloc] at this
      have hbW : Below w.heap.size w W2 := by rw [hW2]; (repeat (first | exact Below.refl _ _ | assumption | refine balloc ?_ _ | refine bdrew ?_ | refine bdrewN ?_ _ | refine bchain ?_ (by assumption)))
      have hsz : w.heap.size + 2 = W2.heap.size := by rw [hW2]; simp
      have HW := Lib.hid hW2
      clear hW2
      go_enter Tryz.func42, Tryz.ntmps42
      go_wp2_with fail
      go_at_call 78
      refine (told_f HN.out (ST.out _ (by (repeat (first | exact Below.refl _ _ | assumption | refine balloc ?_ _ | refine bdrew ?_ | refine bdrewN ?_ _ | refine bchain ?_ (by assumption)))))).mono ?_
      rintro e w3 ⟨rfl, hb3⟩
      have q3 : Below W2.heap.size W2 w3 := (by rw [HW.out]; exact hb3)
      have f4 : w3.cell? ⟨w.heap.size, 4, none⟩ = some (.slice A2 hd.offs.length c2) := (k1.below q3 (by omega)).cell 4
      have gg4 : w3.cell? ⟨w.heap.size + 1, 4, none⟩ = some (.slice B2 os2.length d2) := (k2.below q3 (by omega)).cell 4
      go_wp2_with fail
      refine wp_loop_rounds 1 ?_
      rw [rounds_succ]
      go_wp2_with fail
      go_ret
      exact told_no (fun h => HN.out ((HP.out.1 h).1)) (by (repeat (first | exact Below.refl _ _ | assumption | refine balloc ?_ _ | refine bdrew ?_ | refine bdrewN ?_ _ | refine bchain ?_ (by assumption))))
    have T1 := Lib.hid t1
    clear t1
    by_cases t2 : hd.offs = os2
    case neg =>
      have HN := Lib.hid t2
      clear t2 h4 h5 g4 g5 ih
      obtain ⟨W2, hW2⟩ : ∃ W, W = (w.alloc (.cells (qcells hd ks.length A1 A2 A3 A4 c1 c2 c3 c4) 29)).alloc (.cells (qcells ⟨hd.kind, hd.field, hd.text, ts2, os2, hd.n, hd.weight, hd.lo, hd.hi, oc2⟩ ks2.length B1 B2 B3 B4 d1 d2 d3 d4) 29) := ⟨_, rfl⟩
      have k1 : Blk W2 w.heap.size 29 (qcells hd ks.length A1 A2 A3 A4 c1 c2 c3 c4) := by rw [hW2]; exact (Blk.new w _ _).alloc _
      have k2 : Blk W2 (w.heap.size + 1) 29 (qcells ⟨hd.kind, hd.field, hd.text, ts2, os2, hd.n, hd.weight, hd.lo, hd.hi, oc2⟩ ks2.length B1 B2 B3 B4 d1 d2 d3 d4) := by
        rw [hW2]
        have := Blk.new (w.alloc (.cells (qcells hd ks.length A1 A2 A3 A4 c1 c2 c3 c4) 29)) 29 (qcells ⟨hd.kind, hd.field, hd.text, ts2, os2, hd.n, hd.weight, hd.lo, hd.hi, oc2⟩ ks2.length B1 B2 B3 B4 d1 d2 d3 d4)
        rwa [World.size_alloc] at this
      have hbW : Below w.heap.size w W2 := by rw [hW2]; (repeat (first | exact Below.refl _ _ | assumption | refine balloc ?_ _ | refine bdrew ?_ | refine bdrewN ?_ _ | refine bchain ?_ (by assumption)))
      have hsz : w.heap.size + 2 = W2.heap.size := by rw [hW2]; simp
      have HW := Lib.hid hW2
      clear hW2
      go_enter Tryz.func42, Tryz.ntmps42
      go_wp2_with fail
      go_at_call 78
      refine (told_t T1.out (ST.out _ (by (repeat (first | exact Below.refl _ _ | assumption | refine balloc ?_ _ | refine bdrew ?_ | refine bdrewN ?_ _ | refine bchain ?_ (by assumption)))))).mono ?_
      rintro e w3 ⟨rfl, hb3⟩
      have q3 : Below W2.heap.size W2 w3 := (by rw [HW.out]; exact hb3)
      have f4 : w3.cell? ⟨w.heap.size, 4, none⟩ = some (.slice A2 hd.offs.length c2) := (k1.below q3 (by omega)).cell 4
      have gg4 : w3.cell? ⟨w.heap.size + 1, 4, none⟩ = some (.slice B2 os2.length d2) := (k2.below q3 (by omega)).cell 4
      go_wp2_with fail
      go_at_call 79
      have hcall := told_f HN.out (SI.out w3 (bchain hbW q3))
      refine hcall.mono ?_
      clear hcall
      rintro e w4 ⟨rfl, hb4⟩
      have q4 : Below W2.heap.size W2 w4 := bchain q3 hb4
      have f13 : w4.cell? ⟨w.heap.size, 13, none⟩ = some (.slice A3 hd.occur.length c3) := (k1.below q4 (by omega)).cell 13
      have gg13 : w4.cell? ⟨w.heap.size + 1, 13, none⟩ = some (.slice B3 oc2.length d3) := (k2.below q4 (by omega)).cell 13
      go_wp2_with fail
      refine wp_loop_rounds 1 ?_
      rw [rounds_succ]
      go_wp2_with fail
      go_ret
      exact told_no (fun h => HN.out ((HP.out.1 h).2.1)) (by (repeat (first | exact Below.refl _ _ | assumption | refine balloc ?_ _ | refine bdrew ?_ | refine bdrewN ?_ _ | refine bchain ?_ (by assumption))))
    have T2 := Lib.hid t2
    clear t2
    by_cases t3 : hd.occur = oc2
    case neg =>
      have HN := Lib.hid t3
      clear t3 h4 h5 g4 g5 ih
      obtain ⟨W2, hW2⟩ : ∃ W, W = (w.alloc (.cells (qcells hd ks.length A1 A2 A3 A4 c1 c2 c3 c4) 29)).alloc (.cells (qcells ⟨hd.kind, hd.field, hd.text, ts2, os2, hd.n, hd.weight, hd.lo, hd.hi, oc2⟩ ks2.length B1 B2 B3 B4 d1 d2 d3 d4) 29) := ⟨_, rfl⟩
      have k1 : Blk W2 w.heap.size 29 (qcells hd ks.length A1 A2 A3 A4 c1 c2 c3 c4) := by rw [hW2]; exact (Blk.new w _ _).alloc _
      have k2 : Blk W2 (w.heap.size + 1) 29 (qcells ⟨hd.kind, hd.field, hd.text, ts2, os2, hd.n, hd.weight, hd.lo, hd.hi, oc2⟩ ks2.length B1 B2 B3 B4 d1 d2 d3 d4) := by
        rw [hW2]
        have := Blk.new (w.alloc (.cells (qcells hd ks.length A1 A2 A3 A4 c1 c2 c3 c4) 29)) 29 (qcells ⟨hd.kind, hd.field, hd.text, ts2, os2, hd.n, hd.weight, hd.lo, hd.hi, oc2⟩ ks2.length B1 B2 B3 B4 d1 d2 d3 d4)
        rwa [World.size_alloc] at this
      have hbW : Below w.heap.size w W2 := by rw [hW2]; (repeat (first | exact Below.refl _ _ | assumption | refine balloc ?_ _ | refine bdrew ?_ | refine bdrewN ?_ _ | refine bchain ?_ (by assumption)))
      have hsz : w.heap.size + 2 = W2.heap.size := by rw [hW2]; simp
      have HW := Lib.hid hW2
      clear hW2
      go_enter Tryz.func42, Tryz.ntmps42
      go_wp2_with fail
      go_at_call 78
      refine (told_t T1.out (ST.out _ (by (repeat (first | exact Below.refl _ _ | assumption | refine balloc ?_ _ | refine bdrew ?_ | refine bdrewN ?_ _ | refine bchain ?_ (by assumption)))))).mono ?_
      rintro e w3 ⟨rfl, hb3⟩
      have q3 : Below W2.heap.size W2 w3 := (by rw [HW.out]; exact hb3)
      have f4 : w3.cell? ⟨w.heap.size, 4, none⟩ = some (.slice A2 hd.offs.length c2) := (k1.below q3 (by omega)).cell 4
      have gg4 : w3.cell? ⟨w.heap.size + 1, 4, none⟩ = some (.slice B2 os2.length d2) := (k2.below q3 (by omega)).cell 4
      go_wp2_with fail
      go_at_call 79
      have hcall := told_t T2.out (SI.out w3 (bchain hbW q3))
      refine hcall.mono ?_
      clear hcall
      rintro e w4 ⟨rfl, hb4⟩
      have q4 : Below W2.heap.size W2 w4 := bchain q3 hb4
      have f13 : w4.cell? ⟨w.heap.size, 13, none⟩ = some (.slice A3 hd.occur.length c3) := (k1.below q4 (by omega)).cell 13
      have gg13 : w4.cell? ⟨w.heap.size + 1, 13, none⟩ = some (.slice B3 oc2.length d3) := (k2.below q4 (by omega)).cell 13
      go_wp2_with fail
      go_at_call 79
      have hcall := told_f HN.out (SO.out w4 (bchain hbW q4))
      refine hcall.mono ?_
      clear hcall
      rintro e w5 ⟨rfl, hb5⟩
      have q5 : Below W2.heap.size W2 w5 := bchain q4 hb5
      have f14 : w5.cell? ⟨w.heap.size, 14, none⟩ = some (.slice A4 ks.length c4) := (k1.below q5 (by omega)).cell 14
      have gg14 : w5.cell? ⟨w.heap.size + 1, 14, none⟩ = some (.slice B4 ks2.length d4) := (k2.below q5 (by omega)).cell 14
      go_wp2_with fail
      refine wp_loop_rounds 1 ?_
      rw [rounds_succ]
      go_wp2_with fail
      go_ret
      exact told_no (fun h => HN.out ((HP.out.1 h).2.2.1)) (by (repeat (first | exact Below.refl _ _ | assumption | refine balloc ?_ _ | refine bdrew ?_ | refine bdrewN ?_ _ | refine bchain ?_ (by assumption))))
    have T3 := Lib.hid t3
    clear t3
    by_cases t4 : ks2.length = ks.length
    case neg =>
      have HN := Lib.hid t4
      have hm : ((ks.length : Int) == (ks2.length : Int)) = false := beq_eq_false_iff_ne.2 (fun e => HN.out (by omega))
      clear t4 h4 h5 g4 g5 ih
      obtain ⟨W2, hW2⟩ : ∃ W, W = (w.alloc (.cells (qcells hd ks.length A1 A2 A3 A4 c1 c2 c3 c4) 29)).alloc (.cells (qcells ⟨hd.kind, hd.field, hd.text, ts2, os2, hd.n, hd.weight, hd.lo, hd.hi, oc2⟩ ks2.length B1 B2 B3 B4 d1 d2 d3 d4) 29) := ⟨_, rfl⟩
      have k1 : Blk W2 w.heap.size 29 (qcells hd ks.length A1 A2 A3 A4 c1 c2 c3 c4) := by rw [hW2]; exact (Blk.new w _ _).alloc _
      have k2 : Blk W2 (w.heap.size + 1) 29 (qcells ⟨hd.kind, hd.field, hd.text, ts2, os2, hd.n, hd.weight, hd.lo, hd.hi, oc2⟩ ks2.length B1 B2 B3 B4 d1 d2 d3 d4) := by
        rw [hW2]
        have := Blk.new (w.alloc (.cells (qcells hd ks.length A1 A2 A3 A4 c1 c2 c3 c4) 29)) 29 (qcells ⟨hd.kind, hd.field, hd.text, ts2, os2, hd.n, hd.weight, hd.lo, hd.hi, oc2⟩ ks2.length B1 B2 B3 B4 d1 d2 d3 d4)
        rwa [World.size_alloc] at this
      have hbW : Below w.heap.size w W2 := by rw [hW2]; (repeat (first | exact Below.refl _ _ | assumption | refine balloc ?_ _ | refine bdrew ?_ | refine bdrewN ?_ _ | refine bchain ?_ (by assumption)))
      have hsz : w.heap.size + 2 = W2.heap.size := by rw [hW2]; simp
      have HW := Lib.hid hW2
      clear hW2
      go_enter Tryz.func42, Tryz.ntmps42
      go_wp2_with fail
      go_at_call 78
      refine (told_t T1.out (ST.out _ (by (repeat (first | exact Below.refl _ _ | assumption | refine balloc ?_ _ | refine bdrew ?_ | refine bdrewN ?_ _ | refine bchain ?_ (by assumption)))))).mono ?_
      rintro e w3 ⟨rfl, hb3⟩
      have q3 : Below W2.heap.size W2 w3 := (by rw [HW.out]; exact hb3)
      have f4 : w3.cell? ⟨w.heap.size, 4, none⟩ = some (.slice A2 hd.offs.length c2) := (k1.below q3 (by omega)).cell 4
      have gg4 : w3.cell? ⟨w.heap.size + 1, 4, none⟩ = some (.slice B2 os2.length d2) := (k2.below q3 (by omega)).cell 4
      go_wp2_with fail
      go_at_call 79
      have hcall := told_t T2.out (SI.out w3 (bchain hbW q3))
      refine hcall.mono ?_
      clear hcall
      rintro e w4 ⟨rfl, hb4⟩
      have q4 : Below W2.heap.size W2 w4 := bchain q3 hb4
      have f13 : w4.cell? ⟨w.heap.size, 13, none⟩ = some (.slice A3 hd.occur.length c3) := (k1.below q4 (by omega)).cell 13
      have gg13 : w4.cell? ⟨w.heap.size + 1, 13, none⟩ = some (.slice B3 oc2.length d3) := (k2.below q4 (by omega)).cell 13
      go_wp2_with fail
      go_at_call 79
      have hcall := told_t T3.out (SO.out w4 (bchain hbW q4))
      refine hcall.mono ?_
      clear hcall
      rintro e w5 ⟨rfl, hb5⟩
      have q5 : Below W2.heap.size W2 w5 := bchain q4 hb5
      have f14 : w5.cell? ⟨w.heap.size, 14, none⟩ = some (.slice A4 ks.length c4) := (k1.below q5 (by omega)).cell 14
      have gg14 : w5.cell? ⟨w.heap.size + 1, 14, none⟩ = some (.slice B4 ks2.length d4) := (k2.below q5 (by omega)).cell 14
      go_wp2_with fail
      refine wp_loop_rounds 1 ?_
      rw [rounds_succ]
      go_wp2_with fail
      go_ret
      exact told_no (fun h => HN.out (by rw [(HP.out.1 h).2.2.2])) (by (repeat (first | exact Below.refl _ _ | assumption | refine balloc ?_ _ | refine bdrew ?_ | refine bdrewN ?_ _ | refine bchain ?_ (by assumption))))
    rw [t4]
    have M4 := Lib.hid t4
    clear t4
    obtain ⟨W2, hW2⟩ : ∃ W, W = (w.alloc (.cells (qcells hd ks.length A1 A2 A3 A4 c1 c2 c3 c4) 29)).alloc (.cells (qcells ⟨hd.kind, hd.field, hd.text, ts2, os2, hd.n, hd.weight, hd.lo, hd.hi, oc2⟩ ks.length B1 B2 B3 B4 d1 d2 d3 d4) 29) := ⟨_, rfl⟩
    have k1 : Blk W2 w.heap.size 29 (qcells hd ks.length A1 A2 A3 A4 c1 c2 c3 c4) := by rw [hW2]; exact (Blk.new w _ _).alloc _
    have k2 : Blk W2 (w.heap.size + 1) 29 (qcells ⟨hd.kind, hd.field, hd.text, ts2, os2, hd.n, hd.weight, hd.lo, hd.hi, oc2⟩ ks.length B1 B2 B3 B4 d1 d2 d3 d4) := by
      rw [hW2]
      have := Blk.new (w.alloc (.cells (qcells hd ks.length A1 A2 A3 A4 c1 c2 c3 c4) 29)) 29 (qcells ⟨hd.kind, hd.field, hd.text, ts2, os2, hd.n, hd.weight, hd.lo, hd.hi, oc2⟩ ks.length B1 B2 B3 B4 d1 d2 d3 d4)
      rwa [World.size_alloc] at this
    have hbW : Below w.heap.size w W2 := by rw [hW2]; (repeat (first | exact Below.refl _ _ | assumption | refine balloc ?_ _ | refine bdrew ?_ | refine bdrewN ?_ _ | refine bchain ?_ (by assumption)))
    have hsz : w.heap.size + 2 = W2.heap.size := by rw [hW2]; simp
    have HW := Lib.hid hW2
    clear hW2
    go_enter Tryz.func42, Tryz.ntmps42
    go_wp2_with fail
    go_at_call 78
    refine (told_t T1.out (ST.out _ (by (repeat (first | exact Below.refl _ _ | assumption | refine balloc ?_ _ | refine bdrew ?_ | refine bdrewN ?_ _ | refine bchain ?_ (by assumption)))))).mono ?_
    rintro e w3 ⟨rfl, hb3⟩
    have q3 : Below W2.heap.size W2 w3 := (by rw [HW.out]; exact hb3)
    have f4 : w3.cell? ⟨w.heap.size, 4, none⟩ = some (.slice A2 hd.offs.length c2) := (k1.below q3 (by omega)).cell 4
    have gg4 : w3.cell? ⟨w.heap.size + 1, 4, none⟩ = some (.slice B2 os2.length d2) := (k2.below q3 (by omega)).cell 4
    go_wp2_with fail
    go_at_call 79
    have hcall := told_t T2.out (SI.out w3 (bchain hbW q3))
    refine hcall.mono ?_
    clear hcall
    rintro e w4 ⟨rfl, hb4⟩
    have q4 : Below W2.heap.size W2 w4 := bchain q3 hb4
    have f13 : w4.cell? ⟨w.heap.size, 13, none⟩ = some (.slice A3 hd.occur.length c3) := (k1.below q4 (by omega)).cell 13
    have gg13 : w4.cell? ⟨w.heap.size + 1, 13, none⟩ = some (.slice B3 oc2.length d3) := (k2.below q4 (by omega)).cell 13
    go_wp2_with fail
    go_at_call 79
    have hcall := told_t T3.out (SO.out w4 (bchain hbW q4))
    refine hcall.mono ?_
    clear hcall
    rintro e w5 ⟨rfl, hb5⟩
    have q5 : Below W2.heap.size W2 w5 := bchain q4 hb5
    have f14 : w5.cell? ⟨w.heap.size, 14, none⟩ = some (.slice A4 ks.length c4) := (k1.below q5 (by omega)).cell 14
    have gg14 : w5.cell? ⟨w.heap.size + 1, 14, none⟩ = some (.slice B4 ks.length d4) := (k2.below q5 (by omega)).cell 14
    go_wp2_with fail
    have hst := q5
    clear q3 q4 q5 hb3 hb4 hb5 ST SI SO f4 f13 f14 gg4 gg13 gg14
    go_loopw [6, 5] (fun i ok wr => ∃ (k : Nat) (r : Bool), k ≤ ks.length ∧ i = .int .i64 k ∧ ok = .bool r ∧ (r = true → ks.take k = ks2.take k) ∧ (r = false → ¬ P) ∧ Below W2.heap.size W2 wr) (fun i _ _ => ks.length - (intOf i).toNat)
    case atStart => exact ⟨0, true, Nat.zero_le _, rfl, rfl, fun _ => rfl, fun h => Bool.noConfusion h, hst⟩
    case round =>
      obtain ⟨k, r, hk', rfl, rfl, ht4, hno, hbel4⟩ := hrel
      have hbB : Below w.heap.size w wr := bchain hbW hbel4
      cases r
      · have HNO := Lib.hid (hno rfl)
        clear hno ht4 h4 h5 g4 g5 ih
        go_wp2_with fail
        go_ret
        exact told_no HNO.out hbB
      have ht4 := ht4 rfl
      clear hno
      have b5 : wr.cell? ⟨w.heap.size, 14, none⟩ = some (.slice A4 ks.length c4) := (k1.below hbel4 (by omega)).cell 14
      rcases Nat.lt_or_ge k ks.length with hlt | hge
      · obtain ⟨x, hx⟩ : ∃ s, ks[k]? = some s := ⟨_, List.getElem?_eq_getElem hlt⟩
        obtain ⟨x2, hx2⟩ : ∃ s, ks2[k]? = some s := ⟨_, List.getElem?_eq_getElem (by have := M4.out; omega)⟩
        obtain ⟨p, o, rfl, hp, hc⟩ := h4 (by intro h; subst h; simp at hlt)
        obtain ⟨p2, o2, rfl, hp2, hc2⟩ := g4 (by intro h; have := M4.out; subst h; simp at this; omega)
        have hq := (h5 k x hx).kept hbB hB
        have hq2 := (g5 k x2 hx2).kept hbB hB
        have hp : p < w.heap.size := Nat.lt_of_lt_of_le hp hB
        have hp2 : p2 < w.heap.size := Nat.lt_of_lt_of_le hp2 hB
        obtain ⟨X1, X2, X3, X4, t1, t2, t3, t4, e1, qa⟩ := kid_cells hq (fun j u hu => (hbB.cell (p := ⟨p, o + k * 15 + j, none⟩) hp).trans (hc k hlt j u hu))
        obtain ⟨Y1, Y2, Y3, Y4, u1, u2, u3, u4, e2, qa2⟩ := kid_cells hq2 (fun j u hu => (hbB.cell (p := ⟨p2, o2 + k * 15 + j, none⟩) hp2).trans (hc2 k (by have := M4.out; omega) j u hu))
        have b3 := fun b : Bw wr.heap.size wr => (b.below.cell (p := ⟨w.heap.size, 14, none⟩) (Nat.lt_of_lt_of_le (by show w.heap.size < W2.heap.size; omega) hbel4.size)).trans (show wr.cell? ⟨w.heap.size, 14, none⟩ = some (.slice (some ⟨p, o, none⟩) ks.length c4) from (k1.below hbel4 (by omega)).cell 14)
        have b4 := fun b : Bw wr.heap.size wr => (b.below.cell (p := ⟨w.heap.size + 1, 14, none⟩) (Nat.lt_of_lt_of_le (by show w.heap.size + 1 < W2.heap.size; omega) hbel4.size)).trans (show wr.cell? ⟨w.heap.size + 1, 14, none⟩ = some (.slice (some ⟨p2, o2, none⟩) ks.length d4) from (k2.below hbel4 (by omega)).cell 14)
        have i1 : (k : Int) < (ks.length : Int) := by omega
        have i3 : (k : Int) < 9223372036854775807 := by omega
        have HT := Lib.hid ht4
        have HX := Lib.hid hx
        have HX2 := Lib.hid hx2
        clear ht4
        by_cases hss : x = x2
        · have i4 := i1
          have z0 := fun b : Bw wr.heap.size wr => (qat_bw qa (Nat.lt_of_lt_of_le hp hbB.size) b).y0
          have v0 := fun b : Bw wr.heap.size wr => (qat_bw qa2 (Nat.lt_of_lt_of_le hp2 hbB.size) b).y0
          have z1 := fun b : Bw wr.heap.size wr => (qat_bw qa (Nat.lt_of_lt_of_le hp hbB.size) b).y1
          have v1 := fun b : Bw wr.heap.size wr => (qat_bw qa2 (Nat.lt_of_lt_of_le hp2 hbB.size) b).y1
          have z2 := fun b : Bw wr.heap.size wr => (qat_bw qa (Nat.lt_of_lt_of_le hp hbB.size) b).y2
          have v2 := fun b : Bw wr.heap.size wr => (qat_bw qa2 (Nat.lt_of_lt_of_le hp2 hbB.size) b).y2
          have z3 := fun b : Bw wr.heap.size wr => (qat_bw qa (Nat.lt_of_lt_of_le hp hbB.size) b).y3
          have v3 := fun b : Bw wr.heap.size wr => (qat_bw qa2 (Nat.lt_of_lt_of_le hp2 hbB.size) b).y3
          have z4 := fun b : Bw wr.heap.size wr => (qat_bw qa (Nat.lt_of_lt_of_le hp hbB.size) b).y4
          have v4 := fun b : Bw wr.heap.size wr => (qat_bw qa2 (Nat.lt_of_lt_of_le hp2 hbB.size) b).y4
          have z5 := fun b : Bw wr.heap.size wr => (qat_bw qa (Nat.lt_of_lt_of_le hp hbB.size) b).y5
          have v5 := fun b : Bw wr.heap.size wr => (qat_bw qa2 (Nat.lt_of_lt_of_le hp2 hbB.size) b).y5
          have z6 := fun b : Bw wr.heap.size wr => (qat_bw qa (Nat.lt_of_lt_of_le hp hbB.size) b).y6
          have v6 := fun b : Bw wr.heap.size wr => (qat_bw qa2 (Nat.lt_of_lt_of_le hp2 hbB.size) b).y6
          have z7 := fun b : Bw wr.heap.size wr => (qat_bw qa (Nat.lt_of_lt_of_le hp hbB.size) b).y7
          have v7 := fun b : Bw wr.heap.size wr => (qat_bw qa2 (Nat.lt_of_lt_of_le hp2 hbB.size) b).y7
          have z8 := fun b : Bw wr.heap.size wr => (qat_bw qa (Nat.lt_of_lt_of_le hp hbB.size) b).y8
          have v8 := fun b : Bw wr.heap.size wr => (qat_bw qa2 (Nat.lt_of_lt_of_le hp2 hbB.size) b).y8
          have z9 := fun b : Bw wr.heap.size wr => (qat_bw qa (Nat.lt_of_lt_of_le hp hbB.size) b).y9
          have v9 := fun b : Bw wr.heap.size wr => (qat_bw qa2 (Nat.lt_of_lt_of_le hp2 hbB.size) b).y9
          have z10 := fun b : Bw wr.heap.size wr => (qat_bw qa (Nat.lt_of_lt_of_le hp hbB.size) b).y10
          have v10 := fun b : Bw wr.heap.size wr => (qat_bw qa2 (Nat.lt_of_lt_of_le hp2 hbB.size) b).y10
          have z11 := fun b : Bw wr.heap.size wr => (qat_bw qa (Nat.lt_of_lt_of_le hp hbB.size) b).y11
          have v11 := fun b : Bw wr.heap.size wr => (qat_bw qa2 (Nat.lt_of_lt_of_le hp2 hbB.size) b).y11
          have z12 := fun b : Bw wr.heap.size wr => (qat_bw qa (Nat.lt_of_lt_of_le hp hbB.size) b).y12
          have v12 := fun b : Bw wr.heap.size wr => (qat_bw qa2 (Nat.lt_of_lt_of_le hp2 hbB.size) b).y12
          have z13 := fun b : Bw wr.heap.size wr => (qat_bw qa (Nat.lt_of_lt_of_le hp hbB.size) b).y13
          have v13 := fun b : Bw wr.heap.size wr => (qat_bw qa2 (Nat.lt_of_lt_of_le hp2 hbB.size) b).y13
          have z14 := fun b : Bw wr.heap.size wr => (qat_bw qa (Nat.lt_of_lt_of_le hp hbB.size) b).y14
          have v14 := fun b : Bw wr.heap.size wr => (qat_bw qa2 (Nat.lt_of_lt_of_le hp2 hbB.size) b).y14
          have C : ∀ b : Bw wr.heap.size wr, Calls Tryz.prog 42 #[.agg (qcells x.h x.kids.length X1 X2 X3 X4 t1 t2 t3 t4), .agg (qcells x2.h x2.kids.length Y1 Y2 Y3 Y4 u1 u2 u3 u4)] b.at_ fun e w' => e = .returned (.bool true) ∧ ∃ b' : Bw wr.heap.size wr, w' = b'.at_ := fun b =>
            e1 ▸ e2 ▸ calls_bw (v := .bool true) (Nat.le_refl _) ((ih x (List.mem_of_getElem? hx) x2 _ _ B b.at_ ((h5 k x hx).kept (bchain hbB b.below) hB) ((g5 k x2 hx2).kept (bchain hbB b.below) hB) (Nat.le_trans hB (bchain hbB b.below).size)).mono (fun e w' he => ⟨by obtain ⟨⟨r, he, hr⟩, _⟩ := he; rw [he, hr.2 hss], he.2⟩))
          unfold qcells at C
          have HSS := Lib.hid hss
          clear hss h4 h5 g4 g5 ih hx hx2 hc hc2 e1 e2 qa qa2 hq hq2
          go_upto_region 6 with fail
          refine wp_region_bw wr.heap.size (by kernel_rfl) (by kernel_rfl) ?_
          repeat (go_big_quiet_step ((go_at_call 42; with_reducible exact C _)))
          refine wpQuiet_nil ?_
          intro _ hw'
          obtain ⟨⟨wq, hbq⟩, hw''⟩ := hw'
          subst hw''
          clear z0 z1 z2 z3 z4 z5 z6 z7 z8 z9 z10 z11 z12 z13 z14 v0 v1 v2 v3 v4 v5 v6 v7 v8 v9 v10 v11 v12 v13 v14 b3 b4
          go_wp2_with fail
          go_roundw
          case rel => exact ⟨k + 1, true, by omega, by go_num, rfl, fun _ => take_eq_succ HT.out HX.out (by rw [HSS.out]; exact HX2.out), fun h => Bool.noConfusion h, (by have := Below.trans hbel4 (hbq.mono hbel4.size); (repeat (first | exact Below.refl _ _ | assumption | refine balloc ?_ _ | refine bdrew ?_ | refine bdrewN ?_ _ | refine bchain ?_ (by assumption))))⟩
          case measure => simp [intOf]; omega
        · have i4 := i1
          have z0 := fun b : Bw wr.heap.size wr => (qat_bw qa (Nat.lt_of_lt_of_le hp hbB.size) b).y0
          have v0 := fun b : Bw wr.heap.size wr => (qat_bw qa2 (Nat.lt_of_lt_of_le hp2 hbB.size) b).y0
          have z1 := fun b : Bw wr.heap.size wr => (qat_bw qa (Nat.lt_of_lt_of_le hp hbB.size) b).y1
          have v1 := fun b : Bw wr.heap.size wr => (qat_bw qa2 (Nat.lt_of_lt_of_le hp2 hbB.size) b).y1
          have z2 := fun b : Bw wr.heap.size wr => (qat_bw qa (Nat.lt_of_lt_of_le hp hbB.size) b).y2
          have v2 := fun b : Bw wr.heap.size wr => (qat_bw qa2 (Nat.lt_of_lt_of_le hp2 hbB.size) b).y2
          have z3 := fun b : Bw wr.heap.size wr => (qat_bw qa (Nat.lt_of_lt_of_le hp hbB.size) b).y3
          have v3 := fun b : Bw wr.heap.size wr => (qat_bw qa2 (Nat.lt_of_lt_of_le hp2 hbB.size) b).y3
          have z4 := fun b : Bw wr.heap.size wr => (qat_bw qa (Nat.lt_of_lt_of_le hp hbB.size) b).y4
          have v4 := fun b : Bw wr.heap.size wr => (qat_bw qa2 (Nat.lt_of_lt_of_le hp2 hbB.size) b).y4
          have z5 := fun b : Bw wr.heap.size wr => (qat_bw qa (Nat.lt_of_lt_of_le hp hbB.size) b).y5
          have v5 := fun b : Bw wr.heap.size wr => (qat_bw qa2 (Nat.lt_of_lt_of_le hp2 hbB.size) b).y5
          have z6 := fun b : Bw wr.heap.size wr => (qat_bw qa (Nat.lt_of_lt_of_le hp hbB.size) b).y6
          have v6 := fun b : Bw wr.heap.size wr => (qat_bw qa2 (Nat.lt_of_lt_of_le hp2 hbB.size) b).y6
          have z7 := fun b : Bw wr.heap.size wr => (qat_bw qa (Nat.lt_of_lt_of_le hp hbB.size) b).y7
          have v7 := fun b : Bw wr.heap.size wr => (qat_bw qa2 (Nat.lt_of_lt_of_le hp2 hbB.size) b).y7
          have z8 := fun b : Bw wr.heap.size wr => (qat_bw qa (Nat.lt_of_lt_of_le hp hbB.size) b).y8
          have v8 := fun b : Bw wr.heap.size wr => (qat_bw qa2 (Nat.lt_of_lt_of_le hp2 hbB.size) b).y8
          have z9 := fun b : Bw wr.heap.size wr => (qat_bw qa (Nat.lt_of_lt_of_le hp hbB.size) b).y9
          have v9 := fun b : Bw wr.heap.size wr => (qat_bw qa2 (Nat.lt_of_lt_of_le hp2 hbB.size) b).y9
          have z10 := fun b : Bw wr.heap.size wr => (qat_bw qa (Nat.lt_of_lt_of_le hp hbB.size) b).y10
          have v10 := fun b : Bw wr.heap.size wr => (qat_bw qa2 (Nat.lt_of_lt_of_le hp2 hbB.size) b).y10
          have z11 := fun b : Bw wr.heap.size wr => (qat_bw qa (Nat.lt_of_lt_of_le hp hbB.size) b).y11
          have v11 := fun b : Bw wr.heap.size wr => (qat_bw qa2 (Nat.lt_of_lt_of_le hp2 hbB.size) b).y11
          have z12 := fun b : Bw wr.heap.size wr => (qat_bw qa (Nat.lt_of_lt_of_le hp hbB.size) b).y12
          have v12 := fun b : Bw wr.heap.size wr => (qat_bw qa2 (Nat.lt_of_lt_of_le hp2 hbB.size) b).y12
          have z13 := fun b : Bw wr.heap.size wr => (qat_bw qa (Nat.lt_of_lt_of_le hp hbB.size) b).y13
          have v13 := fun b : Bw wr.heap.size wr => (qat_bw qa2 (Nat.lt_of_lt_of_le hp2 hbB.size) b).y13
          have z14 := fun b : Bw wr.heap.size wr => (qat_bw qa (Nat.lt_of_lt_of_le hp hbB.size) b).y14
          have v14 := fun b : Bw wr.heap.size wr => (qat_bw qa2 (Nat.lt_of_lt_of_le hp2 hbB.size) b).y14
          have C : ∀ b : Bw wr.heap.size wr, Calls Tryz.prog 42 #[.agg (qcells x.h x.kids.length X1 X2 X3 X4 t1 t2 t3 t4), .agg (qcells x2.h x2.kids.length Y1 Y2 Y3 Y4 u1 u2 u3 u4)] b.at_ fun e w' => e = .returned (.bool false) ∧ ∃ b' : Bw wr.heap.size wr, w' = b'.at_ := fun b =>
            e1 ▸ e2 ▸ calls_bw (v := .bool false) (Nat.le_refl _) ((ih x (List.mem_of_getElem? hx) x2 _ _ B b.at_ ((h5 k x hx).kept (bchain hbB b.below) hB) ((g5 k x2 hx2).kept (bchain hbB b.below) hB) (Nat.le_trans hB (bchain hbB b.below).size)).mono (fun e w' he => ⟨by obtain ⟨⟨r, he, hr⟩, _⟩ := he; cases r; exact he; exact absurd (hr.1 rfl) hss, he.2⟩))
          unfold qcells at C
          have HSS := Lib.hid hss
          clear hss h4 h5 g4 g5 ih hx hx2 hc hc2 e1 e2 qa qa2 hq hq2
          go_upto_region 6 with fail
          refine wp_region_bw wr.heap.size (by kernel_rfl) (by kernel_rfl) ?_
          repeat (go_big_quiet_step ((go_at_call 42; with_reducible exact C _)))
          refine wpQuiet_nil ?_
          intro _ hw'
          obtain ⟨⟨wq, hbq⟩, hw''⟩ := hw'
          subst hw''
          clear z0 z1 z2 z3 z4 z5 z6 z7 z8 z9 z10 z11 z12 z13 z14 v0 v1 v2 v3 v4 v5 v6 v7 v8 v9 v10 v11 v12 v13 v14 b3 b4
          go_wp2_with fail
          go_roundw
          case rel => exact ⟨k + 1, false, by omega, by go_num, rfl, fun h => Bool.noConfusion h, fun _ h => HSS.out (Option.some.inj (HX.out.symm.trans ((congrArg (·[k]?) (HP.out.1 h).2.2.2).trans HX2.out))), (by have := Below.trans hbel4 (hbq.mono hbel4.size); (repeat (first | exact Below.refl _ _ | assumption | refine balloc ?_ _ | refine bdrew ?_ | refine bdrewN ?_ _ | refine bchain ?_ (by assumption))))⟩
          case measure => simp [intOf]; omega
      · obtain rfl : k = ks.length := by omega
        have HK := Lib.hid (show ks = ks2 by rw [List.take_length] at ht4; rw [← M4.out, List.take_length] at ht4; exact ht4)
        clear ht4 hge hk'
        go_wp2_with fail
        go_ret
        exact told_yes (HP.out.2 ⟨T1.out, T2.out, T3.out, HK.out⟩) hbB
end Go.Proofs.YtkcfgcdlnojaeaaGreatDoor.QryRefSame
