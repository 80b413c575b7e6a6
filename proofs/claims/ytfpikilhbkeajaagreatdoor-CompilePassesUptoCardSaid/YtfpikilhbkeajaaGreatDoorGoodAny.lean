/-
  compile's good, whole.
-/
import Derived.Test.YtfpikilhbkeajaaGreatDoorCGood
set_option linter.unusedVariables false
set_option linter.unusedSimpArgs false
namespace Go.Proofs.YtfpikilhbkeajaaGreatDoor.GoodAny
set_option maxRecDepth 100000
open Go.RowKit Go.PlainAid Base Query QrySize EmitPlain EmitBase EmitPut LeafMap EmitNear EmitQ0 AllLeaves LeafRange TextPlain CheckPlain EmitExt GoodPl

set_option maxHeartbeats 4000000 in
theorem good_any (hd : Head) (ks : List Qry) (A1 A2 A3 A4 : Option Addr) (c1 c2 c3 c4 : Nat) (all : Bool) (AD : Option Addr) (cD : Nat) (dr : List Lf) (n : Int) (a : Addr) (w : World) (hq : QVal w w.heap.size (qcells hd ks.length A1 A2 A3 A4 c1 c2 c3 c4).toList (.mk hd ks))
    (hdr : Slc w w.heap.size AD (lfCs dr)) (hok : ∀ l ∈ dr, LfOk l) (hl : (leafs (.mk hd ks)).length + dr.length < maxLen) (he : w.cell? ⟨0, 0, none⟩ = some (errV a)) (hE : 0 < w.heap.size) :
    Calls Tryz.prog 20 #[.agg (plC hd ks.length A1 A2 A3 A4 c1 c2 c3 c4 all AD dr.length cD), .int .i64 n] w fun e w' => e = .returned (.bool (goodPl n (.mk hd ks) all dr)) ∧ Below w.heap.size w w' := by
  obtain ⟨C, hC⟩ : ∃ C, C = plC hd ks.length A1 A2 A3 A4 c1 c2 c3 c4 all AD dr.length cD := ⟨_, rfl⟩
  obtain ⟨W1, hW1⟩ : ∃ W, W = w.alloc (.cells C 32) := ⟨_, rfl⟩
  have K1 : Blk W1 w.heap.size 32 C := by rw [hW1]; exact Blk.new w _ _
  have hb1 : Below w.heap.size w W1 := by rw [hW1]; exact Base.bel
  have hs1 : W1.heap.size = w.heap.size + 1 := by rw [hW1]; simp
  obtain ⟨Q, hQ⟩ : ∃ Q, Q = Qry.mk hd ks := ⟨_, rfl⟩
  obtain ⟨r, hr⟩ : ∃ r, r = good n true Q := ⟨_, rfl⟩
  obtain ⟨S, hS⟩ : ∃ S, S = leafs Q ++ dr := ⟨_, rfl⟩
  obtain ⟨G, hG⟩ : ∃ G, G = goodPl n Q all dr := ⟨_, rfl⟩
  have CK := Lib.hid (by
    have := check_plain (.mk hd ks) (qcells hd ks.length A1 A2 A3 A4 c1 c2 c3 c4).toList w.heap.size n (errV a) W1 (hq.kept hb1 (Nat.le_refl _)) (by omega) ((hb1.cell (p := ⟨0, 0, none⟩) hE).trans he) (by omega)
    rw [← hQ, ← hr, Array.toArray_toList] at this
    unfold qcells at this
    exact this)
  have AL := Lib.hid (show ∀ W, Below W1.heap.size W1 W → _ from fun W hbW => by
    have hb : Below w.heap.size w W := hb1.trans (hbW.mono (by omega))
    have := allLeaves_any hd ks A1 A2 A3 A4 c1 c2 c3 c4 all AD cD dr w.heap.size W hb.size (hq.kept hb (Nat.le_refl _)) (hdr.below hb (Nat.le_refl _)) hok hl
    rw [← hQ, ← hS] at this
    unfold plC at this
    exact this)
  have HLO := Lib.hid (show ∀ l ∈ S, LfOk l from fun l hl => by
    rw [hS] at hl
    rcases List.mem_append.1 hl with h | h
    · exact leafs_ok hq l (by rw [← hQ]; exact h)
    · exact hok l h)
  have HDR := Lib.hid hdr
  have HB := Lib.hid hb1
  have HS1 := Lib.hid hs1
  have HL := Lib.hid hl
  have HG := Lib.hid hG
  have HR := Lib.hid hr
  have HS := Lib.hid hS
  rw [← hQ, ← hG]
  unfold plC at hC
  rw [hC] at hW1 K1
  obtain ⟨y0, y1, y2, y3, y4, y5, y6, y7, y8, y9, y10, y11, y12, y13, y14, y15, y16⟩ := plcs K1
  have HK1 := Lib.hid K1
  have HW1 := Lib.hid hW1
  clear hW1 hQ hq hdr hok hl hb1 hs1 K1 hC he hG hr hS
  unfold plC
  have hcases : n < 1 ∨ (1 ≤ n ∧ 16 < n) ∨ ((1 ≤ n ∧ n ≤ 16) ∧ r = false) ∨ ((1 ≤ n ∧ n ≤ 16) ∧ r = true ∧ all = true ∧ 0 < dr.length) ∨ ((1 ≤ n ∧ n ≤ 16) ∧ r = true ∧ (all = false ∨ (all = true ∧ dr.length = 0))) := by
    clear HR HG CK
    rcases (by omega : n < 1 ∨ (1 ≤ n ∧ 16 < n) ∨ (1 ≤ n ∧ n ≤ 16)) with h | h | h
    · exact .inl h
    · exact .inr (.inl h)
    · cases r
      · exact .inr (.inr (.inl ⟨h, rfl⟩))
      · cases all
        · exact .inr (.inr (.inr (.inr ⟨h, rfl, .inl rfl⟩)))
        · rcases Nat.eq_zero_or_pos dr.length with h0 | h0
          · exact .inr (.inr (.inr (.inr ⟨h, rfl, .inr ⟨rfl, h0⟩⟩)))
          · exact .inr (.inr (.inr (.inl ⟨h, rfl, rfl, h0⟩)))
  rcases hcases with h | ⟨h, h'⟩ | ⟨⟨h, h'⟩, rfl⟩ | ⟨⟨h, h'⟩, rfl, rfl, h3⟩ | ⟨⟨h, h'⟩, rfl, h3⟩
  · have b1 : decide (n < 1) = true := decide_eq_true h
    have hGf : G = false := by rw [HG.out]; unfold goodPl; rw [decide_eq_false (show ¬ 1 ≤ n by omega)]; rfl
    rw [hGf]
    go_enter Tryz.func20, Tryz.ntmps20
    go_upto_region 1 with fail
    rw [← HW1.out]
    go_wp2_with fail
    go_ret
    exact ⟨rfl, by have := HB.out; exact Base.bel⟩
  · have b1 : decide (n < 1) = false := decide_eq_false (by omega)
    have b2 : decide (16 < n) = true := decide_eq_true h'
    have hGf : G = false := by rw [HG.out]; unfold goodPl; rw [decide_eq_false (show ¬ n ≤ 16 by omega)]; simp
    rw [hGf]
    go_enter Tryz.func20, Tryz.ntmps20
    go_upto_region 1 with fail
    rw [← HW1.out]
    go_wp2_with fail
    go_ret
    exact ⟨rfl, by have := HB.out; exact Base.bel⟩
  · have b1 : decide (n < 1) = false := decide_eq_false (by omega)
    have b2 : decide (16 < n) = false := decide_eq_false (by omega)
    have hGf : G = false := by rw [HG.out]; unfold goodPl; rw [← HR.out]; simp
    rw [hGf]
    go_enter Tryz.func20, Tryz.ntmps20
    go_upto_region 1 with fail
    rw [← HW1.out]
    go_wp2_with (go_at_call 43; (with_reducible refine CK.out.mono ?_); rintro e w2 ⟨rfl, hb2⟩; rw [show errUnless false (errV a) = .iface 222 (.pointer (some a)) from rfl]; have HB2 := Lib.hid hb2; clear hb2)
    go_ret
    exact ⟨rfl, by have := HB.out; have := HB2.out; exact Base.bel⟩
  · have b1 : decide (n < 1) = false := decide_eq_false (by omega)
    have b2 : decide (16 < n) = false := decide_eq_false (by omega)
    have b3 : decide ((0 : Int) < (dr.length : Int)) = true := decide_eq_true (by omega)
    have hGf : G = false := by rw [HG.out]; unfold goodPl; rw [decide_eq_true h3]; simp
    rw [hGf]
    go_enter Tryz.func20, Tryz.ntmps20
    go_upto_region 1 with fail
    rw [← HW1.out]
    go_wp2_with (go_at_call 43; (with_reducible refine CK.out.mono ?_); rintro e w2 ⟨rfl, hb2⟩; rw [show errUnless true (errV a) = .nilIface from rfl]; have K2 := HK1.out.below hb2 HK1.out.lt; have z15 : w2.cell? ⟨w.heap.size, 15, none⟩ = _ := K2.cell 15; have z16 : w2.cell? ⟨w.heap.size, 16, none⟩ = _ := K2.cell 16; simp only [List.getElem?_toArray, List.getElem?_cons_succ, List.getElem?_cons_zero] at z15 z16; have HB2 := Lib.hid hb2; clear hb2 K2)
    go_ret
    exact ⟨rfl, by have := HB.out; have := HB2.out; exact Base.bel⟩
  · have b1 : decide (n < 1) = false := decide_eq_false (by omega)
    have b2 : decide (16 < n) = false := decide_eq_false (by omega)
    have b3 : all = true → ¬ 0 < dr.length := fun e => by
      rcases h3 with h3 | ⟨_, h3⟩
      · rw [h3] at e; cases e
      · omega
    have HG2 : Hid (G = (dr.all (inF n) && S.all fun l => decide (l.term.size ≤ 64))) := Lib.hid (by
      rw [HG.out, HS.out]
      unfold goodPl
      rw [decide_eq_true h, decide_eq_true h', ← HR.out]
      rcases h3 with h3 | ⟨_, h3⟩
      · rw [h3]; simp
      · rw [decide_eq_false (show ¬ 0 < dr.length by omega)]; simp)
    clear h3 HG HR
    have GTL := fun w2 HB2 => good_tail hd ks.length A1 A2 A3 A4 c1 c2 c3 c4 all AD cD dr S n G w W1 w2 (Lib.hid (by have := HK1.out; unfold plC; exact this)) HB HS1 HB2 (Lib.hid (by have := AL.out; unfold plC; exact this)) HLO HDR (Lib.hid (by have := HL.out; omega)) HG2
    cases all
    all_goals
      (try replace b3 := b3 rfl)
      go_enter Tryz.func20, Tryz.ntmps20
      refine cast_code (c := .seq ?r0 (.seq ?p1 (tailG 3))) ?e ?_
      case e => exact rfl
      go_upto_region 1 with fail
      rw [← HW1.out]
      go_wp2_with (go_at_call 43; (with_reducible refine CK.out.mono ?_); rintro e w2 ⟨rfl, hb2⟩; rw [show errUnless true (errV a) = .nilIface from rfl]; have K2 := HK1.out.below hb2 HK1.out.lt; have z15 : w2.cell? ⟨w.heap.size, 15, none⟩ = _ := K2.cell 15; have z16 : w2.cell? ⟨w.heap.size, 16, none⟩ = _ := K2.cell 16; simp only [List.getElem?_toArray, List.getElem?_cons_succ, List.getElem?_cons_zero] at z15 z16; have HB2 := Lib.hid hb2; clear hb2 K2)
      exact GTL _ HB2 _ _ _ _ _ _ _ _ _ _ _ _ _ _ _ _ _ _ _ _ _ _ _ _ _ _ _ _ _ _ _ _ _ _ _ _ _ _ _ _ _ _ _ _ _ _ _ _ _ _ _ _ _ _ _ _
end Go.Proofs.YtfpikilhbkeajaaGreatDoor.GoodAny
