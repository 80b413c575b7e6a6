/-
  The reference's Good of a plan.
  What is asked of the arguments, in later worlds.
-/
import Derived.Test.YtfpikilhbkeajaaGreatDoorCPassA
import Derived.Test.YtfpikilhbkeajaaGreatDoorRefGoodP
import Derived.Test.YtfpikilhbkeajaaGreatDoorLawLives
import Derived.Test.YtfpikilhbkeajaaGreatDoorCLaw
set_option linter.unusedVariables false
set_option linter.unusedSimpArgs false
namespace Go.Proofs.YtfpikilhbkeajaaGreatDoor.RefGoodPl
set_option maxRecDepth 100000
open Go.RowKit Go.PlainAid Base Query QrySize EmitPlain EmitBase EmitExt LeafMap AllLeaves HitBase TabMem TextPlain GoodPl PassPlain RefGoodP RefShort

def lfB (n : Int) (l : Lf) : Bool := inF n l && sm l
theorem gp_good {n : Int} {q : Qry} {all : Bool} {dr : List Lf} (h1 : 1 ≤ n) (h2 : n ≤ 16) (hg : good n true q = true) (hs : shQ q = true) (ha : (all && decide (0 < dr.length)) = false) : goodPl n q all dr = dr.all (lfB n) := by
  have e : (leafs q).all (fun l => decide (l.term.size ≤ 64)) = true := by rw [← hs, shQ_leafs q hg]; rfl
  unfold goodPl
  rw [decide_eq_true h1, decide_eq_true h2, hg, ha, List.all_append, e]
  simp only [Bool.not_false, Bool.true_and]
  rw [Bool.eq_iff_iff]
  simp only [Bool.and_eq_true, List.all_eq_true, lfB, sm]
  exact ⟨fun h l hl => ⟨h.1 l hl, h.2 l hl⟩, fun h => ⟨fun l hl => (h l hl).1, fun l hl => (h l hl).2⟩⟩
theorem gp_short {n : Int} {q : Qry} {all : Bool} {dr : List Lf} (hg : good n true q = true) (hs : shQ q = false) : goodPl n q all dr = false := by
  have e : (leafs q).all (fun l => decide (l.term.size ≤ 64)) = false := by rw [← hs, shQ_leafs q hg]; rfl
  unfold goodPl
  rw [List.all_append, e]
  simp
theorem gp_bad {n : Int} {q : Qry} {all : Bool} {dr : List Lf} (hg : good n true q = false) : goodPl n q all dr = false := by
  unfold goodPl
  rw [hg]
  simp
theorem gp_n {n : Int} {q : Qry} {all : Bool} {dr : List Lf} (h : n < 1 ∨ 16 < n) : goodPl n q all dr = false := by
  unfold goodPl
  rcases h with h | h
  · rw [decide_eq_false (show ¬ (1 : Int) ≤ n by omega)]; simp
  · rw [decide_eq_false (show ¬ n ≤ (16 : Int) by omega)]; simp
theorem gp_all {n : Int} {q : Qry} {dr : List Lf} (h : 0 < dr.length) : goodPl n q true dr = false := by
  unfold goodPl
  rw [decide_eq_true h]
  simp

set_option maxHeartbeats 16000000 in
theorem rgoodPl_any (hd : Head) (ks : List Qry) (A1 A2 A3 A4 : Option Addr) (c1 c2 c3 c4 : Nat) (all : Bool) (AD : Option Addr) (cD : Nat) (dr : List Lf) (n : Int) (w : World) (hq : QVal w w.heap.size (qcells hd ks.length A1 A2 A3 A4 c1 c2 c3 c4).toList (.mk hd ks)) (sd : Slc w w.heap.size AD (lfCs dr)) (hdl : dr.length ≤ 1073741824) :
    Calls Tryz.prog 15 #[.agg (plC hd ks.length A1 A2 A3 A4 c1 c2 c3 c4 all AD dr.length cD), .int .i64 n] w fun e w' => e = .returned (.bool (goodPl n (.mk hd ks) all dr)) ∧ Below w.heap.size w w' := by
  obtain ⟨PB, hPB⟩ : ∃ b, b = w.heap.size := ⟨_, rfl⟩
  obtain ⟨C0, hC⟩ : ∃ C, C = plC hd ks.length A1 A2 A3 A4 c1 c2 c3 c4 all AD dr.length cD := ⟨_, rfl⟩
  obtain ⟨W1, hW1⟩ : ∃ W, W = w.alloc (.cells C0 32) := ⟨_, rfl⟩
  have b1 : Below w.heap.size w W1 := by rw [hW1]; exact Base.bel
  have KP : Blk W1 PB 32 C0 := by rw [hW1, hPB]; exact Blk.new w _ _
  have CK := Lib.hid (show ∀ W, Below w.heap.size w W → _ from fun W hb => by
    have := rcheck_any (.mk hd ks) (qcells hd ks.length A1 A2 A3 A4 c1 c2 c3 c4).toList w.heap.size n W (hq.kept hb (Nat.le_refl _)) hb.size
    rw [Array.toArray_toList] at this
    unfold qcells at this
    exact this)
  have SH := Lib.hid (show ∀ W, Below w.heap.size w W → _ from fun W hb => by
    have := rshort_any (.mk hd ks) (qcells hd ks.length A1 A2 A3 A4 c1 c2 c3 c4).toList w.heap.size W (hq.kept hb (Nat.le_refl _)) hb.size
    rw [Array.toArray_toList] at this
    unfold qcells at this
    exact this)
  obtain ⟨q, hqq⟩ : ∃ q, q = Qry.mk hd ks := ⟨_, rfl⟩
  rw [← hqq] at CK SH ⊢
  obtain ⟨g0, hg0⟩ : ∃ b, b = good n true q := ⟨_, rfl⟩
  obtain ⟨s0, hs0⟩ : ∃ b, b = shQ q := ⟨_, rfl⟩
  rw [← hg0] at CK
  rw [← hs0] at SH
  unfold plC at hC
  rw [hC] at KP hW1
  have PW := Lib.hid (show ∀ W, Below W1.heap.size W1 W → _ from fun W hW => plcs (KP.below hW KP.lt))
  have HPB := Lib.hid hPB
  have HW1 := Lib.hid hW1
  have HB1 := Lib.hid b1
  have HSD := Lib.hid sd
  have HG := Lib.hid hg0.symm
  have HS := Lib.hid hs0.symm
  obtain ⟨y0, y1, y2, y3, y4, y5, y6, y7, y8, y9, y10, y11, y12, y13, y14, y15, y16⟩ := PW.out W1 (Below.refl _ _)
  obtain ⟨nd, hnd⟩ : ∃ k, k = dr.length := ⟨_, rfl⟩
  have HND := Lib.hid hnd
  rw [← hnd] at PW y16 hdl HW1
  clear hPB hC hW1 b1 KP hq sd hqq hg0 hs0
  unfold plC
  rw [← hnd]
  clear hnd
  rcases (by omega : (n < 1 ∨ (1 ≤ n ∧ 16 < n)) ∨ (1 ≤ n ∧ n ≤ 16)) with (h | ⟨h, h2⟩) | ⟨h, h2⟩
  · rw [gp_n (.inl h)]
    have d1 : decide (n < 1) = true := decide_eq_true h
    go_enter Tryz.func15, Tryz.ntmps15
    go_upto_region 1 with fail
    rw [← HPB.out, ← HW1.out]
    go_wp2_with fail
    go_ret
    exact ⟨rfl, HB1.out⟩
  · rw [gp_n (.inr h2)]
    have d1 : decide (n < 1) = false := decide_eq_false (by omega)
    have d2 : decide ((16 : Int) < n) = true := decide_eq_true h2
    go_enter Tryz.func15, Tryz.ntmps15
    go_upto_region 1 with fail
    rw [← HPB.out, ← HW1.out]
    go_wp2_with fail
    go_ret
    exact ⟨rfl, HB1.out⟩
  · have d1 : decide (n < 1) = false := decide_eq_false (by omega)
    have d2 : decide ((16 : Int) < n) = false := decide_eq_false (by omega)
    have CW := Lib.hid (CK.out W1 HB1.out)
    cases g0 with
    | false =>
      rw [gp_bad HG.out]
      go_enter Tryz.func15, Tryz.ntmps15
      go_upto_region 1 with fail
      rw [← HPB.out, ← HW1.out]
      go_wp2_with (go_at_call 34; (with_reducible refine CW.out.mono ?_); rintro e w2 ⟨rfl, hb2⟩; have HB2 := Lib.hid hb2; clear hb2)
      go_ret
      exact ⟨rfl, HB1.out.trans (HB2.out.mono HB1.out.size)⟩
    | true =>
      cases s0 with
      | false =>
        rw [gp_short HG.out HS.out]
        go_enter Tryz.func15, Tryz.ntmps15
        go_upto_region 1 with fail
        rw [← HPB.out, ← HW1.out]
        go_wp2_with (first | (go_at_call 34; (with_reducible refine CW.out.mono ?_); rintro e w2 ⟨rfl, hb2⟩; have bw2 := HB1.out.trans (hb2.mono HB1.out.size); have S2 := Lib.hid (SH.out w2 bw2); obtain ⟨q0, q1, q2, q3, q4, q5, q6, q7, q8, q9, q10, q11, q12, q13, q14, _, _⟩ := PW.out w2 hb2; have HB2 := Lib.hid bw2; clear hb2 bw2) | (go_at_call 35; (with_reducible refine S2.out.mono ?_); rintro e w3 ⟨rfl, hb3⟩; have HB3 := Lib.hid hb3; clear hb3))
        go_ret
        exact ⟨rfl, HB2.out.trans (HB3.out.mono HB2.out.size)⟩
      | true =>
        rcases (by cases all <;> simp <;> omega : (all = true ∧ 0 < nd) ∨ (all = true ∧ nd = 0) ∨ all = false) with ⟨rfl, hp⟩ | hrest
        · rw [gp_all (by rw [← HND.out]; exact hp)]
          have d3 : decide ((0 : Int) < (nd : Int)) = true := decide_eq_true (by omega)
          go_enter Tryz.func15, Tryz.ntmps15
          go_upto_region 1 with fail
          rw [← HPB.out, ← HW1.out]
          go_wp2_with (first | (go_at_call 34; (with_reducible refine CW.out.mono ?_); rintro e w2 ⟨rfl, hb2⟩; have bw2 := HB1.out.trans (hb2.mono HB1.out.size); have S2 := Lib.hid (SH.out w2 bw2); obtain ⟨q0, q1, q2, q3, q4, q5, q6, q7, q8, q9, q10, q11, q12, q13, q14, _, _⟩ := PW.out w2 hb2; have HB2 := Lib.hid bw2; have HC2 := Lib.hid hb2; clear hb2 bw2) | (go_at_call 35; (with_reducible refine S2.out.mono ?_); rintro e w3 ⟨rfl, hb3⟩; have HB3 := Lib.hid hb3; obtain ⟨_, _, _, _, _, _, _, _, _, _, _, _, _, _, _, z15, z16⟩ := PW.out w3 (bchain HC2.out hb3); clear hb3))
          go_ret
          exact ⟨rfl, HB2.out.trans (HB3.out.mono HB2.out.size)⟩
        · rw [gp_good h h2 HG.out HS.out (by rw [← HND.out]; rcases hrest with ⟨rfl, e⟩ | rfl <;> simp; omega)]
          have key : ∀ b : Bool, (b = true → nd = 0) → b = all → Calls Tryz.prog 15 #[.agg #[.int .i64 hd.kind, .int .i64 hd.field, .string hd.text, .slice A1 hd.terms.length c1, .slice A2 hd.offs.length c2, .int .i64 hd.n, .int .u64 hd.weight, .bool hd.lo.op, .bool hd.lo.inn, .string hd.lo.text, .bool hd.hi.op, .bool hd.hi.inn, .string hd.hi.text, .slice A3 hd.occur.length c3, .slice A4 ks.length c4, .bool all, .slice AD nd cD], .int .i64 n] w fun e w' => e = .returned (.bool (dr.all (lfB n))) ∧ Below w.heap.size w w' := by
            intro b hb0 eb
            subst eb
            have d3 : decide ((0 : Int) < (nd : Int)) = decide (0 < nd) := by rw [decide_eq_decide]; omega
            have HT := Lib.hid hb0
            clear hb0 hrest
            cases b
            all_goals
              have hz := HT.out
              try (have d4 : decide (0 < nd) = false := decide_eq_false (by have := hz rfl; omega))
              clear hz
              go_enter Tryz.func15, Tryz.ntmps15
              go_upto_region 1 with fail
              rw [← HPB.out, ← HW1.out]
              go_wp2_with (first | (go_at_call 34; (with_reducible refine CW.out.mono ?_); rintro e w2 ⟨rfl, hb2⟩; have bw2 := HB1.out.trans (hb2.mono HB1.out.size); have S2 := Lib.hid (SH.out w2 bw2); obtain ⟨q0, q1, q2, q3, q4, q5, q6, q7, q8, q9, q10, q11, q12, q13, q14, _, _⟩ := PW.out w2 hb2; have HB2 := Lib.hid bw2; have HC2 := Lib.hid hb2; clear hb2 bw2) | (go_at_call 35; (with_reducible refine S2.out.mono ?_); rintro e w3 ⟨rfl, hb3⟩; have HB3 := Lib.hid (HB2.out.trans (hb3.mono HB2.out.size)); obtain ⟨_, _, _, _, _, _, _, _, _, _, _, _, _, _, _, z15, z16⟩ := PW.out w3 (bchain HC2.out hb3); clear hb3))
              go_loopw [37] (fun i wr => ∃ k : Nat, k ≤ nd ∧ i = .int .i64 k ∧ (dr.take k).all (lfB n) = true ∧ Below w.heap.size w wr) (fun i _ => nd - (intOf i).toNat)
              case atStart => exact ⟨0, Nat.zero_le _, rfl, by simp, HB3.out⟩
              case round =>
                obtain ⟨k, hk, rfl, hall, hb⟩ := hrel
                have HBR := Lib.hid hb
                have HA := Lib.hid hall
                clear hall
                rcases Nat.lt_or_ge k nd with hlt | hge
                · obtain ⟨l, hl⟩ : ∃ c, dr[k]? = some c := ⟨_, List.getElem?_eq_getElem (by rw [← HND.out]; exact hlt)⟩
                  obtain ⟨g1, o1, e1, hg1, hc1⟩ := HSD.out (by intro e; have := lfCs_len dr; rw [e] at this; have h3 := HND.out; simp only [List.length_nil] at this; omega)
                  subst e1
                  obtain ⟨e0, e1⟩ := lfCs_at dr k l hl
                  have x0 : wr.cell? ⟨g1, o1 + k * 2, none⟩ = some (.int .i64 l.field) := (hb.cell (p := ⟨g1, o1 + k * 2, none⟩) hg1).trans (hc1 _ _ e0)
                  have x1 : wr.cell? ⟨g1, o1 + k * 2 + 1, none⟩ = some (.string l.term) := (hb.cell (p := ⟨g1, o1 + k * 2 + 1, none⟩) hg1).trans (hc1 _ _ e1)
                  have i1 : (k : Int) < (nd : Int) := by omega
                  have i3 : (k : Int) < 9223372036854775807 := by omega
                  have HST := Lib.hid (all_step (P := lfB n) hl)
                  have HBD := Lib.hid (fun h => all_bad (P := lfB n) (List.mem_of_getElem? hl) h)
                  clear hl hc1 hb e0 e1
                  rcases (by omega : l.field < 0 ∨ (0 ≤ l.field ∧ n ≤ l.field) ∨ (0 ≤ l.field ∧ l.field < n ∧ 64 < l.term.size) ∨ (0 ≤ l.field ∧ l.field < n ∧ l.term.size ≤ 64)) with h3 | ⟨h3, h4⟩ | ⟨h3, h4, h5⟩ | ⟨h3, h4, h5⟩
                  · have f1 : decide (l.field < 0) = true := decide_eq_true h3
                    have hbad := HBD.out (by unfold lfB inF; rw [decide_eq_false (show ¬ (0 : Int) ≤ l.field by omega)]; rfl)
                    have HBAD := Lib.hid hbad
                    clear hbad
                    go_wp2_with fail
                    go_ret
                    exact ⟨by rw [HBAD.out] <;> rfl, by have := HBR.out; exact Base.bel⟩
                  · have f1 : decide (l.field < 0) = false := decide_eq_false (by omega)
                    have f2 : decide (n ≤ l.field) = true := decide_eq_true h4
                    have hbad := HBD.out (by unfold lfB inF; rw [decide_eq_false (show ¬ l.field < n by omega)]; simp)
                    have HBAD := Lib.hid hbad
                    clear hbad
                    go_wp2_with fail
                    go_ret
                    exact ⟨by rw [HBAD.out] <;> rfl, by have := HBR.out; exact Base.bel⟩
                  · have f1 : decide (l.field < 0) = false := decide_eq_false (by omega)
                    have f2 : decide (n ≤ l.field) = false := decide_eq_false (by omega)
                    have f3 : decide ((64 : Int) < l.term.size) = true := decide_eq_true (by omega)
                    have hbad := HBD.out (by unfold lfB sm; rw [decide_eq_false (show ¬ l.term.size ≤ 64 by omega)]; simp)
                    have HBAD := Lib.hid hbad
                    clear hbad
                    go_wp2_with fail
                    go_ret
                    exact ⟨by rw [HBAD.out] <;> rfl, by have := HBR.out; exact Base.bel⟩
                  · have f1 : decide (l.field < 0) = false := decide_eq_false (by omega)
                    have f2 : decide (n ≤ l.field) = false := decide_eq_false (by omega)
                    have f3 : decide ((64 : Int) < l.term.size) = false := decide_eq_false (by omega)
                    have HOK := Lib.hid (show lfB n l = true by unfold lfB inF sm; rw [decide_eq_true h3, decide_eq_true h4, decide_eq_true h5]; rfl)
                    go_wp2_with fail
                    go_roundw
                    case rel => exact ⟨k + 1, by omega, by go_num, by rw [HST.out, HA.out, HOK.out]; rfl, by have := HBR.out; exact Base.bel⟩
                    case measure => simp [intOf]; omega
                · obtain rfl : k = nd := by omega
                  have hfin := HA.out
                  rw [HND.out, List.take_length] at hfin
                  have HFIN := Lib.hid hfin
                  clear hb hfin
                  go_wp2_with fail
                  go_ret
                  exact ⟨by rw [HFIN.out] <;> rfl, HBR.out⟩
          exact key all (fun e => by rcases hrest with ⟨_, h⟩ | h; exact h; rw [h] at e; cases e) rfl
end Go.Proofs.YtfpikilhbkeajaaGreatDoor.RefGoodPl

namespace Go.Proofs.YtfpikilhbkeajaaGreatDoor.PassesAsk
set_option maxRecDepth 100000
open Go.RowKit Go.PlainAid Base Query QrySize EmitPlain EmitBase EmitQ0 LeafMap AllLeaves EmitExt TabPlain TextPlain GoodLoc GoodPl LawTerms EmitNear HitBase NewMid ProgTail ProgGood ProgBad LawLives Avg Args Encode _root_.Go.Proofs.YtfpikilhbkeajaaGreatDoor.Decode CodePlain RefGoodPl

theorem asked_below {hd : Head} {ks : List Qry} {A1 A2 A3 A4 : Option Addr} {c1 c2 c3 c4 : Nat} {AD : Option Addr} {dr : List Lf} {AS : Option Addr} {sums : List Int} {a a2 : Addr} {w W : World} (H : Asked hd ks A1 A2 A3 A4 c1 c2 c3 c4 AD dr AS sums a a2 w) (hb : Below w.heap.size w W) : Asked hd ks A1 A2 A3 A4 c1 c2 c3 c4 AD dr AS sums a a2 W :=
  ⟨(H.q.kept hb (Nat.le_refl _)).mono hb.size, (H.drv.below hb (Nat.le_refl _)).mono hb.size, H.ok, H.len, (H.sms.below hb (Nat.le_refl _)).mono hb.size, H.slen, H.sfit, H.short, H.size, H.tab.below hb H.tabLt, Nat.lt_of_lt_of_le H.tabLt hb.size, (hb.cell (p := ⟨0, 0, none⟩) H.nodeLt).trans H.node, Nat.lt_of_lt_of_le H.nodeLt hb.size, (hb.cell (p := ⟨16, 0, none⟩) H.codeLt).trans H.code, Nat.lt_of_lt_of_le H.codeLt hb.size⟩
end Go.Proofs.YtfpikilhbkeajaaGreatDoor.PassesAsk
