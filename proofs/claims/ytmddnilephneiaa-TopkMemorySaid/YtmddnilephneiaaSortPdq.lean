/-
  The walk of sort.pdqsort_func where 'less' may make memory.
-/
import Derived.Test.YtmddnilephneiaaSortIns
import Derived.Test.YtmddnilephneiaaSortHeap
import Derived.Test.YtmddnilephneiaaSortPart
import Derived.Test.YtmddnilephneiaaSortPartE
import Derived.Test.YtmddnilephneiaaSortPartial
import Derived.Test.YtmddnilephneiaaSortPivot
import Derived.Test.YtmddnilephneiaaSortLay
namespace Go.Proofs.Ytmddnilephneiaa.SortPdq
open Go.Shelf Go.RowKit Go.Lib Go.Sort Go.PlainAid HitPlain Base HitBase SortBase SortIns SortHeap SortPart SortPartE SortPartial SortPivot SortLay

section
variable {w0 : World} {blk off n g sf : Nat} {lb sb : Array Value} {lt : Hit → Hit → Bool}

theorem foot_world (W : World) (blk off m : Nat) (D : Array Hit) (os : Array Obj) : Foot W (sortWorldK hitC 2 W blk off m D os) (fun g => g ≠ blk) := by
  have hsz : (sortWorldK hitC 2 W blk off m D os).heap.size = W.heap.size + os.size := by
    unfold sortWorldK
    rw [size_grow]
    simp [putRowK, putRow, mapBlock, Sort.ahead]
  refine ⟨rfl, rfl, rfl, by omega, fun k hk hne => ?_⟩
  show ((putRowK hitC 2 (Sort.ahead W m) blk off D).heap ++ os)[k]? = _
  have hs2 : (putRowK hitC 2 (Sort.ahead W m) blk off D).heap.size = W.heap.size := by simp [putRowK, putRow, mapBlock, Sort.ahead]
  rw [Array.getElem?_append_left (by rw [hs2]; exact hk)]
  simp [putRowK, putRow, mapBlock, Sort.ahead, Array.getElem?_modify, Ne.symm hne]

theorem shape_world {w0 W : World} {blk : Nat} (h : Shape w0 W blk) (hlt : blk < W.heap.size) (off m : Nat) (D : Array Hit) (os : Array Obj) : Shape w0 (sortWorldK hitC 2 W blk off m D os) blk := by
  have h1 : Shape w0 (Sort.ahead W m) blk := h
  have h2 : Shape w0 (putRowK hitC 2 (Sort.ahead W m) blk off D) blk := h1.map _ (fun c => by simp [putCells])
  refine h2.same ?_
  show ((putRowK hitC 2 (Sort.ahead W m) blk off D).heap ++ os)[blk]? = _
  have hs2 : (putRowK hitC 2 (Sort.ahead W m) blk off D).heap.size = W.heap.size := by simp [putRowK, putRow, mapBlock, Sort.ahead]
  rw [Array.getElem?_append_left (by rw [hs2]; exact hlt)]

theorem Rw.world {W w' : World} {d D : Array Hit} (h : Rw w0 blk off n W d) (hs : D.size = n) (hw : ∃ m os, w' = sortWorldK hitC 2 W blk off m D os) : SortLeaves w0 blk off n W D w' := by
  obtain ⟨m, os, rfl⟩ := hw
  have hf := foot_world W blk off m D os
  exact ⟨⟨holdsK_sortWorldK hitC 2 W blk off m d D os h.ltW h.holds (hs.trans h.size.symm), hs, h.lt, h.foot.trans hf, shape_world h.shape h.ltW off m D os⟩, hf⟩

set_option maxRecDepth 1000000 in
set_option maxHeartbeats 32000000 in
theorem pdq_any (hO : SWO lt) (L : Ls w0 blk off n g lb sf sb lt) : ∀ (N a b limit : Nat) (d : Array Hit) (W : World), b - a < N → Rw w0 blk off n W d → a ≤ b → b ≤ n → limit < 4611686018427387904 → Go.Sort.Below lt a b d →
    Calls Try.prog 40 #[.agg #[.func (.func g) #[] lb, .func (.func sf) #[] sb], .int .i64 a, .int .i64 b, .int .i64 limit] W fun e w' => e = .returned (.tuple #[]) ∧ SortLeaves w0 blk off n W (pdq lt d a b limit true true) w' := by
  have hbig := L.big
  have eg := L.enter
  intro N
  induction N with
  | zero => intro _ _ _ _ _ h; exact absurd h (Nat.not_lt_zero _)
  | succ N ih =>
    intro a b limit d W hN hR hab hb hlimit hBel0
    have hne : W.heap.size ≠ blk := by have := hR.ltW; omega
    go_enter Try.func40, Try.ntmps40
    go_wp2_with fail
    go_loopw [1, 2, 3, 8, 9] (fun s1 s2 s3 s8 s9 wr => ∃ (a' b' lim : Nat) (wb wp : Bool) (dk : Array Hit), s1 = .int .i64 a' ∧ s2 = .int .i64 b' ∧ s3 = .int .i64 lim ∧ s8 = .bool wb ∧ s9 = .bool wp ∧
      a' ≤ b' ∧ b' ≤ n ∧ b' - a' ≤ b - a ∧ lim ≤ limit ∧ Go.Sort.Below lt a' b' dk ∧ Rw w0 blk off n wr dk ∧ Bx wr W.heap.size g lb sf sb ∧ Foot W wr (fun g => g ≠ blk) ∧ pdq lt dk a' b' lim wb wp = pdq lt d a b limit true true) (fun s1 s2 _ _ _ _ => (intOf s2 - intOf s1).toNat)
    case atStart => exact ⟨a, b, limit, true, true, d, rfl, rfl, rfl, rfl, rfl, hab, hb, Nat.le_refl _, Nat.le_refl _, hBel0, hR.alloc _, Bx.new _ _ _ _ _, (Foot.refl _ _).alloc _, rfl⟩
    case round =>
      obtain ⟨a', b', lim, wb, wp, dk, rfl, rfl, rfl, rfl, rfl, hab', hb', hkN, hlim, hBel, hr, hx, hf, heq⟩ := hrel
      have A := Lib.hid heq
      clear heq hR
      have hds := hr.size
      have x0 := hx.c0
      have x1 := hx.c1
      by_cases h12 : b' - a' ≤ 12
      · have h12z : (b' : Int) - (a' : Int) ≤ 12 := by omega
        have HV : Hid (pdq lt d a b limit true true = insertionSort lt dk a' b') := Lib.hid (by rw [← A.out, pdq_small h12])
        go_wp2_with (go_at_call 53; refine (insertion_any L _ dk hr a' b' hab' hb').mono ?_; rintro e w1 ⟨rfl, hl⟩)
        (try simp only [Exit.inBlock, Exit.then]); refine bodyPost_ret (results_none rfl _ _ _) rfl ?_
        rw [HV.out]
        exact ⟨rfl, hl.1, hf.trans hl.2⟩
      · have h12z : ¬ ((b' : Int) - (a' : Int) ≤ 12) := by omega
        by_cases hl0 : lim = 0
        · have hl0z : ((lim : Int) == 0) = true := by rw [hl0]; rfl
          have HV : Hid (pdq lt d a b limit true true = heapSort lt dk a' b') := Lib.hid (by rw [← A.out, pdq_heap h12 hl0])
          clear hl0
          go_wp2_with (go_at_call 54; refine (heap_any L _ dk hr a' b' (by omega) hb').mono ?_; rintro e w1 ⟨rfl, hl⟩)
          (try simp only [Exit.inBlock, Exit.then]); refine bodyPost_ret (results_none rfl _ _ _) rfl ?_
          rw [HV.out]
          exact ⟨rfl, hl.1, hf.trans hl.2⟩
        · have hl0z : ((lim : Int) == 0) = false := beq_eq_false_iff_ne.2 (by omega)
          obtain ⟨s1, B1, hc1, s2, B2, hpv, s3, B3⟩ := rd_facts (lt := lt) (limit := lim) (wb := wb) (wp := wp) hO partialInsertionSort_holds reverseRange_holds (show a' < b' by omega) (show b' ≤ dk.size by omega) hBel
          have hd1 : (rd lt dk a' b' lim wb wp).d1.size = n := s1.trans hds
          have hd2 : (rd lt dk a' b' lim wb wp).d2.size = n := s2.trans hds
          have hd3 : (rd lt dk a' b' lim wb wp).pi.1.size = n := s3.trans hds
          have hll := rd_lim_le (lt := lt) (d := dk) (a := a') (b := b') (limit := lim) (wb := wb) (wp := wp)
          clear hBel s1 s2 s3
          go_upto_if 35 with fail
          go_cut [3] from 19 to 129 (fun s3 wx => s3 = .int .i64 (rd lt dk a' b' lim wb wp).lim ∧ Rw w0 blk off n wx (rd lt dk a' b' lim wb wp).d1 ∧ Bx wx W.heap.size g lb sf sb ∧ Foot W wx (fun g => g ≠ blk))
          case first =>
            cases wb
            · have hc := Any.breakPatterns_func_cells_w (P := Try.prog) (ρ := ren) { lays with } hitC 2 hitC_len (.func g) #[] lb sf sb blk off a' b' dk wr (by rw [hds]; exact L.swap) hr.holds hr.ltW hab' (by omega) (by omega)
              change Calls Try.prog 55 _ _ _ at hc
              go_wp2_with (go_at_call 55; refine hc.mono ?_; rintro e w1 ⟨rfl, hw1⟩)
              go_meet
              have hl := Rw.world hr hd1 hw1
              refine ⟨?_, hl.1, hx.foot hl.2 hne, hf.trans hl.2⟩
              show Value.int .i64 ((lim : Int) - 1) = Value.int .i64 ((lim - 1 : Nat) : Int)
              congr 1
              omega
            · go_wp2_with fail
              go_meet
              exact ⟨rfl, hr, hx, hf⟩
          case rest =>
            clear hr hx hf x0 x1
            obtain ⟨rfl, hr, hx, hf⟩ := hcut
            have y0 := hx.c0
            have y1 := hx.c1
            have hpc := pivot_any L wc (rd lt dk a' b' lim wb wp).d1 hr a' b' (by omega) hb'
            rw [← rd_c] at hpc
            go_upto_if 50 with (go_at_call 56; refine hpc.mono ?_; rintro e w2 ⟨rfl, hl2⟩)
            have hr2 := hl2.1
            have hx2 := hx.foot hl2.2 hne
            have hf2 := hf.trans hl2.2
            clear hpc hr hx hf y0 y1 hl2
            have z0 := hx2.c0
            have z1 := hx2.c1
            go_cut [11, 12] from 19 to 129 (fun s11 s12 wx => s11 = .int .i64 (rd lt dk a' b' lim wb wp).pivot ∧ s12 = .int .i64 (hintCode (rd lt dk a' b' lim wb wp).hint) ∧ Rw w0 blk off n wx (rd lt dk a' b' lim wb wp).d2 ∧ Bx wx W.heap.size g lb sf sb ∧ Foot W wx (fun g => g ≠ blk))
            case first =>
              by_cases hh : (rd lt dk a' b' lim wb wp).c.2 = .decreasing
              · have hcode : hintCode (rd lt dk a' b' lim wb wp).c.2 = 2 := by rw [hh]; rfl
                obtain ⟨e2, epv, eht⟩ := rd_dec hh
                have hc18 := Any.reverseRange_func_cells_w (P := Try.prog) (ρ := ren) { lays with } hitC 2 hitC_len (.func g) #[] lb sf sb blk off a' b' (rd lt dk a' b' lim wb wp).d1 w2 (by rw [hd1]; exact L.swap) hr2.holds hr2.ltW hab' (by omega) (by omega)
                change Calls Try.prog 57 _ _ _ at hc18
                rw [← e2] at hc18
                have E2 := Lib.hid e2
                have EP := Lib.hid epv
                have EH := Lib.hid eht
                clear e2 epv eht
                go_wp2_with (go_at_call 57; refine hc18.mono ?_; rintro e w3 ⟨rfl, hw3⟩)
                go_meet
                have hl := Rw.world hr2 hd2 hw3
                refine ⟨?_, by rw [EH.out]; rfl, hl.1, hx2.foot hl.2 hne, hf2.trans hl.2⟩
                rw [EP.out]
                congr 1
                omega
              · have hcode : ¬ (hintCode (rd lt dk a' b' lim wb wp).c.2 = 2) := fun h => hh (hintCode_two h)
                obtain ⟨e2, epv, eht⟩ := rd_not hh
                have E2 := Lib.hid e2
                have EP := Lib.hid epv
                have EH := Lib.hid eht
                clear e2 epv eht
                go_wp2_with fail
                go_meet
                exact ⟨by rw [EP.out], by rw [EH.out], by rw [E2.out]; exact hr2, hx2, hf2⟩
            case rest =>
              clear hr2 hx2 hf2 z0 z1
              obtain ⟨rfl, rfl, hr3, hx3, hf3⟩ := hcut
              have v0 := hx3.c0
              have v1 := hx3.c1
              go_upto_region 16 with fail
              go_cut [12, 68] from 19 to 129 (fun s12 s68 wx => s12 = .int .i64 (hintCode (rd lt dk a' b' lim wb wp).hint) ∧ s68 = .bool (wb && wp && decide ((rd lt dk a' b' lim wb wp).hint = .increasing)) ∧ wx = wc)
              case first =>
                cases wb <;> cases wp <;> cases hh3 : (rd lt dk a' b' lim _ _).hint <;>
                  (have hcode3 := congrArg hintCode hh3
                   simp only [hintCode] at hcode3
                   go_wp2_with fail
                   go_meet
                   exact ⟨by simp [hh3, hintCode], by simp [hh3, hintCode], rfl⟩)
              case rest =>
                obtain ⟨rfl, rfl, rfl⟩ := hcut
                go_upto_if 68 with fail
                go_cut [] from 19 to 129 (fun wx => (rd lt dk a' b' lim wb wp).pi.2 = false ∧ Rw w0 blk off n wx (rd lt dk a' b' lim wb wp).pi.1 ∧ Bx wx W.heap.size g lb sf sb ∧ Foot W wx (fun g => g ≠ blk))
                case first =>
                  cases h68 : (wb && wp && decide ((rd lt dk a' b' lim wb wp).hint = .increasing))
                  · have epi := rd_pi_no h68
                    have EPI := Lib.hid epi
                    clear epi
                    go_wp2_with fail
                    go_meet
                    exact ⟨by rw [EPI.out], by rw [EPI.out]; exact hr3, hx3, hf3⟩
                  · have epi := rd_pi_yes h68
                    have hc19 := partial_any L wc (rd lt dk a' b' lim wb wp).d2 hr3 a' b' (by omega) hb'
                    rw [← epi] at hc19
                    clear epi
                    cases h2 : (rd lt dk a' b' lim wb wp).pi.2
                    · rw [h2] at hc19
                      have H2 := Lib.hid h2
                      clear h2
                      go_wp2_with (go_at_call 58; refine hc19.mono ?_; rintro e w4 ⟨rfl, hl4⟩)
                      go_meet
                      exact ⟨H2.out, hl4.1, hx3.foot hl4.2 hne, hf3.trans hl4.2⟩
                    · rw [h2] at hc19
                      have HV : Hid (pdq lt d a b limit true true = (rd lt dk a' b' lim wb wp).pi.1) := Lib.hid (by rw [← A.out, pdq_done h12 hl0 h2])
                      clear h2
                      go_wp2_with (go_at_call 58; refine hc19.mono ?_; rintro e w4 ⟨rfl, hl4⟩)
                      (try simp only [Exit.inBlock, Exit.then]); refine bodyPost_ret (results_none rfl _ _ _) rfl ?_
                      rw [HV.out]
                      exact ⟨rfl, hl4.1, hf3.trans hl4.2⟩
                case rest =>
                  clear hr3 hx3 hf3 v0 v1
                  obtain ⟨hp2, hr5, hx5, hf5⟩ := hcut
                  have HP2 := Lib.hid hp2
                  clear hp2
                  have t0 := hx5.c0
                  have t1 := hx5.c1
                  go_upto_region 18 with fail
                  go_cut [83] from 19 to 129 (fun s83 wx => s83 = .bool (decide (a' > 0) && !lt (rd lt dk a' b' lim wb wp).pi.1[a' - 1]! (rd lt dk a' b' lim wb wp).pi.1[(rd lt dk a' b' lim wb wp).pivot]!) ∧ Rw w0 blk off n wx (rd lt dk a' b' lim wb wp).pi.1 ∧ Bx wx W.heap.size g lb sf sb ∧ Foot W wx (fun g => g ≠ blk))
                  case first =>
                    rcases Nat.eq_zero_or_pos a' with ha0 | ha0
                    · have ha0z : decide ((a' : Int) > 0) = false := decide_eq_false (by omega)
                      have ha1z : decide (0 < a') = false := decide_eq_false (by omega)
                      have ha2z : (a' : Int) ≤ 0 := by omega
                      have ha3z : ¬ 0 < a' := by omega
                      have HA0 := Lib.hid ha0
                      clear ha0
                      go_wp2_with fail
                      go_meet
                      exact ⟨by simp [HA0.out], hr5, hx5, hf5⟩
                    · have ha0z : (a' : Int) > 0 := by omega
                      cases hlv : lt (rd lt dk a' b' lim wb wp).pi.1[a' - 1]! (rd lt dk a' b' lim wb wp).pi.1[(rd lt dk a' b' lim wb wp).pivot]!
                      all_goals
                        have HLV := Lib.hid hlv
                        clear hlv
                        have hl := L.at_ hr5 (i := a' - 1) (j := (rd lt dk a' b' lim wb wp).pivot) (x := (a' : Int) - 1) (y := ((rd lt dk a' b' lim wb wp).pivot : Int)) (by omega) (by omega) (by omega) rfl HLV.out
                        go_wp2_with (go_at_fn g; refine hl.mono ?_; rintro e w' ⟨rfl, hb6⟩)
                        go_meet
                        exact ⟨by simp [ha0, HLV.out], hr5.below hb6, hx5.below hb6, hf5.trans (Foot.ofBelow hb6 _)⟩
                  case rest =>
                    clear hr5 hx5 hf5 t0 t1
                    obtain ⟨rfl, hr6, hx6, hf6⟩ := hcut
                    have q0 := hx6.c0
                    have q1 := hx6.c1
                    cases h87 : (decide (a' > 0) && !lt (rd lt dk a' b' lim wb wp).pi.1[a' - 1]! (rd lt dk a' b' lim wb wp).pi.1[(rd lt dk a' b' lim wb wp).pivot]!)
                    · obtain ⟨mid, ap, d4, hX⟩ : ∃ mid ap d4, partition lt (rd lt dk a' b' lim wb wp).pi.1 a' b' (rd lt dk a' b' lim wb wp).pivot = (mid, ap, d4) := ⟨_, _, _, rfl⟩
                      obtain ⟨r1, r2, r3, r4, r5, r6, r7⟩ := round_part hO (partition_holds lt) hpv.1 hpv.2 (show b' ≤ (rd lt dk a' b' lim wb wp).pi.1.size by omega) B3 hX
                      have hc22 := part_any L wc (rd lt dk a' b' lim wb wp).pi.1 hr6 a' b' (rd lt dk a' b' lim wb wp).pivot hpv.1 hpv.2 hb'
                      rw [hX] at hc22
                      have X := Lib.hid hX
                      have H87 := Lib.hid h87
                      clear hX
                      go_upto_if 109 with (go_at_call 60; refine hc22.mono ?_; rintro e w7 ⟨rfl, hl7⟩)
                      have hr7 := hl7.1
                      have hx7 := hx6.foot hl7.2 hne
                      have hf7 := hf6.trans hl7.2
                      clear hc22 hr6 hx6 hf6 q0 q1
                      have p0 := hx7.c0
                      have p1 := hx7.c1
                      have hs4 := hr7.size
                      by_cases h4 : mid - a' < b' - mid
                      · have h4z : (mid : Int) - (a' : Int) < (b' : Int) - (mid : Int) := by omega
                        have hih := ih a' mid (rd lt dk a' b' lim wb wp).lim d4 w7 (by omega) hr7 (by omega) (by omega) (Nat.lt_of_le_of_lt (Nat.le_trans hll hlim) hlimit) r4
                        obtain ⟨pL, sL⟩ := pdq_sorts lt hO d4 a' mid (rd lt dk a' b' lim wb wp).lim true true (by omega) (by omega) r4
                        go_wp2_with (go_at_call 40; refine hih.mono ?_; rintro e w8 ⟨rfl, hl8⟩)
                        go_roundw
                        case rel =>
                          have hX := X.out
                          refine ⟨mid + 1, b', (rd lt dk a' b' lim wb wp).lim, decide (mid - a' ≥ (b' - a') / 8), ap, pdq lt d4 a' mid (rd lt dk a' b' lim wb wp).lim true true, by simp, rfl, rfl, ?_, rfl, by omega, by omega, by omega, Nat.le_trans hll hlim, (r6 _ pL sL).1, hl8.1, hx7.foot hl8.2 hne, hf7.trans hl8.2, ?_⟩
                          · exact congrArg Value.bool (eighth (by omega) (by omega))
                          · rw [← A.out, pdq_left h12 hl0 HP2.out H87.out (by rw [hX]; exact ⟨r1, r2⟩) (by rw [hX]; exact h4), hX]
                        case measure => simp [intOf]; omega
                      · have h4z : ¬ ((mid : Int) - (a' : Int) < (b' : Int) - (mid : Int)) := by omega
                        have hih := ih (mid + 1) b' (rd lt dk a' b' lim wb wp).lim d4 w7 (by omega) hr7 (by omega) (by omega) (Nat.lt_of_le_of_lt (Nat.le_trans hll hlim) hlimit) r5
                        rw [show ((mid + 1 : Nat) : Int) = (mid : Int) + 1 by omega] at hih
                        obtain ⟨pL, sL⟩ := pdq_sorts lt hO d4 (mid + 1) b' (rd lt dk a' b' lim wb wp).lim true true (by omega) (by omega) r5
                        go_wp2_with (go_at_call 40; refine hih.mono ?_; rintro e w8 ⟨rfl, hl8⟩)
                        go_roundw
                        case rel =>
                          have hX := X.out
                          refine ⟨a', mid, (rd lt dk a' b' lim wb wp).lim, decide (b' - mid ≥ (b' - a') / 8), ap, pdq lt d4 (mid + 1) b' (rd lt dk a' b' lim wb wp).lim true true, rfl, rfl, rfl, ?_, rfl, by omega, by omega, by omega, Nat.le_trans hll hlim, (r7 _ pL sL).1, hl8.1, hx7.foot hl8.2 hne, hf7.trans hl8.2, ?_⟩
                          · exact congrArg Value.bool (eighth (by omega) (by omega))
                          · rw [← A.out, pdq_right h12 hl0 HP2.out H87.out (by rw [hX]; exact ⟨r1, r2⟩) (by rw [hX]; exact h4), hX]
                        case measure => simp [intOf]; omega
                    · have h87' := h87
                      simp only [Bool.and_eq_true, decide_eq_true_eq, Bool.not_eq_true'] at h87'
                      obtain ⟨mid, d4, hX⟩ : ∃ mid d4, partitionEqual lt (rd lt dk a' b' lim wb wp).pi.1 a' b' (rd lt dk a' b' lim wb wp).pivot = (mid, d4) := ⟨_, _, rfl⟩
                      obtain ⟨r1, r2, r3, r4, _⟩ := round_eq hO (partitionEqual_holds lt) h87'.1 hpv.1 hpv.2 (show b' ≤ (rd lt dk a' b' lim wb wp).pi.1.size by omega) B3 h87'.2 hX
                      have hc21 := partEq_any L wc (rd lt dk a' b' lim wb wp).pi.1 hr6 a' b' (rd lt dk a' b' lim wb wp).pivot hpv.1 hpv.2 hb'
                      rw [hX] at hc21
                      have X := Lib.hid hX
                      have H87 := Lib.hid h87
                      clear hX h87'
                      go_wp2_with (go_at_call 59; refine hc21.mono ?_; rintro e w7 ⟨rfl, hl7⟩)
                      go_roundw
                      case rel =>
                        have hX := X.out
                        exact ⟨mid, b', (rd lt dk a' b' lim wb wp).lim, wb, wp, d4, rfl, rfl, rfl, rfl, rfl, r2, hb', by omega, Nat.le_trans hll hlim, r4, hl7.1, hx6.foot hl7.2 hne, hf6.trans hl7.2, by rw [← A.out, pdq_eq h12 hl0 HP2.out H87.out (by rw [hX]; exact ⟨r1, r2⟩), hX]⟩
                      case measure => simp [intOf]; omega
end
end Go.Proofs.Ytmddnilephneiaa.SortPdq
