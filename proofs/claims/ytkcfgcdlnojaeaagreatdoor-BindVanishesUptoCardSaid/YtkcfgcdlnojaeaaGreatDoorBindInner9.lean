/-
  The walk of a binder's bind over a node with kids (kind 9).
-/
import Derived.Test.YtkcfgcdlnojaeaaGreatDoorTreePlain
import Derived.Test.YtkcfgcdlnojaeaaGreatDoorDLeafB
import Derived.Test.YtkcfgcdlnojaeaaGreatDoorDNodT
import Derived.Deep.Cut
import Derived.Deep.RegionLawGrows
import Derived.Deep.AppendLies
set_option linter.unusedVariables false
set_option linter.unusedSimpArgs false
namespace Go.Proofs.YtkcfgcdlnojaeaaGreatDoor.BindInner9
set_option maxRecDepth 100000
open Go.RowKit Go.PlainAid Base Query NodeTree NodeWalk NodePlain BindBase NodeTerm Binder WordPlain OfText WordsOne BindTerm OpenField FieldPlain WordsAny PhraseBase WordsMany LeafBase TreePlain KidRows

theorem u64_fit {n : Int} (h : 0 ≤ n ∧ n ≤ 999999999) : (Lit.int .u64 n).wf = true := by
  show (decide (IntKind.min .u64 ≤ n) && decide (n ≤ IntKind.max .u64)) = true
  rw [decide_eq_true (show IntKind.min .u64 ≤ n from h.1), decide_eq_true (show n ≤ IntKind.max .u64 from by show n ≤ 18446744073709551615; omega)]
  rfl
theorem nil_eq_nil (W : World) : (binOp .neq 144 .nilFunc .nilFunc).run Tryz.prog W = .ok (.bool false) W := by rfl
set_option maxHeartbeats 8000000 in
theorem inner (fs : List Fld) (fn T : ByteArray) (n : Int) (lo hi : Bnd) (occ : List Int) (ks : List Nod) (A1 A2 : Option Addr) (c1 c2 : Nat) (kc : Nat → List Value) (FA : Option Addr) (fl c g B : Nat) (w : World) (hn : fitI n) (hoc : ∀ o ∈ occ, (Lit.int .i64 o).wf = true) (hol : occ.length = ks.length) (hkl : ks.length ≤ 2097152) (hB : B ≤ w.heap.size) (s1 : Slc w B A1 (ints occ))
    (h2 : ks ≠ [] → ∃ g o, A2 = some ⟨g, o, none⟩ ∧ g < B ∧ ∀ i, i < ks.length → ∀ j u, (kc i)[j]? = some u → w.cell? ⟨g, o + i * 12 + j, none⟩ = some u) (h3 : ∀ i k, ks[i]? = some k → NVal w B (kc i) k)
    (hBl : Blk w g 147 (binderC FA fl c))
    (IH : ∀ W, Below w.heap.size w W → ∀ i x, ks[i]? = some x → Calls Tryz.prog 50 #[.pointer (some ⟨g, 0, none⟩), .agg (kc i).toArray] W (IsQ (bindT fs x).1 (bindT fs x).2 W)) :
    Calls Tryz.prog 50 #[.pointer (some ⟨g, 0, none⟩), .agg (nodeV 9 fn T n ⟨lo, hi, A1, occ.length, c1, A2, ks.length, c2⟩)] w (IsQ (innerT ⟨9, fn, T, n, lo, hi, occ⟩ (bindTs fs ks)).1 (innerT ⟨9, fn, T, n, lo, hi, occ⟩ (bindTs fs ks)).2 w) := by
  obtain ⟨W1, hW1⟩ : ∃ W, W = (w.alloc (.cells (nodeV 9 fn T n ⟨lo, hi, A1, occ.length, c1, A2, ks.length, c2⟩) 39)).alloc (.cells (bareQ 0 0 ⟨#[]⟩) 29) := ⟨_, rfl⟩
  have KN : Blk W1 w.heap.size 39 (nodeV 9 fn T n ⟨lo, hi, A1, occ.length, c1, A2, ks.length, c2⟩) := by rw [hW1]; exact (Blk.new w _ _).alloc _
  have KR : Blk W1 (w.heap.size + 1) 29 (bareQ 0 0 ⟨#[]⟩) := by
    rw [hW1]
    have := Blk.new (w.alloc (.cells (nodeV 9 fn T n ⟨lo, hi, A1, occ.length, c1, A2, ks.length, c2⟩) 39)) 29 (bareQ 0 0 ⟨#[]⟩)
    rwa [World.size_alloc] at this
  have hbW : Below w.heap.size w W1 := by rw [hW1]; exact Base.bel
  have hsz : w.heap.size + 2 = W1.heap.size := by rw [hW1]; simp
  have k0 : W1.cell? ⟨w.heap.size, 0, none⟩ = some (.int .i64 9) := KN.cell 0
  have kb : W1.cell? ⟨g, 10, none⟩ = some .nilFunc := by
    rw [(hBl.below hbW hBl.lt).cell]
    rfl
  have HZ := Lib.hid hsz
  have hnn := nil_eq_nil
  have HBIN := Lib.hid (hBl.below hbW hBl.lt)
  unfold nodeV bareQ at hW1
  have HW2 := Lib.hid hW1
  unfold nodeV at KN ⊢
  simp only at KN
  unfold bareQ at KR
  rw [hW1] at k0 kb
  simp only at k0 kb
  obtain ⟨rs, hrs⟩ : ∃ r, r = innerT ⟨9, fn, T, n, lo, hi, occ⟩ (bindTs fs ks) := ⟨_, rfl⟩
  rw [← hrs]
  have HRS := Lib.hid hrs
  have S1 := Lib.hid s1
  have H2 := Lib.hid h2
  have H3 := Lib.hid h3
  have IH := Lib.hid IH
  have HN := Lib.hid hn
  have HOC := Lib.hid hoc
  have HOL := Lib.hid hol
  clear hW1 hsz hrs s1 h2 h3 hn hoc hBl hol
  simp only
  go_enter Tryz.func50, Tryz.ntmps50
  go_upto_region 3 with fail
  go_quiet (fail)
  go_upto_region 11 with fail
  have hb10 : Below W1.heap.size W1 (W1.drewN nq) := bdrewN (Below.refl _ _) _
  rw [← HW2.out]
  generalize (W1.drewN nq) = wS at hb10 ⊢
  have KN := KN.below hb10 (by have := HZ.out; omega)
  have KR := KR.below hb10 (by have := HZ.out; omega)
  have KBI := HBIN.out.below hb10 HBIN.out.lt
  have HBS := Lib.hid (bchain hbW hb10)
  have HSS := Lib.hid (show w.heap.size + 2 ≤ wS.heap.size by have := HZ.out; have := hb10.size; omega)
  clear k0 kb hb10 hbW HBIN HW2 hnn
  go_upto_region 12 with fail
  obtain ⟨W5, hW5⟩ : ∃ W, W = wS.alloc (.cells (kC (.slice none 0 0) (.slice none 0 0)) 29) := ⟨_, rfl⟩
  have HK0 := Kd.start wS
  rw [← hW5] at HK0
  unfold kC at hW5
  rw [← hW5]
  clear hW5
  have n11 : W5.cell? ⟨w.heap.size, 11, none⟩ = some (.slice A2 ks.length c2) := (KN.below (HK0.bel.mono (Nat.le_refl _)) KN.lt).cell 11
  obtain ⟨QS, hQS⟩ : ∃ f : Nat → List Qry, f = fun j => keptQ (bindTs fs (ks.take j)) := ⟨_, rfl⟩
  obtain ⟨OS, hOS⟩ : ∃ f : Nat → List Int, f = fun j => occsOf ⟨9, fn, T, n, lo, hi, occ⟩ (bindTs fs (ks.take j)) := ⟨_, rfl⟩
  have HQS := Lib.hid hQS
  have HOS := Lib.hid hOS
  have q0 : QS 0 = [] := by rw [hQS]; rfl
  have o0 : OS 0 = [] := by rw [hOS]; simp [bindTs, occsOf, keptO]
  have HQ0 := Lib.hid q0
  have HO0 := Lib.hid o0
  have HK0 := Lib.hid HK0
  clear hQS hOS q0 o0
  have OLEN := Lib.hid (True.intro)
  go_wp2_with fail
  go_loopw [61] (fun i wr => ∃ (j : Nat) (css : List (List Value)) (v1 v2 : Value), j ≤ ks.length ∧ i = .int .i64 j ∧ Kd wS wr css (QS j) (OS j) v1 v2) (fun i _ => ks.length - (intOf i).toNat)
  case atStart => exact ⟨0, [], _, _, Nat.zero_le _, rfl, by rw [HQ0.out, HO0.out]; exact HK0.out⟩
  case round =>
    obtain ⟨j, css, v1, v2, hj, rfl, hK⟩ := hrel
    clear n11
    rcases Nat.lt_or_ge j ks.length with hlt | hge
    · obtain ⟨kg, ko, rfl, hkg, hkc⟩ := H2.out (by intro h; subst h; simp at hlt)
      obtain ⟨x, hx1⟩ : ∃ x, ks[j]? = some x := ⟨_, List.getElem?_eq_getElem hlt⟩
      have hlw : w.heap.size ≤ wS.heap.size := by have := HSS.out; omega
      have hbw : Below w.heap.size w wr := HBS.out.trans (hK.bel.mono hlw)
      have hq := (H3.out j x hx1).kept hbw hB
      obtain ⟨B1, B2, d1, d2, e, x0, x1, x2, x3, x4, x5, x6, x7, x8, x9, x10, x11⟩ := nkid_cells hq (fun j' u hu => (hbw.cell (p := ⟨kg, ko + j * 12 + j', none⟩) (Nat.lt_of_lt_of_le hkg hB)).trans (hkc j hlt j' u hu))
      have IH2 := Lib.hid (fun W hW => IH.out W hW j x hx1)
      rw [e] at IH2
      unfold ncells at IH2
      have hlt2 : (j : Int) < 9223372036854775807 := by omega
      have i2 : (j : Int) < (ks.length : Int) := by omega
      have HQL := Lib.hid (show (QS j).length ≤ 2097152 by rw [HQS.out]; exact Nat.le_trans (kept_len fs ks j) hkl)
      have HOLN := Lib.hid (show (OS j).length ≤ 2097152 by rw [HOS.out]; exact Nat.le_trans (occs_len fs ⟨9, fn, T, n, lo, hi, occ⟩ ks j) hkl)
      obtain ⟨pq, hpq⟩ : ∃ q, q = (bindT fs x).1 := ⟨_, rfl⟩
      obtain ⟨pb, hpb⟩ : ∃ b, b = (bindT fs x).2 := ⟨_, rfl⟩
      rw [← hpq, ← hpb] at IH2
      have HQY := Lib.hid (fun (h : pb = true) => (by rw [HQS.out, hpq]; exact kept_yes hx1 (hpb.symm.trans h) : QS (j + 1) = QS j ++ [pq]))
      have HQN := Lib.hid (fun (h : pb = false) => (by rw [HQS.out]; exact kept_no hx1 (hpb.symm.trans h) : QS (j + 1) = QS j))
      have HOY := Lib.hid (fun (h : pb = true) => (by rw [HOS.out]; exact (occs_yes ⟨by simp only; omega, by simp only; omega⟩ hx1 (hpb.symm.trans h)) : OS (j + 1) = OS j ++ [occOf ⟨9, fn, T, n, lo, hi, occ⟩ j]))
      have HON := Lib.hid (fun (h : pb = false) => (by rw [HOS.out]; exact occs_no hx1 (hpb.symm.trans h) : OS (j + 1) = OS j))
      have HBW := Lib.hid hbw
      have HKd := Lib.hid hK
      have KNr := KN.below hK.bel KN.lt
      clear hkc hq e hx1 hbw hpq hpb hK
      obtain ⟨wc, hwc⟩ : ∃ W, W = wr.alloc (.cells #[.int .i64 x.h.kind, .string x.h.field, .string x.h.text, .int .i64 x.h.n, .bool x.h.lo.op, .bool x.h.lo.inn, .string x.h.lo.text, .bool x.h.hi.op, .bool x.h.hi.inn, .string x.h.hi.text, .slice B1 x.h.occur.length d1, .slice B2 x.kids.length d2] 39) := ⟨_, rfl⟩
      have hbc : Below wr.heap.size wr wc := by rw [hwc]; exact Base.bel
      have HBC := Lib.hid hbc
      have KX : Blk wc wr.heap.size 39 #[.int .i64 x.h.kind, .string x.h.field, .string x.h.text, .int .i64 x.h.n, .bool x.h.lo.op, .bool x.h.lo.inn, .string x.h.lo.text, .bool x.h.hi.op, .bool x.h.hi.inn, .string x.h.hi.text, .slice B1 x.h.occur.length d1, .slice B2 x.kids.length d2] := by rw [hwc]; exact Blk.new wr _ _
      have HWC := Lib.hid hwc
      have IH3 := Lib.hid (IH2.out wc (HBW.out.trans (hbc.mono (by have := HBW.out.size; omega))))
      clear hwc hbc IH2
      go_upto_region 15 with fail
      rw [← HWC.out]
      obtain ⟨p0, p1, p2, p3, p4, p5, p6, p7, p8, p9, p10, p11⟩ := nrow KX
      clear x0 x1 x2 x3 x4 x5 x6 x7 x8 x9 x10 x11
      cases pb
      · have HQ' := Lib.hid (HQN.out rfl)
        have HO' := Lib.hid (HON.out rfl)
        clear HQN HON HQY HOY
        go_wp2_with (go_at_call 50; refine IH3.out.mono ?_; rintro e w2 ⟨cs, rfl, hfr, hb2⟩; obtain ⟨qh, qk, Q1, Q2, Q3, Q4, d1, d2, d3, d4, kc', hw', hkl', h1', h2', h3', h4', h5'⟩ := hfr.val; clear h1' h2' h3' h4' h5' hw' hkl' hfr)
        go_roundw
        case rel => exact ⟨j + 1, css, v1, v2, by omega, by go_num, by rw [HQ'.out, HO'.out]; exact HKd.out.below (balloc (bchain HBC.out hb2) _)⟩
        case measure => simp [intOf]; omega
      · have HQ2 := Lib.hid (HQY.out rfl)
        have HO2 := Lib.hid (HOY.out rfl)
        clear HQN HON HQY HOY
        go_upto_region 17 with (go_at_call 50; refine IH3.out.mono ?_; rintro e w2 ⟨cs, rfl, hfr, hb2⟩; obtain ⟨qh, qk, Q1, Q2, Q3, Q4, d1, d2, d3, d4, kc', hw', hkl', h1', h2', h3', h4', h5'⟩ := hfr.val; clear h1' h2' h3' h4' h5' hw' hkl')
        obtain ⟨w4, hw4⟩ : ∃ W, W = w2.alloc (.cells #[.int .i64 qh.kind, .int .i64 qh.field, .string qh.text, .slice Q1 qh.terms.length d1, .slice Q2 qh.offs.length d2, .int .i64 qh.n, .int .u64 qh.weight, .bool qh.lo.op, .bool qh.lo.inn, .string qh.lo.text, .bool qh.hi.op, .bool qh.hi.inn, .string qh.hi.text, .slice Q3 qh.occur.length d3, .slice Q4 qk.length d4] 29) := ⟨_, rfl⟩
        have hb24 : Below w2.heap.size w2 w4 := by rw [hw4]; exact Base.bel
        have KX4 : Blk w4 w2.heap.size 29 #[.int .i64 qh.kind, .int .i64 qh.field, .string qh.text, .slice Q1 qh.terms.length d1, .slice Q2 qh.offs.length d2, .int .i64 qh.n, .int .u64 qh.weight, .bool qh.lo.op, .bool qh.lo.inn, .string qh.lo.text, .bool qh.hi.op, .bool qh.hi.inn, .string qh.hi.text, .slice Q3 qh.occur.length d3, .slice Q4 qk.length d4] := by rw [hw4]; exact Blk.new w2 _ _
        rw [← hw4]
        have hbr4 := bchain HBC.out (bchain hb2 hb24)
        have hK4 := HKd.out.below hbr4
        have hf4 := hfr.below hb24
        have hwc := HBC.out.size
        have hz14 : w4.cell? ⟨wS.heap.size, 14, none⟩ = some v2 := hK4.blk.cell 14
        obtain ⟨V2, u2, rfl⟩ := own_slice hK4.own2
        obtain ⟨xq0, xq1, xq2, xq3, xq4, xq5, xq6, xq7, xq8, xq9, xq10, xq11, xq12, xq13, xq14⟩ := qrow KX4
        have hlt4 := hK4.lt
        have hql := HQL.out
        have HB1 := Lib.hid (fun k hk => Nat.lt_of_lt_of_le (HKd.out.own1.lt k hk).2 hwc)
        have HB2 := Lib.hid (fun k hk => Nat.lt_of_lt_of_le (HKd.out.own2.lt k hk).2 hwc)
        have hlw4 : wS.heap.size + 1 ≤ wc.heap.size := Nat.le_trans HKd.out.lt hwc
        have HF4 := Lib.hid hf4
        have HK4 := Lib.hid hK4
        have HBR := Lib.hid hbr4
        clear hw4 hb24 hfr hK4 hf4 hbr4 KX4 hwc
        unfold kC at *
        go_upto_region 18 with (at_builtin; refine wpList_append1K rfl _ _ rfl qryEl HK4.out.own2 rfl rfl rfl rfl (by omega) (by unfold maxLen; omega) hlt4 ?_; intro gg cap w5 ho hat; have hM := HK4.out.kid HF4.out hlw4 HB1.out HB2.out ho hat; have z14 : w5.frozen? ⟨wS.heap.size, 14, none⟩ = false := hM.blk.frozen 14; have q14 : w5.cell? ⟨wS.heap.size, 14, none⟩ = some (.slice V2 (QS j).length u2) := hM.blk.cell 14; have HM := Lib.hid hM; clear hM ho hat)
        obtain ⟨W6, hW6⟩ : ∃ W, W = w5.setCell ⟨wS.heap.size, 14, none⟩ (.slice (some ⟨gg, 0, none⟩) ((QS j).length + 1) cap) := ⟨_, rfl⟩
        have hK6 := HM.out.put
        rw [← hW6] at hK6 ⊢
        rw [← HQ2.out] at hK6
        clear hW6 HM HK4 HF4 HB1 HB2 HBR hz14 hlt4 hlw4 xq0 xq1 xq2 xq3 xq4 xq5 xq6 xq7 xq8 xq9 xq10 xq11 xq12 xq13 xq14
        obtain ⟨V1, u1, rfl⟩ := own_slice hK6.own1
        have KN6 := KN.below hK6.bel KN.lt
        have n0 : W6.cell? ⟨w.heap.size, 0, none⟩ = some (.int .i64 9) := KN6.cell 0
        have hs6 := hK6.lt
        obtain ⟨oz, hoz⟩ : ∃ z, occ[j]? = some z := ⟨_, List.getElem?_eq_getElem (by have := HOL.out; omega)⟩
        obtain ⟨g3, o3, rfl, hg3, hc3⟩ := S1.out (by intro h; rw [show occ = [] by simpa [ints] using h] at hoz; simp at hoz)
        have n10 : W6.cell? ⟨w.heap.size, 10, none⟩ = some (.slice (some ⟨g3, o3, none⟩) occ.length c1) := KN6.cell 10
        have y3 : W6.cell? ⟨g3, o3 + j, none⟩ = some (.int .i64 oz) := ((HBS.out.trans (hK6.bel.mono hlw)).cell (p := ⟨g3, o3 + j, none⟩) (show g3 < w.heap.size by omega)).trans (hc3 j (.int .i64 oz) (by simp [ints, hoz]))
        have HOO := Lib.hid (show OS (j + 1) = OS j ++ [oz] by rw [HO2.out]; simp [occOf, hoz])
        have i5 : (j : Int) < (occ.length : Int) := by have := HOL.out; omega
        have z13 : W6.cell? ⟨wS.heap.size, 13, none⟩ = some (.slice V1 (OS j).length u1) := hK6.blk.cell 13
        have z13a : ∀ o, (W6.alloc o).cell? ⟨wS.heap.size, 13, none⟩ = some (.slice V1 (OS j).length u1) := fun o => (hK6.blk.alloc o).cell 13
        have hnew : ∀ o, (W6.alloc o).drew.heap[W6.heap.size]? = some o := fun o => heap_alloc_new W6 o
        have o61 := hK6.own1
        have hol := HOLN.out
        obtain ⟨ie1, ⟨ii, ie2, ie3, ie4, ie5⟩, ie6, ie7⟩ := intEl
        have HK6 := Lib.hid hK6
        clear hK6 hc3 hoz KN6
        go_upto_region 20 with fail
        go_region_law ((refine step_append_kept (by rfl) _ _ _ (by rfl) (wS.heap.size + 1) 3 ii _ 1 8 ie1 ie2 ie3 ie4 ie5 ie6 ie7 (.slice V1 (OS j).length u1) (OS j).length _ (by rfl) ((o61.alloc _).drew) ⟨W6.heap.size, 0, none⟩ 1 1 [.int .i64 oz] (by rfl) (by rfl) (World.news_of_block (cs := #[.int .i64 oz]) (t := 3) (fr := (0, 0)) (hnew _)) (by simp [Value.oneCell']) (by omega) (by unfold maxLen; omega) (by omega) (by simp only [World.size_drew, World.size_alloc]; omega) ?_; intro g7 cap7 w7 hown7 hat; have hO := (HK6.out.below (bdrew (balloc (Below.refl _ _) _))).occ hown7 hat; have q13 : w7.cell? ⟨wS.heap.size, 13, none⟩ = some (.slice V1 (OS j).length u1) := hO.blk.cell 13; have y13 : w7.frozen? ⟨wS.heap.size, 13, none⟩ = false := hO.blk.frozen 13))
        all_goals
          have hN := hO.put
          rw [← HOO.out] at hN
          have HN2 := Lib.hid hN
          clear hN hO
          go_wp2_with fail
          go_roundw
          case rel => exact ⟨j + 1, _, _, _, by omega, by go_num, HN2.out⟩
          case measure => simp [intOf]; omega
    · obtain rfl : j = ks.length := by omega
      have HQE := Lib.hid (show QS ks.length = keptQ (bindTs fs ks) by rw [HQS.out]; simp only [List.take_length])
      have HOE := Lib.hid (show OS ks.length = occsOf ⟨9, fn, T, n, lo, hi, occ⟩ (bindTs fs ks) by rw [HOS.out]; simp only [List.take_length])
      have HBE := Lib.hid (show (QS ks.length).length ≤ 2097152 by rw [HQS.out]; exact Nat.le_trans (kept_len fs ks _) hkl)
      have HOBE := Lib.hid (show (OS ks.length).length ≤ 2097152 by rw [HOS.out]; exact Nat.le_trans (occs_len fs ⟨9, fn, T, n, lo, hi, occ⟩ ks _) hkl)
      have HOM := Lib.hid (show ∀ o ∈ OS ks.length, (Lit.int .i64 o).wf = true by rw [HOE.out]; exact occs_wf HOC.out)
      obtain ⟨V1, u1, rfl⟩ := own_slice hK.own1
      obtain ⟨V2, u2, rfl⟩ := own_slice hK.own2
      have hlw : w.heap.size ≤ wS.heap.size := by have := HSS.out; omega
      have HBR := Lib.hid (HBS.out.trans (hK.bel.mono hlw))
      have KNr := KN.below hK.bel KN.lt
      have KRr := KR.below hK.bel KR.lt
      have KQr := hK.blk
      have HKd := Lib.hid hK
      obtain ⟨m0, m1, m2, m3, m4, m5, m6, m7, m8, m9, m10, m11⟩ := nrow KNr
      obtain ⟨z0, z1, z2, z3, z4, z5, z6, z7, z8, z9, z10, z11, z12, z13, z14⟩ := qrow KRr
      obtain ⟨y0, y1, y2, y3, y4, y5, y6, y7, y8, y9, y10, y11, y12, y13, y14⟩ := qfz KRr
      unfold kC at KQr
      obtain ⟨q0, q1, q2, q3, q4, q5, q6, q7, q8, q9, q10, q11, q12, q13, q14⟩ := qrow KQr
      obtain ⟨f0, f1, f2, f3, f4, f5, f6, f7, f8, f9, f10, f11, f12, f13, f14⟩ := qfz KQr
      have hne1 : w.heap.size + 1 ≠ wS.heap.size := by have := HSS.out; omega
      have i2 : ¬ ((ks.length : Int) < (ks.length : Int)) := by omega
      clear hK KNr hj hge
      by_cases h0 : QS ks.length = []
      · have l0 : (((QS ks.length).length : Int) == 0) = true := by rw [h0]; rfl
        have HR := Lib.hid (show rs = (zeroQ, false) by rw [HRS.out]; unfold innerT; rw [if_pos (HQE.out.symm.trans h0)])
        clear h0
        go_wp2_with fail
        refine bodyPost_ret (results_blk (p := 4) (u := 5) (ty := 29) (t := 29) (g := w.heap.size + 1) (cs := bareQ 0 0 ⟨#[]⟩) ?_ ?_ (blk15 KRr) Tryz.underlying29 ?_ ?_) ?_ ?_
        · rfl
        · rfl
        · rfl
        · rw [qInfo]; rfl
        · rfl
        · rw [HR.out]
          exact isq_bare (k := 0) (f := 0) (t := ⟨#[]⟩) rfl rfl (Nat.zero_le _) rfl (below15 HBR.out (by omega))
      · have l0 : (((QS ks.length).length : Int) == 0) = false := beq_eq_false_iff_ne.2 (by have := List.length_pos_iff.2 h0; omega)
        have HR := Lib.hid (show rs = (.mk (innerH ⟨9, fn, T, n, lo, hi, occ⟩ (bindTs fs ks)) (QS ks.length), true) by rw [HRS.out]; unfold innerT; rw [if_neg (by rw [← HQE.out]; exact h0), ← HQE.out])
        have HNE := Lib.hid h0
        clear h0
        go_wp2_with fail
        refine bodyPost_ret (results_blk (p := 4) (u := 5) (ty := 29) (t := 29) (g := w.heap.size + 1) (cs := #[.int .i64 10, .int .i64 0, .string ⟨#[]⟩, .slice none 0 0, .slice none 0 0, .int .i64 n, .int .u64 0, .bool false, .bool false, .string ⟨#[]⟩, .bool false, .bool false, .string ⟨#[]⟩, .slice V1 (OS ks.length).length u1, .slice V2 (QS ks.length).length u2]) ?_ ?_ (blk15 (KRr.far (p := ⟨wS.heap.size, 5, none⟩) hne1 _)) Tryz.underlying29 ?_ ?_) ?_ ?_
        · rfl
        · rfl
        · rfl
        · rw [qInfo]; rfl
        · rfl
        · rw [HR.out]
          have hD := HKd.out.done (hd := innerH ⟨9, fn, T, n, lo, hi, occ⟩ (bindTs fs ks)) (n := wS.heap.size + 1) (Nat.le_refl _) ⟨by rfl, rfl, by exact HN.out, by rfl, (fun _ h => by cases h), (by rw [show (innerH ⟨9, fn, T, n, lo, hi, occ⟩ (bindTs fs ks)).occur = OS ks.length from HOE.out.symm]; exact HOM.out), Nat.zero_le _, (fun _ h => by cases h), Nat.zero_le _, Nat.zero_le _, by rw [show (innerH ⟨9, fn, T, n, lo, hi, occ⟩ (bindTs fs ks)).occur = OS ks.length from HOE.out.symm]; have := HOBE.out; unfold maxLen; omega⟩ (by have := HBE.out; unfold maxLen; omega) rfl rfl HOE.out.symm HNE.out (by rw [HQE.out]; exact kept_nz fs ks)
          skip
          exact ⟨[.int .i64 10, .int .i64 0, .string ⟨#[]⟩, .slice none 0 0, .slice none 0 0, .int .i64 n, .int .u64 0, .bool false, .bool false, .string ⟨#[]⟩, .bool false, .bool false, .string ⟨#[]⟩, .slice V1 (OS ks.length).length u1, .slice V2 (QS ks.length).length u2], rfl, (fresh15 (hD.keep (by simp) (fun k hk _ => Below.heap_setCell _ ⟨wS.heap.size, 5, none⟩ _ k (show k ≠ wS.heap.size by omega))) (by have := HSS.out; omega)).mono (by omega), below15 (HBR.out.setCell (p := ⟨wS.heap.size, 5, none⟩) (show w.heap.size ≤ wS.heap.size by omega) _) (by omega)⟩
end Go.Proofs.YtkcfgcdlnojaeaaGreatDoor.BindInner9
