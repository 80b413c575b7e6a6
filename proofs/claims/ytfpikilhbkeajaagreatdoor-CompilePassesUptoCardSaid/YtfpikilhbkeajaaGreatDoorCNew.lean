/-
  newTables from the sort on.
  newTables' leaves gathered.
-/
import Derived.Test.YtfpikilhbkeajaaGreatDoorCTab
import Derived.Test.YtfpikilhbkeajaaGreatDoorDrive
import Derived.Test.YtfpikilhbkeajaaGreatDoorCGood
set_option linter.unusedVariables false
set_option linter.unusedSimpArgs false
namespace Go.Proofs.YtfpikilhbkeajaaGreatDoor.NewEnd
set_option maxRecDepth 100000
open Go.RowKit Go.PlainAid Base Query QrySize EmitPlain EmitBase EmitPut LeafMap EmitNear EmitQ0 EmitExt AllLeaves LeafRange HitBase TabMem TabPlain Drive GoodPl BindBase

def tabC (av cu : Value) (all : Bool) (dr : Value) (mb : Nat) : Array Value := #[av, cu, .slice none 0 0, .bool all, dr, .slice none 0 0, .map (some mb)]
noncomputable def tailN (k : Nat) : Code := ((Tryz.f21.body).bind (fromR k)).getD .skip
def IsTabs (w : World) (L dr : List Lf) (avgs : List Int) (all : Bool) (e : Ending) (w' : World) : Prop := ∃ AA cA AC cC AV cV mb nm C, e = .returned (.agg (tabC (.slice AA avgs.length cA) (.slice AC C.length cC) all (.slice AV (driveL (numOf C) dr).length cV) mb)) ∧
  Ris C ∧ (∀ l, l ∈ C ↔ l ∈ L) ∧ Slc w' w'.heap.size AA (ints avgs) ∧ Slc w' w'.heap.size AC (lfCs C) ∧ Slc w' w'.heap.size AV (ints (driveL (numOf C) dr)) ∧ IsNum w' mb nm (numOf C) ∧ mb < w'.heap.size ∧ Below w.heap.size w w'
theorem wf_nat (k : Nat) (h : k < 9223372036854775808) : (Lit.int .i64 (k : Int)).wf = true := by
  have h1 : IntKind.i64.min = -9223372036854775808 := by decide
  have h2 : IntKind.i64.max = 9223372036854775807 := by decide
  simp [Lit.wf, h1, h2]
  omega
theorem tabcs {w : World} {g : Nat} {t : TypeId} {v0 v1 v2 v3 v4 v5 v6 : Value} (h : Blk w g t #[v0, v1, v2, v3, v4, v5, v6]) : w.cell? ⟨g, 0, none⟩ = some v0 ∧ w.cell? ⟨g, 1, none⟩ = some v1 ∧ w.cell? ⟨g, 2, none⟩ = some v2 ∧ w.cell? ⟨g, 3, none⟩ = some v3 ∧ w.cell? ⟨g, 4, none⟩ = some v4 ∧ w.cell? ⟨g, 5, none⟩ = some v5 ∧ w.cell? ⟨g, 6, none⟩ = some v6 := ⟨h.cell 0, h.cell 1, h.cell 2, h.cell 3, h.cell 4, h.cell 5, h.cell 6⟩
theorem tabfz {w : World} {g : Nat} {t : TypeId} {cs : Array Value} (h : Blk w g t cs) : w.frozen? ⟨g, 0, none⟩ = false ∧ w.frozen? ⟨g, 1, none⟩ = false ∧ w.frozen? ⟨g, 2, none⟩ = false ∧ w.frozen? ⟨g, 3, none⟩ = false ∧ w.frozen? ⟨g, 4, none⟩ = false ∧ w.frozen? ⟨g, 5, none⟩ = false ∧ w.frozen? ⟨g, 6, none⟩ = false := ⟨h.frozen 0, h.frozen 1, h.frozen 2, h.frozen 3, h.frozen 4, h.frozen 5, h.frozen 6⟩

set_option maxHeartbeats 4000000 in
theorem new_end (w w0 : World) (S dr T : List Lf) (avgs : List Int) (all : Bool) (AD : Option Addr) (cD : Nat) (PC : Array Value) (AA : Option Addr) (cA : Nat) (AC : Option Addr) (cC : Nat) (SB RB MB TB BA BC : Nat)
    (HI : Hid (w.heap.size < SB ∧ SB < RB ∧ RB < MB ∧ MB < TB ∧ TB < BA ∧ BA ≤ BC ∧ BC ≤ w0.heap.size)) (HKP : Hid (Blk w0 w.heap.size 32 PC)) (HP15 : PC[15]? = some (.bool all)) (HP16 : PC[16]? = some (.slice AD dr.length cD))
    (HKR : Hid (Blk w0 RB 68 #[.slice none 0 0, .slice none 0 0, .slice none 0 0, .bool false, .slice none 0 0, .slice none 0 0, .map none])) (HKT : Hid (Blk w0 TB 68 (tabC (.slice AA avgs.length cA) (.slice AC T.length cC) false (.slice none 0 0) MB)))
    (HNM : Hid (IsNum w0 MB 0 (fun _ => 0))) (HOC : Hid (w0.ownsRow BC 51 2 (.slice AC T.length cC) T.length (lfCs T))) (HOA : Hid (w0.ownsRow BA 3 1 (.slice AA avgs.length cA) avgs.length (ints avgs))) (HOB : Hid (∀ g, (Value.slice AA avgs.length cA).ownBlock = some g → g < BC))
    (HT : Hid (T.Nodup ∧ (∀ l ∈ T, LfOk l) ∧ ∀ l, l ∈ T ↔ l ∈ S)) (hTl : T.length ≤ 1073741824) (HB : Hid (Below w.heap.size w w0))
    (HDV : Hid (∀ W nm x, Below w.heap.size w W → TB < W.heap.size → W.cell? ⟨TB, 6, none⟩ = some (.map (some MB)) → IsNum W MB nm x → Calls Tryz.prog 48 #[.pointer (some ⟨TB, 0, none⟩), .slice AD dr.length cD] W (IsDrive W (driveL x dr)))) (u0 u1 u6 u7 u8 u9 u10 u11 u12 u13 u14 u15 u16 u17 u18 u19 u20 u21 u22 u23 u24 u25 u26 u27 u28 u29 u30 u31 u32 u33 u34 u35 u36 u37 u38 u39 u40 u41 u42 u43 u44 u45 u46 u47 u48 u49 u50 u51 u52 u53 u54 u55 u56 u57 u58 u59 u60 u61 u62 u63 u64 u65 u66 u67 u68 u69 u70 u71 u72 u73 : Value) :
    Code.wp Tryz.prog (tailN 11) (bodyPost Tryz.prog Tryz.f21 (IsTabs w S dr avgs all)) ⟨#[u0, u1, .pointer (some ⟨w.heap.size, 0, none⟩), .pointer (some ⟨SB, 0, none⟩), .pointer (some ⟨RB, 0, none⟩), .pointer (some ⟨TB, 0, none⟩), u6, u7, u8, u9, u10, u11, u12, u13, u14, u15, u16, u17, u18, u19, u20, u21, u22, u23, u24, u25, u26, u27, u28, u29, u30, u31, u32, u33, u34, u35, u36, u37, u38, u39, u40, u41, u42, u43, u44, u45, u46, u47, u48, u49, u50, u51, u52, u53, u54, u55, u56, u57, u58, u59, u60, u61, u62, u63, u64, u65, u66, u67, u68, u69, u70, u71, u72, u73], []⟩ w0 := by
  obtain ⟨h1, h2, h3, h4, h5, h6, h7⟩ := HI.out
  have t1 : w0.cell? ⟨TB, 1, none⟩ = some (.slice AC T.length cC) := HKT.out.cell 1
  have SL := Lib.hid (sort_own T _ AC cC BC TB w0 rfl HOC.out HT.out.1 hTl t1 (by omega))
  unfold tailN
  conv => arg 2; whnf
  go_upto_region 12 with (go_at_call 46; (with_reducible refine SL.out.mono ?_); rintro e w1 ⟨rfl, C, hC1, hC2, hC3, hC4, hC5⟩; have HC1 := Lib.hid hC1; have HC2 := Lib.hid hC2; have HC4 := Lib.hid hC4; have HC5 := Lib.hid hC5; clear hC1 hC2 hC4 hC5)
  clear t1
  have hs1 := HC4.out.size
  have KT1 := Lib.hid (HC4.out.blk HKT.out (.inl (by omega)))
  have KP1 := Lib.hid (HC4.out.blk HKP.out (.inl (by omega)))
  have KR1 := Lib.hid (HC4.out.blk HKR.out (.inl (by omega)))
  have NM1 := Lib.hid (isNum_same HNM.out (HC4.out.block _ HNM.out.lt (.inl (by omega))))
  have hCl : C.length ≤ 1073741824 := by omega
  have t1 : w1.cell? ⟨TB, 1, none⟩ = some (.slice AC C.length cC) := by rw [hC3]; exact KT1.out.cell 1
  rw [← hC3] at HC5 HKT
  have HC3 := Lib.hid hC3
  clear hC3
  go_wp2_with fail
  clear t1
  go_loopw [54] (fun i wr => ∃ k : Nat, k ≤ C.length ∧ i = .int .i64 k ∧ Foot w1 wr (fun b => b ≠ MB) ∧ IsNum wr MB k (numOf (C.take k))) (fun i _ => C.length - (intOf i).toNat)
  case atStart => exact ⟨0, Nat.zero_le _, rfl, Foot.refl _ _, by rw [List.take_zero, numOf_nil]; exact NM1.out⟩
  case round =>
    obtain ⟨k, hk, rfl, hF, hN⟩ := hrel
    have hsr := hF.size
    have hownr := foot_own hF HC5.out (fun g h _ => by omega)
    have KTr := hF.blk KT1.out (by omega)
    have t6 : wr.cell? ⟨TB, 6, none⟩ = some (.map (some MB)) := KTr.cell 6
    rcases Nat.lt_or_ge k C.length with hlt | hge
    · obtain ⟨y, hy⟩ : ∃ y, C[k]? = some y := ⟨_, List.getElem?_eq_getElem hlt⟩
      obtain ⟨d0, d1⟩ := lfCs_at C k y hy
      rcases hownr.2 with ⟨_, h0⟩ | ⟨g, cap, cur, e, hg, hb, _⟩
      · omega
      simp only [Value.slice.injEq] at e
      obtain ⟨rfl, _, rfl⟩ := e
      have x0 : wr.cell? ⟨g, k * 2, none⟩ = some (.int .i64 y.field) := own_cell hownr d0
      have x1 : wr.cell? ⟨g, k * 2 + 1, none⟩ = some (.string y.term) := own_cell hownr d1
      have i1 : (k : Int) < (C.length : Int) := by omega
      have i3 : (k : Int) < 9223372036854775807 := by omega
      obtain ⟨W8, hW8⟩ : ∃ W, W = wr.alloc (.cells #[.int .i64 y.field, .string y.term] 51) := ⟨_, rfl⟩
      have hb8 : Below wr.heap.size wr W8 := by rw [hW8]; exact Base.bel
      have T8 : Blk W8 wr.heap.size 51 #[.int .i64 y.field, .string y.term] := by rw [hW8]; exact Blk.new _ _ _
      have l0 : W8.cell? ⟨wr.heap.size, 0, none⟩ = some (.int .i64 y.field) := T8.cell 0
      have l1 : W8.cell? ⟨wr.heap.size, 1, none⟩ = some (.string y.term) := T8.cell 1
      have t68 : W8.cell? ⟨TB, 6, none⟩ = some (.map (some MB)) := (KTr.below hb8 KTr.lt).cell 6
      have hN8 : IsNum W8 MB k (numOf (C.take k)) := isNum_same hN (hb8.block _ hN.lt)
      obtain ⟨wp, hrun, hn', hg'⟩ := hN8.put (l := y) (HT.out.2.1 y ((HC2.out y).1 (List.mem_of_getElem? hy))) (by unfold maxLen; omega) (v := (k : Int)) (wf_nat k (by omega))
      unfold lfV at hrun
      have HN' := Lib.hid (show IsNum wp MB (k + 1) (numOf (C.take (k + 1))) by rw [← numOf_step HC1.out.nodup hy]; exact hn')
      have HF' := Lib.hid (show Foot w1 wp (fun b => b ≠ MB) from (foot_chain hF hb8).grown hg' (fun k' _ e h => h (Option.some.inj e).symm))
      have HW8 := Lib.hid hW8
      clear hn' hg' hF hN hN8 hb8 T8 hW8 hownr KTr hb d0 d1 hy
      go_upto_region 15 with fail
      rw [← HW8.out]
      go_wp2_with fail
      go_roundw
      case rel => exact ⟨k + 1, by omega, by go_num, HF'.out, HN'.out⟩
      case measure => simp [intOf]; omega
    · obtain rfl : k = C.length := by omega
      rw [List.take_length] at hN
      have KPr := hF.blk KP1.out (by omega)
      have p15 : wr.cell? ⟨w.heap.size, 15, none⟩ = some (.bool all) := (KPr.cell 15).trans HP15
      have p16 : ∀ u, (wr.setCell ⟨TB, 3, none⟩ u).cell? ⟨w.heap.size, 16, none⟩ = some (.slice AD dr.length cD) := fun u => ((KPr.far (p := ⟨TB, 3, none⟩) (by show w.heap.size ≠ TB; omega) u).cell 16).trans HP16
      have f3 : wr.frozen? ⟨TB, 3, none⟩ = false := KTr.frozen 3
      have t3 : wr.cell? ⟨TB, 3, none⟩ = some (.bool false) := KTr.cell 3
      obtain ⟨W9, hW9⟩ : ∃ W, W = wr.setCell ⟨TB, 3, none⟩ (.bool all) := ⟨_, rfl⟩
      have hbr : Below w.heap.size w wr := HB.out.trans ((foot_below HC4.out (fun k hk => .inl (by omega)) (by omega)).trans (foot_below hF (fun k hk => by omega) (by omega)))
      have KT9 : Blk W9 TB 68 (tabC (.slice AA avgs.length cA) (.slice AC C.length cC) all (.slice none 0 0) MB) := by
        rw [hW9]
        have := KTr.set_ 3 (.bool all)
        rw [← HC3.out] at this
        simpa [tabC] using this
      have DV := Lib.hid (HDV.out W9 C.length (numOf C) (by rw [hW9]; exact hbr.setCell (by show w.heap.size ≤ TB; omega) _) KT9.lt (KT9.cell 6) (isNum_same hN (by rw [hW9]; exact Below.heap_setCell _ _ _ _ (by show MB ≠ TB; omega))))
      have HKT9 := Lib.hid KT9
      have HW9 := Lib.hid hW9
      have HF := Lib.hid hF
      have HN := Lib.hid hN
      have HBR := Lib.hid hbr
      have p169 : W9.cell? ⟨w.heap.size, 16, none⟩ = some (.slice AD dr.length cD) := by rw [hW9]; exact p16 _
      have HOR := Lib.hid hownr
      clear KT9 hW9 hF hN hbr hownr p16 KPr KTr t6
      go_upto_region 18 with fail
      rw [← HW9.out]
      obtain ⟨D, hD⟩ : ∃ D, D = driveL (numOf C) dr := ⟨_, rfl⟩
      rw [← hD] at DV
      have HD := Lib.hid hD
      clear hD p15 f3 t3
      go_upto_region 19 with (go_at_call 48; (with_reducible refine DV.out.mono ?_); rintro e w4 ⟨AV, cV, rfl, hb4, hs4⟩; have KT4 := HKT9.out.below hb4 HKT9.out.lt; have f4 : w4.frozen? ⟨TB, 4, none⟩ = false := KT4.frozen 4; have t4 : w4.cell? ⟨TB, 4, none⟩ = some (.slice none 0 0) := KT4.cell 4; have HB4 := Lib.hid hb4; have HS4 := Lib.hid hs4; have HKT4 := Lib.hid KT4; clear hb4 hs4 KT4)
      clear p169 f4 t4
      obtain ⟨W5, hW5⟩ : ∃ W, W = w4.setCell ⟨TB, 4, none⟩ (.slice AV D.length cV) := ⟨_, rfl⟩
      have KT5 : Blk W5 TB 68 #[.slice AA avgs.length cA, .slice AC C.length cC, .slice none 0 0, .bool all, .slice AV D.length cV, .slice none 0 0, .map (some MB)] := by
        rw [hW5]
        have := HKT4.out.set_ 4 (.slice AV D.length cV)
        simpa [tabC] using this
      have F9 : Foot w0 W9 (fun k => k ≠ MB ∧ k ≠ TB ∧ (k < BC ∨ (Value.slice AC T.length cC).ownBlock ≠ some k)) := by
        rw [HW9.out]
        exact ((HC4.out.imp (fun k _ h => h.2.2)).trans (HF.out.imp (fun k _ h => h.1))).set_ (p := ⟨TB, 3, none⟩) (fun _ h => h.2.1 rfl) _
      have G9 : Foot w1 W9 (fun k => k ≠ MB ∧ k ≠ TB) := by
        rw [HW9.out]
        exact (HF.out.imp (fun k _ h => h.1)).set_ (p := ⟨TB, 3, none⟩) (fun _ h => h.2 rfl) _
      have hs9 := G9.size
      have b4 : Below W9.heap.size W9 w4 := HB4.out
      have F5 : Foot w0 W5 (fun k => k ≠ MB ∧ k ≠ TB ∧ (k < BC ∨ (Value.slice AC T.length cC).ownBlock ≠ some k)) := by rw [hW5]; exact (foot_chain F9 b4).set_ (p := ⟨TB, 4, none⟩) (fun _ h => h.2.1 rfl) _
      have G5 : Foot w1 W5 (fun k => k ≠ MB ∧ k ≠ TB) := by rw [hW5]; exact (foot_chain G9 b4).set_ (p := ⟨TB, 4, none⟩) (fun _ h => h.2 rfl) _
      have KR5 := F5.blk HKR.out ⟨by omega, by omega, .inl (by omega)⟩
      have N5 : IsNum W5 MB C.length (numOf C) := isNum_same HN.out (by
        rw [hW5, Below.heap_setCell _ _ _ _ (show MB ≠ TB by omega), b4.block MB (by omega), HW9.out]
        exact Below.heap_setCell _ _ _ _ (show MB ≠ TB by omega))
      have S5 : D ≠ [] → SlcT W5 3 AV (ints D) := fun hne => by
        obtain ⟨g, o, cs, fr, e, hg, hc⟩ := HS4.out hne
        have hne2 : g ≠ TB := fun e => by
          subst e
          have h := HKT4.out
          unfold Blk at h
          rw [h] at hg
          exact absurd (Obj.cells.inj (Option.some.inj hg)).2.1 (by decide)
        have hb := Below.heap_setCell w4 ⟨TB, 4, none⟩ (.slice AV D.length cV) g hne2
        rw [← hW5] at hb
        exact ⟨g, o, cs, fr, e, hb.trans hg, fun j u hu => (cell_block hb _).trans (hc j u hu)⟩
      rw [← hW5]
      have HF5 := Lib.hid F5
      have HG5 := Lib.hid G5
      have HN5 := Lib.hid N5
      have HS5 := Lib.hid S5
      have HKR5 := Lib.hid KR5
      obtain ⟨m0, m1, m2, m3, m4, m5, m6⟩ := tabcs KT5
      obtain ⟨r0, r1, r2, r3, r4, r5, r6⟩ := tabcs KR5
      obtain ⟨z0, z1, z2, z3, z4, z5, z6⟩ := tabfz KR5
      clear F5 G5 N5 S5 KR5 KT5 F9 G9 hW5 b4 DV
      go_wp2_with fail
      obtain ⟨W6, hW6⟩ : ∃ W, W = ((((((W5.setCell ⟨RB, 0, none⟩ (.slice AA avgs.length cA)).setCell ⟨RB, 1, none⟩ (.slice AC C.length cC)).setCell ⟨RB, 2, none⟩ (.slice none 0 0)).setCell ⟨RB, 3, none⟩ (.bool all)).setCell ⟨RB, 4, none⟩ (.slice AV D.length cV)).setCell ⟨RB, 5, none⟩ (.slice none 0 0)).setCell ⟨RB, 6, none⟩ (.map (some MB)) := ⟨_, rfl⟩
      have KR6 : Blk W6 RB 68 #[.slice AA avgs.length cA, .slice AC C.length cC, .slice none 0 0, .bool all, .slice AV D.length cV, .slice none 0 0, .map (some MB)] := by
        rw [hW6]
        have := ((((((HKR5.out.set_ 0 (.slice AA avgs.length cA)).set_ 1 (.slice AC C.length cC)).set_ 2 (.slice none 0 0)).set_ 3 (.bool all)).set_ 4 (.slice AV D.length cV)).set_ 5 (.slice none 0 0)).set_ 6 (.map (some MB))
        simpa using this
      have F6 : Foot W5 W6 (fun k => k ≠ RB) := by
        rw [hW6]
        exact (((((((Foot.refl W5 _).set_ (p := ⟨RB, 0, none⟩) (fun _ h => h rfl) _).set_ (p := ⟨RB, 1, none⟩) (fun _ h => h rfl) _).set_ (p := ⟨RB, 2, none⟩) (fun _ h => h rfl) _).set_ (p := ⟨RB, 3, none⟩) (fun _ h => h rfl) _).set_ (p := ⟨RB, 4, none⟩) (fun _ h => h rfl) _).set_ (p := ⟨RB, 5, none⟩) (fun _ h => h rfl) _).set_ (p := ⟨RB, 6, none⟩) (fun _ h => h rfl) _
      rw [← hW6]
      have hs6 := F6.size
      have hs5 := HG5.out.size
      have b6 : Below w.heap.size w W6 := HB.out.trans ((foot_below HF5.out (fun k hk => ⟨by omega, by omega, .inl (by omega)⟩) (by omega)).trans (foot_below F6 (fun k hk => by omega) (by omega)))
      have oa := HOA.out
      have a6 : Slc W6 W6.heap.size AA (ints avgs) := by
        have h1 := HF5.out.own oa (fun g hg => ⟨by have := (oa.lt g hg).1; omega, by have := (oa.lt g hg).1; omega, .inl (HOB.out g hg)⟩)
        have h2 := foot_own F6 h1 (fun g hg _ => by omega)
        exact own_slc h2
      have c6 : Slc W6 W6.heap.size AC (lfCs C) := by
        have h1 := foot_own HG5.out HC5.out (fun g hg _ => ⟨by omega, by omega⟩)
        have h2 := foot_own F6 h1 (fun g hg _ => by omega)
        exact own_slc h2
      have d6 : Slc W6 W6.heap.size AV (ints D) := fun hne => by
        obtain ⟨g, o, cs, fr, e, hg, hc⟩ := HS5.out (by intro e; rw [e] at hne; exact hne rfl)
        have hgl : g < W5.heap.size := (Array.getElem?_eq_some_iff.1 hg).1
        have hgr : g ≠ RB := fun e => by
          have h := HKR5.out
          unfold Blk at h
          rw [e, h] at hg
          exact absurd (Obj.cells.inj (Option.some.inj hg)).2.1 (by decide)
        exact ⟨g, o, e, by omega, fun j u hu => (F6.cell (p := ⟨g, o + j, none⟩) hgl hgr).trans (hc j u hu)⟩
      have n6 : IsNum W6 MB C.length (numOf C) := isNum_same HN5.out (F6.block MB HN5.out.lt (by omega))
      have hmbl : MB < W6.heap.size := n6.lt
      refine bodyPost_ret (results_cell rfl rfl (run_loadVar_row W6 RB _ _ _ (0, 0) _ KR6 Tryz.underlying68 rfl (by kernel_rfl))) rfl ?_
      rw [HD.out] at d6 ⊢
      exact ⟨AA, cA, AC, cC, AV, cV, MB, C.length, C, rfl, HC1.out, fun l => (HC2.out l).trans (HT.out.2.2 l), a6, c6, d6, n6, hmbl, b6⟩
end Go.Proofs.YtfpikilhbkeajaaGreatDoor.NewEnd

namespace Go.Proofs.YtfpikilhbkeajaaGreatDoor.NewMid
set_option maxRecDepth 100000
open Go.RowKit Go.PlainAid Base Query QrySize EmitPlain EmitBase EmitPut LeafMap EmitNear EmitQ0 EmitExt AllLeaves LeafRange HitBase TabMem TabPlain Drive GoodPl BindBase NewEnd

theorem leafEl : Elem Tryz.prog 30 51 (.agg #[.int .i64 0, .string ⟨#[]⟩]) 2 24 := .mk_ (by kernel_rfl) (by kernel_rfl) rfl (by decide)
def GoI (w5 wr : World) (mb RI N TB MB : Nat) (S : List Lf) (av : Value) : Prop := ∃ (T : List Lf) (cnt : Nat) (cu : Value), Going wr mb RI N S T cnt ∧ Foot w5 wr (fun k => k ≠ TB ∧ k ≠ RI) ∧ Blk wr TB 68 (tabC av cu false (.slice none 0 0) MB) ∧ wr.ownsRow w5.heap.size 51 2 cu T.length (lfCs T)
set_option maxHeartbeats 4000000 in
theorem new_mid (hd : Head) (nk : Nat) (A1 A2 A3 A4 : Option Addr) (c1 c2 c3 c4 : Nat) (w w0 : World) (S dr : List Lf) (avgs : List Int) (all : Bool) (AD : Option Addr) (cD : Nat) (AA : Option Addr) (cA : Nat) (SB RB MB TB BA : Nat)
    (HI : Hid (w.heap.size < SB ∧ SB < RB ∧ RB < MB ∧ MB < TB ∧ TB < BA ∧ BA ≤ w0.heap.size)) (HKP : Hid (Blk w0 w.heap.size 32 (plC hd nk A1 A2 A3 A4 c1 c2 c3 c4 all AD dr.length cD)))
    (HKR : Hid (Blk w0 RB 68 #[.slice none 0 0, .slice none 0 0, .slice none 0 0, .bool false, .slice none 0 0, .slice none 0 0, .map none])) (HKT : Hid (Blk w0 TB 68 (tabC (.slice AA avgs.length cA) (.slice none 0 0) false (.slice none 0 0) MB)))
    (HNM : Hid (IsNum w0 MB 0 (fun _ => 0))) (HOA : Hid (w0.ownsRow BA 3 1 (.slice AA avgs.length cA) avgs.length (ints avgs))) (HLO : Hid (∀ l ∈ S, LfOk l)) (hSl : S.length ≤ 1073741824) (HB : Hid (Below w.heap.size w w0))
    (AL : Hid (∀ W, Below w.heap.size w W → Calls Tryz.prog 44 #[.agg (plC hd nk A1 A2 A3 A4 c1 c2 c3 c4 all AD dr.length cD)] W (IsLeaves S W)))
    (HDV : Hid (∀ W nm x, Below w.heap.size w W → TB < W.heap.size → W.cell? ⟨TB, 6, none⟩ = some (.map (some MB)) → IsNum W MB nm x → Calls Tryz.prog 48 #[.pointer (some ⟨TB, 0, none⟩), .slice AD dr.length cD] W (IsDrive W (driveL x dr)))) (u0 u1 u6 u7 u8 u9 u10 u11 u12 u13 u14 u15 u16 u17 u18 u19 u20 u21 u22 u23 u24 u25 u26 u27 u28 u29 u30 u31 u32 u33 u34 u35 u36 u37 u38 u39 u40 u41 u42 u43 u44 u45 u46 u47 u48 u49 u50 u51 u52 u53 u54 u55 u56 u57 u58 u59 u60 u61 u62 u63 u64 u65 u66 u67 u68 u69 u70 u71 u72 u73 : Value) :
    Code.wp Tryz.prog (tailN 7) (bodyPost Tryz.prog Tryz.f21 (IsTabs w S dr avgs all)) ⟨#[u0, u1, .pointer (some ⟨w.heap.size, 0, none⟩), .pointer (some ⟨SB, 0, none⟩), .pointer (some ⟨RB, 0, none⟩), .pointer (some ⟨TB, 0, none⟩), u6, u7, u8, u9, u10, u11, u12, u13, u14, u15, u16, u17, u18, u19, u20, u21, u22, u23, u24, u25, u26, u27, u28, u29, u30, u31, u32, u33, u34, u35, u36, u37, u38, u39, u40, u41, u42, u43, u44, u45, u46, u47, u48, u49, u50, u51, u52, u53, u54, u55, u56, u57, u58, u59, u60, u61, u62, u63, u64, u65, u66, u67, u68, u69, u70, u71, u72, u73], []⟩ w0 := by
  obtain ⟨h1, h2, h3, h4, h5, h6⟩ := HI.out
  unfold plC at HKP AL
  have KP := HKP.out
  obtain ⟨z0, z1, z2, z3, z4, z5, z6, z7, z8, z9, z10, z11, z12, z13, z14, z15, z16⟩ := plcs KP
  have ALr := Lib.hid (AL.out w0 HB.out)
  clear KP
  unfold tailN
  conv => arg 2; whnf
  refine cast_code (c := .seq ?r0 (tailN 11)) ?e ?_
  case e => exact rfl
  go_wp2_with (first | (go_at_call 44; (with_reducible refine ALr.out.mono ?_); rintro e w4 ⟨mb, rfl, hmb, hset, hb4⟩; have HSET := Lib.hid hset; have HB4 := Lib.hid hb4; clear hset hb4) | (at_range; refine wpList_range_lf (by rfl) _ (by rfl) (by rfl) HSET.out ?_; intro w5 cnt0 hg0 hgr0 hs0; have HG0 := Lib.hid hg0; have HGR := Lib.hid hgr0; have HS0 := Lib.hid hs0; clear hg0 hgr0 hs0) | go_in)
  clear z0 z1 z2 z3 z4 z5 z6 z7 z8 z9 z10 z11 z12 z13 z14 z15 z16
  go_frame
  have F05 : Foot w0 w5 (fun _ => True) := (Foot.ofBelow HB4.out _).grown HGR.out (fun k _ e => by cases e)
  have hs4 := HB4.out.size
  have hmb4 : mb < w4.heap.size := HSET.out.lt
  have hs5 : w4.heap.size < w5.heap.size := by rw [HS0.out]; omega
  have HF05 := Lib.hid F05
  obtain ⟨N, hN⟩ : ∃ N, N = S.length := ⟨_, rfl⟩
  rw [← hN] at HG0 hSl
  have HN := Lib.hid hN
  clear F05 hN
  obtain ⟨RI, hRI⟩ : ∃ R, R = w4.heap.size := ⟨_, rfl⟩
  rw [← hRI] at HG0 ⊢ hmb4 hs5 hs4
  clear hRI
  go_loopw [32] (fun _ wr => GoI w5 wr mb RI N TB MB S (.slice AA avgs.length cA)) (fun _ wr => wr.rangeLeft mb RI)
  case atStart => exact ⟨[], cnt0, _, HG0.out, Foot.refl _ _, HF05.out.blk HKT.out trivial, World.ownsRow_nil _ _ _ _⟩
  case round =>
    obtain ⟨T, cnt, cu, hgo, hF, hT, hown⟩ := hrel
    obtain ⟨A5, c5, rfl⟩ := own_slice hown
    have HGO := Lib.hid hgo
    have HF := Lib.hid hF
    have HT := Lib.hid hT
    have HO := Lib.hid hown
    clear hgo hF hT hown
    go_wp2_with (first | (at_next; refine wpList_next_lf (by rfl) _ (by rfl) (by rfl) HGO.out ?_ ?_) | go_in)
    · intro hdone
      have HDONE := Lib.hid hdone
      clear hdone
      have F : Foot w0 wr (fun k => k ≠ TB ∧ k ≠ RI) := (HF05.out.imp (ok' := fun k => k ≠ TB ∧ k ≠ RI) (fun _ _ _ => trivial)).trans HF.out
      have hsF := F.size
      have hs5r := HF.out.size
      have oa := HOA.out
      have NE := new_end w wr S dr T avgs all AD cD _ AA cA A5 c5 SB RB MB TB BA w5.heap.size (Lib.hid ⟨h1, h2, h3, h4, h5, by omega, hs5r⟩) (Lib.hid (F.blk HKP.out ⟨by omega, by omega⟩)) rfl rfl (Lib.hid (F.blk HKR.out ⟨by omega, by omega⟩)) HT
        (Lib.hid (isNum_same HNM.out (F.block MB HNM.out.lt ⟨by omega, by omega⟩))) HO (Lib.hid (F.own oa (fun g hg => ⟨by have := (oa.lt g hg).1; omega, by have := (oa.lt g hg).2; omega⟩))) (Lib.hid (fun g hg => by have := (oa.lt g hg).2; omega))
        (Lib.hid ⟨HGO.out.nodup, fun l hl => (HGO.out.sub l hl).1, fun l => ⟨fun hl => (HGO.out.sub l hl).2, fun hl => (HDONE.out l (HLO.out l hl)).1 hl⟩⟩) (Nat.le_trans HGO.out.len (by rw [← HN.out]; exact hSl)) (Lib.hid (HB.out.trans (foot_below F (fun k hk => ⟨by omega, by omega⟩) (by omega)))) HDV
      have HNE := Lib.hid NE
      clear NE
      go_wp2_with fail
      exact HNE.out _ _ _ _ _ _ _ _ _ _ _ _ _ _ _ _ _ _ _ _ _ _ _ _ _ _ _ _ _ _ _ _ _ _ _ _ _ _ _ _ _ _ _ _ _ _ _ _ _ _ _ _ _ _ _ _ _ _ _ _ _ _ _ _ _ _ _ _ _ _
    · intro l c w6 cnt6 hlok hlS hlT hgo6 hlt6 hgr6 hs6 hen
      obtain ⟨W7, hW7⟩ : ∃ W, W = w6.alloc (.cells #[.int .i64 l.field, .string l.term] 51) := ⟨_, rfl⟩
      have T7 : Blk W7 w6.heap.size 51 #[.int .i64 l.field, .string l.term] := by rw [hW7]; exact Blk.new _ _ _
      have b7 : Below w6.heap.size w6 W7 := by rw [hW7]; exact Base.bel
      have l0 : W7.cell? ⟨w6.heap.size, 0, none⟩ = some (.int .i64 l.field) := T7.cell 0
      have l1 : W7.cell? ⟨w6.heap.size, 1, none⟩ = some (.string l.term) := T7.cell 1
      have hlow := HF.out.size
      have F7 : Foot w5 W7 (fun k => k ≠ TB ∧ k ≠ RI) := foot_chain (HF.out.grown hgr6 (fun k _ e h => h.2 (Option.some.inj e).symm)) b7
      have K7 : Blk W7 TB 68 (tabC (.slice AA avgs.length cA) (.slice A5 T.length c5) false (.slice none 0 0) MB) := (HT.out.grown hgr6 (fun e => by have := Option.some.inj e; omega)).below b7 (by rw [hs6]; exact HT.out.lt)
      have O7 : W7.ownsRow w5.heap.size 51 2 (.slice A5 T.length c5) T.length (lfCs T) := own_below (HO.out.kept hgr6 (.inr (fun e => by have := (HO.out.lt RI e).1; omega))) b7
      have G7 : Going W7 mb RI N S (T ++ [l]) cnt6 := hgo6.below b7
      have t1 : W7.cell? ⟨TB, 1, none⟩ = some (.slice A5 T.length c5) := K7.cell 1
      have htl : T.length ≤ 1073741824 := by have := hgo6.len; rw [List.length_append, List.length_singleton, ← HN.out] at this; omega
      have hw57 := F7.size
      have HF7 := Lib.hid F7
      have HK7 := Lib.hid K7
      have HO7 := Lib.hid O7
      have HG7 := Lib.hid G7
      have HW7 := Lib.hid hW7
      clear F7 K7 O7 G7 hW7 T7 b7 hgo6 hgr6 hs6 hlS hlT
      go_upto_region 10 with fail
      rw [← HW7.out]
      go_wp2_with (at_builtin; refine wpList_append1 (by rfl) _ _ (by rfl) leafEl HO7.out (by rfl) (cs := #[.int .i64 l.field, .string l.term]) (by rfl) (by rfl) (by simp [Value.oneCell']) (by omega) (by unfold maxLen; omega) (by omega) ?_; intro v9 w9 ho9 hg9 _; obtain ⟨A9, c9, rfl⟩ := own_slice ho9; have K9 := HK7.out.grown hg9 (fun e => own_far HO7.out (by omega) e.symm); have t9 : w9.cell? ⟨TB, 1, none⟩ = some (.slice A5 T.length c5) := K9.cell 1; have f9 : w9.frozen? ⟨TB, 1, none⟩ = false := K9.frozen 1)
      go_roundw
      case rel =>
        have hset := grown_set (w := w9) TB 1 (.slice A9 (T.length + 1) c9)
        refine ⟨T ++ [l], cnt6, .slice A9 (T.length + 1) c9, (HG7.out.kept hg9 (fun e => ?_) (fun e => ?_)).kept hset (fun e => ?_) (fun e => ?_), (HF7.out.grown hg9 (fun k hk e h => ?_)).set_ (p := ⟨TB, 1, none⟩) (fun _ h => h.1 rfl) _, ?_, ?_⟩
        · have := (HO7.out.lt mb e.symm).1; omega
        · have := (HO7.out.lt RI e.symm).1; omega
        · have := Option.some.inj e; omega
        · have := Option.some.inj e; omega
        · have := (HO7.out.lt k e).1; omega
        · have := K9.set_ 1 (.slice A9 (T.length + 1) c9)
          simpa [tabC] using this
        · have := own_setFar ho9 (p := ⟨TB, 1, none⟩) (own_far ho9 (show TB < w5.heap.size by omega)) (.slice A9 (T.length + 1) c9)
          rw [lfCs_app, lfCs_one, List.length_append, List.length_singleton]
          exact this
      case measure => rw [(HG7.out.kept hg9 (fun e => by have := (HO7.out.lt mb e.symm).1; omega) (fun e => by have := (HO7.out.lt RI e.symm).1; omega)).kept (grown_set TB 1 _) (fun e => by have := Option.some.inj e; omega) (fun e => by have := Option.some.inj e; omega) |>.left_eq, HGO.out.left_eq]; exact hlt6
end Go.Proofs.YtfpikilhbkeajaaGreatDoor.NewMid
