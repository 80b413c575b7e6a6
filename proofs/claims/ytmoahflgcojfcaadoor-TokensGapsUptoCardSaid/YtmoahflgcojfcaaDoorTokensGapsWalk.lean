/-
  The walk of TokensGaps.
-/
import Derived.Test.YtmoahflgcojfcaaDoorFieldAny
import Derived.Test.YtmoahflgcojfcaaDoorGapsPlain
import Derived.Test.YtmoahflgcojfcaaDoorLives
import Derived.Test.YtmoahflgcojfcaaDoorRel
import Derived.IntWalk
namespace Go.Proofs.YtmoahflgcojfcaaDoor.TokensGapsWalk
set_option maxRecDepth 100000
open Go.RowKit Go.PlainAid WordPlain Base App WordBytes WordsWalk StopsWalk ChainPlain OfText NumPlain OfAny OutRow OpenField FieldPlain RefOf FieldWalk RefField FieldAny Lives GapsPlain

set_option maxHeartbeats 4000000 in
theorem walk_out (fs : List Fld) (i : Int) (vs : List Val) (A1 A2 : Option Addr) (c1 c2 : Nat) (w : World) (hfl : fs.length ≤ 1048576) (h : ¬ (0 ≤ i ∧ i < fs.length)) :
    Calls Tryd.prog 7 #[.agg #[.slice A1 fs.length c1], .int .i64 i, .slice A2 vs.length c2] w fun e w' => e = .returned (.bool true) ∧ Below w.heap.size w w' := by
  have FN := Lib.hid (fun W => field_none fs i vs A1 A2 c1 c2 W hfl h)
  go_enter Tryd.func7, Tryd.ntmps7
  go_wp2_with fail
  go_at_call 12
  refine (lives_any _).mono ?_
  rintro e w1 ⟨rfl, hb1⟩
  have hk1 := (Blk.new w 43 #[.slice A1 fs.length c1]).below hb1 (by simp only [World.size_alloc]; omega)
  have hb1' : Below w.heap.size w w1 := bchain (by (repeat (first | exact Below.refl _ _ | assumption | refine balloc ?_ _ | refine bdrew ?_ | refine bdrewN ?_ _ | refine bchain ?_ (by assumption)))) hb1
  have q0 := hk1.cell 0
  simp only [List.getElem?_toArray, List.getElem?_cons_zero] at q0
  go_wp2_with fail
  go_at_call 21
  refine (FN.out _).mono ?_
  rintro e w2 ⟨A3, c3, rfl, own3, hb2⟩
  have hk2 := hk1.below hb2 hk1.lt
  have r0 := hk2.cell 0
  simp only [List.getElem?_toArray, List.getElem?_cons_zero] at r0
  have hb2' := bchain hb1' hb2
  simp only [List.length_nil]
  clear q0 hk1 hk2 own3
  by_cases h1 : i < 0
  · clear h
    go_wp2_with fail
    go_ret
    exact ⟨rfl, hb2'⟩
  · have h2 : (fs.length : Int) ≤ i := by omega
    clear h
    go_wp2_with fail
    go_ret
    exact ⟨rfl, hb2'⟩

theorem blk_two (wr : World) (q : Nat) (t : Tok) (k : Nat) (p : Int) :
    Blk ((((wr.alloc (.cells #[.string t.text, .int .i64 t.value, .int .i64 t.pos, .int .i64 t.start, .int .i64 t.stop] 32)).drewN q).setCell ⟨wr.heap.size, 1, none⟩ (.int .i64 (k : Nat))).setCell ⟨wr.heap.size, 2, none⟩ (.int .i64 p)) wr.heap.size 32
      #[.string t.text, .int .i64 (k : Nat), .int .i64 p, .int .i64 t.start, .int .i64 t.stop] := by
  have := ((((Blk.new wr 32 #[.string t.text, .int .i64 t.value, .int .i64 t.pos, .int .i64 t.start, .int .i64 t.stop]).drewN q).set_ 1 (.int .i64 (k : Nat))).set_ 2 (.int .i64 p))
  simpa only [List.setIfInBounds_toArray, List.set_cons_zero, List.set_cons_succ] using this

theorem blk_two0 (wr : World) (t : Tok) (k : Nat) (p : Int) :
    Blk (((wr.alloc (.cells #[.string t.text, .int .i64 t.value, .int .i64 t.pos, .int .i64 t.start, .int .i64 t.stop] 32)).setCell ⟨wr.heap.size, 1, none⟩ (.int .i64 (k : Nat))).setCell ⟨wr.heap.size, 2, none⟩ (.int .i64 p)) wr.heap.size 32
      #[.string t.text, .int .i64 (k : Nat), .int .i64 p, .int .i64 t.start, .int .i64 t.stop] := by
  have := ((Blk.new wr 32 #[.string t.text, .int .i64 t.value, .int .i64 t.pos, .int .i64 t.start, .int .i64 t.stop]).set_ 1 (.int .i64 (k : Nat))).set_ 2 (.int .i64 p)
  simpa only [List.setIfInBounds_toArray, List.set_cons_zero, List.set_cons_succ] using this

set_option maxHeartbeats 16000000 in
theorem walk_in (fs : List Fld) (k0 : Nat) (f : Fld) (vs : List Val) (A1 A2 : Option Addr) (c1 c2 : Nat) (w : World) (ht : Tab w) (h0 : 0 < w.heap.size) (hf : fs[k0]? = some f) (hfl : fs.length ≤ 1048576) (hvs : vsum vs ≤ 1099511627)
    (h1 : Slc w w.heap.size A1 (fldCells fs)) (h2 : Slc w w.heap.size A2 (valCells vs)) :
    Calls Tryd.prog 7 #[.agg #[.slice A1 fs.length c1], .int .i64 k0, .slice A2 vs.length c2] w fun e w' => e = .returned (.bool true) ∧ Below w.heap.size w w' := by
  have hk0 := (List.getElem?_eq_some_iff.1 hf).1
  have hvl := vsum_len vs
  have hne : fldCells fs ≠ [] := by
    intro h
    have := fldCells_len fs
    rw [h] at this
    simp at this
    omega
  have FA := Lib.hid (fun W (hb : Below w.heap.size w W) => field_any fs k0 vs A1 A2 c1 c2 w.heap.size W hb.size (tab_below ht hb h0) (by have := hb.size; omega) hfl hvs (h1.below hb (Nat.le_refl _)) (h2.below hb (Nat.le_refl _)))
  rw [field_in hf] at FA
  obtain ⟨T, hT⟩ : ∃ T, T = (fst f vs vs.length).1 := ⟨_, rfl⟩
  have hTl := fst_len f vs vs.length (Nat.le_refl _)
  rw [List.take_length, ← hT] at hTl
  rw [← hT] at FA
  have HT := Lib.hid hT
  clear hT
  obtain ⟨g1, o1, rfl, hg1, hc1⟩ := h1 hne
  have e := fun j (hj : j < 5) => fldCells_at fs k0 j f hf hj
  have x0 : w.cell? ⟨g1, o1 + k0 * 5, none⟩ = some (.string f.nm) := hc1 (k0 * 5 + 0) _ (e 0 (by omega))
  have x1 : w.cell? ⟨g1, o1 + k0 * 5 + 1, none⟩ = some (.int .i64 f.kd) := by have := hc1 (k0 * 5 + 1) _ (e 1 (by omega)); rwa [← Nat.add_assoc] at this
  have x2 : w.cell? ⟨g1, o1 + k0 * 5 + 2, none⟩ = some (.bool f.fold) := by have := hc1 (k0 * 5 + 2) _ (e 2 (by omega)); rwa [← Nat.add_assoc] at this
  have x3 : w.cell? ⟨g1, o1 + k0 * 5 + 3, none⟩ = some (.bool f.stop) := by have := hc1 (k0 * 5 + 3) _ (e 3 (by omega)); rwa [← Nat.add_assoc] at this
  have x4 : w.cell? ⟨g1, o1 + k0 * 5 + 4, none⟩ = some (.bool f.stem) := by have := hc1 (k0 * 5 + 4) _ (e 4 (by omega)); rwa [← Nat.add_assoc] at this
  have X0 := Lib.hid (fun (W : World) (hb : Below w.heap.size w W) => (hb.cell (p := ⟨g1, o1 + k0 * 5, none⟩) hg1).trans x0)
  have X1 := Lib.hid (fun (W : World) (hb : Below w.heap.size w W) => (hb.cell (p := ⟨g1, o1 + k0 * 5 + 1, none⟩) hg1).trans x1)
  have X2 := Lib.hid (fun (W : World) (hb : Below w.heap.size w W) => (hb.cell (p := ⟨g1, o1 + k0 * 5 + 2, none⟩) hg1).trans x2)
  have X3 := Lib.hid (fun (W : World) (hb : Below w.heap.size w W) => (hb.cell (p := ⟨g1, o1 + k0 * 5 + 3, none⟩) hg1).trans x3)
  have X4 := Lib.hid (fun (W : World) (hb : Below w.heap.size w W) => (hb.cell (p := ⟨g1, o1 + k0 * 5 + 4, none⟩) hg1).trans x4)
  clear e hc1 hne hf x0 x1 x2 x3 x4 h1
  go_enter Tryd.func7, Tryd.ntmps7
  go_wp2_with fail
  go_at_call 12
  refine (lives_any _).mono ?_
  rintro e w1 ⟨rfl, hb1⟩
  have hk1 := (Blk.new w 43 #[.slice (some ⟨g1, o1, none⟩) fs.length c1]).below hb1 (by simp only [World.size_alloc]; omega)
  have hb1' : Below w.heap.size w w1 := bchain (by (repeat (first | exact Below.refl _ _ | assumption | refine balloc ?_ _ | refine bdrew ?_ | refine bdrewN ?_ _ | refine bchain ?_ (by assumption)))) hb1
  have q0 := hk1.cell 0
  simp only [List.getElem?_toArray, List.getElem?_cons_zero] at q0
  go_wp2_with fail
  go_at_call 21
  refine (FA.out _ hb1').mono ?_
  rintro e w2 ⟨AT, cT, rfl, ownT, hb2⟩
  have hk2 := hk1.below hb2 hk1.lt
  have r0 := hk2.cell 0
  simp only [List.getElem?_toArray, List.getElem?_cons_zero] at r0
  have hb2' := bchain hb1' hb2
  have hs2 := hb2'.size
  have hl2 := hk2.lt
  have hLT := slc_own ownT
  clear q0 hk1 ownT hb1 hb1' hb2 FA
  go_wp2_with fail
  go_loopw [8, 9, 10, 39] (fun n fi la i wr => ∃ k : Nat, k ≤ vs.length ∧ i = .int .i64 k ∧ n = .int .i64 ((fst f vs k).1.length : Nat) ∧ fi = .bool (!seenB f vs k) ∧ la = .int .i64 (lastP T (fst f vs k).1.length) ∧ Below w2.heap.size w2 wr) (fun _ _ _ i _ => vs.length - (intOf i).toNat)
  case atStart => exact ⟨0, Nat.zero_le _, rfl, rfl, rfl, rfl, Below.refl _ _⟩
  case round =>
    obtain ⟨k, hk, rfl, rfl, rfl, rfl, hbel⟩ := hrel
    have hsz := hbel.size
    have hbelw : Below w.heap.size w wr := hb2'.trans (hbel.mono hs2)
    have hfl2 := fst_len f vs k hk
    have hfb := fst_base f vs k hk
    have htk := vsum_take_le vs k
    by_cases hlt : k < vs.length
    · obtain ⟨v, hv⟩ : ∃ v, vs[k]? = some v := ⟨_, List.getElem?_eq_getElem hlt⟩
      have hnev : valCells vs ≠ [] := by
        intro h
        have := valCells_len vs
        rw [h] at this
        simp at this
        omega
      obtain ⟨g2, o2, rfl, hg2, hc2⟩ := (h2.below hbelw (Nat.le_refl _)) hnev
      have y0 : wr.cell? ⟨g2, o2 + k * 2, none⟩ = some (.string v.nm) := hc2 (k * 2 + 0) _ (valCells_at vs k 0 v hv (by omega))
      have y1 : wr.cell? ⟨g2, o2 + k * 2 + 1, none⟩ = some (.string v.text) := by have := hc2 (k * 2 + 1) _ (valCells_at vs k 1 v hv (by omega)); rwa [← Nat.add_assoc] at this
      have hvt := vsum_text hv
      clear hc2 hnev h2
      have hba : Below wr.heap.size wr (wr.alloc (.cells #[.string v.nm, .string v.text] 48)) := by (repeat (first | exact Below.refl _ _ | assumption | refine balloc ?_ _ | refine bdrew ?_ | refine bdrewN ?_ _ | refine bchain ?_ (by assumption)))
      have hbaw : Below w.heap.size w (wr.alloc (.cells #[.string v.nm, .string v.text] 48)) := hbelw.trans (hba.mono hbelw.size)
      have hba2 : Below w2.heap.size w2 (wr.alloc (.cells #[.string v.nm, .string v.text] 48)) := hbel.trans (hba.mono hsz)
      have r1 := (hk2.below hba2 hl2).cell 0
      simp only [List.getElem?_toArray, List.getElem?_cons_zero] at r1
      have z0 := X0.out _ hbaw
      by_cases hn : v.nm = f.nm
      · have n1 : (v.nm.toList == f.nm.toList) = true := by rw [hn]; simp
        have n2 : (v.nm.toList != f.nm.toList) = false := by rw [hn]; simp
        have HV := Lib.hid hv
        have HN := Lib.hid hn
        clear hn hv
        have hbvr := Blk.new wr 48 #[.string v.nm, .string v.text]
        have hkr := hk2.below hba2 hl2
        go_wp2_with fail
        go_quiet (fail)
        go_wp2_with fail
        obtain ⟨wq, hwq⟩ : ∃ wq, wq = (wr.alloc (.cells #[.string v.nm, .string v.text] 48)).drewN nq := ⟨_, rfl⟩
        have hbq : Below wr.heap.size wr wq := by rw [hwq]; exact bdrewN hba nq
        have hbvq : Blk wq wr.heap.size 48 #[.string v.nm, .string v.text] := by rw [hwq]; exact hbvr
        have hkq : Blk wq w.heap.size 43 #[.slice (some ⟨g1, o1, none⟩) fs.length c1] := by rw [hwq]; exact hkr
        rw [← hwq]
        have hbqw : Below w.heap.size w wq := hbelw.trans (hbq.mono hbelw.size)
        have hbq2 : Below w2.heap.size w2 wq := hbel.trans (hbq.mono hsz)
        clear hwq hbvr hkr y0 y1 r1 z0 hba hbaw hba2
        have hsq := hbqw.size
        obtain ⟨M, hM⟩ : ∃ M, M = ofF f v.text := ⟨_, rfl⟩
        have F0 := Lib.hid (fun (wx : World) (hx : Below wq.heap.size wq wx) => (show wx.cell? ⟨w.heap.size, 0, none⟩ = some (.slice (some ⟨g1, o1, none⟩) fs.length c1) from ((hkq.below hx hkq.lt).cell 0).trans rfl))
        have F1 := Lib.hid (fun (wx : World) (hx : Below wq.heap.size wq wx) => X0.out wx (bchain hbqw hx))
        have F2 := Lib.hid (fun (wx : World) (hx : Below wq.heap.size wq wx) => X1.out wx (bchain hbqw hx))
        have F3 := Lib.hid (fun (wx : World) (hx : Below wq.heap.size wq wx) => X2.out wx (bchain hbqw hx))
        have F4 := Lib.hid (fun (wx : World) (hx : Below wq.heap.size wq wx) => X3.out wx (bchain hbqw hx))
        have F5 := Lib.hid (fun (wx : World) (hx : Below wq.heap.size wq wx) => X4.out wx (bchain hbqw hx))
        have F6 := Lib.hid (fun (wx : World) (hx : Below wq.heap.size wq wx) => (show wx.cell? ⟨wr.heap.size, 1, none⟩ = some (.string v.text) from ((hbvq.below hx hbvq.lt).cell 1).trans rfl))
        have OA := Lib.hid (fun (wx : World) (hx : Below wq.heap.size wq wx) => (show Calls _ _ _ _ (Toks M wx) by rw [hM]; exact of_any f.nm f.kd f.fold f.stop f.stem v.text wx (by omega) (tab_below ht (bchain hbqw hx) h0) (by have := hx.size; omega)))
        have HM := Lib.hid hM
        clear hM
        refine Rel.wp_region_rel (fun wx => Below wq.heap.size wq wx) (fun wa wb => Below wa.heap.size wa wb) (by kernel_rfl) (by kernel_rfl) (bdrew (Below.refl _ _)) (fun _ => Below.refl _ _) ?_
        apply Rel.rel_one2 1 [] rfl (by kernel_rfl) (by kernel_rfl)
        case hs =>
          intro wx hx
          try simp only [Act.put, List.setIfInBounds_toArray, List.set_cons_zero, List.set_cons_succ]
          intro KK hK
          go_simp
          exact hK _ _ hx (Below.refl _ _) rfl
        apply Rel.rel_one2 2 [(0, 53)] rfl (by kernel_rfl) (by kernel_rfl)
        case hs =>
          intro wx hx
          rintro _ rfl
          have f0 := F0.out wx hx
          have f1 := F1.out wx hx
          have f2 := F2.out wx hx
          have f3 := F3.out wx hx
          have f4 := F4.out wx hx
          have f5 := F5.out wx hx
          have f6 := F6.out wx hx
          try simp only [Act.put, List.setIfInBounds_toArray, List.set_cons_zero, List.set_cons_succ]
          intro KK hK
          go_simp
          exact hK _ _ hx (Below.refl _ _) rfl
        apply Rel.rel_one2 3 [] rfl (by kernel_rfl) (by kernel_rfl)
        case hs =>
          intro wx hx
          try simp only [Act.put, List.setIfInBounds_toArray, List.set_cons_zero, List.set_cons_succ]
          intro KK hK
          go_simp
          exact hK _ _ hx (Below.refl _ _) rfl
        apply Rel.rel_one2 4 [(1, 54), (2, 55)] rfl (by kernel_rfl) (by kernel_rfl)
        case hs =>
          intro wx hx
          rintro _ rfl _ rfl
          try simp only [Act.put, List.setIfInBounds_toArray, List.set_cons_zero, List.set_cons_succ]
          intro KK hK
          go_simp
          exact hK _ _ hx (Below.refl _ _) rfl
        apply Rel.rel_one2 5 [(3, 56)] rfl (by kernel_rfl) (by kernel_rfl)
        case hs =>
          intro wx hx
          rintro _ rfl
          have f0 := F0.out wx hx
          have f1 := F1.out wx hx
          have f2 := F2.out wx hx
          have f3 := F3.out wx hx
          have f4 := F4.out wx hx
          have f5 := F5.out wx hx
          have f6 := F6.out wx hx
          try simp only [Act.put, List.setIfInBounds_toArray, List.set_cons_zero, List.set_cons_succ]
          intro KK hK
          go_simp
          exact hK _ _ hx (Below.refl _ _) rfl
        apply Rel.rel_one2 6 [] rfl (by kernel_rfl) (by kernel_rfl)
        case hs =>
          intro wx hx
          try simp only [Act.put, List.setIfInBounds_toArray, List.set_cons_zero, List.set_cons_succ]
          intro KK hK
          go_simp
          exact hK _ _ hx (Below.refl _ _) rfl
        apply Rel.rel_one2 7 [(5, 58)] rfl (by kernel_rfl) (by kernel_rfl)
        case hs =>
          intro wx hx
          rintro _ rfl
          have f0 := F0.out wx hx
          have f1 := F1.out wx hx
          have f2 := F2.out wx hx
          have f3 := F3.out wx hx
          have f4 := F4.out wx hx
          have f5 := F5.out wx hx
          have f6 := F6.out wx hx
          try simp only [Act.put, List.setIfInBounds_toArray, List.set_cons_zero, List.set_cons_succ]
          intro KK hK
          go_simp
          exact hK _ _ hx (Below.refl _ _) rfl
        apply Rel.rel_kind2 8 [(4, 57), (6, 59)] (TokV M) rfl (by kernel_rfl) (by kernel_rfl) (tokV_stable)
        case hs =>
          intro wx hx
          rintro _ rfl _ rfl
          have f0 := F0.out wx hx
          have f1 := F1.out wx hx
          have f2 := F2.out wx hx
          have f3 := F3.out wx hx
          have f4 := F4.out wx hx
          have f5 := F5.out wx hx
          have f6 := F6.out wx hx
          try simp only [Act.put, List.setIfInBounds_toArray, List.set_cons_zero, List.set_cons_succ]
          intro KK hK
          go_simp
          go_at_call 13
          refine (OA.out wx hx).mono ?_
          rintro e wy ⟨A', c', rfl, own, hby⟩
          exact hK _ _ (bchain hx hby) hby ⟨A', c', rfl, slc_own own⟩
        apply Rel.rel_kind2 9 [(7, 60)] (TokV M) rfl (by kernel_rfl) (by kernel_rfl) (tokV_stable)
        case hs =>
          intro wx hx
          rintro _ ⟨A60, c60, rfl, s60⟩
          try simp only [Act.put, List.setIfInBounds_toArray, List.set_cons_zero, List.set_cons_succ]
          intro KK hK
          go_simp
          exact hK _ _ hx (Below.refl _ _) ⟨A60, c60, rfl, s60⟩
        refine Rel.rel_end [(0, 53), (1, 54), (2, 55), (3, 56), (4, 57), (5, 58), (6, 59), (7, 60), (8, 13)] (by kernel_rfl) (by kernel_rfl) ?_
        intro wx hx
        rintro _ rfl _ rfl _ rfl _ rfl _ rfl _ rfl _ rfl _ ⟨A60, c60, rfl, s60⟩ _ ⟨A13, c13, rfl, s13⟩
        try simp only [Act.put, List.setIfInBounds_toArray, List.set_cons_zero, List.set_cons_succ]
        refine Rel.valsD_ret ?_
        go_wp2_with fail
        obtain ⟨N, hN⟩ : ∃ N, N = (fst f vs k).1.length := ⟨_, rfl⟩
        obtain ⟨bs, hbs⟩ : ∃ bs, bs = (fst f vs k).2 := ⟨_, rfl⟩
        obtain ⟨fi, hfi⟩ : ∃ fi, fi = !seenB f vs k := ⟨_, rfl⟩
        rw [← hN] at hfl2 ⊢
        rw [← hbs] at hfb
        rw [← hfi]
        have hsb : fi = true → bs = 0 := fun h => by rw [hbs]; exact seen_none f vs k hk (by rw [h] at hfi; simpa using hfi.symm)
        have HNN := Lib.hid hN
        have HBS := Lib.hid hbs
        have HSB := Lib.hid hsb
        have hbx2 : Below w2.heap.size w2 wx := bchain hbq2 hx
        have hbxw : Below w.heap.size w wx := bchain hbqw hx
        have hML := ofF_len f v.text
        rw [← HM.out] at hML
        have LB := Lib.hid (fun m => lastP_bd f vs m)
        rw [← HT.out] at LB
        clear hN hbs hfi hsb F0 F1 F2 F3 F4 F5 F6 OA s60
        have hsx := hbx2.size
        have hTcell := hLT.below hbx2 (Nat.le_refl _)
        go_loopw [8, 10, 14, 63] (fun n la sh i w6 => ∃ (m j : Nat) (σ : Int), Hid (m = N + j) ∧ j ≤ M.length ∧ i = .int .i64 j ∧ n = .int .i64 m ∧ la = .int .i64 (lastP T m) ∧ sh = .int .i64 σ ∧ Hid (0 < j → σ = bs) ∧ Below wx.heap.size wx w6) (fun _ _ _ i _ => M.length - (intOf i).toNat)
        case atStart => exact ⟨N, 0, 0, Lib.hid rfl, Nat.zero_le _, rfl, rfl, rfl, rfl, Lib.hid (fun h => by omega), Below.refl _ _⟩
        case round =>
          obtain ⟨m, j, σ, HMM, hj, rfl, rfl, rfl, rfl, hσ, hb6⟩ := hrel
          by_cases hjl : j < M.length
          · obtain ⟨t, htj⟩ : ∃ t, M[j]? = some t := ⟨_, List.getElem?_eq_getElem hjl⟩
            have htf : (ofF f v.text)[j]? = some t := by rw [← HM.out]; exact htj
            have hw := whole_at HV.out HN.out htf
            obtain ⟨gp1, gp2⟩ := gap_ok HV.out HN.out htf
            have hps := ofF_pos (List.mem_of_getElem? htf)
            rw [← HT.out, ← HNN.out, ← HBS.out, ← HMM.out] at hw gp1
            rw [← HT.out, ← HNN.out, ← HBS.out] at gp2
            have hnT := (List.getElem?_eq_some_iff.1 hw).1
            have HLA := Lib.hid (last_at hw)
            have HLPN := Lib.hid (show j = 0 → lastP T N = lastP T m from fun h => by rw [HMM.out, h]; rfl)
            have hTne : tokCells T ≠ [] := by
              intro h
              have := tokCells_len T
              rw [h] at this
              simp at this
              omega
            have hMne : tokCells M ≠ [] := by
              intro h
              have := tokCells_len M
              rw [h] at this
              simp at this
              omega
            obtain ⟨g5, o5, rfl, hg5, hc5⟩ := (s13.below hb6 (Nat.le_refl _)) hMne
            obtain ⟨u0, u1, u2, u3, u4⟩ := tok_five (B := 0) hc5 htj
            obtain ⟨gT, oT, rfl, hgT, hcT⟩ := (hTcell.below hb6 hsx) hTne
            obtain ⟨d0, d1, d2, d3, d4⟩ := tok_five (B := 0) hcT hw
            simp only [shT] at d0 d1 d2 d3 d4
            obtain ⟨lb0, lb1⟩ := LB.out m
            have hs6 := hb6.size
            have hgT6 := Nat.lt_of_lt_of_le hgT (Nat.le_trans hsx hs6)
            obtain ⟨LP, hLP⟩ : ∃ LP, LP = lastP T m := ⟨_, rfl⟩
            rw [← hLP] at HLPN lb0 lb1 gp1 ⊢
            clear hLP hc5 hcT hTne hMne htf hw htj
            by_cases hj0 : j = 0
            · have e0 : ((j : Int) == 0) = true := by rw [beq_iff_eq]; omega
              have HJ := Lib.hid hj0
              clear hj0
              have hsub : t.pos + (bs : Int) - t.pos = bs := by omega
              by_cases hN0 : 0 < N
              · cases fi
                rotate_left
                ·
                  have b0 := HSB.out rfl
                  have b1 : ((bs : Int) != 0) = false := by rw [b0]; rfl
                  clear b0
                  go_wp2_with fail
                  go_quiet (fail)
                  go_wp2_with fail
                  obtain ⟨w8, hw8⟩ : ∃ w8, w8 = (((wr.alloc (.cells #[.string t.text, .int .i64 t.value, .int .i64 t.pos, .int .i64 t.start, .int .i64 t.stop] 32)).drewN nq).setCell ⟨wr.heap.size, 1, none⟩ (.int .i64 (k : Nat))).setCell ⟨wr.heap.size, 2, none⟩ (.int .i64 (t.pos + (bs : Int))) := ⟨_, rfl⟩
                  have hk8 : Blk w8 wr.heap.size 32 #[.string t.text, .int .i64 (k : Nat), .int .i64 (t.pos + (bs : Int)), .int .i64 t.start, .int .i64 t.stop] := by rw [hw8]; exact blk_two wr nq t k _
                  have hb8 : Below wr.heap.size wr w8 := by rw [hw8]; exact (((bdrewN (balloc (Below.refl wr.heap.size wr) _) nq).setCell (p := ⟨wr.heap.size, 1, none⟩) (Nat.le_refl _) _).setCell (p := ⟨wr.heap.size, 2, none⟩) (Nat.le_refl _) _)
                  rw [← hw8]
                  clear hw8
                  have D0 := (hb8.cell (p := ⟨gT, oT + m * 5, none⟩) hgT6).trans d0
                  have D1 := (hb8.cell (p := ⟨gT, oT + m * 5 + 1, none⟩) hgT6).trans d1
                  have D2 := (hb8.cell (p := ⟨gT, oT + m * 5 + 2, none⟩) hgT6).trans d2
                  have D3 := (hb8.cell (p := ⟨gT, oT + m * 5 + 3, none⟩) hgT6).trans d3
                  have D4 := (hb8.cell (p := ⟨gT, oT + m * 5 + 4, none⟩) hgT6).trans d4
                  have Q0 : w8.cell? ⟨wr.heap.size, 0, none⟩ = some (.string t.text) := (hk8.cell 0).trans rfl
                  have Q1 : w8.cell? ⟨wr.heap.size, 1, none⟩ = some (.int .i64 (k : Nat)) := (hk8.cell 1).trans rfl
                  have Q2 : w8.cell? ⟨wr.heap.size, 2, none⟩ = some (.int .i64 (t.pos + (bs : Int))) := (hk8.cell 2).trans rfl
                  have Q3 : w8.cell? ⟨wr.heap.size, 3, none⟩ = some (.int .i64 t.start) := (hk8.cell 3).trans rfl
                  have Q4 : w8.cell? ⟨wr.heap.size, 4, none⟩ = some (.int .i64 t.stop) := (hk8.cell 4).trans rfl
                  have i1 : IntKind.i64.wrap (LP + 1) = LP + 1 := IntWalk.i64_in _ (by omega)
                  have i2 : IntKind.i64.wrap (LP + 16) = LP + 16 := IntWalk.i64_in _ (by omega)
                  have m1 : decide ((0 : Int) < (m : Int)) = true := decide_eq_true (by have := HJ.out; have := HMM.out; omega)
                  have m1n : decide (0 < m) = true := decide_eq_true (by have := HJ.out; have := HMM.out; omega)
                  have m2 : decide (t.pos + (bs : Int) < LP + 1) = false := decide_eq_false (by have := gp1 (by have := HJ.out; have := HMM.out; omega); omega)
                  have m3 : decide (t.pos + (bs : Int) < LP + 16) = false := decide_eq_false (by have := gp2 HJ.out (by omega); rw [HLPN.out HJ.out] at this; omega)
                  clear hN0
                  clear d0 d1 d2 d3 d4 u0 u1 u2 u3 u4 gp1 gp2
                  go_wp2_with fail
                  go_quiet (fail)
                  go_wp2_with fail
                  go_roundw
                  case rel => exact ⟨m + 1, j + 1, _, Lib.hid (by rw [HMM.out]; rfl), by omega, by go_num, by go_num, by rw [HLA.out]; rfl, rfl, Lib.hid (fun _ => rfl), hb6.trans ((hb8.mono hs6).trans ⟨rfl, rfl, rfl, Nat.le_refl _, fun _ _ => rfl⟩)⟩
                  case measure => simp [intOf]; omega
                ·
                  go_wp2_with fail
                  go_quiet (fail)
                  go_wp2_with fail
                  obtain ⟨w8, hw8⟩ : ∃ w8, w8 = (((wr.alloc (.cells #[.string t.text, .int .i64 t.value, .int .i64 t.pos, .int .i64 t.start, .int .i64 t.stop] 32)).drewN nq).setCell ⟨wr.heap.size, 1, none⟩ (.int .i64 (k : Nat))).setCell ⟨wr.heap.size, 2, none⟩ (.int .i64 (t.pos + (bs : Int))) := ⟨_, rfl⟩
                  have hk8 : Blk w8 wr.heap.size 32 #[.string t.text, .int .i64 (k : Nat), .int .i64 (t.pos + (bs : Int)), .int .i64 t.start, .int .i64 t.stop] := by rw [hw8]; exact blk_two wr nq t k _
                  have hb8 : Below wr.heap.size wr w8 := by rw [hw8]; exact (((bdrewN (balloc (Below.refl wr.heap.size wr) _) nq).setCell (p := ⟨wr.heap.size, 1, none⟩) (Nat.le_refl _) _).setCell (p := ⟨wr.heap.size, 2, none⟩) (Nat.le_refl _) _)
                  rw [← hw8]
                  clear hw8
                  have D0 := (hb8.cell (p := ⟨gT, oT + m * 5, none⟩) hgT6).trans d0
                  have D1 := (hb8.cell (p := ⟨gT, oT + m * 5 + 1, none⟩) hgT6).trans d1
                  have D2 := (hb8.cell (p := ⟨gT, oT + m * 5 + 2, none⟩) hgT6).trans d2
                  have D3 := (hb8.cell (p := ⟨gT, oT + m * 5 + 3, none⟩) hgT6).trans d3
                  have D4 := (hb8.cell (p := ⟨gT, oT + m * 5 + 4, none⟩) hgT6).trans d4
                  have Q0 : w8.cell? ⟨wr.heap.size, 0, none⟩ = some (.string t.text) := (hk8.cell 0).trans rfl
                  have Q1 : w8.cell? ⟨wr.heap.size, 1, none⟩ = some (.int .i64 (k : Nat)) := (hk8.cell 1).trans rfl
                  have Q2 : w8.cell? ⟨wr.heap.size, 2, none⟩ = some (.int .i64 (t.pos + (bs : Int))) := (hk8.cell 2).trans rfl
                  have Q3 : w8.cell? ⟨wr.heap.size, 3, none⟩ = some (.int .i64 t.start) := (hk8.cell 3).trans rfl
                  have Q4 : w8.cell? ⟨wr.heap.size, 4, none⟩ = some (.int .i64 t.stop) := (hk8.cell 4).trans rfl
                  have i1 : IntKind.i64.wrap (LP + 1) = LP + 1 := IntWalk.i64_in _ (by omega)
                  have i2 : IntKind.i64.wrap (LP + 16) = LP + 16 := IntWalk.i64_in _ (by omega)
                  have m1 : decide ((0 : Int) < (m : Int)) = true := decide_eq_true (by have := HJ.out; have := HMM.out; omega)
                  have m1n : decide (0 < m) = true := decide_eq_true (by have := HJ.out; have := HMM.out; omega)
                  have m2 : decide (t.pos + (bs : Int) < LP + 1) = false := decide_eq_false (by have := gp1 (by have := HJ.out; have := HMM.out; omega); omega)
                  have m3 : decide (t.pos + (bs : Int) < LP + 16) = false := decide_eq_false (by have := gp2 HJ.out (by omega); rw [HLPN.out HJ.out] at this; omega)
                  clear hN0
                  clear d0 d1 d2 d3 d4 u0 u1 u2 u3 u4 gp1 gp2
                  go_wp2_with fail
                  go_quiet (fail)
                  go_wp2_with fail
                  go_roundw
                  case rel => exact ⟨m + 1, j + 1, _, Lib.hid (by rw [HMM.out]; rfl), by omega, by go_num, by go_num, by rw [HLA.out]; rfl, rfl, Lib.hid (fun _ => rfl), hb6.trans ((hb8.mono hs6).trans ⟨rfl, rfl, rfl, Nat.le_refl _, fun _ _ => rfl⟩)⟩
                  case measure => simp [intOf]; omega
              · cases fi
                rotate_left
                ·
                  have b0 := HSB.out rfl
                  have b1 : ((bs : Int) != 0) = false := by rw [b0]; rfl
                  clear b0
                  go_wp2_with fail
                  go_quiet (fail)
                  go_wp2_with fail
                  obtain ⟨w8, hw8⟩ : ∃ w8, w8 = (((wr.alloc (.cells #[.string t.text, .int .i64 t.value, .int .i64 t.pos, .int .i64 t.start, .int .i64 t.stop] 32)).drewN nq).setCell ⟨wr.heap.size, 1, none⟩ (.int .i64 (k : Nat))).setCell ⟨wr.heap.size, 2, none⟩ (.int .i64 (t.pos + (bs : Int))) := ⟨_, rfl⟩
                  have hk8 : Blk w8 wr.heap.size 32 #[.string t.text, .int .i64 (k : Nat), .int .i64 (t.pos + (bs : Int)), .int .i64 t.start, .int .i64 t.stop] := by rw [hw8]; exact blk_two wr nq t k _
                  have hb8 : Below wr.heap.size wr w8 := by rw [hw8]; exact (((bdrewN (balloc (Below.refl wr.heap.size wr) _) nq).setCell (p := ⟨wr.heap.size, 1, none⟩) (Nat.le_refl _) _).setCell (p := ⟨wr.heap.size, 2, none⟩) (Nat.le_refl _) _)
                  rw [← hw8]
                  clear hw8
                  have D0 := (hb8.cell (p := ⟨gT, oT + m * 5, none⟩) hgT6).trans d0
                  have D1 := (hb8.cell (p := ⟨gT, oT + m * 5 + 1, none⟩) hgT6).trans d1
                  have D2 := (hb8.cell (p := ⟨gT, oT + m * 5 + 2, none⟩) hgT6).trans d2
                  have D3 := (hb8.cell (p := ⟨gT, oT + m * 5 + 3, none⟩) hgT6).trans d3
                  have D4 := (hb8.cell (p := ⟨gT, oT + m * 5 + 4, none⟩) hgT6).trans d4
                  have Q0 : w8.cell? ⟨wr.heap.size, 0, none⟩ = some (.string t.text) := (hk8.cell 0).trans rfl
                  have Q1 : w8.cell? ⟨wr.heap.size, 1, none⟩ = some (.int .i64 (k : Nat)) := (hk8.cell 1).trans rfl
                  have Q2 : w8.cell? ⟨wr.heap.size, 2, none⟩ = some (.int .i64 (t.pos + (bs : Int))) := (hk8.cell 2).trans rfl
                  have Q3 : w8.cell? ⟨wr.heap.size, 3, none⟩ = some (.int .i64 t.start) := (hk8.cell 3).trans rfl
                  have Q4 : w8.cell? ⟨wr.heap.size, 4, none⟩ = some (.int .i64 t.stop) := (hk8.cell 4).trans rfl
                  have i1 : IntKind.i64.wrap (LP + 1) = LP + 1 := IntWalk.i64_in _ (by omega)
                  have i2 : IntKind.i64.wrap (LP + 16) = LP + 16 := IntWalk.i64_in _ (by omega)
                  have m1 : decide ((0 : Int) < (m : Int)) = false := decide_eq_false (by have := HJ.out; have := HMM.out; omega)
                  have m1n : decide (0 < m) = false := decide_eq_false (by have := HJ.out; have := HMM.out; omega)
                  clear hN0
                  clear d0 d1 d2 d3 d4 u0 u1 u2 u3 u4 gp1 gp2
                  go_wp2_with fail
                  go_quiet (fail)
                  go_wp2_with fail
                  go_roundw
                  case rel => exact ⟨m + 1, j + 1, _, Lib.hid (by rw [HMM.out]; rfl), by omega, by go_num, by go_num, by rw [HLA.out]; rfl, rfl, Lib.hid (fun _ => rfl), hb6.trans ((hb8.mono hs6).trans ⟨rfl, rfl, rfl, Nat.le_refl _, fun _ _ => rfl⟩)⟩
                  case measure => simp [intOf]; omega
                ·
                  go_wp2_with fail
                  go_quiet (fail)
                  go_wp2_with fail
                  obtain ⟨w8, hw8⟩ : ∃ w8, w8 = (((wr.alloc (.cells #[.string t.text, .int .i64 t.value, .int .i64 t.pos, .int .i64 t.start, .int .i64 t.stop] 32)).drewN nq).setCell ⟨wr.heap.size, 1, none⟩ (.int .i64 (k : Nat))).setCell ⟨wr.heap.size, 2, none⟩ (.int .i64 (t.pos + (bs : Int))) := ⟨_, rfl⟩
                  have hk8 : Blk w8 wr.heap.size 32 #[.string t.text, .int .i64 (k : Nat), .int .i64 (t.pos + (bs : Int)), .int .i64 t.start, .int .i64 t.stop] := by rw [hw8]; exact blk_two wr nq t k _
                  have hb8 : Below wr.heap.size wr w8 := by rw [hw8]; exact (((bdrewN (balloc (Below.refl wr.heap.size wr) _) nq).setCell (p := ⟨wr.heap.size, 1, none⟩) (Nat.le_refl _) _).setCell (p := ⟨wr.heap.size, 2, none⟩) (Nat.le_refl _) _)
                  rw [← hw8]
                  clear hw8
                  have D0 := (hb8.cell (p := ⟨gT, oT + m * 5, none⟩) hgT6).trans d0
                  have D1 := (hb8.cell (p := ⟨gT, oT + m * 5 + 1, none⟩) hgT6).trans d1
                  have D2 := (hb8.cell (p := ⟨gT, oT + m * 5 + 2, none⟩) hgT6).trans d2
                  have D3 := (hb8.cell (p := ⟨gT, oT + m * 5 + 3, none⟩) hgT6).trans d3
                  have D4 := (hb8.cell (p := ⟨gT, oT + m * 5 + 4, none⟩) hgT6).trans d4
                  have Q0 : w8.cell? ⟨wr.heap.size, 0, none⟩ = some (.string t.text) := (hk8.cell 0).trans rfl
                  have Q1 : w8.cell? ⟨wr.heap.size, 1, none⟩ = some (.int .i64 (k : Nat)) := (hk8.cell 1).trans rfl
                  have Q2 : w8.cell? ⟨wr.heap.size, 2, none⟩ = some (.int .i64 (t.pos + (bs : Int))) := (hk8.cell 2).trans rfl
                  have Q3 : w8.cell? ⟨wr.heap.size, 3, none⟩ = some (.int .i64 t.start) := (hk8.cell 3).trans rfl
                  have Q4 : w8.cell? ⟨wr.heap.size, 4, none⟩ = some (.int .i64 t.stop) := (hk8.cell 4).trans rfl
                  have i1 : IntKind.i64.wrap (LP + 1) = LP + 1 := IntWalk.i64_in _ (by omega)
                  have i2 : IntKind.i64.wrap (LP + 16) = LP + 16 := IntWalk.i64_in _ (by omega)
                  have m1 : decide ((0 : Int) < (m : Int)) = false := decide_eq_false (by have := HJ.out; have := HMM.out; omega)
                  have m1n : decide (0 < m) = false := decide_eq_false (by have := HJ.out; have := HMM.out; omega)
                  clear hN0
                  clear d0 d1 d2 d3 d4 u0 u1 u2 u3 u4 gp1 gp2
                  go_wp2_with fail
                  go_quiet (fail)
                  go_wp2_with fail
                  go_roundw
                  case rel => exact ⟨m + 1, j + 1, _, Lib.hid (by rw [HMM.out]; rfl), by omega, by go_num, by go_num, by rw [HLA.out]; rfl, rfl, Lib.hid (fun _ => rfl), hb6.trans ((hb8.mono hs6).trans ⟨rfl, rfl, rfl, Nat.le_refl _, fun _ _ => rfl⟩)⟩
                  case measure => simp [intOf]; omega
            · have e0 : ((j : Int) == 0) = false := by rw [beq_eq_false_iff_ne]; omega
              have HJ := Lib.hid (show 0 < j by omega)
              have hs0 := hσ.out (by omega)
              clear hj0
              subst hs0
              cases fi
              rotate_left
              ·
                have b0 := HSB.out rfl
                have b1 : ((bs : Int) != 0) = false := by rw [b0]; rfl
                clear b0
                go_wp2_with fail
                obtain ⟨w8, hw8⟩ : ∃ w8, w8 = wr.alloc (.cells #[.string t.text, .int .i64 (k : Nat), .int .i64 (t.pos + (bs : Int)), .int .i64 t.start, .int .i64 t.stop] 32) := ⟨_, rfl⟩
                have hk8 : Blk w8 wr.heap.size 32 #[.string t.text, .int .i64 (k : Nat), .int .i64 (t.pos + (bs : Int)), .int .i64 t.start, .int .i64 t.stop] := by rw [hw8]; exact Blk.new wr _ _
                have hb8 : Below wr.heap.size wr w8 := by rw [hw8]; exact balloc (Below.refl wr.heap.size wr) _
                rw [← hw8]
                clear hw8
                have D0 := (hb8.cell (p := ⟨gT, oT + m * 5, none⟩) hgT6).trans d0
                have D1 := (hb8.cell (p := ⟨gT, oT + m * 5 + 1, none⟩) hgT6).trans d1
                have D2 := (hb8.cell (p := ⟨gT, oT + m * 5 + 2, none⟩) hgT6).trans d2
                have D3 := (hb8.cell (p := ⟨gT, oT + m * 5 + 3, none⟩) hgT6).trans d3
                have D4 := (hb8.cell (p := ⟨gT, oT + m * 5 + 4, none⟩) hgT6).trans d4
                have Q0 : w8.cell? ⟨wr.heap.size, 0, none⟩ = some (.string t.text) := (hk8.cell 0).trans rfl
                have Q1 : w8.cell? ⟨wr.heap.size, 1, none⟩ = some (.int .i64 (k : Nat)) := (hk8.cell 1).trans rfl
                have Q2 : w8.cell? ⟨wr.heap.size, 2, none⟩ = some (.int .i64 (t.pos + (bs : Int))) := (hk8.cell 2).trans rfl
                have Q3 : w8.cell? ⟨wr.heap.size, 3, none⟩ = some (.int .i64 t.start) := (hk8.cell 3).trans rfl
                have Q4 : w8.cell? ⟨wr.heap.size, 4, none⟩ = some (.int .i64 t.stop) := (hk8.cell 4).trans rfl
                have i1 : IntKind.i64.wrap (LP + 1) = LP + 1 := IntWalk.i64_in _ (by omega)
                have i2 : IntKind.i64.wrap (LP + 16) = LP + 16 := IntWalk.i64_in _ (by omega)
                have m1 : decide ((0 : Int) < (m : Int)) = true := decide_eq_true (by have := HJ.out; have := HMM.out; omega)
                have m1n : decide (0 < m) = true := decide_eq_true (by have := HJ.out; have := HMM.out; omega)
                have m2 : decide (t.pos + (bs : Int) < LP + 1) = false := decide_eq_false (by have := gp1 (by have := HJ.out; have := HMM.out; omega); omega)
                clear d0 d1 d2 d3 d4 u0 u1 u2 u3 u4 gp1 gp2
                go_wp2_with fail
                go_quiet (fail)
                go_wp2_with fail
                go_roundw
                case rel => exact ⟨m + 1, j + 1, _, Lib.hid (by rw [HMM.out]; rfl), by omega, by go_num, by go_num, by rw [HLA.out]; rfl, rfl, Lib.hid (fun _ => rfl), hb6.trans ((hb8.mono hs6).trans ⟨rfl, rfl, rfl, Nat.le_refl _, fun _ _ => rfl⟩)⟩
                case measure => simp [intOf]; omega
              ·
                go_wp2_with fail
                obtain ⟨w8, hw8⟩ : ∃ w8, w8 = wr.alloc (.cells #[.string t.text, .int .i64 (k : Nat), .int .i64 (t.pos + (bs : Int)), .int .i64 t.start, .int .i64 t.stop] 32) := ⟨_, rfl⟩
                have hk8 : Blk w8 wr.heap.size 32 #[.string t.text, .int .i64 (k : Nat), .int .i64 (t.pos + (bs : Int)), .int .i64 t.start, .int .i64 t.stop] := by rw [hw8]; exact Blk.new wr _ _
                have hb8 : Below wr.heap.size wr w8 := by rw [hw8]; exact balloc (Below.refl wr.heap.size wr) _
                rw [← hw8]
                clear hw8
                have D0 := (hb8.cell (p := ⟨gT, oT + m * 5, none⟩) hgT6).trans d0
                have D1 := (hb8.cell (p := ⟨gT, oT + m * 5 + 1, none⟩) hgT6).trans d1
                have D2 := (hb8.cell (p := ⟨gT, oT + m * 5 + 2, none⟩) hgT6).trans d2
                have D3 := (hb8.cell (p := ⟨gT, oT + m * 5 + 3, none⟩) hgT6).trans d3
                have D4 := (hb8.cell (p := ⟨gT, oT + m * 5 + 4, none⟩) hgT6).trans d4
                have Q0 : w8.cell? ⟨wr.heap.size, 0, none⟩ = some (.string t.text) := (hk8.cell 0).trans rfl
                have Q1 : w8.cell? ⟨wr.heap.size, 1, none⟩ = some (.int .i64 (k : Nat)) := (hk8.cell 1).trans rfl
                have Q2 : w8.cell? ⟨wr.heap.size, 2, none⟩ = some (.int .i64 (t.pos + (bs : Int))) := (hk8.cell 2).trans rfl
                have Q3 : w8.cell? ⟨wr.heap.size, 3, none⟩ = some (.int .i64 t.start) := (hk8.cell 3).trans rfl
                have Q4 : w8.cell? ⟨wr.heap.size, 4, none⟩ = some (.int .i64 t.stop) := (hk8.cell 4).trans rfl
                have i1 : IntKind.i64.wrap (LP + 1) = LP + 1 := IntWalk.i64_in _ (by omega)
                have i2 : IntKind.i64.wrap (LP + 16) = LP + 16 := IntWalk.i64_in _ (by omega)
                have m1 : decide ((0 : Int) < (m : Int)) = true := decide_eq_true (by have := HJ.out; have := HMM.out; omega)
                have m1n : decide (0 < m) = true := decide_eq_true (by have := HJ.out; have := HMM.out; omega)
                have m2 : decide (t.pos + (bs : Int) < LP + 1) = false := decide_eq_false (by have := gp1 (by have := HJ.out; have := HMM.out; omega); omega)
                clear d0 d1 d2 d3 d4 u0 u1 u2 u3 u4 gp1 gp2
                go_wp2_with fail
                go_quiet (fail)
                go_wp2_with fail
                go_roundw
                case rel => exact ⟨m + 1, j + 1, _, Lib.hid (by rw [HMM.out]; rfl), by omega, by go_num, by go_num, by rw [HLA.out]; rfl, rfl, Lib.hid (fun _ => rfl), hb6.trans ((hb8.mono hs6).trans ⟨rfl, rfl, rfl, Nat.le_refl _, fun _ _ => rfl⟩)⟩
                case measure => simp [intOf]; omega
          · obtain rfl : j = M.length := by omega
            have HY := Lib.hid (fst_yes HV.out HN.out)
            have HS := Lib.hid (seen_yes HV.out HN.out)
            go_wp2_with fail
            go_roundw
            case rel =>
              refine ⟨k + 1, by omega, by go_num, ?_, by rw [HS.out]; rfl, ?_, hbx2.trans (hb6.mono hsx)⟩
              · rw [HY.out, HMM.out]; simp only [List.length_append, List.length_map]; rw [← HNN.out, ← HM.out]
              · rw [HY.out, HMM.out]; simp only [List.length_append, List.length_map]; rw [← HNN.out, ← HM.out]
            case measure => simp [intOf]; omega
      · have HY := Lib.hid (fst_no hv hn)
        have HS := Lib.hid (seen_no hv hn)
        have n1 : (v.nm.toList == f.nm.toList) = false := by
          rw [beq_eq_false_iff_ne, ByteArray.toList_eq, ByteArray.toList_eq]
          intro h; apply hn
          have := Array.toList_inj.1 h
          cases hx : v.nm; cases hy : f.nm; rw [hx, hy] at this; simp only at this; rw [this]
        have n2 : (v.nm.toList != f.nm.toList) = true := by rw [bne, n1]; rfl
        clear hn
        go_wp2_with fail
        go_quiet (fail)
        go_wp2_with fail
        go_roundw
        case rel => exact ⟨k + 1, by omega, by go_num, by rw [HY.out], by rw [HS.out], by rw [HY.out], hba2.trans ⟨rfl, rfl, rfl, Nat.le_refl _, fun _ _ => rfl⟩⟩
        case measure => simp [intOf]; omega
    · obtain rfl : k = vs.length := by omega
      rw [← HT.out]
      go_wp2_with fail
      go_ret
      exact ⟨rfl, hbelw⟩

theorem walk (fs : List Fld) (i : Int) (vs : List Val) (A1 A2 : Option Addr) (c1 c2 : Nat) (w : World) (ht : Tab w) (h0 : 0 < w.heap.size) (hfl : fs.length ≤ 1048576) (hvs : vsum vs ≤ 1099511627)
    (h1 : Slc w w.heap.size A1 (fldCells fs)) (h2 : Slc w w.heap.size A2 (valCells vs)) :
    Calls Tryd.prog 7 #[.agg #[.slice A1 fs.length c1], .int .i64 i, .slice A2 vs.length c2] w fun e w' => e = .returned (.bool true) ∧ Below w.heap.size w w' := by
  by_cases h : 0 ≤ i ∧ i < fs.length
  · obtain ⟨k0, rfl⟩ := Int.eq_ofNat_of_zero_le h.1
    obtain ⟨f, hf⟩ : ∃ f, fs[k0]? = some f := ⟨_, List.getElem?_eq_getElem (by omega)⟩
    exact walk_in fs k0 f vs A1 A2 c1 c2 w ht h0 hf hfl hvs h1 h2
  · exact walk_out fs i vs A1 A2 c1 c2 w hfl h
end Go.Proofs.YtmoahflgcojfcaaDoor.TokensGapsWalk
