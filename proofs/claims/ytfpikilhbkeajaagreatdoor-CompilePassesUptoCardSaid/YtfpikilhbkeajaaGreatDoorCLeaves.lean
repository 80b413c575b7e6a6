/-
  The walk of compile's leaves.
  The walk of compile's allLeaves.
  'for l := range m' over a set of leaves.
-/
import Derived.Test.YtfpikilhbkeajaaGreatDoorEmitQ0
import Derived.Carry
import Derived.Test.YtfpikilhbkeajaaGreatDoorCEmitA
set_option linter.unusedVariables false
set_option linter.unusedSimpArgs false
namespace Go.Proofs.YtfpikilhbkeajaaGreatDoor.PutLeaves
set_option maxRecDepth 100000
open Go.RowKit Go.PlainAid Base Query QrySize EmitPlain EmitBase EmitPut LeafMap EmitNear EmitRaw EmitMost EmitQ0

def Put (w w' : World) (b n : Nat) (S L : List Lf) : Prop := IsSet w' b (n + L.length) (S ++ L) ∧ w.grownBy w' (some b)
def LC (q : Qry) : Prop := ∀ (cs : List Value) (b n : Nat) (S : List Lf) (w : World), QVal w b cs q → IsSet w b n S → n + (leafs q).length < maxLen →
  Calls Tryz.prog 69 #[.map (some b), .agg cs.toArray] w fun e w' => e = .returned (.tuple #[]) ∧ Put w w' b n S (leafs q)
theorem qv_grown {w w' : World} {b : Nat} {cs : List Value} {q : Qry} (h : QVal w b cs q) (hg : w.grownBy w' (some b)) (hb : b ≤ w.heap.size) : QVal w' b cs q :=
  h.kept (grown_below hg (fun k e => by obtain rfl := Option.some.inj e; exact Nat.le_refl _) hb) (Nat.le_refl _)
theorem set_alloc {w : World} {b n : Nat} {S : List Lf} (h : IsSet w b n S) (o : Obj) : IsSet (w.alloc o) b n S := h.below ((Below.refl _ _).alloc (Nat.le_refl _) o) h.lt

set_option maxHeartbeats 4000000 in
theorem leavesO (hd : Head) (ks : List Qry) (k4 : hd.kind ≠ 4) (k5 : hd.kind ≠ 5) (IH : ∀ k ∈ ks, LC k) : LC (.mk hd ks) := by
  intro cs b n S w hq hset hfit
  obtain ⟨_, _, A1, A2, A3, A4, c1, c2, c3, c4, kc, hw, hkl, h1, h2, h3, h4, h5⟩ := hq
  have hlf : leafs (.mk hd ks) = hleafs hd ++ leafss ks := rfl
  rw [hlf] at hfit
  have hb := hset.lt
  obtain ⟨C, hC⟩ : ∃ C, C = qcells hd ks.length A1 A2 A3 A4 c1 c2 c3 c4 := ⟨_, rfl⟩
  obtain ⟨W1, hW1⟩ : ∃ W, W = w.alloc (.cells C 29) := ⟨_, rfl⟩
  have K1 : Blk W1 w.heap.size 29 C := by rw [hW1]; exact Blk.new w _ _
  have hbW : Below w.heap.size w W1 := by rw [hW1]; exact Base.bel
  have HBW0 := Lib.hid hbW
  have HB0 := Lib.hid hb
  have HBW := Lib.hid (hbW.mono (Nat.le_of_lt hb))
  have HSET := Lib.hid (hset.below hbW hset.lt)
  have HF := Lib.hid hfit
  have HLF := Lib.hid hlf
  have HI := Lib.hid IH
  have HKL := Lib.hid hkl
  have HWF := Lib.hid hw
  have HT := Lib.hid h1
  have H4 := Lib.hid h4
  have H5 := Lib.hid h5
  unfold qcells at hC
  rw [hC] at K1 hW1
  have HW := Lib.hid hW1
  obtain ⟨y0, y1, y2, y3, y4, y5, y6, y7, y8, y9, y10, y11, y12, y13, y14⟩ := qcs K1
  clear hC hW1 hset hfit hlf IH hkl hw h1 h2 h3 h4 h5 hbW
  have b4 : (hd.kind == 4) = false := beq_eq_false_iff_ne.2 k4
  have b5 : (hd.kind == 5) = false := beq_eq_false_iff_ne.2 k5
  have HHL : Hid (hleafs hd = []) := Lib.hid (by unfold hleafs; rw [if_neg k4, if_neg k5])
  have HS1 := Lib.hid (by have := HSET.out; exact this : IsSet W1 b n S)
  have HG1 : Hid (W1.grownBy W1 (some b)) := Lib.hid (grown_of_below (Below.refl _ _) _)
  have HFIT := Lib.hid (by have := HF.out; rw [HHL.out] at this; simpa using this : n + (leafss ks).length < maxLen)
  clear k4 k5
  go_enter Tryz.func69, Tryz.ntmps69
  go_upto_region 1 with fail
  rw [← HW.out]
  go_wp2_with fail
  go_loopw [36] (fun i wr => ∃ k : Nat, k ≤ ks.length ∧ i = .int .i64 k ∧ IsSet wr b (n + (leafss (ks.take k)).length) (S ++ leafss (ks.take k)) ∧ W1.grownBy wr (some b)) (fun i _ => ks.length - (intOf i).toNat)
  case atStart => exact ⟨0, Nat.zero_le _, rfl, by simpa [leafss] using HS1.out, HG1.out⟩
  case round =>
    obtain ⟨k, hk, rfl, hset, hgr⟩ := hrel
    rcases Nat.lt_or_ge k ks.length with hlt | hge
    · obtain ⟨y, hy⟩ : ∃ y, ks[k]? = some y := ⟨_, List.getElem?_eq_getElem hlt⟩
      obtain ⟨g, o, e4, hg4, hc4⟩ := H4.out (by intro e; rw [e] at hlt; simp at hlt)
      subst e4
      have hbel : Below b w wr := HBW.out.trans (grown_below hgr (fun k e => by obtain rfl := Option.some.inj e; exact Nat.le_refl _) (by have := HBW.out.size; have := HB0.out; omega))
      obtain ⟨B1, B2, B3, B4, d1, d2, d3, d4, e5, x0, x1, x2, x3, x4, x5, x6, x7, x8, x9, x10, x11, x12, x13, x14⟩ := kid_cells ((H5.out k y hy).kept hbel (Nat.le_refl _)) (fun j u hu => (hbel.cell (p := ⟨g, o + k * 15 + j, none⟩) hg4).trans (hc4 k hlt j u hu))
      have i1 : (k : Int) < (ks.length : Int) := by omega
      have i3 : (k : Int) < 9223372036854775807 := by have := HKL.out; unfold maxLen at this; omega
      have hle : (leafss (ks.take (k + 1))).length ≤ (leafss ks).length := by
        have : leafss ks = leafss (ks.take (k + 1)) ++ leafss (ks.drop (k + 1)) := by rw [← leafss_append, List.take_append_drop]
        rw [this, List.length_append]; omega
      have htk := leafss_take hy
      rw [htk, List.length_append] at hle
      have HC := Lib.hid (fun o => HI.out y (List.mem_of_getElem? hy) (kc k) b (n + (leafss (ks.take k)).length) (S ++ leafss (ks.take k)) (wr.alloc o) ((H5.out k y hy).kept (hbel.alloc (by have := HBW.out.size; have := hgr.size; have := HB0.out; omega) o) (Nat.le_refl _)) (set_alloc hset o) (by have := HFIT.out; omega))
      rw [e5] at HC
      unfold qcells at HC
      have HY := Lib.hid htk
      have HGR := Lib.hid hgr
      clear hle htk hset hgr hbel hy hc4 e5 hlt
      go_wp2_with (go_at_call 69; refine (HC.out _).mono ?_; rintro e w2 ⟨rfl, hp2⟩)
      go_roundw
      case rel =>
        refine ⟨k + 1, by omega, by go_num, ?_, grown_chain HGR.out (grown_chain (grown_of_below ((Below.refl _ _).alloc (Nat.le_refl _) _) _) hp2.2)⟩
        have h1 := hp2.1
        rw [HY.out, List.length_append, ← List.append_assoc, ← Nat.add_assoc]
        exact h1
      case measure => simp [intOf]; omega
    · obtain rfl : k = ks.length := by omega
      rw [List.take_length] at hset
      have HSE := Lib.hid hset
      have HGR := Lib.hid hgr
      clear hset hgr
      go_wp2_with fail
      go_end0
      exact ⟨rfl, by rw [HLF.out, HHL.out, List.nil_append]; exact HSE.out, grown_chain (grown_of_below HBW0.out _) HGR.out⟩

set_option maxHeartbeats 4000000 in
theorem leavesT (hd : Head) (ks : List Qry) (k4 : hd.kind = 4) (IH : ∀ k ∈ ks, LC k) : LC (.mk hd ks) := by
  intro cs b n S w hq hset hfit
  obtain ⟨_, _, A1, A2, A3, A4, c1, c2, c3, c4, kc, hw, hkl, h1, h2, h3, h4, h5⟩ := hq
  have hlf : leafs (.mk hd ks) = hleafs hd ++ leafss ks := rfl
  rw [hlf] at hfit
  have hb := hset.lt
  obtain ⟨C, hC⟩ : ∃ C, C = qcells hd ks.length A1 A2 A3 A4 c1 c2 c3 c4 := ⟨_, rfl⟩
  obtain ⟨W1, hW1⟩ : ∃ W, W = w.alloc (.cells C 29) := ⟨_, rfl⟩
  have K1 : Blk W1 w.heap.size 29 C := by rw [hW1]; exact Blk.new w _ _
  have hbW : Below w.heap.size w W1 := by rw [hW1]; exact Base.bel
  have HBW0 := Lib.hid hbW
  have HB0 := Lib.hid hb
  have HBW := Lib.hid (hbW.mono (Nat.le_of_lt hb))
  have HSET := Lib.hid (hset.below hbW hset.lt)
  have HF := Lib.hid hfit
  have HLF := Lib.hid hlf
  have HI := Lib.hid IH
  have HKL := Lib.hid hkl
  have HWF := Lib.hid hw
  have HT := Lib.hid h1
  have H4 := Lib.hid h4
  have H5 := Lib.hid h5
  unfold qcells at hC
  rw [hC] at K1 hW1
  have HW := Lib.hid hW1
  obtain ⟨y0, y1, y2, y3, y4, y5, y6, y7, y8, y9, y10, y11, y12, y13, y14⟩ := qcs K1
  clear hC hW1 hset hfit hlf IH hkl hw h1 h2 h3 h4 h5 hbW
  have hb4 : (hd.kind == 4) = true := beq_iff_eq.2 k4
  have HHL : Hid (hleafs hd = [⟨hd.field, hd.text⟩]) := Lib.hid (by unfold hleafs; rw [if_pos k4])
  have HFIT := Lib.hid (by have := HF.out; rw [HHL.out] at this; simp only [List.length_append, List.length_singleton] at this; omega : (n + 1) + (leafss ks).length < maxLen)
  obtain ⟨wp, hrun, hs', hg'⟩ := HSET.out.put (l := ⟨hd.field, hd.text⟩) ⟨HWF.out.field, HWF.out.text⟩ (by have := HFIT.out; omega)
  unfold lfV at hrun
  have HK1 := Lib.hid K1
  have y14p : wp.cell? ⟨w.heap.size, 14, none⟩ = some (.slice A4 ks.length c4) := (HK1.out.grown hg' (fun e => by have h1 := Option.some.inj e; have := HB0.out; omega)).cell 14
  have HS1 := Lib.hid hs'
  have HG1 := Lib.hid hg'
  clear k4 hs' hg' K1 hb
  go_enter Tryz.func69, Tryz.ntmps69
  go_upto_region 1 with fail
  rw [← HW.out]
  go_wp2_with fail
  go_loopw [36] (fun i wr => ∃ k : Nat, k ≤ ks.length ∧ i = .int .i64 k ∧ IsSet wr b (n + 1 + (leafss (ks.take k)).length) (S ++ [⟨hd.field, hd.text⟩] ++ leafss (ks.take k)) ∧ W1.grownBy wr (some b)) (fun i _ => ks.length - (intOf i).toNat)
  case atStart => exact ⟨0, Nat.zero_le _, rfl, by simpa [leafss] using HS1.out, HG1.out⟩
  case round =>
    obtain ⟨k, hk, rfl, hset, hgr⟩ := hrel
    rcases Nat.lt_or_ge k ks.length with hlt | hge
    · obtain ⟨y, hy⟩ : ∃ y, ks[k]? = some y := ⟨_, List.getElem?_eq_getElem hlt⟩
      obtain ⟨g, o, e4, hg4, hc4⟩ := H4.out (by intro e; rw [e] at hlt; simp at hlt)
      subst e4
      have hbel : Below b w wr := HBW.out.trans (grown_below hgr (fun k e => by obtain rfl := Option.some.inj e; exact Nat.le_refl _) (by have := HBW.out.size; have := HB0.out; omega))
      obtain ⟨B1, B2, B3, B4, d1, d2, d3, d4, e5, x0, x1, x2, x3, x4, x5, x6, x7, x8, x9, x10, x11, x12, x13, x14⟩ := kid_cells ((H5.out k y hy).kept hbel (Nat.le_refl _)) (fun j u hu => (hbel.cell (p := ⟨g, o + k * 15 + j, none⟩) hg4).trans (hc4 k hlt j u hu))
      have i1 : (k : Int) < (ks.length : Int) := by omega
      have i3 : (k : Int) < 9223372036854775807 := by have := HKL.out; unfold maxLen at this; omega
      have hle : (leafss (ks.take (k + 1))).length ≤ (leafss ks).length := by
        have : leafss ks = leafss (ks.take (k + 1)) ++ leafss (ks.drop (k + 1)) := by rw [← leafss_append, List.take_append_drop]
        rw [this, List.length_append]; omega
      have htk := leafss_take hy
      rw [htk, List.length_append] at hle
      have HC := Lib.hid (fun o => HI.out y (List.mem_of_getElem? hy) (kc k) b (n + 1 + (leafss (ks.take k)).length) (S ++ [⟨hd.field, hd.text⟩] ++ leafss (ks.take k)) (wr.alloc o) ((H5.out k y hy).kept (hbel.alloc (by have := HBW.out.size; have := hgr.size; have := HB0.out; omega) o) (Nat.le_refl _)) (set_alloc hset o) (by have := HFIT.out; omega))
      rw [e5] at HC
      unfold qcells at HC
      have HY := Lib.hid htk
      have HGR := Lib.hid hgr
      clear hle htk hset hgr hbel hy hc4 e5 hlt
      go_wp2_with (go_at_call 69; refine (HC.out _).mono ?_; rintro e w2 ⟨rfl, hp2⟩)
      go_roundw
      case rel =>
        refine ⟨k + 1, by omega, by go_num, ?_, grown_chain HGR.out (grown_chain (grown_of_below ((Below.refl _ _).alloc (Nat.le_refl _) _) _) hp2.2)⟩
        have h1 := hp2.1
        rw [HY.out, List.length_append, ← List.append_assoc, ← Nat.add_assoc]
        exact h1
      case measure => simp [intOf]; omega
    · obtain rfl : k = ks.length := by omega
      rw [List.take_length] at hset
      have HSE := Lib.hid hset
      have HGR := Lib.hid hgr
      clear hset hgr
      go_wp2_with fail
      go_end0
      exact ⟨rfl, by rw [HLF.out, HHL.out, List.length_append, ← List.append_assoc, ← Nat.add_assoc]; exact HSE.out, grown_chain (grown_of_below HBW0.out _) HGR.out⟩

set_option maxHeartbeats 4000000 in
theorem leavesP (hd : Head) (ks : List Qry) (k5 : hd.kind = 5) (IH : ∀ k ∈ ks, LC k) : LC (.mk hd ks) := by
  intro cs b n S w hq hset hfit
  obtain ⟨_, _, A1, A2, A3, A4, c1, c2, c3, c4, kc, hw, hkl, h1, h2, h3, h4, h5⟩ := hq
  have hlf : leafs (.mk hd ks) = hleafs hd ++ leafss ks := rfl
  rw [hlf] at hfit
  have hb := hset.lt
  obtain ⟨C, hC⟩ : ∃ C, C = qcells hd ks.length A1 A2 A3 A4 c1 c2 c3 c4 := ⟨_, rfl⟩
  obtain ⟨W1, hW1⟩ : ∃ W, W = w.alloc (.cells C 29) := ⟨_, rfl⟩
  have K1 : Blk W1 w.heap.size 29 C := by rw [hW1]; exact Blk.new w _ _
  have hbW : Below w.heap.size w W1 := by rw [hW1]; exact Base.bel
  have HBW0 := Lib.hid hbW
  have HB0 := Lib.hid hb
  have HBW := Lib.hid (hbW.mono (Nat.le_of_lt hb))
  have HSET := Lib.hid (hset.below hbW hset.lt)
  have HF := Lib.hid hfit
  have HLF := Lib.hid hlf
  have HI := Lib.hid IH
  have HKL := Lib.hid hkl
  have HWF := Lib.hid hw
  have HT := Lib.hid h1
  have H4 := Lib.hid h4
  have H5 := Lib.hid h5
  unfold qcells at hC
  rw [hC] at K1 hW1
  have HW := Lib.hid hW1
  obtain ⟨y0, y1, y2, y3, y4, y5, y6, y7, y8, y9, y10, y11, y12, y13, y14⟩ := qcs K1
  clear hC hW1 hset hfit hlf IH hkl hw h1 h2 h3 h4 h5 hbW
  have hb4 : (hd.kind == 4) = false := beq_eq_false_iff_ne.2 (by omega)
  have hb5 : (hd.kind == 5) = true := beq_iff_eq.2 k5
  have HHL : Hid (hleafs hd = hd.terms.map fun t => ⟨hd.field, t⟩) := Lib.hid (by unfold hleafs; rw [if_neg (by omega), if_pos k5])
  have HFIT := Lib.hid (by have := HF.out; rw [HHL.out] at this; simp only [List.length_append, List.length_map] at this; omega : (n + hd.terms.length) + (leafss ks).length < maxLen)
  have HK1 := Lib.hid K1
  clear k5 K1 hb
  go_enter Tryz.func69, Tryz.ntmps69
  go_upto_region 1 with fail
  rw [← HW.out]
  go_wp2_with fail
  go_loopw [23] (fun i wr => ∃ k : Nat, k ≤ hd.terms.length ∧ i = .int .i64 k ∧ IsSet wr b (n + k) (S ++ (hd.terms.take k).map fun t => ⟨hd.field, t⟩) ∧ W1.grownBy wr (some b)) (fun i _ => hd.terms.length - (intOf i).toNat)
  case atStart => exact ⟨0, Nat.zero_le _, rfl, by simpa using HSET.out, (grown_of_below (Below.refl _ _) _)⟩
  case round =>
    obtain ⟨k, hk, rfl, hset, hgr⟩ := hrel
    have K2 := HK1.out.grown hgr (fun e => by have h1 := Option.some.inj e; have := HB0.out; omega)
    rcases Nat.lt_or_ge k hd.terms.length with hlt | hge
    · obtain ⟨t, ht⟩ : ∃ t, hd.terms[k]? = some t := ⟨_, List.getElem?_eq_getElem hlt⟩
      obtain ⟨gt, ot, et, hgt, hct⟩ := HT.out (by intro e; have := congrArg List.length e; simp [strs] at this; rw [this] at hlt; simp at hlt)
      subst et
      have hbel : Below b w wr := HBW.out.trans (grown_below hgr (fun k e => by obtain rfl := Option.some.inj e; exact Nat.le_refl _) (by have := HBW.out.size; have := HB0.out; omega))
      have x0 : wr.cell? ⟨gt, ot + k, none⟩ = some (.string t) := (hbel.cell (p := ⟨gt, ot + k, none⟩) hgt).trans (hct k _ (by simp [strs, ht]))
      have z1 : wr.cell? ⟨w.heap.size, 1, none⟩ = some (.int .i64 hd.field) := K2.cell 1
      have i1 : (k : Int) < (hd.terms.length : Int) := by omega
      have i3 : (k : Int) < 9223372036854775807 := by have := HWF.out.nterms; unfold maxLen at this; omega
      obtain ⟨wp, hrun, hs', hg'⟩ := hset.put (l := ⟨hd.field, t⟩) ⟨HWF.out.field, HWF.out.terms t (List.mem_of_getElem? ht)⟩ (by have := HFIT.out; omega)
      unfold lfV at hrun
      have HS' := Lib.hid hs'
      have HG' := Lib.hid (grown_chain hgr hg')
      have HTT := Lib.hid ht
      clear hs' hg' hset hgr hbel ht hct K2
      go_wp2_with fail
      go_roundw
      case rel => exact ⟨k + 1, by omega, by go_num, by rw [List.take_add_one, HTT.out, List.map_append, ← List.append_assoc, ← Nat.add_assoc]; exact HS'.out, HG'.out⟩
      case measure => simp [intOf]; omega
    · obtain rfl : k = hd.terms.length := by omega
      rw [List.take_length] at hset
      have y14p : wr.cell? ⟨w.heap.size, 14, none⟩ = some (.slice A4 ks.length c4) := K2.cell 14
      have HS1 := Lib.hid hset
      have HG1 := Lib.hid hgr
      clear hset hgr K2 hk hge
      go_wp2_with fail
      go_loopw [36] (fun i wr => ∃ k : Nat, k ≤ ks.length ∧ i = .int .i64 k ∧ IsSet wr b (n + hd.terms.length + (leafss (ks.take k)).length) (S ++ (hd.terms.map fun t => ⟨hd.field, t⟩) ++ leafss (ks.take k)) ∧ W1.grownBy wr (some b)) (fun i _ => ks.length - (intOf i).toNat)
      case atStart => exact ⟨0, Nat.zero_le _, rfl, by simpa [leafss] using HS1.out, HG1.out⟩
      case round =>
        obtain ⟨k, hk, rfl, hset, hgr⟩ := hrel
        rcases Nat.lt_or_ge k ks.length with hlt | hge
        · obtain ⟨y, hy⟩ : ∃ y, ks[k]? = some y := ⟨_, List.getElem?_eq_getElem hlt⟩
          obtain ⟨g, o, e4, hg4, hc4⟩ := H4.out (by intro e; rw [e] at hlt; simp at hlt)
          subst e4
          have hbel : Below b w wr := HBW.out.trans (grown_below hgr (fun k e => by obtain rfl := Option.some.inj e; exact Nat.le_refl _) (by have := HBW.out.size; have := HB0.out; omega))
          obtain ⟨B1, B2, B3, B4, d1, d2, d3, d4, e5, x0, x1, x2, x3, x4, x5, x6, x7, x8, x9, x10, x11, x12, x13, x14⟩ := kid_cells ((H5.out k y hy).kept hbel (Nat.le_refl _)) (fun j u hu => (hbel.cell (p := ⟨g, o + k * 15 + j, none⟩) hg4).trans (hc4 k hlt j u hu))
          have i1 : (k : Int) < (ks.length : Int) := by omega
          have i3 : (k : Int) < 9223372036854775807 := by have := HKL.out; unfold maxLen at this; omega
          have hle : (leafss (ks.take (k + 1))).length ≤ (leafss ks).length := by
            have : leafss ks = leafss (ks.take (k + 1)) ++ leafss (ks.drop (k + 1)) := by rw [← leafss_append, List.take_append_drop]
            rw [this, List.length_append]; omega
          have htk := leafss_take hy
          rw [htk, List.length_append] at hle
          have HC := Lib.hid (fun o => HI.out y (List.mem_of_getElem? hy) (kc k) b (n + hd.terms.length + (leafss (ks.take k)).length) (S ++ (hd.terms.map fun t => ⟨hd.field, t⟩) ++ leafss (ks.take k)) (wr.alloc o) ((H5.out k y hy).kept (hbel.alloc (by have := HBW.out.size; have := hgr.size; have := HB0.out; omega) o) (Nat.le_refl _)) (set_alloc hset o) (by have := HFIT.out; omega))
          rw [e5] at HC
          unfold qcells at HC
          have HY := Lib.hid htk
          have HGR := Lib.hid hgr
          clear hle htk hset hgr hbel hy hc4 e5 hlt
          go_wp2_with (go_at_call 69; refine (HC.out _).mono ?_; rintro e w2 ⟨rfl, hp2⟩)
          go_roundw
          case rel =>
            refine ⟨k + 1, by omega, by go_num, ?_, grown_chain HGR.out (grown_chain (grown_of_below ((Below.refl _ _).alloc (Nat.le_refl _) _) _) hp2.2)⟩
            have h1 := hp2.1
            rw [HY.out, List.length_append, ← List.append_assoc, ← Nat.add_assoc]
            exact h1
          case measure => simp [intOf]; omega
        · obtain rfl : k = ks.length := by omega
          rw [List.take_length] at hset
          have HSE := Lib.hid hset
          have HGR := Lib.hid hgr
          clear hset hgr
          go_wp2_with fail
          go_end0
          exact ⟨rfl, by rw [HLF.out, HHL.out, List.length_append, List.length_map, ← List.append_assoc, ← Nat.add_assoc]; exact HSE.out, grown_chain (grown_of_below HBW0.out _) HGR.out⟩

theorem leaves_any (q : Qry) : LC q := by
  induction q using Qry.ind with
  | h q ih =>
    obtain ⟨hd, ks⟩ := q
    simp only [Qry.kids] at ih
    by_cases k4 : hd.kind = 4
    · exact leavesT hd ks k4 ih
    · by_cases k5 : hd.kind = 5
      · exact leavesP hd ks k5 ih
      · exact leavesO hd ks k4 k5 ih
end Go.Proofs.YtfpikilhbkeajaaGreatDoor.PutLeaves

namespace Go.Proofs.YtfpikilhbkeajaaGreatDoor.AllLeaves
set_option maxRecDepth 100000
open Go.RowKit Go.PlainAid Base Query QrySize EmitPlain EmitBase EmitPut LeafMap EmitNear EmitRaw EmitMost EmitQ0 PutLeaves

def lfC (l : Lf) : List Value := [.int .i64 l.field, .string l.term]
def lfCs (l : List Lf) : List Value := (l.map lfC).flatten
theorem lfCs_app (a b : List Lf) : lfCs (a ++ b) = lfCs a ++ lfCs b := by simp [lfCs]
theorem lfCs_one (a : Lf) : lfCs [a] = lfC a := by simp [lfCs]
theorem lfCs_len (a : List Lf) : (lfCs a).length = a.length * 2 := by
  induction a with
  | nil => rfl
  | cons t r ih => rw [show t :: r = [t] ++ r from rfl, lfCs_app, lfCs_one, List.length_append, ih]; simp [lfC]; omega
theorem lfCs_at : ∀ (a : List Lf) (k : Nat) (h : Lf), a[k]? = some h → (lfCs a)[k * 2]? = some (.int .i64 h.field) ∧ (lfCs a)[k * 2 + 1]? = some (.string h.term)
  | [], k, h, e => by simp at e
  | x :: r, 0, h, e => by simp at e; subst e; exact ⟨rfl, rfl⟩
  | x :: r, k + 1, h, e => by
    have := lfCs_at r k h (by simpa using e)
    rw [show (k + 1) * 2 = k * 2 + 1 + 1 by omega]
    exact this
def plC (hd : Head) (nk : Nat) (A1 A2 A3 A4 : Option Addr) (c1 c2 c3 c4 : Nat) (all : Bool) (AD : Option Addr) (nd cD : Nat) : Array Value :=
  #[.int .i64 hd.kind, .int .i64 hd.field, .string hd.text, .slice A1 hd.terms.length c1, .slice A2 hd.offs.length c2, .int .i64 hd.n, .int .u64 hd.weight, .bool hd.lo.op, .bool hd.lo.inn, .string hd.lo.text, .bool hd.hi.op, .bool hd.hi.inn, .string hd.hi.text, .slice A3 hd.occur.length c3, .slice A4 nk c4, .bool all, .slice AD nd cD]
theorem plcs {w : World} {g : Nat} {t : TypeId} {v0 v1 v2 v3 v4 v5 v6 v7 v8 v9 v10 v11 v12 v13 v14 v15 v16 : Value} (h : Blk w g t #[v0, v1, v2, v3, v4, v5, v6, v7, v8, v9, v10, v11, v12, v13, v14, v15, v16]) : w.cell? ⟨g, 0, none⟩ = some v0 ∧ w.cell? ⟨g, 1, none⟩ = some v1 ∧ w.cell? ⟨g, 2, none⟩ = some v2 ∧ w.cell? ⟨g, 3, none⟩ = some v3 ∧ w.cell? ⟨g, 4, none⟩ = some v4 ∧ w.cell? ⟨g, 5, none⟩ = some v5 ∧ w.cell? ⟨g, 6, none⟩ = some v6 ∧ w.cell? ⟨g, 7, none⟩ = some v7 ∧ w.cell? ⟨g, 8, none⟩ = some v8 ∧ w.cell? ⟨g, 9, none⟩ = some v9 ∧ w.cell? ⟨g, 10, none⟩ = some v10 ∧ w.cell? ⟨g, 11, none⟩ = some v11 ∧ w.cell? ⟨g, 12, none⟩ = some v12 ∧ w.cell? ⟨g, 13, none⟩ = some v13 ∧ w.cell? ⟨g, 14, none⟩ = some v14 ∧ w.cell? ⟨g, 15, none⟩ = some v15 ∧ w.cell? ⟨g, 16, none⟩ = some v16 :=
  ⟨h.cell 0, h.cell 1, h.cell 2, h.cell 3, h.cell 4, h.cell 5, h.cell 6, h.cell 7, h.cell 8, h.cell 9, h.cell 10, h.cell 11, h.cell 12, h.cell 13, h.cell 14, h.cell 15, h.cell 16⟩
def IsLeaves (L : List Lf) (w : World) (e : Ending) (w' : World) : Prop := ∃ mb, e = .returned (.map (some mb)) ∧ w.heap.size ≤ mb ∧ IsSet w' mb L.length L ∧ Below w.heap.size w w'

set_option maxHeartbeats 4000000 in
theorem allLeaves_any (hd : Head) (ks : List Qry) (A1 A2 A3 A4 : Option Addr) (c1 c2 c3 c4 : Nat) (all : Bool) (AD : Option Addr) (cD : Nat) (dr : List Lf) (B : Nat) (w : World) (hB : B ≤ w.heap.size) (hq : QVal w B (qcells hd ks.length A1 A2 A3 A4 c1 c2 c3 c4).toList (.mk hd ks))
    (hdr : Slc w B AD (lfCs dr)) (hok : ∀ l ∈ dr, LfOk l) (hl : (leafs (.mk hd ks)).length + dr.length < maxLen) :
    Calls Tryz.prog 44 #[.agg (plC hd ks.length A1 A2 A3 A4 c1 c2 c3 c4 all AD dr.length cD)] w (IsLeaves (leafs (.mk hd ks) ++ dr) w) := by
  obtain ⟨C, hC⟩ : ∃ C, C = plC hd ks.length A1 A2 A3 A4 c1 c2 c3 c4 all AD dr.length cD := ⟨_, rfl⟩
  obtain ⟨W1, hW1⟩ : ∃ W, W = w.alloc (.cells C 32) := ⟨_, rfl⟩
  have K1 : Blk W1 w.heap.size 32 C := by rw [hW1]; exact Blk.new w _ _
  obtain ⟨W2, hW2⟩ : ∃ W, W = W1.alloc (.map #[] 0) := ⟨_, rfl⟩
  have hb1 : Below w.heap.size w W1 := by rw [hW1]; exact Base.bel
  have hb2 : Below w.heap.size w W2 := by rw [hW2]; exact Base.bel
  have hs1 : W1.heap.size = w.heap.size + 1 := by rw [hW1]; simp
  have hset : IsSet W2 W1.heap.size 0 [] := by rw [hW2]; exact IsSet.made W1
  have K2 : Blk W2 w.heap.size 32 C := by rw [hW2]; exact K1.alloc _
  obtain ⟨Lq, hLq⟩ : ∃ L, L = leafs (.mk hd ks) := ⟨_, rfl⟩
  have LV := Lib.hid (by have := leaves_any (.mk hd ks) (qcells hd ks.length A1 A2 A3 A4 c1 c2 c3 c4).toList W1.heap.size 0 [] W2 ((hq.kept hb2 hB).mono (by omega)) hset (by omega); rw [← hLq] at this; exact this)
  rw [← hLq] at hl ⊢
  have HDR := Lib.hid hdr
  have HOK := Lib.hid hok
  have HB := Lib.hid hb2
  have HK2 := Lib.hid K2
  have HS1 := Lib.hid hs1
  have HL := Lib.hid hl
  unfold plC at hC
  rw [hC] at hW1
  have HW1 := Lib.hid hW1
  have HW2 := Lib.hid hW2
  rw [hC] at HK2
  obtain ⟨y0, y1, y2, y3, y4, y5, y6, y7, y8, y9, y10, y11, y12, y13, y14, y15, y16⟩ := plcs HK2.out
  unfold qcells at LV
  have hmm := @run_makeMap Tryz.prog
  clear hW1 hW2 hLq hq hdr hok hl hb1 hb2 hs1 hset K1 K2 hC
  unfold plC
  go_enter Tryz.func44, Tryz.ntmps44
  go_upto_region 1 with fail
  rw [← HW1.out]
  go_upto_region 2 with fail
  rw [← HW2.out]
  go_upto_region 3 with (go_at_call 69; refine LV.out.mono ?_; rintro e w3 ⟨rfl, hp3⟩)
  have K3 := HK2.out.grown hp3.2 (fun e => by have h1 := Option.some.inj e; have := HS1.out; omega)
  have z16 : w3.cell? ⟨w.heap.size, 16, none⟩ = some (.slice AD dr.length cD) := K3.cell 16
  have HP3 := Lib.hid hp3
  clear hp3 y0 y1 y2 y3 y4 y5 y6 y7 y8 y9 y10 y11 y12 y13 y14 y15 y16 K3
  go_wp2_with fail
  go_loopw [14] (fun i wr => ∃ k : Nat, k ≤ dr.length ∧ i = .int .i64 k ∧ IsSet wr W1.heap.size (Lq.length + k) (Lq ++ dr.take k) ∧ W2.grownBy wr (some W1.heap.size)) (fun i _ => dr.length - (intOf i).toNat)
  case atStart => exact ⟨0, Nat.zero_le _, rfl, by have h1 := HP3.out.1; simpa using h1, HP3.out.2⟩
  case round =>
    obtain ⟨k, hk, rfl, hset, hgr⟩ := hrel
    rcases Nat.lt_or_ge k dr.length with hlt | hge
    · obtain ⟨y, hy⟩ : ∃ y, dr[k]? = some y := ⟨_, List.getElem?_eq_getElem hlt⟩
      obtain ⟨g, o, e4, hg4, hc4⟩ := HDR.out (by intro e; have := lfCs_len dr; rw [e] at this; simp only [List.length_nil] at this; omega)
      subst e4
      have hbel : Below w.heap.size w wr := HB.out.trans (grown_below hgr (fun k e => by obtain rfl := Option.some.inj e; have := HS1.out; omega) HB.out.size)
      obtain ⟨c0, c1'⟩ := lfCs_at dr k y hy
      have x0 : wr.cell? ⟨g, o + k * 2, none⟩ = some (.int .i64 y.field) := (hbel.cell (p := ⟨g, o + k * 2, none⟩) (by show g < _; omega)).trans (hc4 _ _ c0)
      have x1 : wr.cell? ⟨g, o + k * 2 + 1, none⟩ = some (.string y.term) := (hbel.cell (p := ⟨g, o + k * 2 + 1, none⟩) (by show g < _; omega)).trans (hc4 _ _ c1')
      have i1 : (k : Int) < (dr.length : Int) := by omega
      have i3 : (k : Int) < 9223372036854775807 := by have := HL.out; unfold maxLen at this; omega
      obtain ⟨W5, hW5⟩ : ∃ W, W = wr.alloc (.cells #[.int .i64 y.field, .string y.term] 51) := ⟨_, rfl⟩
      have hb5 : Below wr.heap.size wr W5 := by rw [hW5]; exact Base.bel
      have T5 : Blk W5 wr.heap.size 51 #[.int .i64 y.field, .string y.term] := by rw [hW5]; exact Blk.new _ _ _
      obtain ⟨wp, hrun, hs', hg'⟩ := (hset.below hb5 hset.lt).put (l := y) (HOK.out y (List.mem_of_getElem? hy)) (by have := HL.out; omega)
      unfold lfV at hrun
      have t0 : W5.cell? ⟨wr.heap.size, 0, none⟩ = some (.int .i64 y.field) := T5.cell 0
      have t1 : W5.cell? ⟨wr.heap.size, 1, none⟩ = some (.string y.term) := T5.cell 1
      have HS' := Lib.hid hs'
      have HG' := Lib.hid (grown_chain hgr (grown_chain (grown_of_below hb5 _) hg'))
      have HY := Lib.hid hy
      have HW5 := Lib.hid hW5
      clear hs' hg' hset hgr hbel hy hc4 c0 c1' hW5 hb5 T5
      go_upto_region 6 with fail
      rw [← HW5.out]
      go_wp2_with fail
      go_roundw
      case rel => exact ⟨k + 1, by omega, by go_num, by rw [List.take_add_one, HY.out, ← List.append_assoc, ← Nat.add_assoc]; exact HS'.out, HG'.out⟩
      case measure => simp [intOf]; omega
    · obtain rfl : k = dr.length := by omega
      rw [List.take_length] at hset
      have HSE := Lib.hid hset
      have HBB := Lib.hid (HB.out.trans (grown_below (E := w.heap.size) hgr (fun k e => by obtain rfl := Option.some.inj e; have := HS1.out; omega) HB.out.size))
      clear hset hgr
      go_wp2_with fail
      go_ret
      exact ⟨W1.heap.size, rfl, by have := HS1.out; omega, by rw [List.length_append]; exact HSE.out, HBB.out⟩
end Go.Proofs.YtfpikilhbkeajaaGreatDoor.AllLeaves

namespace Go.Proofs.YtfpikilhbkeajaaGreatDoor.LeafRange
set_option maxRecDepth 100000
open Go.RowKit Go.PlainAid Base Query EmitPlain LeafMap

def Going (w : World) (b r n : Nat) (S T : List Lf) (cnt : Nat) : Prop :=
  ∃ (D : DataW Unit) (left : Lit → Bool), w.ranges Tryz.prog 51 Rd b r n D left cnt ∧ (∀ l, LfOk l → left (lk l) = decide (l ∈ S ∧ l ∉ T)) ∧ T.Nodup ∧ ∀ l ∈ T, LfOk l ∧ l ∈ S
section
variable {w w' : World} {b r n cnt : Nat} {S T : List Lf}
theorem Going.left_eq (h : Going w b r n S T cnt) : w.rangeLeft b r = cnt := let ⟨_, _, h, _⟩ := h; h.left_eq
theorem Going.lt (h : Going w b r n S T cnt) : r < w.heap.size := let ⟨_, _, h, _⟩ := h; h.lt
theorem Going.ltb (h : Going w b r n S T cnt) : b < w.heap.size := let ⟨_, _, h, _⟩ := h; h.owns.lt
theorem Going.kept {row : Option Nat} (h : Going w b r n S T cnt) (hg : w.grownBy w' row) (hb : some b ≠ row) (hr : some r ≠ row) : Going w' b r n S T cnt :=
  let ⟨D, left, h, rest⟩ := h; ⟨D, left, h.kept hg hb hr, rest⟩
theorem Going.alloc (h : Going w b r n S T cnt) (o : Obj) : Going (w.alloc o) b r n S T cnt := let ⟨D, left, h, rest⟩ := h; ⟨D, left, h.alloc o, rest⟩
theorem Going.below (h : Going w b r n S T cnt) (hb : Below w.heap.size w w') : Going w' b r n S T cnt := h.kept (row := none) ⟨hb.os, hb.tape, hb.output, hb.size, fun k hk _ => hb.block k hk⟩ (by simp) (by simp)
theorem Going.nodup (h : Going w b r n S T cnt) : T.Nodup := let ⟨_, _, _, _, h, _⟩ := h; h
theorem Going.sub (h : Going w b r n S T cnt) : ∀ l ∈ T, LfOk l ∧ l ∈ S := let ⟨_, _, _, _, _, h⟩ := h; h
theorem len_sub : ∀ {T S : List Lf}, T.Nodup → (∀ l ∈ T, l ∈ S) → T.length ≤ S.length
  | [], S, _, _ => by simp
  | a :: T, S, hn, hs => by
    rw [List.nodup_cons] at hn
    have ha := hs a (List.mem_cons_self ..)
    have := len_sub (T := T) (S := S.erase a) hn.2 fun l hl => by
      have hne : l ≠ a := fun e => hn.1 (e ▸ hl)
      exact (List.mem_erase_of_ne hne).2 (hs l (List.mem_cons_of_mem _ hl))
    rw [List.length_erase_of_mem ha] at this
    have h0 : 0 < S.length := List.length_pos_of_mem ha
    simp only [List.length_cons]
    omega
theorem Going.len (h : Going w b r n S T cnt) : T.length ≤ S.length := len_sub h.nodup fun l hl => (h.sub l hl).2

section
variable {ops : Array Oper} {rest : List Oper} {o : Oper} {a : Act} {Q : Exit → Act → World → Prop}
theorem wpList_range_lf (hg : o.guard = none) (m : Operand) (hop : o.op = Op.range 66 m) (hm : a.eval m = .map (some b)) (hs : IsSet w b n S)
    (hK : ∀ w' cnt, Going w' b w.heap.size n S [] cnt → w.grownBy w' none → w'.heap.size = w.heap.size + 1 → wpList Tryz.prog ops Q rest (a.put o.dst (.pointer (some ⟨w.heap.size, 0, none⟩))) w') :
    wpList Tryz.prog ops Q (o :: rest) a w := by
  obtain ⟨D, h1, h2⟩ := hs
  exact wpList_range_own w hg m _ hop _ _ lawL Tryz.underlying66 _ b n D hm h1 fun w' hr hgr hsz =>
    hK w' _ ⟨D, _, hr, fun l hl => by rw [h2 l hl]; simp, List.nodup_nil, by simp⟩ hgr hsz
theorem wpList_next_lf (hg : o.guard = none) (it : Operand) (hop : o.op = Op.next it false) (hit : a.eval it = .pointer (some ⟨r, 0, none⟩)) (h : Going w b r n S T cnt)
    (hDone : (∀ l, LfOk l → (l ∈ S ↔ l ∈ T)) → wpList Tryz.prog ops Q rest (a.put o.dst (.tuple #[.bool false])) w)
    (hMore : ∀ (l : Lf) (c : Int) (w' : World) (cnt' : Nat), LfOk l → l ∈ S → l ∉ T → Going w' b r n S (T ++ [l]) cnt' → cnt' < cnt → w.grownBy w' (some r) → w'.heap.size = w.heap.size →
      (Instr.entry (.pointer (some ⟨r, 0, none⟩))).run Tryz.prog w' = .ok (.tuple #[.agg #[.int .i64 l.field, .string l.term], .int .i64 c]) w' → wpList Tryz.prog ops Q rest (a.put o.dst (.tuple #[.bool true, .agg #[.int .i64 l.field, .string l.term], .int .i64 c])) w') :
    wpList Tryz.prog ops Q (o :: rest) a w := by
  obtain ⟨D, left, hr, hl, hn, hs⟩ := h
  refine wpList_next_ranges w hg it hop _ lawL _ lfV (fun c : Int => Value.int .i64 c) (fun key kl hk => by obtain ⟨l, _, e, _⟩ := keyOf_inv hk; exact ⟨l, e⟩) (fun v y hv => by obtain ⟨c, e, _⟩ := plainElem_int_inv Tryz.underlying3 hv; exact ⟨c, e⟩) b r n D left cnt hit hr ?_ ?_
  · intro _ h0
    exact hDone fun l hl' => by
      have e := hl l hl'
      rw [h0] at e
      have e := e.symm
      simp only [decide_eq_false_iff_not, Classical.not_and_iff_not_or_not, Classical.not_not] at e
      exact ⟨fun h => e.resolve_left (fun k => k h), fun h => (hs l h).2⟩
  · intro l c kl y w' cnt' hk hlk hv hat hr' hlt hgr hsz hen
    obtain ⟨l', hl', e, rfl⟩ := keyOf_inv hk
    obtain rfl : l = l' := by
      obtain ⟨f1, t1⟩ := l
      obtain ⟨f2, t2⟩ := l'
      simpa [lfV] using e
    rw [hl l hl'] at hlk
    simp only [decide_eq_true_eq] at hlk
    refine hMore l c w' cnt' hl' hlk.1 hlk.2 ⟨D, _, hr', fun k hk' => ?_, ?_, ?_⟩ hlt hgr hsz hen
    · rw [hl k hk']
      by_cases e : k = l
      · subst e
        rw [WideAt.sameKey_self (lk_key hk')]
        simp
      · rw [Maps.sameKey_ne (lk_ne hk' hl' e)]
        simp [e]
    · rw [List.nodup_append]
      exact ⟨hn, by simp, fun x hx y hy e' => by simp at hy; subst hy; subst e'; exact hlk.2 hx⟩
    · intro k hk'
      rcases List.mem_append.1 hk' with h | h
      · exact hs k h
      · simp at h
        subst h
        exact ⟨hl', hlk.1⟩
end
end
end Go.Proofs.YtfpikilhbkeajaaGreatDoor.LeafRange
