/-
  The walk of the emitter's query, some kinds.
  The walk of the emitter's query, some kinds.
  The walk of the emitter's query, some kinds.
  The walk of the emitter's query, some kinds.
-/
import Derived.Test.YtfpikilhbkeajaaGreatDoorEmitQ0
set_option linter.unusedVariables false
set_option linter.unusedSimpArgs false
namespace Go.Proofs.YtfpikilhbkeajaaGreatDoor.EmitQD
set_option maxRecDepth 100000
open Go.RowKit Go.PlainAid Base Query QrySize EmitPlain EmitBase EmitPut LeafMap EmitNear EmitRaw EmitMost EmitSplit EmitMiss EmitExt EmitList EmitQ0

set_option maxHeartbeats 4000000 in
theorem query10t (x : Lf → Int) (hd : Head) (ks : List Qry) (hkd : hd.kind = 10) (hloc : QLoc hd ks.length) (IH : ∀ k ∈ ks, QC x k) (E : Nat) (h : EH) (L : List Ins) (NS : List Nr) (nc : List Value) (nv cv : Value) (nm : Nat) (cs : List Value) (w : World) (m : Em w E h L NS nc nv cv) (hx : IsNum w h.mb nm x) (hmb : h.mb < E) (hq : QVal w E cs (.mk hd ks))
    (hfit : Fits L NS (emit x (.mk hd ks) true NS.length).1.length (emit x (.mk hd ks) true NS.length).2.length) :
    Calls Tryz.prog 22 #[.pointer (some ⟨E, 0, none⟩), .agg cs.toArray, .bool true] w fun e w' => e = .returned (.tuple #[]) ∧ EmE w w' E h (L ++ (emit x (.mk hd ks) true NS.length).1) (NS ++ (emit x (.mk hd ks) true NS.length).2) nc := by
  rw [emit10 x hd ks true NS.length hkd] at hfit ⊢
  obtain ⟨_, _, A1, A2, A3, A4, c1, c2, c3, c4, kc, hw, hkl, h1, h2, h3, h4, h5⟩ := hq
  have hE := m.lt
  have hKL := kl_of hE h4 h5
  have l3 := hloc.has
  have l5 := hloc.phr
  have l10 := hloc.lst
  have l1 := hloc.one
  have l0 := hloc.few
  obtain ⟨kind, field, text, terms, offs, qn, weight, lo, hi, occur⟩ := hd
  simp only at hkd
  subst hkd
  obtain ⟨C, hC⟩ : ∃ C, C = qcells ⟨10, field, text, terms, offs, qn, weight, lo, hi, occur⟩ ks.length A1 A2 A3 A4 c1 c2 c3 c4 := ⟨_, rfl⟩
  obtain ⟨W1, hW1⟩ : ∃ W, W = w.alloc (.cells C 29) := ⟨_, rfl⟩
  have K1 : Blk W1 w.heap.size 29 C := by rw [hW1]; exact Blk.new w _ _
  have hbW : Below w.heap.size w W1 := by rw [hW1]; exact Base.bel
  have hwf := hw
  have s1 := h1
  have s2 := h2
  have s3 := h3
  have HM := Lib.hid (m.grow hbW)
  have HX := Lib.hid (hx.below hbW hx.lt)
  have HKL := Lib.hid (hKL.kept (.of_below hbW E) (Nat.le_of_lt hE))
  have HS1 := Lib.hid (s1.below hbW (Nat.le_of_lt hE))
  have HS2 := Lib.hid (s2.below hbW (Nat.le_of_lt hE))
  have HS3 := Lib.hid (s3.below hbW (Nat.le_of_lt hE))
  have HF := Lib.hid hfit
  have HI := Lib.hid IH
  have HWF := Lib.hid hwf
  have HKB := Lib.hid hbW
  simp only at l3 l5 l10 l1 l0
  have H3 := Lib.hid l3
  have H5 := Lib.hid l5
  have H10 := Lib.hid l10
  have H1 := Lib.hid l1
  unfold qcells at hC
  simp only at hC
  rw [hC] at K1 hW1
  have HW := Lib.hid hW1
  obtain ⟨y0, y1, y2, y3, y4, y5, y6, y7, y8, y9, y10, y11, y12, y13, y14⟩ := qcs K1
  have HK1 := Lib.hid K1
  clear l3 l5 l10 l1 hC m hx hfit hloc IH h1 h2 h3 h4 h5 hw hkl hKL s1 s2 s3 hwf hbW hW1 K1
  change Calls _ _ #[.pointer (some ⟨E, 0, none⟩), .agg #[.int .i64 10, .int .i64 field, .string text, .slice A1 terms.length c1, .slice A2 offs.length c2, .int .i64 qn, .int .u64 weight, .bool lo.op, .bool lo.inn, .string lo.text, .bool hi.op, .bool hi.inn, .string hi.text, .slice A3 occur.length c3, .slice A4 ks.length c4], .bool true] w _
  go_enter Tryz.func22, Tryz.ntmps22
  go_upto_region 1 with fail
  rw [← HW.out]
  obtain ⟨ho1, ho2, ho3⟩ := H10.out trivial
  have HN := Lib.hid (list_any x ks HI.out ⟨10, field, text, terms, offs, qn, weight, lo, hi, occur⟩ A1 A2 A3 A4 c1 c2 c3 c4 E h L NS nc nv cv nm true W1 HM.out HX.out hmb HKL.out HS3.out ho1 l0 ho2 ho3 HF.out)
  unfold qcells at HN
  have HTO := Lib.hid ho1
  clear ho1
  go_wp2_with (go_at_call 51; refine HN.out.mono ?_; rintro e wz ⟨rfl, hz⟩)
  go_end0
  obtain ⟨hk, nv', cv', nc', hm', hn'⟩ := hz
  exact ⟨rfl, (Keeps.of_below HKB.out E).trans hk, nv', cv', nc', hm', hn'.mono HKB.out.size⟩

set_option maxHeartbeats 4000000 in
theorem query10f (x : Lf → Int) (hd : Head) (ks : List Qry) (hkd : hd.kind = 10) (hloc : QLoc hd ks.length) (IH : ∀ k ∈ ks, QC x k) (E : Nat) (h : EH) (L : List Ins) (NS : List Nr) (nc : List Value) (nv cv : Value) (nm : Nat) (cs : List Value) (w : World) (m : Em w E h L NS nc nv cv) (hx : IsNum w h.mb nm x) (hmb : h.mb < E) (hq : QVal w E cs (.mk hd ks))
    (hfit : Fits L NS (emit x (.mk hd ks) false NS.length).1.length (emit x (.mk hd ks) false NS.length).2.length) :
    Calls Tryz.prog 22 #[.pointer (some ⟨E, 0, none⟩), .agg cs.toArray, .bool false] w fun e w' => e = .returned (.tuple #[]) ∧ EmE w w' E h (L ++ (emit x (.mk hd ks) false NS.length).1) (NS ++ (emit x (.mk hd ks) false NS.length).2) nc := by
  rw [emit10 x hd ks false NS.length hkd] at hfit ⊢
  obtain ⟨_, _, A1, A2, A3, A4, c1, c2, c3, c4, kc, hw, hkl, h1, h2, h3, h4, h5⟩ := hq
  have hE := m.lt
  have hKL := kl_of hE h4 h5
  have l3 := hloc.has
  have l5 := hloc.phr
  have l10 := hloc.lst
  have l1 := hloc.one
  have l0 := hloc.few
  obtain ⟨kind, field, text, terms, offs, qn, weight, lo, hi, occur⟩ := hd
  simp only at hkd
  subst hkd
  obtain ⟨C, hC⟩ : ∃ C, C = qcells ⟨10, field, text, terms, offs, qn, weight, lo, hi, occur⟩ ks.length A1 A2 A3 A4 c1 c2 c3 c4 := ⟨_, rfl⟩
  obtain ⟨W1, hW1⟩ : ∃ W, W = w.alloc (.cells C 29) := ⟨_, rfl⟩
  have K1 : Blk W1 w.heap.size 29 C := by rw [hW1]; exact Blk.new w _ _
  have hbW : Below w.heap.size w W1 := by rw [hW1]; exact Base.bel
  have hwf := hw
  have s1 := h1
  have s2 := h2
  have s3 := h3
  have HM := Lib.hid (m.grow hbW)
  have HX := Lib.hid (hx.below hbW hx.lt)
  have HKL := Lib.hid (hKL.kept (.of_below hbW E) (Nat.le_of_lt hE))
  have HS1 := Lib.hid (s1.below hbW (Nat.le_of_lt hE))
  have HS2 := Lib.hid (s2.below hbW (Nat.le_of_lt hE))
  have HS3 := Lib.hid (s3.below hbW (Nat.le_of_lt hE))
  have HF := Lib.hid hfit
  have HI := Lib.hid IH
  have HWF := Lib.hid hwf
  have HKB := Lib.hid hbW
  simp only at l3 l5 l10 l1 l0
  have H3 := Lib.hid l3
  have H5 := Lib.hid l5
  have H10 := Lib.hid l10
  have H1 := Lib.hid l1
  unfold qcells at hC
  simp only at hC
  rw [hC] at K1 hW1
  have HW := Lib.hid hW1
  obtain ⟨y0, y1, y2, y3, y4, y5, y6, y7, y8, y9, y10, y11, y12, y13, y14⟩ := qcs K1
  have HK1 := Lib.hid K1
  clear l3 l5 l10 l1 hC m hx hfit hloc IH h1 h2 h3 h4 h5 hw hkl hKL s1 s2 s3 hwf hbW hW1 K1
  change Calls _ _ #[.pointer (some ⟨E, 0, none⟩), .agg #[.int .i64 10, .int .i64 field, .string text, .slice A1 terms.length c1, .slice A2 offs.length c2, .int .i64 qn, .int .u64 weight, .bool lo.op, .bool lo.inn, .string lo.text, .bool hi.op, .bool hi.inn, .string hi.text, .slice A3 occur.length c3, .slice A4 ks.length c4], .bool false] w _
  go_enter Tryz.func22, Tryz.ntmps22
  go_upto_region 1 with fail
  rw [← HW.out]
  obtain ⟨ho1, ho2, ho3⟩ := H10.out trivial
  have HN := Lib.hid (list_any x ks HI.out ⟨10, field, text, terms, offs, qn, weight, lo, hi, occur⟩ A1 A2 A3 A4 c1 c2 c3 c4 E h L NS nc nv cv nm false W1 HM.out HX.out hmb HKL.out HS3.out ho1 l0 ho2 ho3 HF.out)
  unfold qcells at HN
  have HTO := Lib.hid ho1
  clear ho1
  go_wp2_with (go_at_call 51; refine HN.out.mono ?_; rintro e wz ⟨rfl, hz⟩)
  go_end0
  obtain ⟨hk, nv', cv', nc', hm', hn'⟩ := hz
  exact ⟨rfl, (Keeps.of_below HKB.out E).trans hk, nv', cv', nc', hm', hn'.mono HKB.out.size⟩

set_option maxHeartbeats 4000000 in
theorem query11t (x : Lf → Int) (hd : Head) (ks : List Qry) (hkd : hd.kind = 11) (hloc : QLoc hd ks.length) (IH : ∀ k ∈ ks, QC x k) (E : Nat) (h : EH) (L : List Ins) (NS : List Nr) (nc : List Value) (nv cv : Value) (nm : Nat) (cs : List Value) (w : World) (m : Em w E h L NS nc nv cv) (hx : IsNum w h.mb nm x) (hmb : h.mb < E) (hq : QVal w E cs (.mk hd ks))
    (hfit : Fits L NS (emit x (.mk hd ks) true NS.length).1.length (emit x (.mk hd ks) true NS.length).2.length) :
    Calls Tryz.prog 22 #[.pointer (some ⟨E, 0, none⟩), .agg cs.toArray, .bool true] w fun e w' => e = .returned (.tuple #[]) ∧ EmE w w' E h (L ++ (emit x (.mk hd ks) true NS.length).1) (NS ++ (emit x (.mk hd ks) true NS.length).2) nc := by
  rw [emit11 x hd ks true NS.length hkd] at hfit ⊢
  obtain ⟨_, _, A1, A2, A3, A4, c1, c2, c3, c4, kc, hw, hkl, h1, h2, h3, h4, h5⟩ := hq
  have hE := m.lt
  have hKL := kl_of hE h4 h5
  have l3 := hloc.has
  have l5 := hloc.phr
  have l10 := hloc.lst
  have l1 := hloc.one
  have l0 := hloc.few
  obtain ⟨kind, field, text, terms, offs, qn, weight, lo, hi, occur⟩ := hd
  simp only at hkd
  subst hkd
  obtain ⟨C, hC⟩ : ∃ C, C = qcells ⟨11, field, text, terms, offs, qn, weight, lo, hi, occur⟩ ks.length A1 A2 A3 A4 c1 c2 c3 c4 := ⟨_, rfl⟩
  obtain ⟨W1, hW1⟩ : ∃ W, W = w.alloc (.cells C 29) := ⟨_, rfl⟩
  have K1 : Blk W1 w.heap.size 29 C := by rw [hW1]; exact Blk.new w _ _
  have hbW : Below w.heap.size w W1 := by rw [hW1]; exact Base.bel
  have hwf := hw
  have s1 := h1
  have s2 := h2
  have s3 := h3
  have HM := Lib.hid (m.grow hbW)
  have HX := Lib.hid (hx.below hbW hx.lt)
  have HKL := Lib.hid (hKL.kept (.of_below hbW E) (Nat.le_of_lt hE))
  have HS1 := Lib.hid (s1.below hbW (Nat.le_of_lt hE))
  have HS2 := Lib.hid (s2.below hbW (Nat.le_of_lt hE))
  have HS3 := Lib.hid (s3.below hbW (Nat.le_of_lt hE))
  have HF := Lib.hid hfit
  have HI := Lib.hid IH
  have HWF := Lib.hid hwf
  have HKB := Lib.hid hbW
  simp only at l3 l5 l10 l1 l0
  have H3 := Lib.hid l3
  have H5 := Lib.hid l5
  have H10 := Lib.hid l10
  have H1 := Lib.hid l1
  unfold qcells at hC
  simp only at hC
  rw [hC] at K1 hW1
  have HW := Lib.hid hW1
  obtain ⟨y0, y1, y2, y3, y4, y5, y6, y7, y8, y9, y10, y11, y12, y13, y14⟩ := qcs K1
  have HK1 := Lib.hid K1
  clear l3 l5 l10 l1 hC m hx hfit hloc IH h1 h2 h3 h4 h5 hw hkl hKL s1 s2 s3 hwf hbW hW1 K1
  change Calls _ _ #[.pointer (some ⟨E, 0, none⟩), .agg #[.int .i64 11, .int .i64 field, .string text, .slice A1 terms.length c1, .slice A2 offs.length c2, .int .i64 qn, .int .u64 weight, .bool lo.op, .bool lo.inn, .string lo.text, .bool hi.op, .bool hi.inn, .string hi.text, .slice A3 occur.length c3, .slice A4 ks.length c4], .bool true] w _
  go_enter Tryz.func22, Tryz.ntmps22
  go_upto_region 1 with fail
  rw [← HW.out]
  have HN := Lib.hid (most_any x ks HI.out ⟨11, field, text, terms, offs, qn, weight, lo, hi, occur⟩ A1 A2 A3 A4 c1 c2 c3 c4 E h L NS nc nv cv nm true W1 HM.out HX.out hmb HKL.out (by omega) (by have := HF.out; unfold Fits at this ⊢; simp only [shut, landR_length] at this; exact this))
  unfold qcells at HN
  go_wp2_with (go_at_call 50; refine HN.out.mono ?_; rintro e wz ⟨rfl, hz⟩)
  go_end0
  obtain ⟨hk, nv', cv', nc', hm', hn'⟩ := hz
  exact ⟨rfl, (Keeps.of_below HKB.out E).trans hk, nv', cv', nc', hm', hn'.mono HKB.out.size⟩

set_option maxHeartbeats 4000000 in
theorem query11f (x : Lf → Int) (hd : Head) (ks : List Qry) (hkd : hd.kind = 11) (hloc : QLoc hd ks.length) (IH : ∀ k ∈ ks, QC x k) (E : Nat) (h : EH) (L : List Ins) (NS : List Nr) (nc : List Value) (nv cv : Value) (nm : Nat) (cs : List Value) (w : World) (m : Em w E h L NS nc nv cv) (hx : IsNum w h.mb nm x) (hmb : h.mb < E) (hq : QVal w E cs (.mk hd ks))
    (hfit : Fits L NS (emit x (.mk hd ks) false NS.length).1.length (emit x (.mk hd ks) false NS.length).2.length) :
    Calls Tryz.prog 22 #[.pointer (some ⟨E, 0, none⟩), .agg cs.toArray, .bool false] w fun e w' => e = .returned (.tuple #[]) ∧ EmE w w' E h (L ++ (emit x (.mk hd ks) false NS.length).1) (NS ++ (emit x (.mk hd ks) false NS.length).2) nc := by
  rw [emit11 x hd ks false NS.length hkd] at hfit ⊢
  obtain ⟨_, _, A1, A2, A3, A4, c1, c2, c3, c4, kc, hw, hkl, h1, h2, h3, h4, h5⟩ := hq
  have hE := m.lt
  have hKL := kl_of hE h4 h5
  have l3 := hloc.has
  have l5 := hloc.phr
  have l10 := hloc.lst
  have l1 := hloc.one
  have l0 := hloc.few
  obtain ⟨kind, field, text, terms, offs, qn, weight, lo, hi, occur⟩ := hd
  simp only at hkd
  subst hkd
  obtain ⟨C, hC⟩ : ∃ C, C = qcells ⟨11, field, text, terms, offs, qn, weight, lo, hi, occur⟩ ks.length A1 A2 A3 A4 c1 c2 c3 c4 := ⟨_, rfl⟩
  obtain ⟨W1, hW1⟩ : ∃ W, W = w.alloc (.cells C 29) := ⟨_, rfl⟩
  have K1 : Blk W1 w.heap.size 29 C := by rw [hW1]; exact Blk.new w _ _
  have hbW : Below w.heap.size w W1 := by rw [hW1]; exact Base.bel
  have hwf := hw
  have s1 := h1
  have s2 := h2
  have s3 := h3
  have HM := Lib.hid (m.grow hbW)
  have HX := Lib.hid (hx.below hbW hx.lt)
  have HKL := Lib.hid (hKL.kept (.of_below hbW E) (Nat.le_of_lt hE))
  have HS1 := Lib.hid (s1.below hbW (Nat.le_of_lt hE))
  have HS2 := Lib.hid (s2.below hbW (Nat.le_of_lt hE))
  have HS3 := Lib.hid (s3.below hbW (Nat.le_of_lt hE))
  have HF := Lib.hid hfit
  have HI := Lib.hid IH
  have HWF := Lib.hid hwf
  have HKB := Lib.hid hbW
  simp only at l3 l5 l10 l1 l0
  have H3 := Lib.hid l3
  have H5 := Lib.hid l5
  have H10 := Lib.hid l10
  have H1 := Lib.hid l1
  unfold qcells at hC
  simp only at hC
  rw [hC] at K1 hW1
  have HW := Lib.hid hW1
  obtain ⟨y0, y1, y2, y3, y4, y5, y6, y7, y8, y9, y10, y11, y12, y13, y14⟩ := qcs K1
  have HK1 := Lib.hid K1
  clear l3 l5 l10 l1 hC m hx hfit hloc IH h1 h2 h3 h4 h5 hw hkl hKL s1 s2 s3 hwf hbW hW1 K1
  change Calls _ _ #[.pointer (some ⟨E, 0, none⟩), .agg #[.int .i64 11, .int .i64 field, .string text, .slice A1 terms.length c1, .slice A2 offs.length c2, .int .i64 qn, .int .u64 weight, .bool lo.op, .bool lo.inn, .string lo.text, .bool hi.op, .bool hi.inn, .string hi.text, .slice A3 occur.length c3, .slice A4 ks.length c4], .bool false] w _
  go_enter Tryz.func22, Tryz.ntmps22
  go_upto_region 1 with fail
  rw [← HW.out]
  have HN := Lib.hid (most_any x ks HI.out ⟨11, field, text, terms, offs, qn, weight, lo, hi, occur⟩ A1 A2 A3 A4 c1 c2 c3 c4 E h L NS nc nv cv nm false W1 HM.out HX.out hmb HKL.out (by omega) (by have := HF.out; unfold Fits at this ⊢; simp only [shut, landR_length] at this; exact this))
  unfold qcells at HN
  go_wp2_with (go_at_call 50; refine HN.out.mono ?_; rintro e wz ⟨rfl, hz⟩)
  go_end0
  obtain ⟨hk, nv', cv', nc', hm', hn'⟩ := hz
  exact ⟨rfl, (Keeps.of_below HKB.out E).trans hk, nv', cv', nc', hm', hn'.mono HKB.out.size⟩
end Go.Proofs.YtfpikilhbkeajaaGreatDoor.EmitQD

namespace Go.Proofs.YtfpikilhbkeajaaGreatDoor.EmitQE
set_option maxRecDepth 100000
open Go.RowKit Go.PlainAid Base Query QrySize EmitPlain EmitBase EmitPut LeafMap EmitNear EmitRaw EmitMost EmitSplit EmitMiss EmitExt EmitList EmitQ0

set_option maxHeartbeats 4000000 in
theorem query12t (x : Lf → Int) (hd : Head) (ks : List Qry) (hkd : hd.kind = 12) (hloc : QLoc hd ks.length) (IH : ∀ k ∈ ks, QC x k) (E : Nat) (h : EH) (L : List Ins) (NS : List Nr) (nc : List Value) (nv cv : Value) (nm : Nat) (cs : List Value) (w : World) (m : Em w E h L NS nc nv cv) (hx : IsNum w h.mb nm x) (hmb : h.mb < E) (hq : QVal w E cs (.mk hd ks))
    (hfit : Fits L NS (emit x (.mk hd ks) true NS.length).1.length (emit x (.mk hd ks) true NS.length).2.length) :
    Calls Tryz.prog 22 #[.pointer (some ⟨E, 0, none⟩), .agg cs.toArray, .bool true] w fun e w' => e = .returned (.tuple #[]) ∧ EmE w w' E h (L ++ (emit x (.mk hd ks) true NS.length).1) (NS ++ (emit x (.mk hd ks) true NS.length).2) nc := by
  rw [emit12 x hd ks true NS.length hkd] at hfit ⊢
  obtain ⟨_, _, A1, A2, A3, A4, c1, c2, c3, c4, kc, hw, hkl, h1, h2, h3, h4, h5⟩ := hq
  have hE := m.lt
  have hKL := kl_of hE h4 h5
  have l3 := hloc.has
  have l5 := hloc.phr
  have l10 := hloc.lst
  have l1 := hloc.one
  have l0 := hloc.few
  obtain ⟨kind, field, text, terms, offs, qn, weight, lo, hi, occur⟩ := hd
  simp only at hkd
  subst hkd
  obtain ⟨C, hC⟩ : ∃ C, C = qcells ⟨12, field, text, terms, offs, qn, weight, lo, hi, occur⟩ ks.length A1 A2 A3 A4 c1 c2 c3 c4 := ⟨_, rfl⟩
  obtain ⟨W1, hW1⟩ : ∃ W, W = w.alloc (.cells C 29) := ⟨_, rfl⟩
  have K1 : Blk W1 w.heap.size 29 C := by rw [hW1]; exact Blk.new w _ _
  have hbW : Below w.heap.size w W1 := by rw [hW1]; exact Base.bel
  have hwf := hw
  have s1 := h1
  have s2 := h2
  have s3 := h3
  have HM := Lib.hid (m.grow hbW)
  have HX := Lib.hid (hx.below hbW hx.lt)
  have HKL := Lib.hid (hKL.kept (.of_below hbW E) (Nat.le_of_lt hE))
  have HS1 := Lib.hid (s1.below hbW (Nat.le_of_lt hE))
  have HS2 := Lib.hid (s2.below hbW (Nat.le_of_lt hE))
  have HS3 := Lib.hid (s3.below hbW (Nat.le_of_lt hE))
  have HF := Lib.hid hfit
  have HI := Lib.hid IH
  have HWF := Lib.hid hwf
  have HKB := Lib.hid hbW
  simp only at l3 l5 l10 l1 l0
  have H3 := Lib.hid l3
  have H5 := Lib.hid l5
  have H10 := Lib.hid l10
  have H1 := Lib.hid l1
  unfold qcells at hC
  simp only at hC
  rw [hC] at K1 hW1
  have HW := Lib.hid hW1
  obtain ⟨y0, y1, y2, y3, y4, y5, y6, y7, y8, y9, y10, y11, y12, y13, y14⟩ := qcs K1
  have HK1 := Lib.hid K1
  clear l3 l5 l10 l1 hC m hx hfit hloc IH h1 h2 h3 h4 h5 hw hkl hKL s1 s2 s3 hwf hbW hW1 K1
  have hk0 : 0 < ks.length := H1.out (by simp)
  obtain ⟨y, hy⟩ : ∃ y, ks[0]? = some y := ⟨_, List.getElem?_eq_getElem hk0⟩
  obtain ⟨g, o, rfl, B1, B2, B3, B4, d1, d2, d3, d4, hq, hat⟩ := kl_kid HKL.out hy
  rw [Nat.zero_mul, Nat.add_zero] at hat
  obtain ⟨x0, x1, x2, x3, x4, x5, x6, x7, x8, x9, x10, x11, x12, x13, x14⟩ := hat
  have hkk : kid0 (ks.map (emit x)) false = emit x y false := by
    cases ks with
    | nil => simp at hk0
    | cons a r => simp only [List.getElem?_cons_zero, Option.some.injEq] at hy; subst hy; rfl
  have hfit := HF.out
  rw [hkk] at hfit ⊢
  have hl := hfit
  unfold Fits at hl
  try simp at hl
  obtain ⟨Q, hQ⟩ : ∃ Q, Q = qcells y.h y.kids.length B1 B2 B3 B4 d1 d2 d3 d4 := ⟨_, rfl⟩
  rw [← hQ] at hq
  have HQ := Lib.hid (HI.out y (List.mem_of_getElem? hy) E h L NS nc nv cv nm false Q.toList W1 HM.out HX.out hmb hq (by unfold Fits; omega))
  unfold qcells at hQ
  have HQQ := Lib.hid hQ
  have i1 : (0 : Int) < (ks.length : Int) := by omega
  have HL9 : Hid ((L ++ (emit x y false NS.length).1).length ≤ 1099511627776) := Lib.hid (by simp; omega)
  clear hy hkk hfit hq hQ hl
  change Calls _ _ #[.pointer (some ⟨E, 0, none⟩), .agg #[.int .i64 12, .int .i64 field, .string text, .slice A1 terms.length c1, .slice A2 offs.length c2, .int .i64 qn, .int .u64 weight, .bool lo.op, .bool lo.inn, .string lo.text, .bool hi.op, .bool hi.inn, .string hi.text, .slice A3 occur.length c3, .slice (some ⟨g, o, none⟩) ks.length c4], .bool true] w _
  go_enter Tryz.func22, Tryz.ntmps22
  go_upto_region 1 with fail
  rw [← HW.out]
  go_upto_region 25 with (go_at_call 22; rw [← HQQ.out]; refine HQ.out.mono ?_; rintro e wn ⟨rfl, hkn, nv2, cv2, nc2, hm2, hn2⟩; have HM2 := Lib.hid hm2; have HKN := Lib.hid hkn; have HN2 := Lib.hid hn2; clear hm2 hkn hn2)
  clear x0 x1 x2 x3 x4 x5 x6 x7 x8 x9 x10 x11 x12 x13 x14
  go_wp2_with (go_at_call 23; refine (put_any E h _ _ _ nv2 cv2 11 0 0 wn HM2.out HL9.out).mono ?_; rintro e wz ⟨rfl, hz⟩)
  go_end0
  obtain ⟨hk, nv', cv', nc', hm', hn'⟩ := hz
  refine ⟨rfl, ((Keeps.of_below HKB.out E).trans HKN.out).trans hk, nv', cv', nc2 ++ nc', ?_, (HN2.out.app (hn'.mono HKN.out.size)).mono HKB.out.size⟩
  simpa [wt, List.append_assoc] using hm'

set_option maxHeartbeats 4000000 in
theorem query12f (x : Lf → Int) (hd : Head) (ks : List Qry) (hkd : hd.kind = 12) (hloc : QLoc hd ks.length) (IH : ∀ k ∈ ks, QC x k) (E : Nat) (h : EH) (L : List Ins) (NS : List Nr) (nc : List Value) (nv cv : Value) (nm : Nat) (cs : List Value) (w : World) (m : Em w E h L NS nc nv cv) (hx : IsNum w h.mb nm x) (hmb : h.mb < E) (hq : QVal w E cs (.mk hd ks))
    (hfit : Fits L NS (emit x (.mk hd ks) false NS.length).1.length (emit x (.mk hd ks) false NS.length).2.length) :
    Calls Tryz.prog 22 #[.pointer (some ⟨E, 0, none⟩), .agg cs.toArray, .bool false] w fun e w' => e = .returned (.tuple #[]) ∧ EmE w w' E h (L ++ (emit x (.mk hd ks) false NS.length).1) (NS ++ (emit x (.mk hd ks) false NS.length).2) nc := by
  rw [emit12 x hd ks false NS.length hkd] at hfit ⊢
  obtain ⟨_, _, A1, A2, A3, A4, c1, c2, c3, c4, kc, hw, hkl, h1, h2, h3, h4, h5⟩ := hq
  have hE := m.lt
  have hKL := kl_of hE h4 h5
  have l3 := hloc.has
  have l5 := hloc.phr
  have l10 := hloc.lst
  have l1 := hloc.one
  have l0 := hloc.few
  obtain ⟨kind, field, text, terms, offs, qn, weight, lo, hi, occur⟩ := hd
  simp only at hkd
  subst hkd
  obtain ⟨C, hC⟩ : ∃ C, C = qcells ⟨12, field, text, terms, offs, qn, weight, lo, hi, occur⟩ ks.length A1 A2 A3 A4 c1 c2 c3 c4 := ⟨_, rfl⟩
  obtain ⟨W1, hW1⟩ : ∃ W, W = w.alloc (.cells C 29) := ⟨_, rfl⟩
  have K1 : Blk W1 w.heap.size 29 C := by rw [hW1]; exact Blk.new w _ _
  have hbW : Below w.heap.size w W1 := by rw [hW1]; exact Base.bel
  have hwf := hw
  have s1 := h1
  have s2 := h2
  have s3 := h3
  have HM := Lib.hid (m.grow hbW)
  have HX := Lib.hid (hx.below hbW hx.lt)
  have HKL := Lib.hid (hKL.kept (.of_below hbW E) (Nat.le_of_lt hE))
  have HS1 := Lib.hid (s1.below hbW (Nat.le_of_lt hE))
  have HS2 := Lib.hid (s2.below hbW (Nat.le_of_lt hE))
  have HS3 := Lib.hid (s3.below hbW (Nat.le_of_lt hE))
  have HF := Lib.hid hfit
  have HI := Lib.hid IH
  have HWF := Lib.hid hwf
  have HKB := Lib.hid hbW
  simp only at l3 l5 l10 l1 l0
  have H3 := Lib.hid l3
  have H5 := Lib.hid l5
  have H10 := Lib.hid l10
  have H1 := Lib.hid l1
  unfold qcells at hC
  simp only at hC
  rw [hC] at K1 hW1
  have HW := Lib.hid hW1
  obtain ⟨y0, y1, y2, y3, y4, y5, y6, y7, y8, y9, y10, y11, y12, y13, y14⟩ := qcs K1
  have HK1 := Lib.hid K1
  clear l3 l5 l10 l1 hC m hx hfit hloc IH h1 h2 h3 h4 h5 hw hkl hKL s1 s2 s3 hwf hbW hW1 K1
  have hk0 : 0 < ks.length := H1.out (by simp)
  obtain ⟨y, hy⟩ : ∃ y, ks[0]? = some y := ⟨_, List.getElem?_eq_getElem hk0⟩
  obtain ⟨g, o, rfl, B1, B2, B3, B4, d1, d2, d3, d4, hq, hat⟩ := kl_kid HKL.out hy
  rw [Nat.zero_mul, Nat.add_zero] at hat
  obtain ⟨x0, x1, x2, x3, x4, x5, x6, x7, x8, x9, x10, x11, x12, x13, x14⟩ := hat
  have hkk : kid0 (ks.map (emit x)) false = emit x y false := by
    cases ks with
    | nil => simp at hk0
    | cons a r => simp only [List.getElem?_cons_zero, Option.some.injEq] at hy; subst hy; rfl
  have hfit := HF.out
  rw [hkk] at hfit ⊢
  have hl := hfit
  unfold Fits at hl
  try simp at hl
  obtain ⟨Q, hQ⟩ : ∃ Q, Q = qcells y.h y.kids.length B1 B2 B3 B4 d1 d2 d3 d4 := ⟨_, rfl⟩
  rw [← hQ] at hq
  have HQ := Lib.hid (HI.out y (List.mem_of_getElem? hy) E h L NS nc nv cv nm false Q.toList W1 HM.out HX.out hmb hq (by unfold Fits; omega))
  unfold qcells at hQ
  have HQQ := Lib.hid hQ
  have i1 : (0 : Int) < (ks.length : Int) := by omega
  have HL9 : Hid ((L ++ (emit x y false NS.length).1).length ≤ 1099511627776) := Lib.hid (by simp; omega)
  clear hy hkk hfit hq hQ hl
  change Calls _ _ #[.pointer (some ⟨E, 0, none⟩), .agg #[.int .i64 12, .int .i64 field, .string text, .slice A1 terms.length c1, .slice A2 offs.length c2, .int .i64 qn, .int .u64 weight, .bool lo.op, .bool lo.inn, .string lo.text, .bool hi.op, .bool hi.inn, .string hi.text, .slice A3 occur.length c3, .slice (some ⟨g, o, none⟩) ks.length c4], .bool false] w _
  go_enter Tryz.func22, Tryz.ntmps22
  go_upto_region 1 with fail
  rw [← HW.out]
  go_upto_region 25 with (go_at_call 22; rw [← HQQ.out]; refine HQ.out.mono ?_; rintro e wn ⟨rfl, hkn, nv2, cv2, nc2, hm2, hn2⟩; have HM2 := Lib.hid hm2; have HKN := Lib.hid hkn; have HN2 := Lib.hid hn2; clear hm2 hkn hn2)
  clear x0 x1 x2 x3 x4 x5 x6 x7 x8 x9 x10 x11 x12 x13 x14
  go_wp2_with (go_at_call 23; refine (put_any E h _ _ _ nv2 cv2 11 0 0 wn HM2.out HL9.out).mono ?_; rintro e wz ⟨rfl, hz⟩)
  go_end0
  obtain ⟨hk, nv', cv', nc', hm', hn'⟩ := hz
  refine ⟨rfl, ((Keeps.of_below HKB.out E).trans HKN.out).trans hk, nv', cv', nc2 ++ nc', ?_, (HN2.out.app (hn'.mono HKN.out.size)).mono HKB.out.size⟩
  simpa [wt, List.append_assoc] using hm'
end Go.Proofs.YtfpikilhbkeajaaGreatDoor.EmitQE

namespace Go.Proofs.YtfpikilhbkeajaaGreatDoor.EmitQF
set_option maxRecDepth 100000
open Go.RowKit Go.PlainAid Base Query QrySize EmitPlain EmitBase EmitPut LeafMap EmitNear EmitRaw EmitMost EmitSplit EmitMiss EmitExt EmitList EmitQ0

set_option maxHeartbeats 4000000 in
theorem query13t (x : Lf → Int) (hd : Head) (ks : List Qry) (hkd : hd.kind = 13) (hloc : QLoc hd ks.length) (IH : ∀ k ∈ ks, QC x k) (E : Nat) (h : EH) (L : List Ins) (NS : List Nr) (nc : List Value) (nv cv : Value) (nm : Nat) (cs : List Value) (w : World) (m : Em w E h L NS nc nv cv) (hx : IsNum w h.mb nm x) (hmb : h.mb < E) (hq : QVal w E cs (.mk hd ks))
    (hfit : Fits L NS (emit x (.mk hd ks) true NS.length).1.length (emit x (.mk hd ks) true NS.length).2.length) :
    Calls Tryz.prog 22 #[.pointer (some ⟨E, 0, none⟩), .agg cs.toArray, .bool true] w fun e w' => e = .returned (.tuple #[]) ∧ EmE w w' E h (L ++ (emit x (.mk hd ks) true NS.length).1) (NS ++ (emit x (.mk hd ks) true NS.length).2) nc := by
  rw [emit13 x hd ks true NS.length hkd] at hfit ⊢
  obtain ⟨_, _, A1, A2, A3, A4, c1, c2, c3, c4, kc, hw, hkl, h1, h2, h3, h4, h5⟩ := hq
  have hE := m.lt
  have hKL := kl_of hE h4 h5
  have l3 := hloc.has
  have l5 := hloc.phr
  have l10 := hloc.lst
  have l1 := hloc.one
  have l0 := hloc.few
  obtain ⟨kind, field, text, terms, offs, qn, weight, lo, hi, occur⟩ := hd
  simp only at hkd
  subst hkd
  obtain ⟨C, hC⟩ : ∃ C, C = qcells ⟨13, field, text, terms, offs, qn, weight, lo, hi, occur⟩ ks.length A1 A2 A3 A4 c1 c2 c3 c4 := ⟨_, rfl⟩
  obtain ⟨W1, hW1⟩ : ∃ W, W = w.alloc (.cells C 29) := ⟨_, rfl⟩
  have K1 : Blk W1 w.heap.size 29 C := by rw [hW1]; exact Blk.new w _ _
  have hbW : Below w.heap.size w W1 := by rw [hW1]; exact Base.bel
  have hwf := hw
  have s1 := h1
  have s2 := h2
  have s3 := h3
  have HM := Lib.hid (m.grow hbW)
  have HX := Lib.hid (hx.below hbW hx.lt)
  have HKL := Lib.hid (hKL.kept (.of_below hbW E) (Nat.le_of_lt hE))
  have HS1 := Lib.hid (s1.below hbW (Nat.le_of_lt hE))
  have HS2 := Lib.hid (s2.below hbW (Nat.le_of_lt hE))
  have HS3 := Lib.hid (s3.below hbW (Nat.le_of_lt hE))
  have HF := Lib.hid hfit
  have HI := Lib.hid IH
  have HWF := Lib.hid hwf
  have HKB := Lib.hid hbW
  simp only at l3 l5 l10 l1 l0
  have H3 := Lib.hid l3
  have H5 := Lib.hid l5
  have H10 := Lib.hid l10
  have H1 := Lib.hid l1
  unfold qcells at hC
  simp only at hC
  rw [hC] at K1 hW1
  have HW := Lib.hid hW1
  obtain ⟨y0, y1, y2, y3, y4, y5, y6, y7, y8, y9, y10, y11, y12, y13, y14⟩ := qcs K1
  have HK1 := Lib.hid K1
  clear l3 l5 l10 l1 hC m hx hfit hloc IH h1 h2 h3 h4 h5 hw hkl hKL s1 s2 s3 hwf hbW hW1 K1
  have hk0 : 0 < ks.length := H1.out (by simp)
  obtain ⟨y, hy⟩ : ∃ y, ks[0]? = some y := ⟨_, List.getElem?_eq_getElem hk0⟩
  obtain ⟨g, o, rfl, B1, B2, B3, B4, d1, d2, d3, d4, hq, hat⟩ := kl_kid HKL.out hy
  rw [Nat.zero_mul, Nat.add_zero] at hat
  obtain ⟨x0, x1, x2, x3, x4, x5, x6, x7, x8, x9, x10, x11, x12, x13, x14⟩ := hat
  have hkk : kid0 (ks.map (emit x)) true = emit x y true := by
    cases ks with
    | nil => simp at hk0
    | cons a r => simp only [List.getElem?_cons_zero, Option.some.injEq] at hy; subst hy; rfl
  have hfit := HF.out
  rw [hkk] at hfit ⊢
  try simp only [wt, if_true] at hfit
  try simp only [wt, if_true]
  have hl := hfit
  unfold Fits at hl
  try simp at hl
  obtain ⟨Q, hQ⟩ : ∃ Q, Q = qcells y.h y.kids.length B1 B2 B3 B4 d1 d2 d3 d4 := ⟨_, rfl⟩
  rw [← hQ] at hq
  have HQ := Lib.hid (HI.out y (List.mem_of_getElem? hy) E h L NS nc nv cv nm true Q.toList W1 HM.out HX.out hmb hq (by unfold Fits; omega))
  unfold qcells at hQ
  have HQQ := Lib.hid hQ
  have i1 : (0 : Int) < (ks.length : Int) := by omega
  have HL9 : Hid ((L ++ (emit x y true NS.length).1).length ≤ 1099511627776) := Lib.hid (by simp; omega)
  clear hy hkk hfit hq hQ hl
  change Calls _ _ #[.pointer (some ⟨E, 0, none⟩), .agg #[.int .i64 13, .int .i64 field, .string text, .slice A1 terms.length c1, .slice A2 offs.length c2, .int .i64 qn, .int .u64 weight, .bool lo.op, .bool lo.inn, .string lo.text, .bool hi.op, .bool hi.inn, .string hi.text, .slice A3 occur.length c3, .slice (some ⟨g, o, none⟩) ks.length c4], .bool true] w _
  go_enter Tryz.func22, Tryz.ntmps22
  go_upto_region 1 with fail
  rw [← HW.out]
  go_upto_region 17 with (go_at_call 22; rw [← HQQ.out]; refine HQ.out.mono ?_; rintro e wn ⟨rfl, hkn, nv2, cv2, nc2, hm2, hn2⟩; have HM2 := Lib.hid hm2; have HKN := Lib.hid hkn; have HN2 := Lib.hid hn2; clear hm2 hkn hn2)
  clear x0 x1 x2 x3 x4 x5 x6 x7 x8 x9 x10 x11 x12 x13 x14
  go_wp2_with (go_at_call 23; refine (put_any E h _ _ _ nv2 cv2 12 weight 0 wn HM2.out HL9.out).mono ?_; rintro e wz ⟨rfl, hz⟩)
  go_end0
  obtain ⟨hk, nv', cv', nc', hm', hn'⟩ := hz
  refine ⟨rfl, ((Keeps.of_below HKB.out E).trans HKN.out).trans hk, nv', cv', nc2 ++ nc', ?_, (HN2.out.app (hn'.mono HKN.out.size)).mono HKB.out.size⟩
  simpa [wt, List.append_assoc] using hm'

set_option maxHeartbeats 4000000 in
theorem query13f (x : Lf → Int) (hd : Head) (ks : List Qry) (hkd : hd.kind = 13) (hloc : QLoc hd ks.length) (IH : ∀ k ∈ ks, QC x k) (E : Nat) (h : EH) (L : List Ins) (NS : List Nr) (nc : List Value) (nv cv : Value) (nm : Nat) (cs : List Value) (w : World) (m : Em w E h L NS nc nv cv) (hx : IsNum w h.mb nm x) (hmb : h.mb < E) (hq : QVal w E cs (.mk hd ks))
    (hfit : Fits L NS (emit x (.mk hd ks) false NS.length).1.length (emit x (.mk hd ks) false NS.length).2.length) :
    Calls Tryz.prog 22 #[.pointer (some ⟨E, 0, none⟩), .agg cs.toArray, .bool false] w fun e w' => e = .returned (.tuple #[]) ∧ EmE w w' E h (L ++ (emit x (.mk hd ks) false NS.length).1) (NS ++ (emit x (.mk hd ks) false NS.length).2) nc := by
  rw [emit13 x hd ks false NS.length hkd] at hfit ⊢
  obtain ⟨_, _, A1, A2, A3, A4, c1, c2, c3, c4, kc, hw, hkl, h1, h2, h3, h4, h5⟩ := hq
  have hE := m.lt
  have hKL := kl_of hE h4 h5
  have l3 := hloc.has
  have l5 := hloc.phr
  have l10 := hloc.lst
  have l1 := hloc.one
  have l0 := hloc.few
  obtain ⟨kind, field, text, terms, offs, qn, weight, lo, hi, occur⟩ := hd
  simp only at hkd
  subst hkd
  obtain ⟨C, hC⟩ : ∃ C, C = qcells ⟨13, field, text, terms, offs, qn, weight, lo, hi, occur⟩ ks.length A1 A2 A3 A4 c1 c2 c3 c4 := ⟨_, rfl⟩
  obtain ⟨W1, hW1⟩ : ∃ W, W = w.alloc (.cells C 29) := ⟨_, rfl⟩
  have K1 : Blk W1 w.heap.size 29 C := by rw [hW1]; exact Blk.new w _ _
  have hbW : Below w.heap.size w W1 := by rw [hW1]; exact Base.bel
  have hwf := hw
  have s1 := h1
  have s2 := h2
  have s3 := h3
  have HM := Lib.hid (m.grow hbW)
  have HX := Lib.hid (hx.below hbW hx.lt)
  have HKL := Lib.hid (hKL.kept (.of_below hbW E) (Nat.le_of_lt hE))
  have HS1 := Lib.hid (s1.below hbW (Nat.le_of_lt hE))
  have HS2 := Lib.hid (s2.below hbW (Nat.le_of_lt hE))
  have HS3 := Lib.hid (s3.below hbW (Nat.le_of_lt hE))
  have HF := Lib.hid hfit
  have HI := Lib.hid IH
  have HWF := Lib.hid hwf
  have HKB := Lib.hid hbW
  simp only at l3 l5 l10 l1 l0
  have H3 := Lib.hid l3
  have H5 := Lib.hid l5
  have H10 := Lib.hid l10
  have H1 := Lib.hid l1
  unfold qcells at hC
  simp only at hC
  rw [hC] at K1 hW1
  have HW := Lib.hid hW1
  obtain ⟨y0, y1, y2, y3, y4, y5, y6, y7, y8, y9, y10, y11, y12, y13, y14⟩ := qcs K1
  have HK1 := Lib.hid K1
  clear l3 l5 l10 l1 hC m hx hfit hloc IH h1 h2 h3 h4 h5 hw hkl hKL s1 s2 s3 hwf hbW hW1 K1
  have hk0 : 0 < ks.length := H1.out (by simp)
  obtain ⟨y, hy⟩ : ∃ y, ks[0]? = some y := ⟨_, List.getElem?_eq_getElem hk0⟩
  obtain ⟨g, o, rfl, B1, B2, B3, B4, d1, d2, d3, d4, hq, hat⟩ := kl_kid HKL.out hy
  rw [Nat.zero_mul, Nat.add_zero] at hat
  obtain ⟨x0, x1, x2, x3, x4, x5, x6, x7, x8, x9, x10, x11, x12, x13, x14⟩ := hat
  have hkk : kid0 (ks.map (emit x)) false = emit x y false := by
    cases ks with
    | nil => simp at hk0
    | cons a r => simp only [List.getElem?_cons_zero, Option.some.injEq] at hy; subst hy; rfl
  have hfit := HF.out
  rw [hkk] at hfit ⊢
  try simp only [wt, Bool.false_eq_true, if_false, List.append_nil] at hfit
  try simp only [wt, Bool.false_eq_true, if_false, List.append_nil]
  have hl := hfit
  unfold Fits at hl
  try simp at hl
  obtain ⟨Q, hQ⟩ : ∃ Q, Q = qcells y.h y.kids.length B1 B2 B3 B4 d1 d2 d3 d4 := ⟨_, rfl⟩
  rw [← hQ] at hq
  have HQ := Lib.hid (HI.out y (List.mem_of_getElem? hy) E h L NS nc nv cv nm false Q.toList W1 HM.out HX.out hmb hq (by unfold Fits; omega))
  unfold qcells at hQ
  have HQQ := Lib.hid hQ
  have i1 : (0 : Int) < (ks.length : Int) := by omega
  have HL9 : Hid ((L ++ (emit x y false NS.length).1).length ≤ 1099511627776) := Lib.hid (by simp; omega)
  clear hy hkk hfit hq hQ hl
  change Calls _ _ #[.pointer (some ⟨E, 0, none⟩), .agg #[.int .i64 13, .int .i64 field, .string text, .slice A1 terms.length c1, .slice A2 offs.length c2, .int .i64 qn, .int .u64 weight, .bool lo.op, .bool lo.inn, .string lo.text, .bool hi.op, .bool hi.inn, .string hi.text, .slice A3 occur.length c3, .slice (some ⟨g, o, none⟩) ks.length c4], .bool false] w _
  go_enter Tryz.func22, Tryz.ntmps22
  go_upto_region 1 with fail
  rw [← HW.out]
  go_wp2_with (go_at_call 22; rw [← HQQ.out]; refine HQ.out.mono ?_; rintro e wz ⟨rfl, hz⟩)
  go_end0
  obtain ⟨hk, nv', cv', nc', hm', hn'⟩ := hz
  exact ⟨rfl, (Keeps.of_below HKB.out E).trans hk, nv', cv', nc', hm', hn'.mono HKB.out.size⟩
end Go.Proofs.YtfpikilhbkeajaaGreatDoor.EmitQF

namespace Go.Proofs.YtfpikilhbkeajaaGreatDoor.EmitQG
set_option maxRecDepth 100000
open Go.RowKit Go.PlainAid Base Query QrySize EmitPlain EmitBase EmitPut LeafMap EmitNear EmitRaw EmitMost EmitSplit EmitMiss EmitExt EmitList EmitQ0

set_option maxHeartbeats 4000000 in
theorem query14t (x : Lf → Int) (hd : Head) (ks : List Qry) (hkd : hd.kind = 14) (hloc : QLoc hd ks.length) (IH : ∀ k ∈ ks, QC x k) (E : Nat) (h : EH) (L : List Ins) (NS : List Nr) (nc : List Value) (nv cv : Value) (nm : Nat) (cs : List Value) (w : World) (m : Em w E h L NS nc nv cv) (hx : IsNum w h.mb nm x) (hmb : h.mb < E) (hq : QVal w E cs (.mk hd ks))
    (hfit : Fits L NS (emit x (.mk hd ks) true NS.length).1.length (emit x (.mk hd ks) true NS.length).2.length) :
    Calls Tryz.prog 22 #[.pointer (some ⟨E, 0, none⟩), .agg cs.toArray, .bool true] w fun e w' => e = .returned (.tuple #[]) ∧ EmE w w' E h (L ++ (emit x (.mk hd ks) true NS.length).1) (NS ++ (emit x (.mk hd ks) true NS.length).2) nc := by
  rw [emit14 x hd ks true NS.length hkd] at hfit ⊢
  obtain ⟨_, _, A1, A2, A3, A4, c1, c2, c3, c4, kc, hw, hkl, h1, h2, h3, h4, h5⟩ := hq
  have hE := m.lt
  have hKL := kl_of hE h4 h5
  have l3 := hloc.has
  have l5 := hloc.phr
  have l10 := hloc.lst
  have l1 := hloc.one
  have l0 := hloc.few
  obtain ⟨kind, field, text, terms, offs, qn, weight, lo, hi, occur⟩ := hd
  simp only at hkd
  subst hkd
  obtain ⟨C, hC⟩ : ∃ C, C = qcells ⟨14, field, text, terms, offs, qn, weight, lo, hi, occur⟩ ks.length A1 A2 A3 A4 c1 c2 c3 c4 := ⟨_, rfl⟩
  obtain ⟨W1, hW1⟩ : ∃ W, W = w.alloc (.cells C 29) := ⟨_, rfl⟩
  have K1 : Blk W1 w.heap.size 29 C := by rw [hW1]; exact Blk.new w _ _
  have hbW : Below w.heap.size w W1 := by rw [hW1]; exact Base.bel
  have hwf := hw
  have s1 := h1
  have s2 := h2
  have s3 := h3
  have HM := Lib.hid (m.grow hbW)
  have HX := Lib.hid (hx.below hbW hx.lt)
  have HKL := Lib.hid (hKL.kept (.of_below hbW E) (Nat.le_of_lt hE))
  have HS1 := Lib.hid (s1.below hbW (Nat.le_of_lt hE))
  have HS2 := Lib.hid (s2.below hbW (Nat.le_of_lt hE))
  have HS3 := Lib.hid (s3.below hbW (Nat.le_of_lt hE))
  have HF := Lib.hid hfit
  have HI := Lib.hid IH
  have HWF := Lib.hid hwf
  have HKB := Lib.hid hbW
  simp only at l3 l5 l10 l1 l0
  have H3 := Lib.hid l3
  have H5 := Lib.hid l5
  have H10 := Lib.hid l10
  have H1 := Lib.hid l1
  unfold qcells at hC
  simp only at hC
  rw [hC] at K1 hW1
  have HW := Lib.hid hW1
  obtain ⟨y0, y1, y2, y3, y4, y5, y6, y7, y8, y9, y10, y11, y12, y13, y14⟩ := qcs K1
  have HK1 := Lib.hid K1
  clear l3 l5 l10 l1 hC m hx hfit hloc IH h1 h2 h3 h4 h5 hw hkl hKL s1 s2 s3 hwf hbW hW1 K1
  have hk0 : 0 < ks.length := H1.out (by simp)
  obtain ⟨y, hy⟩ : ∃ y, ks[0]? = some y := ⟨_, List.getElem?_eq_getElem hk0⟩
  obtain ⟨g, o, rfl, B1, B2, B3, B4, d1, d2, d3, d4, hq, hat⟩ := kl_kid HKL.out hy
  rw [Nat.zero_mul, Nat.add_zero] at hat
  obtain ⟨x0, x1, x2, x3, x4, x5, x6, x7, x8, x9, x10, x11, x12, x13, x14⟩ := hat
  have hkk : kid0 (ks.map (emit x)) false = emit x y false := by
    cases ks with
    | nil => simp at hk0
    | cons a r => simp only [List.getElem?_cons_zero, Option.some.injEq] at hy; subst hy; rfl
  have hfit := HF.out
  rw [hkk] at hfit ⊢
  try simp only [wt, if_true] at hfit
  try simp only [wt, if_true]
  have hl := hfit
  unfold Fits at hl
  try simp at hl
  obtain ⟨Q, hQ⟩ : ∃ Q, Q = qcells y.h y.kids.length B1 B2 B3 B4 d1 d2 d3 d4 := ⟨_, rfl⟩
  rw [← hQ] at hq
  have HQ := Lib.hid (HI.out y (List.mem_of_getElem? hy) E h L NS nc nv cv nm false Q.toList W1 HM.out HX.out hmb hq (by unfold Fits; omega))
  unfold qcells at hQ
  have HQQ := Lib.hid hQ
  have i1 : (0 : Int) < (ks.length : Int) := by omega
  have HL9 : Hid ((L ++ (emit x y false NS.length).1).length ≤ 1099511627776) := Lib.hid (by simp; omega)
  clear hy hkk hfit hq hQ hl
  change Calls _ _ #[.pointer (some ⟨E, 0, none⟩), .agg #[.int .i64 14, .int .i64 field, .string text, .slice A1 terms.length c1, .slice A2 offs.length c2, .int .i64 qn, .int .u64 weight, .bool lo.op, .bool lo.inn, .string lo.text, .bool hi.op, .bool hi.inn, .string hi.text, .slice A3 occur.length c3, .slice (some ⟨g, o, none⟩) ks.length c4], .bool true] w _
  go_enter Tryz.func22, Tryz.ntmps22
  go_upto_region 1 with fail
  rw [← HW.out]
  go_upto_region 21 with (go_at_call 22; rw [← HQQ.out]; refine HQ.out.mono ?_; rintro e wn ⟨rfl, hkn, nv2, cv2, nc2, hm2, hn2⟩; have HM2 := Lib.hid hm2; have HKN := Lib.hid hkn; have HN2 := Lib.hid hn2; clear hm2 hkn hn2)
  clear x0 x1 x2 x3 x4 x5 x6 x7 x8 x9 x10 x11 x12 x13 x14
  go_wp2_with (go_at_call 23; refine (put_any E h _ _ _ nv2 cv2 13 weight 0 wn HM2.out HL9.out).mono ?_; rintro e wz ⟨rfl, hz⟩)
  go_end0
  obtain ⟨hk, nv', cv', nc', hm', hn'⟩ := hz
  refine ⟨rfl, ((Keeps.of_below HKB.out E).trans HKN.out).trans hk, nv', cv', nc2 ++ nc', ?_, (HN2.out.app (hn'.mono HKN.out.size)).mono HKB.out.size⟩
  simpa [wt, List.append_assoc] using hm'

set_option maxHeartbeats 4000000 in
theorem query14f (x : Lf → Int) (hd : Head) (ks : List Qry) (hkd : hd.kind = 14) (hloc : QLoc hd ks.length) (IH : ∀ k ∈ ks, QC x k) (E : Nat) (h : EH) (L : List Ins) (NS : List Nr) (nc : List Value) (nv cv : Value) (nm : Nat) (cs : List Value) (w : World) (m : Em w E h L NS nc nv cv) (hx : IsNum w h.mb nm x) (hmb : h.mb < E) (hq : QVal w E cs (.mk hd ks))
    (hfit : Fits L NS (emit x (.mk hd ks) false NS.length).1.length (emit x (.mk hd ks) false NS.length).2.length) :
    Calls Tryz.prog 22 #[.pointer (some ⟨E, 0, none⟩), .agg cs.toArray, .bool false] w fun e w' => e = .returned (.tuple #[]) ∧ EmE w w' E h (L ++ (emit x (.mk hd ks) false NS.length).1) (NS ++ (emit x (.mk hd ks) false NS.length).2) nc := by
  rw [emit14 x hd ks false NS.length hkd] at hfit ⊢
  obtain ⟨_, _, A1, A2, A3, A4, c1, c2, c3, c4, kc, hw, hkl, h1, h2, h3, h4, h5⟩ := hq
  have hE := m.lt
  have hKL := kl_of hE h4 h5
  have l3 := hloc.has
  have l5 := hloc.phr
  have l10 := hloc.lst
  have l1 := hloc.one
  have l0 := hloc.few
  obtain ⟨kind, field, text, terms, offs, qn, weight, lo, hi, occur⟩ := hd
  simp only at hkd
  subst hkd
  obtain ⟨C, hC⟩ : ∃ C, C = qcells ⟨14, field, text, terms, offs, qn, weight, lo, hi, occur⟩ ks.length A1 A2 A3 A4 c1 c2 c3 c4 := ⟨_, rfl⟩
  obtain ⟨W1, hW1⟩ : ∃ W, W = w.alloc (.cells C 29) := ⟨_, rfl⟩
  have K1 : Blk W1 w.heap.size 29 C := by rw [hW1]; exact Blk.new w _ _
  have hbW : Below w.heap.size w W1 := by rw [hW1]; exact Base.bel
  have hwf := hw
  have s1 := h1
  have s2 := h2
  have s3 := h3
  have HM := Lib.hid (m.grow hbW)
  have HX := Lib.hid (hx.below hbW hx.lt)
  have HKL := Lib.hid (hKL.kept (.of_below hbW E) (Nat.le_of_lt hE))
  have HS1 := Lib.hid (s1.below hbW (Nat.le_of_lt hE))
  have HS2 := Lib.hid (s2.below hbW (Nat.le_of_lt hE))
  have HS3 := Lib.hid (s3.below hbW (Nat.le_of_lt hE))
  have HF := Lib.hid hfit
  have HI := Lib.hid IH
  have HWF := Lib.hid hwf
  have HKB := Lib.hid hbW
  simp only at l3 l5 l10 l1 l0
  have H3 := Lib.hid l3
  have H5 := Lib.hid l5
  have H10 := Lib.hid l10
  have H1 := Lib.hid l1
  unfold qcells at hC
  simp only at hC
  rw [hC] at K1 hW1
  have HW := Lib.hid hW1
  obtain ⟨y0, y1, y2, y3, y4, y5, y6, y7, y8, y9, y10, y11, y12, y13, y14⟩ := qcs K1
  have HK1 := Lib.hid K1
  clear l3 l5 l10 l1 hC m hx hfit hloc IH h1 h2 h3 h4 h5 hw hkl hKL s1 s2 s3 hwf hbW hW1 K1
  have hk0 : 0 < ks.length := H1.out (by simp)
  obtain ⟨y, hy⟩ : ∃ y, ks[0]? = some y := ⟨_, List.getElem?_eq_getElem hk0⟩
  obtain ⟨g, o, rfl, B1, B2, B3, B4, d1, d2, d3, d4, hq, hat⟩ := kl_kid HKL.out hy
  rw [Nat.zero_mul, Nat.add_zero] at hat
  obtain ⟨x0, x1, x2, x3, x4, x5, x6, x7, x8, x9, x10, x11, x12, x13, x14⟩ := hat
  have hkk : kid0 (ks.map (emit x)) false = emit x y false := by
    cases ks with
    | nil => simp at hk0
    | cons a r => simp only [List.getElem?_cons_zero, Option.some.injEq] at hy; subst hy; rfl
  have hfit := HF.out
  rw [hkk] at hfit ⊢
  try simp only [wt, Bool.false_eq_true, if_false, List.append_nil] at hfit
  try simp only [wt, Bool.false_eq_true, if_false, List.append_nil]
  have hl := hfit
  unfold Fits at hl
  try simp at hl
  obtain ⟨Q, hQ⟩ : ∃ Q, Q = qcells y.h y.kids.length B1 B2 B3 B4 d1 d2 d3 d4 := ⟨_, rfl⟩
  rw [← hQ] at hq
  have HQ := Lib.hid (HI.out y (List.mem_of_getElem? hy) E h L NS nc nv cv nm false Q.toList W1 HM.out HX.out hmb hq (by unfold Fits; omega))
  unfold qcells at hQ
  have HQQ := Lib.hid hQ
  have i1 : (0 : Int) < (ks.length : Int) := by omega
  have HL9 : Hid ((L ++ (emit x y false NS.length).1).length ≤ 1099511627776) := Lib.hid (by simp; omega)
  clear hy hkk hfit hq hQ hl
  change Calls _ _ #[.pointer (some ⟨E, 0, none⟩), .agg #[.int .i64 14, .int .i64 field, .string text, .slice A1 terms.length c1, .slice A2 offs.length c2, .int .i64 qn, .int .u64 weight, .bool lo.op, .bool lo.inn, .string lo.text, .bool hi.op, .bool hi.inn, .string hi.text, .slice A3 occur.length c3, .slice (some ⟨g, o, none⟩) ks.length c4], .bool false] w _
  go_enter Tryz.func22, Tryz.ntmps22
  go_upto_region 1 with fail
  rw [← HW.out]
  go_wp2_with (go_at_call 22; rw [← HQQ.out]; refine HQ.out.mono ?_; rintro e wz ⟨rfl, hz⟩)
  go_end0
  obtain ⟨hk, nv', cv', nc', hm', hn'⟩ := hz
  exact ⟨rfl, (Keeps.of_below HKB.out E).trans hk, nv', cv', nc', hm', hn'.mono HKB.out.size⟩
end Go.Proofs.YtfpikilhbkeajaaGreatDoor.EmitQG
