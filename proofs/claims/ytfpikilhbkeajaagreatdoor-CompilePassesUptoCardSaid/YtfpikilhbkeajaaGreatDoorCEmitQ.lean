/-
  The walk of the emitter's query, some kinds.
  The walk of the emitter's query, some kinds.
  The walk of the emitter's query, some kinds.
-/
import Derived.Test.YtfpikilhbkeajaaGreatDoorEmitQ0
set_option linter.unusedVariables false
set_option linter.unusedSimpArgs false
namespace Go.Proofs.YtfpikilhbkeajaaGreatDoor.EmitQA
set_option maxRecDepth 100000
open Go.RowKit Go.PlainAid Base Query QrySize EmitPlain EmitBase EmitPut LeafMap EmitNear EmitRaw EmitMost EmitSplit EmitMiss EmitExt EmitList EmitQ0

set_option maxHeartbeats 4000000 in
theorem query1t (x : Lf → Int) (hd : Head) (ks : List Qry) (hkd : hd.kind = 1) (hloc : QLoc hd ks.length) (IH : ∀ k ∈ ks, QC x k) (E : Nat) (h : EH) (L : List Ins) (NS : List Nr) (nc : List Value) (nv cv : Value) (nm : Nat) (cs : List Value) (w : World) (m : Em w E h L NS nc nv cv) (hx : IsNum w h.mb nm x) (hmb : h.mb < E) (hq : QVal w E cs (.mk hd ks))
    (hfit : Fits L NS (emit x (.mk hd ks) true NS.length).1.length (emit x (.mk hd ks) true NS.length).2.length) :
    Calls Tryz.prog 22 #[.pointer (some ⟨E, 0, none⟩), .agg cs.toArray, .bool true] w fun e w' => e = .returned (.tuple #[]) ∧ EmE w w' E h (L ++ (emit x (.mk hd ks) true NS.length).1) (NS ++ (emit x (.mk hd ks) true NS.length).2) nc := by
  rw [emit1 x hd ks true NS.length hkd] at hfit ⊢
  obtain ⟨_, _, A1, A2, A3, A4, c1, c2, c3, c4, kc, hw, hkl, h1, h2, h3, h4, h5⟩ := hq
  have hE := m.lt
  have hKL := kl_of hE h4 h5
  have l3 := hloc.has
  have l5 := hloc.phr
  have l10 := hloc.lst
  have l1 := hloc.one
  have l0 := hloc.few
  obtain ⟨kind, field, text, terms, offs, qn, weight, lo, hi, occur⟩ := hd
  simp only at hkd
  subst hkd
  obtain ⟨C, hC⟩ : ∃ C, C = qcells ⟨1, field, text, terms, offs, qn, weight, lo, hi, occur⟩ ks.length A1 A2 A3 A4 c1 c2 c3 c4 := ⟨_, rfl⟩
  obtain ⟨W1, hW1⟩ : ∃ W, W = w.alloc (.cells C 29) := ⟨_, rfl⟩
  have K1 : Blk W1 w.heap.size 29 C := by rw [hW1]; exact Blk.new w _ _
  have hbW : Below w.heap.size w W1 := by rw [hW1]; exact Base.bel
  have hwf := hw
  have s1 := h1
  have s2 := h2
  have s3 := h3
  have HM := Lib.hid (m.grow hbW)
  have HX := Lib.hid (hx.below hbW hx.lt)
  have HKL := Lib.hid (hKL.kept (.of_below hbW E) (Nat.le_of_lt hE))
  have HS1 := Lib.hid (s1.below hbW (Nat.le_of_lt hE))
  have HS2 := Lib.hid (s2.below hbW (Nat.le_of_lt hE))
  have HS3 := Lib.hid (s3.below hbW (Nat.le_of_lt hE))
  have HF := Lib.hid hfit
  have HI := Lib.hid IH
  have HWF := Lib.hid hwf
  have HKB := Lib.hid hbW
  simp only at l3 l5 l10 l1 l0
  have H3 := Lib.hid l3
  have H5 := Lib.hid l5
  have H10 := Lib.hid l10
  have H1 := Lib.hid l1
  unfold qcells at hC
  simp only at hC
  rw [hC] at K1 hW1
  have HW := Lib.hid hW1
  obtain ⟨y0, y1, y2, y3, y4, y5, y6, y7, y8, y9, y10, y11, y12, y13, y14⟩ := qcs K1
  have HK1 := Lib.hid K1
  clear l3 l5 l10 l1 hC m hx hfit hloc IH h1 h2 h3 h4 h5 hw hkl hKL s1 s2 s3 hwf hbW hW1 K1
  simp only [List.append_nil]
  change Calls _ _ #[.pointer (some ⟨E, 0, none⟩), .agg #[.int .i64 1, .int .i64 field, .string text, .slice A1 terms.length c1, .slice A2 offs.length c2, .int .i64 qn, .int .u64 weight, .bool lo.op, .bool lo.inn, .string lo.text, .bool hi.op, .bool hi.inn, .string hi.text, .slice A3 occur.length c3, .slice A4 ks.length c4], .bool true] w _
  go_enter Tryz.func22, Tryz.ntmps22
  go_upto_region 1 with fail
  rw [← HW.out]
  go_wp2_with (go_at_call 23; refine (put_any E h L NS nc nv cv 1 0 0 W1 HM.out (by have := HF.out; unfold Fits at this; simp at this; omega)).mono ?_; rintro e wz ⟨rfl, hz⟩)
  go_end0
  obtain ⟨hk, nv', cv', nc', hm', hn'⟩ := hz
  exact ⟨rfl, (Keeps.of_below HKB.out E).trans hk, nv', cv', nc', hm', hn'.mono HKB.out.size⟩

set_option maxHeartbeats 4000000 in
theorem query1f (x : Lf → Int) (hd : Head) (ks : List Qry) (hkd : hd.kind = 1) (hloc : QLoc hd ks.length) (IH : ∀ k ∈ ks, QC x k) (E : Nat) (h : EH) (L : List Ins) (NS : List Nr) (nc : List Value) (nv cv : Value) (nm : Nat) (cs : List Value) (w : World) (m : Em w E h L NS nc nv cv) (hx : IsNum w h.mb nm x) (hmb : h.mb < E) (hq : QVal w E cs (.mk hd ks))
    (hfit : Fits L NS (emit x (.mk hd ks) false NS.length).1.length (emit x (.mk hd ks) false NS.length).2.length) :
    Calls Tryz.prog 22 #[.pointer (some ⟨E, 0, none⟩), .agg cs.toArray, .bool false] w fun e w' => e = .returned (.tuple #[]) ∧ EmE w w' E h (L ++ (emit x (.mk hd ks) false NS.length).1) (NS ++ (emit x (.mk hd ks) false NS.length).2) nc := by
  rw [emit1 x hd ks false NS.length hkd] at hfit ⊢
  obtain ⟨_, _, A1, A2, A3, A4, c1, c2, c3, c4, kc, hw, hkl, h1, h2, h3, h4, h5⟩ := hq
  have hE := m.lt
  have hKL := kl_of hE h4 h5
  have l3 := hloc.has
  have l5 := hloc.phr
  have l10 := hloc.lst
  have l1 := hloc.one
  have l0 := hloc.few
  obtain ⟨kind, field, text, terms, offs, qn, weight, lo, hi, occur⟩ := hd
  simp only at hkd
  subst hkd
  obtain ⟨C, hC⟩ : ∃ C, C = qcells ⟨1, field, text, terms, offs, qn, weight, lo, hi, occur⟩ ks.length A1 A2 A3 A4 c1 c2 c3 c4 := ⟨_, rfl⟩
  obtain ⟨W1, hW1⟩ : ∃ W, W = w.alloc (.cells C 29) := ⟨_, rfl⟩
  have K1 : Blk W1 w.heap.size 29 C := by rw [hW1]; exact Blk.new w _ _
  have hbW : Below w.heap.size w W1 := by rw [hW1]; exact Base.bel
  have hwf := hw
  have s1 := h1
  have s2 := h2
  have s3 := h3
  have HM := Lib.hid (m.grow hbW)
  have HX := Lib.hid (hx.below hbW hx.lt)
  have HKL := Lib.hid (hKL.kept (.of_below hbW E) (Nat.le_of_lt hE))
  have HS1 := Lib.hid (s1.below hbW (Nat.le_of_lt hE))
  have HS2 := Lib.hid (s2.below hbW (Nat.le_of_lt hE))
  have HS3 := Lib.hid (s3.below hbW (Nat.le_of_lt hE))
  have HF := Lib.hid hfit
  have HI := Lib.hid IH
  have HWF := Lib.hid hwf
  have HKB := Lib.hid hbW
  simp only at l3 l5 l10 l1 l0
  have H3 := Lib.hid l3
  have H5 := Lib.hid l5
  have H10 := Lib.hid l10
  have H1 := Lib.hid l1
  unfold qcells at hC
  simp only at hC
  rw [hC] at K1 hW1
  have HW := Lib.hid hW1
  obtain ⟨y0, y1, y2, y3, y4, y5, y6, y7, y8, y9, y10, y11, y12, y13, y14⟩ := qcs K1
  have HK1 := Lib.hid K1
  clear l3 l5 l10 l1 hC m hx hfit hloc IH h1 h2 h3 h4 h5 hw hkl hKL s1 s2 s3 hwf hbW hW1 K1
  simp only [List.append_nil]
  change Calls _ _ #[.pointer (some ⟨E, 0, none⟩), .agg #[.int .i64 1, .int .i64 field, .string text, .slice A1 terms.length c1, .slice A2 offs.length c2, .int .i64 qn, .int .u64 weight, .bool lo.op, .bool lo.inn, .string lo.text, .bool hi.op, .bool hi.inn, .string hi.text, .slice A3 occur.length c3, .slice A4 ks.length c4], .bool false] w _
  go_enter Tryz.func22, Tryz.ntmps22
  go_upto_region 1 with fail
  rw [← HW.out]
  go_wp2_with (go_at_call 23; refine (put_any E h L NS nc nv cv 1 0 0 W1 HM.out (by have := HF.out; unfold Fits at this; simp at this; omega)).mono ?_; rintro e wz ⟨rfl, hz⟩)
  go_end0
  obtain ⟨hk, nv', cv', nc', hm', hn'⟩ := hz
  exact ⟨rfl, (Keeps.of_below HKB.out E).trans hk, nv', cv', nc', hm', hn'.mono HKB.out.size⟩

set_option maxHeartbeats 4000000 in
theorem query2t (x : Lf → Int) (hd : Head) (ks : List Qry) (hkd : hd.kind = 2) (hloc : QLoc hd ks.length) (IH : ∀ k ∈ ks, QC x k) (E : Nat) (h : EH) (L : List Ins) (NS : List Nr) (nc : List Value) (nv cv : Value) (nm : Nat) (cs : List Value) (w : World) (m : Em w E h L NS nc nv cv) (hx : IsNum w h.mb nm x) (hmb : h.mb < E) (hq : QVal w E cs (.mk hd ks))
    (hfit : Fits L NS (emit x (.mk hd ks) true NS.length).1.length (emit x (.mk hd ks) true NS.length).2.length) :
    Calls Tryz.prog 22 #[.pointer (some ⟨E, 0, none⟩), .agg cs.toArray, .bool true] w fun e w' => e = .returned (.tuple #[]) ∧ EmE w w' E h (L ++ (emit x (.mk hd ks) true NS.length).1) (NS ++ (emit x (.mk hd ks) true NS.length).2) nc := by
  rw [emit2 x hd ks true NS.length hkd] at hfit ⊢
  obtain ⟨_, _, A1, A2, A3, A4, c1, c2, c3, c4, kc, hw, hkl, h1, h2, h3, h4, h5⟩ := hq
  have hE := m.lt
  have hKL := kl_of hE h4 h5
  have l3 := hloc.has
  have l5 := hloc.phr
  have l10 := hloc.lst
  have l1 := hloc.one
  have l0 := hloc.few
  obtain ⟨kind, field, text, terms, offs, qn, weight, lo, hi, occur⟩ := hd
  simp only at hkd
  subst hkd
  obtain ⟨C, hC⟩ : ∃ C, C = qcells ⟨2, field, text, terms, offs, qn, weight, lo, hi, occur⟩ ks.length A1 A2 A3 A4 c1 c2 c3 c4 := ⟨_, rfl⟩
  obtain ⟨W1, hW1⟩ : ∃ W, W = w.alloc (.cells C 29) := ⟨_, rfl⟩
  have K1 : Blk W1 w.heap.size 29 C := by rw [hW1]; exact Blk.new w _ _
  have hbW : Below w.heap.size w W1 := by rw [hW1]; exact Base.bel
  have hwf := hw
  have s1 := h1
  have s2 := h2
  have s3 := h3
  have HM := Lib.hid (m.grow hbW)
  have HX := Lib.hid (hx.below hbW hx.lt)
  have HKL := Lib.hid (hKL.kept (.of_below hbW E) (Nat.le_of_lt hE))
  have HS1 := Lib.hid (s1.below hbW (Nat.le_of_lt hE))
  have HS2 := Lib.hid (s2.below hbW (Nat.le_of_lt hE))
  have HS3 := Lib.hid (s3.below hbW (Nat.le_of_lt hE))
  have HF := Lib.hid hfit
  have HI := Lib.hid IH
  have HWF := Lib.hid hwf
  have HKB := Lib.hid hbW
  simp only at l3 l5 l10 l1 l0
  have H3 := Lib.hid l3
  have H5 := Lib.hid l5
  have H10 := Lib.hid l10
  have H1 := Lib.hid l1
  unfold qcells at hC
  simp only at hC
  rw [hC] at K1 hW1
  have HW := Lib.hid hW1
  obtain ⟨y0, y1, y2, y3, y4, y5, y6, y7, y8, y9, y10, y11, y12, y13, y14⟩ := qcs K1
  have HK1 := Lib.hid K1
  clear l3 l5 l10 l1 hC m hx hfit hloc IH h1 h2 h3 h4 h5 hw hkl hKL s1 s2 s3 hwf hbW hW1 K1
  simp only [List.append_nil]
  change Calls _ _ #[.pointer (some ⟨E, 0, none⟩), .agg #[.int .i64 2, .int .i64 field, .string text, .slice A1 terms.length c1, .slice A2 offs.length c2, .int .i64 qn, .int .u64 weight, .bool lo.op, .bool lo.inn, .string lo.text, .bool hi.op, .bool hi.inn, .string hi.text, .slice A3 occur.length c3, .slice A4 ks.length c4], .bool true] w _
  go_enter Tryz.func22, Tryz.ntmps22
  go_upto_region 1 with fail
  rw [← HW.out]
  go_wp2_with (go_at_call 23; refine (put_any E h L NS nc nv cv 2 0 0 W1 HM.out (by have := HF.out; unfold Fits at this; simp at this; omega)).mono ?_; rintro e wz ⟨rfl, hz⟩)
  go_end0
  obtain ⟨hk, nv', cv', nc', hm', hn'⟩ := hz
  exact ⟨rfl, (Keeps.of_below HKB.out E).trans hk, nv', cv', nc', hm', hn'.mono HKB.out.size⟩

set_option maxHeartbeats 4000000 in
theorem query2f (x : Lf → Int) (hd : Head) (ks : List Qry) (hkd : hd.kind = 2) (hloc : QLoc hd ks.length) (IH : ∀ k ∈ ks, QC x k) (E : Nat) (h : EH) (L : List Ins) (NS : List Nr) (nc : List Value) (nv cv : Value) (nm : Nat) (cs : List Value) (w : World) (m : Em w E h L NS nc nv cv) (hx : IsNum w h.mb nm x) (hmb : h.mb < E) (hq : QVal w E cs (.mk hd ks))
    (hfit : Fits L NS (emit x (.mk hd ks) false NS.length).1.length (emit x (.mk hd ks) false NS.length).2.length) :
    Calls Tryz.prog 22 #[.pointer (some ⟨E, 0, none⟩), .agg cs.toArray, .bool false] w fun e w' => e = .returned (.tuple #[]) ∧ EmE w w' E h (L ++ (emit x (.mk hd ks) false NS.length).1) (NS ++ (emit x (.mk hd ks) false NS.length).2) nc := by
  rw [emit2 x hd ks false NS.length hkd] at hfit ⊢
  obtain ⟨_, _, A1, A2, A3, A4, c1, c2, c3, c4, kc, hw, hkl, h1, h2, h3, h4, h5⟩ := hq
  have hE := m.lt
  have hKL := kl_of hE h4 h5
  have l3 := hloc.has
  have l5 := hloc.phr
  have l10 := hloc.lst
  have l1 := hloc.one
  have l0 := hloc.few
  obtain ⟨kind, field, text, terms, offs, qn, weight, lo, hi, occur⟩ := hd
  simp only at hkd
  subst hkd
  obtain ⟨C, hC⟩ : ∃ C, C = qcells ⟨2, field, text, terms, offs, qn, weight, lo, hi, occur⟩ ks.length A1 A2 A3 A4 c1 c2 c3 c4 := ⟨_, rfl⟩
  obtain ⟨W1, hW1⟩ : ∃ W, W = w.alloc (.cells C 29) := ⟨_, rfl⟩
  have K1 : Blk W1 w.heap.size 29 C := by rw [hW1]; exact Blk.new w _ _
  have hbW : Below w.heap.size w W1 := by rw [hW1]; exact Base.bel
  have hwf := hw
  have s1 := h1
  have s2 := h2
  have s3 := h3
  have HM := Lib.hid (m.grow hbW)
  have HX := Lib.hid (hx.below hbW hx.lt)
  have HKL := Lib.hid (hKL.kept (.of_below hbW E) (Nat.le_of_lt hE))
  have HS1 := Lib.hid (s1.below hbW (Nat.le_of_lt hE))
  have HS2 := Lib.hid (s2.below hbW (Nat.le_of_lt hE))
  have HS3 := Lib.hid (s3.below hbW (Nat.le_of_lt hE))
  have HF := Lib.hid hfit
  have HI := Lib.hid IH
  have HWF := Lib.hid hwf
  have HKB := Lib.hid hbW
  simp only at l3 l5 l10 l1 l0
  have H3 := Lib.hid l3
  have H5 := Lib.hid l5
  have H10 := Lib.hid l10
  have H1 := Lib.hid l1
  unfold qcells at hC
  simp only at hC
  rw [hC] at K1 hW1
  have HW := Lib.hid hW1
  obtain ⟨y0, y1, y2, y3, y4, y5, y6, y7, y8, y9, y10, y11, y12, y13, y14⟩ := qcs K1
  have HK1 := Lib.hid K1
  clear l3 l5 l10 l1 hC m hx hfit hloc IH h1 h2 h3 h4 h5 hw hkl hKL s1 s2 s3 hwf hbW hW1 K1
  simp only [List.append_nil]
  change Calls _ _ #[.pointer (some ⟨E, 0, none⟩), .agg #[.int .i64 2, .int .i64 field, .string text, .slice A1 terms.length c1, .slice A2 offs.length c2, .int .i64 qn, .int .u64 weight, .bool lo.op, .bool lo.inn, .string lo.text, .bool hi.op, .bool hi.inn, .string hi.text, .slice A3 occur.length c3, .slice A4 ks.length c4], .bool false] w _
  go_enter Tryz.func22, Tryz.ntmps22
  go_upto_region 1 with fail
  rw [← HW.out]
  go_wp2_with (go_at_call 23; refine (put_any E h L NS nc nv cv 2 0 0 W1 HM.out (by have := HF.out; unfold Fits at this; simp at this; omega)).mono ?_; rintro e wz ⟨rfl, hz⟩)
  go_end0
  obtain ⟨hk, nv', cv', nc', hm', hn'⟩ := hz
  exact ⟨rfl, (Keeps.of_below HKB.out E).trans hk, nv', cv', nc', hm', hn'.mono HKB.out.size⟩

set_option maxHeartbeats 4000000 in
theorem query3t (x : Lf → Int) (hd : Head) (ks : List Qry) (hkd : hd.kind = 3) (hloc : QLoc hd ks.length) (IH : ∀ k ∈ ks, QC x k) (E : Nat) (h : EH) (L : List Ins) (NS : List Nr) (nc : List Value) (nv cv : Value) (nm : Nat) (cs : List Value) (w : World) (m : Em w E h L NS nc nv cv) (hx : IsNum w h.mb nm x) (hmb : h.mb < E) (hq : QVal w E cs (.mk hd ks))
    (hfit : Fits L NS (emit x (.mk hd ks) true NS.length).1.length (emit x (.mk hd ks) true NS.length).2.length) :
    Calls Tryz.prog 22 #[.pointer (some ⟨E, 0, none⟩), .agg cs.toArray, .bool true] w fun e w' => e = .returned (.tuple #[]) ∧ EmE w w' E h (L ++ (emit x (.mk hd ks) true NS.length).1) (NS ++ (emit x (.mk hd ks) true NS.length).2) nc := by
  rw [emit3 x hd ks true NS.length hkd] at hfit ⊢
  obtain ⟨_, _, A1, A2, A3, A4, c1, c2, c3, c4, kc, hw, hkl, h1, h2, h3, h4, h5⟩ := hq
  have hE := m.lt
  have hKL := kl_of hE h4 h5
  have l3 := hloc.has
  have l5 := hloc.phr
  have l10 := hloc.lst
  have l1 := hloc.one
  have l0 := hloc.few
  obtain ⟨kind, field, text, terms, offs, qn, weight, lo, hi, occur⟩ := hd
  simp only at hkd
  subst hkd
  obtain ⟨C, hC⟩ : ∃ C, C = qcells ⟨3, field, text, terms, offs, qn, weight, lo, hi, occur⟩ ks.length A1 A2 A3 A4 c1 c2 c3 c4 := ⟨_, rfl⟩
  obtain ⟨W1, hW1⟩ : ∃ W, W = w.alloc (.cells C 29) := ⟨_, rfl⟩
  have K1 : Blk W1 w.heap.size 29 C := by rw [hW1]; exact Blk.new w _ _
  have hbW : Below w.heap.size w W1 := by rw [hW1]; exact Base.bel
  have hwf := hw
  have s1 := h1
  have s2 := h2
  have s3 := h3
  have HM := Lib.hid (m.grow hbW)
  have HX := Lib.hid (hx.below hbW hx.lt)
  have HKL := Lib.hid (hKL.kept (.of_below hbW E) (Nat.le_of_lt hE))
  have HS1 := Lib.hid (s1.below hbW (Nat.le_of_lt hE))
  have HS2 := Lib.hid (s2.below hbW (Nat.le_of_lt hE))
  have HS3 := Lib.hid (s3.below hbW (Nat.le_of_lt hE))
  have HF := Lib.hid hfit
  have HI := Lib.hid IH
  have HWF := Lib.hid hwf
  have HKB := Lib.hid hbW
  simp only at l3 l5 l10 l1 l0
  have H3 := Lib.hid l3
  have H5 := Lib.hid l5
  have H10 := Lib.hid l10
  have H1 := Lib.hid l1
  unfold qcells at hC
  simp only at hC
  rw [hC] at K1 hW1
  have HW := Lib.hid hW1
  obtain ⟨y0, y1, y2, y3, y4, y5, y6, y7, y8, y9, y10, y11, y12, y13, y14⟩ := qcs K1
  have HK1 := Lib.hid K1
  clear l3 l5 l10 l1 hC m hx hfit hloc IH h1 h2 h3 h4 h5 hw hkl hKL s1 s2 s3 hwf hbW hW1 K1
  simp only [List.append_nil]
  change Calls _ _ #[.pointer (some ⟨E, 0, none⟩), .agg #[.int .i64 3, .int .i64 field, .string text, .slice A1 terms.length c1, .slice A2 offs.length c2, .int .i64 qn, .int .u64 weight, .bool lo.op, .bool lo.inn, .string lo.text, .bool hi.op, .bool hi.inn, .string hi.text, .slice A3 occur.length c3, .slice A4 ks.length c4], .bool true] w _
  go_enter Tryz.func22, Tryz.ntmps22
  go_upto_region 1 with fail
  rw [← HW.out]
  have hu : IntKind.u64.wrap field = field := IntWalk.u64_in _ (by have h1 := fit_lt (x := field) HWF.out.field; have h2 := H3.out trivial; omega)
  go_wp2_with (go_at_call 23; refine (put_any E h L NS nc nv cv 3 field 0 W1 HM.out (by have := HF.out; unfold Fits at this; simp at this; omega)).mono ?_; rintro e wz ⟨rfl, hz⟩)
  go_end0
  obtain ⟨hk, nv', cv', nc', hm', hn'⟩ := hz
  exact ⟨rfl, (Keeps.of_below HKB.out E).trans hk, nv', cv', nc', hm', hn'.mono HKB.out.size⟩

set_option maxHeartbeats 4000000 in
theorem query3f (x : Lf → Int) (hd : Head) (ks : List Qry) (hkd : hd.kind = 3) (hloc : QLoc hd ks.length) (IH : ∀ k ∈ ks, QC x k) (E : Nat) (h : EH) (L : List Ins) (NS : List Nr) (nc : List Value) (nv cv : Value) (nm : Nat) (cs : List Value) (w : World) (m : Em w E h L NS nc nv cv) (hx : IsNum w h.mb nm x) (hmb : h.mb < E) (hq : QVal w E cs (.mk hd ks))
    (hfit : Fits L NS (emit x (.mk hd ks) false NS.length).1.length (emit x (.mk hd ks) false NS.length).2.length) :
    Calls Tryz.prog 22 #[.pointer (some ⟨E, 0, none⟩), .agg cs.toArray, .bool false] w fun e w' => e = .returned (.tuple #[]) ∧ EmE w w' E h (L ++ (emit x (.mk hd ks) false NS.length).1) (NS ++ (emit x (.mk hd ks) false NS.length).2) nc := by
  rw [emit3 x hd ks false NS.length hkd] at hfit ⊢
  obtain ⟨_, _, A1, A2, A3, A4, c1, c2, c3, c4, kc, hw, hkl, h1, h2, h3, h4, h5⟩ := hq
  have hE := m.lt
  have hKL := kl_of hE h4 h5
  have l3 := hloc.has
  have l5 := hloc.phr
  have l10 := hloc.lst
  have l1 := hloc.one
  have l0 := hloc.few
  obtain ⟨kind, field, text, terms, offs, qn, weight, lo, hi, occur⟩ := hd
  simp only at hkd
  subst hkd
  obtain ⟨C, hC⟩ : ∃ C, C = qcells ⟨3, field, text, terms, offs, qn, weight, lo, hi, occur⟩ ks.length A1 A2 A3 A4 c1 c2 c3 c4 := ⟨_, rfl⟩
  obtain ⟨W1, hW1⟩ : ∃ W, W = w.alloc (.cells C 29) := ⟨_, rfl⟩
  have K1 : Blk W1 w.heap.size 29 C := by rw [hW1]; exact Blk.new w _ _
  have hbW : Below w.heap.size w W1 := by rw [hW1]; exact Base.bel
  have hwf := hw
  have s1 := h1
  have s2 := h2
  have s3 := h3
  have HM := Lib.hid (m.grow hbW)
  have HX := Lib.hid (hx.below hbW hx.lt)
  have HKL := Lib.hid (hKL.kept (.of_below hbW E) (Nat.le_of_lt hE))
  have HS1 := Lib.hid (s1.below hbW (Nat.le_of_lt hE))
  have HS2 := Lib.hid (s2.below hbW (Nat.le_of_lt hE))
  have HS3 := Lib.hid (s3.below hbW (Nat.le_of_lt hE))
  have HF := Lib.hid hfit
  have HI := Lib.hid IH
  have HWF := Lib.hid hwf
  have HKB := Lib.hid hbW
  simp only at l3 l5 l10 l1 l0
  have H3 := Lib.hid l3
  have H5 := Lib.hid l5
  have H10 := Lib.hid l10
  have H1 := Lib.hid l1
  unfold qcells at hC
  simp only at hC
  rw [hC] at K1 hW1
  have HW := Lib.hid hW1
  obtain ⟨y0, y1, y2, y3, y4, y5, y6, y7, y8, y9, y10, y11, y12, y13, y14⟩ := qcs K1
  have HK1 := Lib.hid K1
  clear l3 l5 l10 l1 hC m hx hfit hloc IH h1 h2 h3 h4 h5 hw hkl hKL s1 s2 s3 hwf hbW hW1 K1
  simp only [List.append_nil]
  change Calls _ _ #[.pointer (some ⟨E, 0, none⟩), .agg #[.int .i64 3, .int .i64 field, .string text, .slice A1 terms.length c1, .slice A2 offs.length c2, .int .i64 qn, .int .u64 weight, .bool lo.op, .bool lo.inn, .string lo.text, .bool hi.op, .bool hi.inn, .string hi.text, .slice A3 occur.length c3, .slice A4 ks.length c4], .bool false] w _
  go_enter Tryz.func22, Tryz.ntmps22
  go_upto_region 1 with fail
  rw [← HW.out]
  have hu : IntKind.u64.wrap field = field := IntWalk.u64_in _ (by have h1 := fit_lt (x := field) HWF.out.field; have h2 := H3.out trivial; omega)
  go_wp2_with (go_at_call 23; refine (put_any E h L NS nc nv cv 3 field 0 W1 HM.out (by have := HF.out; unfold Fits at this; simp at this; omega)).mono ?_; rintro e wz ⟨rfl, hz⟩)
  go_end0
  obtain ⟨hk, nv', cv', nc', hm', hn'⟩ := hz
  exact ⟨rfl, (Keeps.of_below HKB.out E).trans hk, nv', cv', nc', hm', hn'.mono HKB.out.size⟩
end Go.Proofs.YtfpikilhbkeajaaGreatDoor.EmitQA

namespace Go.Proofs.YtfpikilhbkeajaaGreatDoor.EmitQB
set_option maxRecDepth 100000
open Go.RowKit Go.PlainAid Base Query QrySize EmitPlain EmitBase EmitPut LeafMap EmitNear EmitRaw EmitMost EmitSplit EmitMiss EmitExt EmitList EmitQ0

set_option maxHeartbeats 4000000 in
theorem query4t (x : Lf → Int) (hd : Head) (ks : List Qry) (hkd : hd.kind = 4) (hloc : QLoc hd ks.length) (IH : ∀ k ∈ ks, QC x k) (E : Nat) (h : EH) (L : List Ins) (NS : List Nr) (nc : List Value) (nv cv : Value) (nm : Nat) (cs : List Value) (w : World) (m : Em w E h L NS nc nv cv) (hx : IsNum w h.mb nm x) (hmb : h.mb < E) (hnum : ∀ l, 0 ≤ x l ∧ x l < 9223372036854775808) (hq : QVal w E cs (.mk hd ks))
    (hfit : Fits L NS (emit x (.mk hd ks) true NS.length).1.length (emit x (.mk hd ks) true NS.length).2.length) :
    Calls Tryz.prog 22 #[.pointer (some ⟨E, 0, none⟩), .agg cs.toArray, .bool true] w fun e w' => e = .returned (.tuple #[]) ∧ EmE w w' E h (L ++ (emit x (.mk hd ks) true NS.length).1) (NS ++ (emit x (.mk hd ks) true NS.length).2) nc := by
  rw [emit4 x hd ks true NS.length hkd] at hfit ⊢
  obtain ⟨_, _, A1, A2, A3, A4, c1, c2, c3, c4, kc, hw, hkl, h1, h2, h3, h4, h5⟩ := hq
  have hE := m.lt
  have hKL := kl_of hE h4 h5
  have l3 := hloc.has
  have l5 := hloc.phr
  have l10 := hloc.lst
  have l1 := hloc.one
  have l0 := hloc.few
  obtain ⟨kind, field, text, terms, offs, qn, weight, lo, hi, occur⟩ := hd
  simp only at hkd
  subst hkd
  obtain ⟨C, hC⟩ : ∃ C, C = qcells ⟨4, field, text, terms, offs, qn, weight, lo, hi, occur⟩ ks.length A1 A2 A3 A4 c1 c2 c3 c4 := ⟨_, rfl⟩
  obtain ⟨W1, hW1⟩ : ∃ W, W = w.alloc (.cells C 29) := ⟨_, rfl⟩
  have K1 : Blk W1 w.heap.size 29 C := by rw [hW1]; exact Blk.new w _ _
  have hbW : Below w.heap.size w W1 := by rw [hW1]; exact Base.bel
  have hwf := hw
  have s1 := h1
  have s2 := h2
  have s3 := h3
  have HM := Lib.hid (m.grow hbW)
  have HX := Lib.hid (hx.below hbW hx.lt)
  have HKL := Lib.hid (hKL.kept (.of_below hbW E) (Nat.le_of_lt hE))
  have HS1 := Lib.hid (s1.below hbW (Nat.le_of_lt hE))
  have HS2 := Lib.hid (s2.below hbW (Nat.le_of_lt hE))
  have HS3 := Lib.hid (s3.below hbW (Nat.le_of_lt hE))
  have HF := Lib.hid hfit
  have HI := Lib.hid IH
  have HWF := Lib.hid hwf
  have HKB := Lib.hid hbW
  simp only at l3 l5 l10 l1 l0
  have H3 := Lib.hid l3
  have H5 := Lib.hid l5
  have H10 := Lib.hid l10
  have H1 := Lib.hid l1
  unfold qcells at hC
  simp only at hC
  rw [hC] at K1 hW1
  have HW := Lib.hid hW1
  obtain ⟨y0, y1, y2, y3, y4, y5, y6, y7, y8, y9, y10, y11, y12, y13, y14⟩ := qcs K1
  have HK1 := Lib.hid K1
  clear l3 l5 l10 l1 hC m hx hfit hloc IH h1 h2 h3 h4 h5 hw hkl hKL s1 s2 s3 hwf hbW hW1 K1
  simp only [List.append_nil, wt, if_true]
  obtain ⟨xv, hxv⟩ : ∃ v, v = x ⟨field, text⟩ := ⟨_, rfl⟩
  rw [← hxv]
  have HXV := Lib.hid hxv
  have hlk : (Instr.lookup 66 (.map (some h.mb)) (.agg #[.int .i64 field, .string text]) false).run Tryz.prog W1.drew = .ok (.int .i64 xv) W1.drew := by rw [hxv]; exact (HX.out.below (Below.refl _ _).drew HX.out.lt).look (l := ⟨field, text⟩) ⟨HWF.out.field, HWF.out.text⟩
  have e6 : W1.cell? ⟨E, 6, none⟩ = some (.map (some h.mb)) := HM.out.blk.cell 6
  have hu : IntKind.u64.wrap xv = xv := IntWalk.u64_in _ (by have := hnum ⟨field, text⟩; rw [← hxv] at this; omega)
  clear hxv
  change Calls _ _ #[.pointer (some ⟨E, 0, none⟩), .agg #[.int .i64 4, .int .i64 field, .string text, .slice A1 terms.length c1, .slice A2 offs.length c2, .int .i64 qn, .int .u64 weight, .bool lo.op, .bool lo.inn, .string lo.text, .bool hi.op, .bool hi.inn, .string hi.text, .slice A3 occur.length c3, .slice A4 ks.length c4], .bool true] w _
  go_enter Tryz.func22, Tryz.ntmps22
  go_upto_region 1 with fail
  rw [← HW.out]
  go_upto_region 12 with fail
  go_region_law ((rw [if_pos (by rfl)]; go_simp; go_at_call 23; refine (put_any E h L NS nc nv cv 4 xv weight W1.drew HM.out.drew (by have := HF.out; unfold Fits at this; simp at this; omega)).mono ?_; rintro e wz ⟨rfl, hz⟩; dsimp only))
  all_goals
    go_wp2_with fail
    go_end0
    obtain ⟨hk, nv', cv', nc', hm', hn'⟩ := hz
    exact ⟨rfl, (Keeps.of_below HKB.out E).drew.trans hk, nv', cv', nc', hm', hn'.mono HKB.out.size⟩

set_option maxHeartbeats 4000000 in
theorem query4f (x : Lf → Int) (hd : Head) (ks : List Qry) (hkd : hd.kind = 4) (hloc : QLoc hd ks.length) (IH : ∀ k ∈ ks, QC x k) (E : Nat) (h : EH) (L : List Ins) (NS : List Nr) (nc : List Value) (nv cv : Value) (nm : Nat) (cs : List Value) (w : World) (m : Em w E h L NS nc nv cv) (hx : IsNum w h.mb nm x) (hmb : h.mb < E) (hnum : ∀ l, 0 ≤ x l ∧ x l < 9223372036854775808) (hq : QVal w E cs (.mk hd ks))
    (hfit : Fits L NS (emit x (.mk hd ks) false NS.length).1.length (emit x (.mk hd ks) false NS.length).2.length) :
    Calls Tryz.prog 22 #[.pointer (some ⟨E, 0, none⟩), .agg cs.toArray, .bool false] w fun e w' => e = .returned (.tuple #[]) ∧ EmE w w' E h (L ++ (emit x (.mk hd ks) false NS.length).1) (NS ++ (emit x (.mk hd ks) false NS.length).2) nc := by
  rw [emit4 x hd ks false NS.length hkd] at hfit ⊢
  obtain ⟨_, _, A1, A2, A3, A4, c1, c2, c3, c4, kc, hw, hkl, h1, h2, h3, h4, h5⟩ := hq
  have hE := m.lt
  have hKL := kl_of hE h4 h5
  have l3 := hloc.has
  have l5 := hloc.phr
  have l10 := hloc.lst
  have l1 := hloc.one
  have l0 := hloc.few
  obtain ⟨kind, field, text, terms, offs, qn, weight, lo, hi, occur⟩ := hd
  simp only at hkd
  subst hkd
  obtain ⟨C, hC⟩ : ∃ C, C = qcells ⟨4, field, text, terms, offs, qn, weight, lo, hi, occur⟩ ks.length A1 A2 A3 A4 c1 c2 c3 c4 := ⟨_, rfl⟩
  obtain ⟨W1, hW1⟩ : ∃ W, W = w.alloc (.cells C 29) := ⟨_, rfl⟩
  have K1 : Blk W1 w.heap.size 29 C := by rw [hW1]; exact Blk.new w _ _
  have hbW : Below w.heap.size w W1 := by rw [hW1]; exact Base.bel
  have hwf := hw
  have s1 := h1
  have s2 := h2
  have s3 := h3
  have HM := Lib.hid (m.grow hbW)
  have HX := Lib.hid (hx.below hbW hx.lt)
  have HKL := Lib.hid (hKL.kept (.of_below hbW E) (Nat.le_of_lt hE))
  have HS1 := Lib.hid (s1.below hbW (Nat.le_of_lt hE))
  have HS2 := Lib.hid (s2.below hbW (Nat.le_of_lt hE))
  have HS3 := Lib.hid (s3.below hbW (Nat.le_of_lt hE))
  have HF := Lib.hid hfit
  have HI := Lib.hid IH
  have HWF := Lib.hid hwf
  have HKB := Lib.hid hbW
  simp only at l3 l5 l10 l1 l0
  have H3 := Lib.hid l3
  have H5 := Lib.hid l5
  have H10 := Lib.hid l10
  have H1 := Lib.hid l1
  unfold qcells at hC
  simp only at hC
  rw [hC] at K1 hW1
  have HW := Lib.hid hW1
  obtain ⟨y0, y1, y2, y3, y4, y5, y6, y7, y8, y9, y10, y11, y12, y13, y14⟩ := qcs K1
  have HK1 := Lib.hid K1
  clear l3 l5 l10 l1 hC m hx hfit hloc IH h1 h2 h3 h4 h5 hw hkl hKL s1 s2 s3 hwf hbW hW1 K1
  simp only [List.append_nil, wt, Bool.false_eq_true, if_false]
  obtain ⟨xv, hxv⟩ : ∃ v, v = x ⟨field, text⟩ := ⟨_, rfl⟩
  rw [← hxv]
  have HXV := Lib.hid hxv
  have hlk : (Instr.lookup 66 (.map (some h.mb)) (.agg #[.int .i64 field, .string text]) false).run Tryz.prog W1.drew = .ok (.int .i64 xv) W1.drew := by rw [hxv]; exact (HX.out.below (Below.refl _ _).drew HX.out.lt).look (l := ⟨field, text⟩) ⟨HWF.out.field, HWF.out.text⟩
  have e6 : W1.cell? ⟨E, 6, none⟩ = some (.map (some h.mb)) := HM.out.blk.cell 6
  have hu : IntKind.u64.wrap xv = xv := IntWalk.u64_in _ (by have := hnum ⟨field, text⟩; rw [← hxv] at this; omega)
  clear hxv
  change Calls _ _ #[.pointer (some ⟨E, 0, none⟩), .agg #[.int .i64 4, .int .i64 field, .string text, .slice A1 terms.length c1, .slice A2 offs.length c2, .int .i64 qn, .int .u64 weight, .bool lo.op, .bool lo.inn, .string lo.text, .bool hi.op, .bool hi.inn, .string hi.text, .slice A3 occur.length c3, .slice A4 ks.length c4], .bool false] w _
  go_enter Tryz.func22, Tryz.ntmps22
  go_upto_region 1 with fail
  rw [← HW.out]
  go_upto_region 12 with fail
  go_region_law ((rw [if_pos (by rfl)]; go_simp; go_at_call 23; refine (put_any E h L NS nc nv cv 4 xv 0 W1.drew HM.out.drew (by have := HF.out; unfold Fits at this; simp at this; omega)).mono ?_; rintro e wz ⟨rfl, hz⟩; dsimp only))
  all_goals
    go_wp2_with fail
    go_end0
    obtain ⟨hk, nv', cv', nc', hm', hn'⟩ := hz
    exact ⟨rfl, (Keeps.of_below HKB.out E).drew.trans hk, nv', cv', nc', hm', hn'.mono HKB.out.size⟩
end Go.Proofs.YtfpikilhbkeajaaGreatDoor.EmitQB

namespace Go.Proofs.YtfpikilhbkeajaaGreatDoor.EmitQC
set_option maxRecDepth 100000
open Go.RowKit Go.PlainAid Base Query QrySize EmitPlain EmitBase EmitPut LeafMap EmitNear EmitRaw EmitMost EmitSplit EmitMiss EmitExt EmitList EmitQ0

set_option maxHeartbeats 4000000 in
theorem query5t (x : Lf → Int) (hd : Head) (ks : List Qry) (hkd : hd.kind = 5) (hloc : QLoc hd ks.length) (IH : ∀ k ∈ ks, QC x k) (E : Nat) (h : EH) (L : List Ins) (NS : List Nr) (nc : List Value) (nv cv : Value) (nm : Nat) (cs : List Value) (w : World) (m : Em w E h L NS nc nv cv) (hx : IsNum w h.mb nm x) (hmb : h.mb < E) (hq : QVal w E cs (.mk hd ks))
    (hfit : Fits L NS (emit x (.mk hd ks) true NS.length).1.length (emit x (.mk hd ks) true NS.length).2.length) :
    Calls Tryz.prog 22 #[.pointer (some ⟨E, 0, none⟩), .agg cs.toArray, .bool true] w fun e w' => e = .returned (.tuple #[]) ∧ EmE w w' E h (L ++ (emit x (.mk hd ks) true NS.length).1) (NS ++ (emit x (.mk hd ks) true NS.length).2) nc := by
  rw [emit5 x hd ks true NS.length hkd] at hfit ⊢
  obtain ⟨_, _, A1, A2, A3, A4, c1, c2, c3, c4, kc, hw, hkl, h1, h2, h3, h4, h5⟩ := hq
  have hE := m.lt
  have hKL := kl_of hE h4 h5
  have l3 := hloc.has
  have l5 := hloc.phr
  have l10 := hloc.lst
  have l1 := hloc.one
  have l0 := hloc.few
  obtain ⟨kind, field, text, terms, offs, qn, weight, lo, hi, occur⟩ := hd
  simp only at hkd
  subst hkd
  obtain ⟨C, hC⟩ : ∃ C, C = qcells ⟨5, field, text, terms, offs, qn, weight, lo, hi, occur⟩ ks.length A1 A2 A3 A4 c1 c2 c3 c4 := ⟨_, rfl⟩
  obtain ⟨W1, hW1⟩ : ∃ W, W = w.alloc (.cells C 29) := ⟨_, rfl⟩
  have K1 : Blk W1 w.heap.size 29 C := by rw [hW1]; exact Blk.new w _ _
  have hbW : Below w.heap.size w W1 := by rw [hW1]; exact Base.bel
  have hwf := hw
  have s1 := h1
  have s2 := h2
  have s3 := h3
  have HM := Lib.hid (m.grow hbW)
  have HX := Lib.hid (hx.below hbW hx.lt)
  have HKL := Lib.hid (hKL.kept (.of_below hbW E) (Nat.le_of_lt hE))
  have HS1 := Lib.hid (s1.below hbW (Nat.le_of_lt hE))
  have HS2 := Lib.hid (s2.below hbW (Nat.le_of_lt hE))
  have HS3 := Lib.hid (s3.below hbW (Nat.le_of_lt hE))
  have HF := Lib.hid hfit
  have HI := Lib.hid IH
  have HWF := Lib.hid hwf
  have HKB := Lib.hid hbW
  simp only at l3 l5 l10 l1 l0
  have H3 := Lib.hid l3
  have H5 := Lib.hid l5
  have H10 := Lib.hid l10
  have H1 := Lib.hid l1
  unfold qcells at hC
  simp only at hC
  rw [hC] at K1 hW1
  have HW := Lib.hid hW1
  obtain ⟨y0, y1, y2, y3, y4, y5, y6, y7, y8, y9, y10, y11, y12, y13, y14⟩ := qcs K1
  have HK1 := Lib.hid K1
  clear l3 l5 l10 l1 hC m hx hfit hloc IH h1 h2 h3 h4 h5 hw hkl hKL s1 s2 s3 hwf hbW hW1 K1
  simp only [wt, if_true]
  change Calls _ _ #[.pointer (some ⟨E, 0, none⟩), .agg #[.int .i64 5, .int .i64 field, .string text, .slice A1 terms.length c1, .slice A2 offs.length c2, .int .i64 qn, .int .u64 weight, .bool lo.op, .bool lo.inn, .string lo.text, .bool hi.op, .bool hi.inn, .string hi.text, .slice A3 occur.length c3, .slice A4 ks.length c4], .bool true] w _
  go_enter Tryz.func22, Tryz.ntmps22
  go_upto_region 1 with fail
  rw [← HW.out]
  obtain ⟨hto, ho0, hol⟩ := H5.out trivial
  have hl := HF.out
  unfold Fits at hl
  try simp at hl
  have HN := Lib.hid (near_any E h L NS nc nv cv x nm ⟨5, field, text, terms, offs, qn, weight, lo, hi, occur⟩ ks.length A1 A2 A3 A4 c1 c2 c3 c4 W1 HM.out (by omega) HX.out hmb HWF.out HS1.out HS2.out hto ho0 hol)
  unfold qcells at HN
  have HTO := Lib.hid hto
  clear hto
  go_upto_region 14 with fail
  go_wp2_with (first | (go_at_call 49; refine HN.out.mono ?_; rintro e wn ⟨rfl, hkn, nv2, cv2, nc2, hm2, hn2⟩; have HM2 := Lib.hid hm2; have HKN := Lib.hid hkn; have HN2 := Lib.hid hn2; clear hm2 hkn hn2) | (go_at_call 23; refine (put_any E h L _ _ nv2 cv2 5 (NS.length : Int) weight wn HM2.out (by omega)).mono ?_; rintro e wz ⟨rfl, hz⟩))
  go_end0
  obtain ⟨hk, nv', cv', nc', hm', hn'⟩ := hz
  exact ⟨rfl, ((Keeps.of_below HKB.out E).trans HKN.out).trans hk, nv', cv', nc2 ++ nc', by rw [← List.append_assoc]; exact hm', (HN2.out.app (hn'.mono HKN.out.size)).mono HKB.out.size⟩

set_option maxHeartbeats 4000000 in
theorem query5f (x : Lf → Int) (hd : Head) (ks : List Qry) (hkd : hd.kind = 5) (hloc : QLoc hd ks.length) (IH : ∀ k ∈ ks, QC x k) (E : Nat) (h : EH) (L : List Ins) (NS : List Nr) (nc : List Value) (nv cv : Value) (nm : Nat) (cs : List Value) (w : World) (m : Em w E h L NS nc nv cv) (hx : IsNum w h.mb nm x) (hmb : h.mb < E) (hq : QVal w E cs (.mk hd ks))
    (hfit : Fits L NS (emit x (.mk hd ks) false NS.length).1.length (emit x (.mk hd ks) false NS.length).2.length) :
    Calls Tryz.prog 22 #[.pointer (some ⟨E, 0, none⟩), .agg cs.toArray, .bool false] w fun e w' => e = .returned (.tuple #[]) ∧ EmE w w' E h (L ++ (emit x (.mk hd ks) false NS.length).1) (NS ++ (emit x (.mk hd ks) false NS.length).2) nc := by
  rw [emit5 x hd ks false NS.length hkd] at hfit ⊢
  obtain ⟨_, _, A1, A2, A3, A4, c1, c2, c3, c4, kc, hw, hkl, h1, h2, h3, h4, h5⟩ := hq
  have hE := m.lt
  have hKL := kl_of hE h4 h5
  have l3 := hloc.has
  have l5 := hloc.phr
  have l10 := hloc.lst
  have l1 := hloc.one
  have l0 := hloc.few
  obtain ⟨kind, field, text, terms, offs, qn, weight, lo, hi, occur⟩ := hd
  simp only at hkd
  subst hkd
  obtain ⟨C, hC⟩ : ∃ C, C = qcells ⟨5, field, text, terms, offs, qn, weight, lo, hi, occur⟩ ks.length A1 A2 A3 A4 c1 c2 c3 c4 := ⟨_, rfl⟩
  obtain ⟨W1, hW1⟩ : ∃ W, W = w.alloc (.cells C 29) := ⟨_, rfl⟩
  have K1 : Blk W1 w.heap.size 29 C := by rw [hW1]; exact Blk.new w _ _
  have hbW : Below w.heap.size w W1 := by rw [hW1]; exact Base.bel
  have hwf := hw
  have s1 := h1
  have s2 := h2
  have s3 := h3
  have HM := Lib.hid (m.grow hbW)
  have HX := Lib.hid (hx.below hbW hx.lt)
  have HKL := Lib.hid (hKL.kept (.of_below hbW E) (Nat.le_of_lt hE))
  have HS1 := Lib.hid (s1.below hbW (Nat.le_of_lt hE))
  have HS2 := Lib.hid (s2.below hbW (Nat.le_of_lt hE))
  have HS3 := Lib.hid (s3.below hbW (Nat.le_of_lt hE))
  have HF := Lib.hid hfit
  have HI := Lib.hid IH
  have HWF := Lib.hid hwf
  have HKB := Lib.hid hbW
  simp only at l3 l5 l10 l1 l0
  have H3 := Lib.hid l3
  have H5 := Lib.hid l5
  have H10 := Lib.hid l10
  have H1 := Lib.hid l1
  unfold qcells at hC
  simp only at hC
  rw [hC] at K1 hW1
  have HW := Lib.hid hW1
  obtain ⟨y0, y1, y2, y3, y4, y5, y6, y7, y8, y9, y10, y11, y12, y13, y14⟩ := qcs K1
  have HK1 := Lib.hid K1
  clear l3 l5 l10 l1 hC m hx hfit hloc IH h1 h2 h3 h4 h5 hw hkl hKL s1 s2 s3 hwf hbW hW1 K1
  simp only [wt, Bool.false_eq_true, if_false]
  change Calls _ _ #[.pointer (some ⟨E, 0, none⟩), .agg #[.int .i64 5, .int .i64 field, .string text, .slice A1 terms.length c1, .slice A2 offs.length c2, .int .i64 qn, .int .u64 weight, .bool lo.op, .bool lo.inn, .string lo.text, .bool hi.op, .bool hi.inn, .string hi.text, .slice A3 occur.length c3, .slice A4 ks.length c4], .bool false] w _
  go_enter Tryz.func22, Tryz.ntmps22
  go_upto_region 1 with fail
  rw [← HW.out]
  obtain ⟨hto, ho0, hol⟩ := H5.out trivial
  have hl := HF.out
  unfold Fits at hl
  try simp at hl
  have HN := Lib.hid (near_any E h L NS nc nv cv x nm ⟨5, field, text, terms, offs, qn, weight, lo, hi, occur⟩ ks.length A1 A2 A3 A4 c1 c2 c3 c4 W1 HM.out (by omega) HX.out hmb HWF.out HS1.out HS2.out hto ho0 hol)
  unfold qcells at HN
  have HTO := Lib.hid hto
  clear hto
  go_upto_region 14 with fail
  go_wp2_with (first | (go_at_call 49; refine HN.out.mono ?_; rintro e wn ⟨rfl, hkn, nv2, cv2, nc2, hm2, hn2⟩; have HM2 := Lib.hid hm2; have HKN := Lib.hid hkn; have HN2 := Lib.hid hn2; clear hm2 hkn hn2) | (go_at_call 23; refine (put_any E h L _ _ nv2 cv2 5 (NS.length : Int) 0 wn HM2.out (by omega)).mono ?_; rintro e wz ⟨rfl, hz⟩))
  go_end0
  obtain ⟨hk, nv', cv', nc', hm', hn'⟩ := hz
  exact ⟨rfl, ((Keeps.of_below HKB.out E).trans HKN.out).trans hk, nv', cv', nc2 ++ nc', by rw [← List.append_assoc]; exact hm', (HN2.out.app (hn'.mono HKN.out.size)).mono HKB.out.size⟩
end Go.Proofs.YtfpikilhbkeajaaGreatDoor.EmitQC
