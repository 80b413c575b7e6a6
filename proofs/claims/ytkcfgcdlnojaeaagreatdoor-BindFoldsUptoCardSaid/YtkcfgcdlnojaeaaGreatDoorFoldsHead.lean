/-
  The walk of concordlaw16.BindFolds up to region 11.
-/
import Derived.Test.YtkcfgcdlnojaeaaGreatDoorFoldsText
import Derived.Test.YtkcfgcdlnojaeaaGreatDoorFoldsNum
set_option linter.unusedVariables false
set_option linter.unusedSimpArgs false
namespace Go.Proofs.YtkcfgcdlnojaeaaGreatDoor.FoldsHead
set_option maxRecDepth 100000
open Go.RowKit Go.PlainAid Base Query BindBase NodeTerm NodeTree NodePlain NodeOwn FoldPlain FoldWalk Binder WordPlain WordsWalk StopsWalk OfText OfAny WordsOne NumPlain OpenField FieldPlain GoodName SchemaCheck WordsAny WordsMany SchFind LeafBase FoldLeaf WildBind SpanBind LitWalk TreePlain BindTop FoldsPlain FoldBind LivesBind Rel Relb RelE FoldsEarly

set_option maxHeartbeats 8000000 in
theorem late (fs : List Fld) (fgo : Option Addr) (c : Nat) (field : Int) (T hi : ByteArray) (a1 a2 : Addr) (w : World) (m : Mem fs fgo w.heap.size a1 a2 w) (hlen : fs.length ≤ 1099511627776) (hnm : ∀ f ∈ fs, f.nm.size ≤ 9223372036854775807) (hs : T.size ≤ 2097152) (hh : hi.size ≤ 2097152) (hbk : ∀ f ∈ fs, f.nm.size + T.size + hi.size < 2097152) (hfi : fitI field) (hgood : schemaB fs = true) (q1 : 0 ≤ field) (q2 : field < (fs.length : Int)) (q3 : 0 < T.size) (q4 : T.size ≤ 4096) :
    Calls Tryz.prog 8 #[.agg #[.slice fgo fs.length c], .int .i64 field, .string T, .string hi] w fun e w' => e = .returned (.bool true) ∧ Below w.heap.size w w' := by
  obtain ⟨W2, hW2⟩ : ∃ W, W = w.alloc (.cells #[.slice fgo fs.length c] 36) := ⟨_, rfl⟩
  have K1 : Blk W2 w.heap.size 36 #[.slice fgo fs.length c] := by rw [hW2]; exact Blk.new w _ _
  have hsz : W2.heap.size = w.heap.size + 1 := by rw [hW2]; simp
  have hbW : Below w.heap.size w W2 := by rw [hW2]; (repeat (first | exact Below.refl _ _ | assumption | refine balloc ?_ _ | refine bdrew ?_ | refine bdrewN ?_ _ | refine bchain ?_ (by assumption)))
  have le : ∀ W : World, Below W2.heap.size W2 W → Below w.heap.size w W := fun W h => bchain hbW h
  have LV := Lib.hid (by have m2 := m.below hbW; exact lives_any (errV a1) a2 W2 m2.ht (ask1_of m2.ha) m2.he1 m2.he2 m2.h0)
  have SC := Lib.hid (fun W (hW : Below W2.heap.size W2 W) => by have m2 := m.below (le W hW); exact schemaCheck_any fs fgo c w.heap.size (errV a1) W m2.hB0 m2.h1 hnm (by omega) m2.he1 m2.h3)
  rw [hgood] at SC
  unfold errV at SC
  have HW := Lib.hid hW2
  have HZ := Lib.hid hsz
  have HM := Lib.hid m
  have d1 : decide (field < 0) = false := decide_eq_false (by omega)
  have d2 : decide ((fs.length : Int) ≤ field) = false := decide_eq_false (by omega)
  have d3 : T.toList.isEmpty = false := by rw [WordsAny.tl_empty]; exact beq_eq_false_iff_ne.2 (by omega)
  have d4 : decide ((4096 : Int) < (T.size : Int)) = false := decide_eq_false (by omega)
  have d4n : decide (4096 < T.size) = false := decide_eq_false (by omega)
  clear hW2 hsz m
  obtain ⟨j, rfl⟩ : ∃ j : Nat, field = j := ⟨field.toNat, by omega⟩
  have hj : j < fs.length := by omega
  obtain ⟨f, hf⟩ : ∃ f, fs[j]? = some f := ⟨_, List.getElem?_eq_getElem hj⟩
  obtain ⟨fg, fo, rfl, hfg, hfc⟩ := HM.out.h1 (by intro e; have := congrArg List.length e; rw [fldCells_len] at this; simp at this; omega)
  obtain ⟨fn, kd, fb, sb, mb⟩ := f
  have hbf := hbk _ (List.mem_of_getElem? hf)
  simp only at hbf
  have fcell : ∀ W, Below w.heap.size w W → W.cell? ⟨fg, fo + j * 5, none⟩ = some (.string fn) ∧ W.cell? ⟨fg, fo + j * 5 + 1, none⟩ = some (.int .i64 kd) ∧ W.cell? ⟨fg, fo + j * 5 + 2, none⟩ = some (.bool fb) ∧ W.cell? ⟨fg, fo + j * 5 + 3, none⟩ = some (.bool sb) ∧ W.cell? ⟨fg, fo + j * 5 + 4, none⟩ = some (.bool mb) := fun W hW => by
    have q : ∀ (i : Nat) (u : Value), (fldC ⟨fn, kd, fb, sb, mb⟩)[i]? = some u → W.cell? ⟨fg, fo + j * 5 + i, none⟩ = some u := fun i u hu => by
      have hi : i < 5 := (List.getElem?_eq_some_iff.1 hu).1
      rw [Nat.add_assoc]
      exact (hW.cell (p := ⟨fg, fo + (j * 5 + i), none⟩) hfg).trans (hfc (j * 5 + i) u ((fldCells_at fs j i _ hf hi).trans hu))
    exact ⟨q 0 _ rfl, q 1 _ rfl, q 2 _ rfl, q 3 _ rfl, q 4 _ rfl⟩
  have h63 : fs.length ≤ 9223372036854775807 := by omega
  have hT0 : T.size ≠ 0 := by omega
  obtain ⟨qp, hqp⟩ : ∃ q, q = prefixQ ⟨fn, kd, fb, sb, mb⟩ j T := ⟨_, rfl⟩
  obtain ⟨qz, hqz⟩ : ∃ q, q = fuzzyQ ⟨fn, kd, fb, sb, mb⟩ j 2 T := ⟨_, rfl⟩
  obtain ⟨qx, hqx⟩ : ∃ q, q = wildQ ⟨fn, kd, fb, sb, mb⟩ j (starS T) := ⟨_, rfl⟩
  obtain ⟨qr, hqr⟩ : ∃ q, q = spanQ ⟨fn, kd, fb, sb, mb⟩ j ⟨false, true, T⟩ ⟨false, false, hi⟩ := ⟨_, rfl⟩
  have BP := Lib.hid (fun W (hW : Below w.heap.size w W) => bind_prefix (c := c) (HM.out.below hW) hnm h63 hgood hf hT0 q4)
  have BZ := Lib.hid (fun W (hW : Below w.heap.size w W) => bind_fuzzy (c := c) (HM.out.below hW) hnm h63 hgood hf hT0 q4)
  have BX := Lib.hid (fun W (hW : Below w.heap.size w W) => bind_wild (c := c) (HM.out.below hW) hnm h63 hgood hf hT0 q4)
  have BR := Lib.hid (fun W (hW : Below w.heap.size w W) => bind_span (c := c) (HM.out.below hW) hnm h63 hgood hf hbf)
  rw [← hqp] at BP
  rw [← hqz] at BZ
  rw [← hqx] at BX
  rw [← hqr] at BR
  have HQP := Lib.hid hqp
  have HQZ := Lib.hid hqz
  have HQX := Lib.hid hqx
  have HQR := Lib.hid hqr
  have HFC := Lib.hid fcell
  have HT := Lib.hid hs
  have HH := Lib.hid hh
  have HFI := Lib.hid hfi
  have i1 : (j : Int) < (fs.length : Int) := by omega
  clear hqp hqz hqx hqr fcell hfc hfg q1 q2 q3 q4 hnm hlen hs hh hbk hbf hfi hT0 h63 HM hgood
  go_enter Tryz.func8, Tryz.ntmps8
  go_upto_region 1 with fail
  rw [← HW.out]
  go_upto_region 2 with (go_at_call 11; refine LV.out.mono ?_; rintro e w3 ⟨rfl, hb3⟩; have s0 : w3.cell? ⟨w.heap.size, 0, none⟩ = some (.slice (some ⟨fg, fo, none⟩) fs.length c) := (K1.below hb3 (by have := HZ.out; omega)).cell 0)
  have CK := Lib.hid (SC.out w3 hb3)
  simp only [errIf, if_true] at CK
  go_upto_region 4 with (go_at_call 17; refine CK.out.mono ?_; rintro e w4 ⟨rfl, hb4⟩; have s0 : w4.cell? ⟨w.heap.size, 0, none⟩ = some (.slice (some ⟨fg, fo, none⟩) fs.length c) := (K1.below (bchain hb3 hb4) (by have := HZ.out; omega)).cell 0)
  have hB4 : Below W2.heap.size W2 w4 := bchain hb3 hb4
  obtain ⟨x0, x1, x2, x3, x4⟩ := HFC.out w4 (le w4 hB4)
  clear d1 d2 d3 d4 d4n
  go_upto_region 5 with fail
  obtain ⟨W5, hW5⟩ : ∃ W, W = w4.alloc (.cells #[.string fn, .int .i64 kd, .bool fb, .bool sb, .bool mb] 67) := ⟨_, rfl⟩
  rw [← hW5]
  have KF0 : Blk W5 w4.heap.size 67 #[.string fn, .int .i64 kd, .bool fb, .bool sb, .bool mb] := by rw [hW5]; exact Blk.new w4 _ _
  have hB5 : Below W2.heap.size W2 W5 := by rw [hW5]; exact balloc hB4 _
  have lt5 : w.heap.size < W2.heap.size := by have := HZ.out; omega
  clear s0 x0 x1 x2 x3 x4 hW5
  have n0 : W5.cell? ⟨w4.heap.size, 0, none⟩ = some (.string fn) := KF0.cell 0
  have n1 : W5.cell? ⟨w4.heap.size, 1, none⟩ = some (.int .i64 kd) := KF0.cell 1
  have n2 : W5.cell? ⟨w4.heap.size, 2, none⟩ = some (.bool fb) := KF0.cell 2
  obtain ⟨Wt, hWt⟩ : ∃ x, x = foldedS ⟨fn, kd, fb, sb, mb⟩ T := ⟨_, rfl⟩
  obtain ⟨Pt, hPt⟩ : ∃ x, x = foldedS ⟨fn, kd, fb, sb, mb⟩ hi := ⟨_, rfl⟩
  have HWT := Lib.hid hWt
  have HPT := Lib.hid hPt
  obtain ⟨b1, hb1⟩ : ∃ b, b = (kd == 1) := ⟨_, rfl⟩
  have HB1 := Lib.hid hb1
  have db1 : (kd == 1) = b1 := hb1.symm
  clear hb1 hWt hPt
  go_upto_region 6 with fail
  go_cut [73] (fun v wx => v = .bool (b1 && fb) ∧ wx = W5)
  case first =>
    cases b1 <;> (go_wp2_with fail; go_meet; exact ⟨rfl, rfl⟩)
  case rest =>
    obtain ⟨rfl, rfl⟩ := hcut
    obtain ⟨W5, rfl⟩ : ∃ W, W = wc := ⟨_, rfl⟩
    go_upto_if 73 with fail
    go_cut [11, 12] (fun v v' wx => v = .string Wt ∧ v' = .string Pt ∧ Below W5.heap.size W5 wx)
    case first =>
      have EF : ∀ s, foldedS ⟨fn, kd, fb, sb, mb⟩ s = if (b1 && fb) = true then foldS s else s := fun s => by
        have h := HB1.out
        unfold foldedS
        simp only
        by_cases k1 : kd = 1
        · rw [show b1 = true by rw [h, k1]; rfl]
          cases fb <;> simp [k1]
        · rw [show b1 = false by rw [h]; exact beq_eq_false_iff_ne.2 k1]
          simp [k1]
      have E1 := HWT.out.trans (EF T)
      have E2 := HPT.out.trans (EF hi)
      clear EF db1
      obtain ⟨bb, hbb⟩ : ∃ b, b = (b1 && fb) := ⟨_, rfl⟩
      rw [← hbb] at E1 E2 ⊢
      have E1 := Lib.hid E1
      have E2 := Lib.hid E2
      clear hbb
      cases bb
      · go_wp2_with fail
        go_meet
        exact ⟨by rw [E1.out]; rfl, by rw [E2.out]; rfl, Below.refl _ _⟩
      · go_wp2_with (first | (go_at_call 37; (with_reducible refine (fold_any T _ (by have := HT.out; unfold maxLen; omega)).mono ?_); rintro e wf ⟨rfl, hbf⟩) | (go_at_call 37; (with_reducible refine (fold_any hi _ (by have := HH.out; unfold maxLen; omega)).mono ?_); rintro e W6 ⟨rfl, hbg⟩))
        go_meet
        exact ⟨by rw [E1.out]; rfl, by rw [E2.out]; rfl, bchain hbf hbg⟩
    case rest =>
      obtain ⟨rfl, rfl, hB56⟩ := hcut
      obtain ⟨W6, rfl⟩ : ∃ W, W = wc := ⟨_, rfl⟩
      have KF := KF0.below hB56 KF0.lt
      have hB6 : Below W2.heap.size W2 W6 := bchain hB5 hB56
      clear hB56 KF0 n0 n1 n2 db1
      have s0 : W6.cell? ⟨w.heap.size, 0, none⟩ = some (.slice (some ⟨fg, fo, none⟩) fs.length c) := (K1.below hB6 lt5).cell 0
      have n0 : W6.cell? ⟨w4.heap.size, 0, none⟩ = some (.string fn) := (KF.below (Below.refl _ _) KF.lt).cell 0
      go_upto_region 9 with (go_at_call 16; refine (BP.out _ (le _ hB6)).mono ?_; rintro e vp ⟨cs, rfl, hFp, hbp⟩; obtain ⟨p, pk, P1, P2, P3, P4, pc1, pc2, pc3, pc4, pkc, pw, pl, p1, p2, p3, p4, p5⟩ := hFp.val; clear pw pl p1 p2 p3 p4 p5)
      obtain ⟨Vp, hVp⟩ : ∃ W, W = vp.alloc (.cells #[.int .i64 p.kind, .int .i64 p.field, .string p.text, .slice P1 p.terms.length pc1, .slice P2 p.offs.length pc2, .int .i64 p.n, .int .u64 p.weight, .bool p.lo.op, .bool p.lo.inn, .string p.lo.text, .bool p.hi.op, .bool p.hi.inn, .string p.hi.text, .slice P3 p.occur.length pc3, .slice P4 pk.length pc4] 29) := ⟨_, rfl⟩
      rw [← hVp]
      have Kp0 : Blk Vp vp.heap.size 29 #[.int .i64 p.kind, .int .i64 p.field, .string p.text, .slice P1 p.terms.length pc1, .slice P2 p.offs.length pc2, .int .i64 p.n, .int .u64 p.weight, .bool p.lo.op, .bool p.lo.inn, .string p.lo.text, .bool p.hi.op, .bool p.hi.inn, .string p.hi.text, .slice P3 p.occur.length pc3, .slice P4 pk.length pc4] := by rw [hVp]; exact Blk.new vp _ _
      have Fp0 : Fresh 0 Vp [.int .i64 p.kind, .int .i64 p.field, .string p.text, .slice P1 p.terms.length pc1, .slice P2 p.offs.length pc2, .int .i64 p.n, .int .u64 p.weight, .bool p.lo.op, .bool p.lo.inn, .string p.lo.text, .bool p.hi.op, .bool p.hi.inn, .string p.hi.text, .slice P3 p.occur.length pc3, .slice P4 pk.length pc4] (.mk p pk) := by rw [hVp]; exact (Fresh.below hFp (balloc (Below.refl _ _) _)).mono (Nat.zero_le _)
      have hBW6Vp : Below W6.heap.size W6 Vp := by rw [hVp]; exact balloc hbp _
      have hBVp : Below W2.heap.size W2 Vp := bchain hB6 hBW6Vp
      clear s0 n0 hVp hFp hbp
      generalize Value.tuple #[Value.agg #[.int .i64 p.kind, .int .i64 p.field, .string p.text, .slice P1 p.terms.length pc1, .slice P2 p.offs.length pc2, .int .i64 p.n, .int .u64 p.weight, .bool p.lo.op, .bool p.lo.inn, .string p.lo.text, .bool p.hi.op, .bool p.hi.inn, .string p.hi.text, .slice P3 p.occur.length pc3, .slice P4 pk.length pc4], Value.nilIface] = gtp
      generalize Value.agg #[.int .i64 p.kind, .int .i64 p.field, .string p.text, .slice P1 p.terms.length pc1, .slice P2 p.offs.length pc2, .int .i64 p.n, .int .u64 p.weight, .bool p.lo.op, .bool p.lo.inn, .string p.lo.text, .bool p.hi.op, .bool p.hi.inn, .string p.hi.text, .slice P3 p.occur.length pc3, .slice P4 pk.length pc4] = gap
      obtain ⟨po0, po1, po2, po3, po4, po5, po6, po7, po8, po9, po10, po11, po12, po13, po14, Kp, Fp⟩ : ∃ po0 po1 po2 po3 po4 po5 po6 po7 po8 po9 po10 po11 po12 po13 po14 : Value, Blk Vp vp.heap.size 29 #[po0, po1, po2, po3, po4, po5, po6, po7, po8, po9, po10, po11, po12, po13, po14] ∧ Fresh 0 Vp [po0, po1, po2, po3, po4, po5, po6, po7, po8, po9, po10, po11, po12, po13, po14] (.mk p pk) := ⟨_, _, _, _, _, _, _, _, _, _, _, _, _, _, _, Kp0, Fp0⟩
      clear Kp0 Fp0
      generalize Value.agg #[Value.int .i64 3, Value.string fn, Value.string T, Value.int .i64 0, Value.bool false, Value.bool false, Value.string ⟨#[]⟩, Value.bool false, Value.bool false, Value.string ⟨#[]⟩, Value.slice none 0 0, Value.slice none 0 0] = gnp
      have s0 : Vp.cell? ⟨w.heap.size, 0, none⟩ = some (.slice (some ⟨fg, fo, none⟩) fs.length c) := (K1.below hBVp lt5).cell 0
      have n0 : Vp.cell? ⟨w4.heap.size, 0, none⟩ = some (.string fn) := (KF.below hBW6Vp KF.lt).cell 0
      go_upto_region 10 with (go_at_call 16; refine (BZ.out _ (le _ hBVp)).mono ?_; rintro e vz ⟨cs, rfl, hFz, hbz⟩; obtain ⟨z, zk, Z1, Z2, Z3, Z4, zc1, zc2, zc3, zc4, zkc, zw, zl, z1, z2, z3, z4, z5⟩ := hFz.val; clear zw zl z1 z2 z3 z4 z5)
      obtain ⟨Vz, hVz⟩ : ∃ W, W = vz.alloc (.cells #[.int .i64 z.kind, .int .i64 z.field, .string z.text, .slice Z1 z.terms.length zc1, .slice Z2 z.offs.length zc2, .int .i64 z.n, .int .u64 z.weight, .bool z.lo.op, .bool z.lo.inn, .string z.lo.text, .bool z.hi.op, .bool z.hi.inn, .string z.hi.text, .slice Z3 z.occur.length zc3, .slice Z4 zk.length zc4] 29) := ⟨_, rfl⟩
      rw [← hVz]
      have Kz0 : Blk Vz vz.heap.size 29 #[.int .i64 z.kind, .int .i64 z.field, .string z.text, .slice Z1 z.terms.length zc1, .slice Z2 z.offs.length zc2, .int .i64 z.n, .int .u64 z.weight, .bool z.lo.op, .bool z.lo.inn, .string z.lo.text, .bool z.hi.op, .bool z.hi.inn, .string z.hi.text, .slice Z3 z.occur.length zc3, .slice Z4 zk.length zc4] := by rw [hVz]; exact Blk.new vz _ _
      have Fz0 : Fresh 0 Vz [.int .i64 z.kind, .int .i64 z.field, .string z.text, .slice Z1 z.terms.length zc1, .slice Z2 z.offs.length zc2, .int .i64 z.n, .int .u64 z.weight, .bool z.lo.op, .bool z.lo.inn, .string z.lo.text, .bool z.hi.op, .bool z.hi.inn, .string z.hi.text, .slice Z3 z.occur.length zc3, .slice Z4 zk.length zc4] (.mk z zk) := by rw [hVz]; exact (Fresh.below hFz (balloc (Below.refl _ _) _)).mono (Nat.zero_le _)
      have hBVpVz : Below Vp.heap.size Vp Vz := by rw [hVz]; exact balloc hbz _
      have hBVz : Below W2.heap.size W2 Vz := bchain hBVp hBVpVz
      clear s0 n0 hVz hFz hbz
      generalize Value.tuple #[Value.agg #[.int .i64 z.kind, .int .i64 z.field, .string z.text, .slice Z1 z.terms.length zc1, .slice Z2 z.offs.length zc2, .int .i64 z.n, .int .u64 z.weight, .bool z.lo.op, .bool z.lo.inn, .string z.lo.text, .bool z.hi.op, .bool z.hi.inn, .string z.hi.text, .slice Z3 z.occur.length zc3, .slice Z4 zk.length zc4], Value.nilIface] = gtz
      generalize Value.agg #[.int .i64 z.kind, .int .i64 z.field, .string z.text, .slice Z1 z.terms.length zc1, .slice Z2 z.offs.length zc2, .int .i64 z.n, .int .u64 z.weight, .bool z.lo.op, .bool z.lo.inn, .string z.lo.text, .bool z.hi.op, .bool z.hi.inn, .string z.hi.text, .slice Z3 z.occur.length zc3, .slice Z4 zk.length zc4] = gaz
      obtain ⟨zo0, zo1, zo2, zo3, zo4, zo5, zo6, zo7, zo8, zo9, zo10, zo11, zo12, zo13, zo14, Kz, Fz⟩ : ∃ zo0 zo1 zo2 zo3 zo4 zo5 zo6 zo7 zo8 zo9 zo10 zo11 zo12 zo13 zo14 : Value, Blk Vz vz.heap.size 29 #[zo0, zo1, zo2, zo3, zo4, zo5, zo6, zo7, zo8, zo9, zo10, zo11, zo12, zo13, zo14] ∧ Fresh 0 Vz [zo0, zo1, zo2, zo3, zo4, zo5, zo6, zo7, zo8, zo9, zo10, zo11, zo12, zo13, zo14] (.mk z zk) := ⟨_, _, _, _, _, _, _, _, _, _, _, _, _, _, _, Kz0, Fz0⟩
      clear Kz0 Fz0
      generalize Value.agg #[Value.int .i64 5, Value.string fn, Value.string T, Value.int .i64 2, Value.bool false, Value.bool false, Value.string ⟨#[]⟩, Value.bool false, Value.bool false, Value.string ⟨#[]⟩, Value.slice none 0 0, Value.slice none 0 0] = gnz
      have KPz := Kp.below hBVpVz Kp.lt
      have FPz := Fresh.below Fp hBVpVz
      have KFz := KF.below (bchain hBW6Vp hBVpVz) KF.lt
      have HN10 := Lib.hid (bchain hBW6Vp hBVpVz)
      clear Kp Fp KF hBW6Vp hBVpVz
      refine RelE.wp_region_rele 14 (fun wx => Below Vz.heap.size Vz wx) (fun wa wb => Below wa.heap.size wa wb) (fun wa wb => LeC wa wb) [11, 12] (fun i vs wx => GA Vz.heap.size qx i (vs 11) wx) (by kernel_rfl) (by kernel_rfl) (by kernel_rfl) (by simp) (by kernel_rfl) (bdrew (Below.refl _ _)) trivial (fun i _ _ _ hle h => ga_below hle h) (fun i vs vs' _ h => ga_loc2 h) ?_
      simp only [List.take_succ_cons, List.take_zero]
      apply RelE.rele_one 1 [] rfl (by kernel_rfl) (by kernel_rfl) (by rfl)
      case hs =>
        intro vv wx hx hf
        clear hf
        have ns := (show wx.cell? ⟨w.heap.size, 0, none⟩ = some (.slice (some ⟨fg, fo, none⟩) fs.length c) from (K1.below (bchain hBVz hx) lt5).cell 0)
        have n0 := (show wx.cell? ⟨w4.heap.size, 0, none⟩ = some (.string fn) from (KFz.below hx KFz.lt).cell 0)
        try simp only [Relb.putD, Act.put, Base.s1, Base.s2, Base.s3]
        intro KK hK
        go_simp
        exact hK _ _ hx (Below.refl _ _) rfl
      apply RelE.rele_one 2 [] rfl (by kernel_rfl) (by kernel_rfl) (by rfl)
      case hs =>
        intro vv wx hx hf
        clear hf
        try simp only [Relb.putD, Act.put, Base.s1, Base.s2, Base.s3]
        intro KK hK
        go_simp
        exact hK _ _ hx (Below.refl _ _) rfl
      apply RelE.rele_one 3 [(1, 98)] rfl (by kernel_rfl) (by kernel_rfl) (by rfl)
      case hs =>
        intro vv wx hx hf
        have e98 : vv 1 = _ := hf 1 (by simp)
        clear hf
        have ns := (show wx.cell? ⟨w.heap.size, 0, none⟩ = some (.slice (some ⟨fg, fo, none⟩) fs.length c) from (K1.below (bchain hBVz hx) lt5).cell 0)
        have n0 := (show wx.cell? ⟨w4.heap.size, 0, none⟩ = some (.string fn) from (KFz.below hx KFz.lt).cell 0)
        try simp only [Relb.putD, e98, Act.put, Base.s1, Base.s2, Base.s3]
        intro KK hK
        go_simp
        exact hK _ _ hx (Below.refl _ _) rfl
      apply RelE.rele_one 4 [] rfl (by kernel_rfl) (by kernel_rfl) (by rfl)
      case hs =>
        intro vv wx hx hf
        clear hf
        try simp only [Relb.putD, Act.put, Base.s1, Base.s2, Base.s3]
        intro KK hK
        go_simp
        exact hK _ _ hx (Below.refl _ _) rfl
      apply RelE.rele_one 5 [(3, 100)] rfl (by kernel_rfl) (by kernel_rfl) (by rfl)
      case hs =>
        intro vv wx hx hf
        have e100 : vv 3 = _ := hf 3 (by simp)
        clear hf
        have ns := (show wx.cell? ⟨w.heap.size, 0, none⟩ = some (.slice (some ⟨fg, fo, none⟩) fs.length c) from (K1.below (bchain hBVz hx) lt5).cell 0)
        have n0 := (show wx.cell? ⟨w4.heap.size, 0, none⟩ = some (.string fn) from (KFz.below hx KFz.lt).cell 0)
        try simp only [Relb.putD, e100, Act.put, Base.s1, Base.s2, Base.s3]
        intro KK hK
        go_simp
        go_at_call 38
        refine (lit_any T wx HT.out).mono ?_
        rintro e wy ⟨rfl, hby⟩
        exact hK (.string (litS T)) wy (bchain hx hby) hby rfl
      apply RelE.rele_one 6 [(4, 101)] rfl (by kernel_rfl) (by kernel_rfl) (by rfl)
      case hs =>
        intro vv wx hx hf
        have e101 : vv 4 = _ := hf 4 (by simp)
        clear hf
        try simp only [Relb.putD, e101, Act.put, Base.s1, Base.s2, Base.s3]
        intro KK hK
        go_simp
        rw [if_neg (by have := WildBind.litS_size T; have := HT.out; omega)]
        exact hK (.string (starS T)) wx hx (Below.refl _ _) rfl
      apply RelE.rele_one 7 [(2, 99), (5, 102)] rfl (by kernel_rfl) (by kernel_rfl) (by rfl)
      case hs =>
        intro vv wx hx hf
        have e99 : vv 2 = _ := hf 2 (by simp)
        have e102 : vv 5 = _ := hf 5 (by simp)
        clear hf
        try simp only [Relb.putD, e99, e102, Act.put, Base.s1, Base.s2, Base.s3]
        intro KK hK
        go_simp
        exact hK (.agg #[.int .i64 4, .string fn, .string (starS T), .int .i64 0, .bool false, .bool false, .string ⟨#[]⟩, .bool false, .bool false, .string ⟨#[]⟩, .slice none 0 0, .slice none 0 0]) wx hx (Below.refl _ _) rfl
      apply RelE.rele_kind 8 [(0, 97), (6, 103)] (fun x wx => QErr Vz.heap.size qx x wx) rfl (by kernel_rfl) (by kernel_rfl) (by rfl) (fun _ _ _ hle h => qerr_stays hle h)
      case hs =>
        intro vv wx hx hf
        have e97 : vv 0 = _ := hf 0 (by simp)
        have e103 : vv 6 = _ := hf 6 (by simp)
        clear hf
        have ns := (show wx.cell? ⟨w.heap.size, 0, none⟩ = some (.slice (some ⟨fg, fo, none⟩) fs.length c) from (K1.below (bchain hBVz hx) lt5).cell 0)
        have n0 := (show wx.cell? ⟨w4.heap.size, 0, none⟩ = some (.string fn) from (KFz.below hx KFz.lt).cell 0)
        try simp only [Relb.putD, e97, e103, Act.put, Base.s1, Base.s2, Base.s3]
        intro KK hK
        go_simp
        go_at_call 16
        refine (BX.out wx (le _ (bchain hBVz hx))).mono ?_
        rintro e w7 ⟨cs, rfl, hv, hb7⟩
        obtain ⟨hd, ks, A1, A2, A3, A4, c1, c2, c3, c4, kc, hw, hkl, h1', h2', h3', h4', h5'⟩ := hv.val
        exact hK _ _ (bchain hx hb7) hb7 ⟨hd, ks, A1, A2, A3, A4, c1, c2, c3, c4, rfl, hv.mono hx.size⟩
      apply RelE.rele_kind 9 [(7, 104)] (fun x wx => QErr Vz.heap.size qx x wx) rfl (by kernel_rfl) (by kernel_rfl) (by rfl) (fun _ _ _ hle h => qerr_stays hle h)
      case hs =>
        intro vv wx hx hf
        obtain ⟨hd, ks, A1, A2, A3, A4, c1, c2, c3, c4, e104, FRS⟩ := hf 7 (by simp)
        replace e104 : vv 7 = _ := e104
        clear hf
        try simp only [Relb.putD, e104, Act.put, Base.s1, Base.s2, Base.s3]
        intro KK hK
        go_simp
        exact hK _ _ hx (Below.refl _ _) ⟨hd, ks, A1, A2, A3, A4, c1, c2, c3, c4, rfl, FRS⟩
      apply RelE.rele_kind 10 [(8, 96)] (fun x wx => QOne Vz.heap.size qx x wx) rfl (by kernel_rfl) (by kernel_rfl) (by rfl) (fun _ _ _ hle h => qone_stays hle h)
      case hs =>
        intro vv wx hx hf
        obtain ⟨hd, ks, A1, A2, A3, A4, c1, c2, c3, c4, e96, FRS⟩ := hf 8 (by simp)
        replace e96 : vv 8 = _ := e96
        clear hf
        try simp only [Relb.putD, e96, Act.put, Base.s1, Base.s2, Base.s3]
        intro KK hK
        go_simp
        exact hK _ _ hx (Below.refl _ _) ⟨hd, ks, A1, A2, A3, A4, c1, c2, c3, c4, rfl, FRS⟩
      apply RelE.rele_one 11 [(8, 96)] rfl (by kernel_rfl) (by kernel_rfl) (by rfl)
      case hs =>
        intro vv wx hx hf
        obtain ⟨hd, ks, A1, A2, A3, A4, c1, c2, c3, c4, e96, FRS⟩ := hf 8 (by simp)
        replace e96 : vv 8 = _ := e96
        clear hf
        try simp only [Relb.putD, e96, Act.put, Base.s1, Base.s2, Base.s3]
        intro KK hK
        go_simp
        exact hK _ _ hx (Below.refl _ _) rfl
      apply RelE.rele_chain 0 12 [] rfl (by kernel_rfl) (by kernel_rfl) (by rfl)
      case hs =>
        intro vv wx hx hf hg
        clear hf
        try simp only [Relb.putD, Act.put, Base.s1, Base.s2, Base.s3]
        intro KK hK
        go_simp
        exact hK _ _ (balloc hx _) (LeC.alloc _ _) ⟨wx.heap.size, rfl, Blk.new _ _ _, hx.size⟩
      apply RelE.rele_chain 1 13 [(9, 105), (11, 17)] rfl (by kernel_rfl) (by kernel_rfl) (by rfl)
      case hs =>
        intro vv wx hx hf hg
        obtain ⟨hd, ks, A1, A2, A3, A4, c1, c2, c3, c4, e105, FRS⟩ := hf 9 (by simp)
        replace e105 : vv 9 = _ := e105
        obtain ⟨g6, e6, K6, h6⟩ := hg
        replace e6 : vv 11 = _ := e6
        have K6' := K6
        unfold bareQ at K6
        obtain ⟨z0, z1, z2, z3, z4, z5, z6, z7, z8, z9, z10, z11, z12, z13, z14⟩ := qrow K6
        obtain ⟨y0, y1, y2, y3, y4, y5, y6, y7, y8, y9, y10, y11, y12, y13, y14⟩ := qfz K6
        clear hf
        try simp only [Relb.putD, e105, e6, Act.put, Base.s1, Base.s2, Base.s3]
        intro KK hK
        go_simp
        exact hK undef _ (below15 hx h6) (LeC.set15 K6') ⟨g6, rfl, ⟨[.int .i64 hd.kind, .int .i64 hd.field, .string hd.text, .slice A1 hd.terms.length c1, .slice A2 hd.offs.length c2, .int .i64 hd.n, .int .u64 hd.weight, .bool hd.lo.op, .bool hd.lo.inn, .string hd.lo.text, .bool hd.hi.op, .bool hd.hi.inn, .string hd.hi.text, .slice A3 hd.occur.length c3, .slice A4 ks.length c4], blk15 K6, fresh15z FRS K6'⟩, h6⟩
      apply RelE.rele_one 14 [(10, 106)] rfl (by kernel_rfl) (by kernel_rfl) (by rfl)
      case hs =>
        intro vv wx hx hf
        have e106 : vv 10 = _ := hf 10 (by simp)
        clear hf
        try simp only [Relb.putD, e106, Act.put, Base.s1, Base.s2, Base.s3]
        intro KK hK
        go_simp
        exact hK _ _ hx (Below.refl _ _) rfl
      refine RelE.rele_end (N := 0) [(0, some 97), (1, some 98), (2, some 99), (3, some 100), (4, some 101), (5, some 102), (6, some 103), (7, some 104), (8, some 96), (9, some 105), (10, some 106), (11, some 17), (12, none), (13, some 18)] (by kernel_rfl) (by kernel_rfl) ?_
      intro vv wx hx hf hg
      have e97 : vv 0 = _ := hf 0 (by decide)
      have e98 : vv 1 = _ := hf 1 (by decide)
      have e99 : vv 2 = _ := hf 2 (by decide)
      have e100 : vv 3 = _ := hf 3 (by decide)
      have e101 : vv 4 = _ := hf 4 (by decide)
      have e102 : vv 5 = _ := hf 5 (by decide)
      have e103 : vv 6 = _ := hf 6 (by decide)
      obtain ⟨hd, ks, A1, A2, A3, A4, c1, c2, c3, c4, e104, FRS⟩ := hf 7 (by decide)
      replace e104 : vv 7 = _ := e104
      obtain ⟨hd, ks, A1, A2, A3, A4, c1, c2, c3, c4, e96, FRS⟩ := hf 8 (by decide)
      replace e96 : vv 8 = _ := e96
      obtain ⟨hd, ks, A1, A2, A3, A4, c1, c2, c3, c4, e105, FRS⟩ := hf 9 (by decide)
      replace e105 : vv 9 = _ := e105
      have e106 : vv 10 = _ := hf 10 (by decide)
      have e18 : vv 13 = _ := hf 13 (by decide)
      clear hf
      simp only [RelE.putO, e18, Act.put, Base.s1, Base.s2, Base.s3]
      have hg' : GA Vz.heap.size qx 2 (vv 11) wx := hg
      obtain ⟨g6, e6, ⟨cs6, Kx0, Fx0⟩, h6⟩ := hg'
      simp only [e6]
      obtain ⟨x, xk, X1, X2, X3, X4, xc1, xc2, xc3, xc4, xkc, xw, xl, x1, x2, x3, x4, x5⟩ := Fx0.val
      clear xw xl x1 x2 x3 x4 x5
      obtain ⟨xo0, xo1, xo2, xo3, xo4, xo5, xo6, xo7, xo8, xo9, xo10, xo11, xo12, xo13, xo14, Kx, Fx⟩ : ∃ xo0 xo1 xo2 xo3 xo4 xo5 xo6 xo7 xo8 xo9 xo10 xo11 xo12 xo13 xo14 : Value, Blk wx g6 29 #[xo0, xo1, xo2, xo3, xo4, xo5, xo6, xo7, xo8, xo9, xo10, xo11, xo12, xo13, xo14] ∧ Fresh Vz.heap.size wx [xo0, xo1, xo2, xo3, xo4, xo5, xo6, xo7, xo8, xo9, xo10, xo11, xo12, xo13, xo14] (.mk x xk) := ⟨_, _, _, _, _, _, _, _, _, _, _, _, _, _, _, Kx0, Fx0⟩
      clear Kx0 Fx0
      obtain ⟨w10, rfl⟩ : ∃ w10 : World, w10 = wx := ⟨_, rfl⟩
      have hB10 : Below W2.heap.size W2 w10 := bchain hBVz hx
      have KPx := KPz.below hx KPz.lt
      have FPx := Fresh.below FPz hx
      have KZx := Kz.below hx Kz.lt
      have FZx := Fresh.below Fz hx
      have KFx := KFz.below hx KFz.lt
      clear hg h6 e6 KPz FPz KFz Kz Fz hx e97 e98 e99 e100 e101 e102 e103 e104 e96 e105 e106 e18
      refine ⟨by kernel_rfl, ?_⟩
      have hk := ‹∀ (a : Act) (w : World), Code.wp Tryz.prog _ _ a w → _›
      refine hk _ _ ?_
      refine cast_code (c := tailC 11) (by kernel_rfl) ?_
      by_cases hk : kd = 3
      · subst hk
        exact FoldsNum.rest (le _ hB10) ((K1.below hB10 lt5).cell 0) KFx KPx FPx KZx FZx Kx (Fresh.mono Fx (Nat.zero_le _)) BR.out HFI.out (HQP.out.trans (by simp [prefixQ])) (HQZ.out.trans (by simp [fuzzyQ])) (HQX.out.trans (by rw [wildQ_star]; simp)) HQR.out HT.out HH.out
      · have EP : Qry.mk p pk = .mk ⟨6, j, Wt, [], [], 0, 0, bnd0, bnd0, []⟩ [] := HQP.out.trans (by rw [HWT.out]; simp [prefixQ, hk])
        have EZ : Qry.mk z zk = .mk ⟨8, j, Wt, [], [], 2, 0, bnd0, bnd0, []⟩ [] := HQZ.out.trans (by rw [HWT.out]; simp [fuzzyQ, hk])
        have EX : Qry.mk x xk = .mk ⟨7, j, starS Wt, [], [], 0, 0, bnd0, bnd0, []⟩ [] := HQX.out.trans (by rw [HWT.out, wildQ_star]; simp [bareH, hk])
        have ER : qr = .mk ⟨9, j, ⟨#[]⟩, [], [], 0, 0, ⟨false, true, Wt⟩, ⟨false, false, Pt⟩, []⟩ [] := HQR.out.trans (by rw [HWT.out, HPT.out]; simp [spanQ, endQ, hk])
        have h1 := want_size ⟨fn, kd, fb, sb, mb⟩ HT.out
        have h2 := folded_size ⟨fn, kd, fb, sb, mb⟩ T
        rw [← HWT.out] at h1 h2
        exact FoldsText.rest (le _ hB10) ((K1.below hB10 lt5).cell 0) KFx KPx FPx KZx FZx Kx (Fresh.mono Fx (Nat.zero_le _)) BR.out HFI.out hk EP EZ EX ER (by rw [h2]; exact HT.out) h1.1 h1.2
end Go.Proofs.YtkcfgcdlnojaeaaGreatDoor.FoldsHead
