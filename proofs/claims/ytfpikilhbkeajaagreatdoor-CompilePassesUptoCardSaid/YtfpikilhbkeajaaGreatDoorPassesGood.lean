/-
  The walk of concordlaw22.CompilePasses, a good plan.
-/
import Derived.Test.YtfpikilhbkeajaaGreatDoorCAskP
import Derived.Test.YtfpikilhbkeajaaGreatDoorPassJoin
set_option linter.unusedVariables false
set_option linter.unusedSimpArgs false
namespace Go.Proofs.YtfpikilhbkeajaaGreatDoor.PassesGood
set_option maxRecDepth 100000
open Go.RowKit Go.PlainAid Base Query QrySize EmitPlain EmitBase EmitQ0 LeafMap AllLeaves EmitExt TabPlain TextPlain GoodLoc GoodPl LawTerms EmitNear HitBase NewMid ProgTail ProgGood ProgBad LawLives Avg Args Encode _root_.Go.Proofs.YtfpikilhbkeajaaGreatDoor.Decode CodePlain RefGoodPl PassesAsk PassPlain PassJoin VerNear

noncomputable def tailQ (k : Nat) : Code := ((Tryz.f5.body).bind (fromR k)).getD .skip
set_option maxHeartbeats 8000000 in
theorem g5 (hd : Head) (ks : List Qry) (A1 A2 A3 A4 : Option Addr) (c1 c2 c3 c4 : Nat) (all : Bool) (AD : Option Addr) (cD : Nat) (dr : List Lf) (docs : Int) (AS : Option Addr) (cS : Nat) (sums : List Int) (AA AC AN AV AK : Option Addr) (nA nC nN nD nK cA cC cN cV nL sz : Nat) (PB SB PR : Nat) (w W6 : World) (HKP : Hid (Blk W6 PB 32 #[.int .i64 hd.kind, .int .i64 hd.field, .string hd.text, .slice A1 hd.terms.length c1, .slice A2 hd.offs.length c2, .int .i64 hd.n, .int .u64 hd.weight, .bool hd.lo.op, .bool hd.lo.inn, .string hd.lo.text, .bool hd.hi.op, .bool hd.hi.inn, .string hd.hi.text, .slice A3 hd.occur.length c3, .slice A4 ks.length c4, .bool all, .slice AD dr.length cD])) (HKS : Hid (Blk W6 SB 34 #[.int .i64 docs, .slice AS sums.length cS])) (HB : Hid (Below w.heap.size w W6)) (HKR : Hid (Blk W6 PR 40 #[.slice AA nA cA, .slice AC nC cC, .slice AN nN cN, .bool all, .slice AV nD cV, .slice AK nK nK])) (RG6 : Hid (Calls Tryz.prog 15 #[.agg #[.int .i64 hd.kind, .int .i64 hd.field, .string hd.text, .slice A1 hd.terms.length c1, .slice A2 hd.offs.length c2, .int .i64 hd.n, .int .u64 hd.weight, .bool hd.lo.op, .bool hd.lo.inn, .string hd.lo.text, .bool hd.hi.op, .bool hd.hi.inn, .string hd.hi.text, .slice A3 hd.occur.length c3, .slice A4 ks.length c4, .bool all, .slice AD dr.length cD], .int .i64 (sums.length : Int)] W6 fun e w' => e = .returned (.bool true) ∧ Below W6.heap.size W6 w')) (CKW : Hid (∀ W, Below W6.heap.size W6 W → Calls Tryz.prog 16 #[.agg #[.slice AA nA cA, .slice AC nC cC, .slice AN nN cN, .bool all, .slice AV nD cV, .slice AK nK nK]] W fun e w' => ∃ most : Int, 1 ≤ most ∧ e = .returned (.tuple #[.agg #[.int .i64 (nL : Int), .int .i64 most], .nilIface]) ∧ Below W.heap.size W w')) (DCW : Hid (∀ W, Below W6.heap.size W6 W → Calls Tryz.prog 17 #[.slice AK nK nK] W fun e w' => ∃ A c, e = .returned (.tuple #[.slice A nL c, .nilIface]) ∧ Below W.heap.size W w')) (SZW : Hid (∀ W, Below W6.heap.size W6 W → Calls Tryz.prog 18 #[.agg #[.int .i64 hd.kind, .int .i64 hd.field, .string hd.text, .slice A1 hd.terms.length c1, .slice A2 hd.offs.length c2, .int .i64 hd.n, .int .u64 hd.weight, .bool hd.lo.op, .bool hd.lo.inn, .string hd.lo.text, .bool hd.hi.op, .bool hd.hi.inn, .string hd.hi.text, .slice A3 hd.occur.length c3, .slice A4 ks.length c4]] W fun e w' => e = .returned (.int .i64 (sz : Int)) ∧ Below W.heap.size W w')) (hcl : nL ≤ 3 * sz) (hsz : sz ≤ 16777216) (u0 u1 u4 u5 u8 u9 u10 u11 u12 u13 u14 u15 u16 u17 u18 u19 u20 u21 u22 u23 u24 u25 u26 u27 u28 u29 u30 u31 u32 u33 u34 u35 u36 u37 u38 u39 u40 u41 u42 u43 u44 u45 u46 u47 u48 u49 u50 u51 u52 u53 u54 u55 u56 u57 u58 u59 u60 u61 u62 u63 u64 u65 u66 u67 u68 u69 u70 u71 u72 u73 u74 u75 u76 u77 u78 : Value) :
    Code.wp Tryz.prog (tailQ 5) (bodyPost Tryz.prog Tryz.f5 (fun e w' => e = .returned (.bool true) ∧ Below w.heap.size w w')) ⟨#[u0, u1, .pointer (some ⟨PB, 0, none⟩), .pointer (some ⟨SB, 0, none⟩), u4, u5, .pointer (some ⟨PR, 0, none⟩), .nilIface, u8, u9, u10, u11, u12, u13, u14, u15, u16, u17, u18, u19, u20, u21, u22, u23, u24, u25, u26, u27, u28, u29, u30, u31, u32, u33, u34, u35, u36, u37, u38, u39, u40, u41, u42, u43, u44, u45, u46, u47, u48, u49, u50, u51, u52, u53, u54, u55, u56, u57, u58, u59, u60, u61, u62, u63, u64, u65, u66, u67, u68, u69, u70, u71, u72, u73, u74, u75, u76, u77, u78], []⟩ W6 := by
  have LWP := Lib.hid (show ∀ W, Below W6.heap.size W6 W → _ from fun W hW => plcs (HKP.out.below hW HKP.out.lt))
  have LWR := Lib.hid (show ∀ W, Below W6.heap.size W6 W → _ from fun W hW => six (HKR.out.below hW HKR.out.lt))
  obtain ⟨p0, p1, p2, p3, p4, p5, p6, p7, p8, p9, p10, p11, p12, p13, p14, p15, p16⟩ := LWP.out W6 (Below.refl _ _)
  have s1 : W6.cell? ⟨SB, 1, none⟩ = some (.slice AS sums.length cS) := HKS.out.cell 1
  unfold tailQ
  conv => arg 2; whnf
  go_upto_region 9 with (go_at_call 15; (with_reducible refine RG6.out.mono ?_); rintro e w7 ⟨rfl, hb7⟩; obtain ⟨r0, r1, r2, r3, r4, r5⟩ := LWR.out w7 hb7; have CK7 := Lib.hid (CKW.out w7 hb7); have HB7 := Lib.hid hb7; clear hb7)
  clear p0 p1 p2 p3 p4 p5 p6 p7 p8 p9 p10 p11 p12 p13 p14 p15 p16 s1
  go_upto_region 10 with (go_at_call 16; (with_reducible refine CK7.out.mono ?_); rintro e w8 ⟨most, hmost, rfl, hb8⟩; have HB8 := Lib.hid (bchain HB7.out hb8); clear hb8)
  obtain ⟨W9, hW9⟩ : ∃ V, V = w8.alloc (.cells #[.int .i64 (nL : Int), .int .i64 most] 57) := ⟨_, rfl⟩
  obtain ⟨PF, hPF⟩ : ∃ b, b = w8.heap.size := ⟨_, rfl⟩
  have b9 : Below w8.heap.size w8 W9 := by rw [hW9]; exact Base.bel
  have KF : Blk W9 PF 57 #[.int .i64 (nL : Int), .int .i64 most] := by rw [hW9, hPF]; exact Blk.new _ _ _
  have bb9 : Below W6.heap.size W6 W9 := bchain HB8.out b9
  obtain ⟨_, _, _, _, _, t5⟩ := LWR.out W9 bb9
  have DC9 := Lib.hid (DCW.out W9 bb9)
  have HKF := Lib.hid KF
  have HB9 := Lib.hid bb9
  have HW9 := Lib.hid hW9
  have HPF := Lib.hid hPF
  clear hW9 hPF b9 KF bb9 r0 r1 r2 r3 r4 r5
  rw [← HPF.out, ← HW9.out]
  go_upto_region 11 with (go_at_call 17; (with_reducible refine DC9.out.mono ?_); rintro e w10 ⟨AL, cL, rfl, hb10⟩; have HB10 := Lib.hid hb10; have bb10 := bchain HB9.out hb10; obtain ⟨i0, i1, i2, i3, i4, i5, i6, i7, i8, i9, i10, i11, i12, i13, i14, _, _⟩ := LWP.out w10 bb10; have SZ10 := Lib.hid (SZW.out w10 bb10); have HBB10 := Lib.hid bb10; clear hb10 bb10)
  have d1 : decide ((nL : Int) ≤ 3 * (sz : Int) + 1) = true := decide_eq_true (by omega)
  have d2 : decide ((1 : Int) ≤ most) = true := decide_eq_true hmost
  go_wp2_with (go_at_call 18; (with_reducible refine SZ10.out.mono ?_); rintro e w11 ⟨rfl, hb11⟩; have KF11 := HKF.out.below (bchain HB10.out hb11) HKF.out.lt; have f0 : w11.cell? ⟨PF, 0, none⟩ = some (.int .i64 (nL : Int)) := KF11.cell 0; have f1 : w11.cell? ⟨PF, 1, none⟩ = some (.int .i64 most) := KF11.cell 1; have HB11 := Lib.hid (bchain HBB10.out hb11); clear hb11 KF11)
  go_ret
  exact ⟨rfl, HB.out.trans (HB11.out.mono HB.out.size)⟩

set_option maxHeartbeats 8000000 in
theorem walk_good (hd : Head) (ks : List Qry) (A1 A2 A3 A4 : Option Addr) (c1 c2 c3 c4 : Nat) (all : Bool) (AD : Option Addr) (cD : Nat) (dr : List Lf) (docs : Int) (AS : Option Addr) (cS : Nat) (sums : List Int) (a a2 : Addr) (w : World) (H : Asked hd ks A1 A2 A3 A4 c1 c2 c3 c4 AD dr AS sums a a2 w) (hg : goodPl sums.length (.mk hd ks) all dr = true) :
    Calls Tryz.prog 5 #[.agg (plC hd ks.length A1 A2 A3 A4 c1 c2 c3 c4 all AD dr.length cD), .agg #[.int .i64 docs, .slice AS sums.length cS]] w fun e w' => e = .returned (.bool true) ∧ Below w.heap.size w w' := by
  obtain ⟨PB, hPB⟩ : ∃ b, b = w.heap.size := ⟨_, rfl⟩
  obtain ⟨SB, hSB⟩ : ∃ b, b = w.heap.size + 1 := ⟨_, rfl⟩
  obtain ⟨PC, hPC⟩ : ∃ C, C = plC hd ks.length A1 A2 A3 A4 c1 c2 c3 c4 all AD dr.length cD := ⟨_, rfl⟩
  obtain ⟨W1, hW1⟩ : ∃ W, W = w.alloc (.cells PC 32) := ⟨_, rfl⟩
  obtain ⟨W2, hW2⟩ : ∃ W, W = W1.alloc (.cells #[.int .i64 docs, .slice AS sums.length cS] 34) := ⟨_, rfl⟩
  have s1 : W1.heap.size = w.heap.size + 1 := by rw [hW1]; simp
  have b2 : Below w.heap.size w W2 := by rw [hW2, hW1]; exact Base.bel
  have KP : Blk W2 PB 32 PC := by
    have k1 : Blk W1 w.heap.size 32 PC := by rw [hW1]; exact Blk.new w _ _
    rw [hW2, hPB]
    exact k1.alloc _
  have KS : Blk W2 SB 34 #[.int .i64 docs, .slice AS sums.length cS] := by rw [hW2, hSB, ← s1]; exact Blk.new W1 _ _
  have H2 := asked_below H b2
  have LV := Lib.hid (lives_any a a2 W2 H2.tab H2.tabLt H2.node H2.nodeLt H2.code H2.codeLt)
  have FW := Lib.hid (show ∀ W, Below w.heap.size w W → _ from fun W hb => by
    have := few_plan hd ks A1 A2 A3 A4 c1 c2 c3 c4 all AD dr.length cD docs AS sums.length cS W (asked_below H hb).q
    unfold plC at this
    exact this)
  have RGW := Lib.hid (show ∀ W, Below w.heap.size w W → _ from fun W hb => by
    have h := asked_below H hb
    have := rgoodPl_any hd ks A1 A2 A3 A4 c1 c2 c3 c4 all AD cD dr sums.length W h.q h.drv (by have := h.len; omega)
    rw [hg] at this
    unfold plC at this
    exact this)
  have EE : ∀ wx : World, (binOp .eql 42 (.iface 222 (.pointer (some a))) (.iface 222 (.pointer (some a)))).run Tryz.prog wx = .ok (.bool true) wx := fun wx => by
    obtain ⟨i, hi, hc⟩ := info_comp
    obtain ⟨j, hj⟩ := info_str
    exact run_eql_iface_ptr_same wx a Tryz.underlying42 Tryz.underlying222 hi hc hj
  have HH := Lib.hid H
  have HPC := Lib.hid hPC
  have HKP := Lib.hid KP
  have HKS := Lib.hid KS
  have HB2 := Lib.hid b2
  have hnl := H.nodeLt
  have hPBl : PB < W2.heap.size := KP.lt
  unfold plC at hPC
  rw [hPC] at hW1
  have HW1 := Lib.hid hW1
  have HW2 := Lib.hid hW2
  have HPB := Lib.hid hPB
  have HSB := Lib.hid hSB
  clear hPC hW1 hW2 hPB hSB s1 b2 KP KS H H2
  have PGX := Lib.hid (show ∀ W, Below w.heap.size w W → _ from fun W hb => by
    have := program_good hd ks A1 A2 A3 A4 c1 c2 c3 c4 all AD cD dr docs AS cS sums a a2 W (asked_below HH.out hb) hg
    unfold plC at this
    exact this)
  have hsz := HH.out.size
  have SZW := Lib.hid (show ∀ W, Below w.heap.size w W → _ from fun W hb => by
    have h := asked_below HH.out hb
    have := refSize_any (.mk hd ks) (qcells hd ks.length A1 A2 A3 A4 c1 c2 c3 c4).toList W.heap.size W h.q (Nat.le_refl _)
    rw [Array.toArray_toList, show wrap64 (((Qry.mk hd ks).size : Nat) : Int) = (((Qry.mk hd ks).size : Nat) : Int) by unfold wrap64; omega] at this
    unfold qcells at this
    exact this)
  have HGD := show good (sums.length : Int) true (.mk hd ks) = true by
    unfold goodPl at hg
    simp only [Bool.and_eq_true] at hg
    exact hg.1.1.1.2
  have PPS := Lib.hid (fun C h1 h2 => prog_passes (.mk hd ks) all dr C (sums.map (avgOf docs)) (by rw [List.length_map]; exact hg) h1 h2 (goodQ _ HH.out.short HGD) (wfQ HH.out.q) hsz HH.out.len (fun x hx => by obtain ⟨y, _, rfl⟩ := List.mem_map.1 hx; exact avg_pos _ _))
  obtain ⟨sz, hsze⟩ : ∃ s, s = (Qry.mk hd ks).size := ⟨_, rfl⟩
  rw [← hsze] at SZW PPS hsz
  clear hg HGD hsze EE
  unfold plC
  go_enter Tryz.func5, Tryz.ntmps5
  refine cast_code (c := .seq ?r0 (.seq ?r1 (.seq ?p2 (.seq ?r4 (tailQ 5))))) ?e ?_
  case e => exact rfl
  go_upto_region 1 with fail
  rw [← HSB.out, ← HPB.out, ← HW1.out, ← HW2.out]
  go_upto_region 2 with (go_at_call 6; (with_reducible refine LV.out.mono ?_); rintro e w3 ⟨rfl, hb3⟩; have HB3 := Lib.hid hb3; clear hb3)
  have bw3 : Below w.heap.size w w3 := HB2.out.trans (HB3.out.mono HB2.out.size)
  have F3 := Lib.hid (FW.out w3 bw3)
  have KP3 := HKP.out.below HB3.out HKP.out.lt
  have KS3 := HKS.out.below HB3.out HKS.out.lt
  have KPP := KP3
  rw [HPC.out] at KPP
  unfold plC at KPP
  obtain ⟨y0, y1, y2, y3, y4, y5, y6, y7, y8, y9, y10, y11, y12, y13, y14, y15, y16⟩ := plcs KPP
  have z0 : w3.cell? ⟨SB, 0, none⟩ = some (.int .i64 docs) := KS3.cell 0
  have z1 : w3.cell? ⟨SB, 1, none⟩ = some (.slice AS sums.length cS) := KS3.cell 1
  have HBW3 := Lib.hid bw3
  have HKP3 := Lib.hid KP3
  have HKS3 := Lib.hid KS3
  clear KPP KP3 KS3 bw3
  go_wp2_with (first | (go_at_call 7; (with_reducible refine F3.out.mono ?_); rintro e w4 ⟨⟨b, rfl⟩, hb4⟩; have HB4 := Lib.hid hb4; have bw4 : Below w.heap.size w w4 := HBW3.out.trans (hb4.mono HBW3.out.size); have PB4 := Lib.hid (PGX.out w4 bw4); have HBW4 := Lib.hid bw4; have KPP := HKP3.out.below hb4 HKP3.out.lt; have HKP4 := Lib.hid KPP; rw [HPC.out] at KPP; unfold plC at KPP; obtain ⟨q0, q1, q2, q3, q4, q5, q6, q7, q8, q9, q10, q11, q12, q13, q14, q15, q16⟩ := plcs KPP; have HKS4 := Lib.hid (HKS3.out.below hb4 HKS3.out.lt); have v0 : w4.cell? ⟨SB, 0, none⟩ = some (.int .i64 docs) := HKS4.out.cell 0; have v1 : w4.cell? ⟨SB, 1, none⟩ = some (.slice AS sums.length cS) := HKS4.out.cell 1; clear hb4 bw4 KPP; cases b) | (go_at_call 8; (with_reducible refine PB4.out.mono ?_); rintro e w5 ⟨AA, cA, AC, cC, AN, cN, AV, cV, AK, C, nc, rfl, hC1, hC2, hsA, hsC, hsV, hsK, hown, hrs, hb5⟩; have bw5 : Below w.heap.size w w5 := HBW4.out.trans (hb5.mono HBW4.out.size); have H5 := asked_below HH.out bw5; have PP := PPS.out C hC1 hC2 AA AC AN AV AK cA cC cN cV (Encode.enc (codeOf C (.mk hd ks))).length _ nc w5 hsA hsC hsV hsK hown hrs H5.tab H5.tabLt; unfold prC at PP; obtain ⟨nA, hnA⟩ : ∃ n, n = (sums.map (avgOf docs)).length := ⟨_, rfl⟩; obtain ⟨nN, hnN⟩ : ∃ n, n = (nearsOf C (.mk hd ks)).length := ⟨_, rfl⟩; obtain ⟨nK, hnK⟩ : ∃ n, n = (Encode.enc (codeOf C (.mk hd ks))).length := ⟨_, rfl⟩; obtain ⟨nD, hnD⟩ : ∃ n, n = (driveL (numOf C) dr).length := ⟨_, rfl⟩; unfold DecR at PP; obtain ⟨nL, hnL⟩ : ∃ n, n = (codeOf C (.mk hd ks)).length := ⟨_, rfl⟩; obtain ⟨nC, hnC⟩ : ∃ n, n = C.length := ⟨_, rfl⟩; rw [← hnA, ← hnN, ← hnK, ← hnD, ← hnL, ← hnC] at PP; rw [← hnA, ← hnN, ← hnK, ← hnD, ← hnC]; obtain ⟨hcl, hpp⟩ := PP; have HPP := Lib.hid hpp; have HB5 := Lib.hid hb5; clear hnA hnN hnK hnD hnL hnC hpp hC1 hC2 hsA hsC hsV hsK hown hrs hb5 bw5 H5) | go_in)
  · go_ret
    exact ⟨rfl, HBW3.out.trans (HB4.out.mono HBW3.out.size)⟩
  · obtain ⟨W6, hW6⟩ : ∃ V, V = w5.alloc (.cells #[.slice AA nA cA, .slice AC nC cC, .slice AN nN cN, .bool all, .slice AV nD cV, .slice AK nK nK] 40) := ⟨_, rfl⟩
    have b6 : Below w5.heap.size w5 W6 := by rw [hW6]; exact Base.bel
    have b46 : Below w4.heap.size w4 W6 := bchain HB5.out b6
    have bw6 : Below w.heap.size w W6 := HBW4.out.trans (b46.mono HBW4.out.size)
    have KP6 := HKP4.out.below b46 HKP4.out.lt
    rw [HPC.out] at KP6
    unfold plC at KP6
    have KS6 := HKS4.out.below b46 HKS4.out.lt
    have KR6 : Blk W6 w5.heap.size 40 #[.slice AA nA cA, .slice AC nC cC, .slice AN nN cN, .bool all, .slice AV nD cV, .slice AK nK nK] := by rw [hW6]; exact Blk.new _ _ _
    rw [← hW6]
    exact g5 hd ks A1 A2 A3 A4 c1 c2 c3 c4 all AD cD dr docs AS cS sums AA AC AN AV AK nA nC nN nD nK cA cC cN cV nL sz PB SB w5.heap.size w W6 (Lib.hid KP6) (Lib.hid KS6) (Lib.hid bw6) (Lib.hid KR6) (Lib.hid (RGW.out W6 bw6)) (Lib.hid fun W hW => (HPP.out W (bchain b6 hW)).1) (Lib.hid fun W hW => ((HPP.out W (bchain b6 hW)).2).mono fun e w' ⟨A, c, e1, _, h⟩ => ⟨A, c, e1, h⟩) (Lib.hid fun W hW => SZW.out W (bw6.trans (hW.mono bw6.size))) hcl hsz _ _ _ _ _ _ _ _ _ _ _ _ _ _ _ _ _ _ _ _ _ _ _ _ _ _ _ _ _ _ _ _ _ _ _ _ _ _ _ _ _ _ _ _ _ _ _ _ _ _ _ _ _ _ _ _ _ _ _ _ _ _ _ _ _ _ _ _ _ _ _ _ _ _ _
end Go.Proofs.YtfpikilhbkeajaaGreatDoor.PassesGood
