/-
  The walk of concordlaw22.CompilePasses, a plan that is not good.
-/
import Derived.Test.YtfpikilhbkeajaaGreatDoorCAskP
set_option linter.unusedVariables false
set_option linter.unusedSimpArgs false
namespace Go.Proofs.YtfpikilhbkeajaaGreatDoor.PassesBad
set_option maxRecDepth 100000
open Go.RowKit Go.PlainAid Base Query QrySize EmitPlain EmitBase EmitQ0 LeafMap AllLeaves EmitExt TabPlain TextPlain GoodLoc GoodPl LawTerms EmitNear HitBase NewMid ProgTail ProgGood ProgBad LawLives Avg Args Encode _root_.Go.Proofs.YtfpikilhbkeajaaGreatDoor.Decode CodePlain RefGoodPl PassesAsk

noncomputable def tailQ (k : Nat) : Code := ((Tryz.f5.body).bind (fromR k)).getD .skip
set_option maxHeartbeats 8000000 in
theorem b5 (hd : Head) (ks : List Qry) (A1 A2 A3 A4 : Option Addr) (c1 c2 c3 c4 : Nat) (all : Bool) (AD : Option Addr) (cD : Nat) (dr : List Lf) (docs : Int) (AS : Option Addr) (cS : Nat) (sums : List Int) (a : Addr) (PB SB PR : Nat) (w W6 : World) (HKP : Hid (Blk W6 PB 32 #[.int .i64 hd.kind, .int .i64 hd.field, .string hd.text, .slice A1 hd.terms.length c1, .slice A2 hd.offs.length c2, .int .i64 hd.n, .int .u64 hd.weight, .bool hd.lo.op, .bool hd.lo.inn, .string hd.lo.text, .bool hd.hi.op, .bool hd.hi.inn, .string hd.hi.text, .slice A3 hd.occur.length c3, .slice A4 ks.length c4, .bool all, .slice AD dr.length cD])) (HKS : Hid (Blk W6 SB 34 #[.int .i64 docs, .slice AS sums.length cS])) (HB : Hid (Below w.heap.size w W6)) (RG6 : Hid (Calls Tryz.prog 15 #[.agg #[.int .i64 hd.kind, .int .i64 hd.field, .string hd.text, .slice A1 hd.terms.length c1, .slice A2 hd.offs.length c2, .int .i64 hd.n, .int .u64 hd.weight, .bool hd.lo.op, .bool hd.lo.inn, .string hd.lo.text, .bool hd.hi.op, .bool hd.hi.inn, .string hd.hi.text, .slice A3 hd.occur.length c3, .slice A4 ks.length c4, .bool all, .slice AD dr.length cD], .int .i64 (sums.length : Int)] W6 fun e w' => e = .returned (.bool false) ∧ Below W6.heap.size W6 w')) (hnl : 0 < w.heap.size) (HN : Hid (w.cell? ⟨0, 0, none⟩ = some (.iface 222 (.pointer (some a))))) (u0 u1 u4 u5 u8 u9 u10 u11 u12 u13 u14 u15 u16 u17 u18 u19 u20 u21 u22 u23 u24 u25 u26 u27 u28 u29 u30 u31 u32 u33 u34 u35 u36 u37 u38 u39 u40 u41 u42 u43 u44 u45 u46 u47 u48 u49 u50 u51 u52 u53 u54 u55 u56 u57 u58 u59 u60 u61 u62 u63 u64 u65 u66 u67 u68 u69 u70 u71 u72 u73 u74 u75 u76 u77 u78 : Value) :
    Code.wp Tryz.prog (tailQ 5) (bodyPost Tryz.prog Tryz.f5 (fun e w' => e = .returned (.bool true) ∧ Below w.heap.size w w')) ⟨#[u0, u1, .pointer (some ⟨PB, 0, none⟩), .pointer (some ⟨SB, 0, none⟩), u4, u5, .pointer (some ⟨PR, 0, none⟩), .iface 222 (.pointer (some a)), u8, u9, u10, u11, u12, u13, u14, u15, u16, u17, u18, u19, u20, u21, u22, u23, u24, u25, u26, u27, u28, u29, u30, u31, u32, u33, u34, u35, u36, u37, u38, u39, u40, u41, u42, u43, u44, u45, u46, u47, u48, u49, u50, u51, u52, u53, u54, u55, u56, u57, u58, u59, u60, u61, u62, u63, u64, u65, u66, u67, u68, u69, u70, u71, u72, u73, u74, u75, u76, u77, u78], []⟩ W6 := by
  have EE : ∀ wx : World, (binOp .eql 42 (.iface 222 (.pointer (some a))) (.iface 222 (.pointer (some a)))).run Tryz.prog wx = .ok (.bool true) wx := fun wx => by
    obtain ⟨i, hi, hc⟩ := info_comp
    obtain ⟨j, hj⟩ := info_str
    exact run_eql_iface_ptr_same wx a Tryz.underlying42 Tryz.underlying222 hi hc hj
  obtain ⟨p0, p1, p2, p3, p4, p5, p6, p7, p8, p9, p10, p11, p12, p13, p14, p15, p16⟩ := plcs HKP.out
  have s1 : W6.cell? ⟨SB, 1, none⟩ = some (.slice AS sums.length cS) := HKS.out.cell 1
  unfold tailQ
  conv => arg 2; whnf
  go_wp2_with (go_at_call 15; (with_reducible refine RG6.out.mono ?_); rintro e w7 ⟨rfl, hb7⟩; have BW7 := Lib.hid (HB.out.trans (hb7.mono HB.out.size)); have n0 : w7.cell? ⟨0, 0, none⟩ = some (.iface 222 (.pointer (some a))) := (BW7.out.cell (p := ⟨0, 0, none⟩) hnl).trans HN.out; clear hb7)
  go_ret
  exact ⟨rfl, BW7.out⟩

set_option maxHeartbeats 8000000 in
theorem walk_bad (hd : Head) (ks : List Qry) (A1 A2 A3 A4 : Option Addr) (c1 c2 c3 c4 : Nat) (all : Bool) (AD : Option Addr) (cD : Nat) (dr : List Lf) (docs : Int) (AS : Option Addr) (cS : Nat) (sums : List Int) (a a2 : Addr) (w : World) (H : Asked hd ks A1 A2 A3 A4 c1 c2 c3 c4 AD dr AS sums a a2 w) (hg : goodPl sums.length (.mk hd ks) all dr = false) :
    Calls Tryz.prog 5 #[.agg (plC hd ks.length A1 A2 A3 A4 c1 c2 c3 c4 all AD dr.length cD), .agg #[.int .i64 docs, .slice AS sums.length cS]] w fun e w' => e = .returned (.bool true) ∧ Below w.heap.size w w' := by
  obtain ⟨PB, hPB⟩ : ∃ b, b = w.heap.size := ⟨_, rfl⟩
  obtain ⟨SB, hSB⟩ : ∃ b, b = w.heap.size + 1 := ⟨_, rfl⟩
  obtain ⟨PC, hPC⟩ : ∃ C, C = plC hd ks.length A1 A2 A3 A4 c1 c2 c3 c4 all AD dr.length cD := ⟨_, rfl⟩
  obtain ⟨W1, hW1⟩ : ∃ W, W = w.alloc (.cells PC 32) := ⟨_, rfl⟩
  obtain ⟨W2, hW2⟩ : ∃ W, W = W1.alloc (.cells #[.int .i64 docs, .slice AS sums.length cS] 34) := ⟨_, rfl⟩
  have s1 : W1.heap.size = w.heap.size + 1 := by rw [hW1]; simp
  have b2 : Below w.heap.size w W2 := by rw [hW2, hW1]; exact Base.bel
  have KP : Blk W2 PB 32 PC := by
    have k1 : Blk W1 w.heap.size 32 PC := by rw [hW1]; exact Blk.new w _ _
    rw [hW2, hPB]
    exact k1.alloc _
  have KS : Blk W2 SB 34 #[.int .i64 docs, .slice AS sums.length cS] := by rw [hW2, hSB, ← s1]; exact Blk.new W1 _ _
  have H2 := asked_below H b2
  have LV := Lib.hid (lives_any a a2 W2 H2.tab H2.tabLt H2.node H2.nodeLt H2.code H2.codeLt)
  have FW := Lib.hid (show ∀ W, Below w.heap.size w W → _ from fun W hb => by
    have := few_plan hd ks A1 A2 A3 A4 c1 c2 c3 c4 all AD dr.length cD docs AS sums.length cS W (asked_below H hb).q
    unfold plC at this
    exact this)
  have RGW := Lib.hid (show ∀ W, Below w.heap.size w W → _ from fun W hb => by
    have h := asked_below H hb
    have := rgoodPl_any hd ks A1 A2 A3 A4 c1 c2 c3 c4 all AD cD dr sums.length W h.q h.drv (by have := h.len; omega)
    rw [hg] at this
    unfold plC at this
    exact this)
  have EE : ∀ wx : World, (binOp .eql 42 (.iface 222 (.pointer (some a))) (.iface 222 (.pointer (some a)))).run Tryz.prog wx = .ok (.bool true) wx := fun wx => by
    obtain ⟨i, hi, hc⟩ := info_comp
    obtain ⟨j, hj⟩ := info_str
    exact run_eql_iface_ptr_same wx a Tryz.underlying42 Tryz.underlying222 hi hc hj
  have HH := Lib.hid H
  have HPC := Lib.hid hPC
  have HKP := Lib.hid KP
  have HKS := Lib.hid KS
  have HB2 := Lib.hid b2
  have hnl := H.nodeLt
  have hPBl : PB < W2.heap.size := KP.lt
  unfold plC at hPC
  rw [hPC] at hW1
  have HW1 := Lib.hid hW1
  have HW2 := Lib.hid hW2
  have HPB := Lib.hid hPB
  have HSB := Lib.hid hSB
  clear hPC hW1 hW2 hPB hSB s1 b2 KP KS H H2
  have PGX := Lib.hid (show ∀ W, Below w.heap.size w W → _ from fun W hb => by
    have := program_bad hd ks A1 A2 A3 A4 c1 c2 c3 c4 all AD cD dr docs AS cS sums a a2 W (asked_below HH.out hb) hg
    unfold plC errV prog0 at this
    exact this)
  clear hg EE
  unfold plC
  go_enter Tryz.func5, Tryz.ntmps5
  refine cast_code (c := .seq ?r0 (.seq ?r1 (.seq ?p2 (.seq ?r4 (tailQ 5))))) ?e ?_
  case e => exact rfl
  go_upto_region 1 with fail
  rw [← HSB.out, ← HPB.out, ← HW1.out, ← HW2.out]
  go_upto_region 2 with (go_at_call 6; (with_reducible refine LV.out.mono ?_); rintro e w3 ⟨rfl, hb3⟩; have HB3 := Lib.hid hb3; clear hb3)
  have bw3 : Below w.heap.size w w3 := HB2.out.trans (HB3.out.mono HB2.out.size)
  have F3 := Lib.hid (FW.out w3 bw3)
  have KP3 := HKP.out.below HB3.out HKP.out.lt
  have KS3 := HKS.out.below HB3.out HKS.out.lt
  have KPP := KP3
  rw [HPC.out] at KPP
  unfold plC at KPP
  obtain ⟨y0, y1, y2, y3, y4, y5, y6, y7, y8, y9, y10, y11, y12, y13, y14, y15, y16⟩ := plcs KPP
  have z0 : w3.cell? ⟨SB, 0, none⟩ = some (.int .i64 docs) := KS3.cell 0
  have z1 : w3.cell? ⟨SB, 1, none⟩ = some (.slice AS sums.length cS) := KS3.cell 1
  have HBW3 := Lib.hid bw3
  have HKP3 := Lib.hid KP3
  have HKS3 := Lib.hid KS3
  clear KPP KP3 KS3 bw3
  go_wp2_with (first | (go_at_call 7; (with_reducible refine F3.out.mono ?_); rintro e w4 ⟨⟨b, rfl⟩, hb4⟩; have HB4 := Lib.hid hb4; have bw4 : Below w.heap.size w w4 := HBW3.out.trans (hb4.mono HBW3.out.size); have PB4 := Lib.hid (PGX.out w4 bw4); have HBW4 := Lib.hid bw4; have KPP := HKP3.out.below hb4 HKP3.out.lt; have HKP4 := Lib.hid KPP; rw [HPC.out] at KPP; unfold plC at KPP; obtain ⟨q0, q1, q2, q3, q4, q5, q6, q7, q8, q9, q10, q11, q12, q13, q14, q15, q16⟩ := plcs KPP; have HKS4 := Lib.hid (HKS3.out.below hb4 HKS3.out.lt); have v0 : w4.cell? ⟨SB, 0, none⟩ = some (.int .i64 docs) := HKS4.out.cell 0; have v1 : w4.cell? ⟨SB, 1, none⟩ = some (.slice AS sums.length cS) := HKS4.out.cell 1; clear hb4 bw4 KPP; cases b) | (go_at_call 8; (with_reducible refine PB4.out.mono ?_); rintro e w5 ⟨rfl, hb5⟩; have HB5 := Lib.hid hb5; clear hb5) | go_in)
  · go_ret
    exact ⟨rfl, HBW3.out.trans (HB4.out.mono HBW3.out.size)⟩
  · obtain ⟨W6, hW6⟩ : ∃ V, V = w5.alloc (.cells #[.slice none 0 0, .slice none 0 0, .slice none 0 0, .bool false, .slice none 0 0, .slice none 0 0] 40) := ⟨_, rfl⟩
    have b6 : Below w5.heap.size w5 W6 := by rw [hW6]; exact Base.bel
    have b46 : Below w4.heap.size w4 W6 := bchain HB5.out b6
    have bw6 : Below w.heap.size w W6 := HBW4.out.trans (b46.mono HBW4.out.size)
    have KP6 := HKP4.out.below b46 HKP4.out.lt
    rw [HPC.out] at KP6
    unfold plC at KP6
    have KS6 := HKS4.out.below b46 HKS4.out.lt
    rw [← hW6]
    exact b5 hd ks A1 A2 A3 A4 c1 c2 c3 c4 all AD cD dr docs AS cS sums a PB SB w5.heap.size w W6 (Lib.hid KP6) (Lib.hid KS6) (Lib.hid bw6) (Lib.hid (RGW.out W6 bw6)) hnl (Lib.hid HH.out.node) _ _ _ _ _ _ _ _ _ _ _ _ _ _ _ _ _ _ _ _ _ _ _ _ _ _ _ _ _ _ _ _ _ _ _ _ _ _ _ _ _ _ _ _ _ _ _ _ _ _ _ _ _ _ _ _ _ _ _ _ _ _ _ _ _ _ _ _ _ _ _ _ _ _ _
end Go.Proofs.YtfpikilhbkeajaaGreatDoor.PassesBad
