/-
  The walk of concordlaw16.BindFolds from region 11 on: over a number.
-/
import Derived.Test.YtkcfgcdlnojaeaaGreatDoorFoldsEarly
import Derived.Test.YtkcfgcdlnojaeaaGreatDoorDNums
set_option linter.unusedVariables false
set_option linter.unusedSimpArgs false
namespace Go.Proofs.YtkcfgcdlnojaeaaGreatDoor.FoldsNum
set_option maxRecDepth 100000
open Go.RowKit Go.PlainAid Base Query BindBase NodeTerm NodeTree NodePlain NodeOwn FoldPlain FoldWalk Binder WordPlain WordsWalk StopsWalk OfText OfAny WordsOne NumPlain OpenField FieldPlain GoodName SchemaCheck WordsAny WordsMany SchFind LeafBase FoldLeaf WildBind SpanBind LitWalk TreePlain BindTop FoldsPlain FoldBind LivesBind Rel Relb RelE FoldsEarly
theorem num_bd (s : ByteArray) : least ≤ (parseN s).getD 0 ∧ (parseN s).getD 0 ≤ 9223372036854775807 := by
  cases h : parseN s with
  | none => exact ⟨by show least ≤ 0; unfold least; omega, by show (0 : Int) ≤ _; omega⟩
  | some v => exact parse_bd h
/-! The code from a region on, within an if. -/
def fromC (k : Nat) : Code → Option Code
  | .seq a c => match a with
    | .region r _ _ => if r = k then some (.seq a c) else fromC k c
    | a => match fromC k a with
      | some x => some x
      | none => fromC k c
  | .scope c => fromC k c
  | .block _ c => fromC k c
  | .cond _ a b => match fromC k a with
    | some x => some x
    | none => fromC k b
  | _ => none
noncomputable def tailD (k : Nat) : Code := ((Tryz.f8.body).bind (fromC k)).getD .skip
set_option maxHeartbeats 8000000 in
theorem last {u0 u1 u2 u3 u4 u5 u6 u7 u8 u9 u10 u11 u12 u14 u16 u18 u20 u22 u23 u24 u25 u27 u28 u29 u30 u31 u32 u33 u34 u35 u36 u37 u38 u39 u40 u41 u42 u43 u44 u45 u46 u47 u48 u49 u50 u51 u52 u53 u54 u55 u56 u57 u58 u59 u60 u61 u62 u63 u64 u65 u66 u67 u68 u69 u70 u71 u72 u73 u74 u75 u76 u77 u78 u79 u80 u81 u82 u83 u84 u85 u86 u87 u88 u89 u90 u91 u92 u93 u94 u95 u96 u97 u98 u99 u100 u101 u102 u103 u104 u105 u106 u107 u108 u109 u110 u111 u112 u113 u114 u115 u116 u117 u118 u119 u120 u121 u122 u123 u124 u125 u126 u127 u128 u129 u130 u131 u132 u133 u134 u135 u136 u137 u138 u139 u140 u141 u142 u143 u144 u145 u146 u147 u148 u149 u150 u151 u152 u153 u154 u155 u156 u157 u158 u159 u160 u161 u162 u163 u164 u165 u166 u167 u168 u169 u170 u171 u172 u173 u174 u175 u176 u177 u178 u179 u180 u181 u182 u183 u184 u185 u186 u187 u188 u189 u190 u191 u192 u193 u194 u195 u196 u197 u198 u199 u200 u201 u202 u203 u204 u205 u206 u207 u208 u209 u210 u211 u212 u213 u214 : Value} {w V : World} {gp gz gx gr gn gs : Nat} {po0 po1 po2 po3 po4 po5 po6 po7 po8 po9 po10 po11 po12 po13 po14 zo0 zo1 zo2 zo3 zo4 zo5 zo6 zo7 zo8 zo9 zo10 zo11 zo12 zo13 zo14 xo0 xo1 xo2 xo3 xo4 xo5 xo6 xo7 xo8 xo9 xo10 xo11 xo12 xo13 xo14 ro0 ro1 ro2 ro3 ro4 ro5 ro6 ro7 ro8 ro9 ro10 ro11 ro12 ro13 ro14 so0 so1 so2 so3 so4 so5 so6 so7 so8 so9 so10 so11 so12 so13 so14 : Value} (K : Act → World → Prop) (hVX : Below w.heap.size w V) (KP : Blk V gp 29 #[po0, po1, po2, po3, po4, po5, po6, po7, po8, po9, po10, po11, po12, po13, po14]) (KZ : Blk V gz 29 #[zo0, zo1, zo2, zo3, zo4, zo5, zo6, zo7, zo8, zo9, zo10, zo11, zo12, zo13, zo14]) (KX : Blk V gx 29 #[xo0, xo1, xo2, xo3, xo4, xo5, xo6, xo7, xo8, xo9, xo10, xo11, xo12, xo13, xo14]) (KR : Blk V gr 29 #[ro0, ro1, ro2, ro3, ro4, ro5, ro6, ro7, ro8, ro9, ro10, ro11, ro12, ro13, ro14]) (KN : Blk V gn 29 #[.int .i64 1, .int .i64 0, .string ⟨#[]⟩, .slice none 0 0, .slice none 0 0, .int .i64 0, .int .u64 0, .bool false, .bool false, .string ⟨#[]⟩, .bool false, .bool false, .string ⟨#[]⟩, .slice none 0 0, .slice none 0 0]) (KSX : Blk V gs 29 #[so0, so1, so2, so3, so4, so5, so6, so7, so8, so9, so10, so11, so12, so13, so14])
    (SP : Calls Tryz.prog 33 #[.agg #[po0, po1, po2, po3, po4, po5, po6, po7, po8, po9, po10, po11, po12, po13, po14], .agg #[.int .i64 1, .int .i64 0, .string ⟨#[]⟩, .slice none 0 0, .slice none 0 0, .int .i64 0, .int .u64 0, .bool false, .bool false, .string ⟨#[]⟩, .bool false, .bool false, .string ⟨#[]⟩, .slice none 0 0, .slice none 0 0]] V fun e w' => e = .returned (.bool true) ∧ Below V.heap.size V w') (SZ : ∀ W, Below V.heap.size V W → Calls Tryz.prog 33 #[.agg #[zo0, zo1, zo2, zo3, zo4, zo5, zo6, zo7, zo8, zo9, zo10, zo11, zo12, zo13, zo14], .agg #[.int .i64 1, .int .i64 0, .string ⟨#[]⟩, .slice none 0 0, .slice none 0 0, .int .i64 0, .int .u64 0, .bool false, .bool false, .string ⟨#[]⟩, .bool false, .bool false, .string ⟨#[]⟩, .slice none 0 0, .slice none 0 0]] W (fun e w' => e = .returned (.bool true) ∧ Below W.heap.size W w')) (SX : ∀ W, Below V.heap.size V W → Calls Tryz.prog 33 #[.agg #[xo0, xo1, xo2, xo3, xo4, xo5, xo6, xo7, xo8, xo9, xo10, xo11, xo12, xo13, xo14], .agg #[.int .i64 1, .int .i64 0, .string ⟨#[]⟩, .slice none 0 0, .slice none 0 0, .int .i64 0, .int .u64 0, .bool false, .bool false, .string ⟨#[]⟩, .bool false, .bool false, .string ⟨#[]⟩, .slice none 0 0, .slice none 0 0]] W (fun e w' => e = .returned (.bool true) ∧ Below W.heap.size W w')) (SR : ∀ W, Below V.heap.size V W → Calls Tryz.prog 33 #[.agg #[ro0, ro1, ro2, ro3, ro4, ro5, ro6, ro7, ro8, ro9, ro10, ro11, ro12, ro13, ro14], .agg #[so0, so1, so2, so3, so4, so5, so6, so7, so8, so9, so10, so11, so12, so13, so14]] W (fun e w' => e = .returned (.bool true) ∧ Below W.heap.size W w')) :
    Code.wp Tryz.prog (tailD 21) (Exit.then K (bodyPost Tryz.prog Tryz.f8 fun e w' => e = .returned (.bool true) ∧ Below w.heap.size w w')) ⟨#[u0, u1, u2, u3, u4, u5, u6, u7, u8, u9, u10, u11, u12, .pointer (some ⟨gp, 0, none⟩), u14, .pointer (some ⟨gz, 0, none⟩), u16, .pointer (some ⟨gx, 0, none⟩), u18, .pointer (some ⟨gr, 0, none⟩), u20, .pointer (some ⟨gn, 0, none⟩), u22, u23, u24, u25, .pointer (some ⟨gs, 0, none⟩), u27, u28, u29, u30, u31, u32, u33, u34, u35, u36, u37, u38, u39, u40, u41, u42, u43, u44, u45, u46, u47, u48, u49, u50, u51, u52, u53, u54, u55, u56, u57, u58, u59, u60, u61, u62, u63, u64, u65, u66, u67, u68, u69, u70, u71, u72, u73, u74, u75, u76, u77, u78, u79, u80, u81, u82, u83, u84, u85, u86, u87, u88, u89, u90, u91, u92, u93, u94, u95, u96, u97, u98, u99, u100, u101, u102, u103, u104, u105, u106, u107, u108, u109, u110, u111, u112, u113, u114, u115, u116, u117, u118, u119, u120, u121, u122, u123, u124, u125, u126, u127, u128, u129, u130, u131, u132, u133, u134, u135, u136, u137, u138, u139, u140, u141, u142, u143, u144, u145, u146, u147, u148, u149, u150, u151, u152, u153, u154, u155, u156, u157, u158, u159, u160, u161, u162, u163, u164, u165, u166, u167, u168, u169, u170, u171, u172, u173, u174, u175, u176, u177, u178, u179, u180, u181, u182, u183, u184, u185, u186, u187, u188, u189, u190, u191, u192, u193, u194, u195, u196, u197, u198, u199, u200, u201, u202, u203, u204, u205, u206, u207, u208, u209, u210, u211, u212, u213, u214], []⟩ V := by
  unfold tailD
  conv => arg 2; whnf
  have SP := Lib.hid SP
  have SZ := Lib.hid SZ
  have SX := Lib.hid SX
  have SR := Lib.hid SR
  obtain ⟨z0, z1, z2, z3, z4, z5, z6, z7, z8, z9, z10, z11, z12, z13, z14⟩ := qrow KP
  obtain ⟨y0, y1, y2, y3, y4, y5, y6, y7, y8, y9, y10, y11, y12, y13, y14⟩ := qrow KN
  go_wp2_with (first | (go_at_call 33; (with_reducible refine SP.out.mono ?_); rintro e wa ⟨rfl, hwa⟩; have KZ2 := KZ.below hwa KZ.lt; have KNa := KN.below hwa KN.lt; clear z0 z1 z2 z3 z4 z5 z6 z7 z8 z9 z10 z11 z12 z13 z14 y0 y1 y2 y3 y4 y5 y6 y7 y8 y9 y10 y11 y12 y13 y14; obtain ⟨z0, z1, z2, z3, z4, z5, z6, z7, z8, z9, z10, z11, z12, z13, z14⟩ := qrow KZ2; obtain ⟨y0, y1, y2, y3, y4, y5, y6, y7, y8, y9, y10, y11, y12, y13, y14⟩ := qrow KNa) | (go_at_call 33; (with_reducible refine (SZ.out _ hwa).mono ?_); rintro e wb ⟨rfl, hwb⟩; have hwc2 := bchain hwa hwb; have KX2 := KX.below hwc2 KX.lt; have KNb := KN.below hwc2 KN.lt; clear z0 z1 z2 z3 z4 z5 z6 z7 z8 z9 z10 z11 z12 z13 z14 y0 y1 y2 y3 y4 y5 y6 y7 y8 y9 y10 y11 y12 y13 y14; obtain ⟨z0, z1, z2, z3, z4, z5, z6, z7, z8, z9, z10, z11, z12, z13, z14⟩ := qrow KX2; obtain ⟨y0, y1, y2, y3, y4, y5, y6, y7, y8, y9, y10, y11, y12, y13, y14⟩ := qrow KNb) | (go_at_call 33; (with_reducible refine (SX.out _ hwc2).mono ?_); rintro e we ⟨rfl, hwe⟩; have hwc3 := bchain hwc2 hwe; have KR2 := KR.below hwc3 KR.lt; have KSb := KSX.below hwc3 KSX.lt; clear z0 z1 z2 z3 z4 z5 z6 z7 z8 z9 z10 z11 z12 z13 z14 y0 y1 y2 y3 y4 y5 y6 y7 y8 y9 y10 y11 y12 y13 y14; obtain ⟨z0, z1, z2, z3, z4, z5, z6, z7, z8, z9, z10, z11, z12, z13, z14⟩ := qrow KR2; obtain ⟨y0, y1, y2, y3, y4, y5, y6, y7, y8, y9, y10, y11, y12, y13, y14⟩ := qrow KSb) | (go_at_call 33; (with_reducible refine (SR.out _ hwc3).mono ?_); rintro e wd ⟨rfl, hwd⟩))
  go_ret
  exact ⟨rfl, bchain hVX (bchain hwc3 hwd)⟩
set_option maxHeartbeats 8000000 in
theorem rest {u0 u5 u6 u7 u8 u9 u19 u20 u21 u22 u23 u24 u25 u26 u27 u28 u29 u30 u31 u32 u33 u34 u35 u36 u37 u38 u39 u40 u41 u42 u43 u44 u45 u46 u47 u48 u49 u50 u51 u52 u53 u54 u55 u56 u57 u58 u59 u60 u61 u62 u63 u64 u65 u66 u67 u68 u69 u70 u71 u72 u73 u74 u75 u76 u77 u78 u79 u80 u81 u82 u83 u84 u85 u86 u87 u88 u89 u90 u91 u92 u93 u94 u95 u96 u97 u98 u99 u100 u101 u102 u103 u104 u105 u106 u107 u108 u109 u110 u111 u112 u113 u114 u115 u116 u117 u118 u119 u120 u121 u122 u123 u124 u125 u126 u127 u128 u129 u130 u131 u132 u133 u134 u135 u136 u137 u138 u139 u140 u141 u142 u143 u144 u145 u146 u147 u148 u149 u150 u151 u152 u153 u154 u155 u156 u157 u158 u159 u160 u161 u162 u163 u164 u165 u166 u167 u168 u169 u170 u171 u172 u173 u174 u175 u176 u177 u178 u179 u180 u181 u182 u183 u184 u185 u186 u187 u188 u189 u190 u191 u192 u193 u194 u195 u196 u197 u198 u199 u200 u201 u202 u203 u204 u205 u206 u207 u208 u209 u210 u211 u212 u213 u214 : Value} {w V : World} {fl c fg fo j gf gp gz gx : Nat} {T hi Wt Pt fn : ByteArray} {fb sb mb : Bool} {po0 po1 po2 po3 po4 po5 po6 po7 po8 po9 po10 po11 po12 po13 po14 zo0 zo1 zo2 zo3 zo4 zo5 zo6 zo7 zo8 zo9 zo10 zo11 zo12 zo13 zo14 xo0 xo1 xo2 xo3 xo4 xo5 xo6 xo7 xo8 xo9 xo10 xo11 xo12 xo13 xo14 : Value} {qp qz qx qr : Qry}
    (hB : Below w.heap.size w V) (s0 : V.cell? ⟨w.heap.size, 0, none⟩ = some (.slice (some ⟨fg, fo, none⟩) fl c)) (KF : Blk V gf 67 #[.string fn, .int .i64 3, .bool fb, .bool sb, .bool mb])
    (Kp : Blk V gp 29 #[po0, po1, po2, po3, po4, po5, po6, po7, po8, po9, po10, po11, po12, po13, po14]) (Fp : Fresh 0 V [po0, po1, po2, po3, po4, po5, po6, po7, po8, po9, po10, po11, po12, po13, po14] qp)
    (Kz : Blk V gz 29 #[zo0, zo1, zo2, zo3, zo4, zo5, zo6, zo7, zo8, zo9, zo10, zo11, zo12, zo13, zo14]) (Fz : Fresh 0 V [zo0, zo1, zo2, zo3, zo4, zo5, zo6, zo7, zo8, zo9, zo10, zo11, zo12, zo13, zo14] qz)
    (Kx : Blk V gx 29 #[xo0, xo1, xo2, xo3, xo4, xo5, xo6, xo7, xo8, xo9, xo10, xo11, xo12, xo13, xo14]) (Fx : Fresh 0 V [xo0, xo1, xo2, xo3, xo4, xo5, xo6, xo7, xo8, xo9, xo10, xo11, xo12, xo13, xo14] qx)
    (BR : ∀ W, Below w.heap.size w W → Calls Tryz.prog 16 #[.agg #[.slice (some ⟨fg, fo, none⟩) fl c], .agg #[Value.int .i64 6, Value.string fn, Value.string ⟨#[]⟩, Value.int .i64 0, Value.bool false, Value.bool true, Value.string T, Value.bool false, Value.bool false, Value.string hi, Value.slice none 0 0, Value.slice none 0 0]] W (IsT qr .nilIface W)) (hfi : fitI (j : Int))
    (EP : qp = noneQ) (EZ : qz = noneQ) (EX : qx = noneQ) (HR : qr = spanQ ⟨fn, 3, fb, sb, mb⟩ j ⟨false, true, T⟩ ⟨false, false, hi⟩) (ht : T.size ≤ 2097152) (hh : hi.size ≤ 2097152) :
    Code.wp Tryz.prog (tailC 11) (bodyPost Tryz.prog Tryz.f8 fun e w' => e = .returned (.bool true) ∧ Below w.heap.size w w') ⟨#[u0, .int .i64 j, .string T, .string hi, .pointer (some ⟨w.heap.size, 0, none⟩), u5, u6, u7, u8, u9, .pointer (some ⟨gf, 0, none⟩), .string Wt, .string Pt, .pointer (some ⟨gp, 0, none⟩), .nilIface, .pointer (some ⟨gz, 0, none⟩), .nilIface, .pointer (some ⟨gx, 0, none⟩), .nilIface, u19, u20, u21, u22, u23, u24, u25, u26, u27, u28, u29, u30, u31, u32, u33, u34, u35, u36, u37, u38, u39, u40, u41, u42, u43, u44, u45, u46, u47, u48, u49, u50, u51, u52, u53, u54, u55, u56, u57, u58, u59, u60, u61, u62, u63, u64, u65, u66, u67, u68, u69, u70, u71, u72, u73, u74, u75, u76, u77, u78, u79, u80, u81, u82, u83, u84, u85, u86, u87, u88, u89, u90, u91, u92, u93, u94, u95, u96, u97, u98, u99, u100, u101, u102, u103, u104, u105, u106, u107, u108, u109, u110, u111, u112, u113, u114, u115, u116, u117, u118, u119, u120, u121, u122, u123, u124, u125, u126, u127, u128, u129, u130, u131, u132, u133, u134, u135, u136, u137, u138, u139, u140, u141, u142, u143, u144, u145, u146, u147, u148, u149, u150, u151, u152, u153, u154, u155, u156, u157, u158, u159, u160, u161, u162, u163, u164, u165, u166, u167, u168, u169, u170, u171, u172, u173, u174, u175, u176, u177, u178, u179, u180, u181, u182, u183, u184, u185, u186, u187, u188, u189, u190, u191, u192, u193, u194, u195, u196, u197, u198, u199, u200, u201, u202, u203, u204, u205, u206, u207, u208, u209, u210, u211, u212, u213, u214], []⟩ V := by
  unfold tailC
  conv => arg 2; whnf
  have HBR := Lib.hid BR
  have HFI := Lib.hid hfi
  have HEP := Lib.hid EP
  have HEZ := Lib.hid EZ
  have HEX := Lib.hid EX
  have HRR := Lib.hid HR
  have HT := Lib.hid ht
  have HH := Lib.hid hh
  clear EP EZ EX HR ht hh
  have n0 : V.cell? ⟨gf, 0, none⟩ = some (.string fn) := KF.cell 0
  clear BR hfi
  go_upto_region 12 with (go_at_call 16; refine (HBR.out _ hB).mono ?_; rintro e vr ⟨cs, rfl, hFr, hbr⟩; obtain ⟨r, rk, R1, R2, R3, R4, rc1, rc2, rc3, rc4, rkc, rw, rl, r1, r2, r3, r4, r5⟩ := hFr.val; clear rw rl r1 r2 r3 r4 r5)
  obtain ⟨Vr, hVr⟩ : ∃ W, W = vr.alloc (.cells #[.int .i64 r.kind, .int .i64 r.field, .string r.text, .slice R1 r.terms.length rc1, .slice R2 r.offs.length rc2, .int .i64 r.n, .int .u64 r.weight, .bool r.lo.op, .bool r.lo.inn, .string r.lo.text, .bool r.hi.op, .bool r.hi.inn, .string r.hi.text, .slice R3 r.occur.length rc3, .slice R4 rk.length rc4] 29) := ⟨_, rfl⟩
  rw [← hVr]
  have Kr0 : Blk Vr vr.heap.size 29 #[.int .i64 r.kind, .int .i64 r.field, .string r.text, .slice R1 r.terms.length rc1, .slice R2 r.offs.length rc2, .int .i64 r.n, .int .u64 r.weight, .bool r.lo.op, .bool r.lo.inn, .string r.lo.text, .bool r.hi.op, .bool r.hi.inn, .string r.hi.text, .slice R3 r.occur.length rc3, .slice R4 rk.length rc4] := by rw [hVr]; exact Blk.new vr _ _
  have Fr0 : Fresh 0 Vr [.int .i64 r.kind, .int .i64 r.field, .string r.text, .slice R1 r.terms.length rc1, .slice R2 r.offs.length rc2, .int .i64 r.n, .int .u64 r.weight, .bool r.lo.op, .bool r.lo.inn, .string r.lo.text, .bool r.hi.op, .bool r.hi.inn, .string r.hi.text, .slice R3 r.occur.length rc3, .slice R4 rk.length rc4] (.mk r rk) := by rw [hVr]; exact (Fresh.below hFr (balloc (Below.refl _ _) _)).mono (Nat.zero_le _)
  have hrV : Below V.heap.size V Vr := by rw [hVr]; exact balloc hbr _
  clear s0 n0 hVr hFr hbr
  generalize Value.tuple #[Value.agg #[.int .i64 r.kind, .int .i64 r.field, .string r.text, .slice R1 r.terms.length rc1, .slice R2 r.offs.length rc2, .int .i64 r.n, .int .u64 r.weight, .bool r.lo.op, .bool r.lo.inn, .string r.lo.text, .bool r.hi.op, .bool r.hi.inn, .string r.hi.text, .slice R3 r.occur.length rc3, .slice R4 rk.length rc4], Value.nilIface] = gtr
  generalize Value.agg #[.int .i64 r.kind, .int .i64 r.field, .string r.text, .slice R1 r.terms.length rc1, .slice R2 r.offs.length rc2, .int .i64 r.n, .int .u64 r.weight, .bool r.lo.op, .bool r.lo.inn, .string r.lo.text, .bool r.hi.op, .bool r.hi.inn, .string r.hi.text, .slice R3 r.occur.length rc3, .slice R4 rk.length rc4] = gar
  obtain ⟨ro0, ro1, ro2, ro3, ro4, ro5, ro6, ro7, ro8, ro9, ro10, ro11, ro12, ro13, ro14, Kr, Fr⟩ : ∃ ro0 ro1 ro2 ro3 ro4 ro5 ro6 ro7 ro8 ro9 ro10 ro11 ro12 ro13 ro14 : Value, Blk Vr vr.heap.size 29 #[ro0, ro1, ro2, ro3, ro4, ro5, ro6, ro7, ro8, ro9, ro10, ro11, ro12, ro13, ro14] ∧ Fresh 0 Vr [ro0, ro1, ro2, ro3, ro4, ro5, ro6, ro7, ro8, ro9, ro10, ro11, ro12, ro13, ro14] (.mk r rk) := ⟨_, _, _, _, _, _, _, _, _, _, _, _, _, _, _, Kr0, Fr0⟩
  clear Kr0 Fr0
  generalize Value.agg #[Value.int .i64 6, Value.string fn, Value.string ⟨#[]⟩, Value.int .i64 0, Value.bool false, Value.bool true, Value.string T, Value.bool false, Value.bool false, Value.string hi, Value.slice none 0 0, Value.slice none 0 0] = gnr
  have KPr := Kp.below hrV Kp.lt
  have FPr := Fresh.below Fp hrV
  have KZr := Kz.below hrV Kz.lt
  have FZr := Fresh.below Fz hrV
  have KXr := Kx.below hrV Kx.lt
  have FXr := Fresh.below Fx hrV
  have KFr := KF.below hrV KF.lt
  clear Kp Fp Kz Fz Kx Fx KF
  go_upto_region 15 with fail
  obtain ⟨VN, hVN⟩ : ∃ W, W = Vr.alloc (.cells #[.int .i64 1, .int .i64 0, .string ⟨#[]⟩, .slice none 0 0, .slice none 0 0, .int .i64 0, .int .u64 0, .bool false, .bool false, .string ⟨#[]⟩, .bool false, .bool false, .string ⟨#[]⟩, .slice none 0 0, .slice none 0 0] 29) := ⟨_, rfl⟩
  rw [← hVN]
  have KN : Blk VN Vr.heap.size 29 #[.int .i64 1, .int .i64 0, .string ⟨#[]⟩, .slice none 0 0, .slice none 0 0, .int .i64 0, .int .u64 0, .bool false, .bool false, .string ⟨#[]⟩, .bool false, .bool false, .string ⟨#[]⟩, .slice none 0 0, .slice none 0 0] := by rw [hVN]; exact Blk.new Vr _ _
  have hrN : Below Vr.heap.size Vr VN := by rw [hVN]; exact balloc (Below.refl _ _) _
  have n1 : VN.cell? ⟨gf, 1, none⟩ = some (.int .i64 3) := (KFr.below hrN KFr.lt).cell 1
  clear hVN
  obtain ⟨tn, htn⟩ : ∃ x, x = (parseN T).getD 0 := ⟨_, rfl⟩
  obtain ⟨tb, htb⟩ : ∃ x, x = (parseN T).isSome := ⟨_, rfl⟩
  obtain ⟨un, hun⟩ : ∃ x, x = (parseN hi).getD 0 := ⟨_, rfl⟩
  obtain ⟨ub, hub⟩ : ∃ x, x = (parseN hi).isSome := ⟨_, rfl⟩
  have PT := Lib.hid (fun W => NumWalk.parse_any T W (by have := HT.out; omega))
  have PU := Lib.hid (fun W => NumWalk.parse_any hi W (by have := HH.out; omega))
  simp only [numV] at PT PU
  rw [← htn, ← htb] at PT
  rw [← hun, ← hub] at PU
  have ER : Qry.mk r rk = if tb && ub then .mk ⟨9, j, ⟨#[]⟩, [], [], 0, 0, ⟨false, true, termN tn⟩, ⟨false, false, termN un⟩, []⟩ [] else noneQ := by
    rw [HRR.out, htn, htb, hun, hub]
    unfold spanQ endQ
    cases parseN T <;> cases parseN hi <;> simp
  have BT := Lib.hid (show least ≤ tn ∧ tn ≤ 9223372036854775807 by rw [htn]; exact num_bd T)
  have BU := Lib.hid (show least ≤ un ∧ un ≤ 9223372036854775807 by rw [hun]; exact num_bd hi)
  have ER := Lib.hid ER
  clear htn htb hun hub HRR HBR
  go_upto_region 18 with (first | (go_at_call 39; (with_reducible refine (PT.out _).mono ?_); rintro e wp ⟨rfl, hwp⟩; obtain rfl : VN = wp := hwp.symm) | (go_at_call 39; (with_reducible refine (PU.out _).mono ?_); rintro e wp ⟨rfl, hwp⟩; obtain rfl : VN = wp := hwp.symm))
  go_upto_region 19 with (first | (go_at_call 40; (with_reducible refine (NumTerm.term_any tn _ BT.out.1 BT.out.2).mono ?_); rintro e wt ⟨rfl, hbt⟩) | (go_at_call 40; (with_reducible refine (NumTerm.term_any un _ BU.out.1 BU.out.2).mono ?_); rintro e wu ⟨rfl, hbu⟩))
  obtain ⟨VS, hVS⟩ : ∃ W, W = wu.alloc (.cells #[.int .i64 9, .int .i64 j, .string ⟨#[]⟩, .slice none 0 0, .slice none 0 0, .int .i64 0, .int .u64 0, .bool false, .bool true, .string (termN tn), .bool false, .bool false, .string (termN un), .slice none 0 0, .slice none 0 0] 29) := ⟨_, rfl⟩
  rw [← hVS]
  have KS : Blk VS wu.heap.size 29 #[.int .i64 9, .int .i64 j, .string ⟨#[]⟩, .slice none 0 0, .slice none 0 0, .int .i64 0, .int .u64 0, .bool false, .bool true, .string (termN tn), .bool false, .bool false, .string (termN un), .slice none 0 0, .slice none 0 0] := by rw [hVS]; exact Blk.new wu _ _
  have hNu : Below VN.heap.size VN wu := bchain hbt hbu
  have hNS : Below VN.heap.size VN VS := by rw [hVS]; exact balloc hNu _
  have hrS : Below Vr.heap.size Vr VS := bchain hrN hNS
  have hge : Vr.heap.size + 1 ≤ wu.heap.size := Nat.le_trans KN.lt hNu.size
  have KN2 := KN.below hNS KN.lt
  have HRS := Lib.hid hrS
  have HGE := Lib.hid hge
  clear hVS n1 KN hNu hNS hbt hbu hge hrS hrN KFr PT PU
  go_cut [160] (fun v wx => v = .bool (!tb || !ub) ∧ wx = VS)
  case first =>
    cases tb <;> cases ub <;> (go_wp2_with fail; go_meet; exact ⟨rfl, rfl⟩)
  case rest =>
    obtain ⟨rfl, rfl⟩ := hcut
    obtain ⟨VS, rfl⟩ : ∃ W, W = wc := ⟨_, rfl⟩
    go_upto_if 160 with fail
    go_cut [] (fun wx => Below Vr.heap.size Vr wx ∧ Blk wx Vr.heap.size 29 #[.int .i64 1, .int .i64 0, .string ⟨#[]⟩, .slice none 0 0, .slice none 0 0, .int .i64 0, .int .u64 0, .bool false, .bool false, .string ⟨#[]⟩, .bool false, .bool false, .string ⟨#[]⟩, .slice none 0 0, .slice none 0 0] ∧ ∃ (sk sf : Int) (sn : Bool) (sl sh : ByteArray), Blk wx wu.heap.size 29 #[.int .i64 sk, .int .i64 sf, .string ⟨#[]⟩, .slice none 0 0, .slice none 0 0, .int .i64 0, .int .u64 0, .bool false, .bool sn, .string sl, .bool false, .bool false, .string sh, .slice none 0 0, .slice none 0 0] ∧ Qry.mk r rk = .mk ⟨sk, sf, ⟨#[]⟩, [], [], 0, 0, ⟨false, sn, sl⟩, ⟨false, false, sh⟩, []⟩ [] ∧ fitI sk ∧ fitI sf)
    case first =>
      obtain ⟨bb, hbb⟩ : ∃ b, b = (!tb || !ub) := ⟨_, rfl⟩
      rw [← hbb]
      have EQ : (tb && ub) = !bb := by rw [hbb]; cases tb <;> cases ub <;> rfl
      have ER2 := ER.out
      rw [EQ] at ER2
      clear hbb EQ
      cases bb
      · go_wp2_with fail
        go_meet
        exact ⟨HRS.out, KN2, 9, j, true, termN tn, termN un, KS, ER2, rfl, HFI.out⟩
      · obtain ⟨z0, z1, z2, z3, z4, z5, z6, z7, z8, z9, z10, z11, z12, z13, z14⟩ := qrow KN2
        obtain ⟨t0, t1, t2, t3, t4, t5, t6, t7, t8, t9, t10, t11, t12, t13, t14⟩ := qrow KS
        obtain ⟨y0, y1, y2, y3, y4, y5, y6, y7, y8, y9, y10, y11, y12, y13, y14⟩ := qfz KS
        go_wp2_with fail
        go_meet
        exact ⟨below15 HRS.out (by have := HGE.out; omega), far15 KN2 (by have := HGE.out; omega), 1, 0, false, ⟨#[]⟩, ⟨#[]⟩, blk15 KS, ER2, rfl, rfl⟩
    case rest =>
      obtain ⟨hrX, KN, sk, sf, sn, sl, sh, KSX, ERX, fk, ff⟩ := hcut
      obtain ⟨VX, rfl⟩ : ∃ W, W = wc := ⟨_, rfl⟩
      clear KS KN2
      have hVX : Below w.heap.size w VX := bchain hB (bchain hrV hrX)
      have KP := KPr.below hrX KPr.lt
      have KZ := KZr.below hrX KZr.lt
      have KX := KXr.below hrX KXr.lt
      have KR := Kr.below hrX Kr.lt
      have FP := Fresh.below FPr hrX
      have FZ := Fresh.below FZr hrX
      have FX := Fresh.below FXr hrX
      have FR := Fresh.below Fr hrX
      clear KPr FPr KZr FZr KXr FXr Kr Fr
      have SP := Lib.hid (same_true (cs := [po0, po1, po2, po3, po4, po5, po6, po7, po8, po9, po10, po11, po12, po13, po14]) (cs2 := [.int .i64 1, .int .i64 0, .string ⟨#[]⟩, .slice none 0 0, .slice none 0 0, .int .i64 0, .int .u64 0, .bool false, .bool false, .string ⟨#[]⟩, .bool false, .bool false, .string ⟨#[]⟩, .slice none 0 0, .slice none 0 0]) FP.val (by rw [HEP.out]; exact lit_val _ _ 1 0 0 ⟨#[]⟩ bnd0 bnd0 rfl rfl rfl (Nat.zero_le _)))
      have SZ := Lib.hid (fun W (hW : Below VX.heap.size VX W) => same_true (cs := [zo0, zo1, zo2, zo3, zo4, zo5, zo6, zo7, zo8, zo9, zo10, zo11, zo12, zo13, zo14]) (cs2 := [.int .i64 1, .int .i64 0, .string ⟨#[]⟩, .slice none 0 0, .slice none 0 0, .int .i64 0, .int .u64 0, .bool false, .bool false, .string ⟨#[]⟩, .bool false, .bool false, .string ⟨#[]⟩, .slice none 0 0, .slice none 0 0]) (Fresh.below FZ hW).val (by rw [HEZ.out]; exact lit_val _ _ 1 0 0 ⟨#[]⟩ bnd0 bnd0 rfl rfl rfl (Nat.zero_le _)))
      have SX := Lib.hid (fun W (hW : Below VX.heap.size VX W) => same_true (cs := [xo0, xo1, xo2, xo3, xo4, xo5, xo6, xo7, xo8, xo9, xo10, xo11, xo12, xo13, xo14]) (cs2 := [.int .i64 1, .int .i64 0, .string ⟨#[]⟩, .slice none 0 0, .slice none 0 0, .int .i64 0, .int .u64 0, .bool false, .bool false, .string ⟨#[]⟩, .bool false, .bool false, .string ⟨#[]⟩, .slice none 0 0, .slice none 0 0]) (Fresh.below FX hW).val (by rw [HEX.out]; exact lit_val _ _ 1 0 0 ⟨#[]⟩ bnd0 bnd0 rfl rfl rfl (Nat.zero_le _)))
      have SR := Lib.hid (fun W (hW : Below VX.heap.size VX W) => same_true (cs := [ro0, ro1, ro2, ro3, ro4, ro5, ro6, ro7, ro8, ro9, ro10, ro11, ro12, ro13, ro14]) (cs2 := [.int .i64 sk, .int .i64 sf, .string ⟨#[]⟩, .slice none 0 0, .slice none 0 0, .int .i64 0, .int .u64 0, .bool false, .bool sn, .string sl, .bool false, .bool false, .string sh, .slice none 0 0, .slice none 0 0]) (Fresh.below FR hW).val (by rw [ERX]; exact lit_val _ _ sk sf 0 ⟨#[]⟩ ⟨false, sn, sl⟩ ⟨false, false, sh⟩ fk ff rfl (Nat.zero_le _)))
      have hk := ‹∀ (a : Act) (w : World), Code.wp Tryz.prog _ _ a w → _›
      refine hk _ _ ?_
      refine cast_code (c := tailD 21) (by kernel_rfl) ?_
      exact last _ hVX KP KZ KX KR KN KSX SP.out SZ.out SX.out SR.out
end Go.Proofs.YtkcfgcdlnojaeaaGreatDoor.FoldsNum
