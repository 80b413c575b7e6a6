/-
  The walk of concordlaw16.BindFolds from region 11 on: over a text or a keyword.
-/
import Derived.Test.YtkcfgcdlnojaeaaGreatDoorFoldsEarly
set_option linter.unusedVariables false
set_option linter.unusedSimpArgs false
namespace Go.Proofs.YtkcfgcdlnojaeaaGreatDoor.FoldsText
set_option maxRecDepth 100000
open Go.RowKit Go.PlainAid Base Query BindBase NodeTerm NodeTree NodePlain NodeOwn FoldPlain FoldWalk Binder WordPlain WordsWalk StopsWalk OfText OfAny WordsOne NumPlain OpenField FieldPlain GoodName SchemaCheck WordsAny WordsMany SchFind LeafBase FoldLeaf WildBind SpanBind LitWalk TreePlain BindTop FoldsPlain FoldBind LivesBind Rel Relb RelE FoldsEarly
set_option maxHeartbeats 8000000 in
theorem last {u0 u1 u2 u3 u4 u5 u6 u7 u8 u9 u10 u11 u12 u13 u14 u15 u16 u17 u18 u20 u21 u22 u23 u24 u25 u26 u31 u32 u33 u34 u35 u36 u37 u38 u39 u40 u41 u42 u43 u44 u45 u46 u47 u48 u49 u50 u51 u52 u53 u54 u55 u56 u57 u58 u59 u60 u61 u62 u63 u64 u65 u66 u67 u68 u69 u70 u71 u72 u73 u74 u75 u76 u77 u78 u79 u80 u81 u82 u83 u84 u85 u86 u87 u88 u89 u90 u91 u92 u93 u94 u95 u96 u97 u98 u99 u100 u101 u102 u103 u104 u105 u106 u107 u108 u109 u110 u111 u112 u113 u114 u115 u116 u117 u118 u119 u120 u121 u122 u123 u124 u125 u126 u127 u128 u129 u130 u131 u132 u133 u134 u135 u136 u137 u138 u139 u140 u141 u142 u143 u144 u145 u146 u147 u148 u149 u150 u151 u152 u153 u154 u155 u156 u157 u158 u159 u160 u161 u162 u163 u164 u165 u166 u167 u168 u169 u170 u171 u172 u173 u174 u175 u176 u177 u178 u179 u180 u181 u182 u183 u184 u185 u186 u187 u188 u189 u190 u191 u192 u193 u194 u195 u196 u197 u198 u199 u200 u201 u202 u203 u204 u205 u206 u207 u208 u209 u210 u211 u212 u213 u214 : Value} {w V : World} {gr gn : Nat} {ro0 ro1 ro2 ro3 ro4 ro5 ro6 ro7 ro8 ro9 ro10 ro11 ro12 ro13 ro14 so0 so1 so2 so3 so4 so5 so6 so7 so8 so9 so10 so11 so12 so13 so14 : Value} (hB : Below w.heap.size w V) (KR : Blk V gr 29 #[ro0, ro1, ro2, ro3, ro4, ro5, ro6, ro7, ro8, ro9, ro10, ro11, ro12, ro13, ro14]) (KS : Blk V gn 29 #[so0, so1, so2, so3, so4, so5, so6, so7, so8, so9, so10, so11, so12, so13, so14])
    (S : Calls Tryz.prog 33 #[.agg #[ro0, ro1, ro2, ro3, ro4, ro5, ro6, ro7, ro8, ro9, ro10, ro11, ro12, ro13, ro14], .agg #[so0, so1, so2, so3, so4, so5, so6, so7, so8, so9, so10, so11, so12, so13, so14]] V fun e w' => e = .returned (.bool true) ∧ Below V.heap.size V w') :
    Code.wp Tryz.prog (tailC 26) (bodyPost Tryz.prog Tryz.f8 fun e w' => e = .returned (.bool true) ∧ Below w.heap.size w w') ⟨#[u0, u1, u2, u3, u4, u5, u6, u7, u8, u9, u10, u11, u12, u13, u14, u15, u16, u17, u18, .pointer (some ⟨gr, 0, none⟩), u20, u21, u22, u23, u24, u25, u26, .pointer (some ⟨gn, 0, none⟩), .bool true, .bool true, .bool true, u31, u32, u33, u34, u35, u36, u37, u38, u39, u40, u41, u42, u43, u44, u45, u46, u47, u48, u49, u50, u51, u52, u53, u54, u55, u56, u57, u58, u59, u60, u61, u62, u63, u64, u65, u66, u67, u68, u69, u70, u71, u72, u73, u74, u75, u76, u77, u78, u79, u80, u81, u82, u83, u84, u85, u86, u87, u88, u89, u90, u91, u92, u93, u94, u95, u96, u97, u98, u99, u100, u101, u102, u103, u104, u105, u106, u107, u108, u109, u110, u111, u112, u113, u114, u115, u116, u117, u118, u119, u120, u121, u122, u123, u124, u125, u126, u127, u128, u129, u130, u131, u132, u133, u134, u135, u136, u137, u138, u139, u140, u141, u142, u143, u144, u145, u146, u147, u148, u149, u150, u151, u152, u153, u154, u155, u156, u157, u158, u159, u160, u161, u162, u163, u164, u165, u166, u167, u168, u169, u170, u171, u172, u173, u174, u175, u176, u177, u178, u179, u180, u181, u182, u183, u184, u185, u186, u187, u188, u189, u190, u191, u192, u193, u194, u195, u196, u197, u198, u199, u200, u201, u202, u203, u204, u205, u206, u207, u208, u209, u210, u211, u212, u213, u214], []⟩ V := by
  unfold tailC
  conv => arg 2; whnf
  have HS := Lib.hid S
  clear S
  obtain ⟨z0, z1, z2, z3, z4, z5, z6, z7, z8, z9, z10, z11, z12, z13, z14⟩ := qrow KR
  obtain ⟨y0, y1, y2, y3, y4, y5, y6, y7, y8, y9, y10, y11, y12, y13, y14⟩ := qrow KS
  go_wp2_with (go_at_call 33; (with_reducible refine HS.out.mono ?_); rintro e wd ⟨rfl, hbd⟩)
  go_ret
  exact ⟨rfl, bchain hB hbd⟩
set_option maxHeartbeats 8000000 in
theorem rest {u0 u5 u6 u7 u8 u9 u19 u20 u21 u22 u23 u24 u25 u26 u27 u28 u29 u30 u31 u32 u33 u34 u35 u36 u37 u38 u39 u40 u41 u42 u43 u44 u45 u46 u47 u48 u49 u50 u51 u52 u53 u54 u55 u56 u57 u58 u59 u60 u61 u62 u63 u64 u65 u66 u67 u68 u69 u70 u71 u72 u73 u74 u75 u76 u77 u78 u79 u80 u81 u82 u83 u84 u85 u86 u87 u88 u89 u90 u91 u92 u93 u94 u95 u96 u97 u98 u99 u100 u101 u102 u103 u104 u105 u106 u107 u108 u109 u110 u111 u112 u113 u114 u115 u116 u117 u118 u119 u120 u121 u122 u123 u124 u125 u126 u127 u128 u129 u130 u131 u132 u133 u134 u135 u136 u137 u138 u139 u140 u141 u142 u143 u144 u145 u146 u147 u148 u149 u150 u151 u152 u153 u154 u155 u156 u157 u158 u159 u160 u161 u162 u163 u164 u165 u166 u167 u168 u169 u170 u171 u172 u173 u174 u175 u176 u177 u178 u179 u180 u181 u182 u183 u184 u185 u186 u187 u188 u189 u190 u191 u192 u193 u194 u195 u196 u197 u198 u199 u200 u201 u202 u203 u204 u205 u206 u207 u208 u209 u210 u211 u212 u213 u214 : Value} {w V : World} {fl c fg fo j gf gp gz gx : Nat} {T hi Wt Pt fn : ByteArray} {kd : Int} {fb sb mb : Bool} {po0 po1 po2 po3 po4 po5 po6 po7 po8 po9 po10 po11 po12 po13 po14 zo0 zo1 zo2 zo3 zo4 zo5 zo6 zo7 zo8 zo9 zo10 zo11 zo12 zo13 zo14 xo0 xo1 xo2 xo3 xo4 xo5 xo6 xo7 xo8 xo9 xo10 xo11 xo12 xo13 xo14 : Value} {qp qz qx qr : Qry}
    (hB : Below w.heap.size w V) (s0 : V.cell? ⟨w.heap.size, 0, none⟩ = some (.slice (some ⟨fg, fo, none⟩) fl c)) (KF : Blk V gf 67 #[.string fn, .int .i64 kd, .bool fb, .bool sb, .bool mb])
    (Kp : Blk V gp 29 #[po0, po1, po2, po3, po4, po5, po6, po7, po8, po9, po10, po11, po12, po13, po14]) (Fp : Fresh 0 V [po0, po1, po2, po3, po4, po5, po6, po7, po8, po9, po10, po11, po12, po13, po14] qp)
    (Kz : Blk V gz 29 #[zo0, zo1, zo2, zo3, zo4, zo5, zo6, zo7, zo8, zo9, zo10, zo11, zo12, zo13, zo14]) (Fz : Fresh 0 V [zo0, zo1, zo2, zo3, zo4, zo5, zo6, zo7, zo8, zo9, zo10, zo11, zo12, zo13, zo14] qz)
    (Kx : Blk V gx 29 #[xo0, xo1, xo2, xo3, xo4, xo5, xo6, xo7, xo8, xo9, xo10, xo11, xo12, xo13, xo14]) (Fx : Fresh 0 V [xo0, xo1, xo2, xo3, xo4, xo5, xo6, xo7, xo8, xo9, xo10, xo11, xo12, xo13, xo14] qx)
    (BR : ∀ W, Below w.heap.size w W → Calls Tryz.prog 16 #[.agg #[.slice (some ⟨fg, fo, none⟩) fl c], .agg #[Value.int .i64 6, Value.string fn, Value.string ⟨#[]⟩, Value.int .i64 0, Value.bool false, Value.bool true, Value.string T, Value.bool false, Value.bool false, Value.string hi, Value.slice none 0 0, Value.slice none 0 0]] W (IsT qr .nilIface W)) (hfi : fitI (j : Int))
    (hk : kd ≠ 3) (EP : qp = .mk ⟨6, j, Wt, [], [], 0, 0, bnd0, bnd0, []⟩ []) (EZ : qz = .mk ⟨8, j, Wt, [], [], 2, 0, bnd0, bnd0, []⟩ []) (EX : qx = .mk ⟨7, j, starS Wt, [], [], 0, 0, bnd0, bnd0, []⟩ [])
    (ER : qr = .mk ⟨9, j, ⟨#[]⟩, [], [], 0, 0, ⟨false, true, Wt⟩, ⟨false, false, Pt⟩, []⟩ []) (hw : Wt.size ≤ 2097152) (hw1 : Wt.size ≤ maxLen) (hw2 : (starS Wt).size ≤ maxLen) :
    Code.wp Tryz.prog (tailC 11) (bodyPost Tryz.prog Tryz.f8 fun e w' => e = .returned (.bool true) ∧ Below w.heap.size w w') ⟨#[u0, .int .i64 j, .string T, .string hi, .pointer (some ⟨w.heap.size, 0, none⟩), u5, u6, u7, u8, u9, .pointer (some ⟨gf, 0, none⟩), .string Wt, .string Pt, .pointer (some ⟨gp, 0, none⟩), .nilIface, .pointer (some ⟨gz, 0, none⟩), .nilIface, .pointer (some ⟨gx, 0, none⟩), .nilIface, u19, u20, u21, u22, u23, u24, u25, u26, u27, u28, u29, u30, u31, u32, u33, u34, u35, u36, u37, u38, u39, u40, u41, u42, u43, u44, u45, u46, u47, u48, u49, u50, u51, u52, u53, u54, u55, u56, u57, u58, u59, u60, u61, u62, u63, u64, u65, u66, u67, u68, u69, u70, u71, u72, u73, u74, u75, u76, u77, u78, u79, u80, u81, u82, u83, u84, u85, u86, u87, u88, u89, u90, u91, u92, u93, u94, u95, u96, u97, u98, u99, u100, u101, u102, u103, u104, u105, u106, u107, u108, u109, u110, u111, u112, u113, u114, u115, u116, u117, u118, u119, u120, u121, u122, u123, u124, u125, u126, u127, u128, u129, u130, u131, u132, u133, u134, u135, u136, u137, u138, u139, u140, u141, u142, u143, u144, u145, u146, u147, u148, u149, u150, u151, u152, u153, u154, u155, u156, u157, u158, u159, u160, u161, u162, u163, u164, u165, u166, u167, u168, u169, u170, u171, u172, u173, u174, u175, u176, u177, u178, u179, u180, u181, u182, u183, u184, u185, u186, u187, u188, u189, u190, u191, u192, u193, u194, u195, u196, u197, u198, u199, u200, u201, u202, u203, u204, u205, u206, u207, u208, u209, u210, u211, u212, u213, u214], []⟩ V := by
  unfold tailC
  conv => arg 2; whnf
  have HBR := Lib.hid BR
  have HFI := Lib.hid hfi
  have HEP := Lib.hid EP
  have HEZ := Lib.hid EZ
  have HEX := Lib.hid EX
  have HER := Lib.hid ER
  have HW := Lib.hid hw
  have HW1 := Lib.hid hw1
  have HW2 := Lib.hid hw2
  have dk3 : (kd == 3) = false := beq_eq_false_iff_ne.2 hk
  clear EP EZ EX ER hw hw1 hw2 hk
  have n0 : V.cell? ⟨gf, 0, none⟩ = some (.string fn) := KF.cell 0
  clear BR hfi
  go_upto_region 12 with (go_at_call 16; refine (HBR.out _ hB).mono ?_; rintro e vr ⟨cs, rfl, hFr, hbr⟩; obtain ⟨r, rk, R1, R2, R3, R4, rc1, rc2, rc3, rc4, rkc, rw, rl, r1, r2, r3, r4, r5⟩ := hFr.val; clear rw rl r1 r2 r3 r4 r5)
  obtain ⟨Vr, hVr⟩ : ∃ W, W = vr.alloc (.cells #[.int .i64 r.kind, .int .i64 r.field, .string r.text, .slice R1 r.terms.length rc1, .slice R2 r.offs.length rc2, .int .i64 r.n, .int .u64 r.weight, .bool r.lo.op, .bool r.lo.inn, .string r.lo.text, .bool r.hi.op, .bool r.hi.inn, .string r.hi.text, .slice R3 r.occur.length rc3, .slice R4 rk.length rc4] 29) := ⟨_, rfl⟩
  rw [← hVr]
  have Kr0 : Blk Vr vr.heap.size 29 #[.int .i64 r.kind, .int .i64 r.field, .string r.text, .slice R1 r.terms.length rc1, .slice R2 r.offs.length rc2, .int .i64 r.n, .int .u64 r.weight, .bool r.lo.op, .bool r.lo.inn, .string r.lo.text, .bool r.hi.op, .bool r.hi.inn, .string r.hi.text, .slice R3 r.occur.length rc3, .slice R4 rk.length rc4] := by rw [hVr]; exact Blk.new vr _ _
  have Fr0 : Fresh 0 Vr [.int .i64 r.kind, .int .i64 r.field, .string r.text, .slice R1 r.terms.length rc1, .slice R2 r.offs.length rc2, .int .i64 r.n, .int .u64 r.weight, .bool r.lo.op, .bool r.lo.inn, .string r.lo.text, .bool r.hi.op, .bool r.hi.inn, .string r.hi.text, .slice R3 r.occur.length rc3, .slice R4 rk.length rc4] (.mk r rk) := by rw [hVr]; exact (Fresh.below hFr (balloc (Below.refl _ _) _)).mono (Nat.zero_le _)
  have hrV : Below V.heap.size V Vr := by rw [hVr]; exact balloc hbr _
  clear s0 n0 hVr hFr hbr
  generalize Value.tuple #[Value.agg #[.int .i64 r.kind, .int .i64 r.field, .string r.text, .slice R1 r.terms.length rc1, .slice R2 r.offs.length rc2, .int .i64 r.n, .int .u64 r.weight, .bool r.lo.op, .bool r.lo.inn, .string r.lo.text, .bool r.hi.op, .bool r.hi.inn, .string r.hi.text, .slice R3 r.occur.length rc3, .slice R4 rk.length rc4], Value.nilIface] = gtr
  generalize Value.agg #[.int .i64 r.kind, .int .i64 r.field, .string r.text, .slice R1 r.terms.length rc1, .slice R2 r.offs.length rc2, .int .i64 r.n, .int .u64 r.weight, .bool r.lo.op, .bool r.lo.inn, .string r.lo.text, .bool r.hi.op, .bool r.hi.inn, .string r.hi.text, .slice R3 r.occur.length rc3, .slice R4 rk.length rc4] = gar
  obtain ⟨ro0, ro1, ro2, ro3, ro4, ro5, ro6, ro7, ro8, ro9, ro10, ro11, ro12, ro13, ro14, Kr, Fr⟩ : ∃ ro0 ro1 ro2 ro3 ro4 ro5 ro6 ro7 ro8 ro9 ro10 ro11 ro12 ro13 ro14 : Value, Blk Vr vr.heap.size 29 #[ro0, ro1, ro2, ro3, ro4, ro5, ro6, ro7, ro8, ro9, ro10, ro11, ro12, ro13, ro14] ∧ Fresh 0 Vr [ro0, ro1, ro2, ro3, ro4, ro5, ro6, ro7, ro8, ro9, ro10, ro11, ro12, ro13, ro14] (.mk r rk) := ⟨_, _, _, _, _, _, _, _, _, _, _, _, _, _, _, Kr0, Fr0⟩
  clear Kr0 Fr0
  generalize Value.agg #[Value.int .i64 6, Value.string fn, Value.string ⟨#[]⟩, Value.int .i64 0, Value.bool false, Value.bool true, Value.string T, Value.bool false, Value.bool false, Value.string hi, Value.slice none 0 0, Value.slice none 0 0] = gnr
  have KPr := Kp.below hrV Kp.lt
  have FPr := Fresh.below Fp hrV
  have KZr := Kz.below hrV Kz.lt
  have FZr := Fresh.below Fz hrV
  have KXr := Kx.below hrV Kx.lt
  have FXr := Fresh.below Fx hrV
  have KFr := KF.below hrV KF.lt
  clear Kp Fp Kz Fz Kx Fx KF
  go_upto_region 15 with fail
  obtain ⟨VN, hVN⟩ : ∃ W, W = Vr.alloc (.cells #[.int .i64 1, .int .i64 0, .string ⟨#[]⟩, .slice none 0 0, .slice none 0 0, .int .i64 0, .int .u64 0, .bool false, .bool false, .string ⟨#[]⟩, .bool false, .bool false, .string ⟨#[]⟩, .slice none 0 0, .slice none 0 0] 29) := ⟨_, rfl⟩
  rw [← hVN]
  have KN : Blk VN Vr.heap.size 29 #[.int .i64 1, .int .i64 0, .string ⟨#[]⟩, .slice none 0 0, .slice none 0 0, .int .i64 0, .int .u64 0, .bool false, .bool false, .string ⟨#[]⟩, .bool false, .bool false, .string ⟨#[]⟩, .slice none 0 0, .slice none 0 0] := by rw [hVN]; exact Blk.new Vr _ _
  have hrN : Below Vr.heap.size Vr VN := by rw [hVN]; exact balloc (Below.refl _ _) _
  have n1 : VN.cell? ⟨gf, 1, none⟩ = some (.int .i64 kd) := (KFr.below hrN KFr.lt).cell 1
  clear hVN
  go_upto_region 23 with fail
  obtain ⟨VS, hVS⟩ : ∃ W, W = VN.alloc (.cells #[.int .i64 9, .int .i64 j, .string ⟨#[]⟩, .slice none 0 0, .slice none 0 0, .int .i64 0, .int .u64 0, .bool false, .bool true, .string Wt, .bool false, .bool false, .string Pt, .slice none 0 0, .slice none 0 0] 29) := ⟨_, rfl⟩
  rw [← hVS]
  have KS : Blk VS VN.heap.size 29 #[.int .i64 9, .int .i64 j, .string ⟨#[]⟩, .slice none 0 0, .slice none 0 0, .int .i64 0, .int .u64 0, .bool false, .bool true, .string Wt, .bool false, .bool false, .string Pt, .slice none 0 0, .slice none 0 0] := by rw [hVS]; exact Blk.new VN _ _
  have hrS : Below Vr.heap.size Vr VS := by rw [hVS]; exact balloc hrN _
  have hVS2 : Below V.heap.size V VS := bchain hrV hrS
  have KP := KPr.below hrS KPr.lt
  have FP := Fresh.below FPr hrS
  have KZ := KZr.below hrS KZr.lt
  have FZ := Fresh.below FZr hrS
  have KX := KXr.below hrS KXr.lt
  have FX := Fresh.below FXr hrS
  have KR := Kr.below hrS Kr.lt
  have FR := Fresh.below Fr hrS
  clear hVS n1 KN hrN KPr FPr KZr FZr KXr FXr Kr Fr KFr hrS hrV dk3
  obtain ⟨z0, z1, z2, z3, z4, z5, z6, z7, z8, z9, z10, z11, z12, z13, z14⟩ := qrow KP
  have SP := Lib.hid (same_true (cs := [po0, po1, po2, po3, po4, po5, po6, po7, po8, po9, po10, po11, po12, po13, po14]) (cs2 := [.int .i64 6, .int .i64 j, .string Wt, .slice none 0 0, .slice none 0 0, .int .i64 0, .int .u64 0, .bool false, .bool false, .string ⟨#[]⟩, .bool false, .bool false, .string ⟨#[]⟩, .slice none 0 0, .slice none 0 0]) FP.val (by rw [HEP.out]; exact lit_val _ _ 6 j 0 Wt bnd0 bnd0 rfl HFI.out rfl HW1.out))
  have SZ := Lib.hid (fun W (hW : Below VS.heap.size VS W) => same_true (cs := [zo0, zo1, zo2, zo3, zo4, zo5, zo6, zo7, zo8, zo9, zo10, zo11, zo12, zo13, zo14]) (cs2 := [.int .i64 8, .int .i64 j, .string Wt, .slice none 0 0, .slice none 0 0, .int .i64 2, .int .u64 0, .bool false, .bool false, .string ⟨#[]⟩, .bool false, .bool false, .string ⟨#[]⟩, .slice none 0 0, .slice none 0 0]) (Fresh.below FZ hW).val (by rw [HEZ.out]; exact lit_val _ _ 8 j 2 Wt bnd0 bnd0 rfl HFI.out rfl HW1.out))
  have SX := Lib.hid (fun W (hW : Below VS.heap.size VS W) => same_true (cs := [xo0, xo1, xo2, xo3, xo4, xo5, xo6, xo7, xo8, xo9, xo10, xo11, xo12, xo13, xo14]) (cs2 := [.int .i64 7, .int .i64 j, .string (starS Wt), .slice none 0 0, .slice none 0 0, .int .i64 0, .int .u64 0, .bool false, .bool false, .string ⟨#[]⟩, .bool false, .bool false, .string ⟨#[]⟩, .slice none 0 0, .slice none 0 0]) (Fresh.below FX hW).val (by rw [HEX.out]; exact lit_val _ _ 7 j 0 (starS Wt) bnd0 bnd0 rfl HFI.out rfl HW2.out))
  have SR := Lib.hid (fun W (hW : Below VS.heap.size VS W) => same_true (cs := [ro0, ro1, ro2, ro3, ro4, ro5, ro6, ro7, ro8, ro9, ro10, ro11, ro12, ro13, ro14]) (cs2 := [.int .i64 9, .int .i64 j, .string ⟨#[]⟩, .slice none 0 0, .slice none 0 0, .int .i64 0, .int .u64 0, .bool false, .bool true, .string Wt, .bool false, .bool false, .string Pt, .slice none 0 0, .slice none 0 0]) (Fresh.below FR hW).val (by rw [HER.out]; exact lit_val _ _ 9 j 0 ⟨#[]⟩ ⟨false, true, Wt⟩ ⟨false, false, Pt⟩ rfl HFI.out rfl (Nat.zero_le _)))
  clear HEP HEZ HEX HER FP FZ FX FR HBR
  go_upto_region 24 with (go_at_call 33; (with_reducible refine SP.out.mono ?_); rintro e wa ⟨rfl, hba⟩)
  have KZ := KZ.below hba KZ.lt
  clear z0 z1 z2 z3 z4 z5 z6 z7 z8 z9 z10 z11 z12 z13 z14 KP SP
  obtain ⟨z0, z1, z2, z3, z4, z5, z6, z7, z8, z9, z10, z11, z12, z13, z14⟩ := qrow KZ
  go_upto_region 25 with (go_at_call 33; (with_reducible refine (SZ.out _ hba).mono ?_); rintro e wb ⟨rfl, hbb⟩)
  have hSb : Below VS.heap.size VS wb := bchain hba hbb
  have KX := KX.below hSb KX.lt
  have KR := KR.below hSb KR.lt
  have KS := KS.below hSb KS.lt
  have hVb : Below V.heap.size V wb := bchain hVS2 hSb
  have HSB2 := Lib.hid hSb
  clear z0 z1 z2 z3 z4 z5 z6 z7 z8 z9 z10 z11 z12 z13 z14 KZ SZ hba hbb hSb
  refine Rel.wp_region_rel (fun wx => Below wb.heap.size wb wx) (fun wa wb => Below wa.heap.size wa wb) (by kernel_rfl) (by kernel_rfl) (bdrew (Below.refl _ _)) (fun _ => Below.refl _ _) ?_
  apply Rel.rel_one2 1 [] rfl (by kernel_rfl) (by kernel_rfl)
  case hs =>
    intro wx hx
    have z0 := (show wx.cell? ⟨gx, 0, none⟩ = some (xo0) from (KX.below hx KX.lt).cell 0)
    have z1 := (show wx.cell? ⟨gx, 1, none⟩ = some (xo1) from (KX.below hx KX.lt).cell 1)
    have z2 := (show wx.cell? ⟨gx, 2, none⟩ = some (xo2) from (KX.below hx KX.lt).cell 2)
    have z3 := (show wx.cell? ⟨gx, 3, none⟩ = some (xo3) from (KX.below hx KX.lt).cell 3)
    have z4 := (show wx.cell? ⟨gx, 4, none⟩ = some (xo4) from (KX.below hx KX.lt).cell 4)
    have z5 := (show wx.cell? ⟨gx, 5, none⟩ = some (xo5) from (KX.below hx KX.lt).cell 5)
    have z6 := (show wx.cell? ⟨gx, 6, none⟩ = some (xo6) from (KX.below hx KX.lt).cell 6)
    have z7 := (show wx.cell? ⟨gx, 7, none⟩ = some (xo7) from (KX.below hx KX.lt).cell 7)
    have z8 := (show wx.cell? ⟨gx, 8, none⟩ = some (xo8) from (KX.below hx KX.lt).cell 8)
    have z9 := (show wx.cell? ⟨gx, 9, none⟩ = some (xo9) from (KX.below hx KX.lt).cell 9)
    have z10 := (show wx.cell? ⟨gx, 10, none⟩ = some (xo10) from (KX.below hx KX.lt).cell 10)
    have z11 := (show wx.cell? ⟨gx, 11, none⟩ = some (xo11) from (KX.below hx KX.lt).cell 11)
    have z12 := (show wx.cell? ⟨gx, 12, none⟩ = some (xo12) from (KX.below hx KX.lt).cell 12)
    have z13 := (show wx.cell? ⟨gx, 13, none⟩ = some (xo13) from (KX.below hx KX.lt).cell 13)
    have z14 := (show wx.cell? ⟨gx, 14, none⟩ = some (xo14) from (KX.below hx KX.lt).cell 14)
    try simp only [Act.put, Base.s1, Base.s2, Base.s3]
    intro KK hK
    go_simp
    exact hK _ _ hx (Below.refl _ _) rfl
  apply Rel.rel_one2 2 [] rfl (by kernel_rfl) (by kernel_rfl)
  case hs =>
    intro wx hx
    try simp only [Act.put, Base.s1, Base.s2, Base.s3]
    intro KK hK
    go_simp
    exact hK _ _ hx (Below.refl _ _) rfl
  apply Rel.rel_one2 3 [] rfl (by kernel_rfl) (by kernel_rfl)
  case hs =>
    intro wx hx
    try simp only [Act.put, Base.s1, Base.s2, Base.s3]
    intro KK hK
    go_simp
    exact hK _ _ hx (Below.refl _ _) rfl
  apply Rel.rel_one2 4 [(2, 198)] rfl (by kernel_rfl) (by kernel_rfl)
  case hs =>
    intro wx hx
    rintro _ rfl
    try simp only [Act.put, Base.s1, Base.s2, Base.s3]
    intro KK hK
    go_simp
    go_at_call 38
    refine (lit_any Wt wx HW.out).mono ?_
    rintro e wy ⟨rfl, hby⟩
    exact hK (.string (litS Wt)) wy (bchain hx hby) hby rfl
  apply Rel.rel_one2 5 [(3, 199)] rfl (by kernel_rfl) (by kernel_rfl)
  case hs =>
    intro wx hx
    rintro _ rfl
    try simp only [Act.put, Base.s1, Base.s2, Base.s3]
    intro KK hK
    go_simp
    rw [if_neg (by have h3 := star_size Wt; have h4 := HW2.out; have h5 : (litS Wt).size = (litF Wt Wt.size).length := List.size_toArray .. ; unfold maxLen at h4; omega)]
    exact hK (.string (starS Wt)) wx hx (Below.refl _ _) rfl
  apply Rel.rel_one2 6 [(1, 197), (4, 200)] rfl (by kernel_rfl) (by kernel_rfl)
  case hs =>
    intro wx hx
    rintro _ rfl _ rfl
    try simp only [Act.put, Base.s1, Base.s2, Base.s3]
    intro KK hK
    go_simp
    exact hK (.agg #[.int .i64 7, .int .i64 j, .string (starS Wt), .slice none 0 0, .slice none 0 0, .int .i64 0, .int .u64 0, .bool false, .bool false, .string ⟨#[]⟩, .bool false, .bool false, .string ⟨#[]⟩, .slice none 0 0, .slice none 0 0]) wx hx (Below.refl _ _) rfl
  apply Rel.rel_one2 7 [(0, 196), (5, 201)] rfl (by kernel_rfl) (by kernel_rfl)
  case hs =>
    intro wx hx
    rintro _ rfl _ rfl
    try simp only [Act.put, Base.s1, Base.s2, Base.s3]
    intro KK hK
    go_simp
    go_at_call 33
    (with_reducible refine (SX.out wx (bchain HSB2.out hx)).mono ?_)
    rintro e wy ⟨rfl, hby⟩
    exact hK (.bool true) wy (bchain hx hby) hby rfl
  apply Rel.rel_one2 8 [(6, 202)] rfl (by kernel_rfl) (by kernel_rfl)
  case hs =>
    intro wx hx
    rintro _ rfl
    try simp only [Act.put, Base.s1, Base.s2, Base.s3]
    intro KK hK
    go_simp
    exact hK _ _ hx (Below.refl _ _) rfl
  refine Rel.rel_end [(0, 196), (1, 197), (2, 198), (3, 199), (4, 200), (5, 201), (6, 202), (7, 30)] (by kernel_rfl) (by kernel_rfl) ?_
  intro wx hx
  rintro _ rfl _ rfl _ rfl _ rfl _ rfl _ rfl _ rfl _ rfl
  try simp only [Act.put, Base.s1, Base.s2, Base.s3]
  refine Rel.valsD_ret ?_
  have KR := KR.below hx KR.lt
  have KS := KS.below hx KS.lt
  have SRX := SR.out _ (bchain HSB2.out hx)
  have hVx : Below w.heap.size w wx := bchain hB (bchain hVb hx)
  clear KX SX SR
  have hk := ‹∀ (a : Act) (w : World), Code.wp Tryz.prog _ _ a w → _›
  refine hk _ _ ?_
  refine cast_code (c := tailC 26) (by kernel_rfl) ?_
  exact last hVx KR KS SRX
end Go.Proofs.YtkcfgcdlnojaeaaGreatDoor.FoldsText
