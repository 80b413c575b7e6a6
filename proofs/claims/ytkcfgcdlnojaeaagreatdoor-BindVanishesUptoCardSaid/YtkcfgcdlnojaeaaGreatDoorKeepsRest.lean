/-
  The walk of concordlaw16.keeps from region 11 on: both trees are bound.
-/
import Derived.Test.YtkcfgcdlnojaeaaGreatDoorMemOf
import Derived.Test.YtkcfgcdlnojaeaaGreatDoorQrySame
import Derived.Test.YtkcfgcdlnojaeaaGreatDoorDNodT
set_option linter.unusedVariables false
set_option linter.unusedSimpArgs false
namespace Go.Proofs.YtkcfgcdlnojaeaaGreatDoor.KeepsRest
set_option maxRecDepth 100000
open Go.RowKit Go.PlainAid Base Query BindBase NodeTerm NodeTree NodePlain TextPlain NodeWalk Binder WordPlain WordsWalk StopsWalk WordsOne OpenField FieldPlain SchemaCheck WordsAny WordsMany LeafBase TreePlain BindTop MemOf Small

theorem same_true {q : Qry} {cs cs2 : List Value} {w : World} (h1 : QVal w w.heap.size cs q) (h2 : QVal w w.heap.size cs2 q) : Calls Tryz.prog 33 #[.agg cs.toArray, .agg cs2.toArray] w fun e w' => e = .returned (.bool true) ∧ Below w.heap.size w w' :=
  (QrySame.same_any q q cs cs2 w.heap.size w h1 h2 (Nat.le_refl _)).mono fun e w' ⟨⟨r, he, hr⟩, hb⟩ => ⟨by rw [he, hr.2 rfl], hb⟩
theorem bind_tree {fs : List Fld} {A : Option Addr} {c B0 B : Nat} {a1 a2 : Addr} {q : Nod} {cs : List Value} {w : World} (m : Mem fs A B0 a1 a2 w) (hnm : ∀ f ∈ fs, f.nm.size ≤ 9223372036854775807) (hlen : fs.length ≤ 9223372036854775807)
    (hq : NVal w B cs q) (hB : B ≤ w.heap.size) (hg : schemaB fs = true) (gq : nodB q = true) (hbk : q.bulk ≤ 2097152) :
    Calls Tryz.prog 16 #[.agg #[.slice A fs.length c], .agg cs.toArray] w (IsT (topQ fs q) .nilIface w) := by
  have h := bindTop_any fs A c q cs B B0 a1 a2 w hq hB hbk m.hB0 m.h1 hnm hlen m.ht m.h0 m.ha m.h2 m.he1 m.h3 m.he2 m.h4
  unfold bindR bindE at h
  rw [gq, hg, if_pos ⟨rfl, rfl⟩, if_pos rfl, if_pos rfl] at h
  exact h
/-! The code from a region on. -/
def fromR (k : Nat) : Code → Option Code
  | .seq a c => match a with
    | .region r _ _ => if r = k then some (.seq a c) else fromR k c
    | a => match fromR k a with
      | some x => some x
      | none => fromR k c
  | .scope c => fromR k c
  | .block _ c => fromR k c
  | _ => none
noncomputable def tailC (k : Nat) : Code := ((Tryz.f36.body).bind (fromR k)).getD .skip
theorem cast_code {P : Program} {c c' : Code} {Q : Exit → Act → World → Prop} {a : Act} {w : World} (e : c = c') (h : Code.wp P c Q a w) : Code.wp P c' Q a w := e ▸ h
set_option maxHeartbeats 8000000 in
theorem rest {u0 u1 u2 u3 u4 u7 u8 u9 u10 u12 u13 u14 u15 u16 u17 u18 u19 u20 u21 u22 u23 u24 u25 u26 u27 u28 u29 u30 u31 u32 u33 u34 u35 u36 u37 u38 u39 u40 u41 u42 u43 u44 u45 u46 u47 u48 u49 u50 u51 u52 u53 u54 u55 u56 u57 u58 u59 u60 u61 u62 u63 u64 u65 u66 u67 u68 u69 u70 u71 u72 u73 u74 u75 u76 u77 u78 u79 u80 u81 u82 u83 u84 u85 u86 u87 u88 u89 u90 u91 u92 u93 u94 u95 u96 u97 u98 : Value} {w V : World} {fl c gn gm : Nat} {fgo : Option Addr} {no0 no1 no2 no3 no4 no5 no6 no7 no8 no9 no10 no11 mo0 mo1 mo2 mo3 mo4 mo5 mo6 mo7 mo8 mo9 mo10 mo11 : Value} {tq : Qry} (hB : Below w.heap.size w V) (s0 : V.cell? ⟨w.heap.size, 0, none⟩ = some (.slice fgo fl c)) (KN : Blk V gn 39 #[no0, no1, no2, no3, no4, no5, no6, no7, no8, no9, no10, no11]) (KM : Blk V gm 39 #[mo0, mo1, mo2, mo3, mo4, mo5, mo6, mo7, mo8, mo9, mo10, mo11])
    (BN : ∀ W, Below V.heap.size V W → Calls Tryz.prog 16 #[.agg #[.slice fgo fl c], .agg #[no0, no1, no2, no3, no4, no5, no6, no7, no8, no9, no10, no11]] W (IsT tq .nilIface W)) (BM : ∀ W, Below V.heap.size V W → Calls Tryz.prog 16 #[.agg #[.slice fgo fl c], .agg #[mo0, mo1, mo2, mo3, mo4, mo5, mo6, mo7, mo8, mo9, mo10, mo11]] W (IsT tq .nilIface W)) :
    Code.wp Tryz.prog (tailC 11) (bodyPost Tryz.prog Tryz.f36 fun e w' => e = .returned (.bool true) ∧ Below w.heap.size w w') ⟨#[u0, u1, u2, u3, u4, .pointer (some ⟨w.heap.size, 0, none⟩), .pointer (some ⟨gn, 0, none⟩), u7, u8, u9, u10, .pointer (some ⟨gm, 0, none⟩), u12, u13, u14, u15, u16, u17, u18, u19, u20, u21, u22, u23, u24, u25, u26, u27, u28, u29, u30, u31, u32, u33, u34, u35, u36, u37, u38, u39, u40, u41, u42, u43, u44, u45, u46, u47, u48, u49, u50, u51, u52, u53, u54, u55, u56, u57, u58, u59, u60, u61, u62, u63, u64, u65, u66, u67, u68, u69, u70, u71, u72, u73, u74, u75, u76, u77, u78, u79, u80, u81, u82, u83, u84, u85, u86, u87, u88, u89, u90, u91, u92, u93, u94, u95, u96, u97, u98], []⟩ V := by
  unfold tailC
  conv => arg 2; whnf
  have HBN := Lib.hid BN
  have HBM := Lib.hid BM
  have lt0 : w.heap.size < V.heap.size := World.block_lt_of_cell? V _ s0
  have HS0 := Lib.hid s0
  obtain ⟨z0, z1, z2, z3, z4, z5, z6, z7, z8, z9, z10, z11⟩ := nrow KN
  clear BN BM
  go_upto_region 12 with (go_at_call 16; (with_reducible refine (HBN.out _ (Below.refl _ _)).mono ?_); rintro e vp ⟨cs, rfl, hFp, hbp⟩; obtain ⟨p, pk, P1, P2, P3, P4, pc1, pc2, pc3, pc4, pkc, pw, pl, p1, p2, p3, p4, p5⟩ := hFp.val; clear pw pl p1 p2 p3 p4 p5)
  obtain ⟨Vp, hVp⟩ : ∃ W, W = vp.alloc (.cells #[.int .i64 p.kind, .int .i64 p.field, .string p.text, .slice P1 p.terms.length pc1, .slice P2 p.offs.length pc2, .int .i64 p.n, .int .u64 p.weight, .bool p.lo.op, .bool p.lo.inn, .string p.lo.text, .bool p.hi.op, .bool p.hi.inn, .string p.hi.text, .slice P3 p.occur.length pc3, .slice P4 pk.length pc4] 29) := ⟨_, rfl⟩
  rw [← hVp]
  have Kp : Blk Vp vp.heap.size 29 #[.int .i64 p.kind, .int .i64 p.field, .string p.text, .slice P1 p.terms.length pc1, .slice P2 p.offs.length pc2, .int .i64 p.n, .int .u64 p.weight, .bool p.lo.op, .bool p.lo.inn, .string p.lo.text, .bool p.hi.op, .bool p.hi.inn, .string p.hi.text, .slice P3 p.occur.length pc3, .slice P4 pk.length pc4] := by rw [hVp]; exact Blk.new vp _ _
  have Fp : Fresh 0 Vp [.int .i64 p.kind, .int .i64 p.field, .string p.text, .slice P1 p.terms.length pc1, .slice P2 p.offs.length pc2, .int .i64 p.n, .int .u64 p.weight, .bool p.lo.op, .bool p.lo.inn, .string p.lo.text, .bool p.hi.op, .bool p.hi.inn, .string p.hi.text, .slice P3 p.occur.length pc3, .slice P4 pk.length pc4] (.mk p pk) := by rw [hVp]; exact (Fresh.below hFp (balloc (Below.refl _ _) _)).mono (Nat.zero_le _)
  have hbVp : Below V.heap.size V Vp := by rw [hVp]; exact balloc hbp _
  have KM2 := KM.below hbVp KM.lt
  clear s0 z0 z1 z2 z3 z4 z5 z6 z7 z8 z9 z10 z11 hVp hFp hbp KN KM
  generalize Value.tuple #[Value.agg #[.int .i64 p.kind, .int .i64 p.field, .string p.text, .slice P1 p.terms.length pc1, .slice P2 p.offs.length pc2, .int .i64 p.n, .int .u64 p.weight, .bool p.lo.op, .bool p.lo.inn, .string p.lo.text, .bool p.hi.op, .bool p.hi.inn, .string p.hi.text, .slice P3 p.occur.length pc3, .slice P4 pk.length pc4], Value.nilIface] = gtp
  generalize Value.agg #[.int .i64 p.kind, .int .i64 p.field, .string p.text, .slice P1 p.terms.length pc1, .slice P2 p.offs.length pc2, .int .i64 p.n, .int .u64 p.weight, .bool p.lo.op, .bool p.lo.inn, .string p.lo.text, .bool p.hi.op, .bool p.hi.inn, .string p.hi.text, .slice P3 p.occur.length pc3, .slice P4 pk.length pc4] = gap
  generalize Value.agg #[no0, no1, no2, no3, no4, no5, no6, no7, no8, no9, no10, no11] = gan
  have s0 : Vp.cell? ⟨w.heap.size, 0, none⟩ = some (.slice fgo fl c) := (hbVp.cell (p := ⟨w.heap.size, 0, none⟩) lt0).trans HS0.out
  obtain ⟨z0, z1, z2, z3, z4, z5, z6, z7, z8, z9, z10, z11⟩ := nrow KM2
  go_upto_region 13 with (go_at_call 16; (with_reducible refine (HBM.out _ hbVp).mono ?_); rintro e vr ⟨cs, rfl, hFr, hbr⟩; obtain ⟨r, rk, R1, R2, R3, R4, rc1, rc2, rc3, rc4, rkc, rw, rl, r1, r2, r3, r4, r5⟩ := hFr.val; clear rw rl r1 r2 r3 r4 r5)
  obtain ⟨Vr, hVr⟩ : ∃ W, W = vr.alloc (.cells #[.int .i64 p.kind, .int .i64 p.field, .string p.text, .slice R1 p.terms.length rc1, .slice R2 p.offs.length rc2, .int .i64 p.n, .int .u64 p.weight, .bool p.lo.op, .bool p.lo.inn, .string p.lo.text, .bool p.hi.op, .bool p.hi.inn, .string p.hi.text, .slice R3 p.occur.length rc3, .slice R4 pk.length rc4] 29) := ⟨_, rfl⟩
  rw [← hVr]
  have Kr : Blk Vr vr.heap.size 29 #[.int .i64 p.kind, .int .i64 p.field, .string p.text, .slice R1 p.terms.length rc1, .slice R2 p.offs.length rc2, .int .i64 p.n, .int .u64 p.weight, .bool p.lo.op, .bool p.lo.inn, .string p.lo.text, .bool p.hi.op, .bool p.hi.inn, .string p.hi.text, .slice R3 p.occur.length rc3, .slice R4 pk.length rc4] := by rw [hVr]; exact Blk.new vr _ _
  have Fr : Fresh 0 Vr [.int .i64 p.kind, .int .i64 p.field, .string p.text, .slice R1 p.terms.length rc1, .slice R2 p.offs.length rc2, .int .i64 p.n, .int .u64 p.weight, .bool p.lo.op, .bool p.lo.inn, .string p.lo.text, .bool p.hi.op, .bool p.hi.inn, .string p.hi.text, .slice R3 p.occur.length rc3, .slice R4 pk.length rc4] (.mk p pk) := by rw [hVr]; exact (Fresh.below hFr (balloc (Below.refl _ _) _)).mono (Nat.zero_le _)
  have hbVr : Below Vp.heap.size Vp Vr := by rw [hVr]; exact balloc hbr _
  have Kp2 := Kp.below hbVr Kp.lt
  have Fp2 := Fresh.below Fp hbVr
  clear s0 z0 z1 z2 z3 z4 z5 z6 z7 z8 z9 z10 z11 hVr hFr hbr KM2 Kp Fp
  generalize Value.tuple #[Value.agg #[.int .i64 p.kind, .int .i64 p.field, .string p.text, .slice R1 p.terms.length rc1, .slice R2 p.offs.length rc2, .int .i64 p.n, .int .u64 p.weight, .bool p.lo.op, .bool p.lo.inn, .string p.lo.text, .bool p.hi.op, .bool p.hi.inn, .string p.hi.text, .slice R3 p.occur.length rc3, .slice R4 pk.length rc4], Value.nilIface] = gtr
  generalize Value.agg #[.int .i64 p.kind, .int .i64 p.field, .string p.text, .slice R1 p.terms.length rc1, .slice R2 p.offs.length rc2, .int .i64 p.n, .int .u64 p.weight, .bool p.lo.op, .bool p.lo.inn, .string p.lo.text, .bool p.hi.op, .bool p.hi.inn, .string p.hi.text, .slice R3 p.occur.length rc3, .slice R4 pk.length rc4] = gar
  generalize Value.agg #[mo0, mo1, mo2, mo3, mo4, mo5, mo6, mo7, mo8, mo9, mo10, mo11] = gam
  have SS := Lib.hid (same_true (cs := [.int .i64 p.kind, .int .i64 p.field, .string p.text, .slice P1 p.terms.length pc1, .slice P2 p.offs.length pc2, .int .i64 p.n, .int .u64 p.weight, .bool p.lo.op, .bool p.lo.inn, .string p.lo.text, .bool p.hi.op, .bool p.hi.inn, .string p.hi.text, .slice P3 p.occur.length pc3, .slice P4 pk.length pc4]) (cs2 := [.int .i64 p.kind, .int .i64 p.field, .string p.text, .slice R1 p.terms.length rc1, .slice R2 p.offs.length rc2, .int .i64 p.n, .int .u64 p.weight, .bool p.lo.op, .bool p.lo.inn, .string p.lo.text, .bool p.hi.op, .bool p.hi.inn, .string p.hi.text, .slice R3 p.occur.length rc3, .slice R4 pk.length rc4]) Fp2.val Fr.val)
  obtain ⟨z0, z1, z2, z3, z4, z5, z6, z7, z8, z9, z10, z11, z12, z13, z14⟩ := qrow Kp2
  obtain ⟨y0, y1, y2, y3, y4, y5, y6, y7, y8, y9, y10, y11, y12, y13, y14⟩ := qrow Kr
  go_wp2_with (go_at_call 33; refine SS.out.mono ?_; rintro e wd ⟨rfl, hbd⟩)
  go_ret
  exact ⟨rfl, bchain hB (bchain hbVp (bchain hbVr hbd))⟩
end Go.Proofs.YtkcfgcdlnojaeaaGreatDoor.KeepsRest
