/-
  verify.heights from its second loop on: a good program's heights.
  verify.heights over a good program.
  verify.Check where the heights are told.
-/
import Derived.Test.YtfpikilhbkeajaaGreatDoorCVer
import Derived.Test.YtfpikilhbkeajaaGreatDoorCDec
import Derived.Lib.SliceRun
set_option linter.unusedVariables false
set_option linter.unusedSimpArgs false
namespace Go.Proofs.YtfpikilhbkeajaaGreatDoor.VerRounds
set_option maxRecDepth 100000
open Go.RowKit Go.PlainAid Base Query QrySize EmitPlain EmitBase LeafMap AllLeaves EmitExt ProgTail VerPlain VerOps VerNear VerTables HitBase TabMem VerMeet VerPass CodePlain

theorem insCs_at : ∀ (a : List Ins) (k : Nat) (x : Ins), a[k]? = some x → (insCs a)[k * 3]? = some (.int .i64 x.op) ∧ (insCs a)[k * 3 + 1]? = some (.int .u64 x.a) ∧ (insCs a)[k * 3 + 2]? = some (.int .u64 x.b)
  | [], k, x, e => by simp at e
  | y :: r, 0, x, e => by simp at e; subst e; exact ⟨rfl, rfl, rfl⟩
  | y :: r, k + 1, x, e => by
    have := insCs_at r k x (by simpa using e)
    rw [show (k + 1) * 3 = k * 3 + 1 + 1 + 1 by omega]
    exact this
theorem insCs_ne {l : List Ins} {i : Nat} {x : Ins} (h : l[i]? = some x) : insCs l ≠ [] := fun e => by have := (insCs_at l i x h).1; rw [e] at this; simp at this
noncomputable def tailH (k : Nat) : Code := ((Tryz.f36.body).bind (fromR k)).getD .skip
def HR (w : World) (n : Nat) (e : Ending) (w' : World) : Prop := ∃ (RB c : Nat) (most : Int), e = .returned (.tuple #[.slice (some ⟨RB, 0, none⟩) n c, .int .i64 most]) ∧ 1 ≤ most ∧ Below w.heap.size w w'
structure HW (w W : World) (PR VB RB : Nat) (n : Nat) (PC : Array Value) (AL : Option Addr) (L : List Ins) : Prop where
  prog : Blk W PR 40 PC
  var_ : Blk W VB 23 #[.slice (some ⟨RB, 0, none⟩) n n]
  code : Slc W RB AL (insCs L)
  ne : PR ≠ RB ∧ VB ≠ RB
  old : w.heap.size ≤ RB ∧ RB ≤ W.heap.size
  bel : Below w.heap.size w W
theorem HW.foot {w W W' : World} {PR VB RB n : Nat} {PC : Array Value} {AL : Option Addr} {L : List Ins} (h : HW w W PR VB RB n PC AL L) (hf : Foot W W' (fun j => j ≠ RB)) : HW w W' PR VB RB n PC AL L :=
  ⟨hf.blk h.prog h.ne.1, hf.blk h.var_ h.ne.2, foot_slc hf h.code h.old.2 (fun j hj => by omega), h.ne, ⟨h.old.1, Nat.le_trans h.old.2 hf.size⟩, h.bel.trans (foot_below hf (fun j hj => by have := h.old.1; omega) h.bel.size)⟩

set_option maxHeartbeats 16000000 in
theorem h13 (M : Lim) (hM : M.na < 9223372036854775808 ∧ M.nc < 9223372036854775808 ∧ M.nn < 9223372036854775808) (AA AC AN AV AK : Option Addr) (cA cC cN cV cK nv nk : Nat) (all : Bool) (L : List Ins) (m n : Nat) (H : Nat → Int) (L0 : List Int) (PR VB RB : Nat) (AL : Option Addr) (cL : Nat) (w W : World) (HP : Hid (Pass M L m H)) (hn : n = m + 1) (hL : n ≤ 1099511627776) (HX : Hid (HW w W PR VB RB n #[.slice AA M.na cA, .slice AC M.nc cC, .slice AN M.nn cN, .bool all, .slice AV nv cV, .slice AK nk cK] AL L)) (HS : Hid (Hs H m 0 L0)) (HRB : Hid (Blk W RB 3 (ints L0).toArray))
    (u0 u2 u3 u5 u7 u10 u11 u12 u13 u14 u15 u16 u17 u18 u19 u20 u21 u22 u23 u24 u25 u26 u27 u28 u29 u30 u31 u32 u33 u34 u35 u36 u37 u38 u39 u40 u41 u42 u43 u44 u45 u46 u47 u48 u49 u50 u51 u52 u53 u54 u55 u56 u57 u58 u59 u60 u61 u62 u63 u64 u65 u66 u67 u68 u69 u70 u71 u72 u73 u74 u75 u76 u77 u78 u79 u80 u81 u82 u83 u84 u85 u86 u87 u88 u89 u90 u91 u92 u93 u94 u95 u96 u97 u98 u99 u100 u101 u102 u103 u104 u105 u106 u107 u108 u109 u110 u111 u112 u113 u114 u115 u116 u117 u118 u119 u120 u121 u122 u123 u124 u125 u126 u127 u128 u129 : Value) :
    Code.wp Tryz.prog (tailH 13) (bodyPost Tryz.prog Tryz.f36 (HR w n)) ⟨#[u0, .pointer (some ⟨PR, 0, none⟩), u2, u3, .slice AL n cL, u5, .pointer (some ⟨VB, 0, none⟩), u7, .int .i64 0, .func (.func 63) #[] #[.pointer (some ⟨VB, 0, none⟩)], u10, u11, u12, u13, u14, u15, u16, u17, u18, u19, u20, u21, u22, u23, u24, u25, u26, u27, u28, u29, u30, u31, u32, u33, u34, u35, u36, u37, u38, u39, u40, u41, u42, u43, u44, u45, u46, u47, u48, u49, u50, u51, u52, u53, u54, u55, u56, u57, u58, u59, u60, u61, u62, u63, u64, u65, u66, u67, u68, u69, u70, u71, u72, u73, u74, u75, u76, u77, u78, u79, u80, u81, u82, u83, u84, u85, u86, u87, u88, u89, u90, u91, u92, u93, u94, u95, u96, u97, u98, u99, u100, u101, u102, u103, u104, u105, u106, u107, u108, u109, u110, u111, u112, u113, u114, u115, u116, u117, u118, u119, u120, u121, u122, u123, u124, u125, u126, u127, u128, u129], []⟩ W := by
  have hmf : ∀ (fn : Fn) (first cap : Array Value) (w : World), (Instr.makeFunc fn first cap).run Tryz.prog w = .ok (.func fn first cap) w := fun _ _ _ _ => rfl
  have OPS := fun (x : Ins) (ho : Opd M x ∨ x.op = 0) (W' : World) => operands_ok M x AA AC AN AV AK cA cC cN cV cK nv nk all W' ho hM
  unfold insV at OPS
  have HE := Lib.hid (show n = L0.length by rw [HS.out.len, hn])
  have HNE := HX.out.ne
  have hn1 : n ≤ m + 1 := by omega
  have hn2 : m + 1 ≤ n := by omega
  clear hn
  unfold tailH
  conv => arg 2; whnf
  go_wp2_with fail
  go_loopw [50, 8] (fun i mo wr => ∃ k : Nat, ∃ most : Int, ∃ Lr : List Int, k ≤ m ∧ i = .int .i64 k ∧ mo = .int .i64 most ∧ 0 ≤ most ∧ most ≤ n ∧ Hs H m k Lr ∧ Blk wr RB 3 (ints Lr).toArray ∧ Foot W wr (fun j => j ≠ RB)) (fun i _ _ => n - (intOf i).toNat)
  case atStart => exact ⟨0, 0, L0, Nat.zero_le _, rfl, rfl, Int.le_refl _, by omega, HS.out, HRB.out, Foot.refl _ _⟩
  case round =>
    obtain ⟨k, most, Lr, hk, rfl, rfl, hm0, hm1, hs, hr, hf⟩ := hrel
    have hx := HX.out.foot hf
    have HHS := Lib.hid hs
    have HHR := Lib.hid hr
    have HF := Lib.hid hf
    have HHX := Lib.hid hx
    have hHk := HP.out.rng k hk
    obtain ⟨ha, hha⟩ : ∃ a, a = H k := ⟨_, rfl⟩
    have hcur := hs.cur
    rw [← hha] at hcur hHk
    have i1 : (k : Int) < (n : Int) := by omega
    have i3 : (k : Int) < 9223372036854775807 := by omega
    have hkn : k < n := by omega
    rcases Nat.lt_or_ge k m with hlt | hge
    · obtain ⟨⟨op, xa, xb⟩, hxk⟩ : ∃ x, L[k]? = some x := ⟨_, List.getElem?_eq_getElem (by rw [HP.out.len]; omega)⟩
      obtain ⟨hopd, heff, hskip⟩ := HP.out.step k _ hlt hxk
      have hopr := hopd.op
      have hsml := hopd.small
      have hHk1 := HP.out.rng (k + 1) hlt
      obtain ⟨hb, hhb⟩ : ∃ x, x = H (k + 1) := ⟨_, rfl⟩
      rw [← hha, ← hhb] at heff
      rw [← hhb] at hHk1 hskip
      simp only at hopr hsml hskip
      obtain ⟨g, o, rfl, hg, hc⟩ := hx.code (insCs_ne hxk)
      obtain ⟨c0, c1, c2⟩ := insCs_at L k _ hxk
      have x0 : wr.cell? ⟨g, o + k * 3, none⟩ = some (.int .i64 op) := hc _ _ c0
      have x1 : wr.cell? ⟨g, o + k * 3 + 1, none⟩ = some (.int .u64 xa) := hc _ _ c1
      have x2 : wr.cell? ⟨g, o + k * 3 + 2, none⟩ = some (.int .u64 xb) := hc _ _ c2
      obtain ⟨IB, hIB⟩ : ∃ b, b = wr.heap.size := ⟨_, rfl⟩
      obtain ⟨W1, hW1⟩ : ∃ V, V = wr.alloc (.cells #[.int .i64 op, .int .u64 xa, .int .u64 xb] 84) := ⟨_, rfl⟩
      have b1 : Below wr.heap.size wr W1 := by rw [hW1]; exact Base.bel
      have KI : Blk W1 IB 84 #[.int .i64 op, .int .u64 xa, .int .u64 xb] := by rw [hW1, hIB]; exact Blk.new _ _ _
      have HF1 := Lib.hid (foot_chain hf b1)
      have KR1 : Blk W1 RB 3 (ints Lr).toArray := hr.below b1 hr.lt
      have X1 := hx.foot (Foot.ofBelow b1 _)
      have hIR : IB ≠ RB := by have := hr.lt; omega
      have I1 : IB < W1.heap.size := KI.lt
      have LW := Lib.hid (show ∀ V, Below W1.heap.size W1 V → (V.cell? ⟨IB, 0, none⟩ = some (.int .i64 op) ∧ V.cell? ⟨IB, 1, none⟩ = some (.int .u64 xa) ∧ V.cell? ⟨IB, 2, none⟩ = some (.int .u64 xb) ∧ V.cell? ⟨VB, 0, none⟩ = some (.slice (some ⟨RB, 0, none⟩) n n) ∧ V.cell? ⟨RB, k, none⟩ = some (.int .i64 ha) ∧ V.cell? ⟨PR, 0, none⟩ = some (.slice AA M.na cA) ∧ V.cell? ⟨PR, 1, none⟩ = some (.slice AC M.nc cC) ∧ V.cell? ⟨PR, 2, none⟩ = some (.slice AN M.nn cN) ∧ V.cell? ⟨PR, 3, none⟩ = some (.bool all) ∧ V.cell? ⟨PR, 4, none⟩ = some (.slice AV nv cV) ∧ V.cell? ⟨PR, 5, none⟩ = some (.slice AK nk cK)) from fun V hV => by
        have ki := KI.below hV KI.lt
        obtain ⟨s0, s1, s2, s3, s4, s5⟩ := six (X1.prog.below hV X1.prog.lt)
        exact ⟨ki.cell 0, ki.cell 1, ki.cell 2, (X1.var_.below hV X1.var_.lt).cell 0, by rw [(KR1.below hV KR1.lt).cell k, List.getElem?_toArray]; exact VerNear.ints_at hcur, s0, s1, s2, s3, s4, s5⟩)
      obtain ⟨t0, t1, t2, t3, t4, _⟩ := LW.out W1 (Below.refl _ _)
      have z0 := Bw.cell (B := W1.heap.size) t0 I1
      have z1 := Bw.cell (B := W1.heap.size) t1 I1
      have z2 := Bw.cell (B := W1.heap.size) t2 I1
      have z3 := Bw.cell (B := W1.heap.size) t3 X1.var_.lt
      have z4 := Bw.cell (B := W1.heap.size) t4 KR1.lt
      have AT : ∀ q : Bw W1.heap.size W1, Calls Tryz.prog 64 #[.agg #[.int .i64 op, .int .u64 xa, .int .u64 xb], .int .i64 ha] q.at_ fun e w' => e = .returned (.tuple #[.int .i64 hb, .bool true]) ∧ ∃ q' : Bw W1.heap.size W1, w' = q'.at_ := fun q => calls_bw (Nat.le_refl _) (effect_ok ⟨op, xa, xb⟩ ha hb q.at_ (by simp only; omega) (by simp only; omega) heff (by omega))
      obtain ⟨y, hy⟩ : ∃ y, Lr[k + 1]? = some y := ⟨_, List.getElem?_eq_getElem (by rw [hs.len]; omega)⟩
      have hyx := hs.all (k + 1) y hy
      rw [← hhb] at hyx
      have MTW := Lib.hid (show ∀ V, Below W1.heap.size W1 V → Calls Tryz.prog 63 #[.int .i64 ((k : Int) + 1), .int .i64 hb, .pointer (some ⟨VB, 0, none⟩)] V fun e w' => e = .returned (.bool true) ∧ Blk w' RB 3 (ints (Lr.set (k + 1) hb)).toArray ∧ Foot V w' (fun j => j ≠ RB) from fun V hV =>
        meet_any RB VB n n 3 Lr (k + 1) hb y V (KR1.below hV KR1.lt) (X1.var_.below hV X1.var_.lt) (by have := hs.len; omega) HNE.2 hy hyx hHk1.1 hL)
      have HS2 := Lib.hid (show Hs H m (k + 1) (Lr.set (k + 1) hb) by rw [hhb]; exact hs.set hlt rfl)
      have d1 : ((k : Int) == (n : Int) - 1) = false := by rw [beq_eq_false_iff_ne]; omega
      have d2 : (op == 0) = false := by rw [beq_eq_false_iff_ne]; omega
      have OP := Lib.hid (OPS ⟨op, xa, xb⟩ (.inl hopd))
      dsimp only at OP
      have HIB := Lib.hid hIB
      have HW1 := Lib.hid hW1
      have HKI := Lib.hid KI
      have HKR1 := Lib.hid KR1
      have HX1 := Lib.hid X1
      have HSK := Lib.hid hskip
      have HHA := Lib.hid hha
      have HHB := Lib.hid hhb
      clear hIB hW1 KI KR1 X1 hskip hha hhb hs hr hf hx hcur hxk heff hopd hc c0 c1 c2 b1 hy hyx t0 t1 t2 t3 t4
      rcases (by omega : (op ≠ 15 ∧ op ≠ 16) ∨ (op = 15 ∨ op = 16)) with hno | hyes
      · have d3 : (op == 15) = false := by rw [beq_eq_false_iff_ne]; omega
        have d4 : (op == 16) = false := by rw [beq_eq_false_iff_ne]; omega
        go_upto_region 17 with fail
        rw [← HIB.out, ← HW1.out]
        refine wp_region_bw W1.heap.size (by kernel_rfl) (by kernel_rfl) ?_
        repeat (go_big_quiet_step ((go_at_call 64; with_reducible exact AT _)))
        refine wpQuiet_nil ?_
        intro wq hw'
        obtain ⟨⟨wz, hbq⟩, hw''⟩ := hw'
        subst hw''
        obtain ⟨j0, j1, j2, _, _, j5, j6, j7, j8, j9, j10⟩ := LW.out wq hbq
        have HBQ := Lib.hid hbq
        clear hbq z0 z1 z2 z3 z4 AT
        go_wp2_with (first | (go_at_call 65; (with_reducible refine (OP.out _).mono ?_); rintro e w5 ⟨rfl, hb5⟩; have B5 := Lib.hid (bchain HBQ.out hb5); have I5 : IB < w5.heap.size := Nat.lt_of_lt_of_le I1 B5.out.size; obtain ⟨p0, p1, _, p3, p4, _⟩ := LW.out w5 B5.out; clear hb5) | (go_at_call 63; (with_reducible refine (MTW.out _ B5.out).mono ?_); rintro e w7 ⟨rfl, hr7, hf7⟩; have HR7 := Lib.hid hr7; have HF7 := Lib.hid hf7; have v0 := (hf7.cell (p := ⟨IB, 0, none⟩) I5 hIR).trans p0; clear hr7 hf7))
        go_roundw
        case rel => exact ⟨k + 1, _, _, by omega, by go_num, rfl, by omega, by omega, HS2.out, HR7.out, (foot_chain HF1.out B5.out).trans HF7.out⟩
        case measure => simp [intOf]; omega
      · obtain ⟨hs1, hs2⟩ := HSK.out hyes
        obtain ⟨na, rfl⟩ := Int.eq_ofNat_of_zero_le hsml.1
        have hna := hsml.2 (by omega)
        rw [Int.toNat_natCast] at hs1 hs2
        have d5 : decide ((n : Int) - 2 - (k : Int) < (na : Int)) = false := decide_eq_false (by omega)
        obtain ⟨y2, hy2⟩ : ∃ y, (Lr.set (k + 1) hb)[k + 1 + na]? = some y := ⟨_, List.getElem?_eq_getElem (by rw [HS2.out.len]; omega)⟩
        have hyx2 := HS2.out.all _ y2 hy2
        rw [hs2] at hyx2
        have MT2 := Lib.hid (show ∀ V, Blk V RB 3 (ints (Lr.set (k + 1) hb)).toArray → Blk V VB 23 #[.slice (some ⟨RB, 0, none⟩) n n] → Calls Tryz.prog 63 #[.int .i64 ((k : Int) + 1 + (na : Int)), .int .i64 hb, .pointer (some ⟨VB, 0, none⟩)] V fun e w' => e = .returned (.bool true) ∧ Blk w' RB 3 (ints ((Lr.set (k + 1) hb).set (k + 1 + na) hb)).toArray ∧ Foot V w' (fun j => j ≠ RB) from fun V h1 h2 =>
          meet_any RB VB n n 3 _ (k + 1 + na) hb y2 V h1 h2 (by have := HS2.out.len; omega) HNE.2 hy2 hyx2 hHk1.1 hL)
        have HS3 := Lib.hid (show Hs H m (k + 1) ((Lr.set (k + 1) hb).set (k + 1 + na) hb) from HS2.out.set2 (j := k + 1 + na) (by omega) hs2.symm)
        have i5 : (k : Int) + 1 + (na : Int) < 9223372036854775808 := by omega
        clear hs1 hs2 hy2 hyx2
        rcases hyes with rfl | rfl
        all_goals
          go_upto_region 17 with fail
          rw [← HIB.out, ← HW1.out]
          refine wp_region_bw W1.heap.size (by kernel_rfl) (by kernel_rfl) ?_
          repeat (go_big_quiet_step ((go_at_call 64; with_reducible exact AT _)))
          refine wpQuiet_nil ?_
          intro wq hw'
          obtain ⟨⟨wz, hbq⟩, hw''⟩ := hw'
          subst hw''
          obtain ⟨j0, j1, j2, _, _, j5, j6, j7, j8, j9, j10⟩ := LW.out wq hbq
          have HBQ := Lib.hid hbq
          clear hbq z0 z1 z2 z3 z4 AT
          go_wp2_with (first | (go_at_call 65; (with_reducible refine (OP.out _).mono ?_); rintro e w5 ⟨rfl, hb5⟩; have B5 := Lib.hid (bchain HBQ.out hb5); have I5 : IB < w5.heap.size := Nat.lt_of_lt_of_le I1 B5.out.size; obtain ⟨p0, p1, _, p3, p4, _⟩ := LW.out w5 B5.out; clear hb5) | (go_at_call 63; (with_reducible refine (MTW.out _ B5.out).mono ?_); rintro e w7 ⟨rfl, hr7, hf7⟩; have HR7 := Lib.hid hr7; have HF7 := Lib.hid hf7; have v0 := (hf7.cell (p := ⟨IB, 0, none⟩) I5 hIR).trans p0; have v1 := (hf7.cell (p := ⟨IB, 1, none⟩) I5 hIR).trans p1; have HV7 := Lib.hid (hf7.blk (HX1.out.var_.below B5.out HX1.out.var_.lt) HNE.2); clear hr7 hf7) | (go_at_call 63; (with_reducible refine (MT2.out _ HR7.out HV7.out).mono ?_); rintro e w8 ⟨rfl, hr8, hf8⟩; have HR8 := Lib.hid hr8; have HF8 := Lib.hid hf8; clear hr8 hf8))
          go_roundw
          case rel => exact ⟨k + 1, _, _, by omega, by go_num, rfl, by omega, by omega, HS3.out, HR8.out, ((foot_chain HF1.out B5.out).trans HF7.out).trans HF8.out⟩
          case measure => simp [intOf]; omega
    · obtain rfl : k = m := by omega
      have hxk := HP.out.last
      have hone := HP.out.hm
      rw [← hha] at hone
      subst hone
      obtain ⟨g, o, rfl, hg, hc⟩ := hx.code (insCs_ne hxk)
      obtain ⟨c0, c1, c2⟩ := insCs_at L k _ hxk
      have x0 : wr.cell? ⟨g, o + k * 3, none⟩ = some (.int .i64 0) := hc _ _ c0
      have x1 : wr.cell? ⟨g, o + k * 3 + 1, none⟩ = some (.int .u64 0) := hc _ _ c1
      have x2 : wr.cell? ⟨g, o + k * 3 + 2, none⟩ = some (.int .u64 0) := hc _ _ c2
      obtain ⟨IB, hIB⟩ : ∃ b, b = wr.heap.size := ⟨_, rfl⟩
      obtain ⟨W1, hW1⟩ : ∃ V, V = wr.alloc (.cells #[.int .i64 0, .int .u64 0, .int .u64 0] 84) := ⟨_, rfl⟩
      have b1 : Below wr.heap.size wr W1 := by rw [hW1]; exact Base.bel
      have KI : Blk W1 IB 84 #[.int .i64 0, .int .u64 0, .int .u64 0] := by rw [hW1, hIB]; exact Blk.new _ _ _
      have HF1 := Lib.hid (foot_chain hf b1)
      have KR1 : Blk W1 RB 3 (ints Lr).toArray := hr.below b1 hr.lt
      have X1 := hx.foot (Foot.ofBelow b1 _)
      have hIR : IB ≠ RB := by have := hr.lt; omega
      have I1 : IB < W1.heap.size := KI.lt
      have LW := Lib.hid (show ∀ V, Below W1.heap.size W1 V → (V.cell? ⟨IB, 0, none⟩ = some (.int .i64 0) ∧ V.cell? ⟨IB, 1, none⟩ = some (.int .u64 0) ∧ V.cell? ⟨IB, 2, none⟩ = some (.int .u64 0) ∧ V.cell? ⟨VB, 0, none⟩ = some (.slice (some ⟨RB, 0, none⟩) n n) ∧ V.cell? ⟨RB, k, none⟩ = some (.int .i64 1) ∧ V.cell? ⟨PR, 0, none⟩ = some (.slice AA M.na cA) ∧ V.cell? ⟨PR, 1, none⟩ = some (.slice AC M.nc cC) ∧ V.cell? ⟨PR, 2, none⟩ = some (.slice AN M.nn cN) ∧ V.cell? ⟨PR, 3, none⟩ = some (.bool all) ∧ V.cell? ⟨PR, 4, none⟩ = some (.slice AV nv cV) ∧ V.cell? ⟨PR, 5, none⟩ = some (.slice AK nk cK)) from fun V hV => by
        have ki := KI.below hV KI.lt
        obtain ⟨s0, s1, s2, s3, s4, s5⟩ := six (X1.prog.below hV X1.prog.lt)
        exact ⟨ki.cell 0, ki.cell 1, ki.cell 2, (X1.var_.below hV X1.var_.lt).cell 0, by rw [(KR1.below hV KR1.lt).cell k, List.getElem?_toArray]; exact VerNear.ints_at hcur, s0, s1, s2, s3, s4, s5⟩)
      obtain ⟨t0, t1, t2, t3, t4, _⟩ := LW.out W1 (Below.refl _ _)
      have z0 := Bw.cell (B := W1.heap.size) t0 I1
      have z1 := Bw.cell (B := W1.heap.size) t1 I1
      have z2 := Bw.cell (B := W1.heap.size) t2 I1
      have z3 := Bw.cell (B := W1.heap.size) t3 X1.var_.lt
      have z4 := Bw.cell (B := W1.heap.size) t4 KR1.lt
      have AT : ∀ q : Bw W1.heap.size W1, Calls Tryz.prog 64 #[.agg #[.int .i64 0, .int .u64 0, .int .u64 0], .int .i64 1] q.at_ fun e w' => e = .returned (.tuple #[.int .i64 1, .bool true]) ∧ ∃ q' : Bw W1.heap.size W1, w' = q'.at_ := fun q => calls_bw (Nat.le_refl _) (effect_ok ⟨0, 0, 0⟩ 1 1 q.at_ (by simp only; omega) (by simp only; omega) (by simp [eff]) (by omega))
      have d1 : ((k : Int) == (n : Int) - 1) = true := by rw [beq_iff_eq]; omega
      have OP := Lib.hid (OPS ⟨0, 0, 0⟩ (.inr rfl))
      dsimp only at OP
      have HIB := Lib.hid hIB
      have HW1 := Lib.hid hW1
      have HX1 := Lib.hid X1
      have HHA := Lib.hid hha
      clear hIB hW1 KI KR1 X1 hha hs hr hf hx hcur hxk hc c0 c1 c2 b1 t0 t1 t2 t3 t4
      go_upto_region 17 with fail
      rw [← HIB.out, ← HW1.out]
      refine wp_region_bw W1.heap.size (by kernel_rfl) (by kernel_rfl) ?_
      repeat (go_big_quiet_step ((go_at_call 64; with_reducible exact AT _)))
      refine wpQuiet_nil ?_
      intro wq hw'
      obtain ⟨⟨wz, hbq⟩, hw''⟩ := hw'
      subst hw''
      obtain ⟨j0, j1, j2, _, _, j5, j6, j7, j8, j9, j10⟩ := LW.out wq hbq
      have HBQ := Lib.hid hbq
      clear hbq z0 z1 z2 z3 z4 AT
      go_upto_region 18 with fail
      clear d1
      go_upto_region 20 with fail
      go_at_call 65
      (with_reducible refine (OP.out _).mono ?_)
      rintro e w5 ⟨rfl, hb5⟩
      have B5 := Lib.hid (bchain HBQ.out hb5)
      obtain ⟨p0, p1, _, p3, p4, _⟩ := LW.out w5 B5.out
      clear hb5
      go_upto_region 20 with fail
      go_upto_region 21 with fail
      obtain ⟨MO, hMO⟩ : ∃ x, x = (if most < 1 then 1 else most) := ⟨_, rfl⟩
      rw [← hMO]
      have hmo1 : 1 ≤ MO := by rw [hMO]; split <;> omega
      clear hMO
      go_wp2_with fail
      go_ret2
      exact ⟨RB, n, _, rfl, hmo1, (HX1.out.foot (Foot.ofBelow B5.out _)).bel⟩
end Go.Proofs.YtfpikilhbkeajaaGreatDoor.VerRounds

namespace Go.Proofs.YtfpikilhbkeajaaGreatDoor.VerHeights
set_option maxRecDepth 100000
open Go.RowKit Go.PlainAid Base Query QrySize EmitPlain EmitBase LeafMap AllLeaves EmitExt ProgTail VerPlain VerOps VerNear VerTables HitBase TabMem VerMeet VerPass CodePlain Writer Encode _root_.Go.Proofs.YtfpikilhbkeajaaGreatDoor.Decode Args VerRounds

theorem NS.mono {w : World} {B B' : Nat} {A : Option Addr} {ns : List Nr} (h : NS w B A ns) (hB : B ≤ B') : NS w B' A ns := fun hne => by
  obtain ⟨g, o, f, e, hg, hc, hn⟩ := h hne
  refine ⟨g, o, f, e, by omega, hc, fun i n hi => ?_⟩
  obtain ⟨A1, c1, A2, c2, e2, h1, h2⟩ := hn i n hi
  exact ⟨A1, c1, A2, c2, e2, h1.mono hB, h2.mono hB⟩

set_option maxHeartbeats 16000000 in
theorem heights_ok (A : List Int) (C : List Lf) (ns : List Nr) (all : Bool) (D : List Int) (fld : Int → Int) (L : List Ins) (m : Nat) (H : Nat → Int) (G : TabG ⟨A.length, C.length, ns.length⟩ fld A C ns all D) (P : Pass ⟨A.length, C.length, ns.length⟩ L m H) (AA AC AN AV AK : Option Addr) (cA cC cN cV cK : Nat) (w : World) (SA : Slc w w.heap.size AA (ints A)) (SC : Slc w w.heap.size AC (lfCs C)) (SN : NS w w.heap.size AN ns) (SV : Slc w w.heap.size AV (ints D)) (SK : Slc w w.heap.size AK (byteCells (enc L))) (T : Tab w) (hT : 24 < w.heap.size) (HI : ∀ i ∈ L, okI i) (hCl : C.length ≤ 1099511627776) (hNl : ns.length ≤ 1099511627776) (hDl : D.length ≤ 1099511627776) (hL : L.length ≤ 1073741824) :
    Calls Tryz.prog 36 #[.agg (prC AA AC AN AV AK A.length C.length ns.length D.length (enc L).length cA cC cN cV cK all)] w (HR w L.length) := by
  obtain ⟨PR, hPR⟩ : ∃ b, b = w.heap.size := ⟨_, rfl⟩
  obtain ⟨n, hnL⟩ : ∃ k, k = L.length := ⟨_, rfl⟩
  have TO := fun (V : World) (hV : Below w.heap.size w V) => tables_ok ⟨A.length, C.length, ns.length⟩ fld A C ns all D G AA AC AN AV AK (enc L).length cA cC cN cV cK V ((SA.below hV (Nat.le_refl _)).mono hV.size) ((SC.below hV (Nat.le_refl _)).mono hV.size) (NS.mono (SN.below hV (Nat.le_refl _)) hV.size) ((SV.below hV (Nat.le_refl _)).mono hV.size) hCl hNl hDl
  have DC := fun (V : World) (hV : Below w.heap.size w V) => decode_any L AK cK V ((SK.below hV (Nat.le_refl _)).mono hV.size) (T.below hV hT) (Nat.lt_of_lt_of_le hT hV.size) HI hL
  have hlen := P.len
  have hA := G.na
  rw [← hnL] at hL hlen ⊢
  unfold DecR at DC
  rw [← hnL] at DC
  obtain ⟨na, hna⟩ : ∃ k, k = A.length := ⟨_, rfl⟩
  obtain ⟨nc, hnc⟩ : ∃ k, k = C.length := ⟨_, rfl⟩
  obtain ⟨nn, hnn⟩ : ∃ k, k = ns.length := ⟨_, rfl⟩
  obtain ⟨nd, hnd⟩ : ∃ k, k = D.length := ⟨_, rfl⟩
  obtain ⟨nk, hnk⟩ : ∃ k, k = (enc L).length := ⟨_, rfl⟩
  rw [← hna, ← hnc, ← hnn] at P
  rw [← hna, ← hnc, ← hnn, ← hnd, ← hnk] at TO ⊢
  rw [← hnk] at DC
  rw [← hna] at hA
  rw [← hnc] at hCl
  rw [← hnn] at hNl
  obtain ⟨W1, hW1⟩ : ∃ W, W = w.alloc (.cells (prC AA AC AN AV AK na nc nn nd nk cA cC cN cV cK all) 40) := ⟨_, rfl⟩
  have b1 : Below w.heap.size w W1 := by rw [hW1]; exact Base.bel
  have KR : Blk W1 PR 40 (prC AA AC AN AV AK na nc nn nd nk cA cC cN cV cK all) := by rw [hW1, hPR]; exact Blk.new w _ _
  have DW := Lib.hid (DC W1 b1)
  unfold prC at hW1 KR TO ⊢
  have RW := Lib.hid (show ∀ W, Below W1.heap.size W1 W → _ from fun W hW => six (KR.below hW KR.lt))
  have TW := Lib.hid (show ∀ W, Below W1.heap.size W1 W → _ from fun W hW => TO W (b1.trans (hW.mono b1.size)))
  have HPR := Lib.hid hPR
  have HW1 := Lib.hid hW1
  have HB1 := Lib.hid b1
  have HKR := Lib.hid KR
  have HPS := Lib.hid P
  have MK := fun W => run_mk n (by omega) W
  have hmf : ∀ (fn : Fn) (first cap : Array Value) (w : World), (Instr.makeFunc fn first cap).run Tryz.prog w = .ok (.func fn first cap) w := fun _ _ _ _ => rfl
  have e0 : ((n : Int) == 0) = false := by rw [beq_eq_false_iff_ne]; omega
  have hn0 : (0 : Int) < (n : Int) := by omega
  have hPw : PR < W1.heap.size := KR.lt
  have hn1 : n ≤ m + 1 := by omega
  have hn2 : m + 1 ≤ n := by omega
  obtain ⟨r0, r1, r2, r3, r4, r5⟩ := RW.out W1 (Below.refl _ _)
  clear hPR hW1 b1 KR P TO DC G SA SC SN SV SK T HI hlen hnL hna hnc hnn hnd hnk
  go_enter Tryz.func36, Tryz.ntmps36
  refine cast_code (c := .seq ?r0 (.seq ?r1 (.seq ?i2 (.seq ?r4 (.seq ?b5 (.seq ?r10 (.seq ?r11 (.seq ?r12 (tailH 13))))))))) ?e ?_
  case e => exact rfl
  go_upto_region 1 with fail
  rw [← HPR.out, ← HW1.out]
  go_upto_region 4 with (first | (go_at_call 17; (with_reducible refine DW.out.mono ?_); rintro e w2 ⟨AL, cL, rfl, hsl, hb2⟩; have HSL := Lib.hid hsl; have HB2 := Lib.hid hb2; obtain ⟨q0, q1, q2, q3, q4, q5⟩ := RW.out w2 hb2; have T2 := Lib.hid (TW.out w2 hb2); clear hsl hb2) | (go_at_call 62; (with_reducible refine T2.out.mono ?_); rintro e w3 ⟨rfl, hb3⟩; have HB3 := Lib.hid hb3; clear hb3))
  go_upto_region 5 with fail
  obtain ⟨RB, hRB⟩ : ∃ b, b = w3.heap.size := ⟨_, rfl⟩
  obtain ⟨VB, hVB⟩ : ∃ b, b = w3.heap.size + 1 := ⟨_, rfl⟩
  have sv : (w3.alloc (.cells (ints (List.replicate n 0)).toArray 3)).heap.size = w3.heap.size + 1 := by simp
  obtain ⟨W4, hW4⟩ : ∃ V, V = (w3.alloc (.cells (ints (List.replicate n 0)).toArray 3)).alloc (.cells #[.slice (some ⟨RB, 0, none⟩) n n] 23) := ⟨_, rfl⟩
  have hv : VB = RB + 1 := by rw [hVB, hRB]
  have b4 : Below w3.heap.size w3 W4 := by rw [hW4]; exact Base.bel
  have b24 : Below w2.heap.size w2 W4 := bchain HB3.out b4
  have KV : Blk W4 VB 23 #[.slice (some ⟨RB, 0, none⟩) n n] := by rw [hW4, hVB, ← sv]; exact Blk.new _ _ _
  have KB : Blk W4 RB 3 (ints (List.replicate n 0)).toArray := by rw [hW4, hRB]; exact (Blk.new w3 _ _).alloc _
  have X4 : HW w W4 PR VB RB n #[.slice AA na cA, .slice AC nc cC, .slice AN nn cN, .bool all, .slice AV nd cV, .slice AK nk cK] AL L := by
    have b14 := HB2.out.trans (b24.mono HB2.out.size)
    have hs := HB2.out.size
    have hs3 := HB3.out.size
    refine ⟨HKR.out.below b14 HKR.out.lt, KV, (HSL.out.below b24 (Nat.le_refl _)).mono (by omega), ⟨by omega, by omega⟩, ⟨by have := HB1.out.size; omega, by rw [hRB]; exact b4.size⟩, HB1.out.trans (b14.mono HB1.out.size)⟩
  have HX4 := Lib.hid X4
  have HKB := Lib.hid KB
  have HRB := Lib.hid hRB
  have HVB := Lib.hid hVB
  have HW4 := Lib.hid hW4
  have x0 : W4.cell? ⟨VB, 0, none⟩ = some (.slice (some ⟨RB, 0, none⟩) n n) := KV.cell 0
  clear hRB hVB hW4 hv sv b4 b24 KV KB X4
  rw [← HVB.out, ← HRB.out, ← HW4.out]
  go_wp2_with fail
  go_loopw [38] (fun i wr => ∃ k : Nat, k ≤ n ∧ i = .int .i64 k ∧ Blk wr RB 3 (ints (List.replicate k (-1) ++ List.replicate (n - k) 0)).toArray ∧ Foot W4 wr (fun j => j ≠ RB)) (fun i _ => n - (intOf i).toNat)
  case atStart => exact ⟨0, Nat.zero_le _, rfl, by rw [Nat.sub_zero]; exact HKB.out, Foot.refl _ _⟩
  case round =>
    obtain ⟨k, hk, rfl, hr, hf⟩ := hrel
    have hx := HX4.out.foot hf
    have v0 : wr.cell? ⟨VB, 0, none⟩ = some (.slice (some ⟨RB, 0, none⟩) n n) := hx.var_.cell 0
    have HF := Lib.hid hf
    have HR := Lib.hid hr
    have HX := Lib.hid hx
    rcases Nat.lt_or_ge k n with hlt | hge
    · have i1 : (k : Int) < (n : Int) := by omega
      have i3 : (k : Int) < 9223372036854775807 := by omega
      have f0 : wr.frozen? ⟨RB, k, none⟩ = false := hr.frozen k
      have x1 : wr.cell? ⟨RB, k, none⟩ = some (.int .i64 0) := by
        rw [hr.cell k, List.getElem?_toArray]
        exact VerNear.ints_at (by rw [List.getElem?_append_right (by simp), List.length_replicate, Nat.sub_self, List.getElem?_replicate, if_pos (by omega)])
      clear hr hf hx
      go_wp2_with fail
      go_roundw
      case rel => exact ⟨k + 1, by omega, by go_num, by have := HR.out.set_ k (.int .i64 (-1)); rw [ints_set, fill_set n k _ _ hlt] at this; exact this, HF.out.set_ (fun _ => by simp) _⟩
      case measure => simp [intOf]; omega
    · obtain rfl : k = n := by omega
      have f0 : wr.frozen? ⟨RB, 0, none⟩ = false := hr.frozen 0
      have x1 : wr.cell? ⟨RB, 0, none⟩ = some (.int .i64 (-1)) := by
        rw [hr.cell 0, List.getElem?_toArray]
        exact VerNear.ints_at (by rw [List.getElem?_append_left (by rw [List.length_replicate]; omega), List.getElem?_replicate, if_pos (by omega)])
      have h5 : Blk (wr.setCell ⟨RB, 0, none⟩ (.int .i64 0)) RB 3 (ints ((List.replicate (m + 1) (-1)).set 0 0)).toArray := by
        have := hr.set_ 0 (.int .i64 0)
        rw [ints_set, Nat.sub_self, List.replicate_zero, List.append_nil] at this
        rwa [show k = m + 1 by omega] at this
      have F5 := hx.foot ((Foot.refl wr (fun j => j ≠ RB)).set_ (p := ⟨RB, 0, none⟩) (fun _ => by simp) (.int .i64 0))
      have TT := Lib.hid (h13 ⟨na, nc, nn⟩ (by dsimp only; omega) AA AC AN AV AK cA cC cN cV cK nd nk all L m k H ((List.replicate (m + 1) (-1)).set 0 0) PR VB RB AL cL w (wr.setCell ⟨RB, 0, none⟩ (.int .i64 0)) HPS (by omega) (by omega) (Lib.hid F5) (Lib.hid (Hs.start HPS.out.h0)) (Lib.hid h5))
      clear hr hf hx h5 F5
      go_wp2_with fail
      exact TT.out _ _ _ _ _ _ _ _ _ _ _ _ _ _ _ _ _ _ _ _ _ _ _ _ _ _ _ _ _ _ _ _ _ _ _ _ _ _ _ _ _ _ _ _ _ _ _ _ _ _ _ _ _ _ _ _ _ _ _ _ _ _ _ _ _ _ _ _ _ _ _ _ _ _ _ _ _ _ _ _ _ _ _ _ _ _ _ _ _ _ _ _ _ _ _ _ _ _ _ _ _ _ _ _ _ _ _ _ _ _ _ _ _ _ _ _ _ _ _ _ _ _ _ _ _
end Go.Proofs.YtfpikilhbkeajaaGreatDoor.VerHeights

namespace Go.Proofs.YtfpikilhbkeajaaGreatDoor.VerCheck
set_option maxRecDepth 100000
open Go.RowKit Go.PlainAid Base Query QrySize EmitPlain EmitBase LeafMap AllLeaves EmitExt ProgTail VerPlain VerOps VerNear VerTables HitBase TabMem VerMeet VerPass VerRounds

set_option maxHeartbeats 4000000 in
theorem check_any (AA AC AN AV AK : Option Addr) (na nc nn nd nk cA cC cN cV cK n : Nat) (all : Bool) (w : World) (HT : ∀ W, Below w.heap.size w W → Calls Tryz.prog 36 #[.agg (prC AA AC AN AV AK na nc nn nd nk cA cC cN cV cK all)] W (HR W n)) (hn : n ≤ 1073741824) :
    Calls Tryz.prog 16 #[.agg (prC AA AC AN AV AK na nc nn nd nk cA cC cN cV cK all)] w fun e w' => ∃ most : Int, 1 ≤ most ∧ e = .returned (.tuple #[.agg #[.int .i64 n, .int .i64 most], .nilIface]) ∧ Below w.heap.size w w' := by
  obtain ⟨PR, hPR⟩ : ∃ b, b = w.heap.size := ⟨_, rfl⟩
  obtain ⟨RB, hRB⟩ : ∃ b, b = w.heap.size + 1 := ⟨_, rfl⟩
  obtain ⟨W1, hW1⟩ : ∃ W, W = w.alloc (.cells (prC AA AC AN AV AK na nc nn nd nk cA cC cN cV cK all) 40) := ⟨_, rfl⟩
  obtain ⟨W2, hW2⟩ : ∃ W, W = W1.alloc (.cells #[.int .i64 0, .int .i64 0] 57) := ⟨_, rfl⟩
  have s1 : W1.heap.size = w.heap.size + 1 := by rw [hW1]; simp
  have b2 : Below w.heap.size w W2 := by rw [hW2, hW1]; exact Base.bel
  have KP : Blk W2 PR 40 (prC AA AC AN AV AK na nc nn nd nk cA cC cN cV cK all) := by
    have k1 : Blk W1 w.heap.size 40 (prC AA AC AN AV AK na nc nn nd nk cA cC cN cV cK all) := by rw [hW1]; exact Blk.new w _ _
    rw [hW2, hPR]
    exact k1.alloc _
  have KR : Blk W2 RB 57 #[.int .i64 0, .int .i64 0] := by rw [hW2, hRB, ← s1]; exact Blk.new W1 _ _
  have TC := Lib.hid (HT W2 b2)
  have hlo : w.heap.size ≤ RB := by omega
  unfold prC at hW1 KP TC ⊢
  obtain ⟨r0, r1, r2, r3, r4, r5⟩ := six KP
  have HPR := Lib.hid hPR
  have HRB := Lib.hid hRB
  have HW1 := Lib.hid hW1
  have HW2 := Lib.hid hW2
  have HB2 := Lib.hid b2
  have HKR := Lib.hid KR
  have EQN : ∀ (g c : Nat) (wx : World), (binOp .eql 23 (.slice (some ⟨g, 0, none⟩) n c) (.slice none 0 0)).run Tryz.prog wx = .ok (.bool false) wx := fun g c wx => Lib.run_eql_slice_nil wx _ 3 _ _ _ 0 0 Tryz.underlying23
  clear hPR hRB hW1 hW2 s1 b2 KP KR HT
  go_enter Tryz.func16, Tryz.ntmps16
  go_upto_region 1 with fail
  rw [← HRB.out, ← HPR.out, ← HW1.out, ← HW2.out]
  go_upto_region 2 with (go_at_call 36; (with_reducible refine TC.out.mono ?_); rintro e w3 ⟨g, c, most, rfl, hmost, hb3⟩; have HB3 := Lib.hid hb3; have KR3 := HKR.out.below hb3 HKR.out.lt; have f0 : w3.frozen? ⟨RB, 0, none⟩ = false := KR3.frozen 0; have f1 : w3.frozen? ⟨RB, 1, none⟩ = false := KR3.frozen 1; have z0 : w3.cell? ⟨RB, 0, none⟩ = some (.int .i64 0) := KR3.cell 0; have z1 : w3.cell? ⟨RB, 1, none⟩ = some (.int .i64 0) := KR3.cell 1; have HK3 := Lib.hid KR3; clear hb3 KR3)
  go_wp2_with fail
  obtain ⟨W4, hW4⟩ : ∃ W, W = (w3.setCell ⟨RB, 0, none⟩ (.int .i64 n)).setCell ⟨RB, 1, none⟩ (.int .i64 most) := ⟨_, rfl⟩
  have KR4 : Blk W4 RB 57 #[.int .i64 n, .int .i64 most] := by
    rw [hW4]
    have := (HK3.out.set_ 0 (.int .i64 n)).set_ 1 (.int .i64 most)
    simpa using this
  have B4 : Below w.heap.size w W4 := by
    rw [hW4]
    exact ((HB2.out.trans (HB3.out.mono HB2.out.size)).setCell (by show w.heap.size ≤ RB; exact hlo) _).setCell (by show w.heap.size ≤ RB; exact hlo) _
  rw [← hW4]
  exact bodyPost_ret (results_blk rfl rfl KR4 Tryz.underlying57 rfl (by kernel_rfl)) rfl ⟨most, hmost, rfl, B4⟩
end Go.Proofs.YtfpikilhbkeajaaGreatDoor.VerCheck
