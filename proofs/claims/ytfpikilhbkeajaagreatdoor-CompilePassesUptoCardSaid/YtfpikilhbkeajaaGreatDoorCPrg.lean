/-
  compile.Program from newTables on.
  compile.Program: what it hands back of a good plan; of any other.
  compile.Program of a plan that is not good.
-/
import Derived.Test.YtfpikilhbkeajaaGreatDoorNewTables
import Derived.Test.YtfpikilhbkeajaaGreatDoorEmitQuery
import Derived.Test.YtfpikilhbkeajaaGreatDoorCodePlain
import Derived.Test.YtfpikilhbkeajaaGreatDoorGoodLoc
import Derived.Laws.ResultCell
import Derived.Test.YtfpikilhbkeajaaGreatDoorGoodAny
set_option linter.unusedVariables false
set_option linter.unusedSimpArgs false
namespace Go.Proofs.YtfpikilhbkeajaaGreatDoor.ProgTail
set_option maxRecDepth 100000
open Go.RowKit Go.PlainAid Base Query QrySize EmitPlain EmitBase EmitPut LeafMap EmitNear EmitRaw EmitQ0 EmitQuery EmitExt AllLeaves LeafRange HitBase TabMem TabPlain TextPlain GoodLoc GoodPl BindBase NewEnd Writer Args Encode CodePlain

theorem results_blk {P : Program} {fn : Func} {p u : Tmp} {ty t : TypeId} (h : fn.results = #[.cell p ty, .tmp u]) {tmps : Array Value} {w : World} {g : Nat} {cs : Array Value} {d : TypeDesc} (hp : tmps.getD p undef = .pointer (some ⟨g, 0, none⟩)) (hb : Blk w g t cs)
    (hu : P.underlying ty = some d) (hd : (match d with | .struct _ | .array _ _ => true | _ => false) = true) (hi : (P.info? ty).map (·.size) = some cs.size) :
    (results fn tmps).run P w = .ok (.tuple #[.agg cs, tmps.getD u undef]) w := by
  have hl := run_loadVar_row (P := P) w g t ty cs (0, 0) d hb hu hd hi
  rw [results_cell_tmp h, hp]
  simp [asAddr, Result.andThen, hl]
noncomputable def tailP (k : Nat) : Code := ((Tryz.f8.body).bind (fromR k)).getD .skip
def codeOf (C : List Lf) (q : Qry) : List Ins := (emit (numOf C) q true 0).1 ++ [⟨0, 0, 0⟩]
def nearsOf (C : List Lf) (q : Qry) : List Nr := (emit (numOf C) q true 0).2
def prog0 : Array Value := #[.slice none 0 0, .slice none 0 0, .slice none 0 0, .bool false, .slice none 0 0, .slice none 0 0]
theorem six {w : World} {g : Nat} {t : TypeId} {v0 v1 v2 v3 v4 v5 : Value} (h : Blk w g t #[v0, v1, v2, v3, v4, v5]) : w.cell? ⟨g, 0, none⟩ = some v0 ∧ w.cell? ⟨g, 1, none⟩ = some v1 ∧ w.cell? ⟨g, 2, none⟩ = some v2 ∧ w.cell? ⟨g, 3, none⟩ = some v3 ∧ w.cell? ⟨g, 4, none⟩ = some v4 ∧ w.cell? ⟨g, 5, none⟩ = some v5 := ⟨h.cell 0, h.cell 1, h.cell 2, h.cell 3, h.cell 4, h.cell 5⟩
theorem sixf {w : World} {g : Nat} {t : TypeId} {cs : Array Value} (h : Blk w g t cs) : w.frozen? ⟨g, 0, none⟩ = false ∧ w.frozen? ⟨g, 1, none⟩ = false ∧ w.frozen? ⟨g, 2, none⟩ = false ∧ w.frozen? ⟨g, 3, none⟩ = false ∧ w.frozen? ⟨g, 4, none⟩ = false ∧ w.frozen? ⟨g, 5, none⟩ = false := ⟨h.frozen 0, h.frozen 1, h.frozen 2, h.frozen 3, h.frozen 4, h.frozen 5⟩
def IsProg (w : World) (q : Qry) (L dr : List Lf) (avgs : List Int) (all : Bool) (e : Ending) (w' : World) : Prop := ∃ (AA : Option Addr) (cA : Nat) (AC : Option Addr) (cC : Nat) (AN : Option Addr) (cN : Nat) (AV : Option Addr) (cV : Nat) (AK : Option Addr) (C : List Lf) (nc : List Value),
  e = .returned (.tuple #[.agg #[.slice AA avgs.length cA, .slice AC C.length cC, .slice AN (nearsOf C q).length cN, .bool all, .slice AV (driveL (numOf C) dr).length cV, .slice AK (enc (codeOf C q)).length (enc (codeOf C q)).length], .nilIface]) ∧
  Ris C ∧ (∀ l, l ∈ C ↔ l ∈ L) ∧ Slc w' w'.heap.size AA (ints avgs) ∧ Slc w' w'.heap.size AC (lfCs C) ∧ Slc w' w'.heap.size AV (ints (driveL (numOf C) dr)) ∧ Slc w' w'.heap.size AK (byteCells (enc (codeOf C q))) ∧ w'.ownsRow w.heap.size 86 3 (.slice AN (nearsOf C q).length cN) (nearsOf C q).length nc ∧ NrsV w' (nearsOf C q) nc ∧ Below w.heap.size w w'

theorem slc_ne {w : World} {B g : Nat} {A : Option Addr} {xs : List Value} {t : TypeId} {cs : Array Value} (h : Slc w B A xs) (hb : Blk w g t cs) (hcs : ∀ (o : Nat) (k : IntKind) (n : Int), cs[o]? ≠ some (.int k n)) (hx : xs ≠ [] → ∃ k n, xs[0]? = some (.int k n)) (hne : xs ≠ []) : ∀ a, A = some a → a.block ≠ g := by
  intro a ea e
  obtain ⟨k, n, hx⟩ := hx hne
  obtain ⟨g', o, e', _, hc⟩ := h (by intro e; rw [e] at hx; simp at hx)
  rw [ea] at e'
  obtain rfl := Option.some.inj e'
  simp only at e
  subst e
  have := hc 0 _ hx
  rw [Nat.add_zero, hb.cell o] at this
  exact hcs o k n this
theorem prog0_no (o : Nat) (k : IntKind) (n : Int) : prog0[o]? ≠ some (.int k n) := by
  unfold prog0
  match o with
  | 0 => simp
  | 1 => simp
  | 2 => simp
  | 3 => simp
  | 4 => simp
  | 5 => simp
  | n + 6 => simp
theorem em_no (h : EH) (ha : ∃ A n c, h.avgs = .slice A n c) (hc : ∃ A n c, h.curs = .slice A n c) (hd : ∃ A n c, h.drive = .slice A n c) (A B : Option Addr) (n c m d o : Nat) (k : IntKind) (z : Int) : (emC h (.slice A n c) (.slice B m d))[o]? ≠ some (.int k z) := by
  obtain ⟨_, _, _, e1⟩ := ha
  obtain ⟨_, _, _, e2⟩ := hc
  obtain ⟨_, _, _, e3⟩ := hd
  unfold emC
  rw [e1, e2, e3]
  match o with
  | 0 => simp
  | 1 => simp
  | 2 => simp
  | 3 => simp
  | 4 => simp
  | 5 => simp
  | 6 => simp
  | 7 => simp
  | n + 8 => simp
theorem ints_first {l : List Int} (h : ints l ≠ []) : ∃ k n, (ints l)[0]? = some (.int k n) := by
  cases l with
  | nil => exact absurd rfl h
  | cons a r => exact ⟨_, a, rfl⟩
theorem lfs_first {l : List Lf} (h : lfCs l ≠ []) : ∃ k n, (lfCs l)[0]? = some (.int k n) := by
  cases l with
  | nil => exact absurd rfl h
  | cons a r => exact ⟨_, a.field, rfl⟩
theorem bytes_first {l : List UInt8} (h : byteCells l ≠ []) : ∃ k n, (byteCells l)[0]? = some (.int k n) := by
  cases l with
  | nil => exact absurd rfl h
  | cons a r => exact ⟨_, _, rfl⟩
theorem foot_slc_ne {w w' : World} {B B' g : Nat} {A : Option Addr} {xs : List Value} (h : Slc w B A xs) (hf : Foot w w' (fun k => k ≠ g)) (hB : B ≤ w.heap.size) (hB' : B ≤ B') (hne : xs ≠ [] → ∀ a, A = some a → a.block ≠ g) : Slc w' B' A xs := fun hx => by
  obtain ⟨g', o, e, hg, hc⟩ := h hx
  exact ⟨g', o, e, by omega, fun j u hu => (hf.cell (p := ⟨g', o + j, none⟩) (by show g' < _; omega) (hne hx ⟨g', o, none⟩ e)).trans (hc j u hu)⟩
theorem nrs_foot {w w' : World} {ns : List Nr} {nc : List Value} {g : Nat} {t : TypeId} {cs : Array Value} (h : NrsV w ns nc) (hf : Foot w w' (fun k => k ≠ g)) (hb : Blk w g t cs) (ht : t ≠ 3) : NrsV w' ns nc := by
  obtain ⟨f, e, hh⟩ := h
  refine ⟨f, e, fun ii n hi => ?_⟩
  obtain ⟨A1, c1, A2, c2, e2, h1, h2⟩ := hh ii n hi
  have stay : ∀ {A : Option Addr} {xs : List Value}, SlcT w 3 A xs → SlcT w' 3 A xs := fun {A xs} hs => by
    obtain ⟨g', o', cs', fr', e', h', hc⟩ := hs
    have hne : g' ≠ g := fun e3 => by
      subst e3
      unfold Blk at hb
      rw [hb] at h'
      exact ht (Obj.cells.inj (Option.some.inj h')).2.1
    have hbk := hf.block g' (Array.getElem?_eq_some_iff.1 h').1 hne
    exact ⟨g', o', cs', fr', e', hbk.trans h', fun j u hu => (cell_block hbk _).trans (hc j u hu)⟩
  exact ⟨A1, c1, A2, c2, e2, stay h1, stay h2⟩

structure Asked (hd : Head) (ks : List Qry) (A1 A2 A3 A4 : Option Addr) (c1 c2 c3 c4 : Nat) (AD : Option Addr) (dr : List Lf) (AS : Option Addr) (sums : List Int) (a a2 : Addr) (w : World) : Prop where
  q : QVal w w.heap.size (qcells hd ks.length A1 A2 A3 A4 c1 c2 c3 c4).toList (.mk hd ks)
  drv : Slc w w.heap.size AD (lfCs dr)
  ok : ∀ l ∈ dr, LfOk l
  len : (leafs (.mk hd ks)).length + dr.length ≤ 1073741824
  sms : Slc w w.heap.size AS (ints sums)
  slen : sums.length ≤ 1073741824
  sfit : ∀ x ∈ sums, x < 9223372036854775808
  short : Short (.mk hd ks)
  size : (Qry.mk hd ks).size ≤ 16777216
  tab : Tab w
  tabLt : 24 < w.heap.size
  node : w.cell? ⟨0, 0, none⟩ = some (errV a)
  nodeLt : 0 < w.heap.size
  code : w.cell? ⟨16, 0, none⟩ = some (errV a2)
  codeLt : 16 < w.heap.size

set_option maxHeartbeats 8000000 in
theorem prog_mid (hd : Head) (ks : List Qry) (A1 A2 A3 A4 : Option Addr) (c1 c2 c3 c4 : Nat) (all : Bool) (AD : Option Addr) (cD : Nat) (S dr C : List Lf) (DL avgs : List Int) (AA : Option Addr) (cA : Nat) (AC : Option Addr) (cC : Nat) (AV : Option Addr) (cV : Nat) (a2 : Addr) (RB EB mb nm : Nat) (q : Qry) (w W6 : World)
    (HI : Hid (w.heap.size < RB ∧ RB < EB ∧ EB < W6.heap.size ∧ mb < EB)) (HKP : Hid (Blk W6 w.heap.size 32 (plC hd ks.length A1 A2 A3 A4 c1 c2 c3 c4 all AD dr.length cD))) (HKR : Hid (Blk W6 RB 40 prog0)) (HB : Hid (Below w.heap.size w W6))
    (HQE : Hid (q = .mk hd ks)) (HQ : Hid (QVal W6 w.heap.size (qcells hd ks.length A1 A2 A3 A4 c1 c2 c3 c4).toList q)) (HG : Hid (GoodQ q)) (hsz : q.size ≤ 16777216) (hSl : S.length ≤ 1073741824) (HT : Hid (Tab W6)) (hT : 24 < w.heap.size) (HER : Hid (W6.cell? ⟨16, 0, none⟩ = some (errV a2))) (hE : 16 < w.heap.size)
    (HC1 : Hid (Ris C)) (HC2 : Hid (∀ l, l ∈ C ↔ l ∈ S)) (HDL : Hid (DL = driveL (numOf C) dr)) (HN : Hid (IsNum W6 mb nm (numOf C))) (HSA : Hid (Slc W6 EB AA (ints avgs))) (HSC : Hid (Slc W6 EB AC (lfCs C))) (HSV : Hid (Slc W6 EB AV (ints DL)))
    (HEM : Hid (Em W6 EB ⟨.slice AA avgs.length cA, .slice AC C.length cC, all, .slice AV DL.length cV, mb⟩ [] [] [] (.slice none 0 0) (.slice none 0 0))) (u0 u1 u3 u7 u8 u9 u10 u11 u12 u13 u14 u15 u16 u17 u18 u19 u20 u21 u22 u23 u24 u25 u26 u27 u28 u29 u30 u31 u32 u33 u34 u35 u36 u37 u38 u39 u40 u41 u42 u43 u44 u45 u46 u47 u48 : Value) :
    Code.wp Tryz.prog (tailP 4) (bodyPost Tryz.prog Tryz.f8 (IsProg w q S dr avgs all)) ⟨#[u0, u1, .pointer (some ⟨w.heap.size, 0, none⟩), u3, .pointer (some ⟨RB, 0, none⟩), .nilIface, .pointer (some ⟨EB, 0, none⟩), u7, u8, u9, u10, u11, u12, u13, u14, u15, u16, u17, u18, u19, u20, u21, u22, u23, u24, u25, u26, u27, u28, u29, u30, u31, u32, u33, u34, u35, u36, u37, u38, u39, u40, u41, u42, u43, u44, u45, u46, u47, u48], []⟩ W6 := by
  obtain ⟨h1, h2, h3, h4⟩ := HI.out
  have hCl : C.length ≤ S.length := len_sub HC1.out.nodup fun l hl => (HC2.out l).1 hl
  have hnum : ∀ l, 0 ≤ numOf C l ∧ numOf C l < 9223372036854775808 := fun l => by have := numOf_bnd C l; omega
  have HKB := Lib.hid (emit_kb (numOf C) hnum q HG.out (wfQ HQ.out) (by omega) true)
  have QCx := Lib.hid (by
    have := qc (numOf C) hnum q HG.out EB ⟨.slice AA avgs.length cA, .slice AC C.length cC, all, .slice AV DL.length cV, mb⟩ [] [] [] (.slice none 0 0) (.slice none 0 0) nm true (qcells hd ks.length A1 A2 A3 A4 c1 c2 c3 c4).toList W6 HEM.out HN.out h4 (HQ.out.mono (by omega)) (by
        have h1 := HKB.out.len 0
        have h2 := HKB.out.nears 0
        unfold Fits
        simp only [List.length_nil]
        omega)
    rw [Array.toArray_toList] at this
    unfold qcells at this
    exact this)
  unfold plC at HKP
  have KP := HKP.out
  obtain ⟨z0, z1, z2, z3, z4, z5, z6, z7, z8, z9, z10, z11, z12, z13, z14, z15, z16⟩ := plcs KP
  clear KP hnum
  unfold tailP
  conv => arg 2; whnf
  go_upto_region 5 with (go_at_call 22; (with_reducible refine QCx.out.mono ?_); rintro e w7 ⟨rfl, hk7, nv7, cv7, nc7, hm7, hn7⟩; have HK7 := Lib.hid hk7; have HM7 := Lib.hid hm7; clear hk7 hm7 hn7)
  clear z0 z1 z2 z3 z4 z5 z6 z7 z8 z9 z10 z11 z12 z13 z14 z15 z16 QCx
  have PC := Lib.hid (put_any EB _ _ _ _ _ _ 0 0 0 w7 HM7.out (by have := HKB.out.len 0; simp; omega))
  go_upto_region 6 with (go_at_call 23; (with_reducible refine PC.out.mono ?_); rintro e w8 ⟨rfl, hk8, nv8, cv8, nc8, hm8, hn8⟩; have HK8 := Lib.hid hk8; have HM8 := Lib.hid hm8; clear hk8 hm8 hn8)
  clear PC HM7
  obtain ⟨CO, hCO⟩ : ∃ C', C' = codeOf C q := ⟨_, rfl⟩
  obtain ⟨NE, hNE⟩ : ∃ N, N = nearsOf C q := ⟨_, rfl⟩
  have eCO : [] ++ (emit (numOf C) q true ([] : List Nr).length).1 ++ [⟨0, 0, 0⟩] = CO := by rw [hCO]; rfl
  have eNE : [] ++ (emit (numOf C) q true ([] : List Nr).length).2 = NE := by rw [hNE]; rfl
  rw [eCO, eNE] at HM8
  have kCO := HKB.out.len 0
  have okCO : ∀ i ∈ CO, okI i := by
    intro i hi
    rw [hCO] at hi
    rcases List.mem_append.1 hi with h | h
    · exact HKB.out.ok 0 (by omega) i h
    · simp at h; subst h; exact okI_bare (by decide)
  have lCO : CO.length ≤ 1073741824 := by rw [hCO]; unfold codeOf; simp only [List.length_append, List.length_singleton]; omega
  have allCO : CO.all insOk = true := List.all_eq_true.2 fun i hi => (okCO i hi).1
  obtain ⟨AK8, cK8, rfl⟩ := own_slice HM8.out.code
  obtain ⟨AN8, cN8, rfl⟩ := own_slice HM8.out.nears
  have K68 : Keeps EB W6 w8 := HK7.out.trans HK8.out
  have B68 : Below EB W6 w8 := K68.below (by omega)
  have hs8 := B68.size
  have EC := Lib.hid (encode_any CO AK8 cK8 w8.heap.size (errV a2) w8 (slc_own HM8.out.code) (Nat.le_refl _) (HT.out.below B68 (by omega)) (by omega) (fun i hi => ⟨(okCO i hi).2.1, (okCO i hi).2.2⟩) ((B68.cell (p := ⟨16, 0, none⟩) (by show 16 < EB; omega)).trans HER.out) (by omega) lCO)
  have EC2 := Lib.hid (show Calls Tryz.prog 24 #[.slice AK8 CO.length cK8] w8 (fun e w' => ∃ A, e = .returned (.tuple #[.slice A (enc CO).length (enc CO).length, Value.nilIface]) ∧ Slc w' w'.heap.size A (byteCells (enc CO)) ∧ Below w8.heap.size w8 w') from EC.out.mono fun e w' ⟨hr, hb⟩ => by
    rcases hr with ⟨_, A, e1, e2⟩ | ⟨h0, _⟩
    · exact ⟨A, e1, e2, hb⟩
    · rw [allCO] at h0; cases h0)
  have e7 : w8.cell? ⟨EB, 7, none⟩ = some (.slice AK8 CO.length cK8) := HM8.out.blk.cell 7
  have HCO := Lib.hid hCO
  have HNE := Lib.hid hNE
  have HK68 := Lib.hid K68
  have HB68 := Lib.hid B68
  clear hCO hNE eCO eNE kCO okCO allCO EC K68 B68
  go_upto_region 8 with (go_at_call 24; (with_reducible refine EC2.out.mono ?_); rintro e w9 ⟨AK, rfl, hs9, hb9⟩; have K9 := HM8.out.blk.below hb9 HM8.out.blk.lt; have e5 : w9.cell? ⟨EB, 5, none⟩ = some (.slice none 0 0) := K9.cell 5; have f5 : w9.frozen? ⟨EB, 5, none⟩ = false := K9.frozen 5; have HS9 := Lib.hid hs9; have HB9 := Lib.hid hb9; have HK9 := Lib.hid K9; clear hs9 hb9 K9)
  obtain ⟨BL, hBL⟩ : ∃ n, n = (enc CO).length := ⟨_, rfl⟩
  obtain ⟨W10, hW10⟩ : ∃ W, W = w9.setCell ⟨EB, 5, none⟩ (.slice AK BL BL) := ⟨_, rfl⟩
  rw [← hBL, ← hW10]
  clear e5 f5 e7
  have K10 : Blk W10 EB 71 #[.slice AA avgs.length cA, .slice AC C.length cC, .slice AN8 NE.length cN8, .bool all, .slice AV DL.length cV, .slice AK BL BL, .map (some mb), .slice AK8 CO.length cK8] := by
    rw [hW10]
    have := HK9.out.set_ 5 (.slice AK BL BL)
    simpa [emC] using this
  have B610 : Below EB W6 W10 := by
    rw [hW10]
    exact (HB68.out.trans (HB9.out.mono (by omega))).setCell (Nat.le_refl _) _
  have KR10 := HKR.out.below B610 h2
  have hs10 := B610.size
  have k0 : W10.cell? ⟨EB, 0, none⟩ = _ := K10.cell 0
  have k1 : W10.cell? ⟨EB, 1, none⟩ = _ := K10.cell 1
  have k2 : W10.cell? ⟨EB, 2, none⟩ = _ := K10.cell 2
  have k3 : W10.cell? ⟨EB, 3, none⟩ = _ := K10.cell 3
  have k4 : W10.cell? ⟨EB, 4, none⟩ = _ := K10.cell 4
  have k5 : W10.cell? ⟨EB, 5, none⟩ = _ := K10.cell 5
  simp only [List.getElem?_toArray, List.getElem?_cons_succ, List.getElem?_cons_zero] at k0 k1 k2 k3 k4 k5
  have KR := KR10
  unfold prog0 at KR
  obtain ⟨r0, r1, r2, r3, r4, r5⟩ := six KR
  obtain ⟨f0, f1, f2, f3, f4, f5⟩ := sixf KR
  have HK10 := Lib.hid K10
  have HB610 := Lib.hid B610
  have HKR10 := Lib.hid KR10
  have HW10 := Lib.hid hW10
  have HBL := Lib.hid hBL
  clear K10 B610 KR10 KR hW10 hBL
  go_wp2_with fail
  obtain ⟨W11, hW11⟩ : ∃ W, W = (((((W10.setCell ⟨RB, 0, none⟩ (.slice AA avgs.length cA)).setCell ⟨RB, 1, none⟩ (.slice AC C.length cC)).setCell ⟨RB, 2, none⟩ (.slice AN8 NE.length cN8)).setCell ⟨RB, 3, none⟩ (.bool all)).setCell ⟨RB, 4, none⟩ (.slice AV DL.length cV)).setCell ⟨RB, 5, none⟩ (.slice AK BL BL) := ⟨_, rfl⟩
  have KR11 : Blk W11 RB 40 #[.slice AA avgs.length cA, .slice AC C.length cC, .slice AN8 NE.length cN8, .bool all, .slice AV DL.length cV, .slice AK BL BL] := by
    rw [hW11]
    have := (((((HKR10.out.set_ 0 (.slice AA avgs.length cA)).set_ 1 (.slice AC C.length cC)).set_ 2 (.slice AN8 NE.length cN8)).set_ 3 (.bool all)).set_ 4 (.slice AV DL.length cV)).set_ 5 (.slice AK BL BL)
    simpa [prog0] using this
  have F11 : Foot W10 W11 (fun k => k ≠ RB) := by
    rw [hW11]
    exact ((((((Foot.refl W10 _).set_ (p := ⟨RB, 0, none⟩) (fun _ h => h rfl) _).set_ (p := ⟨RB, 1, none⟩) (fun _ h => h rfl) _).set_ (p := ⟨RB, 2, none⟩) (fun _ h => h rfl) _).set_ (p := ⟨RB, 3, none⟩) (fun _ h => h rfl) _).set_ (p := ⟨RB, 4, none⟩) (fun _ h => h rfl) _).set_ (p := ⟨RB, 5, none⟩) (fun _ h => h rfl) _
  have F10 : Foot w9 W10 (fun k => k ≠ EB) := by
    rw [HW10.out]
    exact (Foot.refl w9 _).set_ (p := ⟨EB, 5, none⟩) (fun _ h => h rfl) _
  rw [← hW11]
  have s9 := HB9.out.size
  have s10 := F10.size
  have s11 := F11.size
  have a10 := HSA.out.below HB610.out (Nat.le_refl _)
  have a11 : Slc W11 W11.heap.size AA (ints avgs) := foot_slc_ne a10 F11 (by omega) (by omega) (slc_ne a10 HKR10.out prog0_no ints_first)
  have c10 := HSC.out.below HB610.out (Nat.le_refl _)
  have c11 : Slc W11 W11.heap.size AC (lfCs C) := foot_slc_ne c10 F11 (by omega) (by omega) (slc_ne c10 HKR10.out prog0_no lfs_first)
  have d10 := HSV.out.below HB610.out (Nat.le_refl _)
  have d11 : Slc W11 W11.heap.size AV (ints DL) := foot_slc_ne d10 F11 (by omega) (by omega) (slc_ne d10 HKR10.out prog0_no ints_first)
  have e10 : Slc W10 W10.heap.size AK (byteCells (enc CO)) := foot_slc_ne HS9.out F10 (Nat.le_refl _) s10 (slc_ne HS9.out HK9.out (em_no _ ⟨_, _, _, rfl⟩ ⟨_, _, _, rfl⟩ ⟨_, _, _, rfl⟩ _ _ _ _ _ _) bytes_first)
  have e11 : Slc W11 W11.heap.size AK (byteCells (enc CO)) := foot_slc_ne e10 F11 (Nat.le_refl _) s11 (slc_ne e10 HKR10.out prog0_no bytes_first)
  have n9 := own_below HM8.out.nears HB9.out
  have n10 := foot_own F10 n9 (fun g hg _ => by omega)
  have n11 := foot_own F11 n10 (fun g hg _ => by omega)
  have r9 := HM8.out.rows.kept (Keeps.of_below HB9.out EB)
  have r10 := nrs_foot r9 F10 HK9.out (by decide)
  have r11 := nrs_foot r10 F11 HKR10.out (by decide)
  have b11 : Below w.heap.size w W11 := HB.out.trans ((HB610.out.mono (by omega)).trans (foot_below F11 (fun k hk => by omega) (by omega)))
  refine bodyPost_ret (results_blk rfl rfl KR11 Tryz.underlying40 rfl (by kernel_rfl)) rfl ?_
  have n11' := own_lower n11 (B' := w.heap.size) (by omega)
  rw [HNE.out] at n11' r11 ⊢
  rw [HBL.out, HCO.out] at ⊢
  rw [HCO.out] at e11
  rw [HDL.out] at d11 ⊢
  exact ⟨AA, cA, AC, cC, AN8, cN8, AV, cV, AK, C, _, rfl, HC1.out, HC2.out, a11, c11, d11, e11, n11', r11, b11⟩
end Go.Proofs.YtfpikilhbkeajaaGreatDoor.ProgTail

namespace Go.Proofs.YtfpikilhbkeajaaGreatDoor.ProgGood
set_option maxRecDepth 100000
open Go.RowKit Go.PlainAid Base Query QrySize EmitPlain EmitBase EmitPut LeafMap EmitNear EmitRaw EmitQ0 EmitQuery EmitExt AllLeaves LeafRange HitBase TabMem TabPlain TextPlain GoodLoc GoodPl GoodAny Avg BindBase NewEnd NewTables Writer Args Encode CodePlain ProgTail

set_option maxHeartbeats 8000000 in
theorem program_good (hd : Head) (ks : List Qry) (A1 A2 A3 A4 : Option Addr) (c1 c2 c3 c4 : Nat) (all : Bool) (AD : Option Addr) (cD : Nat) (dr : List Lf) (docs : Int) (AS : Option Addr) (cS : Nat) (sums : List Int) (a a2 : Addr) (w : World) (H : Asked hd ks A1 A2 A3 A4 c1 c2 c3 c4 AD dr AS sums a a2 w) (hg : goodPl sums.length (.mk hd ks) all dr = true) :
    Calls Tryz.prog 8 #[.agg (plC hd ks.length A1 A2 A3 A4 c1 c2 c3 c4 all AD dr.length cD), .agg #[.int .i64 docs, .slice AS sums.length cS]] w (IsProg w (.mk hd ks) (leafs (.mk hd ks) ++ dr) dr (sums.map (avgOf docs)) all) := by
  obtain ⟨q, hqe⟩ : ∃ q, q = Qry.mk hd ks := ⟨_, rfl⟩
  obtain ⟨S, hS⟩ : ∃ S, S = leafs (.mk hd ks) ++ dr := ⟨_, rfl⟩
  obtain ⟨avgs, hav⟩ : ∃ l, l = sums.map (avgOf docs) := ⟨_, rfl⟩
  obtain ⟨SB, hSB⟩ : ∃ t, t = w.heap.size + 1 := ⟨_, rfl⟩
  obtain ⟨RB, hRB⟩ : ∃ t, t = w.heap.size + 1 + 1 := ⟨_, rfl⟩
  obtain ⟨C0, hC⟩ : ∃ C, C = plC hd ks.length A1 A2 A3 A4 c1 c2 c3 c4 all AD dr.length cD := ⟨_, rfl⟩
  obtain ⟨W1, hW1⟩ : ∃ W, W = w.alloc (.cells C0 32) := ⟨_, rfl⟩
  obtain ⟨W2, hW2⟩ : ∃ W, W = W1.alloc (.cells #[.int .i64 docs, .slice AS sums.length cS] 34) := ⟨_, rfl⟩
  obtain ⟨W3, hW3⟩ : ∃ W, W = W2.alloc (.cells #[.slice none 0 0, .slice none 0 0, .slice none 0 0, .bool false, .slice none 0 0, .slice none 0 0] 40) := ⟨_, rfl⟩
  have s1 : W1.heap.size = w.heap.size + 1 := by rw [hW1]; simp
  have s2 : W2.heap.size = w.heap.size + 1 + 1 := by rw [hW2]; simp [s1]
  have s3 : W3.heap.size = w.heap.size + 1 + 1 + 1 := by rw [hW3]; simp [s2]
  have hb3 : Below w.heap.size w W3 := by rw [hW3, hW2, hW1]; exact Base.bel
  have KP : Blk W3 w.heap.size 32 C0 := by
    have k1 : Blk W1 w.heap.size 32 C0 := by rw [hW1]; exact Blk.new w _ _
    rw [hW3, hW2]
    exact (k1.alloc _).alloc _
  have KS : Blk W3 SB 34 #[.int .i64 docs, .slice AS sums.length cS] := by
    have k1 : Blk W2 SB 34 #[.int .i64 docs, .slice AS sums.length cS] := by rw [hW2, hSB, ← s1]; exact Blk.new W1 _ _
    rw [hW3]
    exact k1.alloc _
  have KR : Blk W3 RB 40 prog0 := by rw [hW3, hRB, ← s2]; exact Blk.new W2 _ _
  obtain ⟨hsb, hrb, hrs⟩ : w.heap.size < SB ∧ SB < RB ∧ RB < W3.heap.size := by omega
  have HH : ∀ W, Below w.heap.size w W → Asked hd ks A1 A2 A3 A4 c1 c2 c3 c4 AD dr AS sums a a2 W := fun W hb =>
    ⟨(H.q.kept hb (Nat.le_refl _)).mono hb.size, (H.drv.below hb (Nat.le_refl _)).mono hb.size, H.ok, H.len, (H.sms.below hb (Nat.le_refl _)).mono hb.size, H.slen, H.sfit, H.short, H.size, H.tab.below hb H.tabLt, Nat.lt_of_lt_of_le H.tabLt hb.size, (hb.cell (p := ⟨0, 0, none⟩) H.nodeLt).trans H.node, Nat.lt_of_lt_of_le H.nodeLt hb.size, (hb.cell (p := ⟨16, 0, none⟩) H.codeLt).trans H.code, Nat.lt_of_lt_of_le H.codeLt hb.size⟩
  have GC := Lib.hid (by
    have h := HH W3 hb3
    have := good_any hd ks A1 A2 A3 A4 c1 c2 c3 c4 all AD cD dr sums.length a W3 h.q h.drv h.ok (by have := h.len; unfold maxLen; omega) h.node h.nodeLt
    rw [hg] at this
    unfold plC at this
    exact this)
  have NTA := Lib.hid (show ∀ W, Below w.heap.size w W → _ from fun W hb => by
    have h := HH W hb
    have := new_any hd ks A1 A2 A3 A4 c1 c2 c3 c4 all AD cD dr docs AS cS sums W h.q h.drv h.ok h.len h.sms h.slen h.sfit
    rw [← hS, ← hav] at this
    unfold plC at this
    exact this)
  have hgood : good (sums.length : Int) true (.mk hd ks) = true := by
    unfold goodPl at hg
    simp only [Bool.and_eq_true] at hg
    exact hg.1.1.1.2
  have HGQ := Lib.hid (goodQ q (hqe ▸ H.short) (hqe ▸ hgood))
  have HQA := Lib.hid (show ∀ W, Below w.heap.size w W → QVal W w.heap.size (qcells hd ks.length A1 A2 A3 A4 c1 c2 c3 c4).toList q from fun W hb => hqe ▸ (H.q.kept hb (Nat.le_refl _)))
  have hSl : S.length ≤ 1073741824 := by rw [hS, List.length_append]; exact H.len
  have hsz : q.size ≤ 16777216 := by rw [hqe]; exact H.size
  have hTl := H.tabLt
  have hEl := H.codeLt
  have HHH := Lib.hid HH
  rw [← hqe, ← hav, show leafs q ++ dr = S by rw [hS, hqe]]
  have HQE := Lib.hid hqe
  unfold plC at hC
  rw [hC] at KP hW1
  obtain ⟨y0, y1, y2, y3, y4, y5, y6, y7, y8, y9, y10, y11, y12, y13, y14, y15, y16⟩ := plcs KP
  have x0 : W3.cell? ⟨SB, 0, none⟩ = some (.int .i64 docs) := KS.cell 0
  have x1 : W3.cell? ⟨SB, 1, none⟩ = some (.slice AS sums.length cS) := KS.cell 1
  have HKP := Lib.hid KP
  have HKS := Lib.hid KS
  have HKR := Lib.hid KR
  have HB3 := Lib.hid hb3
  have HW1 := Lib.hid hW1
  have HW2 := Lib.hid hW2
  have HW3 := Lib.hid hW3
  have HSB := Lib.hid hSB
  have HRB := Lib.hid hRB
  clear hqe hS hav hSB hRB hC hW1 hW2 hW3 s1 s2 s3 hb3 KP KS KR H hg HH hgood
  unfold plC
  go_enter Tryz.func8, Tryz.ntmps8
  refine cast_code (c := .seq ?r0 (.seq ?p1 (.seq ?r3 (tailP 4)))) ?e ?_
  case e => exact rfl
  go_upto_region 1 with fail
  rw [← HRB.out, ← HSB.out, ← HW1.out, ← HW2.out, ← HW3.out]
  go_upto_region 3 with (go_at_call 20; (with_reducible refine GC.out.mono ?_); rintro e w1 ⟨rfl, hb1⟩; have HB1 := Lib.hid hb1; clear hb1)
  clear y0 y1 y2 y3 y4 y5 y6 y7 y8 y9 y10 y11 y12 y13 y14 y15 y16 x0 x1
  have BW1 : Below w.heap.size w w1 := HB3.out.trans (HB1.out.mono HB3.out.size)
  have KP1 := HKP.out.below HB1.out HKP.out.lt
  have KS1 := HKS.out.below HB1.out HKS.out.lt
  obtain ⟨z0, z1, z2, z3, z4, z5, z6, z7, z8, z9, z10, z11, z12, z13, z14, z15, z16⟩ := plcs KP1
  have s0 : w1.cell? ⟨SB, 0, none⟩ = some (.int .i64 docs) := KS1.cell 0
  have s1 : w1.cell? ⟨SB, 1, none⟩ = some (.slice AS sums.length cS) := KS1.cell 1
  have NT := Lib.hid (NTA.out w1 BW1)
  have HBW1 := Lib.hid BW1
  have hs1 := HB1.out.size
  clear BW1 KP1 KS1
  go_wp2_with (go_at_call 21; (with_reducible refine NT.out.mono ?_); rintro e w2 ⟨AA, cA, AC, cC, AV, cV, mb, nm, C, rfl, hC1, hC2, hsA, hsC, hsV, hN, hmb, hb2⟩; dsimp only [tabC]; have HC1 := Lib.hid hC1; have HC2 := Lib.hid hC2; have HSA := Lib.hid hsA; have HSC := Lib.hid hsC; have HSV := Lib.hid hsV; have HN := Lib.hid hN; have HB2 := Lib.hid hb2; clear hC1 hC2 hsA hsC hsV hN hb2)
  clear z0 z1 z2 z3 z4 z5 z6 z7 z8 z9 z10 z11 z12 z13 z14 z15 z16 s0 s1
  obtain ⟨DL, hDL⟩ : ∃ D, D = driveL (numOf C) dr := ⟨_, rfl⟩
  rw [← hDL] at HSV ⊢
  obtain ⟨W6, hW6⟩ : ∃ W, W = w2.alloc (.cells #[.slice AA avgs.length cA, .slice AC C.length cC, .slice none 0 0, .bool all, .slice AV DL.length cV, .slice none 0 0, .map (some mb), .slice none 0 0] 71) := ⟨_, rfl⟩
  have b6 : Below w2.heap.size w2 W6 := by rw [hW6]; exact Base.bel
  have s6 : W6.heap.size = w2.heap.size + 1 := by rw [hW6]; simp
  have K6 : Blk W6 w2.heap.size 71 #[.slice AA avgs.length cA, .slice AC C.length cC, .slice none 0 0, .bool all, .slice AV DL.length cV, .slice none 0 0, .map (some mb), .slice none 0 0] := by rw [hW6]; exact Blk.new _ _ _
  have hs2 := HB2.out.size
  have b36 : Below W3.heap.size W3 W6 := bchain HB1.out (bchain HB2.out b6)
  have bw6 : Below w.heap.size w W6 := HB3.out.trans (b36.mono HB3.out.size)
  have EM6 : Em W6 w2.heap.size ⟨.slice AA avgs.length cA, .slice AC C.length cC, all, .slice AV DL.length cV, mb⟩ [] [] [] (.slice none 0 0) (.slice none 0 0) := ⟨K6, World.ownsRow_nil _ _ _ _, World.ownsRow_nil _ _ _ _, NrsV.nil _⟩
  have PM := Lib.hid (prog_mid hd ks A1 A2 A3 A4 c1 c2 c3 c4 all AD cD S dr C DL avgs AA cA AC cC AV cV a2 RB w2.heap.size mb nm q w W6 (Lib.hid ⟨by omega, by omega, by omega, hmb⟩) (Lib.hid (by unfold plC; exact HKP.out.below b36 HKP.out.lt)) (Lib.hid (HKR.out.below b36 HKR.out.lt)) (Lib.hid bw6)
    HQE (Lib.hid (HQA.out W6 bw6)) HGQ hsz hSl (Lib.hid (HHH.out W6 bw6).tab) hTl (Lib.hid (HHH.out W6 bw6).code) hEl HC1 HC2 (Lib.hid hDL) (Lib.hid (isNum_same HN.out (b6.block mb hmb))) (Lib.hid (HSA.out.below b6 (Nat.le_refl _))) (Lib.hid (HSC.out.below b6 (Nat.le_refl _))) (Lib.hid (HSV.out.below b6 (Nat.le_refl _))) (Lib.hid EM6))
  rw [← hW6]
  exact PM.out _ _ _ _ _ _ _ _ _ _ _ _ _ _ _ _ _ _ _ _ _ _ _ _ _ _ _ _ _ _ _ _ _ _ _ _ _ _ _ _ _ _ _ _ _

end Go.Proofs.YtfpikilhbkeajaaGreatDoor.ProgGood

namespace Go.Proofs.YtfpikilhbkeajaaGreatDoor.ProgBad
set_option maxRecDepth 100000
open Go.RowKit Go.PlainAid Base Query QrySize EmitPlain EmitBase EmitPut LeafMap EmitNear EmitRaw EmitQ0 EmitQuery EmitExt AllLeaves LeafRange HitBase TabMem TabPlain TextPlain GoodLoc GoodPl GoodAny Avg BindBase NewEnd NewTables Writer Args Encode CodePlain ProgTail

set_option maxHeartbeats 8000000 in
theorem program_bad (hd : Head) (ks : List Qry) (A1 A2 A3 A4 : Option Addr) (c1 c2 c3 c4 : Nat) (all : Bool) (AD : Option Addr) (cD : Nat) (dr : List Lf) (docs : Int) (AS : Option Addr) (cS : Nat) (sums : List Int) (a a2 : Addr) (w : World) (H : Asked hd ks A1 A2 A3 A4 c1 c2 c3 c4 AD dr AS sums a a2 w) (hg : goodPl sums.length (.mk hd ks) all dr = false) :
    Calls Tryz.prog 8 #[.agg (plC hd ks.length A1 A2 A3 A4 c1 c2 c3 c4 all AD dr.length cD), .agg #[.int .i64 docs, .slice AS sums.length cS]] w fun e w' => e = .returned (.tuple #[.agg prog0, errV a]) ∧ Below w.heap.size w w' := by
  obtain ⟨SB, hSB⟩ : ∃ t, t = w.heap.size + 1 := ⟨_, rfl⟩
  obtain ⟨RB, hRB⟩ : ∃ t, t = w.heap.size + 1 + 1 := ⟨_, rfl⟩
  obtain ⟨C0, hC⟩ : ∃ C, C = plC hd ks.length A1 A2 A3 A4 c1 c2 c3 c4 all AD dr.length cD := ⟨_, rfl⟩
  obtain ⟨W1, hW1⟩ : ∃ W, W = w.alloc (.cells C0 32) := ⟨_, rfl⟩
  obtain ⟨W2, hW2⟩ : ∃ W, W = W1.alloc (.cells #[.int .i64 docs, .slice AS sums.length cS] 34) := ⟨_, rfl⟩
  obtain ⟨W3, hW3⟩ : ∃ W, W = W2.alloc (.cells #[.slice none 0 0, .slice none 0 0, .slice none 0 0, .bool false, .slice none 0 0, .slice none 0 0] 40) := ⟨_, rfl⟩
  have s1 : W1.heap.size = w.heap.size + 1 := by rw [hW1]; simp
  have s2 : W2.heap.size = w.heap.size + 1 + 1 := by rw [hW2]; simp [s1]
  have s3 : W3.heap.size = w.heap.size + 1 + 1 + 1 := by rw [hW3]; simp [s2]
  have hb3 : Below w.heap.size w W3 := by rw [hW3, hW2, hW1]; exact Base.bel
  have KP : Blk W3 w.heap.size 32 C0 := by
    have k1 : Blk W1 w.heap.size 32 C0 := by rw [hW1]; exact Blk.new w _ _
    rw [hW3, hW2]
    exact (k1.alloc _).alloc _
  have KS : Blk W3 SB 34 #[.int .i64 docs, .slice AS sums.length cS] := by
    have k1 : Blk W2 SB 34 #[.int .i64 docs, .slice AS sums.length cS] := by rw [hW2, hSB, ← s1]; exact Blk.new W1 _ _
    rw [hW3]
    exact k1.alloc _
  have KR : Blk W3 RB 40 prog0 := by rw [hW3, hRB, ← s2]; exact Blk.new W2 _ _
  obtain ⟨hsb, hrb, hrs⟩ : w.heap.size < SB ∧ SB < RB ∧ RB < W3.heap.size := by omega
  have GC := Lib.hid (by
    have hb := hb3
    have := good_any hd ks A1 A2 A3 A4 c1 c2 c3 c4 all AD cD dr sums.length a W3 ((H.q.kept hb (Nat.le_refl _)).mono hb.size) ((H.drv.below hb (Nat.le_refl _)).mono hb.size) H.ok (by have := H.len; unfold maxLen; omega) ((hb.cell (p := ⟨0, 0, none⟩) H.nodeLt).trans H.node) (Nat.lt_of_lt_of_le H.nodeLt hb.size)
    rw [hg] at this
    unfold plC at this
    exact this)
  have HER := Lib.hid H.node
  have hEl := H.nodeLt
  unfold plC at hC
  rw [hC] at KP hW1
  obtain ⟨y0, y1, y2, y3, y4, y5, y6, y7, y8, y9, y10, y11, y12, y13, y14, y15, y16⟩ := plcs KP
  have x0 : W3.cell? ⟨SB, 0, none⟩ = some (.int .i64 docs) := KS.cell 0
  have x1 : W3.cell? ⟨SB, 1, none⟩ = some (.slice AS sums.length cS) := KS.cell 1
  have HKR := Lib.hid KR
  have HB3 := Lib.hid hb3
  have HW1 := Lib.hid hW1
  have HW2 := Lib.hid hW2
  have HW3 := Lib.hid hW3
  have HSB := Lib.hid hSB
  have HRB := Lib.hid hRB
  clear hSB hRB hC hW1 hW2 hW3 s1 s2 s3 hb3 KP KS KR H hg
  unfold plC
  go_enter Tryz.func8, Tryz.ntmps8
  go_upto_region 1 with fail
  rw [← HRB.out, ← HSB.out, ← HW1.out, ← HW2.out, ← HW3.out]
  go_upto_region 2 with (go_at_call 20; (with_reducible refine GC.out.mono ?_); rintro e w1 ⟨rfl, hb1⟩; have HB1 := Lib.hid hb1; clear hb1)
  clear y0 y1 y2 y3 y4 y5 y6 y7 y8 y9 y10 y11 y12 y13 y14 y15 y16 x0 x1
  have BW1 : Below w.heap.size w w1 := HB3.out.trans (HB1.out.mono HB3.out.size)
  have e0 : w1.cell? ⟨0, 0, none⟩ = some (errV a) := (BW1.cell (p := ⟨0, 0, none⟩) hEl).trans HER.out
  have KR1 := HKR.out.below HB1.out HKR.out.lt
  have KR := KR1
  unfold prog0 at KR
  obtain ⟨r0, r1, r2, r3, r4, r5⟩ := six KR
  obtain ⟨f0, f1, f2, f3, f4, f5⟩ := sixf KR
  have ne0 : RB ≠ 0 := by omega
  go_region
  go_wp2_with fail
  obtain ⟨W4, hW4⟩ : ∃ W, W = ((((((w1.setCell ⟨RB, 0, none⟩ (.slice none 0 0)).setCell ⟨RB, 1, none⟩ (.slice none 0 0)).setCell ⟨RB, 2, none⟩ (.slice none 0 0)).setCell ⟨RB, 3, none⟩ (.bool false)).setCell ⟨RB, 4, none⟩ (.slice none 0 0)).setCell ⟨RB, 5, none⟩ (.slice none 0 0)).drew := ⟨_, rfl⟩
  have KR4 : Blk W4 RB 40 prog0 := by
    rw [hW4]
    have := (((((KR1.set_ 0 (.slice none 0 0)).set_ 1 (.slice none 0 0)).set_ 2 (.slice none 0 0)).set_ 3 (.bool false)).set_ 4 (.slice none 0 0)).set_ 5 (.slice none 0 0)
    exact (show Blk _ RB _ prog0 by simpa [prog0] using this).drew
  have B4 : Below w.heap.size w W4 := by
    rw [hW4]
    exact (((((((BW1).setCell (by show w.heap.size ≤ RB; omega) _).setCell (by show w.heap.size ≤ RB; omega) _).setCell (by show w.heap.size ≤ RB; omega) _).setCell (by show w.heap.size ≤ RB; omega) _).setCell (by show w.heap.size ≤ RB; omega) _).setCell (by show w.heap.size ≤ RB; omega) _).drew
  rw [← hW4]
  exact bodyPost_ret (results_blk rfl rfl KR4 Tryz.underlying40 rfl (by kernel_rfl)) rfl ⟨rfl, B4⟩
end Go.Proofs.YtfpikilhbkeajaaGreatDoor.ProgBad
