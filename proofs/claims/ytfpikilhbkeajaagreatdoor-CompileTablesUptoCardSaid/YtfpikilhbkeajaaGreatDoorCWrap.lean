/-
  The law's wrapped: its four rounds.
  The law's wrapped: the code of a term in a boost, a constant, a not.
-/
import Derived.Test.YtfpikilhbkeajaaGreatDoorLawLives
import Derived.Test.YtfpikilhbkeajaaGreatDoorCDec
set_option linter.unusedVariables false
set_option linter.unusedSimpArgs false
namespace Go.Proofs.YtfpikilhbkeajaaGreatDoor.LawWrapL
set_option maxRecDepth 100000
open Go.RowKit Go.PlainAid Base Query QrySize EmitPlain EmitBase LeafMap AllLeaves TabPlain TextPlain GoodLoc GoodPl Avg BindBase Writer Args Encode CodePlain ProgTail ProgGood ProgBad SmallPlain LawLives EmitExt

def kdW : Nat → Int | 0 => 4 | 1 => 13 | 2 => 14 | _ => 12
def txW : Nat → ByteArray | 0 => tX | _ => ⟨#[]⟩
def wtW (w : Int) : Nat → Int | 0 => w | 1 => w | 2 => w | _ => 0
def bkW (B : Nat) : Nat → Nat | 0 => B | 1 => B + 1 | 2 => B + 1 + 1 | _ => B + 1 + 1 + 1
def akW (B : Nat) : Nat → Option Addr | 0 => none | 1 => some ⟨B + 1, 0, none⟩ | 2 => some ⟨B + 1 + 1, 0, none⟩ | _ => some ⟨B + 1 + 1 + 1, 0, none⟩
def nkW : Nat → Nat | 0 => 0 | _ => 1
def ksW (w : Int) : Nat → List Qry | 0 => [] | _ => [qT tX w]
def qcW (B : Nat) (w : Int) (k : Nat) : List Value := smC (kdW k) 0 (txW k) 0 (wtW w k) none 0 0 (akW B k) (nkW k) (nkW k)
theorem akW_eq (B k : Nat) (h : k ≠ 0) : akW B k = some ⟨bkW B k, 0, none⟩ := by
  match k with
  | 0 => exact absurd rfl h
  | 1 => rfl
  | 2 => rfl
  | k + 3 => rfl
theorem qW_eq (w : Int) (k : Nat) (hk : k < 4) : qW w k = .mk (hdK (kdW k) 0 (txW k) 0 (wtW w k) []) (ksW w k) := by
  rcases (by omega : k = 0 ∨ k = 1 ∨ k = 2 ∨ k = 3) with rfl | rfl | rfl | rfl <;> rfl
theorem ksW_len (w : Int) (k : Nat) : (ksW w k).length = nkW k := by cases k <;> rfl
theorem hwf_W (w : Int) (hw : (Lit.int .u64 w).wf = true) (k : Nat) : Hwf (hdK (kdW k) 0 (txW k) 0 (wtW w k) []) := by
  refine hwf_small ?_ (by decide) (by decide) ?_ ?_ (by simp) (by decide)
  · match k with | 0 => decide | 1 => decide | 2 => decide | k + 3 => exact (by decide : (Lit.int .i64 12).wf = true)
  · match k with | 0 => exact hw | 1 => exact hw | 2 => exact hw | k + 3 => exact (by decide : (Lit.int .u64 0).wf = true)
  · match k with | 0 => decide | k + 1 => exact Nat.zero_le _
theorem q_W {W : World} {B : Nat} (w : Int) (hw : (Lit.int .u64 w).wf = true) (k : Nat) (hb : k ≠ 0 → Blk W (bkW B k) 29 (qcW B w 0).toArray) : QVal W W.heap.size (qcW B w k) (.mk (hdK (kdW k) 0 (txW k) 0 (wtW w k) []) (ksW w k)) := by
  have := QVal.mk (w := W) (B := W.heap.size) (hdK (kdW k) 0 (txW k) 0 (wtW w k) []) (ksW w k) none none none (akW B k) 0 0 0 (nkW k) (fun _ => qcW B w 0) (hwf_W w hw k) (by rw [ksW_len]; unfold maxLen; cases k <;> simp [nkW]) (Slc.nil _) (Slc.nil _) (Slc.nil _) (fun hne => by
    have hk0 : k ≠ 0 := fun e => by subst e; exact hne rfl
    have kb := hb hk0
    refine ⟨bkW B k, 0, akW_eq B k hk0, kb.lt, fun i hi j u hu => ?_⟩
    have : i = 0 := by rw [ksW_len] at hi; cases k with | zero => exact absurd rfl hk0 | succ k => simp only [nkW] at hi; omega
    subst this
    rw [show 0 + 0 * 15 + j = j by omega, kb.cell j, List.getElem?_toArray]
    exact hu) (fun i y hy => by
    cases k with
    | zero => simp [ksW] at hy
    | succ k =>
      rcases i with _ | i
      · simp [ksW] at hy; subst hy; exact q_leaf _ _ _ _ hw (by decide)
      · simp [ksW] at hy)
  rw [ksW_len] at this
  exact this
theorem short_W (w : Int) (k : Nat) : Short (.mk (hdK (kdW k) 0 (txW k) 0 (wtW w k) []) (ksW w k)) := by
  refine .mk _ _ (by rw [ksW_len]; cases k <;> simp [nkW]) (Nat.zero_le _) fun y hy => ?_
  cases k with
  | zero => simp [ksW] at hy
  | succ k => simp [ksW] at hy; subst hy; exact .mk _ _ (Nat.zero_le _) (Nat.zero_le _) (fun k hk => by cases hk)
theorem size_W (w : Int) (k : Nat) : (Qry.mk (hdK (kdW k) 0 (txW k) 0 (wtW w k) []) (ksW w k)).size ≤ 16777216 := by cases k <;> simp [ksW, Qry.size, sizes, qT]
theorem ok_W {w : Int} (hw : 0 ≤ w ∧ w < 18446744073709551616) (k : Nat) : ∀ i ∈ wantW w k, okI i := by
  have e0 : okI ⟨0, 0, 0⟩ := okI_bare (by decide)
  have e4 : okI ⟨4, 0, w⟩ := okI_two (by decide) (by decide) ⟨by omega, by omega⟩ hw
  have e40 : okI ⟨4, 0, 0⟩ := okI_two (by decide) (by decide) ⟨by omega, by omega⟩ ⟨by omega, by omega⟩
  have e12 : okI ⟨12, w, 0⟩ := okI_one (by decide) (by decide) hw
  have e13 : okI ⟨13, w, 0⟩ := okI_one (by decide) (by decide) hw
  have e11 : okI ⟨11, 0, 0⟩ := okI_bare (by decide)
  intro i hi
  match k, hi with
  | 0, hi => simp [wantW] at hi; rcases hi with rfl | rfl <;> assumption
  | 1, hi => simp [wantW] at hi; rcases hi with rfl | rfl | rfl <;> assumption
  | 2, hi => simp [wantW] at hi; rcases hi with rfl | rfl | rfl <;> assumption
  | k + 3, hi => simp [wantW] at hi; rcases hi with rfl | rfl | rfl <;> assumption
theorem len_W (w : Int) (k : Nat) : (wantW w k).length ≤ 3 := by match k with | 0 => simp [wantW] | 1 => simp [wantW] | 2 => simp [wantW] | k + 3 => simp [wantW]
def sndFst : Code → Code
  | .seq (.seq _ b) _ => b
  | c => c
noncomputable def partW : Code := sndFst (((Tryz.f14.body).bind (fromR 2)).getD .skip)

set_option maxHeartbeats 8000000 in
theorem wrap_loop (x : Int) (hx : (Lit.int .u64 x).wf = true) (a a2 : Addr) (B LB : Nat) (w W : World) (HT : Hid (Tab W)) (hT : 24 < w.heap.size) (HN : Hid (W.cell? ⟨0, 0, none⟩ = some (errV a))) (hnl : 0 < w.heap.size) (HC : Hid (W.cell? ⟨16, 0, none⟩ = some (errV a2))) (hcl : 16 < w.heap.size)
    (HB : Hid (Below w.heap.size w W)) (HKJ : Hid (∀ k, k < 4 → k ≠ 0 → Blk W (bkW B k) 29 (qcW B x 0).toArray)) (HKC : Hid (∀ k, k < 4 → ∀ j u, (qcW B x k)[j]? = some u → W.cell? ⟨LB, k * 15 + j, none⟩ = some u)) (hLB : LB < W.heap.size) (K : Act → World → Prop) (Q : Exit → Act → World → Prop) (hK : ∀ (q0 q1 q2 q3 q4 q5 q6 q7 q8 q9 q10 q11 q12 q13 q14 q15 q16 q17 q18 q19 q20 q21 q22 q23 q24 q25 q26 q27 q28 q29 q30 q31 q32 q33 q34 q35 q36 q37 q38 q39 q40 q41 q42 q43 q44 q45 q46 q47 q48 q49 q50 q51 q52 q53 q54 q55 q56 q57 q58 q59 q60 q61 q62 q63 q64 q65 q66 q67 q68 q69 q70 q71 q72 q73 q74 q75 q76 q77 q78 q79 q80 q81 q82 q83 q84 q85 q86 q87 q88 q89 q90 q91 q92 q93 q94 q95 q96 q97 q98 q99 q100 : Value) (w' : World), Below W.heap.size W w' → K ⟨#[q0, q1, q2, q3, q4, q5, q6, q7, q8, q9, q10, q11, q12, q13, q14, q15, q16, q17, q18, q19, q20, q21, q22, q23, q24, q25, q26, q27, q28, q29, q30, q31, q32, q33, q34, q35, q36, q37, q38, q39, q40, q41, q42, q43, q44, q45, q46, q47, q48, q49, q50, q51, q52, q53, q54, q55, q56, q57, q58, q59, q60, q61, q62, q63, q64, q65, q66, q67, q68, q69, q70, q71, q72, q73, q74, q75, q76, q77, q78, q79, q80, q81, q82, q83, q84, q85, q86, q87, q88, q89, q90, q91, q92, q93, q94, q95, q96, q97, q98, q99, q100], []⟩ w') (u1 u2 u3 u4 u5 u6 u7 u8 u9 u10 u11 u12 u13 u14 u15 u16 u17 u18 u19 u20 u21 u22 u23 u24 u25 u26 u27 u31 u32 u33 u34 u35 u36 u37 u38 u39 u40 u41 u42 u43 u44 u45 u46 u47 u48 u49 u50 u51 u52 u53 u54 u55 u56 u57 u58 u59 u60 u61 u62 u63 u64 u65 u66 u67 u68 u69 u70 u71 u72 u73 u74 u75 u76 u77 u78 u79 u80 u81 u82 u83 u84 u85 u86 u87 u88 u89 u90 u91 u92 u93 u94 u95 u96 u97 u98 u99 u100 : Value) :
    Code.wp Tryz.prog partW (Exit.then K Q) ⟨#[.int .u64 x, u1, u2, u3, u4, u5, u6, u7, u8, u9, u10, u11, u12, u13, u14, u15, u16, u17, u18, u19, u20, u21, u22, u23, u24, u25, u26, u27, .slice (some ⟨LB, 0, none⟩) 4 4, .int .i64 4, .int .i64 0, u31, u32, u33, u34, u35, u36, u37, u38, u39, u40, u41, u42, u43, u44, u45, u46, u47, u48, u49, u50, u51, u52, u53, u54, u55, u56, u57, u58, u59, u60, u61, u62, u63, u64, u65, u66, u67, u68, u69, u70, u71, u72, u73, u74, u75, u76, u77, u78, u79, u80, u81, u82, u83, u84, u85, u86, u87, u88, u89, u90, u91, u92, u93, u94, u95, u96, u97, u98, u99, u100], []⟩ W := by
  have hxf := fitu hx
  have HHK := Lib.hid hK
  clear hK
  unfold partW
  conv => arg 2; whnf
  go_wp2_with fail
  go_loopw [30] (fun i wr => ∃ k : Nat, k ≤ 4 ∧ i = .int .i64 k ∧ Below W.heap.size W wr) (fun i _ => 4 - (intOf i).toNat)
  case atStart => exact ⟨0, by omega, rfl, Below.refl _ _⟩
  case round =>
    obtain ⟨k, hk, rfl, hb⟩ := hrel
    have hsz := hb.size
    rcases Nat.lt_or_ge k 4 with hlt | hge
    · have kc := fun j u hu => (hb.cell (p := ⟨LB, k * 15 + j, none⟩) hLB).trans (HKC.out k hlt j u hu)
      have x0 := kc 0 _ rfl
      rw [Nat.add_zero] at x0
      have x1 := kc 1 _ rfl
      have x2 := kc 2 _ rfl
      have x3 := kc 3 _ rfl
      have x4 := kc 4 _ rfl
      have x5 := kc 5 _ rfl
      have x6 := kc 6 _ rfl
      have x7 := kc 7 _ rfl
      have x8 := kc 8 _ rfl
      have x9 := kc 9 _ rfl
      have x10 := kc 10 _ rfl
      have x11 := kc 11 _ rfl
      have x12 := kc 12 _ rfl
      have x13 := kc 13 _ rfl
      have x14 := kc 14 _ rfl
      obtain ⟨W5, hW5⟩ : ∃ V, V = wr.alloc (.cells (qcW B x k).toArray 29) := ⟨_, rfl⟩
      obtain ⟨W6, hW6⟩ : ∃ V, V = W5.alloc (.cells #[.int .i64 0] 3) := ⟨_, rfl⟩
      have b5 : Below wr.heap.size wr W5 := by rw [hW5]; exact Base.bel
      have b6 : Below wr.heap.size wr W6 := by rw [hW6]; exact b5.alloc b5.size _
      have K5 : Blk W5 wr.heap.size 29 (qcW B x k).toArray := by rw [hW5]; exact Blk.new _ _ _
      have K6 : Blk W6 W5.heap.size 3 #[.int .i64 0] := by rw [hW6]; exact Blk.new _ _ _
      have B6 : Below W.heap.size W W6 := hb.trans (b6.mono hsz)
      have BW6 : Below w.heap.size w W6 := HB.out.trans (B6.mono HB.out.size)
      have hq6 : QVal W6 W6.heap.size (qcW B x k) (.mk (hdK (kdW k) 0 (txW k) 0 (wtW x k) []) (ksW x k)) := q_W x hx k fun h0 => (HKJ.out k hlt h0).below B6 (HKJ.out k hlt h0).lt
      have hsums : Slc W6 W6.heap.size (some ⟨W5.heap.size, 0, none⟩) (ints [0]) := fun _ => ⟨_, 0, rfl, K6.lt, fun j u hu => by rw [Nat.zero_add, K6.cell j, List.getElem?_toArray]; exact hu⟩
      have PG := Lib.hid (by
        have hl := leafs_W x k hlt
        rw [qW_eq x k hlt, List.append_nil] at hl
        have hg := good_W x k hlt
        rw [qW_eq x k hlt] at hg
        have := program_good (hdK (kdW k) 0 (txW k) 0 (wtW x k) []) (ksW x k) none none none (akW B k) 0 0 0 (nkW k) true none 0 [] 0 (some ⟨W5.heap.size, 0, none⟩) 1 [0] a a2 W6
          ⟨by rw [ksW_len]; exact hq6, Slc.nil _, (by simp), (by rw [hl]; decide), hsums, (by decide), (by simp), short_W x k, size_W x k, HT.out.below B6 (by have := HB.out.size; omega), Nat.lt_of_lt_of_le hT BW6.size, (B6.cell (p := ⟨0, 0, none⟩) (by have := HB.out.size; show 0 < _; omega)).trans HN.out, Nat.lt_of_lt_of_le hnl BW6.size, (B6.cell (p := ⟨16, 0, none⟩) (by have := HB.out.size; show 16 < _; omega)).trans HC.out, Nat.lt_of_lt_of_le hcl BW6.size⟩ hg
        rw [ksW_len] at this
        exact (show Calls Tryz.prog 8 #[.agg #[.int .i64 (kdW k), .int .i64 0, .string (txW k), .slice none 0 0, .slice none 0 0, .int .i64 0, .int .u64 (wtW x k), .bool false, .bool false, .string ⟨#[]⟩, .bool false, .bool false, .string ⟨#[]⟩, .slice none 0 0, .slice (akW B k) (nkW k) (nkW k), .bool true, .slice none 0 0], .agg #[.int .i64 0, .slice (some ⟨W5.heap.size, 0, none⟩) 1 1]] W6 _ from this))
      have HL := Lib.hid (show leafs (.mk (hdK (kdW k) 0 (txW k) 0 (wtW x k) []) (ksW x k)) ++ [] = leafs (qW x k) ++ [] by rw [qW_eq x k hlt])
      unfold qcW smC at hW5 K5
      obtain ⟨q0, q1, q2, q3, q4, q5, q6, q7, q8, q9, q10, q11, q12, q13, q14⟩ := qrow K5
      have i3 : (k : Int) < 4 := by omega
      have HW5 := Lib.hid hW5
      have HW6 := Lib.hid hW6
      have HB6 := Lib.hid BW6
      have HBB6 := Lib.hid B6
      have HQE := Lib.hid (qW_eq x k hlt)
      clear hW5 hW6 b5 b6 K5 K6 B6 BW6 hq6 hsums kc hb
      go_upto_region 5 with fail
      rw [← HW5.out]
      clear x0 x1 x2 x3 x4 x5 x6 x7 x8 x9 x10 x11 x12 x13 x14
      go_upto_region 6 with (go_at_call 8; go_loud (rw [← HW6.out]; (with_reducible refine PG.out.mono ?_); rintro e w7 ⟨AA, cA, AC, cC, AN, cN, AV, cV, AK, C, nc, rfl, hC1, hC2, hsA, hsC, hsV, hsK, hown, hrs, hb7⟩; rw [HL.out] at hC2; obtain rfl := cur_W hlt hC1 hC2; have eK : codeOf [(⟨0, tX⟩ : Lf)] (.mk (hdK (kdW k) 0 (txW k) 0 (wtW x k) []) (ksW x k)) = wantW x k := (congrArg (codeOf [(⟨0, tX⟩ : Lf)]) HQE.out.symm).trans (code_W x k hlt); rw [eK] at hsK ⊢; obtain ⟨NN, hNN⟩ : ∃ n, n = (nearsOf [(⟨0, tX⟩ : Lf)] (.mk (hdK (kdW k) 0 (txW k) 0 (wtW x k) []) (ksW x k))).length := ⟨_, rfl⟩; rw [← hNN]; obtain ⟨DD, hDD⟩ : ∃ n, n = (driveL (numOf [(⟨0, tX⟩ : Lf)]) []).length := ⟨_, rfl⟩; rw [← hDD]; have HSK := Lib.hid hsK; have HB7 := Lib.hid hb7; clear hC1 hC2 hsA hsC hsV hsK hown hrs hb7 hNN hDD eK; skip))
      clear q0 q1 q2 q3 q4 q5 q6 q7 q8 q9 q10 q11 q12 q13 q14
      obtain ⟨V8, hV8⟩ : ∃ V, V = w7.alloc (.cells #[.slice AA 1 cA, .slice AC 1 cC, .slice AN NN cN, .bool true, .slice AV DD cV, .slice AK (enc (wantW x k)).length (enc (wantW x k)).length] 40) := ⟨_, rfl⟩
      have b8 : Below w7.heap.size w7 V8 := by rw [hV8]; exact Base.bel
      have K8 : Blk V8 w7.heap.size 40 #[.slice AA 1 cA, .slice AC 1 cC, .slice AN NN cN, .bool true, .slice AV DD cV, .slice AK (enc (wantW x k)).length (enc (wantW x k)).length] := by rw [hV8]; exact Blk.new _ _ _
      have p5 : V8.cell? ⟨w7.heap.size, 5, none⟩ = some (.slice AK (enc (wantW x k)).length (enc (wantW x k)).length) := K8.cell 5
      have B8 : Below W.heap.size W V8 := HBB6.out.trans ((HB7.out.mono HBB6.out.size).trans (b8.mono (Nat.le_trans HBB6.out.size HB7.out.size)))
      have DC := Lib.hid (Decode.decode_any (wantW x k) AK (enc (wantW x k)).length V8 ((HSK.out.below b8 (Nat.le_refl _)).mono b8.size) (HT.out.below B8 (by have := HB.out.size; omega)) (by have := HB.out.size; have := B8.size; omega) (ok_W hxf k) (by have := len_W x k; omega))
      obtain ⟨NL, hNL⟩ : ∃ n, n = (wantW x k).length := ⟨_, rfl⟩
      have hnl3 : NL ≤ 3 := by rw [hNL]; exact len_W x k
      have hnl2 : 0 < NL := by rw [hNL]; match k with | 0 => exact Nat.succ_pos _ | 1 => exact Nat.succ_pos _ | 2 => exact Nat.succ_pos _ | k + 3 => exact Nat.succ_pos _
      rw [← hV8]
      have HB8 := Lib.hid B8
      have HNL := Lib.hid hNL
      clear hV8 b8 K8 B8
      go_upto_region 9 with (go_at_call 17; (with_reducible refine DC.out.mono ?_); rintro e w9 ⟨A8, c8, rfl, hs8, hb9⟩; have HS8 := Lib.hid hs8; have HB9 := Lib.hid hb9; clear hs8 hb9)
      rw [← HNL.out]
      clear p5 hNL
      obtain ⟨g8, o8, rfl, hg8, hc8⟩ := HS8.out (by intro e; have := insCs_len (wantW x k); rw [e, List.length_nil, ← HNL.out] at this; omega)
      obtain ⟨D1, hD1⟩ : ∃ V, V = w9.alloc (.cells #[.int .i64 4, .int .u64 0, .int .u64 x] 84) := ⟨_, rfl⟩
      obtain ⟨D2, hD2⟩ : ∃ V, V = D1.alloc (.cells #[.int .i64 4, .int .u64 0, .int .u64 0] 84) := ⟨_, rfl⟩
      obtain ⟨D3, hD3⟩ : ∃ V, V = D2.alloc (.cells #[.int .i64 0, .int .u64 0, .int .u64 0] 84) := ⟨_, rfl⟩
      obtain ⟨D4, hD4⟩ : ∃ V, V = D3.alloc (.cells #[.int .i64 4, .int .u64 0, .int .u64 x, .int .i64 0, .int .u64 0, .int .u64 0] 84) := ⟨_, rfl⟩
      obtain ⟨D5, hD5⟩ : ∃ V, V = D4.alloc (.cells #[.int .i64 4, .int .u64 0, .int .u64 x, .int .i64 12, .int .u64 x, .int .u64 0, .int .i64 0, .int .u64 0, .int .u64 0] 84) := ⟨_, rfl⟩
      obtain ⟨D6, hD6⟩ : ∃ V, V = D5.alloc (.cells #[.int .i64 4, .int .u64 0, .int .u64 0, .int .i64 13, .int .u64 x, .int .u64 0, .int .i64 0, .int .u64 0, .int .u64 0] 84) := ⟨_, rfl⟩
      obtain ⟨D7, hD7⟩ : ∃ V, V = D6.alloc (.cells #[.int .i64 4, .int .u64 0, .int .u64 0, .int .i64 11, .int .u64 0, .int .u64 0, .int .i64 0, .int .u64 0, .int .u64 0] 84) := ⟨_, rfl⟩
      obtain ⟨NB, hNB⟩ : ∃ n, n = w9.heap.size := ⟨_, rfl⟩
      obtain ⟨D8, hD8⟩ : ∃ V, V = D7.alloc (.cells #[.slice (some ⟨w9.heap.size + 1 + 1 + 1, 0, none⟩) 2 2, .slice (some ⟨w9.heap.size + 1 + 1 + 1 + 1, 0, none⟩) 3 3, .slice (some ⟨w9.heap.size + 1 + 1 + 1 + 1 + 1, 0, none⟩) 3 3, .slice (some ⟨w9.heap.size + 1 + 1 + 1 + 1 + 1 + 1, 0, none⟩) 3 3] 60) := ⟨_, rfl⟩
      have t1 : D1.heap.size = w9.heap.size + 1 := by rw [hD1]; simp
      have t2 : D2.heap.size = w9.heap.size + 1 + 1 := by rw [hD2]; simp [t1]
      have t3 : D3.heap.size = w9.heap.size + 1 + 1 + 1 := by rw [hD3]; simp [t2]
      have t4 : D4.heap.size = w9.heap.size + 1 + 1 + 1 + 1 := by rw [hD4]; simp [t3]
      have t5 : D5.heap.size = w9.heap.size + 1 + 1 + 1 + 1 + 1 := by rw [hD5]; simp [t4]
      have t6 : D6.heap.size = w9.heap.size + 1 + 1 + 1 + 1 + 1 + 1 := by rw [hD6]; simp [t5]
      have t7 : D7.heap.size = w9.heap.size + 1 + 1 + 1 + 1 + 1 + 1 + 1 := by rw [hD7]; simp [t6]
      obtain ⟨WB, hWB⟩ : ∃ b, b = w9.heap.size + 3 + k := ⟨_, rfl⟩
      have KW : Blk D8 WB 84 (insCs (wantW x k)).toArray := by
        rcases (by omega : k = 0 ∨ k = 1 ∨ k = 2 ∨ k = 3) with rfl | rfl | rfl | rfl
        · have q : Blk D4 WB 84 (insCs (wantW x 0)).toArray := by rw [hWB, hD4, show w9.heap.size + 3 + 0 = D3.heap.size by omega]; exact Blk.new D3 _ _
          rw [hD8, hD7, hD6, hD5]; exact (((q.alloc _).alloc _).alloc _).alloc _
        · have q : Blk D5 WB 84 (insCs (wantW x 1)).toArray := by rw [hWB, hD5, show w9.heap.size + 3 + 1 = D4.heap.size by omega]; exact Blk.new D4 _ _
          rw [hD8, hD7, hD6]; exact ((q.alloc _).alloc _).alloc _
        · have q : Blk D6 WB 84 (insCs (wantW x 2)).toArray := by rw [hWB, hD6, show w9.heap.size + 3 + 2 = D5.heap.size by omega]; exact Blk.new D5 _ _
          rw [hD8, hD7]; exact (q.alloc _).alloc _
        · have q : Blk D7 WB 84 (insCs (wantW x 3)).toArray := by rw [hWB, hD7, show w9.heap.size + 3 + 3 = D6.heap.size by omega]; exact Blk.new D6 _ _
          rw [hD8]; exact q.alloc _
      have z : D8.cell? ⟨w9.heap.size + 1 + 1 + 1 + 1 + 1 + 1 + 1, k, none⟩ = some (.slice (some ⟨WB, 0, none⟩) NL NL) := by
        have q : Blk D8 D7.heap.size 60 #[.slice (some ⟨w9.heap.size + 1 + 1 + 1, 0, none⟩) 2 2, .slice (some ⟨w9.heap.size + 1 + 1 + 1 + 1, 0, none⟩) 3 3, .slice (some ⟨w9.heap.size + 1 + 1 + 1 + 1 + 1, 0, none⟩) 3 3, .slice (some ⟨w9.heap.size + 1 + 1 + 1 + 1 + 1 + 1, 0, none⟩) 3 3] := by rw [hD8]; exact Blk.new D7 _ _
        rw [← t7, q.cell k, HNL.out, hWB]
        rcases (by omega : k = 0 ∨ k = 1 ∨ k = 2 ∨ k = 3) with rfl | rfl | rfl | rfl <;> rfl
      have b98 : Below w9.heap.size w9 D8 := by rw [hD8, hD7, hD6, hD5, hD4, hD3, hD2, hD1]; exact Base.bel
      have BV8 : Below W.heap.size W D8 := HB8.out.trans ((HB9.out.trans (b98.mono HB9.out.size)).mono HB8.out.size)
      have HBV := Lib.hid BV8
      have HKW := Lib.hid KW
      have HC8 := Lib.hid (show ∀ j u, (insCs (wantW x k))[j]? = some u → D8.cell? ⟨g8, o8 + j, none⟩ = some u from fun j u hu => (b98.cell (p := ⟨g8, o8 + j, none⟩) hg8).trans (hc8 j u hu))
      have hgd : g8 < D8.heap.size := Nat.lt_of_lt_of_le hg8 b98.size
      have HD1 := Lib.hid hD1
      have HD2 := Lib.hid hD2
      have HD3 := Lib.hid hD3
      have HD4 := Lib.hid hD4
      have HD5 := Lib.hid hD5
      have HD6 := Lib.hid hD6
      have HD7 := Lib.hid hD7
      have HD8 := Lib.hid hD8
      rw [hD8, hD7, hD6, hD5, hD4, hD3, hD2, hD1] at z
      clear hD1 hD2 hD3 hD4 hD5 hD6 hD7 hD8 t1 t2 t3 t4 t5 t6 t7 hWB KW b98 BV8 hc8 hg8 hNB DC
      go_upto_region 13 with fail
      rw [← HD1.out, ← HD2.out, ← HD3.out, ← HD4.out, ← HD5.out, ← HD6.out, ← HD7.out, ← HD8.out]
      clear z HD1 HD2 HD3 HD4 HD5 HD6 HD7 HD8
      go_wp2_with fail
      obtain ⟨wa, hwa⟩ : ∃ v, v = wr := ⟨wr, rfl⟩
      subst hwa
      go_loopw [87] (fun i wr => ∃ m : Nat, m ≤ NL ∧ i = .int .i64 m ∧ Below D8.heap.size D8 wr) (fun i _ => NL - (intOf i).toNat)
      case atStart => exact ⟨0, Nat.zero_le _, rfl, Below.refl _ _⟩
      case round =>
        obtain ⟨m, hm, rfl, hbd⟩ := hrel
        rcases Nat.lt_or_ge m NL with hlt2 | hge2
        · obtain ⟨y, hy⟩ : ∃ y, (wantW x k)[m]? = some y := ⟨_, List.getElem?_eq_getElem (by rw [← HNL.out]; exact hlt2)⟩
          have c0 := ins_cell hy 0 _ rfl
          have c1 := ins_cell hy 1 _ rfl
          have c2 := ins_cell hy 2 _ rfl
          have hwl := HKW.out.lt
          have e0 := (hbd.cell (p := ⟨g8, o8 + (m * 3 + 0), none⟩) hgd).trans (HC8.out _ _ c0)
          have e1 := (hbd.cell (p := ⟨g8, o8 + (m * 3 + 1), none⟩) hgd).trans (HC8.out _ _ c1)
          have e2 := (hbd.cell (p := ⟨g8, o8 + (m * 3 + 2), none⟩) hgd).trans (HC8.out _ _ c2)
          have f0 : wr.cell? ⟨WB, m * 3 + 0, none⟩ = some (.int .i64 y.op) := by rw [(hbd.cell (p := ⟨WB, m * 3 + 0, none⟩) hwl), HKW.out.cell, List.getElem?_toArray]; exact c0
          have f1 : wr.cell? ⟨WB, m * 3 + 1, none⟩ = some (.int .u64 y.a) := by rw [(hbd.cell (p := ⟨WB, m * 3 + 1, none⟩) hwl), HKW.out.cell, List.getElem?_toArray]; exact c1
          have f2 : wr.cell? ⟨WB, m * 3 + 2, none⟩ = some (.int .u64 y.b) := by rw [(hbd.cell (p := ⟨WB, m * 3 + 2, none⟩) hwl), HKW.out.cell, List.getElem?_toArray]; exact c2
          rw [Nat.add_zero] at e0 f0
          rw [← Nat.add_assoc] at e1 e2
          have j1 : (m : Int) < (NL : Int) := by omega
          have j3 : (m : Int) < 9223372036854775807 := by omega
          have HBD := Lib.hid hbd
          clear c0 c1 c2 hbd hy
          go_upto_region 18 with fail
          go_region
          go_wp2_with fail
          go_roundw
          case rel => exact ⟨m + 1, by omega, by go_num, HBD.out.drew⟩
          case measure => simp [intOf]; omega
        · obtain rfl : m = NL := by omega
          have HBD := Lib.hid hbd
          clear hbd
          go_wp2_with fail
          go_roundw
          case rel => exact ⟨k + 1, by omega, by go_num, HBV.out.trans (HBD.out.mono HBV.out.size)⟩
          case measure => simp [intOf]; omega
    · obtain rfl : k = 4 := by omega
      have HBX := Lib.hid hb
      clear hb
      go_wp2_with fail
      exact HHK.out _ _ _ _ _ _ _ _ _ _ _ _ _ _ _ _ _ _ _ _ _ _ _ _ _ _ _ _ _ _ _ _ _ _ _ _ _ _ _ _ _ _ _ _ _ _ _ _ _ _ _ _ _ _ _ _ _ _ _ _ _ _ _ _ _ _ _ _ _ _ _ _ _ _ _ _ _ _ _ _ _ _ _ _ _ _ _ _ _ _ _ _ _ _ _ _ _ _ _ _ _ _ HBX.out
end Go.Proofs.YtfpikilhbkeajaaGreatDoor.LawWrapL

namespace Go.Proofs.YtfpikilhbkeajaaGreatDoor.LawWrap
set_option maxRecDepth 100000
open Go.RowKit Go.PlainAid Base Query QrySize EmitPlain EmitBase LeafMap AllLeaves TabPlain TextPlain GoodLoc GoodPl Avg BindBase Writer Args Encode CodePlain ProgTail ProgGood ProgBad SmallPlain LawLives EmitExt LawWrapL

set_option maxHeartbeats 4000000 in
theorem wrapped_any (x : Int) (hx : (Lit.int .u64 x).wf = true) (a a2 : Addr) (w : World) (T : Tab w) (hT : 24 < w.heap.size) (hn : w.cell? ⟨0, 0, none⟩ = some (errV a)) (hnl : 0 < w.heap.size) (hc : w.cell? ⟨16, 0, none⟩ = some (errV a2)) (hcl : 16 < w.heap.size) :
    Calls Tryz.prog 14 #[.int .u64 x] w fun e w' => e = .returned (.bool true) ∧ Below w.heap.size w w' := by
  obtain ⟨V0, hV0⟩ : ∃ V, V = w.alloc (.cells (qcW w.heap.size x 0).toArray 29) := ⟨_, rfl⟩
  obtain ⟨V1, hV1⟩ : ∃ V, V = V0.alloc (.cells (qcW w.heap.size x 0).toArray 29) := ⟨_, rfl⟩
  obtain ⟨V2, hV2⟩ : ∃ V, V = V1.alloc (.cells (qcW w.heap.size x 0).toArray 29) := ⟨_, rfl⟩
  obtain ⟨V3, hV3⟩ : ∃ V, V = V2.alloc (.cells (qcW w.heap.size x 0).toArray 29) := ⟨_, rfl⟩
  obtain ⟨V4, hV4⟩ : ∃ V, V = V3.alloc (.cells (qcW w.heap.size x 0 ++ qcW w.heap.size x 1 ++ qcW w.heap.size x 2 ++ qcW w.heap.size x 3).toArray 29) := ⟨_, rfl⟩
  have s0 : V0.heap.size = w.heap.size + 1 := by rw [hV0]; simp
  have s1 : V1.heap.size = w.heap.size + 1 + 1 := by rw [hV1]; simp [s0]
  have s2 : V2.heap.size = w.heap.size + 1 + 1 + 1 := by rw [hV2]; simp [s1]
  have s3 : V3.heap.size = w.heap.size + 1 + 1 + 1 + 1 := by rw [hV3]; simp [s2]
  have s4 : V4.heap.size = w.heap.size + 1 + 1 + 1 + 1 + 1 := by rw [hV4]; simp [s3]
  have b4 : Below w.heap.size w V4 := by rw [hV4, hV3, hV2, hV1, hV0]; exact Base.bel
  have k1 : Blk V1 (w.heap.size + 1) 29 (qcW w.heap.size x 0).toArray := by rw [hV1, ← s0]; exact Blk.new V0 _ _
  have k2 : Blk V2 (w.heap.size + 1 + 1) 29 (qcW w.heap.size x 0).toArray := by rw [hV2, ← s1]; exact Blk.new V1 _ _
  have k3 : Blk V3 (w.heap.size + 1 + 1 + 1) 29 (qcW w.heap.size x 0).toArray := by rw [hV3, ← s2]; exact Blk.new V2 _ _
  have KJ : ∀ k, k < 4 → k ≠ 0 → Blk V4 (bkW w.heap.size k) 29 (qcW w.heap.size x 0).toArray := fun k h1 h2 => by
    rcases (by omega : k = 1 ∨ k = 2 ∨ k = 3) with rfl | rfl | rfl
    · rw [hV4, hV3, hV2]; exact ((k1.alloc _).alloc _).alloc _
    · rw [hV4, hV3]; exact (k2.alloc _).alloc _
    · rw [hV4]; exact k3.alloc _
  obtain ⟨LB, hLB⟩ : ∃ b, b = w.heap.size + 1 + 1 + 1 + 1 := ⟨_, rfl⟩
  have KL : Blk V4 LB 29 (qcW w.heap.size x 0 ++ qcW w.heap.size x 1 ++ qcW w.heap.size x 2 ++ qcW w.heap.size x 3).toArray := by rw [hV4, hLB, ← s3]; exact Blk.new V3 _ _
  have KC : ∀ k, k < 4 → ∀ j u, (qcW w.heap.size x k)[j]? = some u → V4.cell? ⟨LB, k * 15 + j, none⟩ = some u := fun k hk j u hu => by
    have hj : j < 15 := (List.getElem?_eq_some_iff.1 hu).1
    rw [KL.cell, List.getElem?_toArray]
    have l0 : (qcW w.heap.size x 0).length = 15 := rfl
    have l1 : (qcW w.heap.size x 1).length = 15 := rfl
    have l2 : (qcW w.heap.size x 2).length = 15 := rfl
    rcases (by omega : k = 0 ∨ k = 1 ∨ k = 2 ∨ k = 3) with rfl | rfl | rfl | rfl
    · rw [List.getElem?_append_left (by simp only [List.length_append]; omega), List.getElem?_append_left (by simp only [List.length_append]; omega), List.getElem?_append_left (by omega), Nat.zero_mul, Nat.zero_add]; exact hu
    · rw [List.getElem?_append_left (by simp only [List.length_append]; omega), List.getElem?_append_left (by simp only [List.length_append]; omega), List.getElem?_append_right (by omega), show 1 * 15 + j - (qcW w.heap.size x 0).length = j by omega]; exact hu
    · rw [List.getElem?_append_left (by simp only [List.length_append]; omega), List.getElem?_append_right (by simp only [List.length_append]; omega), show 2 * 15 + j - (qcW w.heap.size x 0 ++ qcW w.heap.size x 1).length = j by simp only [List.length_append]; omega]; exact hu
    · rw [List.getElem?_append_right (by simp only [List.length_append]; omega), show 3 * 15 + j - (qcW w.heap.size x 0 ++ qcW w.heap.size x 1 ++ qcW w.heap.size x 2).length = j by simp only [List.length_append]; omega]; exact hu
  have HKJ := Lib.hid KJ
  have HKC := Lib.hid KC
  have HB4 := Lib.hid b4
  have HLB := Lib.hid hLB
  unfold qcW smC kdW txW wtW akW nkW tX at hV0 hV1 hV2 hV3 hV4
  simp only [List.cons_append, List.nil_append] at hV4
  have HV0 := Lib.hid hV0
  have HV1 := Lib.hid hV1
  have HV2 := Lib.hid hV2
  have HV3 := Lib.hid hV3
  have HV4 := Lib.hid hV4
  have HTB := Lib.hid (T.below b4 hT)
  have HNN := Lib.hid ((b4.cell (p := ⟨0, 0, none⟩) hnl).trans hn)
  have HCC := Lib.hid ((b4.cell (p := ⟨16, 0, none⟩) hcl).trans hc)
  have hlw : LB < V4.heap.size := by omega
  clear KJ KC b4 hLB hV0 hV1 hV2 hV3 hV4 s0 s1 s2 s3 s4 k1 k2 k3 KL T hn hc
  go_enter Tryz.func14, Tryz.ntmps14
  refine cast_code (c := .seq ?r0 (.seq ?r1 (.seq (.seq ?r2 partW) ?r3))) ?e ?_
  case e => exact rfl
  go_wp2_with fail
  rw [← HLB.out, ← HV0.out, ← HV1.out, ← HV2.out, ← HV3.out, ← HV4.out]
  refine wrap_loop x hx a a2 w.heap.size LB w V4 HTB hT HNN hnl HCC hcl HB4 HKJ HKC hlw _ _ ?_ _ _ _ _ _ _ _ _ _ _ _ _ _ _ _ _ _ _ _ _ _ _ _ _ _ _ _ _ _ _ _ _ _ _ _ _ _ _ _ _ _ _ _ _ _ _ _ _ _ _ _ _ _ _ _ _ _ _ _ _ _ _ _ _ _ _ _ _ _ _ _ _ _ _ _ _ _ _ _ _ _ _ _ _ _ _ _ _ _ _ _ _ _ _ _ _ _
  intro q0 q1 q2 q3 q4 q5 q6 q7 q8 q9 q10 q11 q12 q13 q14 q15 q16 q17 q18 q19 q20 q21 q22 q23 q24 q25 q26 q27 q28 q29 q30 q31 q32 q33 q34 q35 q36 q37 q38 q39 q40 q41 q42 q43 q44 q45 q46 q47 q48 q49 q50 q51 q52 q53 q54 q55 q56 q57 q58 q59 q60 q61 q62 q63 q64 q65 q66 q67 q68 q69 q70 q71 q72 q73 q74 q75 q76 q77 q78 q79 q80 q81 q82 q83 q84 q85 q86 q87 q88 q89 q90 q91 q92 q93 q94 q95 q96 q97 q98 q99 q100 w' hb'
  have hk := ‹∀ (a : Act) (w : World), Code.wp Tryz.prog _ _ a w → _›
  refine hk _ _ ?_
  clear hk
  have HB' := Lib.hid (HB4.out.trans (hb'.mono HB4.out.size))
  clear hb'
  go_wp2_with fail
  go_ret
  exact ⟨rfl, HB'.out⟩
end Go.Proofs.YtfpikilhbkeajaaGreatDoor.LawWrap
