/-
  The laws' few and terms.
  The law's at: a leaf's place in a list.
-/
import Derived.Test.YtfpikilhbkeajaaGreatDoorCQry
import Derived.Test.YtfpikilhbkeajaaGreatDoorCGood
import Derived.Test.YtfpikilhbkeajaaGreatDoorCNew
import Derived.Test.YtfpikilhbkeajaaGreatDoorCEmitC
import Derived.Test.YtfpikilhbkeajaaGreatDoorCLeaves
set_option linter.unusedVariables false
set_option linter.unusedSimpArgs false
namespace Go.Proofs.YtfpikilhbkeajaaGreatDoor.LawTerms
set_option maxRecDepth 100000
open Go.RowKit Go.PlainAid Base Query QrySize QryLeft EmitPlain EmitBase EmitPut EmitNear LeafMap AllLeaves HitBase TabMem GoodPl NewMid BindBase

set_option maxHeartbeats 2000000 in
theorem few_plan (hd : Head) (ks : List Qry) (A1 A2 A3 A4 : Option Addr) (c1 c2 c3 c4 : Nat) (all : Bool) (AD : Option Addr) (nd cD : Nat) (docs : Int) (AS : Option Addr) (nS cS : Nat) (w : World) (hq : QVal w w.heap.size (qcells hd ks.length A1 A2 A3 A4 c1 c2 c3 c4).toList (.mk hd ks)) :
    Calls Tryz.prog 7 #[.agg (plC hd ks.length A1 A2 A3 A4 c1 c2 c3 c4 all AD nd cD), .agg #[.int .i64 docs, .slice AS nS cS]] w fun e w' => (∃ b : Bool, e = .returned (.bool b)) ∧ Below w.heap.size w w' := by
  obtain ⟨C0, hC⟩ : ∃ C, C = plC hd ks.length A1 A2 A3 A4 c1 c2 c3 c4 all AD nd cD := ⟨_, rfl⟩
  obtain ⟨W1, hW1⟩ : ∃ W, W = w.alloc (.cells C0 32) := ⟨_, rfl⟩
  obtain ⟨W2, hW2⟩ : ∃ W, W = W1.alloc (.cells #[.int .i64 docs, .slice AS nS cS] 34) := ⟨_, rfl⟩
  have s1 : W1.heap.size = w.heap.size + 1 := by rw [hW1]; simp
  have hb2 : Below w.heap.size w W2 := by rw [hW2, hW1]; exact Base.bel
  have KP : Blk W2 w.heap.size 32 C0 := by
    have k1 : Blk W1 w.heap.size 32 C0 := by rw [hW1]; exact Blk.new w _ _
    rw [hW2]
    exact k1.alloc _
  have KS : Blk W2 (w.heap.size + 1) 34 #[.int .i64 docs, .slice AS nS cS] := by rw [hW2, ← s1]; exact Blk.new W1 _ _
  have FA := Lib.hid (by
    have := QryLeft.few_any (.mk hd ks) (qcells hd ks.length A1 A2 A3 A4 c1 c2 c3 c4).toList w.heap.size W2 3000 (hq.kept hb2 (Nat.le_refl _)) hb2.size
    rw [Array.toArray_toList] at this
    unfold qcells at this
    exact this)
  unfold plC at hC
  rw [hC] at KP hW1
  obtain ⟨y0, y1, y2, y3, y4, y5, y6, y7, y8, y9, y10, y11, y12, y13, y14, y15, y16⟩ := plcs KP
  have HKP := Lib.hid KP
  have HKS := Lib.hid KS
  have HW1 := Lib.hid hW1
  have HW2 := Lib.hid hW2
  have HB2 := Lib.hid hb2
  clear hC hW1 hW2 s1 hb2 KP KS hq
  unfold plC
  go_enter Tryz.func7, Tryz.ntmps7
  go_upto_region 1 with fail
  rw [← HW1.out, ← HW2.out]
  go_wp2_with (go_at_call 19; (with_reducible refine FA.out.mono ?_); rintro e w3 ⟨⟨b, rfl⟩, hb3⟩; have z16 : w3.cell? ⟨w.heap.size, 16, none⟩ = _ := (HKP.out.below hb3 HKP.out.lt).cell 16; have s1 : w3.cell? ⟨w.heap.size + 1, 1, none⟩ = _ := (HKS.out.below hb3 HKS.out.lt).cell 1; simp only [List.getElem?_toArray, List.getElem?_cons_succ, List.getElem?_cons_zero] at z16 s1; have HB3 := Lib.hid hb3; clear hb3; cases b)
  all_goals
    try go_wp2_with fail
    try go_ret
    try (first | exact ⟨.inl rfl, HB2.out.trans (HB3.out.mono HB2.out.size)⟩ | exact ⟨.inr rfl, HB2.out.trans (HB3.out.mono HB2.out.size)⟩ | exact ⟨⟨_, rfl⟩, HB2.out.trans (HB3.out.mono HB2.out.size)⟩ | exact ⟨⟨false, rfl⟩, HB2.out.trans (HB3.out.mono HB2.out.size)⟩ | exact ⟨⟨true, rfl⟩, HB2.out.trans (HB3.out.mono HB2.out.size)⟩)

def trm (h : Head) : List Lf := (if h.kind = 4 then [⟨h.field, h.text⟩] else []) ++ h.terms.map fun t => ⟨h.field, t⟩
mutual
def trms : Qry → List Lf
  | .mk h ks => trm h ++ trmss ks
def trmss : List Qry → List Lf
  | [] => []
  | q :: r => trms q ++ trmss r
end
theorem trmss_append (a b : List Qry) : trmss (a ++ b) = trmss a ++ trmss b := by
  induction a with
  | nil => rfl
  | cons q r ih => simp [trmss, ih]
theorem trmss_take {ks : List Qry} {i : Nat} {k : Qry} (h : ks[i]? = some k) : trmss (ks.take (i + 1)) = trmss (ks.take i) ++ trms k := by
  rw [List.take_add_one, h, trmss_append]
  simp [trmss]
theorem trmss_len {ks : List Qry} {i : Nat} {k : Qry} (h : ks[i]? = some k) : (trmss (ks.take i)).length + (trms k).length ≤ (trmss ks).length := by
  have e : ks = ks.take (i + 1) ++ ks.drop (i + 1) := (List.take_append_drop _ _).symm
  have h2 : (trmss ks).length = (trmss (ks.take (i + 1))).length + (trmss (ks.drop (i + 1))).length := by
    have this : (trmss ks).length = (trmss (ks.take (i + 1) ++ ks.drop (i + 1))).length := congrArg (fun l => (trmss l).length) e
    rw [trmss_append, List.length_append] at this
    exact this
  rw [trmss_take h, List.length_append] at h2
  omega
def okL (RB : Nat) (w : World) (k : Nat) : Prop := k < RB ∨ ∀ cs t fr, w.heap[k]? = some (.cells cs t fr) → t ≠ 51
section
variable {RB : Nat} {a b c : World}
theorem footL_trans (h : Foot a b (okL RB a)) (k : Foot b c (okL RB b)) : Foot a c (okL RB a) :=
  ⟨k.os.trans h.os, k.tape.trans h.tape, k.output.trans h.output, Nat.le_trans h.size k.size, fun i hi ho => by
    have e := h.block i hi ho
    refine (k.block i (Nat.lt_of_lt_of_le hi h.size) ?_).trans e
    rcases ho with ho | ho
    · exact .inl ho
    · exact .inr fun cs t fr h' => ho cs t fr (by rw [← e]; exact h')⟩
theorem footL_below (h : Below a.heap.size a b) : Foot a b (okL RB a) := Foot.ofBelow h _
theorem footL_grown {row : Option Nat} (hg : a.grownBy b row) (hr : ∀ k, row = some k → RB ≤ k ∧ ∃ cs fr, a.heap[k]? = some (.cells cs 51 fr)) : Foot a b (okL RB a) :=
  (Foot.refl a _).grown hg fun k _ e ho => by
    obtain ⟨h1, cs, fr, h2⟩ := hr k e
    rcases ho with ho | ho
    · omega
    · exact ho cs _ fr h2 rfl
theorem footL_toBelow (h : Foot a b (okL RB a)) (hs : RB ≤ a.heap.size) : Below RB a b := h.toBelow (fun k hk => .inl hk) hs
theorem footL_blk {g : Nat} {t : TypeId} {cs : Array Value} (h : Foot a b (okL RB a)) (hb : Blk a g t cs) (ht : t ≠ 51) : Blk b g t cs := h.blk hb (.inr fun cs' t' fr' h' => by
  unfold Blk at hb
  rw [hb] at h'
  rw [← (Obj.cells.inj (Option.some.inj h')).2.1]
  exact ht)
end
def IsT (w : World) (RB : Nat) (L : List Lf) (e : Ending) (w' : World) : Prop := ∃ v', e = .returned v' ∧ w'.ownsRow RB 51 2 v' L.length (lfCs L) ∧ Foot w w' (okL RB w)

noncomputable def tailT (k : Nat) : Code := ((Tryz.f12.body).bind (EmitExt.fromR k)).getD .skip
def ts (f : Int) (l : List ByteArray) : List Lf := l.map fun t => ⟨f, t⟩
set_option maxHeartbeats 4000000 in
theorem terms_rest (hd : Head) (ks : List Qry) (A1 A2 A3 A4 : Option Addr) (c1 c2 c3 c4 : Nat) (kc : Nat → List Value) (B RB : Nat) (L0 : List Lf) (A0 : Option Addr) (n0 c0 : Nat) (w W2 : World) (hB : B ≤ RB) (hRB : RB ≤ w.heap.size)
    (HN0 : Hid (n0 = L0.length)) (HF : Hid (Foot w W2 (okL RB w))) (HK : Hid (Blk W2 w.heap.size 29 (qcells hd ks.length A1 A2 A3 A4 c1 c2 c3 c4))) (HO : Hid (W2.ownsRow RB 51 2 (.slice A0 n0 c0) L0.length (lfCs L0)))
    (hlen : L0.length + (hd.terms.length + (trmss ks).length) ≤ 1073741824) (hk : ks.length ≤ maxLen)
    (HQ1 : Hid (Slc w B A1 (strs hd.terms))) (HQ4 : Hid (ks ≠ [] → ∃ g o, A4 = some ⟨g, o, none⟩ ∧ g < B ∧ ∀ i, i < ks.length → ∀ j u, (kc i)[j]? = some u → w.cell? ⟨g, o + i * 15 + j, none⟩ = some u)) (HQ5 : Hid (∀ i k, ks[i]? = some k → QVal w B (kc i) k))
    (HIH : Hid (∀ k ∈ ks, ∀ (cs : List Value) (B RB : Nat) (L : List Lf) (v : Value) (w : World), QVal w B cs k → B ≤ RB → RB ≤ w.heap.size → w.ownsRow RB 51 2 v L.length (lfCs L) → L.length + (trms k).length ≤ 1073741824 → Calls Tryz.prog 12 #[.agg cs.toArray, v] w (IsT w RB (L ++ trms k)))) (u0 u3 u4 u5 u6 u7 u8 u9 u10 u11 u12 u13 u14 u15 u16 u17 u18 u19 u20 u21 u22 u23 u24 u25 u26 u27 u28 u29 u30 u31 u32 u33 u34 u35 u36 u37 u38 u39 u40 u41 u42 u43 u44 u45 u46 : Value) :
    Code.wp Tryz.prog (tailT 3) (bodyPost Tryz.prog Tryz.f12 (IsT w RB (L0 ++ (ts hd.field hd.terms ++ trmss ks)))) ⟨#[u0, .slice A0 n0 c0, .pointer (some ⟨w.heap.size, 0, none⟩), u3, u4, u5, u6, u7, u8, u9, u10, u11, u12, u13, u14, u15, u16, u17, u18, u19, u20, u21, u22, u23, u24, u25, u26, u27, u28, u29, u30, u31, u32, u33, u34, u35, u36, u37, u38, u39, u40, u41, u42, u43, u44, u45, u46], []⟩ W2 := by
  have hml : maxLen = 9223372036854775807 := rfl
  unfold qcells at HK
  have hsz := HF.out.size
  have y3 : W2.cell? ⟨w.heap.size, 3, none⟩ = some (.slice A1 hd.terms.length c1) := HK.out.cell 3
  have HL0 := Lib.hid hlen
  unfold tailT
  conv => arg 2; whnf
  go_wp2_with fail
  clear y3
  go_loopw [23, 1] (fun i v wr => ∃ k : Nat, k ≤ hd.terms.length ∧ i = .int .i64 k ∧ Foot W2 wr (okL RB W2) ∧ wr.ownsRow RB 51 2 v (L0 ++ ts hd.field (hd.terms.take k)).length (lfCs (L0 ++ ts hd.field (hd.terms.take k)))) (fun i _ _ => hd.terms.length - (intOf i).toNat)
  case atStart => exact ⟨0, Nat.zero_le _, rfl, Foot.refl _ _, by have := HO.out; rw [HN0.out] at this ⊢; simpa [ts] using this⟩
  case round =>
    obtain ⟨k, hk1, rfl, hF, hown⟩ := hrel
    obtain ⟨A5, c5, rfl⟩ := own_slice hown
    have hsr := hF.size
    have K := footL_blk hF HK.out (by decide)
    have HFF := Lib.hid hF
    rcases Nat.lt_or_ge k hd.terms.length with hlt | hge
    · obtain ⟨t, ht⟩ : ∃ t, hd.terms[k]? = some t := ⟨_, List.getElem?_eq_getElem hlt⟩
      have htn : hd.terms.length = (strs hd.terms).length := by simp [strs]
      obtain ⟨g, o, e4, hg4, hc4⟩ := HQ1.out (by intro e; rw [e] at htn; simp at htn; rw [htn] at hlt; simp at hlt)
      subst e4
      have hbel : Below RB w wr := (footL_toBelow HF.out hRB).trans (footL_toBelow hF (by omega))
      have x0 : wr.cell? ⟨g, o + k, none⟩ = some (.string t) := (hbel.cell (p := ⟨g, o + k, none⟩) (by show g < _; omega)).trans (hc4 _ _ (by simp [strs, ht]))
      have y1 : wr.cell? ⟨w.heap.size, 1, none⟩ = some (.int .i64 hd.field) := K.cell 1
      have i1 : (k : Int) < (hd.terms.length : Int) := by omega
      have i3 : (k : Int) < 9223372036854775807 := by omega
      obtain ⟨N, hN⟩ : ∃ N, N = (L0 ++ ts hd.field (hd.terms.take k)).length := ⟨_, rfl⟩
      rw [← hN] at hown
      have hNl : N ≤ 1073741824 := by rw [hN]; simp [ts]; omega
      have HO2 := Lib.hid hown
      have HT := Lib.hid ht
      have HNN := Lib.hid hN
      rw [← hN]
      clear hown ht hN hc4 htn K hF hbel
      go_wp2_with (at_builtin; refine wpList_append1 (by rfl) _ _ (by rfl) leafEl HO2.out (by rfl) (cs := #[.int .i64 hd.field, .string t]) (by rfl) (by rfl) (by simp [Value.oneCell']) (by omega) (by unfold maxLen; omega) (by omega) ?_; intro v9 w9 ho9 hg9 _; obtain ⟨A9, c9, rfl⟩ := own_slice ho9)
      go_roundw
      case rel =>
        refine ⟨k + 1, by omega, by go_num, footL_trans HFF.out (footL_grown hg9 fun g hg => ?_), ?_⟩
        · obtain ⟨q1, cs, fr, q2⟩ := own_type HO2.out g hg
          exact ⟨q1, cs, fr, q2⟩
        · have e : L0 ++ ts hd.field (hd.terms.take (k + 1)) = (L0 ++ ts hd.field (hd.terms.take k)) ++ [⟨hd.field, t⟩] := by
            unfold ts
            rw [List.take_add_one, HT.out]
            simp
          rw [e, lfCs_app, lfCs_one, List.length_append, List.length_singleton, ← HNN.out]
          exact ho9
      case measure => simp [intOf]; omega
    · obtain rfl : k = hd.terms.length := by omega
      rw [List.take_length] at hown
      obtain ⟨L1, hL1⟩ : ∃ L, L = L0 ++ ts hd.field hd.terms := ⟨_, rfl⟩
      rw [← hL1] at hown
      have y10 : wr.cell? ⟨w.heap.size, 14, none⟩ = some (.slice A4 ks.length c4) := K.cell 14
      have hL1l : L1.length + (trmss ks).length ≤ 1073741824 := by rw [hL1]; simp [ts]; omega
      have HO2 := Lib.hid hown
      have HL1 := Lib.hid hL1
      rw [List.take_length, ← hL1]
      obtain ⟨N1, hN1⟩ : ∃ N, N = L1.length := ⟨_, rfl⟩
      rw [← hN1] at HO2 ⊢
      have HN1 := Lib.hid hN1
      clear hown hL1 K hF hN1
      obtain ⟨wa, hwa⟩ : ∃ x, x = wr := ⟨wr, rfl⟩
      subst hwa
      go_wp2_with fail
      clear y10
      go_loopw [38, 1] (fun i v w3 => ∃ (k : Nat) (n : Nat), k ≤ ks.length ∧ i = .int .i64 k ∧ Foot wa w3 (okL RB wa) ∧ n = (L1 ++ trmss (ks.take k)).length ∧ w3.ownsRow RB 51 2 v n (lfCs (L1 ++ trmss (ks.take k)))) (fun i _ _ => ks.length - (intOf i).toNat)
      case atStart => exact ⟨0, N1, Nat.zero_le _, rfl, Foot.refl _ _, by rw [HN1.out]; simp [trmss], by simpa [trmss] using HO2.out⟩
      case round =>
        obtain ⟨k, n, hk2, rfl, hF3, hn, hown⟩ := hrel
        obtain ⟨A6, c6, rfl⟩ := own_slice hown
        have hs3 := hF3.size
        rcases Nat.lt_or_ge k ks.length with hlt | hge
        · obtain ⟨y, hy⟩ : ∃ y, ks[k]? = some y := ⟨_, List.getElem?_eq_getElem hlt⟩
          obtain ⟨g, o, rfl, hg, hc⟩ := HQ4.out (by intro h; subst h; simp at hlt)
          have hbel : Below RB w wr := (footL_toBelow HF.out hRB).trans ((footL_toBelow HFF.out (by omega)).trans (footL_toBelow hF3 (by omega)))
          have hq := (HQ5.out k y hy).kept hbel hB
          obtain ⟨B1, B2, B3, B4, d1, d2, d3, d4, e, x0, x1, x2, x3, x4, x5, x6, x7, x8, x9, x10, x11, x12, x13, x14⟩ := kid_cells hq (fun j u hu => (hbel.cell (p := ⟨g, o + k * 15 + j, none⟩) (Nat.lt_of_lt_of_le hg hB)).trans (hc k hlt j u hu))
          have i1 : (k : Int) < (ks.length : Int) := by omega
          have i3 : (k : Int) < 9223372036854775807 := by omega
          have htl := trmss_len hy
          have hn' : n + (trms y).length ≤ 1073741824 := by rw [hn, List.length_append]; omega
          obtain ⟨CQ, hCQ⟩ : ∃ C, C = qcells y.h y.kids.length B1 B2 B3 B4 d1 d2 d3 d4 := ⟨_, rfl⟩
          obtain ⟨W7, hW7⟩ : ∃ W, W = wr.alloc (.cells CQ 29) := ⟨_, rfl⟩
          have b7 : Below wr.heap.size wr W7 := by rw [hW7]; exact Base.bel
          have T7 : Blk W7 wr.heap.size 29 CQ := by rw [hW7]; exact Blk.new _ _ _
          have o7 := own_below hown b7
          have IH := Lib.hid (by
            have := HIH.out y (List.mem_of_getElem? hy) (kc k) B RB (L1 ++ trmss (ks.take k)) (.slice A6 n c6) W7 (hq.kept b7 (by omega)) hB (Nat.le_trans (by omega) b7.size) (by rw [← hn]; exact o7) (by rw [← hn]; exact hn')
            rw [e, ← hCQ] at this
            exact this)
          rw [hCQ] at T7 hW7 IH
          unfold qcells at T7 hW7 IH
          obtain ⟨q0, q1, q2, q3, q4, q5, q6, q7, q8, q9, q10, q11, q12, q13, q14⟩ := qrow T7
          have HW7 := Lib.hid hW7
          have HF7 := Lib.hid (footL_trans hF3 (footL_below b7))
          have HY := Lib.hid hy
          have HN := Lib.hid hn
          clear hCQ hW7 b7 T7 o7 hF3 hq hc hbel e hy htl hown hn
          go_upto_region 11 with fail
          rw [← HW7.out]
          clear x0 x1 x2 x3 x4 x5 x6 x7 x8 x9 x10 x11 x12 x13 x14
          go_wp2_with (go_at_call 12; (with_reducible refine IH.out.mono ?_); rintro e w9 ⟨v9, rfl, ho9, hf9⟩; rw [List.length_append, List.length_append, Nat.add_assoc] at ho9; obtain ⟨A9, c9, rfl⟩ := own_slice ho9; have HO9 := Lib.hid ho9; have HF9 := Lib.hid hf9; clear ho9 hf9)
          go_roundw
          case rel => exact ⟨k + 1, L1.length + ((trmss (ks.take k)).length + (trms y).length), by omega, by go_num, footL_trans HF7.out HF9.out, by rw [trmss_take HY.out, List.length_append, List.length_append], by rw [trmss_take HY.out, ← List.append_assoc]; exact HO9.out⟩
          case measure => simp [intOf]; omega
        · obtain rfl : k = ks.length := by omega
          rw [List.take_length] at hn hown
          have HN := Lib.hid hn
          have HO3 := Lib.hid hown
          have HF3 := Lib.hid hF3
          clear hn hown hF3
          go_wp2_with fail
          go_ret
          refine ⟨_, rfl, ?_, footL_trans HF.out (footL_trans HFF.out HF3.out)⟩
          have := HO3.out
          rw [HN.out, HL1.out, List.append_assoc] at this
          rw [HN.out, HL1.out, List.append_assoc]
          exact this

set_option maxHeartbeats 4000000 in
theorem terms_any (q : Qry) : ∀ (cs : List Value) (B RB : Nat) (L : List Lf) (v : Value) (w : World), QVal w B cs q → B ≤ RB → RB ≤ w.heap.size → w.ownsRow RB 51 2 v L.length (lfCs L) → L.length + (trms q).length ≤ 1073741824 →
    Calls Tryz.prog 12 #[.agg cs.toArray, v] w (IsT w RB (L ++ trms q)) := by
  induction q using Qry.ind with
  | h q ih =>
    intro cs B RB L v w hq hB hRB hown hlen
    obtain ⟨hd, ks, A1, A2, A3, A4, c1, c2, c3, c4, kc, hw, hk, h1, h2, h3, h4, h5⟩ := hq
    simp only [Qry.kids] at ih
    rw [trms, List.length_append] at hlen
    obtain ⟨W1, hW1⟩ : ∃ W, W = w.alloc (.cells (qcells hd ks.length A1 A2 A3 A4 c1 c2 c3 c4) 29) := ⟨_, rfl⟩
    have K1 : Blk W1 w.heap.size 29 (qcells hd ks.length A1 A2 A3 A4 c1 c2 c3 c4) := by rw [hW1]; exact Blk.new w _ _
    have b1 : Below w.heap.size w W1 := by rw [hW1]; exact Base.bel
    have o1 := own_below hown b1
    obtain ⟨A0, c0, rfl⟩ := own_slice o1
    obtain ⟨n0, hn0⟩ : ∃ n, n = L.length := ⟨_, rfl⟩
    rw [← hn0] at o1
    have HN0 := Lib.hid hn0
    have HK1 := Lib.hid K1
    have HF1 := Lib.hid (show Foot w W1 (okL RB w) from footL_below b1)
    have HO1 := Lib.hid o1
    have HIH := Lib.hid ih
    have HW1 := Lib.hid hW1
    have HQ1 := Lib.hid h1
    have HQ4 := Lib.hid h4
    have HQ5 := Lib.hid h5
    have hsz1 := b1.size
    have etr : trms (.mk hd ks) = trm hd ++ trmss ks := rfl
    rw [etr]
    unfold trm at hlen ⊢
    have ets : (hd.terms.map fun t => (⟨hd.field, t⟩ : Lf)) = ts hd.field hd.terms := rfl
    have tsl : (ts hd.field hd.terms).length = hd.terms.length := by simp [ts]
    rw [ets] at hlen ⊢
    rw [List.length_append, tsl] at hlen
    rw [← hn0] at hlen ⊢
    have y0 : W1.cell? ⟨w.heap.size, 0, none⟩ = some (.int .i64 hd.kind) := K1.cell 0
    have y1 : W1.cell? ⟨w.heap.size, 1, none⟩ = some (.int .i64 hd.field) := K1.cell 1
    have y2 : W1.cell? ⟨w.heap.size, 2, none⟩ = some (.string hd.text) := K1.cell 2
    have hkl : ks.length ≤ maxLen := hk
    clear hn0 K1 b1 o1 ih hW1 h1 h2 h3 h4 h5 hown hk etr ets tsl
    by_cases hk4 : hd.kind = 4
    · rw [if_pos hk4] at hlen ⊢
      have e4 : (hd.kind == 4) = true := by rw [hk4]; rfl
      rw [show L ++ (([⟨hd.field, hd.text⟩] ++ ts hd.field hd.terms) ++ trmss ks) = (L ++ [⟨hd.field, hd.text⟩]) ++ (ts hd.field hd.terms ++ trmss ks) by simp [List.append_assoc]]
      obtain ⟨L2, hL2⟩ : ∃ l, l = L ++ [(⟨hd.field, hd.text⟩ : Lf)] := ⟨_, rfl⟩
      rw [← hL2]
      have HL2 := Lib.hid hL2
      clear hL2
      simp only [List.length_singleton] at hlen
      have HLE := Lib.hid hlen
      have hn1 : n0 ≤ 1073741824 := by omega
      clear hk4
      unfold qcells at HW1
      go_enter Tryz.func12, Tryz.ntmps12
      refine EmitExt.cast_code (c := .seq ?r0 (.seq ?p1 (tailT 3))) ?e ?_
      case e => exact rfl
      go_upto_region 1 with fail
      rw [← HW1.out]
      go_wp2_with (at_builtin; refine wpList_append1 (by rfl) _ _ (by rfl) leafEl HO1.out (by rfl) (cs := #[.int .i64 hd.field, .string hd.text]) (by rfl) (by rfl) (by simp [Value.oneCell']) (by omega) (by unfold maxLen; omega) (by omega) ?_; intro v9 w9 ho9 hg9 _; obtain ⟨A9, c9, rfl⟩ := own_slice ho9)
      have HF9 := Lib.hid (footL_trans HF1.out (footL_grown hg9 fun g hg => by obtain ⟨q1, cs, fr, q2⟩ := own_type HO1.out g hg; exact ⟨q1, cs, fr, q2⟩))
      have HK9 := Lib.hid (footL_blk (RB := RB) (footL_grown hg9 fun g hg => by obtain ⟨q1, cs, fr, q2⟩ := own_type HO1.out g hg; exact ⟨q1, cs, fr, q2⟩) HK1.out (by decide))
      have eL : n0 + 1 = L2.length := by rw [HN0.out, HL2.out]; simp
      exact terms_rest hd ks A1 A2 A3 A4 c1 c2 c3 c4 kc B RB L2 A9 (n0 + 1) c9 w w9 hB hRB (Lib.hid eL) HF9 HK9 (Lib.hid (by rw [← eL, HL2.out, lfCs_app, lfCs_one]; exact ho9)) (by rw [← eL]; have := HLE.out; omega) hkl HQ1 HQ4 HQ5 HIH _ _ _ _ _ _ _ _ _ _ _ _ _ _ _ _ _ _ _ _ _ _ _ _ _ _ _ _ _ _ _ _ _ _ _ _ _ _ _ _ _ _ _ _ _
    · rw [if_neg hk4] at hlen ⊢
      have e4 : (hd.kind == 4) = false := beq_eq_false_iff_ne.2 hk4
      rw [show L ++ (([] ++ ts hd.field hd.terms) ++ trmss ks) = L ++ (ts hd.field hd.terms ++ trmss ks) by simp]
      simp only [List.length_nil] at hlen
      have TR := Lib.hid (terms_rest hd ks A1 A2 A3 A4 c1 c2 c3 c4 kc B RB L A0 n0 c0 w W1 hB hRB HN0 HF1 HK1 (Lib.hid (by rw [← HN0.out]; exact HO1.out)) (by rw [← HN0.out]; omega) hkl HQ1 HQ4 HQ5 HIH)
      clear hk4
      unfold qcells at HW1
      go_enter Tryz.func12, Tryz.ntmps12
      refine EmitExt.cast_code (c := .seq ?r0 (.seq ?p1 (tailT 3))) ?e ?_
      case e => exact rfl
      go_upto_region 1 with fail
      rw [← HW1.out]
      go_wp2_with fail
      exact TR.out _ _ _ _ _ _ _ _ _ _ _ _ _ _ _ _ _ _ _ _ _ _ _ _ _ _ _ _ _ _ _ _ _ _ _ _ _ _ _ _ _ _ _ _ _
end Go.Proofs.YtfpikilhbkeajaaGreatDoor.LawTerms

namespace Go.Proofs.YtfpikilhbkeajaaGreatDoor.LawAt
set_option maxRecDepth 100000
open Go.RowKit Go.PlainAid Base Query EmitPlain EmitBase EmitPut LeafMap AllLeaves

def placeOf (L : List Lf) (l : Lf) : Int := if l ∈ L then (L.idxOf l : Int) else -1
theorem placeOf_neg (L : List Lf) (l : Lf) : placeOf L l < 0 ↔ l ∉ L := by
  unfold placeOf
  split
  · rename_i h; constructor
    · intro h2; omega
    · intro h2; exact absurd h h2
  · rename_i h; exact ⟨fun _ => h, fun _ => by omega⟩
theorem idx_take {L : List Lf} {k : Nat} {l : Lf} (h : L[k]? = some l) (hn : l ∉ L.take k) : placeOf L l = k := by
  have hk := List.getElem?_eq_some_iff.1 h
  unfold placeOf
  rw [if_pos (List.mem_of_getElem? h)]
  have e : L = L.take k ++ l :: L.drop (k + 1) := by
    obtain ⟨h1, h2⟩ := hk
    rw [← h2, List.getElem_cons_drop h1, List.take_append_drop]
  rw [e, List.idxOf_append, if_neg hn, List.idxOf_cons_self, List.length_take]
  have := hk.1
  omega
theorem ba_eq {t u : ByteArray} (e : t.toList = u.toList) : t = u := by
  have ea : t.data = u.data := by
    have e1 : t.data.toList = u.data.toList := by simpa [ByteArray.toList_eq] using e
    exact Array.toList_inj.1 e1
  obtain ⟨t⟩ := t
  obtain ⟨u⟩ := u
  simp at ea
  subst ea
  rfl
theorem lf_eq {y l : Lf} : (y = l) ↔ (y.field = l.field ∧ y.term = l.term) := by
  obtain ⟨f, t⟩ := y; obtain ⟨g, u⟩ := l; simp

set_option maxHeartbeats 2000000 in
theorem at_any (L : List Lf) (l : Lf) (A : Option Addr) (c : Nat) (w : World) (S : Slc w w.heap.size A (lfCs L)) (hl : L.length ≤ 1099511627776) :
    Calls Tryz.prog 13 #[.slice A L.length c, .agg #[.int .i64 l.field, .string l.term]] w fun e w' => e = .returned (.int .i64 (placeOf L l)) ∧ Below w.heap.size w w' := by
  obtain ⟨W1, hW1⟩ : ∃ W, W = w.alloc (.cells #[.int .i64 l.field, .string l.term] 51) := ⟨_, rfl⟩
  have K1 : Blk W1 w.heap.size 51 #[.int .i64 l.field, .string l.term] := by rw [hW1]; exact Blk.new w _ _
  have hb1 : Below w.heap.size w W1 := by rw [hW1]; exact Base.bel
  have s1 : W1.heap.size = w.heap.size + 1 := by rw [hW1]; simp
  have HS := Lib.hid S
  have HK := Lib.hid K1
  have HB := Lib.hid hb1
  have HS1 := Lib.hid s1
  have HW1 := Lib.hid hW1
  clear hW1 S K1 hb1 s1
  go_enter Tryz.func13, Tryz.ntmps13
  go_upto_region 1 with fail
  rw [← HW1.out]
  go_wp2_with fail
  go_loopw [9] (fun i wr => ∃ k : Nat, k ≤ L.length ∧ i = .int .i64 k ∧ Below W1.heap.size W1 wr ∧ l ∉ L.take k) (fun i _ => L.length - (intOf i).toNat)
  case atStart => exact ⟨0, Nat.zero_le _, rfl, Below.refl _ _, by simp⟩
  case round =>
    obtain ⟨k, hk, rfl, hb, hn⟩ := hrel
    have HN := Lib.hid hn
    have HBB := Lib.hid hb
    rcases Nat.lt_or_ge k L.length with hlt | hge
    · obtain ⟨y, hy⟩ : ∃ y, L[k]? = some y := ⟨_, List.getElem?_eq_getElem hlt⟩
      obtain ⟨g, o, e4, hg4, hc4⟩ := HS.out (by intro e; have := lfCs_len L; rw [e] at this; simp only [List.length_nil] at this; omega)
      subst e4
      have hbel : Below w.heap.size w wr := HB.out.trans (hb.mono (by have := HS1.out; omega))
      obtain ⟨d0, d1⟩ := lfCs_at L k y hy
      have x0 : wr.cell? ⟨g, o + k * 2, none⟩ = some (.int .i64 y.field) := (hbel.cell (p := ⟨g, o + k * 2, none⟩) (by show g < _; omega)).trans (hc4 _ _ d0)
      have x1 : wr.cell? ⟨g, o + k * 2 + 1, none⟩ = some (.string y.term) := (hbel.cell (p := ⟨g, o + k * 2 + 1, none⟩) (by show g < _; omega)).trans (hc4 _ _ d1)
      have i1 : (k : Int) < (L.length : Int) := by omega
      have i3 : (k : Int) < 9223372036854775807 := by omega
      obtain ⟨W5, hW5⟩ : ∃ W, W = wr.alloc (.cells #[.int .i64 y.field, .string y.term] 51) := ⟨_, rfl⟩
      have hb5 : Below wr.heap.size wr W5 := by rw [hW5]; exact Base.bel
      have T5 : Blk W5 wr.heap.size 51 #[.int .i64 y.field, .string y.term] := by rw [hW5]; exact Blk.new _ _ _
      have K5 : Blk W5 w.heap.size 51 #[.int .i64 l.field, .string l.term] := (HK.out.below hb HK.out.lt).below hb5 (Nat.lt_of_lt_of_le HK.out.lt hb.size)
      have t0 : W5.cell? ⟨wr.heap.size, 0, none⟩ = some (.int .i64 y.field) := T5.cell 0
      have t1 : W5.cell? ⟨wr.heap.size, 1, none⟩ = some (.string y.term) := T5.cell 1
      have k0 : W5.cell? ⟨w.heap.size, 0, none⟩ = some (.int .i64 l.field) := K5.cell 0
      have k1 : W5.cell? ⟨w.heap.size, 1, none⟩ = some (.string l.term) := K5.cell 1
      have HB5 := Lib.hid (hb.trans (hb5.mono hb.size))
      have HW5 := Lib.hid hW5
      have HY := Lib.hid hy
      clear hW5 hb5 T5 K5 hb hbel hc4 hy d0 d1 hn
      go_upto_region 4 with fail
      rw [← HW5.out]
      have hcs : (y.field == l.field) = false ∨ ((y.field == l.field) = true ∧ (y.term.toList == l.term.toList) = false) ∨ ((y.field == l.field) = true ∧ (y.term.toList == l.term.toList) = true) := by
        cases (y.field == l.field) <;> cases (y.term.toList == l.term.toList) <;> simp
      have hyl : (y.field == l.field) = true → (y.term.toList == l.term.toList) = true → y = l := fun h1 h2 => by
        exact lf_eq.2 ⟨eq_of_beq h1, ba_eq (eq_of_beq h2)⟩
      have hly : y = l → (y.field == l.field) = true ∧ (y.term.toList == l.term.toList) = true := fun h => by subst h; exact ⟨beq_self_eq_true _, beq_self_eq_true _⟩
      have HYL := Lib.hid hyl
      have HLY := Lib.hid hly
      clear hyl hly
      rcases hcs with e1 | ⟨e1, e2⟩ | ⟨e1, e2⟩
      · have hne : Hid (y ≠ l) := Lib.hid fun h => by have := (HLY.out h).1; rw [e1] at this; cases this
        go_wp2_with fail
        go_roundw
        case rel => exact ⟨k + 1, by omega, by go_num, HB5.out, by rw [List.take_add_one, HY.out]; simp only [Option.toList_some, List.mem_append, List.mem_singleton, not_or]; exact ⟨HN.out, fun h => hne.out h.symm⟩⟩
        case measure => simp [intOf]; omega
      · have hne : Hid (y ≠ l) := Lib.hid fun h => by have := (HLY.out h).2; rw [e2] at this; cases this
        go_wp2_with fail
        go_roundw
        case rel => exact ⟨k + 1, by omega, by go_num, HB5.out, by rw [List.take_add_one, HY.out]; simp only [Option.toList_some, List.mem_append, List.mem_singleton, not_or]; exact ⟨HN.out, fun h => hne.out h.symm⟩⟩
        case measure => simp [intOf]; omega
      · have HP := Lib.hid (show placeOf L l = (k : Int) from idx_take (by rw [HY.out, HYL.out e1 e2]) HN.out)
        go_wp2_with fail
        go_ret
        exact ⟨by rw [HP.out]; rfl, HB.out.trans (HB5.out.mono (by have := HS1.out; omega))⟩
    · obtain rfl : k = L.length := by omega
      have HP := Lib.hid (show placeOf L l = -1 by rw [List.take_length] at hn; unfold placeOf; rw [if_neg hn])
      clear hn hb
      go_wp2_with fail
      go_ret
      exact ⟨by rw [HP.out]; rfl, HB.out.trans (HBB.out.mono (by have := HS1.out; omega))⟩
end Go.Proofs.YtfpikilhbkeajaaGreatDoor.LawAt
