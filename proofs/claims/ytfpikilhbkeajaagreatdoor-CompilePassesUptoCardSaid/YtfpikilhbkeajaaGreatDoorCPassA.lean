/-
  CompilePasses in plain Lean: a good plan's tables and code are what the verifier takes.
  The reference's short over any query.
-/
import Derived.Test.YtfpikilhbkeajaaGreatDoorTablesPlain
import Derived.Test.YtfpikilhbkeajaaGreatDoorCVer
import Derived.Test.YtfpikilhbkeajaaGreatDoorCGood
import Derived.Test.YtfpikilhbkeajaaGreatDoorAvg
set_option linter.unusedVariables false
set_option linter.unusedSimpArgs false
namespace Go.Proofs.YtfpikilhbkeajaaGreatDoor.PassPlain
set_option maxRecDepth 100000
open Go.RowKit Go.PlainAid Base Query QrySize EmitPlain EmitBase EmitQ0 TextPlain CodePlain GoodLoc GoodPl TabPlain TablesPlain Avg ProgTail VerPlain VerTables VerPass

def sm (l : Lf) : Bool := decide (l.term.size ≤ 64)
def shB (h : Head) : Bool := (!decide (h.kind = 4) || decide (h.text.size ≤ 64)) && h.terms.all fun t => decide (t.size ≤ 64)
mutual
def shQ : Qry → Bool
  | .mk h ks => shB h && shQs ks
def shQs : List Qry → Bool
  | [] => true
  | q :: r => shQ q && shQs r
end
theorem shQs_all : ∀ l : List Qry, shQs l = l.all shQ
  | [] => by simp [shQs]
  | q :: r => by simp [shQs, shQs_all r]
theorem shB_leafs {n : Int} {h : Head} {nk : Nat} (hb : locB n true h nk = true) : shB h = (hleafs h).all sm := by
  obtain ⟨kind, field, text, terms, offs, qn, weight, lo, hi, occur⟩ := h
  have h1 : 1 ≤ kind ∧ kind ≤ 14 := by
    unfold locB at hb
    simp only [Bool.and_eq_true, decide_eq_true_iff] at hb
    exact ⟨hb.1.1.1.1.1, hb.1.1.1.1.2⟩
  rcases (by omega : kind = 1 ∨ kind = 2 ∨ kind = 3 ∨ kind = 4 ∨ kind = 5 ∨ kind = 6 ∨ kind = 7 ∨ kind = 8 ∨ kind = 9 ∨ kind = 10 ∨ kind = 11 ∨ kind = 12 ∨ kind = 13 ∨ kind = 14) with rfl | rfl | rfl | rfl | rfl | rfl | rfl | rfl | rfl | rfl | rfl | rfl | rfl | rfl
  all_goals simp [locB, numB, lstB, hasOf, inR] at hb
  all_goals simp [shB, hleafs, sm]
  all_goals (try simp [hb])
  all_goals (try rfl)
theorem field_in {n : Int} {h : Head} {nk : Nat} (hb : locB n true h nk = true) : ∀ l ∈ hleafs h, 0 ≤ l.field ∧ l.field < n := by
  obtain ⟨kind, field, text, terms, offs, qn, weight, lo, hi, occur⟩ := h
  have h1 : 1 ≤ kind ∧ kind ≤ 14 := by
    unfold locB at hb
    simp only [Bool.and_eq_true, decide_eq_true_iff] at hb
    exact ⟨hb.1.1.1.1.1, hb.1.1.1.1.2⟩
  intro l hl
  unfold hleafs at hl
  simp only at hl
  split at hl
  · rename_i e
    subst e
    simp [locB, numB, lstB, hasOf, inR] at hb
    rw [List.mem_singleton] at hl
    subst hl
    exact hb.1.1.1.1
  · split at hl
    · rename_i e
      subst e
      simp [locB, numB, lstB, hasOf, inR] at hb
      obtain ⟨t, _, rfl⟩ := List.mem_map.1 hl
      exact hb.1.1.1.1.1
    · cases hl
mutual
theorem shQ_leafs {n : Int} : ∀ q : Qry, good n true q = true → shQ q = (leafs q).all sm
  | .mk h ks, hg => by
    unfold good at hg
    rw [goodBy, Bool.and_eq_true] at hg
    rw [shQ, leafs, List.all_append, shB_leafs hg.1, shQs_leafs ks hg.2]
theorem shQs_leafs {n : Int} : ∀ ks : List Qry, goodsBy (locB n true) ks = true → shQs ks = (leafss ks).all sm
  | [], _ => rfl
  | q :: r, hg => by
    rw [goodsBy, Bool.and_eq_true] at hg
    rw [shQs, leafss, List.all_append, shQ_leafs q hg.1, shQs_leafs r hg.2]
theorem leafs_in {n : Int} : ∀ q : Qry, good n true q = true → ∀ l ∈ leafs q, 0 ≤ l.field ∧ l.field < n
  | .mk h ks, hg => by
    unfold good at hg
    rw [goodBy, Bool.and_eq_true] at hg
    intro l hl
    rw [leafs, List.mem_append] at hl
    exact hl.elim (field_in hg.1 l) (leafss_in ks hg.2 l)
theorem leafss_in {n : Int} : ∀ ks : List Qry, goodsBy (locB n true) ks = true → ∀ l ∈ leafss ks, 0 ≤ l.field ∧ l.field < n
  | [], _ => by intro l hl; simp [leafss] at hl
  | q :: r, hg => by
    rw [goodsBy, Bool.and_eq_true] at hg
    intro l hl
    rw [leafss, List.mem_append] at hl
    exact hl.elim (leafs_in q hg.1 l) (leafss_in r hg.2 l)
end
theorem avg_pos (d x : Int) : 0 ≤ avgOf d x := by
  unfold avgOf
  split
  · exact Int.le_refl _
  · exact Int.tdiv_nonneg (by omega) (by omega)
def fldOf (C : List Lf) (i : Int) : Int := ((C[i.toNat]?).map Lf.field).getD 0
theorem pass_facts (q : Qry) (all : Bool) (dr C : List Lf) (avgs : List Int) (hg : goodPl avgs.length q all dr = true) (hm : ∀ l, l ∈ C ↔ l ∈ leafs q ++ dr) (hG : GoodQ q) (hW : WfQ q) (hsz : q.size ≤ 16777216) (hCl : C.length ≤ 1073741824) (havg : ∀ a ∈ avgs, 0 ≤ a) :
    TabG ⟨avgs.length, C.length, (nearsOf C q).length⟩ (fldOf C) avgs C (nearsOf C q) all (driveL (numOf C) dr) ∧ (codeOf C q).length ≤ 3 * q.size ∧ ∃ m H, Pass ⟨avgs.length, C.length, (nearsOf C q).length⟩ (codeOf C q) m H := by
  unfold goodPl at hg
  simp only [Bool.and_eq_true, decide_eq_true_iff, List.all_eq_true, Bool.not_eq_true'] at hg
  obtain ⟨⟨⟨⟨⟨n1, n2⟩, hgd⟩, hal⟩, hdr⟩, hsm⟩ := hg
  have hnum : ∀ l, 0 ≤ numOf C l ∧ numOf C l < 9223372036854775808 := fun l => by have := numOf_bnd C l; omega
  have hin : ∀ l ∈ C, 0 ≤ l.field ∧ l.field < (avgs.length : Int) := fun l hl => by
    rcases List.mem_append.1 ((hm l).1 hl) with h | h
    · exact leafs_in q hgd l h
    · have := hdr l h
      unfold inF at this
      simpa using this
  have hlf : ∀ l ∈ leafs q, numOf C l < (C.length : Int) ∧ fldOf C (numOf C l) = l.field := fun l hl => by
    obtain ⟨k, h1, h2, h3⟩ := numOf_at ((hm l).2 (List.mem_append_left _ hl))
    rw [h2]
    refine ⟨by omega, ?_⟩
    unfold fldOf
    rw [Int.toNat_natCast, h3]
    rfl
  have VF := emit_vf ⟨avgs.length, C.length, (nearsOf C q).length⟩ (fldOf C) (numOf C) hnum (by dsimp only; omega) q hG hW (by omega) hgd hlf true 0 (Int.le_refl _)
  have KB := emit_kb (numOf C) hnum q hG hW (by omega) true
  have hdC : ∀ l ∈ dr, l ∈ C := fun l hl => (hm l).2 (List.mem_append_right _ hl)
  refine ⟨⟨⟨by omega, by omega⟩, havg, fun l hl => ⟨(hin l hl).1, (hin l hl).2, hsm l ((hm l).1 hl)⟩, rfl, fun i c hc => ?_, fun r hr => VF.near 0 r hr, fun r hr => (VF.near 0 r hr).few, fun ha => ?_, fun i d hd => ?_, fun i a b ha hb => drive_lt ha hb⟩, ?_, ?_⟩
  · unfold fldOf
    rw [Int.toNat_natCast, hc]
    rfl
  · subst ha
    have : dr = [] := by
      simp at hal
      exact hal
    rw [this]
    simp [driveL, ddup]
  · obtain ⟨k, rfl, h2, _⟩ := drive_at hdC hd
    omega
  · have := KB.len 0
    unfold codeOf
    rw [List.length_append]
    simp only [List.length_cons, List.length_nil]
    omega
  · obtain ⟨H, hH⟩ := pass_of (VF.seg 0 (by rw [Nat.zero_add]; exact Nat.le_refl _))
    exact ⟨_, H, hH⟩
end Go.Proofs.YtfpikilhbkeajaaGreatDoor.PassPlain

namespace Go.Proofs.YtfpikilhbkeajaaGreatDoor.RefShort
set_option maxRecDepth 100000
open Go.RowKit Go.PlainAid Base Query QrySize EmitPlain EmitBase EmitExt HitBase TabMem PassPlain

def smT (t : ByteArray) : Bool := decide (t.size ≤ 64)
noncomputable def tailS (k : Nat) : Code := ((Tryz.f35.body).bind (fromR k)).getD .skip
theorem all_step {α : Type} {P : α → Bool} {L : List α} {k : Nat} {x : α} (h : L[k]? = some x) : (L.take (k + 1)).all P = ((L.take k).all P && P x) := by
  rw [List.take_add_one, h, List.all_append]
  simp
theorem shQs_step {ks : List Qry} {k : Nat} {x : Qry} (h : ks[k]? = some x) : shQs (ks.take (k + 1)) = (shQs (ks.take k) && shQ x) := by
  rw [shQs_all, shQs_all, all_step h]

set_option maxHeartbeats 4000000 in
theorem short_rest (hd : Head) (ks : List Qry) (A1 A2 A3 A4 : Option Addr) (c1 c2 c3 c4 : Nat) (kc : Nat → List Value) (B : Nat) (b0 : Bool) (w W1 : World) (hB : B ≤ w.heap.size) (HB : Hid (Below w.heap.size w W1)) (HK : Hid (Blk W1 w.heap.size 29 (qcells hd ks.length A1 A2 A3 A4 c1 c2 c3 c4))) (hk : ks.length ≤ maxLen) (htl : hd.terms.length ≤ maxLen)
    (HQ1 : Hid (Slc w B A1 (strs hd.terms))) (HQ4 : Hid (ks ≠ [] → ∃ g o, A4 = some ⟨g, o, none⟩ ∧ g < B ∧ ∀ i, i < ks.length → ∀ j u, (kc i)[j]? = some u → w.cell? ⟨g, o + i * 15 + j, none⟩ = some u)) (HQ5 : Hid (∀ i k, ks[i]? = some k → QVal w B (kc i) k))
    (HIH : Hid (∀ k ∈ ks, ∀ (cs : List Value) (B : Nat) (w : World), QVal w B cs k → B ≤ w.heap.size → Calls Tryz.prog 35 #[.agg cs.toArray] w fun e w' => e = .returned (.bool (shQ k)) ∧ Below w.heap.size w w'))
    (u0 u2 u4 u5 u6 u7 u8 u9 u10 u11 u12 u13 u14 u15 u16 u17 u18 u19 u20 u21 u22 u23 u24 u25 u26 u27 u28 u29 u30 u31 u32 u33 u34 u35 u36 u37 u38 u39 u40 u41 u42 u43 u44 : Value) :
    Code.wp Tryz.prog (tailS 2) (bodyPost Tryz.prog Tryz.f35 (fun e w' => e = .returned (.bool ((b0 && hd.terms.all smT) && shQs ks)) ∧ Below w.heap.size w w')) ⟨#[u0, .pointer (some ⟨w.heap.size, 0, none⟩), u2, .bool b0, u4, u5, u6, u7, u8, u9, u10, u11, u12, u13, u14, u15, u16, u17, u18, u19, u20, u21, u22, u23, u24, u25, u26, u27, u28, u29, u30, u31, u32, u33, u34, u35, u36, u37, u38, u39, u40, u41, u42, u43, u44], []⟩ W1 := by
  have hml : maxLen = 9223372036854775807 := rfl
  unfold qcells at HK
  have y3 : W1.cell? ⟨w.heap.size, 3, none⟩ = some (.slice A1 hd.terms.length c1) := HK.out.cell 3
  unfold tailS
  conv => arg 2; whnf
  go_wp2_with fail
  clear y3
  go_loopw [20, 3] (fun i v wr => ∃ k : Nat, ∃ ok : Bool, k ≤ hd.terms.length ∧ i = .int .i64 k ∧ v = .bool ok ∧ ok = (b0 && (hd.terms.take k).all smT) ∧ Below W1.heap.size W1 wr) (fun i _ _ => hd.terms.length - (intOf i).toNat)
  case atStart => exact ⟨0, b0, Nat.zero_le _, rfl, rfl, by simp, Below.refl _ _⟩
  case round =>
    obtain ⟨k, ok, hk1, rfl, rfl, hok, hb⟩ := hrel
    have HB2 := Lib.hid hb
    have HOK := Lib.hid hok
    have hbw : Below w.heap.size w wr := HB.out.trans (hb.mono HB.out.size)
    rcases Nat.lt_or_ge k hd.terms.length with hlt | hge
    · obtain ⟨t, ht⟩ : ∃ t, hd.terms[k]? = some t := ⟨_, List.getElem?_eq_getElem hlt⟩
      have htn : hd.terms.length = (strs hd.terms).length := by simp [strs]
      obtain ⟨g, o, e4, hg4, hc4⟩ := HQ1.out (by intro e; rw [e] at htn; simp at htn; rw [htn] at hlt; simp at hlt)
      subst e4
      have x0 : wr.cell? ⟨g, o + k, none⟩ = some (.string t) := (hbw.cell (p := ⟨g, o + k, none⟩) (by show g < _; omega)).trans (hc4 _ _ (by simp [strs, ht]))
      have i1 : (k : Int) < (hd.terms.length : Int) := by omega
      have i3 : (k : Int) < 9223372036854775807 := by omega
      have HST := Lib.hid (all_step (P := smT) ht)
      clear hc4 htn hb hbw ht hok
      cases ok
      · go_wp2_with fail
        go_roundw
        case rel => exact ⟨k + 1, false, by omega, by go_num, rfl, by rw [HST.out, ← Bool.and_assoc, ← HOK.out]; rfl, HB2.out⟩
        case measure => simp [intOf]; omega
      · rcases Nat.lt_or_ge 64 t.size with hs | hs
        · have d1 : decide ((t.size : Int) ≤ 64) = false := decide_eq_false (by omega)
          have HSM := Lib.hid (show smT t = false from decide_eq_false (by omega))
          go_wp2_with fail
          go_roundw
          case rel => exact ⟨k + 1, false, by omega, by go_num, rfl, by rw [HST.out, ← Bool.and_assoc, ← HOK.out, HSM.out]; rfl, HB2.out⟩
          case measure => simp [intOf]; omega
        · have d1 : decide ((t.size : Int) ≤ 64) = true := decide_eq_true (by omega)
          have HSM := Lib.hid (show smT t = true from decide_eq_true (by omega))
          go_wp2_with fail
          go_roundw
          case rel => exact ⟨k + 1, true, by omega, by go_num, rfl, by rw [HST.out, ← Bool.and_assoc, ← HOK.out, HSM.out]; rfl, HB2.out⟩
          case measure => simp [intOf]; omega
    · obtain rfl : k = hd.terms.length := by omega
      rw [List.take_length] at HOK
      have y14 : wr.cell? ⟨w.heap.size, 14, none⟩ = some (.slice A4 ks.length c4) := (HK.out.below hb HK.out.lt).cell 14
      clear hb hbw hok
      obtain ⟨wa, hwa⟩ : ∃ x, x = wr := ⟨wr, rfl⟩
      subst hwa
      go_wp2_with fail
      clear y14
      go_loopw [34, 3] (fun i v wr => ∃ k : Nat, ∃ b : Bool, k ≤ ks.length ∧ i = .int .i64 k ∧ v = .bool b ∧ b = ((b0 && hd.terms.all smT) && shQs (ks.take k)) ∧ Below w.heap.size w wr) (fun i _ _ => ks.length - (intOf i).toNat)
      case atStart => exact ⟨0, ok, Nat.zero_le _, rfl, rfl, by rw [HOK.out]; simp [shQs], HB.out.trans (HB2.out.mono HB.out.size)⟩
      case round =>
        obtain ⟨k, b, hk2, rfl, rfl, hbb, hb⟩ := hrel
        have HBB := Lib.hid hbb
        have HB3 := Lib.hid hb
        rcases Nat.lt_or_ge k ks.length with hlt | hge
        · obtain ⟨g, o, e4, hg, hc⟩ := HQ4.out (by intro h; subst h; simp at hlt)
          subst e4
          obtain ⟨x, hx⟩ : ∃ x, ks[k]? = some x := ⟨_, List.getElem?_eq_getElem hlt⟩
          have hq := (HQ5.out k x hx).kept hb hB
          obtain ⟨B1, B2, B3, B4, d1, d2, d3, d4, e, x0, x1, x2, x3, x4, x5, x6, x7, x8, x9, x10, x11, x12, x13, x14⟩ := kid_cells hq (fun j u hu => (hb.cell (p := ⟨g, o + k * 15 + j, none⟩) (Nat.lt_of_lt_of_le hg hB)).trans (hc k hlt j u hu))
          have IH := Lib.hid (fun W (hW : Below w.heap.size w W) => HIH.out x (List.mem_of_getElem? hx) _ B W ((HQ5.out k x hx).kept hW hB) (Nat.le_trans hB hW.size))
          rw [e] at IH
          unfold qcells at IH
          have i3 : (k : Int) < 9223372036854775807 := by omega
          have i1 : (k : Int) < (ks.length : Int) := by omega
          have HSS := Lib.hid (shQs_step hx)
          clear hc hq e hx hb hbb
          cases b
          · go_wp2_with fail
            go_roundw
            case rel => exact ⟨k + 1, false, by omega, by go_num, rfl, by rw [HSS.out, ← Bool.and_assoc, ← HBB.out]; rfl, by have := HB3.out; exact Base.bel⟩
            case measure => simp [intOf]; omega
          · obtain ⟨r, hr⟩ : ∃ r, r = shQ x := ⟨_, rfl⟩
            rw [← hr] at IH HSS
            clear hr
            cases r
            all_goals
              go_wp2_with (go_at_call 35; (with_reducible refine (IH.out _ (by have := HB3.out; exact Base.bel)).mono ?_); rintro e w2 ⟨rfl, hb2⟩; have HB4 := Lib.hid hb2; clear hb2)
              go_roundw
              case rel => exact ⟨k + 1, _, by omega, by go_num, rfl, by rw [HSS.out, ← Bool.and_assoc, ← HBB.out]; rfl, by have := HB3.out; have := HB4.out; exact Base.bel⟩
              case measure => simp [intOf]; omega
        · obtain rfl : k = ks.length := by omega
          rw [List.take_length] at HBB
          clear hb hbb
          go_wp2_with fail
          go_ret
          exact ⟨by rw [HBB.out]; rfl, HB3.out⟩

set_option maxHeartbeats 4000000 in
theorem rshort_any (q : Qry) : ∀ (cs : List Value) (B : Nat) (w : World), QVal w B cs q → B ≤ w.heap.size →
    Calls Tryz.prog 35 #[.agg cs.toArray] w fun e w' => e = .returned (.bool (shQ q)) ∧ Below w.heap.size w w' := by
  induction q using Qry.ind with
  | h q ih =>
    intro cs B w hq hB
    obtain ⟨hd, ks, A1, A2, A3, A4, c1, c2, c3, c4, kc, hw, hk, h1, h2, h3, h4, h5⟩ := hq
    simp only [Qry.kids] at ih
    obtain ⟨W1, hW1⟩ : ∃ W, W = w.alloc (.cells (qcells hd ks.length A1 A2 A3 A4 c1 c2 c3 c4) 29) := ⟨_, rfl⟩
    have K1 : Blk W1 w.heap.size 29 (qcells hd ks.length A1 A2 A3 A4 c1 c2 c3 c4) := by rw [hW1]; exact Blk.new w _ _
    have b1 : Below w.heap.size w W1 := by rw [hW1]; exact Base.bel
    have SR := fun b0 => short_rest hd ks A1 A2 A3 A4 c1 c2 c3 c4 kc B b0 w W1 hB (Lib.hid b1) (Lib.hid K1) hk hw.nterms (Lib.hid h1) (Lib.hid h4) (Lib.hid h5) (Lib.hid ih)
    have e0 : shQ (.mk hd ks) = (((!decide (hd.kind = 4) || decide (hd.text.size ≤ 64)) && hd.terms.all smT) && shQs ks) := by rw [shQ]; rfl
    rw [e0]
    unfold qcells at hW1 K1
    have y0 : W1.cell? ⟨w.heap.size, 0, none⟩ = some (.int .i64 hd.kind) := K1.cell 0
    have y2 : W1.cell? ⟨w.heap.size, 2, none⟩ = some (.string hd.text) := K1.cell 2
    have HW1 := Lib.hid hW1
    clear hW1 K1 b1 h1 h2 h3 h4 h5 ih hw e0
    by_cases e : hd.kind = 4
    · have n1 : (hd.kind != 4) = false := by rw [e]; rfl
      rw [show decide (hd.kind = 4) = true from decide_eq_true e]
      rcases Nat.lt_or_ge 64 hd.text.size with hs | hs
      · have d1 : decide ((hd.text.size : Int) ≤ 64) = false := decide_eq_false (by omega)
        rw [show decide (hd.text.size ≤ 64) = false from decide_eq_false (by omega)]
        have SF := SR false
        clear SR e
        go_enter Tryz.func35, Tryz.ntmps35
        refine cast_code (c := .seq ?r0 (.seq ?r1 (tailS 2))) ?e ?_
        case e => exact rfl
        go_upto_region 1 with fail
        rw [← HW1.out]
        go_wp2_with fail
        exact SF _ _ _ _ _ _ _ _ _ _ _ _ _ _ _ _ _ _ _ _ _ _ _ _ _ _ _ _ _ _ _ _ _ _ _ _ _ _ _ _ _ _ _
      · have d1 : decide ((hd.text.size : Int) ≤ 64) = true := decide_eq_true (by omega)
        rw [show decide (hd.text.size ≤ 64) = true from decide_eq_true (by omega)]
        have SF := SR true
        clear SR e
        go_enter Tryz.func35, Tryz.ntmps35
        refine cast_code (c := .seq ?r0 (.seq ?r1 (tailS 2))) ?e ?_
        case e => exact rfl
        go_upto_region 1 with fail
        rw [← HW1.out]
        go_wp2_with fail
        exact SF _ _ _ _ _ _ _ _ _ _ _ _ _ _ _ _ _ _ _ _ _ _ _ _ _ _ _ _ _ _ _ _ _ _ _ _ _ _ _ _ _ _ _
    · have n1 : (hd.kind != 4) = true := by rw [bne_iff_ne]; exact e
      rw [show decide (hd.kind = 4) = false from decide_eq_false e]
      have SF := SR true
      clear SR e
      go_enter Tryz.func35, Tryz.ntmps35
      refine cast_code (c := .seq ?r0 (.seq ?r1 (tailS 2))) ?e ?_
      case e => exact rfl
      go_upto_region 1 with fail
      rw [← HW1.out]
      go_wp2_with fail
      exact SF _ _ _ _ _ _ _ _ _ _ _ _ _ _ _ _ _ _ _ _ _ _ _ _ _ _ _ _ _ _ _ _ _ _ _ _ _ _ _ _ _ _ _
end Go.Proofs.YtfpikilhbkeajaaGreatDoor.RefShort
