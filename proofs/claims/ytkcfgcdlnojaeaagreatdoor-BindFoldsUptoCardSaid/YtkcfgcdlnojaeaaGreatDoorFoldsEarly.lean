/-
  The walk of concordlaw16.BindFolds where the law has nothing to ask, and what the other ways have in common.
-/
import Derived.Test.YtkcfgcdlnojaeaaGreatDoorFoldBind
import Derived.Test.YtkcfgcdlnojaeaaGreatDoorLivesBind
import Derived.Test.YtkcfgcdlnojaeaaGreatDoorQrySame
import Derived.Test.YtkcfgcdlnojaeaaGreatDoorFoldWalk
set_option linter.unusedVariables false
set_option linter.unusedSimpArgs false
namespace Go.Proofs.YtkcfgcdlnojaeaaGreatDoor.FoldsEarly
set_option maxRecDepth 100000
open Go.RowKit Go.PlainAid Base Query BindBase NodeTerm NodeTree NodePlain NodeOwn FoldPlain FoldWalk Binder WordPlain WordsWalk StopsWalk OfText OfAny WordsOne NumPlain OpenField FieldPlain GoodName SchemaCheck WordsAny WordsMany SchFind LeafBase FoldLeaf WildBind SpanBind LitWalk TreePlain BindTop FoldsPlain FoldBind LivesBind Rel Relb RelE

theorem ask1_of {w : World} (h : Asks w) : Ask1 w := fun j u hu => h 1 j u (by decide) (by rw [← hu, show ask1 = (askV (askOf 1)).toArray from rfl, List.getElem?_toArray])
def QErr (n : Nat) (q : Qry) (x : Value) (w : World) : Prop := ∃ (hd : Head) (ks : List Qry) (A1 A2 A3 A4 : Option Addr) (c1 c2 c3 c4 : Nat), x = .tuple #[.agg #[.int .i64 hd.kind, .int .i64 hd.field, .string hd.text, .slice A1 hd.terms.length c1, .slice A2 hd.offs.length c2, .int .i64 hd.n, .int .u64 hd.weight, .bool hd.lo.op, .bool hd.lo.inn, .string hd.lo.text, .bool hd.hi.op, .bool hd.hi.inn, .string hd.hi.text, .slice A3 hd.occur.length c3, .slice A4 ks.length c4], .nilIface] ∧ Fresh n w [.int .i64 hd.kind, .int .i64 hd.field, .string hd.text, .slice A1 hd.terms.length c1, .slice A2 hd.offs.length c2, .int .i64 hd.n, .int .u64 hd.weight, .bool hd.lo.op, .bool hd.lo.inn, .string hd.lo.text, .bool hd.hi.op, .bool hd.hi.inn, .string hd.hi.text, .slice A3 hd.occur.length c3, .slice A4 ks.length c4] q
theorem qerr_stays {n : Nat} {w w' : World} {q : Qry} {x : Value} (hle : Below w.heap.size w w' ∨ LeC w w') (h : QErr n q x w) : QErr n q x w' := by
  obtain ⟨hd, ks, A1, A2, A3, A4, c1, c2, c3, c4, e, hf⟩ := h
  exact ⟨hd, ks, A1, A2, A3, A4, c1, c2, c3, c4, e, fresh_stays hle hf⟩
theorem ga_loc2 {n3 : Nat} {q : Qry} : ∀ {i : Nat} {vs vs' : Nat → Value} {w : World}, (∀ q p, q < i → [11, 12][q]? = some p → vs p = vs' p) → GA n3 q i (vs 11) w → GA n3 q i (vs' 11) w
  | 0, _, _, _, _, _ => trivial
  | i + 1, vs, vs', w, h, hg => by rw [← h 0 11 (Nat.succ_pos _) rfl]; exact hg
theorem same_true {q : Qry} {cs cs2 : List Value} {w : World} (h1 : QVal w w.heap.size cs q) (h2 : QVal w w.heap.size cs2 q) : Calls Tryz.prog 33 #[.agg cs.toArray, .agg cs2.toArray] w fun e w' => e = .returned (.bool true) ∧ Below w.heap.size w w' :=
  (QrySame.same_any q q cs cs2 w.heap.size w h1 h2 (Nat.le_refl _)).mono fun e w' ⟨⟨r, he, hr⟩, hb⟩ => ⟨by rw [he, hr.2 rfl], hb⟩
theorem lit_val (w : World) (B : Nat) (k f n : Int) (t : ByteArray) (lo hi : Bnd) (hk : fitI k) (hf : fitI f) (hn : fitI n) (ht : t.size ≤ maxLen) : QVal w B [.int .i64 k, .int .i64 f, .string t, .slice none 0 0, .slice none 0 0, .int .i64 n, .int .u64 0, .bool lo.op, .bool lo.inn, .string lo.text, .bool hi.op, .bool hi.inn, .string hi.text, .slice none 0 0, .slice none 0 0] (.mk ⟨k, f, t, [], [], n, 0, lo, hi, []⟩ []) :=
  QVal.mk ⟨k, f, t, [], [], n, 0, lo, hi, []⟩ [] none none none none 0 0 0 0 (fun _ => []) ⟨hk, hf, hn, rfl, (fun _ h => by cases h), (fun _ h => by cases h), ht, (fun _ h => by cases h), Nat.zero_le _, Nat.zero_le _, Nat.zero_le _⟩ (Nat.zero_le _) (Slc.nil _) (Slc.nil _) (Slc.nil _) (fun h => absurd rfl h) (fun _ _ h => by cases h)
theorem want_size (f : Fld) {T : ByteArray} (h : T.size ≤ 2097152) : (foldedS f T).size ≤ maxLen ∧ (starS (foldedS f T)).size ≤ maxLen := by
  have h1 := folded_size f T
  have h2 := star_size (foldedS f T)
  have h3 := litF_len (foldedS f T) (foldedS f T).size
  unfold maxLen
  omega

set_option maxHeartbeats 8000000 in
theorem early (fs : List Fld) (fgo : Option Addr) (c : Nat) (field : Int) (T hi : ByteArray) (a1 a2 : Addr) (w : World) (m : Mem fs fgo w.heap.size a1 a2 w) (hlen : fs.length ≤ 1099511627776) (hnm : ∀ f ∈ fs, f.nm.size ≤ 9223372036854775807) (hq : schemaB fs = false ∨ field < 0 ∨ (fs.length : Int) ≤ field ∨ T.size = 0 ∨ 4096 < T.size) :
    Calls Tryz.prog 8 #[.agg #[.slice fgo fs.length c], .int .i64 field, .string T, .string hi] w fun e w' => e = .returned (.bool true) ∧ Below w.heap.size w w' := by
  obtain ⟨W2, hW2⟩ : ∃ W, W = w.alloc (.cells #[.slice fgo fs.length c] 36) := ⟨_, rfl⟩
  have K1 : Blk W2 w.heap.size 36 #[.slice fgo fs.length c] := by rw [hW2]; exact Blk.new w _ _
  have hsz : W2.heap.size = w.heap.size + 1 := by rw [hW2]; simp
  have hbW : Below w.heap.size w W2 := by rw [hW2]; (repeat (first | exact Below.refl _ _ | assumption | refine balloc ?_ _ | refine bdrew ?_ | refine bdrewN ?_ _ | refine bchain ?_ (by assumption)))
  have le : ∀ W : World, Below W2.heap.size W2 W → Below w.heap.size w W := fun W h => bchain hbW h
  have LV := Lib.hid (by have m2 := m.below hbW; exact lives_any (errV a1) a2 W2 m2.ht (ask1_of m2.ha) m2.he1 m2.he2 m2.h0)
  have SC := Lib.hid (fun W (hW : Below W2.heap.size W2 W) => by have m2 := m.below (le W hW); exact schemaCheck_any fs fgo c w.heap.size (errV a1) W m2.hB0 m2.h1 hnm (by omega) m2.he1 m2.h3)
  obtain ⟨sb, hsb⟩ : ∃ x, x = schemaB fs := ⟨_, rfl⟩
  rw [← hsb] at SC
  unfold errV at SC
  have HW := Lib.hid hW2
  have HZ := Lib.hid hsz
  have HSB := Lib.hid hsb
  have HQ := Lib.hid hq
  clear hW2 hsz hsb m hq
  go_enter Tryz.func8, Tryz.ntmps8
  go_upto_region 1 with fail
  rw [← HW.out]
  go_upto_region 2 with (go_at_call 11; refine LV.out.mono ?_; rintro e w3 ⟨rfl, hb3⟩; have s0 : w3.cell? ⟨w.heap.size, 0, none⟩ = some (.slice fgo fs.length c) := (K1.below hb3 (by have := HZ.out; omega)).cell 0)
  have CK := Lib.hid (SC.out w3 hb3)
  cases sb
  · simp only [errIf, Bool.false_eq_true, if_false] at CK
    clear s0
    have s0 : w3.cell? ⟨w.heap.size, 0, none⟩ = some (.slice fgo fs.length c) := (K1.below hb3 (by have := HZ.out; omega)).cell 0
    go_wp2_with (go_at_call 17; refine CK.out.mono ?_; rintro e w4 ⟨rfl, hb4⟩)
    go_ret
    exact ⟨rfl, bchain hbW (bchain hb3 hb4)⟩
  simp only [errIf, if_true] at CK
  rcases (by omega : field < 0 ∨ 0 ≤ field) with q1 | q1
  have d1 : decide (field < 0) = true := decide_eq_true q1
  rotate_left 1
  have d1 : decide (field < 0) = false := decide_eq_false (by omega)
  rcases (by omega : (fs.length : Int) ≤ field ∨ field < (fs.length : Int)) with q2 | q2
  have d2 : decide ((fs.length : Int) ≤ field) = true := decide_eq_true q2
  rotate_left 1
  have d2 : decide ((fs.length : Int) ≤ field) = false := decide_eq_false (by omega)
  rcases (by omega : T.size = 0 ∨ 0 < T.size) with q3 | q3
  have d3 : T.toList.isEmpty = true := by rw [WordsAny.tl_empty]; exact beq_iff_eq.2 q3
  rotate_left 1
  have d3 : T.toList.isEmpty = false := by rw [WordsAny.tl_empty]; exact beq_eq_false_iff_ne.2 (by omega)
  rcases (by omega : 4096 < T.size ∨ T.size ≤ 4096) with q4 | q4
  have d4 : decide ((4096 : Int) < (T.size : Int)) = true := decide_eq_true (by omega)
  have d4n : decide (4096 < T.size) = true := decide_eq_true q4
  rotate_left 1
  · rcases HQ.out with h | h | h | h | h
    · exact absurd (HSB.out.trans h) (by decide)
    all_goals omega
  iterate 4
    · (try clear q1); (try clear q2); (try clear q3); (try clear q4)
      go_wp2_with (go_at_call 17; refine CK.out.mono ?_; rintro e w4 ⟨rfl, hb4⟩; have s0 : w4.cell? ⟨w.heap.size, 0, none⟩ = some (.slice fgo fs.length c) := (K1.below (bchain hb3 hb4) (by have := HZ.out; omega)).cell 0)
      go_ret
      exact ⟨rfl, bchain hbW (bchain hb3 hb4)⟩
/-! The function's code from a region on. -/
def fromR (k : Nat) : Code → Option Code
  | .seq a c => match a with
    | .region r _ _ => if r = k then some (.seq a c) else fromR k c
    | a => match fromR k a with
      | some x => some x
      | none => fromR k c
  | .scope c => fromR k c
  | .block _ c => fromR k c
  | _ => none
noncomputable def tailC (k : Nat) : Code := ((Tryz.f8.body).bind (fromR k)).getD .skip
theorem cast_code {P : Program} {c c' : Code} {Q : Exit → Act → World → Prop} {a : Act} {w : World} (e : c = c') (h : Code.wp P c Q a w) : Code.wp P c' Q a w := e ▸ h
end Go.Proofs.YtkcfgcdlnojaeaaGreatDoor.FoldsEarly
