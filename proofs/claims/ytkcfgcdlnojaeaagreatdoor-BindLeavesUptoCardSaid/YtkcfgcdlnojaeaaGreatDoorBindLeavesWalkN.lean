/-
  The walk of concordlaw16.BindLeaves.
-/
import Derived.Test.YtkcfgcdlnojaeaaGreatDoorLeafLaw
import Derived.Test.YtkcfgcdlnojaeaaGreatDoorLivesBind
import Derived.Test.YtkcfgcdlnojaeaaGreatDoorQrySame
set_option linter.unusedVariables false
set_option linter.unusedSimpArgs false
namespace Go.Proofs.YtkcfgcdlnojaeaaGreatDoor.BindLeavesWalkN
set_option maxRecDepth 100000
open Go.RowKit Go.PlainAid Base Query BindBase NodeTerm NodeLeaf Binder WordPlain WordsWalk StopsWalk OfText OfAny WordsOne NumPlain OpenField FieldPlain GoodName SchemaCheck WordsAny WordsMany SchFind LeafBase LeafOf BindAny LeafLaw LivesBind Rel

def QA (q : Qry) (x : Value) (w : World) : Prop := ∃ cs : List Value, x = .agg cs.toArray ∧ Fresh w cs q
theorem qa_stable {q : Qry} : ∀ (v : Value) (w w' : World), Below w.heap.size w w' → QA q v w → QA q v w' := fun _ _ _ hb ⟨cs, e, h⟩ => ⟨cs, e, Fresh.below h hb⟩
theorem same_true {q : Qry} {cs cs2 : List Value} {w : World} (h1 : QVal w w.heap.size cs q) (h2 : QVal w w.heap.size cs2 q) : Calls Tryz.prog 33 #[.agg cs.toArray, .agg cs2.toArray] w fun e w' => e = .returned (.bool true) ∧ Below w.heap.size w w' :=
  (QrySame.same_any q q cs cs2 w.heap.size w h1 h2 (Nat.le_refl _)).mono fun e w' ⟨⟨r, he, hr⟩, hb⟩ => ⟨by rw [he, hr.2 rfl], hb⟩

set_option maxHeartbeats 8000000 in
theorem walk (fs : List Fld) (fgo : Option Addr) (c : Nat) (field slop : Int) (T nm : ByteArray) (a a2 : Addr) (w : World) (h1 : Slc w w.heap.size fgo (fldCells fs)) (hlen : fs.length ≤ 1099511627776) (hnm : ∀ f ∈ fs, f.nm.size ≤ 9223372036854775807) (hs : T.size ≤ 1048576) (hns : nm.size ≤ 9223372036854775807) (ht : Tab w) (ha1 : Ask1 w) (ha2 : Ask2 w) (ha7 : Ask7 w) (he : w.cell? ⟨0, 0, none⟩ = some (.iface 274 (.pointer (some a2)))) (hn : w.cell? ⟨1, 0, none⟩ = some (.iface 274 (.pointer (some a)))) (h0 : 3 < w.heap.size) (hz : nm.size ≠ 0) :
    Calls Tryz.prog 6 #[.agg #[.slice fgo fs.length c], .int .i64 field, .string T, .int .i64 slop, .string nm] w fun e w' => e = .returned (.bool true) ∧ Below w.heap.size w w' := by
  have HZE := Lib.hid hz
  clear hz
  obtain ⟨W2, hW2⟩ : ∃ W, W = w.alloc (.cells #[.slice fgo fs.length c] 36) := ⟨_, rfl⟩
  have K1 : Blk W2 w.heap.size 36 #[.slice fgo fs.length c] := by rw [hW2]; exact Blk.new w _ _
  have hsz : W2.heap.size = w.heap.size + 1 := by rw [hW2]; simp
  have hbW : Below w.heap.size w W2 := by rw [hW2]; (repeat (first | exact Below.refl _ _ | assumption | refine balloc ?_ _ | refine bdrew ?_ | refine bdrewN ?_ _ | refine bchain ?_ (by assumption)))
  have le : ∀ W : World, Below W2.heap.size W2 W → Below w.heap.size w W := fun W h => bchain hbW h
  have hes : ∀ W, Below w.heap.size w W → W.cell? ⟨0, 0, none⟩ = some (.iface 274 (.pointer (some a2))) := fun W hW => (hW.cell (p := ⟨0, 0, none⟩) (by show 0 < _; omega)).trans he
  have LV := Lib.hid (lives_any _ a W2 (tab_below ht hbW h0) (ha1.below hbW (by omega)) (hes W2 hbW) ((hbW.cell (p := ⟨1, 0, none⟩) (by show 1 < _; omega)).trans hn) (by omega))
  have SC := Lib.hid (fun W (hW : Below W2.heap.size W2 W) => schemaCheck_any fs fgo c w.heap.size _ W (le W hW).size (h1.below (le W hW) (Nat.le_refl _)) hnm (by omega) (hes W (le W hW)) (by have := (le W hW).size; omega))
  obtain ⟨sb, hsb⟩ : ∃ x, x = schemaB fs := ⟨_, rfl⟩
  rw [← hsb] at SC
  have HW := Lib.hid hW2
  have HZ := Lib.hid hsz
  have H1 := Lib.hid h1
  have HSB := Lib.hid hsb
  clear hW2 hsz hsb h1
  go_enter Tryz.func6, Tryz.ntmps6
  go_upto_region 1 with fail
  rw [← HW.out]
  go_upto_region 2 with (go_at_call 11; refine LV.out.mono ?_; rintro e w3 ⟨rfl, hb3⟩; have s0 : w3.cell? ⟨w.heap.size, 0, none⟩ = some (.slice fgo fs.length c) := (K1.below hb3 (by have := HZ.out; omega)).cell 0)
  have CK := Lib.hid (SC.out w3 hb3)
  cases sb
  · simp only [errIf, Bool.false_eq_true, if_false] at CK
    clear s0
    have s0 : w3.cell? ⟨w.heap.size, 0, none⟩ = some (.slice fgo fs.length c) := (K1.below hb3 (by have := HZ.out; omega)).cell 0
    go_wp2_with (go_at_call 17; refine CK.out.mono ?_; rintro e w4 ⟨rfl, hb4⟩)
    go_ret
    exact ⟨rfl, bchain hbW (bchain hb3 hb4)⟩
  simp only [errIf, if_true] at CK
  rcases (by omega : field < 0 ∨ 0 ≤ field) with q1 | q1
  have d1 : decide (field < 0) = true := decide_eq_true q1
  rotate_left 1
  have d1 : decide (field < 0) = false := decide_eq_false (by omega)
  rcases (by omega : (fs.length : Int) ≤ field ∨ field < (fs.length : Int)) with q2 | q2
  have d2 : decide ((fs.length : Int) ≤ field) = true := decide_eq_true q2
  rotate_left 1
  have d2 : decide ((fs.length : Int) ≤ field) = false := decide_eq_false (by omega)
  rcases (by omega : T.size = 0 ∨ 0 < T.size) with q3 | q3
  have d3 : T.toList.isEmpty = true := by rw [WordsAny.tl_empty]; exact beq_iff_eq.2 q3
  rotate_left 1
  have d3 : T.toList.isEmpty = false := by rw [WordsAny.tl_empty]; exact beq_eq_false_iff_ne.2 (by omega)
  rcases (by omega : slop < 0 ∨ 0 ≤ slop) with q4 | q4
  have d4 : decide (slop < 0) = true := decide_eq_true q4
  rotate_left 1
  have d4 : decide (slop < 0) = false := decide_eq_false (by omega)
  rcases (by omega : 999999999 < slop ∨ slop ≤ 999999999) with q5 | q5
  have d5 : decide ((999999999 : Int) < slop) = true := decide_eq_true q5
  rotate_left 1
  have d5 : decide ((999999999 : Int) < slop) = false := decide_eq_false (by omega)
  rotate_left 1
  iterate 5
    · (try clear q1); (try clear q2); (try clear q3); (try clear q4); (try clear q5)
      go_wp2_with (go_at_call 17; refine CK.out.mono ?_; rintro e w4 ⟨rfl, hb4⟩; have s0 : w4.cell? ⟨w.heap.size, 0, none⟩ = some (.slice fgo fs.length c) := (K1.below (bchain hb3 hb4) (by have := HZ.out; omega)).cell 0)
      go_ret
      exact ⟨rfl, bchain hbW (bchain hb3 hb4)⟩
  obtain ⟨j, rfl⟩ : ∃ j : Nat, field = j := ⟨field.toNat, by omega⟩
  have hj : j < fs.length := by omega
  obtain ⟨f, hf⟩ : ∃ f, fs[j]? = some f := ⟨_, List.getElem?_eq_getElem hj⟩
  obtain ⟨f0, hf0⟩ : ∃ f, fs[0]? = some f := ⟨_, List.getElem?_eq_getElem (by omega)⟩
  obtain ⟨fg, fo, rfl, hfg, hfc⟩ := H1.out (by intro e; have := congrArg List.length e; rw [fldCells_len] at this; simp at this; omega)
  have hgood : schemaB fs = true := HSB.out.symm
  have hT : T.toList ≠ [] := by intro e; rw [e] at d3; cases d3
  have h16 := fs_len hgood
  have hfit : fitI (j : Int) := fit_of (by omega) (by omega)
  have hfs : fitI slop := fit_of (by omega) (by omega)
  have fcell : ∀ (k : Nat) (g : Fld), fs[k]? = some g → ∀ W, Below w.heap.size w W → W.cell? ⟨fg, fo + k * 5, none⟩ = some (.string g.nm) ∧ W.cell? ⟨fg, fo + k * 5 + 1, none⟩ = some (.int .i64 g.kd) ∧ W.cell? ⟨fg, fo + k * 5 + 2, none⟩ = some (.bool g.fold) ∧ W.cell? ⟨fg, fo + k * 5 + 3, none⟩ = some (.bool g.stop) ∧ W.cell? ⟨fg, fo + k * 5 + 4, none⟩ = some (.bool g.stem) := fun k g hg W hW => by
    have q : ∀ (i : Nat) (u : Value), (fldC g)[i]? = some u → W.cell? ⟨fg, fo + k * 5 + i, none⟩ = some u := fun i u hu => by
      have hi : i < 5 := (List.getElem?_eq_some_iff.1 hu).1
      rw [Nat.add_assoc]
      exact (hW.cell (p := ⟨fg, fo + (k * 5 + i), none⟩) hfg).trans (hfc (k * 5 + i) u ((fldCells_at fs k i g hg hi).trans hu))
    exact ⟨q 0 _ rfl, q 1 _ rfl, q 2 _ rfl, q 3 _ rfl, q 4 _ rfl⟩
  have tabs : ∀ W, Below w.heap.size w W → Tab W := fun W hW => tab_below ht hW h0
  obtain ⟨qp, hqp⟩ : ∃ q, q = leafQ f j slop T := ⟨_, rfl⟩
  obtain ⟨qt, hqt⟩ : ∃ q, q = leafQ f j 0 T := ⟨_, rfl⟩
  obtain ⟨qz, hqz⟩ : ∃ q, q = leafQ f0 0 0 T := ⟨_, rfl⟩
  have PB := Lib.hid (fun W (hW : Below w.heap.size w W) => bind_phrase fs fg fo c _ w.heap.size W hW.size hgood (H1.out.below hW (Nat.le_refl _)) (hes W hW) (Nat.lt_of_lt_of_le h0 hW.size) hnm (tabs W hW) (ha2.below hW (by show 2 < _; omega)) j f hf T slop ⟨q4, q5⟩ hs)
  have TB := Lib.hid (fun W (hW : Below w.heap.size w W) => bind_named fs fg fo c _ w.heap.size W hW.size hgood (H1.out.below hW (Nat.le_refl _)) (hes W hW) (Nat.lt_of_lt_of_le h0 hW.size) hnm (tabs W hW) (ha1.below hW (by show 2 < _; omega)) j f hf T hT hs)
  have ZB := Lib.hid (fun W (hW : Below w.heap.size w W) => bind_plain fs fg fo c _ w.heap.size W hW.size hgood (H1.out.below hW (Nat.le_refl _)) (hes W hW) (Nat.lt_of_lt_of_le h0 hW.size) hnm (tabs W hW) (ha1.below hW (by show 2 < _; omega)) f0 hf0 T hT hs)
  have EB := Lib.hid (fun W (hW : Below w.heap.size w W) => bind_hasE fs fg fo c _ w.heap.size W hW.size hgood (H1.out.below hW (Nat.le_refl _)) (hes W hW) (Nat.lt_of_lt_of_le h0 hW.size) hnm (tabs W hW) (ha7.below hW (by show 2 < _; omega)) f0 hf0)
  have NB := Lib.hid (fun (h0n : nm.size ≠ 0) (hne : ∀ f ∈ fs, f.nm ≠ nm) W (hW : Below w.heap.size w W) => bind_hasN fs fg fo c _ w.heap.size W hW.size hgood (H1.out.below hW (Nat.le_refl _)) (hes W hW) (Nat.lt_of_lt_of_le h0 hW.size) hnm (tabs W hW) (ha7.below hW (by show 2 < _; omega)) nm h0n hne)
  have LP := Lib.hid (fun W (hW : Below w.heap.size w W) => leaf_any f j slop T W hfit hfs hs (tabs W hW) (Nat.lt_of_lt_of_le h0 hW.size))
  have LT := Lib.hid (fun W (hW : Below w.heap.size w W) => leaf_any f j 0 T W hfit rfl hs (tabs W hW) (Nat.lt_of_lt_of_le h0 hW.size))
  have LZ := Lib.hid (fun W (hW : Below w.heap.size w W) => leaf_any f0 0 0 T W rfl rfl hs (tabs W hW) (Nat.lt_of_lt_of_le h0 hW.size))
  obtain ⟨qe, hqe⟩ : ∃ q, q = hasQ 0 := ⟨_, rfl⟩
  obtain ⟨qn, hqn⟩ : ∃ q, q = noneQ := ⟨_, rfl⟩
  have HQE := Lib.hid hqe
  have HQN := Lib.hid hqn
  rw [← hqe] at EB
  rw [← hqn] at NB
  rw [← hqp] at PB LP
  rw [← hqt] at TB LT
  rw [← hqz] at ZB LZ
  unfold nodeK at PB TB ZB EB NB
  have HFC := Lib.hid fcell
  have i1 : (j : Int) < (fs.length : Int) := by omega
  clear hqp hqt hqz hqe hqn fcell tabs hfit hfs hT hfc q1 q2 q3 q4 q5 hes ht ha1 ha2 ha7 he hn hnm hlen hs hns
  go_upto_region 4 with (go_at_call 17; refine CK.out.mono ?_; rintro e w4 ⟨rfl, hb4⟩; have s0 : w4.cell? ⟨w.heap.size, 0, none⟩ = some (.slice (some ⟨fg, fo, none⟩) fs.length c) := (K1.below (bchain hb3 hb4) (by have := HZ.out; omega)).cell 0)
  have hB4 : Below W2.heap.size W2 w4 := bchain hb3 hb4
  obtain ⟨x0, x1, x2, x3, x4⟩ := HFC.out j f hf w4 (le w4 hB4)
  clear d1 d2 d3 d4 d5
  go_upto_region 5 with fail
  obtain ⟨W5, hW5⟩ : ∃ W, W = w4.alloc (.cells #[.string f.nm, .int .i64 f.kd, .bool f.fold, .bool f.stop, .bool f.stem] 67) := ⟨_, rfl⟩
  rw [← hW5]
  have KF : Blk W5 w4.heap.size 67 #[.string f.nm, .int .i64 f.kd, .bool f.fold, .bool f.stop, .bool f.stem] := by rw [hW5]; exact Blk.new w4 _ _
  have hB5 : Below W2.heap.size W2 W5 := by rw [hW5]; exact balloc hB4 _
  have lt5 : w.heap.size < W2.heap.size := by have := HZ.out; omega
  clear s0 x0 x1 x2 x3 x4 hW5
  have s0 : W5.cell? ⟨w.heap.size, 0, none⟩ = some (.slice (some ⟨fg, fo, none⟩) fs.length c) := (K1.below hB5 lt5).cell 0
  have n0 : W5.cell? ⟨w4.heap.size, 0, none⟩ = some (.string f.nm) := KF.cell 0
  go_upto_region 6 with (go_at_call 16; refine (PB.out _ (le _ hB5)).mono ?_; rintro e w6 ⟨cs, rfl, hFp, hb6⟩; obtain ⟨p, pk, P1, P2, P3, P4, pc1, pc2, pc3, pc4, pkc, pw, pl, p1, p2, p3, p4, p5⟩ := hFp.val; clear pw pl p1 p2 p3 p4 p5)
  obtain ⟨W6, hW6⟩ : ∃ W, W = w6.alloc (.cells #[.int .i64 p.kind, .int .i64 p.field, .string p.text, .slice P1 p.terms.length pc1, .slice P2 p.offs.length pc2, .int .i64 p.n, .int .u64 p.weight, .bool p.lo.op, .bool p.lo.inn, .string p.lo.text, .bool p.hi.op, .bool p.hi.inn, .string p.hi.text, .slice P3 p.occur.length pc3, .slice P4 pk.length pc4] 29) := ⟨_, rfl⟩
  rw [← hW6]
  have KP : Blk W6 w6.heap.size 29 #[.int .i64 p.kind, .int .i64 p.field, .string p.text, .slice P1 p.terms.length pc1, .slice P2 p.offs.length pc2, .int .i64 p.n, .int .u64 p.weight, .bool p.lo.op, .bool p.lo.inn, .string p.lo.text, .bool p.hi.op, .bool p.hi.inn, .string p.hi.text, .slice P3 p.occur.length pc3, .slice P4 pk.length pc4] := by rw [hW6]; exact Blk.new w6 _ _
  have FP : Fresh W6 [.int .i64 p.kind, .int .i64 p.field, .string p.text, .slice P1 p.terms.length pc1, .slice P2 p.offs.length pc2, .int .i64 p.n, .int .u64 p.weight, .bool p.lo.op, .bool p.lo.inn, .string p.lo.text, .bool p.hi.op, .bool p.hi.inn, .string p.hi.text, .slice P3 p.occur.length pc3, .slice P4 pk.length pc4] (.mk p pk) := by rw [hW6]; exact Fresh.below hFp (balloc (Below.refl _ _) _)
  have hB56 : Below W5.heap.size W5 W6 := by rw [hW6]; exact balloc hb6 _
  have hB6 : Below W2.heap.size W2 W6 := bchain hB5 hB56
  clear s0 n0 hW6 hFp hb6
  have s0 : W6.cell? ⟨w.heap.size, 0, none⟩ = some (.slice (some ⟨fg, fo, none⟩) fs.length c) := (K1.below hB6 lt5).cell 0
  have n0 : W6.cell? ⟨w4.heap.size, 0, none⟩ = some (.string f.nm) := (KF.below hB56 KF.lt).cell 0
  go_upto_region 7 with (go_at_call 16; refine (TB.out _ (le _ hB6)).mono ?_; rintro e w7 ⟨cs, rfl, hFt, hb7⟩; obtain ⟨t, tk, T1, T2, T3, T4, tc1, tc2, tc3, tc4, tkc, tw, tl, t1, t2, t3, t4, t5⟩ := hFt.val; clear tw tl t1 t2 t3 t4 t5)
  obtain ⟨WL, hWL⟩ : ∃ W, W = w7.alloc (.cells #[.int .i64 t.kind, .int .i64 t.field, .string t.text, .slice T1 t.terms.length tc1, .slice T2 t.offs.length tc2, .int .i64 t.n, .int .u64 t.weight, .bool t.lo.op, .bool t.lo.inn, .string t.lo.text, .bool t.hi.op, .bool t.hi.inn, .string t.hi.text, .slice T3 t.occur.length tc3, .slice T4 tk.length tc4] 29) := ⟨_, rfl⟩
  rw [← hWL]
  have KT : Blk WL w7.heap.size 29 #[.int .i64 t.kind, .int .i64 t.field, .string t.text, .slice T1 t.terms.length tc1, .slice T2 t.offs.length tc2, .int .i64 t.n, .int .u64 t.weight, .bool t.lo.op, .bool t.lo.inn, .string t.lo.text, .bool t.hi.op, .bool t.hi.inn, .string t.hi.text, .slice T3 t.occur.length tc3, .slice T4 tk.length tc4] := by rw [hWL]; exact Blk.new w7 _ _
  have FT : Fresh WL [.int .i64 t.kind, .int .i64 t.field, .string t.text, .slice T1 t.terms.length tc1, .slice T2 t.offs.length tc2, .int .i64 t.n, .int .u64 t.weight, .bool t.lo.op, .bool t.lo.inn, .string t.lo.text, .bool t.hi.op, .bool t.hi.inn, .string t.hi.text, .slice T3 t.occur.length tc3, .slice T4 tk.length tc4] (.mk t tk) := by rw [hWL]; exact Fresh.below hFt (balloc (Below.refl _ _) _)
  have hB6L : Below W6.heap.size W6 WL := by rw [hWL]; exact balloc hb7 _
  have hBL : Below W2.heap.size W2 WL := bchain hB6 hB6L
  have KPL := KP.below hB6L KP.lt
  have FPL := Fresh.below FP hB6L
  have KFL := KF.below (bchain hB56 hB6L) KF.lt
  have hlt7 : w.heap.size < w7.heap.size := by have := HZ.out; have := hB6.size; have := hb7.size; omega
  clear s0 n0 hWL hFt hb7 KP FP
  generalize Value.tuple #[Value.agg #[.int .i64 p.kind, .int .i64 p.field, .string p.text, .slice P1 p.terms.length pc1, .slice P2 p.offs.length pc2, .int .i64 p.n, .int .u64 p.weight, .bool p.lo.op, .bool p.lo.inn, .string p.lo.text, .bool p.hi.op, .bool p.hi.inn, .string p.hi.text, .slice P3 p.occur.length pc3, .slice P4 pk.length pc4], Value.nilIface] = gv1
  generalize Value.agg #[.int .i64 p.kind, .int .i64 p.field, .string p.text, .slice P1 p.terms.length pc1, .slice P2 p.offs.length pc2, .int .i64 p.n, .int .u64 p.weight, .bool p.lo.op, .bool p.lo.inn, .string p.lo.text, .bool p.hi.op, .bool p.hi.inn, .string p.hi.text, .slice P3 p.occur.length pc3, .slice P4 pk.length pc4] = gv2
  generalize Value.tuple #[Value.agg #[.int .i64 t.kind, .int .i64 t.field, .string t.text, .slice T1 t.terms.length tc1, .slice T2 t.offs.length tc2, .int .i64 t.n, .int .u64 t.weight, .bool t.lo.op, .bool t.lo.inn, .string t.lo.text, .bool t.hi.op, .bool t.hi.inn, .string t.hi.text, .slice T3 t.occur.length tc3, .slice T4 tk.length tc4], Value.nilIface] = gv3
  generalize Value.agg #[.int .i64 t.kind, .int .i64 t.field, .string t.text, .slice T1 t.terms.length tc1, .slice T2 t.offs.length tc2, .int .i64 t.n, .int .u64 t.weight, .bool t.lo.op, .bool t.lo.inn, .string t.lo.text, .bool t.hi.op, .bool t.hi.inn, .string t.hi.text, .slice T3 t.occur.length tc3, .slice T4 tk.length tc4] = gv4
  generalize Value.agg #[Value.int .i64 2, Value.string f.nm, Value.string T, Value.int .i64 slop, Value.bool false, Value.bool false, Value.string ⟨#[]⟩, Value.bool false, Value.bool false, Value.string ⟨#[]⟩, Value.slice none 0 0, Value.slice none 0 0] = gv5
  generalize Value.agg #[Value.int .i64 1, Value.string f.nm, Value.string T, Value.int .i64 0, Value.bool false, Value.bool false, Value.string ⟨#[]⟩, Value.bool false, Value.bool false, Value.string ⟨#[]⟩, Value.slice none 0 0, Value.slice none 0 0] = gv6
  generalize Value.agg #[.string f.nm, .int .i64 f.kd, .bool f.fold, .bool f.stop, .bool f.stem] = gv7
  refine Rel.wp_region_rel (fun wx => Below WL.heap.size WL wx) (fun wa wb => Below wa.heap.size wa wb) (by kernel_rfl) (by kernel_rfl) (bdrew (Below.refl _ _)) (fun _ => Below.refl _ _) ?_
  apply Rel.rel_one2 1 [] rfl (by kernel_rfl) (by kernel_rfl)
  case hs =>
    intro wx hx
    try simp only [Act.put, Base.s1, Base.s2, Base.s3]
    intro KK hK
    go_simp
    exact hK _ _ hx (Below.refl _ _) rfl
  apply Rel.rel_one2 2 [(0, 75)] rfl (by kernel_rfl) (by kernel_rfl)
  case hs =>
    intro wx hx
    rintro _ rfl
    try simp only [Act.put, Base.s1, Base.s2, Base.s3]
    intro KK hK
    go_simp
    exact hK _ _ hx (Below.refl _ _) rfl
  apply Rel.rel_one2 3 [(1, 76)] rfl (by kernel_rfl) (by kernel_rfl)
  case hs =>
    intro wx hx
    rintro _ rfl
    try simp only [Act.put, Base.s1, Base.s2, Base.s3]
    intro KK hK
    go_simp
    exact hK _ _ hx (Below.refl _ _) rfl
  apply Rel.rel_one2 4 [(2, 77)] rfl (by kernel_rfl) (by kernel_rfl)
  case hs =>
    intro wx hx
    rintro _ rfl
    try simp only [Act.put, Base.s1, Base.s2, Base.s3]
    intro KK hK
    go_simp
    exact hK _ _ hx (Below.refl _ _) rfl
  apply Rel.rel_one2 5 [(2, 77), (3, 78)] rfl (by kernel_rfl) (by kernel_rfl)
  case hs =>
    intro wx hx
    rintro _ rfl _ rfl
    try simp only [Act.put, Base.s1, Base.s2, Base.s3]
    intro KK hK
    go_simp
    exact hK _ _ hx (Below.refl _ _) rfl
  apply Rel.rel_one2 6 [(2, 77), (4, 79)] rfl (by kernel_rfl) (by kernel_rfl)
  case hs =>
    intro wx hx
    rintro _ rfl _ rfl
    try simp only [Act.put, Base.s1, Base.s2, Base.s3]
    intro KK hK
    go_simp
    exact hK _ _ hx (Below.refl _ _) rfl
  apply Rel.rel_one2 7 [(5, 80)] rfl (by kernel_rfl) (by kernel_rfl)
  case hs =>
    intro wx hx
    rintro _ rfl
    try simp only [Act.put, Base.s1, Base.s2, Base.s3]
    intro KK hK
    go_simp
    exact hK _ _ hx (Below.refl _ _) rfl
  apply Rel.rel_one2 8 [(6, 81)] rfl (by kernel_rfl) (by kernel_rfl)
  case hs =>
    intro wx hx
    rintro _ rfl
    have u0 := (show wx.cell? ⟨w6.heap.size, 0, none⟩ = some (.int .i64 p.kind) from (KPL.below hx KPL.lt).cell 0)
    have u1 := (show wx.cell? ⟨w6.heap.size, 1, none⟩ = some (.int .i64 p.field) from (KPL.below hx KPL.lt).cell 1)
    have u2 := (show wx.cell? ⟨w6.heap.size, 2, none⟩ = some (.string p.text) from (KPL.below hx KPL.lt).cell 2)
    have u3 := (show wx.cell? ⟨w6.heap.size, 3, none⟩ = some (.slice P1 p.terms.length pc1) from (KPL.below hx KPL.lt).cell 3)
    have u4 := (show wx.cell? ⟨w6.heap.size, 4, none⟩ = some (.slice P2 p.offs.length pc2) from (KPL.below hx KPL.lt).cell 4)
    have u5 := (show wx.cell? ⟨w6.heap.size, 5, none⟩ = some (.int .i64 p.n) from (KPL.below hx KPL.lt).cell 5)
    have u6 := (show wx.cell? ⟨w6.heap.size, 6, none⟩ = some (.int .u64 p.weight) from (KPL.below hx KPL.lt).cell 6)
    have u7 := (show wx.cell? ⟨w6.heap.size, 7, none⟩ = some (.bool p.lo.op) from (KPL.below hx KPL.lt).cell 7)
    have u8 := (show wx.cell? ⟨w6.heap.size, 8, none⟩ = some (.bool p.lo.inn) from (KPL.below hx KPL.lt).cell 8)
    have u9 := (show wx.cell? ⟨w6.heap.size, 9, none⟩ = some (.string p.lo.text) from (KPL.below hx KPL.lt).cell 9)
    have u10 := (show wx.cell? ⟨w6.heap.size, 10, none⟩ = some (.bool p.hi.op) from (KPL.below hx KPL.lt).cell 10)
    have u11 := (show wx.cell? ⟨w6.heap.size, 11, none⟩ = some (.bool p.hi.inn) from (KPL.below hx KPL.lt).cell 11)
    have u12 := (show wx.cell? ⟨w6.heap.size, 12, none⟩ = some (.string p.hi.text) from (KPL.below hx KPL.lt).cell 12)
    have u13 := (show wx.cell? ⟨w6.heap.size, 13, none⟩ = some (.slice P3 p.occur.length pc3) from (KPL.below hx KPL.lt).cell 13)
    have u14 := (show wx.cell? ⟨w6.heap.size, 14, none⟩ = some (.slice P4 pk.length pc4) from (KPL.below hx KPL.lt).cell 14)
    try simp only [Act.put, Base.s1, Base.s2, Base.s3]
    intro KK hK
    go_simp
    exact hK _ _ hx (Below.refl _ _) rfl
  apply Rel.rel_one2 9 [(6, 81)] rfl (by kernel_rfl) (by kernel_rfl)
  case hs =>
    intro wx hx
    rintro _ rfl
    have g0 := (show wx.cell? ⟨w4.heap.size, 0, none⟩ = some (.string f.nm) from (KFL.below hx KFL.lt).cell 0)
    have g1 := (show wx.cell? ⟨w4.heap.size, 1, none⟩ = some (.int .i64 f.kd) from (KFL.below hx KFL.lt).cell 1)
    have g2 := (show wx.cell? ⟨w4.heap.size, 2, none⟩ = some (.bool f.fold) from (KFL.below hx KFL.lt).cell 2)
    have g3 := (show wx.cell? ⟨w4.heap.size, 3, none⟩ = some (.bool f.stop) from (KFL.below hx KFL.lt).cell 3)
    have g4 := (show wx.cell? ⟨w4.heap.size, 4, none⟩ = some (.bool f.stem) from (KFL.below hx KFL.lt).cell 4)
    try simp only [Act.put, Base.s1, Base.s2, Base.s3]
    intro KK hK
    go_simp
    exact hK _ _ hx (Below.refl _ _) rfl
  apply Rel.rel_one2 10 [(6, 81)] rfl (by kernel_rfl) (by kernel_rfl)
  case hs =>
    intro wx hx
    rintro _ rfl
    try simp only [Act.put, Base.s1, Base.s2, Base.s3]
    intro KK hK
    go_simp
    exact hK _ _ hx (Below.refl _ _) rfl
  apply Rel.rel_one2 11 [(6, 81)] rfl (by kernel_rfl) (by kernel_rfl)
  case hs =>
    intro wx hx
    rintro _ rfl
    try simp only [Act.put, Base.s1, Base.s2, Base.s3]
    intro KK hK
    go_simp
    exact hK _ _ hx (Below.refl _ _) rfl
  apply Rel.rel_one2 12 [(6, 81)] rfl (by kernel_rfl) (by kernel_rfl)
  case hs =>
    intro wx hx
    rintro _ rfl
    try simp only [Act.put, Base.s1, Base.s2, Base.s3]
    intro KK hK
    go_simp
    exact hK _ _ hx (Below.refl _ _) rfl
  apply Rel.rel_kind2 13 [(6, 81), (8, 83), (9, 84), (10, 85), (11, 86)] (QA (.mk p pk)) rfl (by kernel_rfl) (by kernel_rfl) (qa_stable)
  case hs =>
    intro wx hx
    rintro _ rfl _ rfl _ rfl _ rfl _ rfl
    try simp only [Act.put, Base.s1, Base.s2, Base.s3]
    intro KK hK
    go_simp
    go_at_call 34
    refine (LP.out wx (le _ (bchain hBL hx))).mono ?_
    rintro e wy ⟨cs, rfl, hv, hby⟩
    exact hK _ _ (bchain hx hby) hby ⟨cs, rfl, hv⟩
  apply Rel.rel_one2 14 [(6, 81), (7, 82), (12, 87)] rfl (by kernel_rfl) (by kernel_rfl)
  case hs =>
    intro wx hx
    rintro _ rfl _ rfl _ ⟨cs87, rfl, F87⟩
    try simp only [Act.put, Base.s1, Base.s2, Base.s3]
    intro KK hK
    go_simp
    go_at_call 33
    refine (same_true (cs := [.int .i64 p.kind, .int .i64 p.field, .string p.text, .slice P1 p.terms.length pc1, .slice P2 p.offs.length pc2, .int .i64 p.n, .int .u64 p.weight, .bool p.lo.op, .bool p.lo.inn, .string p.lo.text, .bool p.hi.op, .bool p.hi.inn, .string p.hi.text, .slice P3 p.occur.length pc3, .slice P4 pk.length pc4]) (Fresh.below FPL hx).val F87.val).mono ?_
    rintro e wy ⟨rfl, hby⟩
    exact hK (.bool true) wy (bchain hx hby) hby rfl
  apply Rel.rel_one2 15 [(6, 81), (13, 88)] rfl (by kernel_rfl) (by kernel_rfl)
  case hs =>
    intro wx hx
    rintro _ rfl _ rfl
    try simp only [Act.put, Base.s1, Base.s2, Base.s3]
    intro KK hK
    go_simp
    exact hK _ _ hx (Below.refl _ _) rfl
  apply Rel.rel_one2 16 [(6, 81), (14, 89)] rfl (by kernel_rfl) (by kernel_rfl)
  case hs =>
    intro wx hx
    rintro _ rfl _ rfl
    try simp only [Act.put, Base.s1, Base.s2, Base.s3]
    intro KK hK
    go_simp
    exact hK _ _ hx (Below.refl _ _) rfl
  apply Rel.rel_one2 17 [(15, 90)] rfl (by kernel_rfl) (by kernel_rfl)
  case hs =>
    intro wx hx
    rintro _ rfl
    try simp only [Act.put, Base.s1, Base.s2, Base.s3]
    intro KK hK
    go_simp
    exact hK _ _ hx (Below.refl _ _) rfl
  apply Rel.rel_one2 18 [(16, 91)] rfl (by kernel_rfl) (by kernel_rfl)
  case hs =>
    intro wx hx
    rintro _ rfl
    have v0 := (show wx.cell? ⟨w7.heap.size, 0, none⟩ = some (.int .i64 t.kind) from (KT.below hx KT.lt).cell 0)
    have v1 := (show wx.cell? ⟨w7.heap.size, 1, none⟩ = some (.int .i64 t.field) from (KT.below hx KT.lt).cell 1)
    have v2 := (show wx.cell? ⟨w7.heap.size, 2, none⟩ = some (.string t.text) from (KT.below hx KT.lt).cell 2)
    have v3 := (show wx.cell? ⟨w7.heap.size, 3, none⟩ = some (.slice T1 t.terms.length tc1) from (KT.below hx KT.lt).cell 3)
    have v4 := (show wx.cell? ⟨w7.heap.size, 4, none⟩ = some (.slice T2 t.offs.length tc2) from (KT.below hx KT.lt).cell 4)
    have v5 := (show wx.cell? ⟨w7.heap.size, 5, none⟩ = some (.int .i64 t.n) from (KT.below hx KT.lt).cell 5)
    have v6 := (show wx.cell? ⟨w7.heap.size, 6, none⟩ = some (.int .u64 t.weight) from (KT.below hx KT.lt).cell 6)
    have v7 := (show wx.cell? ⟨w7.heap.size, 7, none⟩ = some (.bool t.lo.op) from (KT.below hx KT.lt).cell 7)
    have v8 := (show wx.cell? ⟨w7.heap.size, 8, none⟩ = some (.bool t.lo.inn) from (KT.below hx KT.lt).cell 8)
    have v9 := (show wx.cell? ⟨w7.heap.size, 9, none⟩ = some (.string t.lo.text) from (KT.below hx KT.lt).cell 9)
    have v10 := (show wx.cell? ⟨w7.heap.size, 10, none⟩ = some (.bool t.hi.op) from (KT.below hx KT.lt).cell 10)
    have v11 := (show wx.cell? ⟨w7.heap.size, 11, none⟩ = some (.bool t.hi.inn) from (KT.below hx KT.lt).cell 11)
    have v12 := (show wx.cell? ⟨w7.heap.size, 12, none⟩ = some (.string t.hi.text) from (KT.below hx KT.lt).cell 12)
    have v13 := (show wx.cell? ⟨w7.heap.size, 13, none⟩ = some (.slice T3 t.occur.length tc3) from (KT.below hx KT.lt).cell 13)
    have v14 := (show wx.cell? ⟨w7.heap.size, 14, none⟩ = some (.slice T4 tk.length tc4) from (KT.below hx KT.lt).cell 14)
    try simp only [Act.put, Base.s1, Base.s2, Base.s3]
    intro KK hK
    go_simp
    exact hK _ _ hx (Below.refl _ _) rfl
  apply Rel.rel_one2 19 [(16, 91)] rfl (by kernel_rfl) (by kernel_rfl)
  case hs =>
    intro wx hx
    rintro _ rfl
    have g0 := (show wx.cell? ⟨w4.heap.size, 0, none⟩ = some (.string f.nm) from (KFL.below hx KFL.lt).cell 0)
    have g1 := (show wx.cell? ⟨w4.heap.size, 1, none⟩ = some (.int .i64 f.kd) from (KFL.below hx KFL.lt).cell 1)
    have g2 := (show wx.cell? ⟨w4.heap.size, 2, none⟩ = some (.bool f.fold) from (KFL.below hx KFL.lt).cell 2)
    have g3 := (show wx.cell? ⟨w4.heap.size, 3, none⟩ = some (.bool f.stop) from (KFL.below hx KFL.lt).cell 3)
    have g4 := (show wx.cell? ⟨w4.heap.size, 4, none⟩ = some (.bool f.stem) from (KFL.below hx KFL.lt).cell 4)
    try simp only [Act.put, Base.s1, Base.s2, Base.s3]
    intro KK hK
    go_simp
    exact hK _ _ hx (Below.refl _ _) rfl
  apply Rel.rel_one2 20 [(16, 91)] rfl (by kernel_rfl) (by kernel_rfl)
  case hs =>
    intro wx hx
    rintro _ rfl
    try simp only [Act.put, Base.s1, Base.s2, Base.s3]
    intro KK hK
    go_simp
    exact hK _ _ hx (Below.refl _ _) rfl
  apply Rel.rel_one2 21 [(16, 91)] rfl (by kernel_rfl) (by kernel_rfl)
  case hs =>
    intro wx hx
    rintro _ rfl
    try simp only [Act.put, Base.s1, Base.s2, Base.s3]
    intro KK hK
    go_simp
    exact hK _ _ hx (Below.refl _ _) rfl
  apply Rel.rel_kind2 22 [(16, 91), (18, 93), (19, 94), (20, 95)] (QA (.mk t tk)) rfl (by kernel_rfl) (by kernel_rfl) (qa_stable)
  case hs =>
    intro wx hx
    rintro _ rfl _ rfl _ rfl _ rfl
    try simp only [Act.put, Base.s1, Base.s2, Base.s3]
    intro KK hK
    go_simp
    go_at_call 34
    refine (LT.out wx (le _ (bchain hBL hx))).mono ?_
    rintro e wy ⟨cs, rfl, hv, hby⟩
    exact hK _ _ (bchain hx hby) hby ⟨cs, rfl, hv⟩
  apply Rel.rel_one2 23 [(16, 91), (17, 92), (21, 96)] rfl (by kernel_rfl) (by kernel_rfl)
  case hs =>
    intro wx hx
    rintro _ rfl _ rfl _ ⟨cs96, rfl, F96⟩
    try simp only [Act.put, Base.s1, Base.s2, Base.s3]
    intro KK hK
    go_simp
    go_at_call 33
    refine (same_true (cs := [.int .i64 t.kind, .int .i64 t.field, .string t.text, .slice T1 t.terms.length tc1, .slice T2 t.offs.length tc2, .int .i64 t.n, .int .u64 t.weight, .bool t.lo.op, .bool t.lo.inn, .string t.lo.text, .bool t.hi.op, .bool t.hi.inn, .string t.hi.text, .slice T3 t.occur.length tc3, .slice T4 tk.length tc4]) (Fresh.below FT hx).val F96.val).mono ?_
    rintro e wy ⟨rfl, hby⟩
    exact hK (.bool true) wy (bchain hx hby) hby rfl
  apply Rel.rel_one2 24 [(16, 91), (22, 97)] rfl (by kernel_rfl) (by kernel_rfl)
  case hs =>
    intro wx hx
    rintro _ rfl _ rfl
    try simp only [Act.put, Base.s1, Base.s2, Base.s3]
    intro KK hK
    go_simp
    exact hK _ _ hx (Below.refl _ _) rfl
  apply Rel.rel_one2 25 [(16, 91), (23, 98)] rfl (by kernel_rfl) (by kernel_rfl)
  case hs =>
    intro wx hx
    rintro _ rfl _ rfl
    try simp only [Act.put, Base.s1, Base.s2, Base.s3]
    intro KK hK
    go_simp
    exact hK _ _ hx (Below.refl _ _) rfl
  refine Rel.rel_end [(0, 75), (1, 76), (2, 77), (3, 78), (4, 79), (5, 80), (6, 81), (7, 82), (8, 83), (9, 84), (10, 85), (11, 86), (12, 87), (13, 88), (14, 89), (15, 90), (16, 91), (17, 92), (18, 93), (19, 94), (20, 95), (21, 96), (22, 97), (23, 98), (24, 99)] (by kernel_rfl) (by kernel_rfl) ?_
  intro wx hx
  rintro _ rfl _ rfl _ rfl _ rfl _ rfl _ rfl _ rfl _ rfl _ rfl _ rfl _ rfl _ rfl _ ⟨cs87, rfl, F87⟩ _ rfl _ rfl _ rfl _ rfl _ rfl _ rfl _ rfl _ rfl _ ⟨cs96, rfl, F96⟩ _ rfl _ rfl _ rfl
  try simp only [Act.put, Base.s1, Base.s2, Base.s3]
  refine Rel.valsD_ret ?_
  obtain ⟨w8, rfl⟩ : ∃ w8 : World, w8 = wx := ⟨_, rfl⟩
  have hB8 : Below W2.heap.size W2 w8 := bchain hBL hx
  have KT8 := KT.below hx KT.lt
  have g78 : W2.heap.size ≤ w7.heap.size := by have := hB6.size; have := HZ.out; omega
  clear KPL KFL KF hB56 hB6L
  generalize Value.agg #[.int .i64 p.kind, .int .i64 p.field, .string p.text, .slice P1 p.terms.length pc1, .slice P2 p.offs.length pc2, .int .i64 p.n, .int .u64 p.weight, .bool p.lo.op, .bool p.lo.inn, .string p.lo.text, .bool p.hi.op, .bool p.hi.inn, .string p.hi.text, .slice P3 p.occur.length pc3, .slice P4 pk.length pc4] = gv8
  generalize Value.agg #[.int .i64 t.kind, .int .i64 t.field, .string t.text, .slice T1 t.terms.length tc1, .slice T2 t.offs.length tc2, .int .i64 t.n, .int .u64 t.weight, .bool t.lo.op, .bool t.lo.inn, .string t.lo.text, .bool t.hi.op, .bool t.hi.inn, .string t.hi.text, .slice T3 t.occur.length tc3, .slice T4 tk.length tc4] = gv9
  generalize Value.agg #[.string f.nm, .int .i64 f.kd, .bool f.fold, .bool f.stop, .bool f.stem] = gv10
  generalize Value.agg cs87.toArray = gv11
  generalize Value.agg cs96.toArray = gv12
  clear F87 F96
  have s0 : w8.cell? ⟨w.heap.size, 0, none⟩ = some (.slice (some ⟨fg, fo, none⟩) fs.length c) := (K1.below hB8 lt5).cell 0
  go_upto_region 10 with (go_at_call 16; refine (ZB.out _ (le _ hB8)).mono ?_; rintro e w9 ⟨cs, rfl, hFz, hb9⟩; obtain ⟨z, zk, Z1, Z2, Z3, Z4, zc1, zc2, zc3, zc4, zkc, zw, zl, z1, z2, z3, z4, z5⟩ := hFz.val; clear zw zl z1 z2 z3 z4 z5; have KT9 := KT8.below hb9 KT8.lt; obtain ⟨z0, z1, z2, z3, z4, z5, z6, z7, z8, z9, z10, z11, z12, z13, z14⟩ := qrow KT9; obtain ⟨y0, y1, y2, y3, y4, y5, y6, y7, y8, y9, y10, y11, y12, y13, y14⟩ := qfz KT9)
  obtain ⟨WM, hWM⟩ : ∃ W, W = (((((((((((((((w9.setCell ⟨w7.heap.size, 0, none⟩ (.int .i64 z.kind)).setCell ⟨w7.heap.size, 1, none⟩ (.int .i64 z.field)).setCell ⟨w7.heap.size, 2, none⟩ (.string z.text)).setCell ⟨w7.heap.size, 3, none⟩ (.slice Z1 z.terms.length zc1)).setCell ⟨w7.heap.size, 4, none⟩ (.slice Z2 z.offs.length zc2)).setCell ⟨w7.heap.size, 5, none⟩ (.int .i64 z.n)).setCell ⟨w7.heap.size, 6, none⟩ (.int .u64 z.weight)).setCell ⟨w7.heap.size, 7, none⟩ (.bool z.lo.op)).setCell ⟨w7.heap.size, 8, none⟩ (.bool z.lo.inn)).setCell ⟨w7.heap.size, 9, none⟩ (.string z.lo.text)).setCell ⟨w7.heap.size, 10, none⟩ (.bool z.hi.op)).setCell ⟨w7.heap.size, 11, none⟩ (.bool z.hi.inn)).setCell ⟨w7.heap.size, 12, none⟩ (.string z.hi.text)).setCell ⟨w7.heap.size, 13, none⟩ (.slice Z3 z.occur.length zc3)).setCell ⟨w7.heap.size, 14, none⟩ (.slice Z4 zk.length zc4)) := ⟨_, rfl⟩
  rw [← hWM]
  have KM : Blk WM w7.heap.size 29 #[.int .i64 z.kind, .int .i64 z.field, .string z.text, .slice Z1 z.terms.length zc1, .slice Z2 z.offs.length zc2, .int .i64 z.n, .int .u64 z.weight, .bool z.lo.op, .bool z.lo.inn, .string z.lo.text, .bool z.hi.op, .bool z.hi.inn, .string z.hi.text, .slice Z3 z.occur.length zc3, .slice Z4 zk.length zc4] := by rw [hWM]; exact blk15 KT9
  have FM : Fresh WM [.int .i64 z.kind, .int .i64 z.field, .string z.text, .slice Z1 z.terms.length zc1, .slice Z2 z.offs.length zc2, .int .i64 z.n, .int .u64 z.weight, .bool z.lo.op, .bool z.lo.inn, .string z.lo.text, .bool z.hi.op, .bool z.hi.inn, .string z.hi.text, .slice Z3 z.occur.length zc3, .slice Z4 zk.length zc4] (.mk z zk) := by rw [hWM]; exact fresh15 hFz KT9
  have hBM : Below W2.heap.size W2 WM := by rw [hWM]; exact below15 (bchain hB8 hb9) g78
  have lp : 0 < fs.length := by omega
  clear z0 y0 z1 y1 z2 y2 z3 y3 z4 y4 z5 y5 z6 y6 z7 y7 z8 y8 z9 y9 z10 y10 z11 y11 z12 y12 z13 y13 z14 y14 hWM hFz KT9 KT8 hb9 s0
  generalize Value.tuple #[Value.agg #[.int .i64 z.kind, .int .i64 z.field, .string z.text, .slice Z1 z.terms.length zc1, .slice Z2 z.offs.length zc2, .int .i64 z.n, .int .u64 z.weight, .bool z.lo.op, .bool z.lo.inn, .string z.lo.text, .bool z.hi.op, .bool z.hi.inn, .string z.hi.text, .slice Z3 z.occur.length zc3, .slice Z4 zk.length zc4], Value.nilIface] = gv13
  generalize Value.agg #[.int .i64 z.kind, .int .i64 z.field, .string z.text, .slice Z1 z.terms.length zc1, .slice Z2 z.offs.length zc2, .int .i64 z.n, .int .u64 z.weight, .bool z.lo.op, .bool z.lo.inn, .string z.lo.text, .bool z.hi.op, .bool z.hi.inn, .string z.hi.text, .slice Z3 z.occur.length zc3, .slice Z4 zk.length zc4] = gv14
  generalize Value.agg #[Value.int .i64 1, Value.string ⟨#[]⟩, Value.string T, Value.int .i64 0, Value.bool false, Value.bool false, Value.string ⟨#[]⟩, Value.bool false, Value.bool false, Value.string ⟨#[]⟩, Value.slice none 0 0, Value.slice none 0 0] = gv15
  refine Rel.wp_region_rel (fun wx => Below WM.heap.size WM wx) (fun wa wb => Below wa.heap.size wa wb) (by kernel_rfl) (by kernel_rfl) (bdrew (Below.refl _ _)) (fun _ => Below.refl _ _) ?_
  apply Rel.rel_one2 1 [] rfl (by kernel_rfl) (by kernel_rfl)
  case hs =>
    intro wx hx
    try simp only [Act.put, Base.s1, Base.s2, Base.s3]
    intro KK hK
    go_simp
    exact hK _ _ hx (Below.refl _ _) rfl
  apply Rel.rel_one2 2 [(0, 107)] rfl (by kernel_rfl) (by kernel_rfl)
  case hs =>
    intro wx hx
    rintro _ rfl
    try simp only [Act.put, Base.s1, Base.s2, Base.s3]
    intro KK hK
    go_simp
    exact hK _ _ hx (Below.refl _ _) rfl
  apply Rel.rel_one2 3 [(1, 108)] rfl (by kernel_rfl) (by kernel_rfl)
  case hs =>
    intro wx hx
    rintro _ rfl
    try simp only [Act.put, Base.s1, Base.s2, Base.s3]
    intro KK hK
    go_simp
    exact hK _ _ hx (Below.refl _ _) rfl
  apply Rel.rel_one2 4 [(2, 109)] rfl (by kernel_rfl) (by kernel_rfl)
  case hs =>
    intro wx hx
    rintro _ rfl
    have v0 := (show wx.cell? ⟨w7.heap.size, 0, none⟩ = some (.int .i64 z.kind) from (KM.below hx KM.lt).cell 0)
    have v1 := (show wx.cell? ⟨w7.heap.size, 1, none⟩ = some (.int .i64 z.field) from (KM.below hx KM.lt).cell 1)
    have v2 := (show wx.cell? ⟨w7.heap.size, 2, none⟩ = some (.string z.text) from (KM.below hx KM.lt).cell 2)
    have v3 := (show wx.cell? ⟨w7.heap.size, 3, none⟩ = some (.slice Z1 z.terms.length zc1) from (KM.below hx KM.lt).cell 3)
    have v4 := (show wx.cell? ⟨w7.heap.size, 4, none⟩ = some (.slice Z2 z.offs.length zc2) from (KM.below hx KM.lt).cell 4)
    have v5 := (show wx.cell? ⟨w7.heap.size, 5, none⟩ = some (.int .i64 z.n) from (KM.below hx KM.lt).cell 5)
    have v6 := (show wx.cell? ⟨w7.heap.size, 6, none⟩ = some (.int .u64 z.weight) from (KM.below hx KM.lt).cell 6)
    have v7 := (show wx.cell? ⟨w7.heap.size, 7, none⟩ = some (.bool z.lo.op) from (KM.below hx KM.lt).cell 7)
    have v8 := (show wx.cell? ⟨w7.heap.size, 8, none⟩ = some (.bool z.lo.inn) from (KM.below hx KM.lt).cell 8)
    have v9 := (show wx.cell? ⟨w7.heap.size, 9, none⟩ = some (.string z.lo.text) from (KM.below hx KM.lt).cell 9)
    have v10 := (show wx.cell? ⟨w7.heap.size, 10, none⟩ = some (.bool z.hi.op) from (KM.below hx KM.lt).cell 10)
    have v11 := (show wx.cell? ⟨w7.heap.size, 11, none⟩ = some (.bool z.hi.inn) from (KM.below hx KM.lt).cell 11)
    have v12 := (show wx.cell? ⟨w7.heap.size, 12, none⟩ = some (.string z.hi.text) from (KM.below hx KM.lt).cell 12)
    have v13 := (show wx.cell? ⟨w7.heap.size, 13, none⟩ = some (.slice Z3 z.occur.length zc3) from (KM.below hx KM.lt).cell 13)
    have v14 := (show wx.cell? ⟨w7.heap.size, 14, none⟩ = some (.slice Z4 zk.length zc4) from (KM.below hx KM.lt).cell 14)
    try simp only [Act.put, Base.s1, Base.s2, Base.s3]
    intro KK hK
    go_simp
    exact hK _ _ hx (Below.refl _ _) rfl
  apply Rel.rel_one2 5 [(2, 109)] rfl (by kernel_rfl) (by kernel_rfl)
  case hs =>
    intro wx hx
    rintro _ rfl
    try simp only [Act.put, Base.s1, Base.s2, Base.s3]
    intro KK hK
    go_simp
    exact hK _ _ hx (Below.refl _ _) rfl
  apply Rel.rel_one2 6 [(2, 109), (4, 111)] rfl (by kernel_rfl) (by kernel_rfl)
  case hs =>
    intro wx hx
    rintro _ rfl _ rfl
    have s0 := (show wx.cell? ⟨w.heap.size, 0, none⟩ = some (.slice (some ⟨fg, fo, none⟩) fs.length c) from (K1.below (bchain hBM hx) lt5).cell 0)
    try simp only [Act.put, Base.s1, Base.s2, Base.s3]
    intro KK hK
    go_simp
    exact hK _ _ hx (Below.refl _ _) rfl
  apply Rel.rel_one2 7 [(2, 109), (5, 112)] rfl (by kernel_rfl) (by kernel_rfl)
  case hs =>
    intro wx hx
    rintro _ rfl _ rfl
    try simp only [Act.put, Base.s1, Base.s2, Base.s3]
    intro KK hK
    go_simp
    exact hK _ _ hx (Below.refl _ _) rfl
  apply Rel.rel_one2 8 [(2, 109), (6, 113)] rfl (by kernel_rfl) (by kernel_rfl)
  case hs =>
    intro wx hx
    rintro _ rfl _ rfl
    have g0 := (show wx.cell? ⟨fg, fo, none⟩ = some (.string f0.nm) from (HFC.out 0 f0 hf0 wx (le _ (bchain hBM hx))).1)
    have g1 := (show wx.cell? ⟨fg, fo + 1, none⟩ = some (.int .i64 f0.kd) from (HFC.out 0 f0 hf0 wx (le _ (bchain hBM hx))).2.1)
    have g2 := (show wx.cell? ⟨fg, fo + 2, none⟩ = some (.bool f0.fold) from (HFC.out 0 f0 hf0 wx (le _ (bchain hBM hx))).2.2.1)
    have g3 := (show wx.cell? ⟨fg, fo + 3, none⟩ = some (.bool f0.stop) from (HFC.out 0 f0 hf0 wx (le _ (bchain hBM hx))).2.2.2.1)
    have g4 := (show wx.cell? ⟨fg, fo + 4, none⟩ = some (.bool f0.stem) from (HFC.out 0 f0 hf0 wx (le _ (bchain hBM hx))).2.2.2.2)
    try simp only [Act.put, Base.s1, Base.s2, Base.s3]
    intro KK hK
    go_simp
    exact hK _ _ hx (Below.refl _ _) rfl
  apply Rel.rel_one2 9 [(2, 109)] rfl (by kernel_rfl) (by kernel_rfl)
  case hs =>
    intro wx hx
    rintro _ rfl
    try simp only [Act.put, Base.s1, Base.s2, Base.s3]
    intro KK hK
    go_simp
    exact hK _ _ hx (Below.refl _ _) rfl
  apply Rel.rel_kind2 10 [(2, 109), (7, 114), (8, 115)] (QA (.mk z zk)) rfl (by kernel_rfl) (by kernel_rfl) (qa_stable)
  case hs =>
    intro wx hx
    rintro _ rfl _ rfl _ rfl
    try simp only [Act.put, Base.s1, Base.s2, Base.s3]
    intro KK hK
    go_simp
    go_at_call 34
    refine (LZ.out wx (le _ (bchain hBM hx))).mono ?_
    rintro e wy ⟨cs, rfl, hv, hby⟩
    exact hK _ _ (bchain hx hby) hby ⟨cs, rfl, hv⟩
  apply Rel.rel_one2 11 [(2, 109), (3, 110), (9, 116)] rfl (by kernel_rfl) (by kernel_rfl)
  case hs =>
    intro wx hx
    rintro _ rfl _ rfl _ ⟨cs116, rfl, F116⟩
    try simp only [Act.put, Base.s1, Base.s2, Base.s3]
    intro KK hK
    go_simp
    go_at_call 33
    refine (same_true (cs := [.int .i64 z.kind, .int .i64 z.field, .string z.text, .slice Z1 z.terms.length zc1, .slice Z2 z.offs.length zc2, .int .i64 z.n, .int .u64 z.weight, .bool z.lo.op, .bool z.lo.inn, .string z.lo.text, .bool z.hi.op, .bool z.hi.inn, .string z.hi.text, .slice Z3 z.occur.length zc3, .slice Z4 zk.length zc4]) (Fresh.below FM hx).val F116.val).mono ?_
    rintro e wy ⟨rfl, hby⟩
    exact hK (.bool true) wy (bchain hx hby) hby rfl
  apply Rel.rel_one2 12 [(2, 109), (10, 117)] rfl (by kernel_rfl) (by kernel_rfl)
  case hs =>
    intro wx hx
    rintro _ rfl _ rfl
    try simp only [Act.put, Base.s1, Base.s2, Base.s3]
    intro KK hK
    go_simp
    exact hK _ _ hx (Below.refl _ _) rfl
  apply Rel.rel_one2 13 [(2, 109), (11, 118)] rfl (by kernel_rfl) (by kernel_rfl)
  case hs =>
    intro wx hx
    rintro _ rfl _ rfl
    try simp only [Act.put, Base.s1, Base.s2, Base.s3]
    intro KK hK
    go_simp
    exact hK _ _ hx (Below.refl _ _) rfl
  refine Rel.rel_end [(0, 107), (1, 108), (2, 109), (3, 110), (4, 111), (5, 112), (6, 113), (7, 114), (8, 115), (9, 116), (10, 117), (11, 118), (12, 119)] (by kernel_rfl) (by kernel_rfl) ?_
  intro wx hx
  rintro _ rfl _ rfl _ rfl _ rfl _ rfl _ rfl _ rfl _ rfl _ rfl _ ⟨cs116, rfl, F116⟩ _ rfl _ rfl _ rfl
  try simp only [Act.put, Base.s1, Base.s2, Base.s3]
  refine Rel.valsD_ret ?_
  obtain ⟨wn, rfl⟩ : ∃ wn : World, wn = wx := ⟨_, rfl⟩
  have hBN : Below W2.heap.size W2 wn := bchain hBM hx
  have KN := KM.below hx KM.lt
  have s0 : wn.cell? ⟨w.heap.size, 0, none⟩ = some (.slice (some ⟨fg, fo, none⟩) fs.length c) := (K1.below hBN lt5).cell 0
  generalize Value.agg #[.int .i64 z.kind, .int .i64 z.field, .string z.text, .slice Z1 z.terms.length zc1, .slice Z2 z.offs.length zc2, .int .i64 z.n, .int .u64 z.weight, .bool z.lo.op, .bool z.lo.inn, .string z.lo.text, .bool z.hi.op, .bool z.hi.inn, .string z.hi.text, .slice Z3 z.occur.length zc3, .slice Z4 zk.length zc4] = gv16
  generalize Value.agg #[.string f0.nm, .int .i64 f0.kd, .bool f0.fold, .bool f0.stop, .bool f0.stem] = gv17
  generalize Value.agg cs116.toArray = gv18
  clear F116
  go_wp2_with fail
  go_loopw [123] (fun i wr => ∃ k : Nat, k ≤ fs.length ∧ i = .int .i64 k ∧ Hid (∀ m g, m < k → fs[m]? = some g → g.nm ≠ nm) ∧ Below wn.heap.size wn wr) (fun i _ => fs.length - (intOf i).toNat)
  case atStart => exact ⟨0, Nat.zero_le _, rfl, Lib.hid (fun m g hm => absurd hm (Nat.not_lt_zero _)), (by (repeat (first | exact Below.refl _ _ | assumption | refine balloc ?_ _ | refine bdrew ?_ | refine bdrewN ?_ _ | refine bchain ?_ (by assumption))))⟩
  case round =>
    obtain ⟨k, hk, rfl, hno, hbel⟩ := hrel
    have hBR : Below W2.heap.size W2 wr := bchain hBN hbel
    rcases Nat.lt_or_ge k fs.length with hlt | hge
    · obtain ⟨g, hg⟩ : ∃ g, fs[k]? = some g := ⟨_, List.getElem?_eq_getElem hlt⟩
      obtain ⟨x0, x1, x2, x3, x4⟩ := HFC.out k g hg wr (le wr hBR)
      have i2 : (k : Int) < (fs.length : Int) := by omega
      have i3 : (k : Int) < 9223372036854775807 := by omega
      have HG := Lib.hid hg
      clear hg
      rcases Classical.em (g.nm = nm) with hq | hq
      · have e1 : (g.nm.toList == nm.toList) = true := by rw [hq]; simp
        clear hq
        go_wp2_with fail
        go_ret
        exact ⟨rfl, bchain hbW (bchain hBR (by (repeat (first | exact Below.refl _ _ | assumption | refine balloc ?_ _ | refine bdrew ?_ | refine bdrewN ?_ _ | refine bchain ?_ (by assumption)))))⟩
      · have e1 : (g.nm.toList == nm.toList) = false := beq_eq_false_iff_ne.2 fun h => hq (fa_ba h)
        have HQ := Lib.hid hq
        clear hq
        go_wp2_with fail
        go_roundw
        case rel =>
          refine ⟨k + 1, by omega, by go_num, Lib.hid (fun m g' hm hg' => ?_), (by (repeat (first | exact Below.refl _ _ | assumption | refine balloc ?_ _ | refine bdrew ?_ | refine bdrewN ?_ _ | refine bchain ?_ (by assumption))))⟩
          rcases (by omega : m < k ∨ m = k) with h | rfl
          · exact hno.out m g' h hg'
          · rw [HG.out] at hg'
            cases hg'
            exact HQ.out
        case measure => simp [intOf]; omega
    · obtain rfl : k = fs.length := by omega
      have hne : ∀ f ∈ fs, f.nm ≠ nm := fun f hf => by
        obtain ⟨m, hm, e⟩ := List.getElem_of_mem hf
        exact hno.out m f hm (by rw [List.getElem?_eq_getElem hm, e])
      have KR := KN.below hbel KN.lt
      have r0 : wr.cell? ⟨w.heap.size, 0, none⟩ = some (.slice (some ⟨fg, fo, none⟩) fs.length c) := (K1.below hBR lt5).cell 0
      have i2 : ¬ ((fs.length : Int) < (fs.length : Int)) := by omega
      have hz := HZE.out
      have e_n : nm.toList.isEmpty = false := by rw [WordsAny.tl_empty]; exact beq_eq_false_iff_ne.2 hz
      have NB2 := Lib.hid (NB.out hz hne)
      clear hz hne hno
      go_wp2_with (first | (go_at_call 16; refine (NB2.out _ (le _ hBR)).mono ?_; rintro e wb ⟨cs, rfl, hFy, hbb⟩; obtain ⟨y, yk, Y1, Y2, Y3, Y4, yc1, yc2, yc3, yc4, ykc, yw, yl, y1, y2, y3, y4, y5⟩ := hFy.val; clear yw yl y1 y2 y3 y4 y5; have KB := KR.below hbb KR.lt; obtain ⟨z0, z1, z2, z3, z4, z5, z6, z7, z8, z9, z10, z11, z12, z13, z14⟩ := qrow KB; obtain ⟨y0, y1, y2, y3, y4, y5, y6, y7, y8, y9, y10, y11, y12, y13, y14⟩ := qfz KB) | ((go_at_call 33; refine (same_true (cs := [.int .i64 y.kind, .int .i64 y.field, .string y.text, .slice Y1 y.terms.length yc1, .slice Y2 y.offs.length yc2, .int .i64 y.n, .int .u64 y.weight, .bool y.lo.op, .bool y.lo.inn, .string y.lo.text, .bool y.hi.op, .bool y.hi.inn, .string y.hi.text, .slice Y3 y.occur.length yc3, .slice Y4 yk.length yc4]) (fresh15 hFy KB).val (cs2 := (bareQ 1 0 ⟨#[]⟩).toList) (by rw [HQN.out]; exact bare_val _ _ 1 0 ⟨#[]⟩ rfl rfl (Nat.zero_le _))).mono ?_; rintro e wc ⟨rfl, hbc⟩)))
      go_ret
      exact ⟨rfl, bchain hbW (bchain (below15 (bchain hBR hbb) g78) hbc)⟩
end Go.Proofs.YtkcfgcdlnojaeaaGreatDoor.BindLeavesWalkN
