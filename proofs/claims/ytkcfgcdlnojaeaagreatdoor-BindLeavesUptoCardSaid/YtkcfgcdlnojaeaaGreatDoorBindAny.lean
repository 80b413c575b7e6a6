/-
  The walk of bind.Bind over a good schema and a good leaf whose own bind is told.
-/
import Derived.Test.YtkcfgcdlnojaeaaGreatDoorLeafBase
import Derived.Test.YtkcfgcdlnojaeaaGreatDoorDBind
set_option linter.unusedVariables false
set_option linter.unusedSimpArgs false
namespace Go.Proofs.YtkcfgcdlnojaeaaGreatDoor.BindAny
set_option maxRecDepth 100000
open Go.RowKit Go.PlainAid Base Query BindBase NodeTerm NodeLeaf Binder WordPlain WordsWalk StopsWalk OfText OfAny WordsOne BindTerm OpenField FieldPlain SchemaCheck WordsAny LeafBase Rel Relb RelE
open BindAll (binder_stays)

/-- A query and whether it stays. -/
def QTup (q : Qry) (b : Bool) (x : Value) (w : World) : Prop := ∃ (hd : Head) (ks : List Qry) (A1 A2 A3 A4 : Option Addr) (c1 c2 c3 c4 : Nat), x = .tuple #[.agg #[.int .i64 hd.kind, .int .i64 hd.field, .string hd.text, .slice A1 hd.terms.length c1, .slice A2 hd.offs.length c2, .int .i64 hd.n, .int .u64 hd.weight, .bool hd.lo.op, .bool hd.lo.inn, .string hd.lo.text, .bool hd.hi.op, .bool hd.hi.inn, .string hd.hi.text, .slice A3 hd.occur.length c3, .slice A4 ks.length c4], .bool b] ∧ Fresh w [.int .i64 hd.kind, .int .i64 hd.field, .string hd.text, .slice A1 hd.terms.length c1, .slice A2 hd.offs.length c2, .int .i64 hd.n, .int .u64 hd.weight, .bool hd.lo.op, .bool hd.lo.inn, .string hd.lo.text, .bool hd.hi.op, .bool hd.hi.inn, .string hd.hi.text, .slice A3 hd.occur.length c3, .slice A4 ks.length c4] q
def QOne (q : Qry) (x : Value) (w : World) : Prop := ∃ (hd : Head) (ks : List Qry) (A1 A2 A3 A4 : Option Addr) (c1 c2 c3 c4 : Nat), x = .agg #[.int .i64 hd.kind, .int .i64 hd.field, .string hd.text, .slice A1 hd.terms.length c1, .slice A2 hd.offs.length c2, .int .i64 hd.n, .int .u64 hd.weight, .bool hd.lo.op, .bool hd.lo.inn, .string hd.lo.text, .bool hd.hi.op, .bool hd.hi.inn, .string hd.hi.text, .slice A3 hd.occur.length c3, .slice A4 ks.length c4] ∧ Fresh w [.int .i64 hd.kind, .int .i64 hd.field, .string hd.text, .slice A1 hd.terms.length c1, .slice A2 hd.offs.length c2, .int .i64 hd.n, .int .u64 hd.weight, .bool hd.lo.op, .bool hd.lo.inn, .string hd.lo.text, .bool hd.hi.op, .bool hd.hi.inn, .string hd.hi.text, .slice A3 hd.occur.length c3, .slice A4 ks.length c4] q
theorem fresh_stays {w w' : World} {cs : List Value} {q : Qry} (hle : Below w.heap.size w w' ∨ (w.heap.size ≤ w'.heap.size ∧ ∀ k t cs, t ≠ 29 → Blk w k t cs → Blk w' k t cs)) (h : Fresh w cs q) : Fresh w' cs q := by
  rcases hle with hb | ⟨hs, hk⟩
  · exact Fresh.below h hb
  · exact fun w'' hk2 => (h w'' fun k t xs hne hB => hk2 k t xs hne (hk k t xs hne hB)).mono hs
theorem qtup_stays {w w' : World} {q : Qry} {b : Bool} {x : Value} (hle : Below w.heap.size w w' ∨ (w.heap.size ≤ w'.heap.size ∧ ∀ k t cs, t ≠ 29 → Blk w k t cs → Blk w' k t cs)) (h : QTup q b x w) : QTup q b x w' := by
  obtain ⟨hd, ks, A1, A2, A3, A4, c1, c2, c3, c4, e, hf⟩ := h
  exact ⟨hd, ks, A1, A2, A3, A4, c1, c2, c3, c4, e, fresh_stays hle hf⟩
theorem qone_stays {w w' : World} {q : Qry} {x : Value} (hle : Below w.heap.size w w' ∨ (w.heap.size ≤ w'.heap.size ∧ ∀ k t cs, t ≠ 29 → Blk w k t cs → Blk w' k t cs)) (h : QOne q x w) : QOne q x w' := by
  obtain ⟨hd, ks, A1, A2, A3, A4, c1, c2, c3, c4, e, hf⟩ := h
  exact ⟨hd, ks, A1, A2, A3, A4, c1, c2, c3, c4, e, fresh_stays hle hf⟩
/-- What region 5 has made so far. -/
def GA (n3 : Nat) (q : Qry) : Nat → Value → World → Prop
  | 0, _, _ => True
  | 1, v, w => ∃ g, v = .pointer (some ⟨g, 0, none⟩) ∧ Blk w g 29 (bareQ 0 0 ⟨#[]⟩) ∧ n3 ≤ g
  | _ + 2, v, w => ∃ g, v = .pointer (some ⟨g, 0, none⟩) ∧ (∃ cs : List Value, Blk w g 29 cs.toArray ∧ Fresh w cs q) ∧ n3 ≤ g
theorem ga_below {n3 : Nat} {q : Qry} : ∀ {i : Nat} {v : Value} {w w' : World}, Below w.heap.size w w' → GA n3 q i v w → GA n3 q i v w'
  | 0, _, _, _, _, _ => trivial
  | 1, _, _, _, hb, ⟨g, e, h, hg⟩ => ⟨g, e, h.below hb h.lt, hg⟩
  | _ + 2, _, _, _, hb, ⟨g, e, ⟨cs, h, hf⟩, hg⟩ => ⟨g, e, ⟨cs, h.below hb h.lt, Fresh.below hf hb⟩, hg⟩
theorem ga_loc {n3 : Nat} {q : Qry} : ∀ {i : Nat} {vs vs' : Nat → Value} {w : World}, (∀ q p, q < i → [7, 8][q]? = some p → vs p = vs' p) → GA n3 q i (vs 7) w → GA n3 q i (vs' 7) w
  | 0, _, _, _, _, _ => trivial
  | i + 1, vs, vs', w, h, hg => by rw [← h 0 7 (Nat.succ_pos _) rfl]; exact hg
/-- A query handed back, and no error. -/
def IsE (q : Qry) (w : World) (e : Ending) (w' : World) : Prop := ∃ cs : List Value, e = .returned (.tuple #[.agg cs.toArray, .nilIface]) ∧ Fresh w' cs q ∧ Below w.heap.size w w'

set_option maxHeartbeats 4000000 in
theorem bind_any (k m : Int) (fn T : ByteArray) (q : Qry) (bq : Bool) (fs : List Fld) (fg fo c : Nat) (ev : Value) (B : Nat) (w : World) (hBw : B ≤ w.heap.size) (hgood : schemaB fs = true) (h1 : Slc w B (some ⟨fg, fo, none⟩) (fldCells fs))
    (he : w.cell? ⟨0, 0, none⟩ = some ev) (h0 : 0 < w.heap.size) (hnm : ∀ f ∈ fs, f.nm.size ≤ 9223372036854775807)
    (NC : ∀ W, Below w.heap.size w W → Calls Tryz.prog 18 #[.agg (nodeK k fn T m)] W fun e w' => e = .returned .nilIface ∧ Below W.heap.size W w')
    (BT : ∀ W, Below w.heap.size w W → ∀ g, Blk W g 147 (binderC (some ⟨fg, fo, none⟩) fs.length c) → Calls Tryz.prog 50 #[.pointer (some ⟨g, 0, none⟩), .agg (nodeK k fn T m)] W (IsQ q bq W)) :
    Calls Tryz.prog 16 #[.agg #[.slice (some ⟨fg, fo, none⟩) fs.length c], .agg (nodeK k fn T m)] w (IsE (if bq then q else noneQ) w) := by
  have hlen : fs.length ≤ 16 := by
    unfold schemaB at hgood
    rw [Bool.and_eq_true, Bool.and_eq_true] at hgood
    exact of_decide_eq_true hgood.1.2
  obtain ⟨W1, hW1⟩ : ∃ W, W = ((w.alloc (.cells #[.slice (some ⟨fg, fo, none⟩) fs.length c] 36)).alloc (.cells (nodeK k fn T m) 39)).alloc (.cells (bareQ 0 0 ⟨#[]⟩) 29) := ⟨_, rfl⟩
  have SC := Lib.hid (fun W (hW : Below w.heap.size w W) => (by
    have h2 := schemaCheck_any fs (some ⟨fg, fo, none⟩) c B ev W (Nat.le_trans hBw hW.size) (h1.below hW hBw) hnm (by omega) ((hW.cell (p := ⟨0, 0, none⟩) h0).trans he) (Nat.lt_of_lt_of_le h0 hW.size)
    rw [hgood] at h2
    exact h2 : Calls Tryz.prog 17 #[.agg #[.slice (some ⟨fg, fo, none⟩) fs.length c]] W fun e w' => e = .returned .nilIface ∧ Below W.heap.size W w'))
  obtain ⟨n, hn⟩ : ∃ n, n = fs.length := ⟨_, rfl⟩
  rw [← hn] at SC BT hW1 ⊢
  have KS : Blk W1 w.heap.size 36 #[.slice (some ⟨fg, fo, none⟩) n c] := by rw [hW1]; exact ((Blk.new w _ _).alloc _).alloc _
  have KN : Blk W1 (w.heap.size + 1) 39 (nodeK k fn T m) := by
    rw [hW1]
    have := (Blk.new (w.alloc (.cells #[.slice (some ⟨fg, fo, none⟩) n c] 36)) 39 (nodeK k fn T m)).alloc (.cells (bareQ 0 0 ⟨#[]⟩) 29)
    rwa [World.size_alloc] at this
  have KQ : Blk W1 (w.heap.size + 1 + 1) 29 (bareQ 0 0 ⟨#[]⟩) := by
    rw [hW1]
    have := Blk.new ((w.alloc (.cells #[.slice (some ⟨fg, fo, none⟩) n c] 36)).alloc (.cells (nodeK k fn T m) 39)) 29 (bareQ 0 0 ⟨#[]⟩)
    rwa [World.size_alloc, World.size_alloc] at this
  have hbW : Below w.heap.size w W1 := by rw [hW1]; (repeat (first | exact Below.refl _ _ | assumption | refine balloc ?_ _ | refine bdrew ?_ | refine bdrewN ?_ _ | refine bchain ?_ (by assumption)))
  have hsz : w.heap.size + 3 = W1.heap.size := by rw [hW1]; simp
  have ncell : ∀ {wx : World} (hx : Below W1.heap.size W1 wx) (j : Nat) (u : Value) (_ : (nodeK k fn T m)[j]? = some u), wx.cell? ⟨w.heap.size + 1, j, none⟩ = some u := fun hx j u hu => ((KN.below hx (by omega)).cell j).trans hu
  have scell : ∀ {wx : World} (hx : Below W1.heap.size W1 wx), wx.cell? ⟨w.heap.size, 0, none⟩ = some (.slice (some ⟨fg, fo, none⟩) n c) := fun hx => (KS.below hx (by omega)).cell 0
  have NC := Lib.hid NC
  have BT := Lib.hid BT
  have NB := Lib.hid (fun W => newBinder_any (some ⟨fg, fo, none⟩) n c W)
  obtain ⟨qr, hqr⟩ : ∃ x, x = (if bq then q else noneQ) := ⟨_, rfl⟩
  rw [← hqr]
  have HQ := Lib.hid hqr
  have HW := Lib.hid hW1
  have HZ := Lib.hid hsz
  unfold nodeK bareQ at hW1
  have HW2 := Lib.hid hW1
  unfold nodeK at NC BT ⊢
  clear hW1 hsz h1 he hnm hgood hn hlen hqr hBw
  go_enter Tryz.func16, Tryz.ntmps16
  go_upto_region 5 with (first | (go_at_call 17; refine (SC.out _ (by (repeat (first | exact Below.refl _ _ | assumption | refine balloc ?_ _ | refine bdrew ?_ | refine bdrewN ?_ _ | refine bchain ?_ (by assumption))))).mono ?_; rintro e w2 ⟨rfl, hb2⟩; have hb12 : Below W1.heap.size W1 w2 := (by rw [HW2.out]; exact hb2); have y0 : w2.cell? ⟨w.heap.size + 1, 0, none⟩ = some (.int .i64 k) := ncell hb12 0 _ rfl; have y1 : w2.cell? ⟨w.heap.size + 1, 1, none⟩ = some (.string fn) := ncell hb12 1 _ rfl; have y2 : w2.cell? ⟨w.heap.size + 1, 2, none⟩ = some (.string T) := ncell hb12 2 _ rfl; have y3 : w2.cell? ⟨w.heap.size + 1, 3, none⟩ = some (.int .i64 m) := ncell hb12 3 _ rfl; have y4 : w2.cell? ⟨w.heap.size + 1, 4, none⟩ = some (.bool false) := ncell hb12 4 _ rfl; have y5 : w2.cell? ⟨w.heap.size + 1, 5, none⟩ = some (.bool false) := ncell hb12 5 _ rfl; have y6 : w2.cell? ⟨w.heap.size + 1, 6, none⟩ = some (.string ⟨#[]⟩) := ncell hb12 6 _ rfl; have y7 : w2.cell? ⟨w.heap.size + 1, 7, none⟩ = some (.bool false) := ncell hb12 7 _ rfl; have y8 : w2.cell? ⟨w.heap.size + 1, 8, none⟩ = some (.bool false) := ncell hb12 8 _ rfl; have y9 : w2.cell? ⟨w.heap.size + 1, 9, none⟩ = some (.string ⟨#[]⟩) := ncell hb12 9 _ rfl; have y10 : w2.cell? ⟨w.heap.size + 1, 10, none⟩ = some (.slice none 0 0) := ncell hb12 10 _ rfl; have y11 : w2.cell? ⟨w.heap.size + 1, 11, none⟩ = some (.slice none 0 0) := ncell hb12 11 _ rfl) | (go_at_call 18; refine (NC.out _ (bchain hbW hb12)).mono ?_; rintro e w3 ⟨rfl, hb3⟩; have hb13 : Below W1.heap.size W1 w3 := bchain hb12 hb3; clear y0 y1 y2 y3 y4 y5 y6 y7 y8 y9 y10 y11))
  refine RelE.wp_region_rele 10 (fun wx => Below w3.heap.size w3 wx) (fun wa wb => Below wa.heap.size wa wb) (fun wa wb => wa.heap.size ≤ wb.heap.size ∧ ∀ k t cs, t ≠ 29 → Blk wa k t cs → Blk wb k t cs) [7, 8] (fun i vs wx => GA w3.heap.size q i (vs 7) wx) (by kernel_rfl) (by kernel_rfl) (by kernel_rfl) (by simp) (by kernel_rfl) (bdrew (Below.refl _ _)) trivial (fun i _ _ _ hle h => ga_below hle h) (fun i vs vs' _ h => ga_loc h) ?_
  simp only [List.take_succ_cons, List.take_zero]
  apply RelE.rele_one 1 [] rfl (by kernel_rfl) (by kernel_rfl) (by rfl)
  case hs =>
    intro vv wx hx hf
    clear hf
    have ns := scell (bchain hb13 hx)
    have n0 := ncell (bchain hb13 hx) 0 (.int .i64 k) rfl
    have n1 := ncell (bchain hb13 hx) 1 (.string fn) rfl
    have n2 := ncell (bchain hb13 hx) 2 (.string T) rfl
    have n3 := ncell (bchain hb13 hx) 3 (.int .i64 m) rfl
    have n4 := ncell (bchain hb13 hx) 4 (.bool false) rfl
    have n5 := ncell (bchain hb13 hx) 5 (.bool false) rfl
    have n6 := ncell (bchain hb13 hx) 6 (.string ⟨#[]⟩) rfl
    have n7 := ncell (bchain hb13 hx) 7 (.bool false) rfl
    have n8 := ncell (bchain hb13 hx) 8 (.bool false) rfl
    have n9 := ncell (bchain hb13 hx) 9 (.string ⟨#[]⟩) rfl
    have n10 := ncell (bchain hb13 hx) 10 (.slice none 0 0) rfl
    have n11 := ncell (bchain hb13 hx) 11 (.slice none 0 0) rfl
    try simp only [Relb.putD, Act.put, Base.s1, Base.s2, Base.s3]
    intro KK hK
    go_simp
    exact hK _ _ hx (Below.refl _ _) rfl
  apply RelE.rele_kind 2 [(0, 19)] (fun x wx => ∃ g, x = .pointer (some ⟨g, 0, none⟩) ∧ Blk wx g 147 (binderC (some ⟨fg, fo, none⟩) n c)) rfl (by kernel_rfl) (by kernel_rfl) (by rfl) (fun _ _ _ hle h => binder_stays hle h)
  case hs =>
    intro vv wx hx hf
    have e19 : vv 0 = _ := hf 0 (by simp)
    clear hf
    have ns := scell (bchain hb13 hx)
    have n0 := ncell (bchain hb13 hx) 0 (.int .i64 k) rfl
    have n1 := ncell (bchain hb13 hx) 1 (.string fn) rfl
    have n2 := ncell (bchain hb13 hx) 2 (.string T) rfl
    have n3 := ncell (bchain hb13 hx) 3 (.int .i64 m) rfl
    have n4 := ncell (bchain hb13 hx) 4 (.bool false) rfl
    have n5 := ncell (bchain hb13 hx) 5 (.bool false) rfl
    have n6 := ncell (bchain hb13 hx) 6 (.string ⟨#[]⟩) rfl
    have n7 := ncell (bchain hb13 hx) 7 (.bool false) rfl
    have n8 := ncell (bchain hb13 hx) 8 (.bool false) rfl
    have n9 := ncell (bchain hb13 hx) 9 (.string ⟨#[]⟩) rfl
    have n10 := ncell (bchain hb13 hx) 10 (.slice none 0 0) rfl
    have n11 := ncell (bchain hb13 hx) 11 (.slice none 0 0) rfl
    try simp only [Relb.putD, e19, Act.put, Base.s1, Base.s2, Base.s3]
    intro KK hK
    go_simp
    go_at_call 49
    refine (NB.out wx).mono ?_
    rintro e w5 ⟨g5, rfl, hB5, hb5⟩
    exact hK _ _ (bchain hx hb5) hb5 ⟨g5, rfl, hB5⟩
  apply RelE.rele_one 3 [] rfl (by kernel_rfl) (by kernel_rfl) (by rfl)
  case hs =>
    intro vv wx hx hf
    clear hf
    have ns := scell (bchain hb13 hx)
    have n0 := ncell (bchain hb13 hx) 0 (.int .i64 k) rfl
    have n1 := ncell (bchain hb13 hx) 1 (.string fn) rfl
    have n2 := ncell (bchain hb13 hx) 2 (.string T) rfl
    have n3 := ncell (bchain hb13 hx) 3 (.int .i64 m) rfl
    have n4 := ncell (bchain hb13 hx) 4 (.bool false) rfl
    have n5 := ncell (bchain hb13 hx) 5 (.bool false) rfl
    have n6 := ncell (bchain hb13 hx) 6 (.string ⟨#[]⟩) rfl
    have n7 := ncell (bchain hb13 hx) 7 (.bool false) rfl
    have n8 := ncell (bchain hb13 hx) 8 (.bool false) rfl
    have n9 := ncell (bchain hb13 hx) 9 (.string ⟨#[]⟩) rfl
    have n10 := ncell (bchain hb13 hx) 10 (.slice none 0 0) rfl
    have n11 := ncell (bchain hb13 hx) 11 (.slice none 0 0) rfl
    try simp only [Relb.putD, Act.put, Base.s1, Base.s2, Base.s3]
    intro KK hK
    go_simp
    exact hK _ _ hx (Below.refl _ _) rfl
  apply RelE.rele_kind 4 [(1, 20), (2, 21)] (fun x wx => QTup q bq x wx) rfl (by kernel_rfl) (by kernel_rfl) (by rfl) (fun _ _ _ hle h => qtup_stays hle h)
  case hs =>
    intro vv wx hx hf
    obtain ⟨g20, e20, B20⟩ := hf 1 (by simp)
    replace e20 : vv 1 = _ := e20
    have e21 : vv 2 = _ := hf 2 (by simp)
    clear hf
    have ns := scell (bchain hb13 hx)
    have n0 := ncell (bchain hb13 hx) 0 (.int .i64 k) rfl
    have n1 := ncell (bchain hb13 hx) 1 (.string fn) rfl
    have n2 := ncell (bchain hb13 hx) 2 (.string T) rfl
    have n3 := ncell (bchain hb13 hx) 3 (.int .i64 m) rfl
    have n4 := ncell (bchain hb13 hx) 4 (.bool false) rfl
    have n5 := ncell (bchain hb13 hx) 5 (.bool false) rfl
    have n6 := ncell (bchain hb13 hx) 6 (.string ⟨#[]⟩) rfl
    have n7 := ncell (bchain hb13 hx) 7 (.bool false) rfl
    have n8 := ncell (bchain hb13 hx) 8 (.bool false) rfl
    have n9 := ncell (bchain hb13 hx) 9 (.string ⟨#[]⟩) rfl
    have n10 := ncell (bchain hb13 hx) 10 (.slice none 0 0) rfl
    have n11 := ncell (bchain hb13 hx) 11 (.slice none 0 0) rfl
    try simp only [Relb.putD, e20, e21, Act.put, Base.s1, Base.s2, Base.s3]
    intro KK hK
    go_simp
    go_at_call 50
    refine (BT.out wx (bchain hbW (bchain hb13 hx)) g20 B20).mono ?_
    rintro e w7 ⟨cs, rfl, hv, hb7⟩
    obtain ⟨hd, ks, A1, A2, A3, A4, c1, c2, c3, c4, kc, hw, hkl, h1', h2', h3', h4', h5'⟩ := hv.val
    exact hK _ _ (bchain hx hb7) hb7 ⟨hd, ks, A1, A2, A3, A4, c1, c2, c3, c4, rfl, hv⟩
  apply RelE.rele_kind 5 [(3, 22)] (fun x wx => QTup q bq x wx) rfl (by kernel_rfl) (by kernel_rfl) (by rfl) (fun _ _ _ hle h => qtup_stays hle h)
  case hs =>
    intro vv wx hx hf
    obtain ⟨hd, ks, A1, A2, A3, A4, c1, c2, c3, c4, e22, FRS⟩ := hf 3 (by simp)
    replace e22 : vv 3 = _ := e22
    clear hf
    try simp only [Relb.putD, e22, Act.put, Base.s1, Base.s2, Base.s3]
    intro KK hK
    go_simp
    exact hK _ _ hx (Below.refl _ _) ⟨hd, ks, A1, A2, A3, A4, c1, c2, c3, c4, rfl, FRS⟩
  apply RelE.rele_kind 6 [(4, 18)] (fun x wx => QOne q x wx) rfl (by kernel_rfl) (by kernel_rfl) (by rfl) (fun _ _ _ hle h => qone_stays hle h)
  case hs =>
    intro vv wx hx hf
    obtain ⟨hd, ks, A1, A2, A3, A4, c1, c2, c3, c4, e18, FRS⟩ := hf 4 (by simp)
    replace e18 : vv 4 = _ := e18
    clear hf
    try simp only [Relb.putD, e18, Act.put, Base.s1, Base.s2, Base.s3]
    intro KK hK
    go_simp
    exact hK _ _ hx (Below.refl _ _) ⟨hd, ks, A1, A2, A3, A4, c1, c2, c3, c4, rfl, FRS⟩
  apply RelE.rele_one 7 [(4, 18)] rfl (by kernel_rfl) (by kernel_rfl) (by rfl)
  case hs =>
    intro vv wx hx hf
    obtain ⟨hd, ks, A1, A2, A3, A4, c1, c2, c3, c4, e18, FRS⟩ := hf 4 (by simp)
    replace e18 : vv 4 = _ := e18
    clear hf
    try simp only [Relb.putD, e18, Act.put, Base.s1, Base.s2, Base.s3]
    intro KK hK
    go_simp
    exact hK _ _ hx (Below.refl _ _) rfl
  apply RelE.rele_chain 0 8 [] rfl (by kernel_rfl) (by kernel_rfl) (by rfl)
  case hs =>
    intro vv wx hx hf hg
    clear hf
    try simp only [Relb.putD, Act.put, Base.s1, Base.s2, Base.s3]
    intro KK hK
    go_simp
    exact hK _ _ (balloc hx _) ⟨by simp, fun k t cs _ h => h.alloc _⟩ ⟨wx.heap.size, rfl, Blk.new _ _ _, hx.size⟩
  apply RelE.rele_chain 1 9 [(5, 23), (7, 6)] rfl (by kernel_rfl) (by kernel_rfl) (by rfl)
  case hs =>
    intro vv wx hx hf hg
    obtain ⟨hd, ks, A1, A2, A3, A4, c1, c2, c3, c4, e23, FRS⟩ := hf 5 (by simp)
    replace e23 : vv 5 = _ := e23
    obtain ⟨g6, e6, K6, h6⟩ := hg
    replace e6 : vv 7 = _ := e6
    unfold bareQ at K6
    obtain ⟨z0, z1, z2, z3, z4, z5, z6, z7, z8, z9, z10, z11, z12, z13, z14⟩ := qrow K6
    obtain ⟨y0, y1, y2, y3, y4, y5, y6, y7, y8, y9, y10, y11, y12, y13, y14⟩ := qfz K6
    clear hf
    try simp only [Relb.putD, e23, e6, Act.put, Base.s1, Base.s2, Base.s3]
    intro KK hK
    go_simp
    exact hK undef _ (below15 hx h6) ⟨by simp, fun k t cs hne h => far15 h (kinds_ne h K6 hne)⟩ ⟨g6, rfl, ⟨[.int .i64 hd.kind, .int .i64 hd.field, .string hd.text, .slice A1 hd.terms.length c1, .slice A2 hd.offs.length c2, .int .i64 hd.n, .int .u64 hd.weight, .bool hd.lo.op, .bool hd.lo.inn, .string hd.lo.text, .bool hd.hi.op, .bool hd.hi.inn, .string hd.hi.text, .slice A3 hd.occur.length c3, .slice A4 ks.length c4], blk15 K6, fresh15 FRS K6⟩, h6⟩
  apply RelE.rele_one 10 [(6, 24)] rfl (by kernel_rfl) (by kernel_rfl) (by rfl)
  case hs =>
    intro vv wx hx hf
    have e24 : vv 6 = _ := hf 6 (by simp)
    clear hf
    try simp only [Relb.putD, e24, Act.put, Base.s1, Base.s2, Base.s3]
    intro KK hK
    go_simp
    exact hK _ _ hx (Below.refl _ _) rfl
  refine RelE.rele_end (N := 0) [(0, some 19), (1, some 20), (2, some 21), (3, some 22), (4, some 18), (5, some 23), (6, some 24), (7, some 6), (8, none), (9, some 7)] (by kernel_rfl) (by kernel_rfl) ?_
  intro vv wx hx hf hg
  have e19 : vv 0 = _ := hf 0 (by decide)
  obtain ⟨g20, e20, B20⟩ := hf 1 (by decide)
  replace e20 : vv 1 = _ := e20
  have e21 : vv 2 = _ := hf 2 (by decide)
  obtain ⟨hd, ks, A1, A2, A3, A4, c1, c2, c3, c4, e22, FRS⟩ := hf 3 (by decide)
  replace e22 : vv 3 = _ := e22
  obtain ⟨hd, ks, A1, A2, A3, A4, c1, c2, c3, c4, e18, FRS⟩ := hf 4 (by decide)
  replace e18 : vv 4 = _ := e18
  obtain ⟨hd, ks, A1, A2, A3, A4, c1, c2, c3, c4, e23, FRS⟩ := hf 5 (by decide)
  replace e23 : vv 5 = _ := e23
  have e24 : vv 6 = _ := hf 6 (by decide)
  have e7 : vv 9 = _ := hf 9 (by decide)
  clear hf
  simp only [RelE.putO, e19, e20, e21, e22, e18, e23, e24, e7, Act.put, Base.s1, Base.s2, Base.s3]
  have hg' : GA w3.heap.size q 2 (vv 7) wx := hg
  obtain ⟨g6, e6, ⟨cs6, K6, F6⟩, h6⟩ := hg'
  have KZ := KQ.below (bchain hb13 hx) (by have := HZ.out; omega)
  obtain ⟨hd, ks, A1, A2, A3, A4, c1, c2, c3, c4, kc, hw, hkl, h1', h2', h3', h4', h5'⟩ := F6.val
  clear h1' h2' h3' h4' h5' hw hkl
  obtain ⟨q0, q1, q2, q3, q4, q5, q6, q7, q8, q9, q10, q11, q12, q13, q14⟩ := qrow K6
  unfold bareQ at KZ
  obtain ⟨z0, z1, z2, z3, z4, z5, z6, z7, z8, z9, z10, z11, z12, z13, z14⟩ := qrow KZ
  obtain ⟨y0, y1, y2, y3, y4, y5, y6, y7, y8, y9, y10, y11, y12, y13, y14⟩ := qfz KZ
  simp only [e6]
  have hfin : Below w.heap.size w wx := bchain hbW (bchain hb13 hx)
  clear hg e19 e20 e21 e22 e18 e23 e24 e6 e7 B20
  refine ⟨by kernel_rfl, ?_⟩
  cases bq
  · have HQ2 := Lib.hid (HQ.out.trans (if_neg (by decide)))
    go_wp2_with (go_at_call 51; refine (none_lit _).mono ?_; rintro e w8 ⟨rfl, hb8⟩; have KZ8 := KZ.below hb8 KZ.lt; obtain ⟨z0, z1, z2, z3, z4, z5, z6, z7, z8, z9, z10, z11, z12, z13, z14⟩ := qrow KZ8; obtain ⟨y0, y1, y2, y3, y4, y5, y6, y7, y8, y9, y10, y11, y12, y13, y14⟩ := qfz KZ8)
    refine bodyPost_ret (results_blk (p := 4) (u := 5) (ty := 29) (t := 29) (g := w.heap.size + 1 + 1) (cs := bareQ 1 0 ⟨#[]⟩) ?_ ?_ (blk15 (KZ.below hb8 KZ.lt)) Tryz.underlying29 ?_ ?_) ?_ ?_
    · rfl
    · rfl
    · rfl
    · rw [qInfo]; rfl
    · rfl
    · rw [HQ2.out]
      exact ⟨(bareQ 1 0 ⟨#[]⟩).toList, rfl, fun w'' _ => bare_val w'' _ 1 0 ⟨#[]⟩ rfl rfl (Nat.zero_le _), below15 (bchain hfin hb8) (Nat.le_succ_of_le (Nat.le_succ _))⟩
  · have HQ2 := Lib.hid (HQ.out.trans (if_pos rfl))
    go_wp2_with fail
    refine bodyPost_ret (results_blk (p := 4) (u := 5) (ty := 29) (t := 29) (g := w.heap.size + 1 + 1) (cs := #[.int .i64 hd.kind, .int .i64 hd.field, .string hd.text, .slice A1 hd.terms.length c1, .slice A2 hd.offs.length c2, .int .i64 hd.n, .int .u64 hd.weight, .bool hd.lo.op, .bool hd.lo.inn, .string hd.lo.text, .bool hd.hi.op, .bool hd.hi.inn, .string hd.hi.text, .slice A3 hd.occur.length c3, .slice A4 ks.length c4]) ?_ ?_ (blk15 KZ) Tryz.underlying29 ?_ ?_) ?_ ?_
    · rfl
    · rfl
    · rfl
    · rw [qInfo]; rfl
    · rfl
    · rw [HQ2.out]
      exact ⟨[.int .i64 hd.kind, .int .i64 hd.field, .string hd.text, .slice A1 hd.terms.length c1, .slice A2 hd.offs.length c2, .int .i64 hd.n, .int .u64 hd.weight, .bool hd.lo.op, .bool hd.lo.inn, .string hd.lo.text, .bool hd.hi.op, .bool hd.hi.inn, .string hd.hi.text, .slice A3 hd.occur.length c3, .slice A4 ks.length c4], rfl, fresh15 F6 KZ, below15 hfin (Nat.le_succ_of_le (Nat.le_succ _))⟩
end Go.Proofs.YtkcfgcdlnojaeaaGreatDoor.BindAny
