/-
  The walk of bind.Bind over any schema and any node.
-/
import Derived.Test.YtkcfgcdlnojaeaaGreatDoorBindTree
import Derived.Test.YtkcfgcdlnojaeaaGreatDoorDBind
import Derived.Test.YtkcfgcdlnojaeaaGreatDoorNodeCheck
set_option linter.unusedVariables false
set_option linter.unusedSimpArgs false
namespace Go.Proofs.YtkcfgcdlnojaeaaGreatDoor.BindTop
set_option maxRecDepth 100000
open Go.RowKit Go.PlainAid Base Query BindBase NodeTerm NodeTree NodePlain NodeOwn NodeCheck TermCheck Binder WordPlain WordsWalk StopsWalk OfText OfAny WordsOne BindTerm OpenField FieldPlain SchemaCheck WordsAny WordsMany LeafBase TreePlain BindTree Rel Relb RelE

def LeC (wa wb : World) : Prop := wa.heap.size ≤ wb.heap.size ∧ ∀ k, k < wa.heap.size → ¬ Blk wa k 29 (bareQ 0 0 ⟨#[]⟩) → wb.heap[k]? = wa.heap[k]?
theorem LeC.alloc (w : World) (o : Obj) : LeC w (w.alloc o) := ⟨by simp, fun k hk _ => Below.heap_alloc w o k hk⟩
theorem LeC.set15 {w : World} {g : Nat} {v0 v1 v2 v3 v4 v5 v6 v7 v8 v9 v10 v11 v12 v13 v14 : Value} (K : Blk w g 29 (bareQ 0 0 ⟨#[]⟩)) : LeC w (((((((((((((((w.setCell ⟨g, 0, none⟩ v0).setCell ⟨g, 1, none⟩ v1).setCell ⟨g, 2, none⟩ v2).setCell ⟨g, 3, none⟩ v3).setCell ⟨g, 4, none⟩ v4).setCell ⟨g, 5, none⟩ v5).setCell ⟨g, 6, none⟩ v6).setCell ⟨g, 7, none⟩ v7).setCell ⟨g, 8, none⟩ v8).setCell ⟨g, 9, none⟩ v9).setCell ⟨g, 10, none⟩ v10).setCell ⟨g, 11, none⟩ v11).setCell ⟨g, 12, none⟩ v12).setCell ⟨g, 13, none⟩ v13).setCell ⟨g, 14, none⟩ v14) :=
  ⟨by simp, fun k _ hn => heap15 fun e => hn (e ▸ K)⟩
theorem fresh15z {n : Nat} {w : World} {g : Nat} {cs : List Value} {q : Qry} {v0 v1 v2 v3 v4 v5 v6 v7 v8 v9 v10 v11 v12 v13 v14 : Value} (h : Fresh n w cs q) (K : Blk w g 29 (bareQ 0 0 ⟨#[]⟩)) : Fresh n (((((((((((((((w.setCell ⟨g, 0, none⟩ v0).setCell ⟨g, 1, none⟩ v1).setCell ⟨g, 2, none⟩ v2).setCell ⟨g, 3, none⟩ v3).setCell ⟨g, 4, none⟩ v4).setCell ⟨g, 5, none⟩ v5).setCell ⟨g, 6, none⟩ v6).setCell ⟨g, 7, none⟩ v7).setCell ⟨g, 8, none⟩ v8).setCell ⟨g, 9, none⟩ v9).setCell ⟨g, 10, none⟩ v10).setCell ⟨g, 11, none⟩ v11).setCell ⟨g, 12, none⟩ v12).setCell ⟨g, 13, none⟩ v13).setCell ⟨g, 14, none⟩ v14) cs q := by
  obtain ⟨S, h1, h⟩ := h
  have hk : ∀ k, S k → (((((((((((((((w.setCell ⟨g, 0, none⟩ v0).setCell ⟨g, 1, none⟩ v1).setCell ⟨g, 2, none⟩ v2).setCell ⟨g, 3, none⟩ v3).setCell ⟨g, 4, none⟩ v4).setCell ⟨g, 5, none⟩ v5).setCell ⟨g, 6, none⟩ v6).setCell ⟨g, 7, none⟩ v7).setCell ⟨g, 8, none⟩ v8).setCell ⟨g, 9, none⟩ v9).setCell ⟨g, 10, none⟩ v10).setCell ⟨g, 11, none⟩ v11).setCell ⟨g, 12, none⟩ v12).setCell ⟨g, 13, none⟩ v13).setCell ⟨g, 14, none⟩ v14).heap[k]? = w.heap[k]? := fun k hk => heap15 fun e => (h1 k hk).2.2 (e ▸ K)
  refine ⟨S, fun k hk' => ⟨(h1 k hk').1, by simpa using (h1 k hk').2.1, fun hb => (h1 k hk').2.2 ((hk k hk').symm.trans hb)⟩, fun w'' hw => ?_⟩
  have := h w'' fun k hk' => (hw k hk').trans (hk k hk')
  simpa using this
def QTup (n : Nat) (q : Qry) (b : Bool) (x : Value) (w : World) : Prop := ∃ (hd : Head) (ks : List Qry) (A1 A2 A3 A4 : Option Addr) (c1 c2 c3 c4 : Nat), x = .tuple #[.agg #[.int .i64 hd.kind, .int .i64 hd.field, .string hd.text, .slice A1 hd.terms.length c1, .slice A2 hd.offs.length c2, .int .i64 hd.n, .int .u64 hd.weight, .bool hd.lo.op, .bool hd.lo.inn, .string hd.lo.text, .bool hd.hi.op, .bool hd.hi.inn, .string hd.hi.text, .slice A3 hd.occur.length c3, .slice A4 ks.length c4], .bool b] ∧ Fresh n w [.int .i64 hd.kind, .int .i64 hd.field, .string hd.text, .slice A1 hd.terms.length c1, .slice A2 hd.offs.length c2, .int .i64 hd.n, .int .u64 hd.weight, .bool hd.lo.op, .bool hd.lo.inn, .string hd.lo.text, .bool hd.hi.op, .bool hd.hi.inn, .string hd.hi.text, .slice A3 hd.occur.length c3, .slice A4 ks.length c4] q
def QOne (n : Nat) (q : Qry) (x : Value) (w : World) : Prop := ∃ (hd : Head) (ks : List Qry) (A1 A2 A3 A4 : Option Addr) (c1 c2 c3 c4 : Nat), x = .agg #[.int .i64 hd.kind, .int .i64 hd.field, .string hd.text, .slice A1 hd.terms.length c1, .slice A2 hd.offs.length c2, .int .i64 hd.n, .int .u64 hd.weight, .bool hd.lo.op, .bool hd.lo.inn, .string hd.lo.text, .bool hd.hi.op, .bool hd.hi.inn, .string hd.hi.text, .slice A3 hd.occur.length c3, .slice A4 ks.length c4] ∧ Fresh n w [.int .i64 hd.kind, .int .i64 hd.field, .string hd.text, .slice A1 hd.terms.length c1, .slice A2 hd.offs.length c2, .int .i64 hd.n, .int .u64 hd.weight, .bool hd.lo.op, .bool hd.lo.inn, .string hd.lo.text, .bool hd.hi.op, .bool hd.hi.inn, .string hd.hi.text, .slice A3 hd.occur.length c3, .slice A4 ks.length c4] q
theorem fresh_stays {n : Nat} {w w' : World} {cs : List Value} {q : Qry} (hle : Below w.heap.size w w' ∨ LeC w w') (h : Fresh n w cs q) : Fresh n w' cs q := by
  rcases hle with hb | ⟨hs, hk⟩
  · exact h.below hb
  · obtain ⟨S, h1, h⟩ := h
    have hk2 : ∀ k, S k → w'.heap[k]? = w.heap[k]? := fun k hS => hk k (h1 k hS).2.1 (h1 k hS).2.2
    exact ⟨S, fun k hk' => ⟨(h1 k hk').1, Nat.lt_of_lt_of_le (h1 k hk').2.1 hs, fun hb => (h1 k hk').2.2 ((hk2 k hk').symm.trans hb)⟩, fun w'' hw => (h w'' fun k hk' => (hw k hk').trans (hk2 k hk')).mono hs⟩
theorem qtup_stays {n : Nat} {w w' : World} {q : Qry} {b : Bool} {x : Value} (hle : Below w.heap.size w w' ∨ LeC w w') (h : QTup n q b x w) : QTup n q b x w' := by
  obtain ⟨hd, ks, A1, A2, A3, A4, c1, c2, c3, c4, e, hf⟩ := h
  exact ⟨hd, ks, A1, A2, A3, A4, c1, c2, c3, c4, e, fresh_stays hle hf⟩
theorem qone_stays {n : Nat} {w w' : World} {q : Qry} {x : Value} (hle : Below w.heap.size w w' ∨ LeC w w') (h : QOne n q x w) : QOne n q x w' := by
  obtain ⟨hd, ks, A1, A2, A3, A4, c1, c2, c3, c4, e, hf⟩ := h
  exact ⟨hd, ks, A1, A2, A3, A4, c1, c2, c3, c4, e, fresh_stays hle hf⟩
theorem binder_stays2 {w w' : World} {x : Value} {cs : Array Value} (hle : Below w.heap.size w w' ∨ LeC w w') (h : ∃ g, x = .pointer (some ⟨g, 0, none⟩) ∧ Blk w g 147 cs) : ∃ g, x = .pointer (some ⟨g, 0, none⟩) ∧ Blk w' g 147 cs := by
  obtain ⟨g, e, hB⟩ := h
  rcases hle with hb | ⟨_, hk⟩
  · exact ⟨g, e, hB.below hb hB.lt⟩
  · exact ⟨g, e, (hk g hB.lt fun hb => kinds_ne hb hB (by decide) rfl).trans hB⟩
def GA (n3 : Nat) (q : Qry) : Nat → Value → World → Prop
  | 0, _, _ => True
  | 1, v, w => ∃ g, v = .pointer (some ⟨g, 0, none⟩) ∧ Blk w g 29 (bareQ 0 0 ⟨#[]⟩) ∧ n3 ≤ g
  | _ + 2, v, w => ∃ g, v = .pointer (some ⟨g, 0, none⟩) ∧ (∃ cs : List Value, Blk w g 29 cs.toArray ∧ Fresh n3 w cs q) ∧ n3 ≤ g
theorem ga_below {n3 : Nat} {q : Qry} : ∀ {i : Nat} {v : Value} {w w' : World}, Below w.heap.size w w' → GA n3 q i v w → GA n3 q i v w'
  | 0, _, _, _, _, _ => trivial
  | 1, _, _, _, hb, ⟨g, e, h, hg⟩ => ⟨g, e, h.below hb h.lt, hg⟩
  | _ + 2, _, _, _, hb, ⟨g, e, ⟨cs, h, hf⟩, hg⟩ => ⟨g, e, ⟨cs, h.below hb h.lt, hf.below hb⟩, hg⟩
theorem ga_loc {n3 : Nat} {q : Qry} : ∀ {i : Nat} {vs vs' : Nat → Value} {w : World}, (∀ q p, q < i → [7, 8][q]? = some p → vs p = vs' p) → GA n3 q i (vs 7) w → GA n3 q i (vs' 7) w
  | 0, _, _, _, _, _ => trivial
  | i + 1, vs, vs', w, h, hg => by rw [← h 0 7 (Nat.succ_pos _) rfl]; exact hg
def IsT (q : Qry) (ev : Value) (w : World) (e : Ending) (w' : World) : Prop := ∃ cs : List Value, e = .returned (.tuple #[.agg cs.toArray, ev]) ∧ Fresh w.heap.size w' cs q ∧ Below w.heap.size w w'
def errV (a : Addr) : Value := .iface 274 (.pointer (some a))

set_option maxHeartbeats 4000000 in
theorem top_good (k m : Int) (fn T : ByteArray) (R : NRest) (q : Qry) (bq : Bool) (fg fo n c : Nat) (w : World)
    (SC : ∀ W, Below w.heap.size w W → Calls Tryz.prog 17 #[.agg #[.slice (some ⟨fg, fo, none⟩) n c]] W fun e w' => e = .returned .nilIface ∧ Below W.heap.size W w')
    (NC : ∀ W, Below w.heap.size w W → Calls Tryz.prog 18 #[.agg (nodeV k fn T m R)] W fun e w' => e = .returned .nilIface ∧ Below W.heap.size W w')
    (BT : ∀ W, Below w.heap.size w W → ∀ g, Blk W g 147 (binderC (some ⟨fg, fo, none⟩) n c) → Calls Tryz.prog 50 #[.pointer (some ⟨g, 0, none⟩), .agg (nodeV k fn T m R)] W (IsQ q bq W)) :
    Calls Tryz.prog 16 #[.agg #[.slice (some ⟨fg, fo, none⟩) n c], .agg (nodeV k fn T m R)] w (IsT (if bq then q else noneQ) .nilIface w) := by
  obtain ⟨W1, hW1⟩ : ∃ W, W = ((w.alloc (.cells #[.slice (some ⟨fg, fo, none⟩) n c] 36)).alloc (.cells (nodeV k fn T m R) 39)).alloc (.cells (bareQ 0 0 ⟨#[]⟩) 29) := ⟨_, rfl⟩
  have KS : Blk W1 w.heap.size 36 #[.slice (some ⟨fg, fo, none⟩) n c] := by rw [hW1]; exact ((Blk.new w _ _).alloc _).alloc _
  have KN : Blk W1 (w.heap.size + 1) 39 (nodeV k fn T m R) := by
    rw [hW1]
    have := (Blk.new (w.alloc (.cells #[.slice (some ⟨fg, fo, none⟩) n c] 36)) 39 (nodeV k fn T m R)).alloc (.cells (bareQ 0 0 ⟨#[]⟩) 29)
    rwa [World.size_alloc] at this
  have KQ : Blk W1 (w.heap.size + 1 + 1) 29 (bareQ 0 0 ⟨#[]⟩) := by
    rw [hW1]
    have := Blk.new ((w.alloc (.cells #[.slice (some ⟨fg, fo, none⟩) n c] 36)).alloc (.cells (nodeV k fn T m R) 39)) 29 (bareQ 0 0 ⟨#[]⟩)
    rwa [World.size_alloc, World.size_alloc] at this
  have hbW : Below w.heap.size w W1 := by rw [hW1]; exact Base.bel
  have hsz : w.heap.size + 3 = W1.heap.size := by rw [hW1]; simp
  have ncell : ∀ {wx : World} (hx : Below W1.heap.size W1 wx) (j : Nat) (u : Value) (_ : (nodeV k fn T m R)[j]? = some u), wx.cell? ⟨w.heap.size + 1, j, none⟩ = some u := fun hx j u hu => ((KN.below hx (by omega)).cell j).trans hu
  have scell : ∀ {wx : World} (hx : Below W1.heap.size W1 wx), wx.cell? ⟨w.heap.size, 0, none⟩ = some (.slice (some ⟨fg, fo, none⟩) n c) := fun hx => (KS.below hx (by omega)).cell 0
  have SC := Lib.hid SC
  have NC := Lib.hid NC
  have BT := Lib.hid BT
  have NB := Lib.hid (fun W => newBinder_any (some ⟨fg, fo, none⟩) n c W)
  obtain ⟨qr, hqr⟩ : ∃ x, x = (if bq then q else noneQ) := ⟨_, rfl⟩
  rw [← hqr]
  have HQ := Lib.hid hqr
  have HW := Lib.hid hW1
  have HZ := Lib.hid hsz
  unfold nodeV bareQ at hW1
  have HW2 := Lib.hid hW1
  unfold nodeV at NC BT ⊢
  clear hW1 hsz hqr
  go_enter Tryz.func16, Tryz.ntmps16
  go_upto_region 5 with (first | (go_at_call 17; refine (SC.out _ (by exact Base.bel)).mono ?_; rintro e w2 ⟨rfl, hb2⟩; have hb12 : Below W1.heap.size W1 w2 := (by rw [HW2.out]; exact hb2); have y0 : w2.cell? ⟨w.heap.size + 1, 0, none⟩ = some (.int .i64 k) := ncell hb12 0 _ rfl; have y1 : w2.cell? ⟨w.heap.size + 1, 1, none⟩ = some (.string fn) := ncell hb12 1 _ rfl; have y2 : w2.cell? ⟨w.heap.size + 1, 2, none⟩ = some (.string T) := ncell hb12 2 _ rfl; have y3 : w2.cell? ⟨w.heap.size + 1, 3, none⟩ = some (.int .i64 m) := ncell hb12 3 _ rfl; have y4 : w2.cell? ⟨w.heap.size + 1, 4, none⟩ = some (.bool R.lo.op) := ncell hb12 4 _ rfl; have y5 : w2.cell? ⟨w.heap.size + 1, 5, none⟩ = some (.bool R.lo.inn) := ncell hb12 5 _ rfl; have y6 : w2.cell? ⟨w.heap.size + 1, 6, none⟩ = some (.string R.lo.text) := ncell hb12 6 _ rfl; have y7 : w2.cell? ⟨w.heap.size + 1, 7, none⟩ = some (.bool R.hi.op) := ncell hb12 7 _ rfl; have y8 : w2.cell? ⟨w.heap.size + 1, 8, none⟩ = some (.bool R.hi.inn) := ncell hb12 8 _ rfl; have y9 : w2.cell? ⟨w.heap.size + 1, 9, none⟩ = some (.string R.hi.text) := ncell hb12 9 _ rfl; have y10 : w2.cell? ⟨w.heap.size + 1, 10, none⟩ = some (.slice R.A1 R.n1 R.c1) := ncell hb12 10 _ rfl; have y11 : w2.cell? ⟨w.heap.size + 1, 11, none⟩ = some (.slice R.A2 R.n2 R.c2) := ncell hb12 11 _ rfl) | (go_at_call 18; refine (NC.out _ (bchain hbW hb12)).mono ?_; rintro e w3 ⟨rfl, hb3⟩; have hb13 : Below W1.heap.size W1 w3 := bchain hb12 hb3; clear y0 y1 y2 y3 y4 y5 y6 y7 y8 y9 y10 y11))
  refine RelE.wp_region_rele 10 (fun wx => Below w3.heap.size w3 wx) (fun wa wb => Below wa.heap.size wa wb) (fun wa wb => LeC wa wb) [7, 8] (fun i vs wx => GA w3.heap.size q i (vs 7) wx) (by kernel_rfl) (by kernel_rfl) (by kernel_rfl) (by simp) (by kernel_rfl) (bdrew (Below.refl _ _)) trivial (fun i _ _ _ hle h => ga_below hle h) (fun i vs vs' _ h => ga_loc h) ?_
  simp only [List.take_succ_cons, List.take_zero]
  apply RelE.rele_one 1 [] rfl (by kernel_rfl) (by kernel_rfl) (by rfl)
  case hs =>
    intro vv wx hx hf
    clear hf
    have ns := scell (bchain hb13 hx)
    have n0 := ncell (bchain hb13 hx) 0 (.int .i64 k) rfl
    have n1 := ncell (bchain hb13 hx) 1 (.string fn) rfl
    have n2 := ncell (bchain hb13 hx) 2 (.string T) rfl
    have n3 := ncell (bchain hb13 hx) 3 (.int .i64 m) rfl
    have n4 := ncell (bchain hb13 hx) 4 (.bool R.lo.op) rfl
    have n5 := ncell (bchain hb13 hx) 5 (.bool R.lo.inn) rfl
    have n6 := ncell (bchain hb13 hx) 6 (.string R.lo.text) rfl
    have n7 := ncell (bchain hb13 hx) 7 (.bool R.hi.op) rfl
    have n8 := ncell (bchain hb13 hx) 8 (.bool R.hi.inn) rfl
    have n9 := ncell (bchain hb13 hx) 9 (.string R.hi.text) rfl
    have n10 := ncell (bchain hb13 hx) 10 (.slice R.A1 R.n1 R.c1) rfl
    have n11 := ncell (bchain hb13 hx) 11 (.slice R.A2 R.n2 R.c2) rfl
    try simp only [Relb.putD, Act.put, Base.s1, Base.s2, Base.s3]
    intro KK hK
    go_simp
    exact hK _ _ hx (Below.refl _ _) rfl
  apply RelE.rele_kind 2 [(0, 19)] (fun x wx => ∃ g, x = .pointer (some ⟨g, 0, none⟩) ∧ Blk wx g 147 (binderC (some ⟨fg, fo, none⟩) n c)) rfl (by kernel_rfl) (by kernel_rfl) (by rfl) (fun _ _ _ hle h => binder_stays2 hle h)
  case hs =>
    intro vv wx hx hf
    have e19 : vv 0 = _ := hf 0 (by simp)
    clear hf
    have ns := scell (bchain hb13 hx)
    have n0 := ncell (bchain hb13 hx) 0 (.int .i64 k) rfl
    have n1 := ncell (bchain hb13 hx) 1 (.string fn) rfl
    have n2 := ncell (bchain hb13 hx) 2 (.string T) rfl
    have n3 := ncell (bchain hb13 hx) 3 (.int .i64 m) rfl
    have n4 := ncell (bchain hb13 hx) 4 (.bool R.lo.op) rfl
    have n5 := ncell (bchain hb13 hx) 5 (.bool R.lo.inn) rfl
    have n6 := ncell (bchain hb13 hx) 6 (.string R.lo.text) rfl
    have n7 := ncell (bchain hb13 hx) 7 (.bool R.hi.op) rfl
    have n8 := ncell (bchain hb13 hx) 8 (.bool R.hi.inn) rfl
    have n9 := ncell (bchain hb13 hx) 9 (.string R.hi.text) rfl
    have n10 := ncell (bchain hb13 hx) 10 (.slice R.A1 R.n1 R.c1) rfl
    have n11 := ncell (bchain hb13 hx) 11 (.slice R.A2 R.n2 R.c2) rfl
    try simp only [Relb.putD, e19, Act.put, Base.s1, Base.s2, Base.s3]
    intro KK hK
    go_simp
    go_at_call 49
    refine (NB.out wx).mono ?_
    rintro e w5 ⟨g5, rfl, hB5, hb5⟩
    exact hK _ _ (bchain hx hb5) hb5 ⟨g5, rfl, hB5⟩
  apply RelE.rele_one 3 [] rfl (by kernel_rfl) (by kernel_rfl) (by rfl)
  case hs =>
    intro vv wx hx hf
    clear hf
    have ns := scell (bchain hb13 hx)
    have n0 := ncell (bchain hb13 hx) 0 (.int .i64 k) rfl
    have n1 := ncell (bchain hb13 hx) 1 (.string fn) rfl
    have n2 := ncell (bchain hb13 hx) 2 (.string T) rfl
    have n3 := ncell (bchain hb13 hx) 3 (.int .i64 m) rfl
    have n4 := ncell (bchain hb13 hx) 4 (.bool R.lo.op) rfl
    have n5 := ncell (bchain hb13 hx) 5 (.bool R.lo.inn) rfl
    have n6 := ncell (bchain hb13 hx) 6 (.string R.lo.text) rfl
    have n7 := ncell (bchain hb13 hx) 7 (.bool R.hi.op) rfl
    have n8 := ncell (bchain hb13 hx) 8 (.bool R.hi.inn) rfl
    have n9 := ncell (bchain hb13 hx) 9 (.string R.hi.text) rfl
    have n10 := ncell (bchain hb13 hx) 10 (.slice R.A1 R.n1 R.c1) rfl
    have n11 := ncell (bchain hb13 hx) 11 (.slice R.A2 R.n2 R.c2) rfl
    try simp only [Relb.putD, Act.put, Base.s1, Base.s2, Base.s3]
    intro KK hK
    go_simp
    exact hK _ _ hx (Below.refl _ _) rfl
  apply RelE.rele_kind 4 [(1, 20), (2, 21)] (fun x wx => QTup w3.heap.size q bq x wx) rfl (by kernel_rfl) (by kernel_rfl) (by rfl) (fun _ _ _ hle h => qtup_stays hle h)
  case hs =>
    intro vv wx hx hf
    obtain ⟨g20, e20, B20⟩ := hf 1 (by simp)
    replace e20 : vv 1 = _ := e20
    have e21 : vv 2 = _ := hf 2 (by simp)
    clear hf
    have ns := scell (bchain hb13 hx)
    have n0 := ncell (bchain hb13 hx) 0 (.int .i64 k) rfl
    have n1 := ncell (bchain hb13 hx) 1 (.string fn) rfl
    have n2 := ncell (bchain hb13 hx) 2 (.string T) rfl
    have n3 := ncell (bchain hb13 hx) 3 (.int .i64 m) rfl
    have n4 := ncell (bchain hb13 hx) 4 (.bool R.lo.op) rfl
    have n5 := ncell (bchain hb13 hx) 5 (.bool R.lo.inn) rfl
    have n6 := ncell (bchain hb13 hx) 6 (.string R.lo.text) rfl
    have n7 := ncell (bchain hb13 hx) 7 (.bool R.hi.op) rfl
    have n8 := ncell (bchain hb13 hx) 8 (.bool R.hi.inn) rfl
    have n9 := ncell (bchain hb13 hx) 9 (.string R.hi.text) rfl
    have n10 := ncell (bchain hb13 hx) 10 (.slice R.A1 R.n1 R.c1) rfl
    have n11 := ncell (bchain hb13 hx) 11 (.slice R.A2 R.n2 R.c2) rfl
    try simp only [Relb.putD, e20, e21, Act.put, Base.s1, Base.s2, Base.s3]
    intro KK hK
    go_simp
    go_at_call 50
    refine (BT.out wx (bchain hbW (bchain hb13 hx)) g20 B20).mono ?_
    rintro e w7 ⟨cs, rfl, hv, hb7⟩
    obtain ⟨hd, ks, A1, A2, A3, A4, c1, c2, c3, c4, kc, hw, hkl, h1', h2', h3', h4', h5'⟩ := hv.val
    exact hK _ _ (bchain hx hb7) hb7 ⟨hd, ks, A1, A2, A3, A4, c1, c2, c3, c4, rfl, hv.mono hx.size⟩
  apply RelE.rele_kind 5 [(3, 22)] (fun x wx => QTup w3.heap.size q bq x wx) rfl (by kernel_rfl) (by kernel_rfl) (by rfl) (fun _ _ _ hle h => qtup_stays hle h)
  case hs =>
    intro vv wx hx hf
    obtain ⟨hd, ks, A1, A2, A3, A4, c1, c2, c3, c4, e22, FRS⟩ := hf 3 (by simp)
    replace e22 : vv 3 = _ := e22
    clear hf
    try simp only [Relb.putD, e22, Act.put, Base.s1, Base.s2, Base.s3]
    intro KK hK
    go_simp
    exact hK _ _ hx (Below.refl _ _) ⟨hd, ks, A1, A2, A3, A4, c1, c2, c3, c4, rfl, FRS⟩
  apply RelE.rele_kind 6 [(4, 18)] (fun x wx => QOne w3.heap.size q x wx) rfl (by kernel_rfl) (by kernel_rfl) (by rfl) (fun _ _ _ hle h => qone_stays hle h)
  case hs =>
    intro vv wx hx hf
    obtain ⟨hd, ks, A1, A2, A3, A4, c1, c2, c3, c4, e18, FRS⟩ := hf 4 (by simp)
    replace e18 : vv 4 = _ := e18
    clear hf
    try simp only [Relb.putD, e18, Act.put, Base.s1, Base.s2, Base.s3]
    intro KK hK
    go_simp
    exact hK _ _ hx (Below.refl _ _) ⟨hd, ks, A1, A2, A3, A4, c1, c2, c3, c4, rfl, FRS⟩
  apply RelE.rele_one 7 [(4, 18)] rfl (by kernel_rfl) (by kernel_rfl) (by rfl)
  case hs =>
    intro vv wx hx hf
    obtain ⟨hd, ks, A1, A2, A3, A4, c1, c2, c3, c4, e18, FRS⟩ := hf 4 (by simp)
    replace e18 : vv 4 = _ := e18
    clear hf
    try simp only [Relb.putD, e18, Act.put, Base.s1, Base.s2, Base.s3]
    intro KK hK
    go_simp
    exact hK _ _ hx (Below.refl _ _) rfl
  apply RelE.rele_chain 0 8 [] rfl (by kernel_rfl) (by kernel_rfl) (by rfl)
  case hs =>
    intro vv wx hx hf hg
    clear hf
    try simp only [Relb.putD, Act.put, Base.s1, Base.s2, Base.s3]
    intro KK hK
    go_simp
    exact hK _ _ (balloc hx _) (LeC.alloc _ _) ⟨wx.heap.size, rfl, Blk.new _ _ _, hx.size⟩
  apply RelE.rele_chain 1 9 [(5, 23), (7, 6)] rfl (by kernel_rfl) (by kernel_rfl) (by rfl)
  case hs =>
    intro vv wx hx hf hg
    obtain ⟨hd, ks, A1, A2, A3, A4, c1, c2, c3, c4, e23, FRS⟩ := hf 5 (by simp)
    replace e23 : vv 5 = _ := e23
    obtain ⟨g6, e6, K6, h6⟩ := hg
    replace e6 : vv 7 = _ := e6
    have K6' := K6
    unfold bareQ at K6
    obtain ⟨z0, z1, z2, z3, z4, z5, z6, z7, z8, z9, z10, z11, z12, z13, z14⟩ := qrow K6
    obtain ⟨y0, y1, y2, y3, y4, y5, y6, y7, y8, y9, y10, y11, y12, y13, y14⟩ := qfz K6
    clear hf
    try simp only [Relb.putD, e23, e6, Act.put, Base.s1, Base.s2, Base.s3]
    intro KK hK
    go_simp
    exact hK undef _ (below15 hx h6) (LeC.set15 K6') ⟨g6, rfl, ⟨[.int .i64 hd.kind, .int .i64 hd.field, .string hd.text, .slice A1 hd.terms.length c1, .slice A2 hd.offs.length c2, .int .i64 hd.n, .int .u64 hd.weight, .bool hd.lo.op, .bool hd.lo.inn, .string hd.lo.text, .bool hd.hi.op, .bool hd.hi.inn, .string hd.hi.text, .slice A3 hd.occur.length c3, .slice A4 ks.length c4], blk15 K6, fresh15z FRS K6'⟩, h6⟩
  apply RelE.rele_one 10 [(6, 24)] rfl (by kernel_rfl) (by kernel_rfl) (by rfl)
  case hs =>
    intro vv wx hx hf
    have e24 : vv 6 = _ := hf 6 (by simp)
    clear hf
    try simp only [Relb.putD, e24, Act.put, Base.s1, Base.s2, Base.s3]
    intro KK hK
    go_simp
    exact hK _ _ hx (Below.refl _ _) rfl
  refine RelE.rele_end (N := 0) [(0, some 19), (1, some 20), (2, some 21), (3, some 22), (4, some 18), (5, some 23), (6, some 24), (7, some 6), (8, none), (9, some 7)] (by kernel_rfl) (by kernel_rfl) ?_
  intro vv wx hx hf hg
  have e19 : vv 0 = _ := hf 0 (by decide)
  obtain ⟨g20, e20, B20⟩ := hf 1 (by decide)
  replace e20 : vv 1 = _ := e20
  have e21 : vv 2 = _ := hf 2 (by decide)
  obtain ⟨hd, ks, A1, A2, A3, A4, c1, c2, c3, c4, e22, FRS⟩ := hf 3 (by decide)
  replace e22 : vv 3 = _ := e22
  obtain ⟨hd, ks, A1, A2, A3, A4, c1, c2, c3, c4, e18, FRS⟩ := hf 4 (by decide)
  replace e18 : vv 4 = _ := e18
  obtain ⟨hd, ks, A1, A2, A3, A4, c1, c2, c3, c4, e23, FRS⟩ := hf 5 (by decide)
  replace e23 : vv 5 = _ := e23
  have e24 : vv 6 = _ := hf 6 (by decide)
  have e7 : vv 9 = _ := hf 9 (by decide)
  clear hf
  simp only [RelE.putO, e19, e20, e21, e22, e18, e23, e24, e7, Act.put, Base.s1, Base.s2, Base.s3]
  have hg' : GA w3.heap.size q 2 (vv 7) wx := hg
  obtain ⟨g6, e6, ⟨cs6, K6, F6⟩, h6⟩ := hg'
  have KZ := KQ.below (bchain hb13 hx) (by have := HZ.out; omega)
  obtain ⟨hd, ks, A1, A2, A3, A4, c1, c2, c3, c4, kc, hw, hkl, h1', h2', h3', h4', h5'⟩ := F6.val
  clear h1' h2' h3' h4' h5' hw hkl
  obtain ⟨q0, q1, q2, q3, q4, q5, q6, q7, q8, q9, q10, q11, q12, q13, q14⟩ := qrow K6
  unfold bareQ at KZ
  obtain ⟨z0, z1, z2, z3, z4, z5, z6, z7, z8, z9, z10, z11, z12, z13, z14⟩ := qrow KZ
  obtain ⟨y0, y1, y2, y3, y4, y5, y6, y7, y8, y9, y10, y11, y12, y13, y14⟩ := qfz KZ
  simp only [e6]
  have hfin : Below w.heap.size w wx := bchain hbW (bchain hb13 hx)
  have HS3 := Lib.hid hb13.size
  clear hg e19 e20 e21 e22 e18 e23 e24 e6 e7 B20
  refine ⟨by kernel_rfl, ?_⟩
  cases bq
  · have HQ2 := Lib.hid (HQ.out.trans (if_neg (by decide)))
    go_wp2_with (go_at_call 51; refine (none_lit _).mono ?_; rintro e w8 ⟨rfl, hb8⟩; have KZ8 := KZ.below hb8 KZ.lt; obtain ⟨z0, z1, z2, z3, z4, z5, z6, z7, z8, z9, z10, z11, z12, z13, z14⟩ := qrow KZ8; obtain ⟨y0, y1, y2, y3, y4, y5, y6, y7, y8, y9, y10, y11, y12, y13, y14⟩ := qfz KZ8)
    refine bodyPost_ret (results_blk (p := 4) (u := 5) (ty := 29) (t := 29) (g := w.heap.size + 1 + 1) (cs := bareQ 1 0 ⟨#[]⟩) ?_ ?_ (blk15 (KZ.below hb8 KZ.lt)) Tryz.underlying29 ?_ ?_) ?_ ?_
    · rfl
    · rfl
    · rfl
    · rw [qInfo]; rfl
    · rfl
    · rw [HQ2.out]
      exact ⟨(bareQ 1 0 ⟨#[]⟩).toList, rfl, Fresh.all fun w'' => bare_val w'' _ 1 0 ⟨#[]⟩ rfl rfl (Nat.zero_le _), below15 (bchain hfin hb8) (Nat.le_succ_of_le (Nat.le_succ _))⟩
  · have HQ2 := Lib.hid (HQ.out.trans (if_pos rfl))
    go_wp2_with fail
    refine bodyPost_ret (results_blk (p := 4) (u := 5) (ty := 29) (t := 29) (g := w.heap.size + 1 + 1) (cs := #[.int .i64 hd.kind, .int .i64 hd.field, .string hd.text, .slice A1 hd.terms.length c1, .slice A2 hd.offs.length c2, .int .i64 hd.n, .int .u64 hd.weight, .bool hd.lo.op, .bool hd.lo.inn, .string hd.lo.text, .bool hd.hi.op, .bool hd.hi.inn, .string hd.hi.text, .slice A3 hd.occur.length c3, .slice A4 ks.length c4]) ?_ ?_ (blk15 KZ) Tryz.underlying29 ?_ ?_) ?_ ?_
    · rfl
    · rfl
    · rfl
    · rw [qInfo]; rfl
    · rfl
    · rw [HQ2.out]
      exact ⟨[.int .i64 hd.kind, .int .i64 hd.field, .string hd.text, .slice A1 hd.terms.length c1, .slice A2 hd.offs.length c2, .int .i64 hd.n, .int .u64 hd.weight, .bool hd.lo.op, .bool hd.lo.inn, .string hd.lo.text, .bool hd.hi.op, .bool hd.hi.inn, .string hd.hi.text, .slice A3 hd.occur.length c3, .slice A4 ks.length c4], rfl, (fresh15 F6 (by have := HZ.out; have := HS3.out; omega)).mono (by have := HZ.out; have := HS3.out; omega), below15 hfin (Nat.le_succ_of_le (Nat.le_succ _))⟩

set_option maxHeartbeats 4000000 in
theorem top_schema (k m : Int) (fn T : ByteArray) (R : NRest) (A : Option Addr) (n c : Nat) (a : Addr) (w : World)
    (SC : ∀ W, Below w.heap.size w W → Calls Tryz.prog 17 #[.agg #[.slice A n c]] W fun e w' => e = .returned (errV a) ∧ Below W.heap.size W w')
    (he : w.cell? ⟨0, 0, none⟩ = some (errV a)) (h0 : 0 < w.heap.size) :
    Calls Tryz.prog 16 #[.agg #[.slice A n c], .agg (nodeV k fn T m R)] w (IsT zeroQ (errV a) w) := by
  obtain ⟨W1, hW1⟩ : ∃ W, W = ((w.alloc (.cells #[.slice A n c] 36)).alloc (.cells (nodeV k fn T m R) 39)).alloc (.cells (bareQ 0 0 ⟨#[]⟩) 29) := ⟨_, rfl⟩
  have KS : Blk W1 w.heap.size 36 #[.slice A n c] := by rw [hW1]; exact ((Blk.new w _ _).alloc _).alloc _
  have KN : Blk W1 (w.heap.size + 1) 39 (nodeV k fn T m R) := by
    rw [hW1]
    have := (Blk.new (w.alloc (.cells #[.slice A n c] 36)) 39 (nodeV k fn T m R)).alloc (.cells (bareQ 0 0 ⟨#[]⟩) 29)
    rwa [World.size_alloc] at this
  have KQ : Blk W1 (w.heap.size + 1 + 1) 29 (bareQ 0 0 ⟨#[]⟩) := by
    rw [hW1]
    have := Blk.new ((w.alloc (.cells #[.slice A n c] 36)).alloc (.cells (nodeV k fn T m R) 39)) 29 (bareQ 0 0 ⟨#[]⟩)
    rwa [World.size_alloc, World.size_alloc] at this
  have hbW : Below w.heap.size w W1 := by rw [hW1]; exact Base.bel
  have hsz : w.heap.size + 3 = W1.heap.size := by rw [hW1]; simp
  have ncell : ∀ {wx : World} (hx : Below W1.heap.size W1 wx) (j : Nat) (u : Value) (_ : (nodeV k fn T m R)[j]? = some u), wx.cell? ⟨w.heap.size + 1, j, none⟩ = some u := fun hx j u hu => ((KN.below hx (by omega)).cell j).trans hu
  have scell : ∀ {wx : World} (hx : Below W1.heap.size W1 wx), wx.cell? ⟨w.heap.size, 0, none⟩ = some (.slice A n c) := fun hx => (KS.below hx (by omega)).cell 0
  have HE := Lib.hid (fun W (hW : Below w.heap.size w W) => (hW.cell (p := ⟨0, 0, none⟩) h0).trans he)
  have SC := Lib.hid SC
  unfold errV at SC HE ⊢
  have HZ := Lib.hid hsz
  unfold nodeV bareQ at hW1
  have HW2 := Lib.hid hW1
  unfold nodeV
  clear hW1 hsz he h0
  go_enter Tryz.func16, Tryz.ntmps16
  go_upto_region 2 with (go_at_call 17; refine (SC.out _ (by exact Base.bel)).mono ?_; rintro e w2 ⟨rfl, hb2⟩; have hb12 : Below W1.heap.size W1 w2 := (by rw [HW2.out]; exact hb2))
  have ee : w2.drew.cell? ⟨0, 0, none⟩ = some (.iface 274 (.pointer (some a))) := HE.out w2 (bchain hbW hb12)
  have eb : w2.cell? ⟨0, 0, none⟩ = some (.iface 274 (.pointer (some a))) := HE.out w2 (bchain hbW hb12)
  have KZ := KQ.below hb12 (by have := HZ.out; omega)
  have hgz : 0 < w.heap.size + 1 + 1 := by omega
  unfold bareQ at KZ
  obtain ⟨z0, z1, z2, z3, z4, z5, z6, z7, z8, z9, z10, z11, z12, z13, z14⟩ := qrow KZ
  obtain ⟨y0, y1, y2, y3, y4, y5, y6, y7, y8, y9, y10, y11, y12, y13, y14⟩ := qfz KZ
  go_region
  go_wp2_with fail
  refine bodyPost_ret (results_blk (p := 4) (u := 5) (ty := 29) (t := 29) (g := w.heap.size + 1 + 1) (cs := bareQ 0 0 ⟨#[]⟩) ?_ ?_ (blk15 KZ).drew Tryz.underlying29 ?_ ?_) ?_ ?_
  · rfl
  · rfl
  · rfl
  · rw [qInfo]; rfl
  · rfl
  · exact ⟨(bareQ 0 0 ⟨#[]⟩).toList, rfl, Fresh.all fun w'' => bare_val w'' _ 0 0 ⟨#[]⟩ rfl rfl (Nat.zero_le _), (below15 (bchain hbW hb12) (Nat.le_succ_of_le (Nat.le_succ _))).drew⟩

set_option maxHeartbeats 4000000 in
theorem top_node (k m : Int) (fn T : ByteArray) (R : NRest) (A : Option Addr) (n c : Nat) (a : Addr) (w : World)
    (SC : ∀ W, Below w.heap.size w W → Calls Tryz.prog 17 #[.agg #[.slice A n c]] W fun e w' => e = .returned .nilIface ∧ Below W.heap.size W w')
    (NC : ∀ W, Below w.heap.size w W → Calls Tryz.prog 18 #[.agg (nodeV k fn T m R)] W fun e w' => e = .returned (errV a) ∧ Below W.heap.size W w')
    (he : w.cell? ⟨1, 0, none⟩ = some (errV a)) (h0 : 1 < w.heap.size) :
    Calls Tryz.prog 16 #[.agg #[.slice A n c], .agg (nodeV k fn T m R)] w (IsT zeroQ (errV a) w) := by
  obtain ⟨W1, hW1⟩ : ∃ W, W = ((w.alloc (.cells #[.slice A n c] 36)).alloc (.cells (nodeV k fn T m R) 39)).alloc (.cells (bareQ 0 0 ⟨#[]⟩) 29) := ⟨_, rfl⟩
  have KS : Blk W1 w.heap.size 36 #[.slice A n c] := by rw [hW1]; exact ((Blk.new w _ _).alloc _).alloc _
  have KN : Blk W1 (w.heap.size + 1) 39 (nodeV k fn T m R) := by
    rw [hW1]
    have := (Blk.new (w.alloc (.cells #[.slice A n c] 36)) 39 (nodeV k fn T m R)).alloc (.cells (bareQ 0 0 ⟨#[]⟩) 29)
    rwa [World.size_alloc] at this
  have KQ : Blk W1 (w.heap.size + 1 + 1) 29 (bareQ 0 0 ⟨#[]⟩) := by
    rw [hW1]
    have := Blk.new ((w.alloc (.cells #[.slice A n c] 36)).alloc (.cells (nodeV k fn T m R) 39)) 29 (bareQ 0 0 ⟨#[]⟩)
    rwa [World.size_alloc, World.size_alloc] at this
  have hbW : Below w.heap.size w W1 := by rw [hW1]; exact Base.bel
  have hsz : w.heap.size + 3 = W1.heap.size := by rw [hW1]; simp
  have ncell : ∀ {wx : World} (hx : Below W1.heap.size W1 wx) (j : Nat) (u : Value) (_ : (nodeV k fn T m R)[j]? = some u), wx.cell? ⟨w.heap.size + 1, j, none⟩ = some u := fun hx j u hu => ((KN.below hx (by omega)).cell j).trans hu
  have scell : ∀ {wx : World} (hx : Below W1.heap.size W1 wx), wx.cell? ⟨w.heap.size, 0, none⟩ = some (.slice A n c) := fun hx => (KS.below hx (by omega)).cell 0
  have HE := Lib.hid (fun W (hW : Below w.heap.size w W) => (hW.cell (p := ⟨1, 0, none⟩) h0).trans he)
  have SC := Lib.hid SC
  have NC := Lib.hid NC
  unfold errV at NC HE ⊢
  have HZ := Lib.hid hsz
  unfold nodeV bareQ at hW1
  have HW2 := Lib.hid hW1
  unfold nodeV at NC ⊢
  clear hW1 hsz he h0
  go_enter Tryz.func16, Tryz.ntmps16
  go_upto_region 4 with (first | (go_at_call 17; refine (SC.out _ (by exact Base.bel)).mono ?_; rintro e w2 ⟨rfl, hb2⟩; have hb12 : Below W1.heap.size W1 w2 := (by rw [HW2.out]; exact hb2); have y0 : w2.cell? ⟨w.heap.size + 1, 0, none⟩ = some (.int .i64 k) := ncell hb12 0 _ rfl; have y1 : w2.cell? ⟨w.heap.size + 1, 1, none⟩ = some (.string fn) := ncell hb12 1 _ rfl; have y2 : w2.cell? ⟨w.heap.size + 1, 2, none⟩ = some (.string T) := ncell hb12 2 _ rfl; have y3 : w2.cell? ⟨w.heap.size + 1, 3, none⟩ = some (.int .i64 m) := ncell hb12 3 _ rfl; have y4 : w2.cell? ⟨w.heap.size + 1, 4, none⟩ = some (.bool R.lo.op) := ncell hb12 4 _ rfl; have y5 : w2.cell? ⟨w.heap.size + 1, 5, none⟩ = some (.bool R.lo.inn) := ncell hb12 5 _ rfl; have y6 : w2.cell? ⟨w.heap.size + 1, 6, none⟩ = some (.string R.lo.text) := ncell hb12 6 _ rfl; have y7 : w2.cell? ⟨w.heap.size + 1, 7, none⟩ = some (.bool R.hi.op) := ncell hb12 7 _ rfl; have y8 : w2.cell? ⟨w.heap.size + 1, 8, none⟩ = some (.bool R.hi.inn) := ncell hb12 8 _ rfl; have y9 : w2.cell? ⟨w.heap.size + 1, 9, none⟩ = some (.string R.hi.text) := ncell hb12 9 _ rfl; have y10 : w2.cell? ⟨w.heap.size + 1, 10, none⟩ = some (.slice R.A1 R.n1 R.c1) := ncell hb12 10 _ rfl; have y11 : w2.cell? ⟨w.heap.size + 1, 11, none⟩ = some (.slice R.A2 R.n2 R.c2) := ncell hb12 11 _ rfl) | (go_at_call 18; refine (NC.out _ (bchain hbW hb12)).mono ?_; rintro e w3 ⟨rfl, hb3⟩; have hb13 : Below W1.heap.size W1 w3 := bchain hb12 hb3; clear y0 y1 y2 y3 y4 y5 y6 y7 y8 y9 y10 y11))
  have ee : w3.drew.cell? ⟨1, 0, none⟩ = some (.iface 274 (.pointer (some a))) := HE.out w3 (bchain hbW hb13)
  have eb : w3.cell? ⟨1, 0, none⟩ = some (.iface 274 (.pointer (some a))) := HE.out w3 (bchain hbW hb13)
  have KZ := KQ.below hb13 (by have := HZ.out; omega)
  unfold bareQ at KZ
  obtain ⟨z0, z1, z2, z3, z4, z5, z6, z7, z8, z9, z10, z11, z12, z13, z14⟩ := qrow KZ
  obtain ⟨y0, y1, y2, y3, y4, y5, y6, y7, y8, y9, y10, y11, y12, y13, y14⟩ := qfz KZ
  go_region
  go_wp2_with fail
  refine bodyPost_ret (results_blk (p := 4) (u := 5) (ty := 29) (t := 29) (g := w.heap.size + 1 + 1) (cs := bareQ 0 0 ⟨#[]⟩) ?_ ?_ (blk15 KZ).drew Tryz.underlying29 ?_ ?_) ?_ ?_
  · rfl
  · rfl
  · rfl
  · rw [qInfo]; rfl
  · rfl
  · exact ⟨(bareQ 0 0 ⟨#[]⟩).toList, rfl, Fresh.all fun w'' => bare_val w'' _ 0 0 ⟨#[]⟩ rfl rfl (Nat.zero_le _), (below15 (bchain hbW hb13) (Nat.le_succ_of_le (Nat.le_succ _))).drew⟩

def bindR (fs : List Fld) (q : Nod) : Qry := if schemaB fs = true ∧ nodB q = true then topQ fs q else zeroQ
def bindE (fs : List Fld) (q : Nod) (a1 a2 : Addr) : Value := if schemaB fs = true then (if nodB q = true then .nilIface else errV a2) else errV a1
theorem bindTop_any (fs : List Fld) (A : Option Addr) (c : Nat) (q : Nod) (cs : List Value) (B B0 : Nat) (a1 a2 : Addr) (w : World) (hq : NVal w B cs q) (hB : B ≤ w.heap.size) (hbk : q.bulk ≤ 2097152) (hB0 : B0 ≤ w.heap.size) (h1 : Slc w B0 A (fldCells fs))
    (hnm : ∀ f ∈ fs, f.nm.size ≤ 9223372036854775807) (hlen : fs.length ≤ 9223372036854775807) (ht : Tab w) (h0 : 3 < w.heap.size) (ha : Asks w) (h2 : 2 < w.heap.size)
    (he1 : w.cell? ⟨0, 0, none⟩ = some (errV a1)) (h3 : 0 < w.heap.size) (he2 : w.cell? ⟨1, 0, none⟩ = some (errV a2)) (h4 : 1 < w.heap.size) :
    Calls Tryz.prog 16 #[.agg #[.slice A fs.length c], .agg cs.toArray] w (IsT (bindR fs q) (bindE fs q a1 a2) w) := by
  have SC := fun W (hW : Below w.heap.size w W) => schemaCheck_any fs A c B0 (errV a1) W (Nat.le_trans hB0 hW.size) (h1.below hW hB0) hnm hlen ((hW.cell (p := ⟨0, 0, none⟩) h3).trans he1) (Nat.lt_of_lt_of_le h3 hW.size)
  have NC := fun W (hW : Below w.heap.size w W) => nodeCheck_any q cs B a2 W (hq.kept hW hB) (Nat.le_trans hB hW.size) (by omega) (ha.below hW h2) (Nat.lt_of_lt_of_le h2 hW.size) ((hW.cell (p := ⟨1, 0, none⟩) h4).trans he2) (Nat.lt_of_lt_of_le h4 hW.size)
  have hcs : ∃ k fn T m R, cs.toArray = nodeV k fn T m R := by
    cases hq with
    | mk hd ks A1 A2 c1 c2 kc hw hk s1 h2 h3 => exact ⟨_, _, _, _, ⟨hd.lo, hd.hi, A1, hd.occur.length, c1, A2, ks.length, c2⟩, rfl⟩
  obtain ⟨k, fn, T, m, R, ecs⟩ := hcs
  unfold bindR bindE
  cases hs : schemaB fs with
  | false =>
    rw [hs] at SC
    rw [if_neg (by simp), if_neg (by simp), ecs]
    exact top_schema k m fn T R A fs.length c a1 w SC he1 h3
  | true =>
    rw [hs] at SC
    cases hg : nodB q with
    | false =>
      rw [hg, ecs] at NC
      rw [if_neg (by simp), if_pos rfl, if_neg (by simp), ecs]
      exact top_node k m fn T R A fs.length c a2 w SC NC he2 h4
    | true =>
      rw [hg, ecs] at NC
      rw [if_pos ⟨rfl, rfl⟩, if_pos rfl, if_pos rfl, ecs]
      have hfs : 0 < fs.length := by
        unfold schemaB at hs
        rw [Bool.and_eq_true, Bool.and_eq_true] at hs
        exact of_decide_eq_true hs.1.1
      obtain ⟨fg, fo, rfl, hfg, _⟩ := h1 (by intro e; have := congrArg List.length e; rw [fldCells_len] at this; simp only [List.length_nil] at this; omega)
      have key := top_good k m fn T R (bindT fs q).1 (bindT fs q).2 fg fo fs.length c w SC NC (fun W hW g hg => by
        rw [← ecs]
        exact bindT_any fs fg fo c g B0 hfs hlen q cs B W (hq.kept hW hB) (Nat.le_trans hB hW.size) (by assumption) hbk (Nat.le_trans hB0 hW.size) (h1.below hW hB0) hg (tab_below ht hW h0) (Nat.lt_of_lt_of_le h0 hW.size))
      unfold topQ
      exact key
end Go.Proofs.YtkcfgcdlnojaeaaGreatDoor.BindTop
