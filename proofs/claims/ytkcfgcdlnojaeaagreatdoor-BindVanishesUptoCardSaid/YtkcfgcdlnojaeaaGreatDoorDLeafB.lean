/-
  What the walks of bind over a leaf share; a field's own leaf.
  The walks of bind.folded, prefix and fuzzy over any field and leaf.
  A query's kids as they are bound: two lists grown side by side in a query's fields, the kids' own lists in blocks of their own.
-/
import Derived.Test.YtkcfgcdlnojaeaaGreatDoorDWrd
import Derived.Test.YtkcfgcdlnojaeaaGreatDoorSchFind
import Derived.Test.YtkcfgcdlnojaeaaGreatDoorDBind
import Derived.Test.YtkcfgcdlnojaeaaGreatDoorFoldWalk
import Derived.Test.YtkcfgcdlnojaeaaGreatDoorDRel
set_option linter.unusedVariables false
set_option linter.unusedSimpArgs false
namespace Go.Proofs.YtkcfgcdlnojaeaaGreatDoor.LeafBase
set_option maxRecDepth 100000
open Go.RowKit Go.PlainAid Base Query OpenField FieldPlain BindBase NodeTerm NodeTree Binder WordPlain WordsWalk StopsWalk OfText OfAny WordsOne NumPlain WordsAny WordsMany SchFind

theorem far15 {w : World} {g k : Nat} {t : TypeId} {xs : Array Value} {v0 v1 v2 v3 v4 v5 v6 v7 v8 v9 v10 v11 v12 v13 v14 : Value} (h : Blk w k t xs) (hne : k ≠ g) : Blk (((((((((((((((w.setCell ⟨g, 0, none⟩ v0).setCell ⟨g, 1, none⟩ v1).setCell ⟨g, 2, none⟩ v2).setCell ⟨g, 3, none⟩ v3).setCell ⟨g, 4, none⟩ v4).setCell ⟨g, 5, none⟩ v5).setCell ⟨g, 6, none⟩ v6).setCell ⟨g, 7, none⟩ v7).setCell ⟨g, 8, none⟩ v8).setCell ⟨g, 9, none⟩ v9).setCell ⟨g, 10, none⟩ v10).setCell ⟨g, 11, none⟩ v11).setCell ⟨g, 12, none⟩ v12).setCell ⟨g, 13, none⟩ v13).setCell ⟨g, 14, none⟩ v14) k t xs :=
  (Blk.far (Blk.far (Blk.far (Blk.far (Blk.far (Blk.far (Blk.far (Blk.far (Blk.far (Blk.far (Blk.far (Blk.far (Blk.far (Blk.far (Blk.far h (p := ⟨g, 0, none⟩) hne _) (p := ⟨g, 1, none⟩) hne _) (p := ⟨g, 2, none⟩) hne _) (p := ⟨g, 3, none⟩) hne _) (p := ⟨g, 4, none⟩) hne _) (p := ⟨g, 5, none⟩) hne _) (p := ⟨g, 6, none⟩) hne _) (p := ⟨g, 7, none⟩) hne _) (p := ⟨g, 8, none⟩) hne _) (p := ⟨g, 9, none⟩) hne _) (p := ⟨g, 10, none⟩) hne _) (p := ⟨g, 11, none⟩) hne _) (p := ⟨g, 12, none⟩) hne _) (p := ⟨g, 13, none⟩) hne _) (p := ⟨g, 14, none⟩) hne _)
theorem kinds_ne {w : World} {k g : Nat} {t t' : TypeId} {xs ys : Array Value} (h : Blk w k t xs) (h' : Blk w g t' ys) (hne : t ≠ t') : k ≠ g := fun e => by
  subst e
  unfold Blk at h h'
  rw [h'] at h
  exact hne (Obj.cells.inj (Option.some.inj h)).2.1.symm
theorem heap15 {w : World} {g k : Nat} {v0 v1 v2 v3 v4 v5 v6 v7 v8 v9 v10 v11 v12 v13 v14 : Value} (hk : k ≠ g) : (((((((((((((((w.setCell ⟨g, 0, none⟩ v0).setCell ⟨g, 1, none⟩ v1).setCell ⟨g, 2, none⟩ v2).setCell ⟨g, 3, none⟩ v3).setCell ⟨g, 4, none⟩ v4).setCell ⟨g, 5, none⟩ v5).setCell ⟨g, 6, none⟩ v6).setCell ⟨g, 7, none⟩ v7).setCell ⟨g, 8, none⟩ v8).setCell ⟨g, 9, none⟩ v9).setCell ⟨g, 10, none⟩ v10).setCell ⟨g, 11, none⟩ v11).setCell ⟨g, 12, none⟩ v12).setCell ⟨g, 13, none⟩ v13).setCell ⟨g, 14, none⟩ v14).heap[k]? = w.heap[k]? :=
  (Below.heap_setCell _ ⟨g, 14, none⟩ v14 k hk).trans <| (Below.heap_setCell _ ⟨g, 13, none⟩ v13 k hk).trans <| (Below.heap_setCell _ ⟨g, 12, none⟩ v12 k hk).trans <| (Below.heap_setCell _ ⟨g, 11, none⟩ v11 k hk).trans <| (Below.heap_setCell _ ⟨g, 10, none⟩ v10 k hk).trans <| (Below.heap_setCell _ ⟨g, 9, none⟩ v9 k hk).trans <| (Below.heap_setCell _ ⟨g, 8, none⟩ v8 k hk).trans <| (Below.heap_setCell _ ⟨g, 7, none⟩ v7 k hk).trans <| (Below.heap_setCell _ ⟨g, 6, none⟩ v6 k hk).trans <| (Below.heap_setCell _ ⟨g, 5, none⟩ v5 k hk).trans <| (Below.heap_setCell _ ⟨g, 4, none⟩ v4 k hk).trans <| (Below.heap_setCell _ ⟨g, 3, none⟩ v3 k hk).trans <| (Below.heap_setCell _ ⟨g, 2, none⟩ v2 k hk).trans <| (Below.heap_setCell _ ⟨g, 1, none⟩ v1 k hk).trans <| (Below.heap_setCell _ ⟨g, 0, none⟩ v0 k hk)
theorem fresh15 {n g : Nat} {w : World} {cs : List Value} {q : Qry} {v0 v1 v2 v3 v4 v5 v6 v7 v8 v9 v10 v11 v12 v13 v14 : Value} (h : Fresh n w cs q) (hg : g < n) : Fresh n (((((((((((((((w.setCell ⟨g, 0, none⟩ v0).setCell ⟨g, 1, none⟩ v1).setCell ⟨g, 2, none⟩ v2).setCell ⟨g, 3, none⟩ v3).setCell ⟨g, 4, none⟩ v4).setCell ⟨g, 5, none⟩ v5).setCell ⟨g, 6, none⟩ v6).setCell ⟨g, 7, none⟩ v7).setCell ⟨g, 8, none⟩ v8).setCell ⟨g, 9, none⟩ v9).setCell ⟨g, 10, none⟩ v10).setCell ⟨g, 11, none⟩ v11).setCell ⟨g, 12, none⟩ v12).setCell ⟨g, 13, none⟩ v13).setCell ⟨g, 14, none⟩ v14) cs q :=
  h.keep (by simp) fun k hk _ => heap15 (by omega)
def hasQ (at_ : Int) : Qry := .mk (bareH 3 at_ ⟨#[]⟩) []
set_option maxHeartbeats 1000000 in
theorem has_any (fn T nm : ByteArray) (n : Int) (R : NRest) (kd at_ : Int) (a b c : Bool) (w : World) (hat : fitI at_) :
    Calls Tryz.prog 93 #[.agg (nodeV 7 fn T n R), .agg #[.string nm, .int .i64 kd, .bool a, .bool b, .bool c], .int .i64 at_] w (IsQ (hasQ at_) true w) := by
  unfold nodeV
  go_enter Tryz.func93, Tryz.ntmps93
  go_wp2_with fail
  have hb : Blk (((w.alloc (.cells (nodeV 7 fn T n R) 39)).alloc (.cells #[.string nm, .int .i64 kd, .bool a, .bool b, .bool c] 67)).alloc (.cells (bareQ 3 at_ ⟨#[]⟩) 29)) (w.heap.size + 1 + 1) 29 (bareQ 3 at_ ⟨#[]⟩) := by
    have := Blk.new ((w.alloc (.cells (nodeV 7 fn T n R) 39)).alloc (.cells #[.string nm, .int .i64 kd, .bool a, .bool b, .bool c] 67)) 29 (bareQ 3 at_ ⟨#[]⟩)
    rwa [World.size_alloc, World.size_alloc] at this
  refine bodyPost_ret (results_blk (p := 6) (u := 7) (ty := 29) (t := 29) (g := w.heap.size + 1 + 1) (cs := bareQ 3 at_ ⟨#[]⟩) ?_ ?_ hb Tryz.underlying29 ?_ ?_) ?_ ?_
  · rfl
  · rfl
  · rfl
  · rw [qInfo]; rfl
  · rfl
  · exact isq_bare (k := 3) (f := at_) (t := ⟨#[]⟩) rfl hat (Nat.zero_le _) rfl (by exact Base.bel)
def wordsQ (f : Fld) (at_ n : Int) (T : ByteArray) : Qry × Bool :=
  if f.kd = 2 then (if T.size = 0 ∨ 64 < T.size then noneQ else termQ at_ T, true)
  else if f.kd = 3 then (match parseN T with | none => noneQ | some v => termQ at_ (termN v), true)
  else match ofT f.kd f.fold f.stop f.stem T with
    | [] => (zeroQ, false)
    | [t] => (termQ at_ t.text, true)
    | t :: u :: r => (phraseQ at_ n (t :: u :: r), true)
theorem words_any (k n at_ : Int) (fn T : ByteArray) (R : NRest) (f : Fld) (w : World) (hat : fitI at_) (hn : fitI n) (hs : T.size ≤ 2097152) (ht : Tab w) (h0 : 3 < w.heap.size) :
    Calls Tryz.prog 88 #[.agg (nodeV k fn T n R), .agg #[.string f.nm, .int .i64 f.kd, .bool f.fold, .bool f.stop, .bool f.stem], .int .i64 at_] w (IsQ (wordsQ f at_ n T).1 (wordsQ f at_ n T).2 w) := by
  obtain ⟨nm, kd, a, b, c⟩ := f
  unfold wordsQ
  simp only
  by_cases h2 : kd = 2
  · subst h2
    rw [if_pos rfl]
    exact words_key k n at_ fn T nm R a b c w hat hs
  by_cases h3 : kd = 3
  · subst h3
    rw [if_neg (by decide), if_pos rfl]
    exact words_num k n at_ fn T nm R a b c w hat hs
  rw [if_neg h2, if_neg h3]
  have few := words_few kd k n at_ fn T nm R a b c w hat hs h2 h3 ht h0
  have many := words_many kd k n at_ fn T nm R a b c w hat hs hn h2 h3 ht h0
  generalize ofT kd a b c T = ts at few many ⊢
  match ts with
  | [] => exact few (by simp)
  | [t] => exact few (by simp)
  | t :: u :: r => exact many (by simp)
end Go.Proofs.YtkcfgcdlnojaeaaGreatDoor.LeafBase

namespace Go.Proofs.YtkcfgcdlnojaeaaGreatDoor.FoldLeaf
set_option maxRecDepth 100000
open Go.RowKit Go.PlainAid Base Query FoldPlain FoldWalk BindBase NodeTerm NodeTree Binder WordPlain WordsOne OpenField FieldPlain WordsAny LeafBase Rel Relb RelbT RelbA

def foldedS (f : Fld) (s : ByteArray) : ByteArray := if f.kd = 1 ∧ f.fold = true then foldS s else s
theorem folded_size (f : Fld) (s : ByteArray) : (foldedS f s).size = s.size := by
  unfold foldedS
  split
  · exact foldS_size s
  · rfl
theorem isq_head {w w' : World} {hd : Head} {b : Bool} {e : Ending} (hk : fitI hd.kind) (hf : fitI hd.field) (hn : fitI hd.n) (ht : hd.text.size ≤ maxLen) (hh : hd = ⟨hd.kind, hd.field, hd.text, [], [], hd.n, 0, bnd0, bnd0, []⟩)
    (he : e = .returned (.tuple #[.agg #[.int .i64 hd.kind, .int .i64 hd.field, .string hd.text, .slice none 0 0, .slice none 0 0, .int .i64 hd.n, .int .u64 0, .bool false, .bool false, .string ⟨#[]⟩, .bool false, .bool false, .string ⟨#[]⟩, .slice none 0 0, .slice none 0 0], .bool b])) (hb : Below w.heap.size w w') : IsQ (.mk hd []) b w e w' := by
  obtain ⟨k, f, t, ts, os, n, wt, lo, hi, oc⟩ := hd
  simp only [Head.mk.injEq] at hh
  obtain ⟨-, -, -, rfl, rfl, -, rfl, rfl, rfl, rfl⟩ := hh
  exact ⟨_, he, Fresh.all fun w'' => QVal.mk ⟨k, f, t, [], [], n, 0, bnd0, bnd0, []⟩ [] none none none none 0 0 0 0 (fun _ => []) ⟨hk, hf, hn, rfl, (fun _ h => by cases h), (fun _ h => by cases h), ht, (fun _ h => by cases h), Nat.zero_le _, Nat.zero_le _, Nat.zero_le _⟩ (Nat.zero_le _)
    (Slc.nil _) (Slc.nil _) (Slc.nil _) (fun h => absurd rfl h) (fun _ _ h => by cases h), hb⟩
set_option maxHeartbeats 1000000 in
theorem folded_any (f : Fld) (s : ByteArray) (w : World) (hs : s.size ≤ 2097152) :
    Calls Tryz.prog 122 #[.agg #[.string f.nm, .int .i64 f.kd, .bool f.fold, .bool f.stop, .bool f.stem], .string s] w fun e w' => e = .returned (.string (foldedS f s)) ∧ Below w.heap.size w w' := by
  obtain ⟨nm, kd, a, b, c⟩ := f
  unfold foldedS
  simp only
  have FA := Lib.hid (fun W => fold_any s W (by unfold maxLen; omega))
  rcases Decidable.em (kd = 1) with h | h
  · subst h
    cases a
    · rw [if_neg (by decide)]
      clear FA
      go_enter Tryz.func122, Tryz.ntmps122
      go_wp2_with fail
      go_ret
      exact ⟨rfl, (by exact Base.bel)⟩
    · rw [if_pos ⟨rfl, rfl⟩]
      go_enter Tryz.func122, Tryz.ntmps122
      go_wp2_with (go_at_call 37; refine (FA.out _).mono ?_; rintro e w2 ⟨rfl, hb2⟩)
      go_ret
      exact ⟨rfl, (by exact Base.bel)⟩
  · rw [if_neg (fun x => h x.1)]
    have d1 : (kd == 1) = false := beq_eq_false_iff_ne.2 h
    clear FA h
    go_enter Tryz.func122, Tryz.ntmps122
    go_wp2_with fail
    go_ret
    exact ⟨rfl, (by exact Base.bel)⟩

def prefixQ (f : Fld) (at_ : Int) (T : ByteArray) : Qry := if f.kd = 3 then noneQ else .mk ⟨6, at_, foldedS f T, [], [], 0, 0, bnd0, bnd0, []⟩ []
set_option maxHeartbeats 2000000 in
theorem prefix_any (at_ kd n : Int) (fn T nm : ByteArray) (R : NRest) (a b c : Bool) (w : World) (hat : fitI at_) (hs : T.size ≤ 2097152) :
    Calls Tryz.prog 89 #[.agg (nodeV 3 fn T n R), .agg #[.string nm, .int .i64 kd, .bool a, .bool b, .bool c], .int .i64 at_] w (IsQ (prefixQ ⟨nm, kd, a, b, c⟩ at_ T) true w) := by
  have FA := Lib.hid (fun W => folded_any ⟨nm, kd, a, b, c⟩ T W hs)
  obtain ⟨q, hq⟩ : ∃ q, q = prefixQ ⟨nm, kd, a, b, c⟩ at_ T := ⟨_, rfl⟩
  rw [← hq]
  unfold prefixQ at hq
  simp only at hq FA
  have HQ := Lib.hid hq
  clear hq
  obtain ⟨X, hX⟩ : ∃ X, X = foldedS ⟨nm, kd, a, b, c⟩ T := ⟨_, rfl⟩
  rw [← hX] at FA HQ
  have hXs : X.size ≤ maxLen := by rw [hX]; have := folded_size ⟨nm, kd, a, b, c⟩ T; unfold maxLen; omega
  clear hX
  obtain ⟨W3, hW3⟩ : ∃ W, W = ((w.alloc (.cells (nodeV 3 fn T n R) 39)).alloc (.cells #[.string nm, .int .i64 kd, .bool a, .bool b, .bool c] 67)).alloc (.cells (bareQ 0 0 ⟨#[]⟩) 29) := ⟨_, rfl⟩
  have K1 : Blk W3 w.heap.size 39 (nodeV 3 fn T n R) := by rw [hW3]; exact ((Blk.new w _ _).alloc _).alloc _
  have K2 : Blk W3 (w.heap.size + 1) 67 #[.string nm, .int .i64 kd, .bool a, .bool b, .bool c] := by
    rw [hW3]
    have := (Blk.new (w.alloc (.cells (nodeV 3 fn T n R) 39)) 67 #[.string nm, .int .i64 kd, .bool a, .bool b, .bool c]).alloc (.cells (bareQ 0 0 ⟨#[]⟩) 29)
    rwa [World.size_alloc] at this
  have K3 : Blk W3 (w.heap.size + 1 + 1) 29 (bareQ 0 0 ⟨#[]⟩) := by
    rw [hW3]
    have := Blk.new ((w.alloc (.cells (nodeV 3 fn T n R) 39)).alloc (.cells #[.string nm, .int .i64 kd, .bool a, .bool b, .bool c] 67)) 29 (bareQ 0 0 ⟨#[]⟩)
    rwa [World.size_alloc, World.size_alloc] at this
  have hbW : Below w.heap.size w W3 := by rw [hW3]; exact Base.bel
  have hsz : w.heap.size + 3 = W3.heap.size := by rw [hW3]; simp
  have HW := Lib.hid hW3
  have HZ := Lib.hid hsz
  unfold nodeV at K1 HW
  unfold bareQ at K3 HW
  clear hW3 hsz
  unfold nodeV
  go_enter Tryz.func89, Tryz.ntmps89
  go_upto_region 1 with fail
  rw [← HW.out]
  obtain ⟨z0, z1, z2, z3, z4, z5, z6, z7, z8, z9, z10, z11, z12, z13, z14⟩ := qrow (K3.below (Below.refl W3.heap.size W3) (by have := HZ.out; omega)); obtain ⟨y0, y1, y2, y3, y4, y5, y6, y7, y8, y9, y10, y11, y12, y13, y14⟩ := qfz (K3.below (Below.refl W3.heap.size W3) (by have := HZ.out; omega)); have n2 := (K1.below (Below.refl W3.heap.size W3) (by have := HZ.out; omega)).cell 2; have n3 := (K1.below (Below.refl W3.heap.size W3) (by have := HZ.out; omega)).cell 3; have f0 := (K2.below (Below.refl W3.heap.size W3) (by have := HZ.out; omega)).cell 0; have f1 := (K2.below (Below.refl W3.heap.size W3) (by have := HZ.out; omega)).cell 1; have f2 := (K2.below (Below.refl W3.heap.size W3) (by have := HZ.out; omega)).cell 2; have f3 := (K2.below (Below.refl W3.heap.size W3) (by have := HZ.out; omega)).cell 3; have f4 := (K2.below (Below.refl W3.heap.size W3) (by have := HZ.out; omega)).cell 4
  rcases Decidable.em (kd = 3) with h3 | h3
  · subst h3
    have HQ2 := Lib.hid (HQ.out.trans (if_pos rfl))
    go_wp2_with (go_at_call 51; refine (none_lit _).mono ?_; rintro e w2 ⟨rfl, hb2⟩; obtain ⟨z0, z1, z2, z3, z4, z5, z6, z7, z8, z9, z10, z11, z12, z13, z14⟩ := qrow (K3.below hb2 (by have := HZ.out; omega)); obtain ⟨y0, y1, y2, y3, y4, y5, y6, y7, y8, y9, y10, y11, y12, y13, y14⟩ := qfz (K3.below hb2 (by have := HZ.out; omega)); have n2 := (K1.below hb2 (by have := HZ.out; omega)).cell 2; have n3 := (K1.below hb2 (by have := HZ.out; omega)).cell 3; have f0 := (K2.below hb2 (by have := HZ.out; omega)).cell 0; have f1 := (K2.below hb2 (by have := HZ.out; omega)).cell 1; have f2 := (K2.below hb2 (by have := HZ.out; omega)).cell 2; have f3 := (K2.below hb2 (by have := HZ.out; omega)).cell 3; have f4 := (K2.below hb2 (by have := HZ.out; omega)).cell 4)
    refine bodyPost_ret (results_blk (p := 6) (u := 7) (ty := 29) (t := 29) (g := w.heap.size + 1 + 1) (cs := bareQ 1 0 ⟨#[]⟩) ?_ ?_ (blk15 (K3.below hb2 (by have := HZ.out; omega))) Tryz.underlying29 ?_ ?_) ?_ ?_
    · rfl
    · rfl
    · rfl
    · rw [qInfo]; rfl
    · rfl
    · rw [HQ2.out]
      exact isq_bare (k := 1) (f := 0) (t := ⟨#[]⟩) rfl rfl (Nat.zero_le _) rfl (below15 (bchain hbW hb2) (Nat.le_succ_of_le (Nat.le_succ _)))
  · have HQ2 := Lib.hid (HQ.out.trans (if_neg h3))
    have d3 : (kd == 3) = false := beq_eq_false_iff_ne.2 h3
    clear h3
    go_wp2_with (go_at_call 122; refine (FA.out _).mono ?_; rintro e w2 ⟨rfl, hb2⟩; obtain ⟨z0, z1, z2, z3, z4, z5, z6, z7, z8, z9, z10, z11, z12, z13, z14⟩ := qrow (K3.below hb2 (by have := HZ.out; omega)); obtain ⟨y0, y1, y2, y3, y4, y5, y6, y7, y8, y9, y10, y11, y12, y13, y14⟩ := qfz (K3.below hb2 (by have := HZ.out; omega)); have n2 := (K1.below hb2 (by have := HZ.out; omega)).cell 2; have n3 := (K1.below hb2 (by have := HZ.out; omega)).cell 3; have f0 := (K2.below hb2 (by have := HZ.out; omega)).cell 0; have f1 := (K2.below hb2 (by have := HZ.out; omega)).cell 1; have f2 := (K2.below hb2 (by have := HZ.out; omega)).cell 2; have f3 := (K2.below hb2 (by have := HZ.out; omega)).cell 3; have f4 := (K2.below hb2 (by have := HZ.out; omega)).cell 4)
    refine bodyPost_ret (results_blk (p := 6) (u := 7) (ty := 29) (t := 29) (g := w.heap.size + 1 + 1) (cs := #[.int .i64 6, .int .i64 at_, .string (X), .slice none 0 0, .slice none 0 0, .int .i64 0, .int .u64 0, .bool false, .bool false, .string ⟨#[]⟩, .bool false, .bool false, .string ⟨#[]⟩, .slice none 0 0, .slice none 0 0]) ?_ ?_ (blk15 (K3.below hb2 (by have := HZ.out; omega))) Tryz.underlying29 ?_ ?_) ?_ ?_
    · rfl
    · rfl
    · rfl
    · rw [qInfo]; rfl
    · rfl
    · rw [HQ2.out]
      exact isq_head (hd := ⟨6, at_, X, [], [], 0, 0, bnd0, bnd0, []⟩) rfl hat rfl hXs rfl rfl (below15 (bchain hbW hb2) (Nat.le_succ_of_le (Nat.le_succ _)))

def fuzzyQ (f : Fld) (at_ : Int) (n : Int) (T : ByteArray) : Qry := if f.kd = 3 then noneQ else .mk ⟨8, at_, foldedS f T, [], [], n, 0, bnd0, bnd0, []⟩ []
set_option maxHeartbeats 2000000 in
theorem fuzzy_any (at_ kd : Int) (n : Int) (fn T nm : ByteArray) (R : NRest) (a b c : Bool) (w : World) (hat : fitI at_) (hn : fitI n) (hs : T.size ≤ 2097152) :
    Calls Tryz.prog 91 #[.agg (nodeV 5 fn T n R), .agg #[.string nm, .int .i64 kd, .bool a, .bool b, .bool c], .int .i64 at_] w (IsQ (fuzzyQ ⟨nm, kd, a, b, c⟩ at_ n T) true w) := by
  have FA := Lib.hid (fun W => folded_any ⟨nm, kd, a, b, c⟩ T W hs)
  obtain ⟨q, hq⟩ : ∃ q, q = fuzzyQ ⟨nm, kd, a, b, c⟩ at_ n T := ⟨_, rfl⟩
  rw [← hq]
  unfold fuzzyQ at hq
  simp only at hq FA
  have HQ := Lib.hid hq
  clear hq
  obtain ⟨X, hX⟩ : ∃ X, X = foldedS ⟨nm, kd, a, b, c⟩ T := ⟨_, rfl⟩
  rw [← hX] at FA HQ
  have hXs : X.size ≤ maxLen := by rw [hX]; have := folded_size ⟨nm, kd, a, b, c⟩ T; unfold maxLen; omega
  clear hX
  obtain ⟨W3, hW3⟩ : ∃ W, W = ((w.alloc (.cells (nodeV 5 fn T n R) 39)).alloc (.cells #[.string nm, .int .i64 kd, .bool a, .bool b, .bool c] 67)).alloc (.cells (bareQ 0 0 ⟨#[]⟩) 29) := ⟨_, rfl⟩
  have K1 : Blk W3 w.heap.size 39 (nodeV 5 fn T n R) := by rw [hW3]; exact ((Blk.new w _ _).alloc _).alloc _
  have K2 : Blk W3 (w.heap.size + 1) 67 #[.string nm, .int .i64 kd, .bool a, .bool b, .bool c] := by
    rw [hW3]
    have := (Blk.new (w.alloc (.cells (nodeV 5 fn T n R) 39)) 67 #[.string nm, .int .i64 kd, .bool a, .bool b, .bool c]).alloc (.cells (bareQ 0 0 ⟨#[]⟩) 29)
    rwa [World.size_alloc] at this
  have K3 : Blk W3 (w.heap.size + 1 + 1) 29 (bareQ 0 0 ⟨#[]⟩) := by
    rw [hW3]
    have := Blk.new ((w.alloc (.cells (nodeV 5 fn T n R) 39)).alloc (.cells #[.string nm, .int .i64 kd, .bool a, .bool b, .bool c] 67)) 29 (bareQ 0 0 ⟨#[]⟩)
    rwa [World.size_alloc, World.size_alloc] at this
  have hbW : Below w.heap.size w W3 := by rw [hW3]; exact Base.bel
  have hsz : w.heap.size + 3 = W3.heap.size := by rw [hW3]; simp
  have HW := Lib.hid hW3
  have HZ := Lib.hid hsz
  unfold nodeV at K1 HW
  unfold bareQ at K3 HW
  clear hW3 hsz
  unfold nodeV
  go_enter Tryz.func91, Tryz.ntmps91
  go_upto_region 1 with fail
  rw [← HW.out]
  obtain ⟨z0, z1, z2, z3, z4, z5, z6, z7, z8, z9, z10, z11, z12, z13, z14⟩ := qrow (K3.below (Below.refl W3.heap.size W3) (by have := HZ.out; omega)); obtain ⟨y0, y1, y2, y3, y4, y5, y6, y7, y8, y9, y10, y11, y12, y13, y14⟩ := qfz (K3.below (Below.refl W3.heap.size W3) (by have := HZ.out; omega)); have n2 := (K1.below (Below.refl W3.heap.size W3) (by have := HZ.out; omega)).cell 2; have n3 := (K1.below (Below.refl W3.heap.size W3) (by have := HZ.out; omega)).cell 3; have f0 := (K2.below (Below.refl W3.heap.size W3) (by have := HZ.out; omega)).cell 0; have f1 := (K2.below (Below.refl W3.heap.size W3) (by have := HZ.out; omega)).cell 1; have f2 := (K2.below (Below.refl W3.heap.size W3) (by have := HZ.out; omega)).cell 2; have f3 := (K2.below (Below.refl W3.heap.size W3) (by have := HZ.out; omega)).cell 3; have f4 := (K2.below (Below.refl W3.heap.size W3) (by have := HZ.out; omega)).cell 4
  rcases Decidable.em (kd = 3) with h3 | h3
  · subst h3
    have HQ2 := Lib.hid (HQ.out.trans (if_pos rfl))
    go_wp2_with (go_at_call 51; refine (none_lit _).mono ?_; rintro e w2 ⟨rfl, hb2⟩; obtain ⟨z0, z1, z2, z3, z4, z5, z6, z7, z8, z9, z10, z11, z12, z13, z14⟩ := qrow (K3.below hb2 (by have := HZ.out; omega)); obtain ⟨y0, y1, y2, y3, y4, y5, y6, y7, y8, y9, y10, y11, y12, y13, y14⟩ := qfz (K3.below hb2 (by have := HZ.out; omega)); have n2 := (K1.below hb2 (by have := HZ.out; omega)).cell 2; have n3 := (K1.below hb2 (by have := HZ.out; omega)).cell 3; have f0 := (K2.below hb2 (by have := HZ.out; omega)).cell 0; have f1 := (K2.below hb2 (by have := HZ.out; omega)).cell 1; have f2 := (K2.below hb2 (by have := HZ.out; omega)).cell 2; have f3 := (K2.below hb2 (by have := HZ.out; omega)).cell 3; have f4 := (K2.below hb2 (by have := HZ.out; omega)).cell 4)
    refine bodyPost_ret (results_blk (p := 6) (u := 7) (ty := 29) (t := 29) (g := w.heap.size + 1 + 1) (cs := bareQ 1 0 ⟨#[]⟩) ?_ ?_ (blk15 (K3.below hb2 (by have := HZ.out; omega))) Tryz.underlying29 ?_ ?_) ?_ ?_
    · rfl
    · rfl
    · rfl
    · rw [qInfo]; rfl
    · rfl
    · rw [HQ2.out]
      exact isq_bare (k := 1) (f := 0) (t := ⟨#[]⟩) rfl rfl (Nat.zero_le _) rfl (below15 (bchain hbW hb2) (Nat.le_succ_of_le (Nat.le_succ _)))
  · have HQ2 := Lib.hid (HQ.out.trans (if_neg h3))
    have d3 : (kd == 3) = false := beq_eq_false_iff_ne.2 h3
    clear h3
    go_upto_region 3 with fail
    clear z0 y0 z1 y1 z2 y2 z3 y3 z4 y4 z5 y5 z6 y6 z7 y7 z8 y8 z9 y9 z10 y10 z11 y11 z12 y12 z13 y13 z14 y14 n2 n3 f0 f1 f2 f3 f4
    refine RelbA.wp_region_relba 8 (fun wx => Below W3.heap.size W3 wx) (fun wa wb => Below wa.heap.size wa wb) (by kernel_rfl) (by kernel_rfl) (by kernel_rfl) (by simp) (bdrew (Below.refl _ _)) ?_
    simp only [List.take_succ_cons, List.take_zero, List.drop_succ_cons, List.drop_zero]
    apply Relb.relb_one [] [] (by kernel_rfl) (by kernel_rfl) (by kernel_rfl)
    case hs =>
      intro vv wx hx hf
      clear hf
      try simp only [Relb.putD, Act.put, Base.s1, Base.s2, Base.s3]
      intro KK hK
      go_simp
      exact hK _ _ hx (Below.refl _ _) rfl
    apply Relb.relb_one [] [] (by kernel_rfl) (by kernel_rfl) (by kernel_rfl)
    case hs =>
      intro vv wx hx hf
      clear hf
      have n2 := (show wx.cell? ⟨w.heap.size, 2, none⟩ = some (.string T) from (K1.below hx K1.lt).cell 2)
      have n3 := (show wx.cell? ⟨w.heap.size, 3, none⟩ = some (.int .i64 n) from (K1.below hx K1.lt).cell 3)
      have f0 := (show wx.cell? ⟨w.heap.size + 1, 0, none⟩ = some (.string nm) from (K2.below hx K2.lt).cell 0)
      have f1 := (show wx.cell? ⟨w.heap.size + 1, 1, none⟩ = some (.int .i64 kd) from (K2.below hx K2.lt).cell 1)
      have f2 := (show wx.cell? ⟨w.heap.size + 1, 2, none⟩ = some (.bool a) from (K2.below hx K2.lt).cell 2)
      have f3 := (show wx.cell? ⟨w.heap.size + 1, 3, none⟩ = some (.bool b) from (K2.below hx K2.lt).cell 3)
      have f4 := (show wx.cell? ⟨w.heap.size + 1, 4, none⟩ = some (.bool c) from (K2.below hx K2.lt).cell 4)
      try simp only [Relb.putD, Act.put, Base.s1, Base.s2, Base.s3]
      intro KK hK
      go_simp
      exact hK _ _ hx (Below.refl _ _) rfl
    apply Relb.relb_one [] [] (by kernel_rfl) (by kernel_rfl) (by kernel_rfl)
    case hs =>
      intro vv wx hx hf
      clear hf
      try simp only [Relb.putD, Act.put, Base.s1, Base.s2, Base.s3]
      intro KK hK
      go_simp
      exact hK _ _ hx (Below.refl _ _) rfl
    apply Relb.relb_one [(2, 14)] [2] (by kernel_rfl) (by kernel_rfl) (by kernel_rfl)
    case hs =>
      intro vv wx hx hf
      have e14 : vv 2 = _ := hf 2 (by simp)
      clear hf
      have n2 := (show wx.cell? ⟨w.heap.size, 2, none⟩ = some (.string T) from (K1.below hx K1.lt).cell 2)
      have n3 := (show wx.cell? ⟨w.heap.size, 3, none⟩ = some (.int .i64 n) from (K1.below hx K1.lt).cell 3)
      have f0 := (show wx.cell? ⟨w.heap.size + 1, 0, none⟩ = some (.string nm) from (K2.below hx K2.lt).cell 0)
      have f1 := (show wx.cell? ⟨w.heap.size + 1, 1, none⟩ = some (.int .i64 kd) from (K2.below hx K2.lt).cell 1)
      have f2 := (show wx.cell? ⟨w.heap.size + 1, 2, none⟩ = some (.bool a) from (K2.below hx K2.lt).cell 2)
      have f3 := (show wx.cell? ⟨w.heap.size + 1, 3, none⟩ = some (.bool b) from (K2.below hx K2.lt).cell 3)
      have f4 := (show wx.cell? ⟨w.heap.size + 1, 4, none⟩ = some (.bool c) from (K2.below hx K2.lt).cell 4)
      try simp only [Relb.putD, e14, Act.put, Base.s1, Base.s2, Base.s3]
      intro KK hK
      go_simp
      exact hK _ _ hx (Below.refl _ _) rfl
    apply Relb.relb_one [(1, 13), (3, 15)] [1, 3] (by kernel_rfl) (by kernel_rfl) (by kernel_rfl)
    case hs =>
      intro vv wx hx hf
      have e13 : vv 1 = _ := hf 1 (by simp)
      have e15 : vv 3 = _ := hf 3 (by simp)
      clear hf
      have n2 := (show wx.cell? ⟨w.heap.size, 2, none⟩ = some (.string T) from (K1.below hx K1.lt).cell 2)
      have n3 := (show wx.cell? ⟨w.heap.size, 3, none⟩ = some (.int .i64 n) from (K1.below hx K1.lt).cell 3)
      have f0 := (show wx.cell? ⟨w.heap.size + 1, 0, none⟩ = some (.string nm) from (K2.below hx K2.lt).cell 0)
      have f1 := (show wx.cell? ⟨w.heap.size + 1, 1, none⟩ = some (.int .i64 kd) from (K2.below hx K2.lt).cell 1)
      have f2 := (show wx.cell? ⟨w.heap.size + 1, 2, none⟩ = some (.bool a) from (K2.below hx K2.lt).cell 2)
      have f3 := (show wx.cell? ⟨w.heap.size + 1, 3, none⟩ = some (.bool b) from (K2.below hx K2.lt).cell 3)
      have f4 := (show wx.cell? ⟨w.heap.size + 1, 4, none⟩ = some (.bool c) from (K2.below hx K2.lt).cell 4)
      try simp only [Relb.putD, e13, e15, Act.put, Base.s1, Base.s2, Base.s3]
      intro KK hK
      go_simp
      go_at_call 122
      refine (FA.out wx).mono ?_
      rintro e wy ⟨rfl, hby⟩
      exact hK (.string X) wy (bchain hx hby) hby rfl
    apply Relb.relb_one [] [] (by kernel_rfl) (by kernel_rfl) (by kernel_rfl)
    case hs =>
      intro vv wx hx hf
      clear hf
      try simp only [Relb.putD, Act.put, Base.s1, Base.s2, Base.s3]
      intro KK hK
      go_simp
      exact hK _ _ hx (Below.refl _ _) rfl
    apply Relb.relb_one [(5, 17)] [5] (by kernel_rfl) (by kernel_rfl) (by kernel_rfl)
    case hs =>
      intro vv wx hx hf
      have e17 : vv 5 = _ := hf 5 (by simp)
      clear hf
      have n2 := (show wx.cell? ⟨w.heap.size, 2, none⟩ = some (.string T) from (K1.below hx K1.lt).cell 2)
      have n3 := (show wx.cell? ⟨w.heap.size, 3, none⟩ = some (.int .i64 n) from (K1.below hx K1.lt).cell 3)
      have f0 := (show wx.cell? ⟨w.heap.size + 1, 0, none⟩ = some (.string nm) from (K2.below hx K2.lt).cell 0)
      have f1 := (show wx.cell? ⟨w.heap.size + 1, 1, none⟩ = some (.int .i64 kd) from (K2.below hx K2.lt).cell 1)
      have f2 := (show wx.cell? ⟨w.heap.size + 1, 2, none⟩ = some (.bool a) from (K2.below hx K2.lt).cell 2)
      have f3 := (show wx.cell? ⟨w.heap.size + 1, 3, none⟩ = some (.bool b) from (K2.below hx K2.lt).cell 3)
      have f4 := (show wx.cell? ⟨w.heap.size + 1, 4, none⟩ = some (.bool c) from (K2.below hx K2.lt).cell 4)
      try simp only [Relb.putD, e17, Act.put, Base.s1, Base.s2, Base.s3]
      intro KK hK
      go_simp
      exact hK _ _ hx (Below.refl _ _) rfl
    apply Relb.relb_one [(0, 12), (4, 16), (6, 18)] [0, 4, 6] (by kernel_rfl) (by kernel_rfl) (by kernel_rfl)
    case hs =>
      intro vv wx hx hf
      have e12 : vv 0 = _ := hf 0 (by simp)
      have e16 : vv 4 = _ := hf 4 (by simp)
      have e18 : vv 6 = _ := hf 6 (by simp)
      clear hf
      try simp only [Relb.putD, e12, e16, e18, Act.put, Base.s1, Base.s2, Base.s3]
      intro KK hK
      go_simp
      exact hK _ _ hx (Below.refl _ _) rfl
    refine RelbA.relba_end (N := 2) [(0, 12), (1, 13), (2, 14), (3, 15), (4, 16), (5, 17), (6, 18), (7, 19)] (by kernel_rfl) (by kernel_rfl) ?_
    intro vv wx hx hf
    have e12 : vv 0 = _ := hf 0 (by decide)
    have e13 : vv 1 = _ := hf 1 (by decide)
    have e14 : vv 2 = _ := hf 2 (by decide)
    have e15 : vv 3 = _ := hf 3 (by decide)
    have e16 : vv 4 = _ := hf 4 (by decide)
    have e17 : vv 5 = _ := hf 5 (by decide)
    have e18 : vv 6 = _ := hf 6 (by decide)
    have e19 : vv 7 = _ := hf 7 (by decide)
    clear hf
    simp only [Relb.putD, e12, e13, e14, e15, e16, e17, e18, e19, Act.put, Base.s1, Base.s2, Base.s3]
    clear e12 e13 e14 e15 e16 e17 e18 e19
    obtain ⟨w2, rfl⟩ : ∃ w2 : World, w2 = wx := ⟨_, rfl⟩
    have hb2 : Below W3.heap.size W3 w2 := hx
    have KZ := K3.below hb2 (by have := HZ.out; omega)
    obtain ⟨z0, z1, z2, z3, z4, z5, z6, z7, z8, z9, z10, z11, z12, z13, z14⟩ := qrow KZ
    obtain ⟨y0, y1, y2, y3, y4, y5, y6, y7, y8, y9, y10, y11, y12, y13, y14⟩ := qfz KZ
    refine wpAny_ready (rs := [8]) (by kernel_rfl) (by simp) ?_
    refine AllReady.cons (by rw [List.getElem?_toArray]; rfl) (fun K hK => ?_) AllReady.nil
    go_simp
    refine hK _ _ ?_
    clear hK K
    try simp only [Act.put, Base.s1, Base.s2, Base.s3]
    refine wpAny_ready (rs := [9]) (by kernel_rfl) (by simp) ?_
    refine AllReady.cons (by rw [List.getElem?_toArray]; rfl) (fun K hK => ?_) AllReady.nil
    go_simp
    refine hK _ _ ?_
    clear hK K
    try simp only [Act.put, Base.s1, Base.s2, Base.s3]
    refine wpAny_done (by kernel_rfl) ?_ _
    clear z0 y0 z1 y1 z2 y2 z3 y3 z4 y4 z5 y5 z6 y6 z7 y7 z8 y8 z9 y9 z10 y10 z11 y11 z12 y12 z13 y13 z14 y14
    go_wp2_with fail
    refine bodyPost_ret (results_blk (p := 6) (u := 7) (ty := 29) (t := 29) (g := w.heap.size + 1 + 1) (cs := #[.int .i64 8, .int .i64 at_, .string (X), .slice none 0 0, .slice none 0 0, .int .i64 n, .int .u64 0, .bool false, .bool false, .string ⟨#[]⟩, .bool false, .bool false, .string ⟨#[]⟩, .slice none 0 0, .slice none 0 0]) ?_ ?_ (blk15 (K3.below hb2 (by have := HZ.out; omega))) Tryz.underlying29 ?_ ?_) ?_ ?_
    · rfl
    · rfl
    · rfl
    · rw [qInfo]; rfl
    · rfl
    · rw [HQ2.out]
      exact isq_head (hd := ⟨8, at_, X, [], [], n, 0, bnd0, bnd0, []⟩) rfl hat hn hXs rfl rfl (below15 (bchain hbW hb2) (Nat.le_succ_of_le (Nat.le_succ _)))
end Go.Proofs.YtkcfgcdlnojaeaaGreatDoor.FoldLeaf

namespace Go.Proofs.YtkcfgcdlnojaeaaGreatDoor.KidRows
set_option maxRecDepth 100000
open Go.RowKit Go.PlainAid Base Query BindBase WordPlain OfText WordsAny PhraseBase WordsMany LeafBase

section
variable {P : Program} {base : Nat} {t e : TypeId} {z : Value} {size bytes : Nat}
theorem wpList_append1K {wr : World} {ops : Array Oper} {rest : List Oper} {o : Oper} {a : Act} {Q : Exit → Act → World → Prop} (hgd : o.guard = none) (s x : Operand)
    (ho : o.op = .call { callee := .builtin .append, args := #[s, x], argTypes := #[t, t] })
    (I : Elem P t e z size bytes) {v : Value} {n : Nat} {xs : List Value} (hown : wr.ownsRow base e size v n xs) (hs : a.eval s = v)
    {cs : Array Value} (hx : a.eval x = .slice (some ⟨wr.heap.size, 0, none⟩) 1 1) (hl : cs.size = size) (h1 : cs.toList.all Value.oneCell' = true)
    (hbytes : (n + 1) * bytes ≤ 140737488355328) (h63 : n + 1 ≤ maxLen) (hbase : base ≤ wr.heap.size)
    (h : ∀ g cap w', w'.ownsRow base e size (.slice (some ⟨g, 0, none⟩) (n + 1) cap) (n + 1) (xs ++ cs.toList) → ((v.ownBlock = some g ∧ wr.grownBy w' (some g)) ∨ (wr.heap.size ≤ g ∧ wr.grownBy w' none)) → wpList P ops Q rest (a.put o.dst (.slice (some ⟨g, 0, none⟩) (n + 1) cap)) w') :
    wpList P ops Q (o :: rest) a (wr.alloc (.cells cs e)) := by
  obtain ⟨ht, ⟨i, hi, hz, hsz, hby⟩, hzs, hpos⟩ := I
  refine wpList_plain hgd fun K hK => ?_
  have key := step_append_kept (P := P) (ops := ops) (a := a) (w := wr.alloc (.cells cs e)) (K := K) (Q := Q) (E := False) hgd s x t ho base e i z size bytes ht hi hz hsz hby hzs hpos v n xs hs (hown.alloc _) ⟨wr.heap.size, 0, none⟩ 1 1 cs.toList hx (by simpa using hl)
    (by
      intro j u hu
      rw [Addr.add_lit, World.cell?_alloc_mark, Nat.zero_add]
      simpa using hu)
    (fun u hu => (List.all_eq_true.1 h1) u hu) (by omega) h63 hbytes (by simp; omega)
    (fun g cap w' hown' hat => hK _ _ (h g cap w' hown' (by
      have tr : ∀ {r : Option Nat}, (wr.alloc (.cells cs e)).grownBy w' r → wr.grownBy w' r := fun {r} hg =>
        ⟨hg.os, hg.tape, hg.output, by have := hg.size; simp at this; omega, fun k hk hne => (hg.block k (by simp; omega) hne).trans (Below.heap_alloc wr _ k hk)⟩
      rcases hat with ⟨e1, hg⟩ | ⟨e1, hg⟩
      · exact .inl ⟨e1, tr hg⟩
      · exact .inr ⟨by simp at e1; omega, tr hg⟩)))
  rwa [if_pos (by simp [Region.wanted, hgd])] at key
end

theorem qryEl : Elem Tryz.prog 27 29 (.agg (bareQ 0 0 ByteArray.empty)) 15 192 := .mk_ (by kernel_rfl) (by kernel_rfl) rfl (by decide)

def KFresh (lo : Nat) (w : World) (css : List (List Value)) (qs : List Qry) (v1 v2 : Value) : Prop :=
  ∃ S : Nat → Prop, (∀ k, S k → lo ≤ k ∧ k < w.heap.size ∧ v1.ownBlock ≠ some k ∧ v2.ownBlock ≠ some k ∧ ¬ Blk w k 29 (bareQ 0 0 ⟨#[]⟩)) ∧ ∀ w'' : World, (∀ k, S k → w''.heap[k]? = w.heap[k]?) → ∀ (i : Nat) (q : Qry), qs[i]? = some q → ∃ cs, css[i]? = some cs ∧ QVal w'' w.heap.size cs q
section
variable {lo : Nat} {w w' : World} {css : List (List Value)} {qs : List Qry} {v1 v2 v1' v2' : Value}
theorem KFresh.keep (h : KFresh lo w css qs v1 v2) (hs : w.heap.size ≤ w'.heap.size) (hk : ∀ k, lo ≤ k → k < w.heap.size → v1.ownBlock ≠ some k → v2.ownBlock ≠ some k → w'.heap[k]? = w.heap[k]?)
    (h1 : ∀ k, v1'.ownBlock = some k → v1.ownBlock = some k ∨ w.heap.size ≤ k) (h2 : ∀ k, v2'.ownBlock = some k → v2.ownBlock = some k ∨ w.heap.size ≤ k) : KFresh lo w' css qs v1' v2' := by
  obtain ⟨S, hS, hv⟩ := h
  refine ⟨S, fun k hk' => ?_, fun w'' hw i q hq => ?_⟩
  · obtain ⟨a, b, c, d, nz⟩ := hS k hk'
    refine ⟨a, Nat.lt_of_lt_of_le b hs, fun e => ?_, fun e => ?_, fun hb => nz ((hk k a b c d).symm.trans hb)⟩
    · rcases h1 k e with e | e
      · exact c e
      · omega
    · rcases h2 k e with e | e
      · exact d e
      · omega
  · obtain ⟨cs, e, hc⟩ := hv w'' (fun k hk' => by obtain ⟨a, b, c, d, _⟩ := hS k hk'; exact (hw k hk').trans (hk k a b c d)) i q hq
    exact ⟨cs, e, hc.mono hs⟩
theorem KFresh.below (h : KFresh lo w css qs v1 v2) (hb : Below w.heap.size w w') : KFresh lo w' css qs v1 v2 :=
  h.keep hb.size (fun k _ hk _ _ => hb.block k hk) (fun _ e => .inl e) (fun _ e => .inl e)
theorem KFresh.add {n : Nat} {cs : List Value} {q : Qry} (h : KFresh lo w css qs v1 v2) (hf : Fresh n w cs q) (hlo : lo ≤ n) (h1 : ∀ k, v1.ownBlock = some k → k < n) (h2 : ∀ k, v2.ownBlock = some k → k < n) (hl : css.length = qs.length) : KFresh lo w (css ++ [cs]) (qs ++ [q]) v1 v2 := by
  obtain ⟨S, hS, hv⟩ := h
  obtain ⟨S2, hS2, hv2⟩ := hf
  refine ⟨fun k => S k ∨ S2 k, fun k hk => ?_, fun w'' hw i x hx => ?_⟩
  · rcases hk with hk | hk
    · exact hS k hk
    · obtain ⟨a, b, nz⟩ := hS2 k hk
      exact ⟨by omega, b, fun e => by have := h1 k e; omega, fun e => by have := h2 k e; omega, nz⟩
  · rcases Nat.lt_or_ge i qs.length with hi | hi
    · rw [List.getElem?_append_left hi] at hx
      rw [List.getElem?_append_left (by omega)]
      exact hv w'' (fun k hk => hw k (.inl hk)) i x hx
    · rw [List.getElem?_append_right hi] at hx
      rw [List.getElem?_append_right (by omega), hl]
      have h0 : i - qs.length = 0 := by
        have := (List.getElem?_eq_some_iff.1 hx).1
        simp at this
        omega
      rw [h0] at hx ⊢
      simp only [List.getElem?_cons_zero, Option.some.injEq] at hx ⊢
      subst hx
      exact ⟨cs, rfl, hv2 w'' fun k hk => hw k (.inr hk)⟩
end

def kC (v1 v2 : Value) : Array Value := #[.int .i64 10, .int .i64 0, .string ⟨#[]⟩, .slice none 0 0, .slice none 0 0, .int .i64 0, .int .u64 0, .bool false, .bool false, .string ⟨#[]⟩, .bool false, .bool false, .string ⟨#[]⟩, v1, v2]
structure Kd (wS wr : World) (css : List (List Value)) (qs : List Qry) (os : List Int) (v1 v2 : Value) : Prop where
  bel : Below wS.heap.size wS wr
  lt : wS.heap.size + 1 ≤ wr.heap.size
  blk : Blk wr wS.heap.size 29 (kC v1 v2)
  own1 : wr.ownsRow (wS.heap.size + 1) 3 1 v1 os.length (ints os)
  own2 : wr.ownsRow (wS.heap.size + 1) 29 15 v2 qs.length css.flatten
  len : css.length = qs.length
  each : ∀ cs ∈ css, cs.length = 15
  fr : KFresh (wS.heap.size + 1) wr css qs v1 v2
section
variable {wS wr w5 : World} {css : List (List Value)} {qs : List Qry} {os : List Int} {v1 v2 : Value}
theorem Kd.start (wS : World) : Kd wS (wS.alloc (.cells (kC (.slice none 0 0) (.slice none 0 0)) 29)) [] [] [] (.slice none 0 0) (.slice none 0 0) :=
  ⟨by exact Base.bel, by simp, Blk.new wS _ _, World.ownsRow_nil _ _ _ _, World.ownsRow_nil _ _ _ _, rfl, (fun _ h => by cases h), ⟨fun _ => False, (fun _ h => h.elim), fun _ _ i q h => by simp at h⟩⟩
theorem Kd.below (h : Kd wS wr css qs os v1 v2) (hb : Below wr.heap.size wr w5) : Kd wS w5 css qs os v1 v2 :=
  ⟨h.bel.trans (hb.mono (by have := h.lt; omega)), Nat.le_trans h.lt hb.size, h.blk.below hb h.blk.lt, own_below h.own1 hb, own_below h.own2 hb, h.len, h.each, h.fr.below hb⟩
structure KdK (wS wr : World) (css : List (List Value)) (qs : List Qry) (os : List Int) (v1 v2 v2' : Value) : Prop where
  bel : Below wS.heap.size wS wr
  lt : wS.heap.size + 1 ≤ wr.heap.size
  blk : Blk wr wS.heap.size 29 (kC v1 v2)
  own1 : wr.ownsRow (wS.heap.size + 1) 3 1 v1 os.length (ints os)
  own2 : wr.ownsRow (wS.heap.size + 1) 29 15 v2' qs.length css.flatten
  len : css.length = qs.length
  each : ∀ cs ∈ css, cs.length = 15
  fr : KFresh (wS.heap.size + 1) wr css qs v1 v2'
theorem Kd.kid {n g cap : Nat} {cs : List Value} {q : Qry} (h : Kd wS wr css qs os v1 v2) (hf : Fresh n wr cs q) (hn : wS.heap.size + 1 ≤ n) (h1 : ∀ k, v1.ownBlock = some k → k < n) (h2 : ∀ k, v2.ownBlock = some k → k < n)
    (ho : w5.ownsRow (wS.heap.size + 1) 29 15 (.slice (some ⟨g, 0, none⟩) (qs.length + 1) cap) (qs.length + 1) (css.flatten ++ cs)) (hat : (v2.ownBlock = some g ∧ wr.grownBy w5 (some g)) ∨ (wr.heap.size ≤ g ∧ wr.grownBy w5 none)) :
    KdK wS w5 (css ++ [cs]) (qs ++ [q]) os v1 v2 (.slice (some ⟨g, 0, none⟩) (qs.length + 1) cap) := by
  have hs := h.lt
  have hl : cs.length = 15 := hf.val.len
  have hfr := h.fr.add hf hn h1 h2 h.len
  have hfl : (css ++ [cs]).flatten = css.flatten ++ cs := by simp
  have hlq : (qs ++ [q]).length = qs.length + 1 := by simp
  rcases hat with ⟨e, hg⟩ | ⟨e, hg⟩
  · refine ⟨?_, Nat.le_trans hs hg.size, h.blk.grown hg (fun e' => own_far h.own2 (Nat.lt_succ_self _) (e.trans e'.symm)), h.own1.kept hg (by rw [← e]; exact rows_apart h.own2 h.own1 (by decide)), by rw [hfl, hlq]; exact ho, by simp [h.len], ?_, ?_⟩
    · rw [← e] at hg
      exact below_own h.bel (own_lower h.own2 (Nat.le_succ _)) (by omega) hg
    · intro x hx
      rcases List.mem_append.1 hx with hx | hx
      · exact h.each x hx
      · rw [List.mem_singleton.1 hx]; exact hl
    · exact hfr.keep hg.size (fun k _ hk _ hne => hg.block k hk (by intro e'; exact hne (e.trans e'.symm))) (fun _ e' => .inl e') (fun k e' => .inl (e.trans e'))
  · refine ⟨?_, Nat.le_trans hs hg.size, h.blk.grown hg (by simp), h.own1.kept hg ?_, by rw [hfl, hlq]; exact ho, by simp [h.len], ?_, ?_⟩
    · exact below_own h.bel (World.ownsRow_nil wr wS.heap.size 3 1) (by omega) hg
    · cases e : v1.ownBlock with
      | none => exact .inl rfl
      | some k => exact .inr (by simp)
    · intro x hx
      rcases List.mem_append.1 hx with hx | hx
      · exact h.each x hx
      · rw [List.mem_singleton.1 hx]; exact hl
    · exact hfr.keep hg.size (fun k _ hk _ _ => hg.block k hk (by simp)) (fun _ e' => .inl e') (fun k e' => .inr (by simp only [Value.ownBlock, Option.some.injEq] at e'; omega))
theorem KdK.put {v2' : Value} (h : KdK wS w5 css qs os v1 v2 v2') : Kd wS (w5.setCell ⟨wS.heap.size, 14, none⟩ v2') css qs os v1 v2' := by
  refine ⟨h.bel.setCell (p := ⟨wS.heap.size, 14, none⟩) (Nat.le_refl _) _, by simpa using h.lt, ?_, own_setFar h.own1 (p := ⟨wS.heap.size, 14, none⟩) (own_far h.own1 (Nat.lt_succ_self _)) _, own_setFar h.own2 (p := ⟨wS.heap.size, 14, none⟩) (own_far h.own2 (Nat.lt_succ_self _)) _, h.len, h.each, ?_⟩
  · have := h.blk.set_ 14 v2'
    simpa [kC] using this
  · exact h.fr.keep (by simp) (fun k hk _ _ _ => Below.heap_setCell _ ⟨wS.heap.size, 14, none⟩ _ k (show k ≠ wS.heap.size by omega)) (fun _ e => .inl e) (fun _ e => .inl e)
structure KdO (wS wr : World) (css : List (List Value)) (qs : List Qry) (os : List Int) (v1 v1' v2 : Value) : Prop where
  bel : Below wS.heap.size wS wr
  lt : wS.heap.size + 1 ≤ wr.heap.size
  blk : Blk wr wS.heap.size 29 (kC v1 v2)
  own1 : wr.ownsRow (wS.heap.size + 1) 3 1 v1' os.length (ints os)
  own2 : wr.ownsRow (wS.heap.size + 1) 29 15 v2 qs.length css.flatten
  len : css.length = qs.length
  each : ∀ cs ∈ css, cs.length = 15
  fr : KFresh (wS.heap.size + 1) wr css qs v1' v2
theorem Kd.occ {g cap : Nat} {o : Int} (h : Kd wS wr css qs os v1 v2)
    (ho : w5.ownsRow (wS.heap.size + 1) 3 1 (.slice (some ⟨g, 0, none⟩) (os.length + 1) cap) (os.length + 1) (ints os ++ [.int .i64 o])) (hat : (v1.ownBlock = some g ∧ wr.grownBy w5 (some g)) ∨ (wr.heap.size ≤ g ∧ wr.grownBy w5 none)) :
    KdO wS w5 css qs (os ++ [o]) v1 (.slice (some ⟨g, 0, none⟩) (os.length + 1) cap) v2 := by
  have hs := h.lt
  have hfl : ints (os ++ [o]) = ints os ++ [.int .i64 o] := by simp [ints]
  have hlq : (os ++ [o]).length = os.length + 1 := by simp
  rcases hat with ⟨e, hg⟩ | ⟨e, hg⟩
  · refine ⟨?_, Nat.le_trans hs hg.size, h.blk.grown hg (fun e' => own_far h.own1 (Nat.lt_succ_self _) (e.trans e'.symm)), by rw [hfl, hlq]; exact ho, h.own2.kept hg (by rw [← e]; exact rows_apart h.own1 h.own2 (by decide)), h.len, h.each, ?_⟩
    · rw [← e] at hg
      exact below_own h.bel (own_lower h.own1 (Nat.le_succ _)) (by omega) hg
    · exact h.fr.keep hg.size (fun k _ hk hne _ => hg.block k hk (by intro e'; exact hne (e.trans e'.symm))) (fun k e' => .inl (e.trans e')) (fun _ e' => .inl e')
  · refine ⟨?_, Nat.le_trans hs hg.size, h.blk.grown hg (by simp), by rw [hfl, hlq]; exact ho, h.own2.kept hg ?_, h.len, h.each, ?_⟩
    · exact below_own h.bel (World.ownsRow_nil wr wS.heap.size 3 1) (by omega) hg
    · cases e : v2.ownBlock with
      | none => exact .inl rfl
      | some k => exact .inr (by simp)
    · exact h.fr.keep hg.size (fun k _ hk _ _ => hg.block k hk (by simp)) (fun k e' => .inr (by simp only [Value.ownBlock, Option.some.injEq] at e'; omega)) (fun _ e' => .inl e')
theorem KdO.put {v1' : Value} (h : KdO wS w5 css qs os v1 v1' v2) : Kd wS (w5.setCell ⟨wS.heap.size, 13, none⟩ v1') css qs os v1' v2 := by
  refine ⟨h.bel.setCell (p := ⟨wS.heap.size, 13, none⟩) (Nat.le_refl _) _, by simpa using h.lt, ?_, own_setFar h.own1 (p := ⟨wS.heap.size, 13, none⟩) (own_far h.own1 (Nat.lt_succ_self _)) _, own_setFar h.own2 (p := ⟨wS.heap.size, 13, none⟩) (own_far h.own2 (Nat.lt_succ_self _)) _, h.len, h.each, ?_⟩
  · have := h.blk.set_ 13 v1'
    simpa [kC] using this
  · exact h.fr.keep (by simp) (fun k hk _ _ _ => Below.heap_setCell _ ⟨wS.heap.size, 13, none⟩ _ k (show k ≠ wS.heap.size by omega)) (fun _ e => .inl e) (fun _ e => .inl e)

theorem flat15 : ∀ (css : List (List Value)) (i j : Nat) (cs : List Value), (∀ c ∈ css, c.length = 15) → css[i]? = some cs → j < 15 → css.flatten[i * 15 + j]? = cs[j]?
  | [], _, _, _, _, h, _ => by simp at h
  | x :: r, 0, j, cs, he, h, hj => by
    simp only [List.getElem?_cons_zero, Option.some.injEq] at h
    subst h
    rw [List.flatten_cons, List.getElem?_append_left (by rw [he x (by simp)]; omega), Nat.zero_mul, Nat.zero_add]
  | x :: r, i + 1, j, cs, he, h, hj => by
    simp only [List.getElem?_cons_succ] at h
    rw [List.flatten_cons, List.getElem?_append_right (by rw [he x (by simp)]; omega), he x (by simp), ← flat15 r i j cs (fun c hc => he c (by simp [hc])) h hj]
    congr 1
    omega
theorem Kd.done {hd : Head} {A1 A2 : Option Addr} {c1 c2 n : Nat} (h : Kd wS wr css qs os (.slice A1 os.length c1) (.slice A2 qs.length c2)) (hn : n ≤ wS.heap.size + 1) (hw : Hwf hd) (hq : qs.length ≤ maxLen)
    (e1 : hd.terms = []) (e2 : hd.offs = []) (e3 : hd.occur = os) (hne : qs ≠ []) (hz : ∀ q ∈ qs, q.h.kind ≠ 0) :
    Fresh n wr [.int .i64 hd.kind, .int .i64 hd.field, .string hd.text, .slice none 0 0, .slice none 0 0, .int .i64 hd.n, .int .u64 hd.weight, .bool hd.lo.op, .bool hd.lo.inn, .string hd.lo.text, .bool hd.hi.op, .bool hd.hi.inn, .string hd.hi.text, .slice A1 os.length c1, .slice A2 qs.length c2] (.mk hd qs) := by
  obtain ⟨S, hS, hv⟩ := h.fr
  refine ⟨fun k => S k ∨ (Value.slice A1 os.length c1).ownBlock = some k ∨ (Value.slice A2 qs.length c2).ownBlock = some k, fun k hk => ?_, fun w'' hw'' => ?_⟩
  · rcases hk with hk | hk | hk
    · obtain ⟨a, b, _, _, nz⟩ := hS k hk
      exact ⟨by omega, b, nz⟩
    · exact ⟨Nat.le_trans hn (h.own1.lt k hk).1, (h.own1.lt k hk).2, fun hb => own_ne h.own1 hb (by decide) hk⟩
    · refine ⟨Nat.le_trans hn (h.own2.lt k hk).1, (h.own2.lt k hk).2, fun hb => ?_⟩
      have hq0 : 0 < qs.length := List.length_pos_iff.2 hne
      obtain ⟨q0, hq0'⟩ : ∃ q, qs[0]? = some q := ⟨_, List.getElem?_eq_getElem hq0⟩
      obtain ⟨cs, hcs, hqv⟩ := hv wr (fun _ _ => rfl) 0 q0 hq0'
      have h15 := h.each cs (List.mem_of_getElem? hcs)
      have hf0 : css.flatten[0 * 15 + 0]? = cs[0]? := flat15 css 0 0 cs h.each hcs (by omega)
      have hc0 : cs[0]? = some (.int .i64 q0.h.kind) := by cases hqv; rfl
      have hcell := h.own2.cells (g := k) hk (0 * 15 + 0) (.int .i64 q0.h.kind) (hf0.trans hc0)
      rw [Addr.add_lit] at hcell
      have hb0 : wr.cell? ⟨k, 0 + (0 * 15 + 0), none⟩ = some (.int .i64 0) := hb.cell 0
      rw [hb0] at hcell
      have := hz q0 (List.mem_of_getElem? hq0')
      simp only [Option.some.injEq, Value.int.injEq, true_and] at hcell
      exact this hcell.symm
  · have o1 := own_fresh h.own1 fun k hk => hw'' k (.inr (.inl hk))
    have o2 := own_fresh h.own2 fun k hk => hw'' k (.inr (.inr hk))
    have s1 := slc_mono_own h.own1 o1
    have s2 := slc_mono_own h.own2 o2
    have hk := hv w'' fun k hk => hw'' k (.inl hk)
    have key := QVal.mk (w := w'') (B := wr.heap.size) hd qs none none A1 A2 0 0 c1 c2 (fun i => css.getD i []) hw hq (by rw [e1]; exact Slc.nil _) (by rw [e2]; exact Slc.nil _) (by rw [e3]; exact s1)
      (fun hne => by
        have hc : css.flatten ≠ [] := by
          intro hf
          have hl := h.len
          have hq0 : 0 < qs.length := List.length_pos_iff.2 hne
          obtain ⟨cs, hcs⟩ : ∃ cs, css[0]? = some cs := ⟨_, List.getElem?_eq_getElem (by omega)⟩
          have h15 := h.each cs (List.mem_of_getElem? hcs)
          have hz : css.flatten[0 * 15 + 0]? = cs[0]? := flat15 css 0 0 cs h.each hcs (by omega)
          rw [hf, List.getElem?_eq_getElem (show 0 < cs.length by omega)] at hz
          cases hz
        obtain ⟨g, o, e, hg, hcell⟩ := s2 hc
        refine ⟨g, o, e, hg, fun i hi j u hu => ?_⟩
        obtain ⟨cs, hcs⟩ : ∃ cs, css[i]? = some cs := ⟨_, List.getElem?_eq_getElem (by have := h.len; omega)⟩
        simp only [List.getD_eq_getElem?_getD, hcs, Option.getD_some] at hu
        have hj : j < 15 := by have := (List.getElem?_eq_some_iff.1 hu).1; rw [h.each cs (List.mem_of_getElem? hcs)] at this; exact this
        have := hcell (i * 15 + j) u ((flat15 css i j cs h.each hcs hj).trans hu)
        rw [Nat.add_assoc]
        exact this)
      (fun i k hik => by
        obtain ⟨cs, hcs, hq⟩ := hk i k hik
        simp only [List.getD_eq_getElem?_getD, hcs, Option.getD_some]
        exact hq)
    rw [e1, e2, e3] at key
    exact key
end
end Go.Proofs.YtkcfgcdlnojaeaaGreatDoor.KidRows
