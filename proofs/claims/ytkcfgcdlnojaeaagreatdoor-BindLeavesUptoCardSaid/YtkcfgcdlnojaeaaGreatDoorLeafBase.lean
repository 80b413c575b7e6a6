/-
  What the walks of bind over a leaf share; a field's own leaf.
-/
import Derived.Test.YtkcfgcdlnojaeaaGreatDoorWordsMany
import Derived.Test.YtkcfgcdlnojaeaaGreatDoorSchFind
import Derived.Test.YtkcfgcdlnojaeaaGreatDoorDBind
set_option linter.unusedVariables false
set_option linter.unusedSimpArgs false
namespace Go.Proofs.YtkcfgcdlnojaeaaGreatDoor.LeafBase
set_option maxRecDepth 100000
open Go.RowKit Go.PlainAid Base Query OpenField FieldPlain BindBase NodeTerm NodeLeaf Binder WordPlain WordsWalk StopsWalk OfText OfAny WordsOne NumPlain WordsAny WordsMany SchFind

theorem far15 {w : World} {g k : Nat} {t : TypeId} {xs : Array Value} {v0 v1 v2 v3 v4 v5 v6 v7 v8 v9 v10 v11 v12 v13 v14 : Value} (h : Blk w k t xs) (hne : k ≠ g) : Blk (((((((((((((((w.setCell ⟨g, 0, none⟩ v0).setCell ⟨g, 1, none⟩ v1).setCell ⟨g, 2, none⟩ v2).setCell ⟨g, 3, none⟩ v3).setCell ⟨g, 4, none⟩ v4).setCell ⟨g, 5, none⟩ v5).setCell ⟨g, 6, none⟩ v6).setCell ⟨g, 7, none⟩ v7).setCell ⟨g, 8, none⟩ v8).setCell ⟨g, 9, none⟩ v9).setCell ⟨g, 10, none⟩ v10).setCell ⟨g, 11, none⟩ v11).setCell ⟨g, 12, none⟩ v12).setCell ⟨g, 13, none⟩ v13).setCell ⟨g, 14, none⟩ v14) k t xs :=
  (Blk.far (Blk.far (Blk.far (Blk.far (Blk.far (Blk.far (Blk.far (Blk.far (Blk.far (Blk.far (Blk.far (Blk.far (Blk.far (Blk.far (Blk.far h (p := ⟨g, 0, none⟩) hne _) (p := ⟨g, 1, none⟩) hne _) (p := ⟨g, 2, none⟩) hne _) (p := ⟨g, 3, none⟩) hne _) (p := ⟨g, 4, none⟩) hne _) (p := ⟨g, 5, none⟩) hne _) (p := ⟨g, 6, none⟩) hne _) (p := ⟨g, 7, none⟩) hne _) (p := ⟨g, 8, none⟩) hne _) (p := ⟨g, 9, none⟩) hne _) (p := ⟨g, 10, none⟩) hne _) (p := ⟨g, 11, none⟩) hne _) (p := ⟨g, 12, none⟩) hne _) (p := ⟨g, 13, none⟩) hne _) (p := ⟨g, 14, none⟩) hne _)
theorem kinds_ne {w : World} {k g : Nat} {t t' : TypeId} {xs ys : Array Value} (h : Blk w k t xs) (h' : Blk w g t' ys) (hne : t ≠ t') : k ≠ g := fun e => by
  subst e
  unfold Blk at h h'
  rw [h'] at h
  exact hne (Obj.cells.inj (Option.some.inj h)).2.1.symm
theorem fresh15 {g : Nat} {w : World} {cs : List Value} {q : Qry} {row : Array Value} {v0 v1 v2 v3 v4 v5 v6 v7 v8 v9 v10 v11 v12 v13 v14 : Value} (h : Fresh w cs q) (K : Blk w g 29 row) : Fresh (((((((((((((((w.setCell ⟨g, 0, none⟩ v0).setCell ⟨g, 1, none⟩ v1).setCell ⟨g, 2, none⟩ v2).setCell ⟨g, 3, none⟩ v3).setCell ⟨g, 4, none⟩ v4).setCell ⟨g, 5, none⟩ v5).setCell ⟨g, 6, none⟩ v6).setCell ⟨g, 7, none⟩ v7).setCell ⟨g, 8, none⟩ v8).setCell ⟨g, 9, none⟩ v9).setCell ⟨g, 10, none⟩ v10).setCell ⟨g, 11, none⟩ v11).setCell ⟨g, 12, none⟩ v12).setCell ⟨g, 13, none⟩ v13).setCell ⟨g, 14, none⟩ v14) cs q := fun w'' hk => by
  have hs : (((((((((((((((w.setCell ⟨g, 0, none⟩ v0).setCell ⟨g, 1, none⟩ v1).setCell ⟨g, 2, none⟩ v2).setCell ⟨g, 3, none⟩ v3).setCell ⟨g, 4, none⟩ v4).setCell ⟨g, 5, none⟩ v5).setCell ⟨g, 6, none⟩ v6).setCell ⟨g, 7, none⟩ v7).setCell ⟨g, 8, none⟩ v8).setCell ⟨g, 9, none⟩ v9).setCell ⟨g, 10, none⟩ v10).setCell ⟨g, 11, none⟩ v11).setCell ⟨g, 12, none⟩ v12).setCell ⟨g, 13, none⟩ v13).setCell ⟨g, 14, none⟩ v14).heap.size = w.heap.size := by simp
  rw [hs]
  exact h w'' fun k t xs hne hb => hk k t xs hne (far15 hb (kinds_ne hb K hne))
theorem Fresh.below {w w' : World} {cs : List Value} {q : Qry} (h : Fresh w cs q) (hb : Below w.heap.size w w') : Fresh w' cs q := fun w'' hk => (h w'' fun k t xs hne hB => hk k t xs hne (hB.below hb hB.lt)).mono hb.size
def hasQ (at_ : Int) : Qry := .mk (bareH 3 at_ ⟨#[]⟩) []
set_option maxHeartbeats 1000000 in
theorem has_any (fn nm : ByteArray) (kd at_ : Int) (a b c : Bool) (w : World) (hat : fitI at_) :
    Calls Tryz.prog 93 #[.agg (nodeK 7 fn ⟨#[]⟩ 0), .agg #[.string nm, .int .i64 kd, .bool a, .bool b, .bool c], .int .i64 at_] w (IsQ (hasQ at_) true w) := by
  unfold nodeK
  go_enter Tryz.func93, Tryz.ntmps93
  go_wp2_with fail
  have hb : Blk (((w.alloc (.cells (nodeK 7 fn ⟨#[]⟩ 0) 39)).alloc (.cells #[.string nm, .int .i64 kd, .bool a, .bool b, .bool c] 67)).alloc (.cells (bareQ 3 at_ ⟨#[]⟩) 29)) (w.heap.size + 1 + 1) 29 (bareQ 3 at_ ⟨#[]⟩) := by
    have := Blk.new ((w.alloc (.cells (nodeK 7 fn ⟨#[]⟩ 0) 39)).alloc (.cells #[.string nm, .int .i64 kd, .bool a, .bool b, .bool c] 67)) 29 (bareQ 3 at_ ⟨#[]⟩)
    rwa [World.size_alloc, World.size_alloc] at this
  refine bodyPost_ret (results_blk (p := 6) (u := 7) (ty := 29) (t := 29) (g := w.heap.size + 1 + 1) (cs := bareQ 3 at_ ⟨#[]⟩) ?_ ?_ hb Tryz.underlying29 ?_ ?_) ?_ ?_
  · rfl
  · rfl
  · rfl
  · rw [qInfo]; rfl
  · rfl
  · exact isq_bare (k := 3) (f := at_) (t := ⟨#[]⟩) rfl hat (Nat.zero_le _) rfl (by (repeat (first | exact Below.refl _ _ | assumption | refine balloc ?_ _ | refine bdrew ?_ | refine bdrewN ?_ _ | refine bchain ?_ (by assumption))))
/-- What words makes of a text over a field, and whether it stays. -/
def wordsQ (f : Fld) (at_ n : Int) (T : ByteArray) : Qry × Bool :=
  if f.kd = 2 then (if T.size = 0 ∨ 64 < T.size then noneQ else termQ at_ T, true)
  else if f.kd = 3 then (match parseN T with | none => noneQ | some v => termQ at_ (termN v), true)
  else match ofT f.kd f.fold f.stop f.stem T with
    | [] => (zeroQ, false)
    | [t] => (termQ at_ t.text, true)
    | t :: u :: r => (phraseQ at_ n (t :: u :: r), true)
theorem words_any (k n at_ : Int) (fn T : ByteArray) (f : Fld) (w : World) (hat : fitI at_) (hn : fitI n) (hs : T.size ≤ 1048576) (ht : Tab w) (h0 : 3 < w.heap.size) :
    Calls Tryz.prog 88 #[.agg (nodeK k fn T n), .agg #[.string f.nm, .int .i64 f.kd, .bool f.fold, .bool f.stop, .bool f.stem], .int .i64 at_] w (IsQ (wordsQ f at_ n T).1 (wordsQ f at_ n T).2 w) := by
  obtain ⟨nm, kd, a, b, c⟩ := f
  unfold wordsQ
  simp only
  by_cases h2 : kd = 2
  · subst h2
    rw [if_pos rfl]
    exact words_key k n at_ fn T nm a b c w hat hs
  by_cases h3 : kd = 3
  · subst h3
    rw [if_neg (by decide), if_pos rfl]
    exact words_num k n at_ fn T nm a b c w hat hs
  rw [if_neg h2, if_neg h3]
  have few := words_few kd k n at_ fn T nm a b c w hat hs h2 h3 ht h0
  have many := words_many kd k n at_ fn T nm a b c w hat hs hn h2 h3 ht h0
  generalize ofT kd a b c T = ts at few many ⊢
  match ts with
  | [] => exact few (by simp)
  | [t] => exact few (by simp)
  | t :: u :: r => exact many (by simp)
end Go.Proofs.YtkcfgcdlnojaeaaGreatDoor.LeafBase
