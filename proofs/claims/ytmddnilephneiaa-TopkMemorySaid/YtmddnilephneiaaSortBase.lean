/-
  Sorting a row of hits in place by sort.Slice, where 'less' may make memory: what the sort's functions keep; small laws.
-/
import Derived.Test.YtmddnilephneiaaOfferWalk
import Derived.Shelf.SlSortFuncK.WholeK
import Derived.Ground.GgsProg
namespace Go.Proofs.Ytmddnilephneiaa.SortBase
open Go.Shelf Go.RowKit Go.Lib Go.Sort Go.PlainAid HitPlain Base HitBase

/-- Block blk keeps its type, its marks and its size. -/
def Shape (w0 W : World) (blk : Nat) : Prop := ∀ cur t fr, w0.heap[blk]? = some (.cells cur t fr) → ∃ cur', W.heap[blk]? = some (.cells cur' t fr) ∧ cur'.size = cur.size
theorem Shape.refl (w : World) (blk : Nat) : Shape w w blk := fun cur _ _ h => ⟨cur, h, rfl⟩
theorem Shape.same {w0 W W' : World} {blk : Nat} (h : Shape w0 W blk) (hb : W'.heap[blk]? = W.heap[blk]?) : Shape w0 W' blk := fun cur t fr e => by
  obtain ⟨c, h1, h2⟩ := h cur t fr e
  exact ⟨c, hb.trans h1, h2⟩
theorem Shape.map {w0 W : World} {blk : Nat} (h : Shape w0 W blk) (f : Array Value → Array Value) (hf : ∀ c, (f c).size = c.size) : Shape w0 (mapBlock W blk f) blk := fun cur t fr e => by
  obtain ⟨c, h1, h2⟩ := h cur t fr e
  exact ⟨f c, by simp [mapBlock, Array.getElem?_modify, h1, onCells], (hf c).trans h2⟩
theorem Shape.setCell {w0 W : World} {blk : Nat} (h : Shape w0 W blk) (o : Nat) (v : Value) : Shape w0 (W.setCell ⟨blk, o, none⟩ v) blk := by
  rw [setCell_eq]
  exact h.map _ (fun c => by simp)
theorem Shape.setCells {w0 : World} {blk : Nat} : ∀ (vs : List Value) (s : Nat) (W : World), Shape w0 W blk → Shape w0 (W.setCells blk s vs) blk := by
  intro vs
  induction vs with
  | nil => intro s W h; exact h
  | cons v vs ih => intro s W h; exact ih (s + 1) _ (h.setCell s v)

/-- Block blk holds the hits dk from place off on; all else is as in w0. -/
structure Rw (w0 : World) (blk off n : Nat) (W : World) (dk : Array Hit) : Prop where
  holds : HoldsK hitC 2 W blk off dk
  size : dk.size = n
  lt : blk < w0.heap.size
  foot : Foot w0 W (fun g => g ≠ blk)
  shape : Shape w0 W blk

section
variable {w0 W W' : World} {blk off n : Nat} {dk : Array Hit}
theorem Rw.ltW (h : Rw w0 blk off n W dk) : blk < W.heap.size := Nat.lt_of_lt_of_le h.lt h.foot.size
theorem holdsK_block {W W' : World} (h : HoldsK hitC 2 W blk off dk) (hb : W'.heap[blk]? = W.heap[blk]?) : HoldsK hitC 2 W' blk off dk := by
  intro j hj
  obtain ⟨a, b⟩ := h j hj
  exact ⟨(World.cell?_of_block (a := ⟨blk, off + j, none⟩) hb).trans a, (World.frozen?_of_block (a := ⟨blk, off + j, none⟩) hb).trans b⟩
theorem Rw.below (h : Rw w0 blk off n W dk) (hb : Below W.heap.size W W') : Rw w0 blk off n W' dk :=
  ⟨holdsK_block h.holds (hb.block _ h.ltW), h.size, h.lt, h.foot.trans (Foot.ofBelow hb _), h.shape.same (hb.block _ h.ltW)⟩
theorem Rw.alloc (h : Rw w0 blk off n W dk) (o : Obj) : Rw w0 blk off n (W.alloc o) dk := h.below ((Below.refl _ _).alloc (Nat.le_refl _) _)
theorem Rw.start (h : HoldsK hitC 2 W blk off dk) (hb : blk < W.heap.size) : Rw W blk off dk.size W dk := ⟨h, rfl, hb, Foot.refl _ _, Shape.refl _ _⟩
theorem hitC_len (x : Hit) : (hitC x).length = 2 := rfl
theorem foot_setCells (W : World) (blk : Nat) : ∀ (vs : List Value) (s : Nat), Foot W (W.setCells blk s vs) (fun g => g ≠ blk) := by
  intro vs
  induction vs generalizing W with
  | nil => intro s; exact Foot.refl _ _
  | cons v vs ih => intro s; exact ((Foot.refl W _).set_ (p := ⟨blk, s, none⟩) (fun _ h => h rfl) v).trans (ih _ _)
/-- The world behind a swap. -/
def swapW (W : World) (blk off : Nat) (dk : Array Hit) (i j : Nat) : World := (W.setCells blk (off + i * 2) (hitC dk[j]!)).setCells blk (off + j * 2) (hitC dk[i]!)
theorem foot_swapW (W : World) (dk : Array Hit) (i j : Nat) : Foot W (swapW W blk off dk i j) (fun g => g ≠ blk) := (foot_setCells _ _ _ _).trans (foot_setCells _ _ _ _)
theorem Rw.swap (h : Rw w0 blk off n W dk) (i j : Nat) (hi : i < n) (hj : j < n) : Rw w0 blk off n (swapW W blk off dk i j) (swp dk i j) := by
  have hs := h.size
  refine ⟨?_, by rw [size_swp]; exact hs, h.lt, h.foot.trans (foot_swapW _ _ _ _), Shape.setCells _ _ _ (Shape.setCells _ _ _ h.shape)⟩
  have e : swapW W blk off dk i j = putRowK hitC 2 W blk off (swp dk i j) := by
    have := putRowK_swp hitC 2 hitC_len W blk off dk i j (by omega) (by omega)
    rw [putRowK_self hitC 2 W blk off dk h.holds] at this
    exact this
  rw [e]
  exact holdsK_putRowK hitC 2 W blk off dk (swp dk i j) h.holds (size_swp _ _ _)
end

/-- What the sort asks of 'less' (function g, bound to lb) and of 'swap' (sf, sb). -/
structure Ls (w0 : World) (blk off n g : Nat) (lb : Array Value) (sf : Nat) (sb : Array Value) (lt : Hit → Hit → Bool) : Prop where
  enter : ∀ args w, (callFunc g args).run Try.prog w = .ok (.enter g args) w
  less : ∀ W dk, Rw w0 blk off n W dk → ∀ i j : Nat, i < n → j < n → Calls Try.prog g (#[.int .i64 i, .int .i64 j] ++ lb) W fun e w' => e = .returned (.bool (lt dk[i]! dk[j]!)) ∧ Below W.heap.size W w'
  swap : SwapSwapsK Try.prog sf sb hitC 2 blk off n
  big : n < 4611686018427387904

section
variable {w0 W : World} {blk off n g sf : Nat} {lb sb : Array Value} {lt : Hit → Hit → Bool} {dk : Array Hit}
theorem Ls.at_ (h : Ls w0 blk off n g lb sf sb lt) (hr : Rw w0 blk off n W dk) {i j : Nat} {x y : Int} (hi : i < n) (hj : j < n) (hx : (i : Int) = x) (hy : (j : Int) = y) {b : Bool} (hb : lt dk[i]! dk[j]! = b) :
    Calls Try.prog g (#[.int .i64 x, .int .i64 y] ++ lb) W fun e w' => e = .returned (.bool b) ∧ Below W.heap.size W w' := by
  subst hx hy hb; exact h.less W dk hr i j hi hj
theorem Ls.sw (h : Ls w0 blk off n g lb sf sb lt) (hr : Rw w0 blk off n W dk) {i j : Nat} {x y : Int} (hi : i < n) (hj : j < n) (hx : (i : Int) = x) (hy : (j : Int) = y) :
    (callFunc sf (#[.int .i64 x, .int .i64 y] ++ sb)).run Try.prog W = .ok (.value (.tuple #[])) (swapW W blk off dk i j) := by
  subst hx hy; exact h.swap W dk hr.holds hr.size i j hi hj
end

/-- The pair of functions as it is handed on. -/
def dataV (g : Nat) (lb : Array Value) (sf : Nat) (sb : Array Value) : Value := .agg #[.func (.func g) #[] lb, .func (.func sf) #[] sb]
/-- The same in a block of its own. -/
def Bx (W : World) (B g : Nat) (lb : Array Value) (sf : Nat) (sb : Array Value) : Prop := Blk W B 74 #[.func (.func g) #[] lb, .func (.func sf) #[] sb]
section
variable {W W' : World} {B g sf blk : Nat} {lb sb : Array Value}
theorem Bx.new (W : World) (g : Nat) (lb : Array Value) (sf : Nat) (sb : Array Value) : Bx (W.alloc (.cells #[.func (.func g) #[] lb, .func (.func sf) #[] sb] 74)) W.heap.size g lb sf sb := Blk.new _ _ _
theorem Bx.c0 (h : Bx W B g lb sf sb) : W.cell? ⟨B, 0, none⟩ = some (.func (.func g) #[] lb) := Blk.cell h 0
theorem Bx.c1 (h : Bx W B g lb sf sb) : W.cell? ⟨B, 1, none⟩ = some (.func (.func sf) #[] sb) := Blk.cell h 1
theorem Bx.foot (h : Bx W B g lb sf sb) (hf : Foot W W' (fun g => g ≠ blk)) (hB : B ≠ blk) : Bx W' B g lb sf sb := hf.blk h hB
theorem Bx.below (h : Bx W B g lb sf sb) (hb : Below W.heap.size W W') : Bx W' B g lb sf sb := Blk.below h hb (Blk.lt h)
end

/-- What a function of the sort leaves. -/
def SortLeaves (w0 : World) (blk off n : Nat) (W : World) (d' : Array Hit) (w' : World) : Prop := Rw w0 blk off n w' d' ∧ Foot W w' (fun g => g ≠ blk)
end Go.Proofs.Ytmddnilephneiaa.SortBase
