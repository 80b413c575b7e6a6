/-
  Queries as trees; queries in memory.
-/
import Derived.Test.YtkcfgcdlnojaeaaGreatDoorBase
namespace Go.Proofs.YtkcfgcdlnojaeaaGreatDoor.Query
open Go.RowKit Go.PlainAid Base

structure Bnd where
  op : Bool
  inn : Bool
  text : ByteArray
  deriving DecidableEq
instance : Inhabited Bnd := ⟨⟨false, false, ByteArray.empty⟩⟩

/-- What a query holds beside its kids. -/
structure Head where
  kind : Int
  field : Int
  text : ByteArray
  terms : List ByteArray
  offs : List Int
  n : Int
  weight : Int
  lo : Bnd
  hi : Bnd
  occur : List Int
  deriving DecidableEq

inductive Qry where
  | mk (h : Head) (kids : List Qry)

def Qry.h : Qry → Head | .mk h _ => h
def Qry.kids : Qry → List Qry | .mk _ k => k

mutual
def Qry.size : Qry → Nat
  | .mk _ k => 1 + sizes k
def sizes : List Qry → Nat
  | [] => 0
  | q :: r => q.size + sizes r
end
theorem Qry.size_pos (q : Qry) : 0 < q.size := by cases q; simp only [Qry.size]; omega
theorem sizes_mem : ∀ {l : List Qry} {q : Qry}, q ∈ l → q.size ≤ sizes l
  | [], _, h => by cases h
  | x :: r, q, h => by
    rcases List.mem_cons.1 h with rfl | h
    · simp only [sizes]; omega
    · have := sizes_mem h; simp only [sizes]; omega
theorem Qry.kid_lt {q k : Qry} (h : k ∈ q.kids) : k.size < q.size := by
  cases q with
  | mk hd ks => have := sizes_mem h; simp only [Qry.size]; simp only [Qry.kids] at this; omega
/-- By the kids. -/
theorem Qry.ind {P : Qry → Prop} (h : ∀ q, (∀ k ∈ q.kids, P k) → P q) (q : Qry) : P q := by
  have key : ∀ n (q : Qry), q.size ≤ n → P q := by
    intro n
    induction n with
    | zero => intro q hq; have := q.size_pos; omega
    | succ n ih => exact fun q hq => h q fun k hk => ih k (by have := Qry.kid_lt hk; omega)
  exact key _ q (Nat.le_refl _)

/-- Its numbers fit their types. -/
structure Hwf (hd : Head) : Prop where
  kind : (Lit.int .i64 hd.kind).wf = true
  field : (Lit.int .i64 hd.field).wf = true
  n : (Lit.int .i64 hd.n).wf = true
  weight : (Lit.int .u64 hd.weight).wf = true
  offs : ∀ o ∈ hd.offs, (Lit.int .i64 o).wf = true
  occur : ∀ o ∈ hd.occur, (Lit.int .i64 o).wf = true
  text : hd.text.size ≤ maxLen
  terms : ∀ t ∈ hd.terms, t.size ≤ maxLen
  nterms : hd.terms.length ≤ maxLen
  noffs : hd.offs.length ≤ maxLen
  noccur : hd.occur.length ≤ maxLen

def bndC (b : Bnd) : List Value := [.bool b.op, .bool b.inn, .string b.text]
def strs (l : List ByteArray) : List Value := l.map .string
def ints (l : List Int) : List Value := l.map (.int .i64)

/-- The fifteen values of a query, in memory below block B. -/
inductive QVal (w : World) (B : Nat) : List Value → Qry → Prop
  | mk (hd : Head) (ks : List Qry) (A1 A2 A3 A4 : Option Addr) (c1 c2 c3 c4 : Nat) (cs : Nat → List Value) (hw : Hwf hd) (hk : ks.length ≤ maxLen)
      (h1 : Slc w B A1 (strs hd.terms)) (h2 : Slc w B A2 (ints hd.offs)) (h3 : Slc w B A3 (ints hd.occur))
      (h4 : ks ≠ [] → ∃ g o, A4 = some ⟨g, o, none⟩ ∧ g < B ∧ ∀ i, i < ks.length → ∀ j u, (cs i)[j]? = some u → w.cell? ⟨g, o + i * 15 + j, none⟩ = some u)
      (h5 : ∀ i k, ks[i]? = some k → QVal w B (cs i) k) :
      QVal w B [.int .i64 hd.kind, .int .i64 hd.field, .string hd.text, .slice A1 hd.terms.length c1, .slice A2 hd.offs.length c2, .int .i64 hd.n, .int .u64 hd.weight,
        .bool hd.lo.op, .bool hd.lo.inn, .string hd.lo.text, .bool hd.hi.op, .bool hd.hi.inn, .string hd.hi.text, .slice A3 hd.occur.length c3, .slice A4 ks.length c4] (.mk hd ks)

theorem QVal.kept {w w' : World} {B B' : Nat} {cs : List Value} {q : Qry} (h : QVal w B cs q) (hb : Below B' w w') (hB : B ≤ B') : QVal w' B cs q := by
  induction h with
  | mk hd ks A1 A2 A3 A4 c1 c2 c3 c4 cs hw hk h1 h2 h3 h4 h5 ih =>
    refine QVal.mk hd ks A1 A2 A3 A4 c1 c2 c3 c4 cs hw hk (h1.below hb hB) (h2.below hb hB) (h3.below hb hB) (fun hne => ?_) ih
    obtain ⟨g, o, e, hg, hc⟩ := h4 hne
    exact ⟨g, o, e, hg, fun i hi j u hu => (hb.cell (p := ⟨g, o + i * 15 + j, none⟩) (show g < B' by omega)).trans (hc i hi j u hu)⟩
theorem QVal.mono {w : World} {B B' : Nat} {cs : List Value} {q : Qry} (h : QVal w B cs q) (hB : B ≤ B') : QVal w B' cs q := by
  induction h with
  | mk hd ks A1 A2 A3 A4 c1 c2 c3 c4 cs hw hk h1 h2 h3 h4 h5 ih =>
    refine QVal.mk hd ks A1 A2 A3 A4 c1 c2 c3 c4 cs hw hk (h1.mono hB) (h2.mono hB) (h3.mono hB) (fun hne => ?_) ih
    obtain ⟨g, o, e, hg, hc⟩ := h4 hne
    exact ⟨g, o, e, by omega, hc⟩
theorem QVal.len {w : World} {B : Nat} {cs : List Value} {q : Qry} (h : QVal w B cs q) : cs.length = 15 := by cases h; rfl
end Go.Proofs.YtkcfgcdlnojaeaaGreatDoor.Query
