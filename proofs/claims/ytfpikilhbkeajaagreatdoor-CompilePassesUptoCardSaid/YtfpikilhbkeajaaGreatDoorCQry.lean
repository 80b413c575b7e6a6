/-
  Queries as trees; queries in memory.
  The walks of Size and left over any query.
  The walk of concordref16's left over any query: it answers some number.
-/
import Derived.Test.YtfpikilhbkeajaaGreatDoorBase
import Derived.Test.YtfpikilhbkeajaaGreatDoorChecked
set_option linter.unusedVariables false
set_option linter.unusedSimpArgs false
namespace Go.Proofs.YtfpikilhbkeajaaGreatDoor.Query
open Go.RowKit Go.PlainAid Base

structure Bnd where
  op : Bool
  inn : Bool
  text : ByteArray
  deriving DecidableEq
instance : Inhabited Bnd := ⟨⟨false, false, ByteArray.empty⟩⟩

structure Head where
  kind : Int
  field : Int
  text : ByteArray
  terms : List ByteArray
  offs : List Int
  n : Int
  weight : Int
  lo : Bnd
  hi : Bnd
  occur : List Int
  deriving DecidableEq

inductive Qry where
  | mk (h : Head) (kids : List Qry)

def Qry.h : Qry → Head | .mk h _ => h
def Qry.kids : Qry → List Qry | .mk _ k => k

mutual
def Qry.size : Qry → Nat
  | .mk _ k => 1 + sizes k
def sizes : List Qry → Nat
  | [] => 0
  | q :: r => q.size + sizes r
end
theorem Qry.size_pos (q : Qry) : 0 < q.size := by cases q; simp only [Qry.size]; omega
theorem sizes_mem : ∀ {l : List Qry} {q : Qry}, q ∈ l → q.size ≤ sizes l
  | [], _, h => by cases h
  | x :: r, q, h => by
    rcases List.mem_cons.1 h with rfl | h
    · simp only [sizes]; omega
    · have := sizes_mem h; simp only [sizes]; omega
theorem Qry.kid_lt {q k : Qry} (h : k ∈ q.kids) : k.size < q.size := by
  cases q with
  | mk hd ks => have := sizes_mem h; simp only [Qry.size]; simp only [Qry.kids] at this; omega
theorem Qry.ind {P : Qry → Prop} (h : ∀ q, (∀ k ∈ q.kids, P k) → P q) (q : Qry) : P q := by
  have key : ∀ n (q : Qry), q.size ≤ n → P q := by
    intro n
    induction n with
    | zero => intro q hq; have := q.size_pos; omega
    | succ n ih => exact fun q hq => h q fun k hk => ih k (by have := Qry.kid_lt hk; omega)
  exact key _ q (Nat.le_refl _)

structure Hwf (hd : Head) : Prop where
  kind : (Lit.int .i64 hd.kind).wf = true
  field : (Lit.int .i64 hd.field).wf = true
  n : (Lit.int .i64 hd.n).wf = true
  weight : (Lit.int .u64 hd.weight).wf = true
  offs : ∀ o ∈ hd.offs, (Lit.int .i64 o).wf = true
  occur : ∀ o ∈ hd.occur, (Lit.int .i64 o).wf = true
  text : hd.text.size ≤ maxLen
  terms : ∀ t ∈ hd.terms, t.size ≤ maxLen
  nterms : hd.terms.length ≤ maxLen
  noffs : hd.offs.length ≤ maxLen
  noccur : hd.occur.length ≤ maxLen

def bndC (b : Bnd) : List Value := [.bool b.op, .bool b.inn, .string b.text]
def strs (l : List ByteArray) : List Value := l.map .string
def ints (l : List Int) : List Value := l.map (.int .i64)

inductive QVal (w : World) (B : Nat) : List Value → Qry → Prop
  | mk (hd : Head) (ks : List Qry) (A1 A2 A3 A4 : Option Addr) (c1 c2 c3 c4 : Nat) (cs : Nat → List Value) (hw : Hwf hd) (hk : ks.length ≤ maxLen)
      (h1 : Slc w B A1 (strs hd.terms)) (h2 : Slc w B A2 (ints hd.offs)) (h3 : Slc w B A3 (ints hd.occur))
      (h4 : ks ≠ [] → ∃ g o, A4 = some ⟨g, o, none⟩ ∧ g < B ∧ ∀ i, i < ks.length → ∀ j u, (cs i)[j]? = some u → w.cell? ⟨g, o + i * 15 + j, none⟩ = some u)
      (h5 : ∀ i k, ks[i]? = some k → QVal w B (cs i) k) :
      QVal w B [.int .i64 hd.kind, .int .i64 hd.field, .string hd.text, .slice A1 hd.terms.length c1, .slice A2 hd.offs.length c2, .int .i64 hd.n, .int .u64 hd.weight,
        .bool hd.lo.op, .bool hd.lo.inn, .string hd.lo.text, .bool hd.hi.op, .bool hd.hi.inn, .string hd.hi.text, .slice A3 hd.occur.length c3, .slice A4 ks.length c4] (.mk hd ks)

theorem QVal.kept {w w' : World} {B B' : Nat} {cs : List Value} {q : Qry} (h : QVal w B cs q) (hb : Below B' w w') (hB : B ≤ B') : QVal w' B cs q := by
  induction h with
  | mk hd ks A1 A2 A3 A4 c1 c2 c3 c4 cs hw hk h1 h2 h3 h4 h5 ih =>
    refine QVal.mk hd ks A1 A2 A3 A4 c1 c2 c3 c4 cs hw hk (h1.below hb hB) (h2.below hb hB) (h3.below hb hB) (fun hne => ?_) ih
    obtain ⟨g, o, e, hg, hc⟩ := h4 hne
    exact ⟨g, o, e, hg, fun i hi j u hu => (hb.cell (p := ⟨g, o + i * 15 + j, none⟩) (show g < B' by omega)).trans (hc i hi j u hu)⟩
theorem QVal.mono {w : World} {B B' : Nat} {cs : List Value} {q : Qry} (h : QVal w B cs q) (hB : B ≤ B') : QVal w B' cs q := by
  induction h with
  | mk hd ks A1 A2 A3 A4 c1 c2 c3 c4 cs hw hk h1 h2 h3 h4 h5 ih =>
    refine QVal.mk hd ks A1 A2 A3 A4 c1 c2 c3 c4 cs hw hk (h1.mono hB) (h2.mono hB) (h3.mono hB) (fun hne => ?_) ih
    obtain ⟨g, o, e, hg, hc⟩ := h4 hne
    exact ⟨g, o, e, by omega, hc⟩
theorem QVal.len {w : World} {B : Nat} {cs : List Value} {q : Qry} (h : QVal w B cs q) : cs.length = 15 := by cases h; rfl
end Go.Proofs.YtfpikilhbkeajaaGreatDoor.Query

namespace Go.Proofs.YtfpikilhbkeajaaGreatDoor.QrySize
set_option maxRecDepth 100000
open Go.RowKit Go.PlainAid Base Query

structure QAt (w : World) (g p : Nat) (hd : Head) (nk : Nat) (A1 A2 A3 A4 : Option Addr) (c1 c2 c3 c4 : Nat) : Prop where
  y0 : w.cell? ⟨g, p, none⟩ = some (.int .i64 hd.kind)
  y1 : w.cell? ⟨g, p + 1, none⟩ = some (.int .i64 hd.field)
  y2 : w.cell? ⟨g, p + 2, none⟩ = some (.string hd.text)
  y3 : w.cell? ⟨g, p + 3, none⟩ = some (.slice A1 hd.terms.length c1)
  y4 : w.cell? ⟨g, p + 4, none⟩ = some (.slice A2 hd.offs.length c2)
  y5 : w.cell? ⟨g, p + 5, none⟩ = some (.int .i64 hd.n)
  y6 : w.cell? ⟨g, p + 6, none⟩ = some (.int .u64 hd.weight)
  y7 : w.cell? ⟨g, p + 7, none⟩ = some (.bool hd.lo.op)
  y8 : w.cell? ⟨g, p + 8, none⟩ = some (.bool hd.lo.inn)
  y9 : w.cell? ⟨g, p + 9, none⟩ = some (.string hd.lo.text)
  y10 : w.cell? ⟨g, p + 10, none⟩ = some (.bool hd.hi.op)
  y11 : w.cell? ⟨g, p + 11, none⟩ = some (.bool hd.hi.inn)
  y12 : w.cell? ⟨g, p + 12, none⟩ = some (.string hd.hi.text)
  y13 : w.cell? ⟨g, p + 13, none⟩ = some (.slice A3 hd.occur.length c3)
  y14 : w.cell? ⟨g, p + 14, none⟩ = some (.slice A4 nk c4)

def qcells (hd : Head) (nk : Nat) (A1 A2 A3 A4 : Option Addr) (c1 c2 c3 c4 : Nat) : Array Value :=
  #[.int .i64 hd.kind, .int .i64 hd.field, .string hd.text, .slice A1 hd.terms.length c1, .slice A2 hd.offs.length c2, .int .i64 hd.n, .int .u64 hd.weight, .bool hd.lo.op, .bool hd.lo.inn, .string hd.lo.text, .bool hd.hi.op, .bool hd.hi.inn, .string hd.hi.text, .slice A3 hd.occur.length c3, .slice A4 nk c4]
theorem kid_cells {w : World} {g o i : Nat} {cs : List Value} {q : Qry} {B : Nat} (hq : QVal w B cs q) (hc : ∀ j u, cs[j]? = some u → w.cell? ⟨g, o + i * 15 + j, none⟩ = some u) :
    ∃ A1 A2 A3 A4 c1 c2 c3 c4, cs.toArray = qcells q.h q.kids.length A1 A2 A3 A4 c1 c2 c3 c4 ∧ QAt w g (o + i * 15) q.h q.kids.length A1 A2 A3 A4 c1 c2 c3 c4 := by
  obtain ⟨hd, ks, A1, A2, A3, A4, c1, c2, c3, c4, kc, hw, hk, h1, h2, h3, h4, h5⟩ := hq
  exact ⟨A1, A2, A3, A4, c1, c2, c3, c4, rfl, hc 0 _ rfl, hc 1 _ rfl, hc 2 _ rfl, hc 3 _ rfl, hc 4 _ rfl, hc 5 _ rfl, hc 6 _ rfl, hc 7 _ rfl, hc 8 _ rfl, hc 9 _ rfl, hc 10 _ rfl, hc 11 _ rfl, hc 12 _ rfl, hc 13 _ rfl, hc 14 _ rfl⟩

theorem sizes_take_succ {ks : List Qry} {i : Nat} {k : Qry} (h : ks[i]? = some k) : sizes (ks.take (i + 1)) = sizes (ks.take i) + k.size := by
  induction ks generalizing i with
  | nil => simp at h
  | cons x r ih =>
    cases i with
    | zero => simp at h; subst h; simp [sizes]
    | succ i =>
      simp at h
      simp only [List.take_succ_cons, sizes]
      rw [ih h]; omega

theorem wrap64_add (a b : Int) : wrap64 (wrap64 a + wrap64 b) = wrap64 (a + b) := by unfold wrap64; omega
theorem size_wrap (s x : Nat) : wrap64 (wrap64 (1 + (s : Int)) + wrap64 (x : Int)) = wrap64 ((1 + (s + x) : Nat) : Int) := by
  rw [wrap64_add]
  congr 1
  omega

set_option maxHeartbeats 2000000 in
theorem refSize_any (q : Qry) : ∀ (cs : List Value) (B : Nat) (w : World), QVal w B cs q → B ≤ w.heap.size →
    Calls Tryz.prog 18 #[.agg cs.toArray] w fun e w' => e = .returned (.int .i64 (wrap64 q.size)) ∧ Below w.heap.size w w' := by
  induction q using Qry.ind with
  | h q ih =>
    intro cs B w hq hB
    obtain ⟨hd, ks, A1, A2, A3, A4, c1, c2, c3, c4, kc, hw, hk, h1, h2, h3, h4, h5⟩ := hq
    simp only [Qry.kids] at ih
    go_enter Tryz.func18, Tryz.ntmps18
    go_wp2_with fail
    go_loopw [9, 3] (fun i s wr => ∃ k : Nat, k ≤ ks.length ∧ i = .int .i64 k ∧ s = .int .i64 (wrap64 ((1 + sizes (ks.take k) : Nat) : Int)) ∧ Below w.heap.size w wr) (fun i _ _ => ks.length - (intOf i).toNat)
    case atStart => exact ⟨0, Nat.zero_le _, rfl, by simp only [List.take_zero, sizes, Nat.add_zero]; kernel_rfl, (by exact Base.bel)⟩
    case round =>
      obtain ⟨k, hk', rfl, rfl, hbel⟩ := hrel
      have hkl : ks.length ≤ maxLen := hk
      have hml : maxLen = 9223372036854775807 := rfl
      rcases Nat.lt_or_ge k ks.length with hlt | hge
      · obtain ⟨g, o, rfl, hg, hc⟩ := h4 (by intro h; subst h; simp at hlt)
        obtain ⟨x, hx⟩ : ∃ x, ks[k]? = some x := ⟨_, List.getElem?_eq_getElem hlt⟩
        have hq := (h5 k x hx).kept hbel hB
        obtain ⟨B1, B2, B3, B4, d1, d2, d3, d4, e, x0, x1, x2, x3, x4, x5, x6, x7, x8, x9, x10, x11, x12, x13, x14⟩ := kid_cells hq (fun j u hu => (hbel.cell (p := ⟨g, o + k * 15 + j, none⟩) (Nat.lt_of_lt_of_le hg hB)).trans (hc k hlt j u hu))
        have IH := Lib.hid (fun W (hW : Below w.heap.size w W) => ih x (List.mem_of_getElem? hx) _ B W ((h5 k x hx).kept hW hB) (Nat.le_trans hB hW.size))
        rw [e] at IH
        unfold qcells at IH
        have hlt2 : (k : Int) < 9223372036854775807 := by omega
        have hs := sizes_take_succ hx
        clear hc h4 h5 ih hq e hx h1 h2 h3 hw
        go_wp2_with (go_at_call 18; refine (IH.out _ (by exact Base.bel)).mono ?_; rintro e w2 ⟨rfl, hb2⟩)
        go_roundw
        case rel =>
          refine ⟨k + 1, by omega, by go_num, ?_, (by exact Base.bel)⟩
          rw [hs]
          exact congrArg _ (size_wrap _ _)
        case measure => simp [intOf]; omega
      · obtain rfl : k = ks.length := by omega
        go_wp2
        go_ret
        rw [List.take_length]
        exact ⟨rfl, hbel⟩
end Go.Proofs.YtfpikilhbkeajaaGreatDoor.QrySize

namespace Go.Proofs.YtfpikilhbkeajaaGreatDoor.QryLeft
set_option maxRecDepth 100000
open Go.RowKit Go.PlainAid Base Query QrySize

def SomeInt (w : World) (e : Ending) (w' : World) : Prop := (∃ r : Int, e = .returned (.int .i64 r)) ∧ Below w.heap.size w w'

set_option maxHeartbeats 2000000 in
theorem left_any (q : Qry) : ∀ (cs : List Value) (B : Nat) (w : World) (m : Int), QVal w B cs q → B ≤ w.heap.size →
    Calls Tryz.prog 42 #[.agg cs.toArray, .int .i64 m] w (SomeInt w) := by
  induction q using Qry.ind with
  | h q ih =>
    intro cs B w m hq hB
    obtain ⟨hd, ks, A1, A2, A3, A4, c1, c2, c3, c4, kc, hw, hk, h1, h2, h3, h4, h5⟩ := hq
    simp only [Qry.kids] at ih
    go_enter Tryz.func42, Tryz.ntmps42
    go_wp2_with fail
    all_goals first | (go_ret; exact ⟨⟨_, rfl⟩, (by exact Base.bel)⟩) | skip
    go_loopw [38, 1] (fun i s wr => ∃ k : Nat, ∃ r : Int, k ≤ ks.length ∧ i = .int .i64 k ∧ s = .int .i64 r ∧ Below w.heap.size w wr) (fun i _ _ => ks.length - (intOf i).toNat)
    case atStart => exact ⟨0, _, Nat.zero_le _, rfl, rfl, (by exact Base.bel)⟩
    case round =>
      obtain ⟨k, r, hk', rfl, rfl, hbel⟩ := hrel
      have hkl : ks.length ≤ maxLen := hk
      have hml : maxLen = 9223372036854775807 := rfl
      rcases Nat.lt_or_ge k ks.length with hlt | hge
      · obtain ⟨g, o, rfl, hg, hc⟩ := h4 (by intro h; subst h; simp at hlt)
        obtain ⟨x, hx⟩ : ∃ x, ks[k]? = some x := ⟨_, List.getElem?_eq_getElem hlt⟩
        have hq := (h5 k x hx).kept hbel hB
        obtain ⟨B1, B2, B3, B4, d1, d2, d3, d4, e, x0, x1, x2, x3, x4, x5, x6, x7, x8, x9, x10, x11, x12, x13, x14⟩ := kid_cells hq (fun j u hu => (hbel.cell (p := ⟨g, o + k * 15 + j, none⟩) (Nat.lt_of_lt_of_le hg hB)).trans (hc k hlt j u hu))
        have IH := Lib.hid (fun W m (hW : Below w.heap.size w W) => ih x (List.mem_of_getElem? hx) _ B W m ((h5 k x hx).kept hW hB) (Nat.le_trans hB hW.size))
        rw [e] at IH
        unfold qcells at IH
        have hlt2 : (k : Int) < 9223372036854775807 := by omega
        clear hc h4 h5 ih hq e hx h1 h2 h3 hw
        go_wp2_with fail
        go_at_call 42
        refine (IH.out _ _ (by exact Base.bel)).mono ?_
        rintro e w2 ⟨⟨r2, rfl⟩, hb2⟩
        clear IH hk hkl hml hk' x0 x1 x2 x3 x4 x5 x6 x7 x8 x9 x10 x11 x12 x13 x14
        rcases (by omega : r2 < 0 ∨ 0 ≤ r2) with hr | hr
        · have hd1 : decide (r2 < 0) = true := decide_eq_true hr
          clear hr
          go_wp2_with fail
          go_ret
          exact ⟨⟨_, rfl⟩, (by exact Base.bel)⟩
        · have hd1 : decide (r2 < 0) = false := decide_eq_false (by omega)
          clear hr
          go_wp2_with fail
          go_roundw
          case rel => exact ⟨k + 1, _, by omega, by go_num, rfl, (by exact Base.bel)⟩
          case measure => simp [intOf]; omega
      · obtain rfl : k = ks.length := by omega
        go_wp2
        go_ret
        exact ⟨⟨_, rfl⟩, hbel⟩

set_option maxHeartbeats 2000000 in
theorem few_any (q : Qry) (cs : List Value) (B : Nat) (w : World) (m : Int) (hq : QVal w B cs q) (hB : B ≤ w.heap.size) :
    Calls Tryz.prog 19 #[.agg cs.toArray, .int .i64 m] w fun e w' => (∃ b : Bool, e = .returned (.bool b)) ∧ Below w.heap.size w w' := by
  have LA := Lib.hid (fun W m (hW : Below w.heap.size w W) => left_any q cs B W m (hq.kept hW hB) (Nat.le_trans hB hW.size))
  obtain ⟨hd, ks, A1, A2, A3, A4, c1, c2, c3, c4, kc, hw, hk, h1, h2, h3, h4, h5⟩ := hq
  clear hw h1 h2 h3 h4 h5
  go_enter Tryz.func19, Tryz.ntmps19
  go_wp2_with (go_at_call 42; refine (LA.out _ _ (by exact Base.bel)).mono ?_; rintro e w2 ⟨⟨r2, rfl⟩, hb2⟩)
  go_ret
  exact ⟨⟨_, rfl⟩, (by exact Base.bel)⟩
end Go.Proofs.YtfpikilhbkeajaaGreatDoor.QryLeft
