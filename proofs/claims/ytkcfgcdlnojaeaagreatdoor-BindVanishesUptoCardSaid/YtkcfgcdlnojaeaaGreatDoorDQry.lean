/-
  Queries as trees; queries in memory.
  The walks of Size and left over any query.
  An argument that is a field, read as data, in cells.
  The walks of bind.none, bind.kinds and the laws' schema.
-/
import Derived.Test.YtkcfgcdlnojaeaaGreatDoorBase
import Derived.Test.YtkcfgcdlnojaeaaGreatDoorChecked
import Derived.Test.YtkcfgcdlnojaeaaGreatDoorRows
import Derived.Deep.Slices
import Derived.Deep.Fields
import Derived.ChangeSame
import Derived.SizedLaws
import Derived.Deep.WholeRow
set_option linter.unusedVariables false
set_option linter.unusedSimpArgs false
namespace Go.Proofs.YtkcfgcdlnojaeaaGreatDoor.Query
open Go.RowKit Go.PlainAid Base

structure Bnd where
  op : Bool
  inn : Bool
  text : ByteArray
  deriving DecidableEq
instance : Inhabited Bnd := ⟨⟨false, false, ByteArray.empty⟩⟩

structure Head where
  kind : Int
  field : Int
  text : ByteArray
  terms : List ByteArray
  offs : List Int
  n : Int
  weight : Int
  lo : Bnd
  hi : Bnd
  occur : List Int
  deriving DecidableEq

inductive Qry where
  | mk (h : Head) (kids : List Qry)

def Qry.h : Qry → Head | .mk h _ => h
def Qry.kids : Qry → List Qry | .mk _ k => k

mutual
def Qry.size : Qry → Nat
  | .mk _ k => 1 + sizes k
def sizes : List Qry → Nat
  | [] => 0
  | q :: r => q.size + sizes r
end
theorem Qry.size_pos (q : Qry) : 0 < q.size := by cases q; simp only [Qry.size]; omega
theorem sizes_mem : ∀ {l : List Qry} {q : Qry}, q ∈ l → q.size ≤ sizes l
  | [], _, h => by cases h
  | x :: r, q, h => by
    rcases List.mem_cons.1 h with rfl | h
    · simp only [sizes]; omega
    · have := sizes_mem h; simp only [sizes]; omega
theorem Qry.kid_lt {q k : Qry} (h : k ∈ q.kids) : k.size < q.size := by
  cases q with
  | mk hd ks => have := sizes_mem h; simp only [Qry.size]; simp only [Qry.kids] at this; omega
theorem Qry.ind {P : Qry → Prop} (h : ∀ q, (∀ k ∈ q.kids, P k) → P q) (q : Qry) : P q := by
  have key : ∀ n (q : Qry), q.size ≤ n → P q := by
    intro n
    induction n with
    | zero => intro q hq; have := q.size_pos; omega
    | succ n ih => exact fun q hq => h q fun k hk => ih k (by have := Qry.kid_lt hk; omega)
  exact key _ q (Nat.le_refl _)

structure Hwf (hd : Head) : Prop where
  kind : (Lit.int .i64 hd.kind).wf = true
  field : (Lit.int .i64 hd.field).wf = true
  n : (Lit.int .i64 hd.n).wf = true
  weight : (Lit.int .u64 hd.weight).wf = true
  offs : ∀ o ∈ hd.offs, (Lit.int .i64 o).wf = true
  occur : ∀ o ∈ hd.occur, (Lit.int .i64 o).wf = true
  text : hd.text.size ≤ maxLen
  terms : ∀ t ∈ hd.terms, t.size ≤ maxLen
  nterms : hd.terms.length ≤ maxLen
  noffs : hd.offs.length ≤ maxLen
  noccur : hd.occur.length ≤ maxLen

def bndC (b : Bnd) : List Value := [.bool b.op, .bool b.inn, .string b.text]
def strs (l : List ByteArray) : List Value := l.map .string
def ints (l : List Int) : List Value := l.map (.int .i64)

inductive QVal (w : World) (B : Nat) : List Value → Qry → Prop
  | mk (hd : Head) (ks : List Qry) (A1 A2 A3 A4 : Option Addr) (c1 c2 c3 c4 : Nat) (cs : Nat → List Value) (hw : Hwf hd) (hk : ks.length ≤ maxLen)
      (h1 : Slc w B A1 (strs hd.terms)) (h2 : Slc w B A2 (ints hd.offs)) (h3 : Slc w B A3 (ints hd.occur))
      (h4 : ks ≠ [] → ∃ g o, A4 = some ⟨g, o, none⟩ ∧ g < B ∧ ∀ i, i < ks.length → ∀ j u, (cs i)[j]? = some u → w.cell? ⟨g, o + i * 15 + j, none⟩ = some u)
      (h5 : ∀ i k, ks[i]? = some k → QVal w B (cs i) k) :
      QVal w B [.int .i64 hd.kind, .int .i64 hd.field, .string hd.text, .slice A1 hd.terms.length c1, .slice A2 hd.offs.length c2, .int .i64 hd.n, .int .u64 hd.weight,
        .bool hd.lo.op, .bool hd.lo.inn, .string hd.lo.text, .bool hd.hi.op, .bool hd.hi.inn, .string hd.hi.text, .slice A3 hd.occur.length c3, .slice A4 ks.length c4] (.mk hd ks)

theorem QVal.kept {w w' : World} {B B' : Nat} {cs : List Value} {q : Qry} (h : QVal w B cs q) (hb : Below B' w w') (hB : B ≤ B') : QVal w' B cs q := by
  induction h with
  | mk hd ks A1 A2 A3 A4 c1 c2 c3 c4 cs hw hk h1 h2 h3 h4 h5 ih =>
    refine QVal.mk hd ks A1 A2 A3 A4 c1 c2 c3 c4 cs hw hk (h1.below hb hB) (h2.below hb hB) (h3.below hb hB) (fun hne => ?_) ih
    obtain ⟨g, o, e, hg, hc⟩ := h4 hne
    exact ⟨g, o, e, hg, fun i hi j u hu => (hb.cell (p := ⟨g, o + i * 15 + j, none⟩) (show g < B' by omega)).trans (hc i hi j u hu)⟩
theorem QVal.mono {w : World} {B B' : Nat} {cs : List Value} {q : Qry} (h : QVal w B cs q) (hB : B ≤ B') : QVal w B' cs q := by
  induction h with
  | mk hd ks A1 A2 A3 A4 c1 c2 c3 c4 cs hw hk h1 h2 h3 h4 h5 ih =>
    refine QVal.mk hd ks A1 A2 A3 A4 c1 c2 c3 c4 cs hw hk (h1.mono hB) (h2.mono hB) (h3.mono hB) (fun hne => ?_) ih
    obtain ⟨g, o, e, hg, hc⟩ := h4 hne
    exact ⟨g, o, e, by omega, hc⟩
theorem QVal.len {w : World} {B : Nat} {cs : List Value} {q : Qry} (h : QVal w B cs q) : cs.length = 15 := by cases h; rfl
end Go.Proofs.YtkcfgcdlnojaeaaGreatDoor.Query

namespace Go.Proofs.YtkcfgcdlnojaeaaGreatDoor.QrySize
set_option maxRecDepth 100000
open Go.RowKit Go.PlainAid Base Query

structure QAt (w : World) (g p : Nat) (hd : Head) (nk : Nat) (A1 A2 A3 A4 : Option Addr) (c1 c2 c3 c4 : Nat) : Prop where
  y0 : w.cell? ⟨g, p, none⟩ = some (.int .i64 hd.kind)
  y1 : w.cell? ⟨g, p + 1, none⟩ = some (.int .i64 hd.field)
  y2 : w.cell? ⟨g, p + 2, none⟩ = some (.string hd.text)
  y3 : w.cell? ⟨g, p + 3, none⟩ = some (.slice A1 hd.terms.length c1)
  y4 : w.cell? ⟨g, p + 4, none⟩ = some (.slice A2 hd.offs.length c2)
  y5 : w.cell? ⟨g, p + 5, none⟩ = some (.int .i64 hd.n)
  y6 : w.cell? ⟨g, p + 6, none⟩ = some (.int .u64 hd.weight)
  y7 : w.cell? ⟨g, p + 7, none⟩ = some (.bool hd.lo.op)
  y8 : w.cell? ⟨g, p + 8, none⟩ = some (.bool hd.lo.inn)
  y9 : w.cell? ⟨g, p + 9, none⟩ = some (.string hd.lo.text)
  y10 : w.cell? ⟨g, p + 10, none⟩ = some (.bool hd.hi.op)
  y11 : w.cell? ⟨g, p + 11, none⟩ = some (.bool hd.hi.inn)
  y12 : w.cell? ⟨g, p + 12, none⟩ = some (.string hd.hi.text)
  y13 : w.cell? ⟨g, p + 13, none⟩ = some (.slice A3 hd.occur.length c3)
  y14 : w.cell? ⟨g, p + 14, none⟩ = some (.slice A4 nk c4)

def qcells (hd : Head) (nk : Nat) (A1 A2 A3 A4 : Option Addr) (c1 c2 c3 c4 : Nat) : Array Value :=
  #[.int .i64 hd.kind, .int .i64 hd.field, .string hd.text, .slice A1 hd.terms.length c1, .slice A2 hd.offs.length c2, .int .i64 hd.n, .int .u64 hd.weight, .bool hd.lo.op, .bool hd.lo.inn, .string hd.lo.text, .bool hd.hi.op, .bool hd.hi.inn, .string hd.hi.text, .slice A3 hd.occur.length c3, .slice A4 nk c4]
theorem kid_cells {w : World} {g o i : Nat} {cs : List Value} {q : Qry} {B : Nat} (hq : QVal w B cs q) (hc : ∀ j u, cs[j]? = some u → w.cell? ⟨g, o + i * 15 + j, none⟩ = some u) :
    ∃ A1 A2 A3 A4 c1 c2 c3 c4, cs.toArray = qcells q.h q.kids.length A1 A2 A3 A4 c1 c2 c3 c4 ∧ QAt w g (o + i * 15) q.h q.kids.length A1 A2 A3 A4 c1 c2 c3 c4 := by
  obtain ⟨hd, ks, A1, A2, A3, A4, c1, c2, c3, c4, kc, hw, hk, h1, h2, h3, h4, h5⟩ := hq
  exact ⟨A1, A2, A3, A4, c1, c2, c3, c4, rfl, hc 0 _ rfl, hc 1 _ rfl, hc 2 _ rfl, hc 3 _ rfl, hc 4 _ rfl, hc 5 _ rfl, hc 6 _ rfl, hc 7 _ rfl, hc 8 _ rfl, hc 9 _ rfl, hc 10 _ rfl, hc 11 _ rfl, hc 12 _ rfl, hc 13 _ rfl, hc 14 _ rfl⟩

theorem sizes_take_succ {ks : List Qry} {i : Nat} {k : Qry} (h : ks[i]? = some k) : sizes (ks.take (i + 1)) = sizes (ks.take i) + k.size := by
  induction ks generalizing i with
  | nil => simp at h
  | cons x r ih =>
    cases i with
    | zero => simp at h; subst h; simp [sizes]
    | succ i =>
      simp at h
      simp only [List.take_succ_cons, sizes]
      rw [ih h]; omega

theorem wrap64_add (a b : Int) : wrap64 (wrap64 a + wrap64 b) = wrap64 (a + b) := by unfold wrap64; omega
theorem size_wrap (s x : Nat) : wrap64 (wrap64 (1 + (s : Int)) + wrap64 (x : Int)) = wrap64 ((1 + (s + x) : Nat) : Int) := by
  rw [wrap64_add]
  congr 1
  omega

set_option maxHeartbeats 2000000 in
theorem size_any (q : Qry) : ∀ (cs : List Value) (B : Nat) (w : World), QVal w B cs q → B ≤ w.heap.size →
    Calls Tryz.prog 20 #[.agg cs.toArray] w fun e w' => e = .returned (.int .i64 (wrap64 q.size)) ∧ Below w.heap.size w w' := by
  induction q using Qry.ind with
  | h q ih =>
    intro cs B w hq hB
    obtain ⟨hd, ks, A1, A2, A3, A4, c1, c2, c3, c4, kc, hw, hk, h1, h2, h3, h4, h5⟩ := hq
    simp only [Qry.kids] at ih
    go_enter Tryz.func20, Tryz.ntmps20
    go_wp2_with fail
    go_loopw [9, 3] (fun i s wr => ∃ k : Nat, k ≤ ks.length ∧ i = .int .i64 k ∧ s = .int .i64 (wrap64 ((1 + sizes (ks.take k) : Nat) : Int)) ∧ Below w.heap.size w wr) (fun i _ _ => ks.length - (intOf i).toNat)
    case atStart => exact ⟨0, Nat.zero_le _, rfl, by simp only [List.take_zero, sizes, Nat.add_zero]; kernel_rfl, (by exact Base.bel)⟩
    case round =>
      obtain ⟨k, hk', rfl, rfl, hbel⟩ := hrel
      have hkl : ks.length ≤ maxLen := hk
      have hml : maxLen = 9223372036854775807 := rfl
      rcases Nat.lt_or_ge k ks.length with hlt | hge
      · obtain ⟨g, o, rfl, hg, hc⟩ := h4 (by intro h; subst h; simp at hlt)
        obtain ⟨x, hx⟩ : ∃ x, ks[k]? = some x := ⟨_, List.getElem?_eq_getElem hlt⟩
        have hq := (h5 k x hx).kept hbel hB
        obtain ⟨B1, B2, B3, B4, d1, d2, d3, d4, e, x0, x1, x2, x3, x4, x5, x6, x7, x8, x9, x10, x11, x12, x13, x14⟩ := kid_cells hq (fun j u hu => (hbel.cell (p := ⟨g, o + k * 15 + j, none⟩) (Nat.lt_of_lt_of_le hg hB)).trans (hc k hlt j u hu))
        have IH := Lib.hid (fun W (hW : Below w.heap.size w W) => ih x (List.mem_of_getElem? hx) _ B W ((h5 k x hx).kept hW hB) (Nat.le_trans hB hW.size))
        rw [e] at IH
        unfold qcells at IH
        have hlt2 : (k : Int) < 9223372036854775807 := by omega
        have hs := sizes_take_succ hx
        clear hc h4 h5 ih hq e hx h1 h2 h3 hw
        go_wp2_with (go_at_call 20; refine (IH.out _ (by exact Base.bel)).mono ?_; rintro e w2 ⟨rfl, hb2⟩)
        go_roundw
        case rel =>
          refine ⟨k + 1, by omega, by go_num, ?_, (by exact Base.bel)⟩
          rw [hs]
          exact congrArg _ (size_wrap _ _)
        case measure => simp [intOf]; omega
      · obtain rfl : k = ks.length := by omega
        go_wp2
        go_ret
        rw [List.take_length]
        exact ⟨rfl, hbel⟩
set_option maxHeartbeats 2000000 in
theorem refSize_any (q : Qry) : ∀ (cs : List Value) (B : Nat) (w : World), QVal w B cs q → B ≤ w.heap.size →
    Calls Tryz.prog 43 #[.agg cs.toArray] w fun e w' => e = .returned (.int .i64 (wrap64 q.size)) ∧ Below w.heap.size w w' := by
  induction q using Qry.ind with
  | h q ih =>
    intro cs B w hq hB
    obtain ⟨hd, ks, A1, A2, A3, A4, c1, c2, c3, c4, kc, hw, hk, h1, h2, h3, h4, h5⟩ := hq
    simp only [Qry.kids] at ih
    go_enter Tryz.func43, Tryz.ntmps43
    go_wp2_with fail
    go_loopw [9, 3] (fun i s wr => ∃ k : Nat, k ≤ ks.length ∧ i = .int .i64 k ∧ s = .int .i64 (wrap64 ((1 + sizes (ks.take k) : Nat) : Int)) ∧ Below w.heap.size w wr) (fun i _ _ => ks.length - (intOf i).toNat)
    case atStart => exact ⟨0, Nat.zero_le _, rfl, by simp only [List.take_zero, sizes, Nat.add_zero]; kernel_rfl, (by exact Base.bel)⟩
    case round =>
      obtain ⟨k, hk', rfl, rfl, hbel⟩ := hrel
      have hkl : ks.length ≤ maxLen := hk
      have hml : maxLen = 9223372036854775807 := rfl
      rcases Nat.lt_or_ge k ks.length with hlt | hge
      · obtain ⟨g, o, rfl, hg, hc⟩ := h4 (by intro h; subst h; simp at hlt)
        obtain ⟨x, hx⟩ : ∃ x, ks[k]? = some x := ⟨_, List.getElem?_eq_getElem hlt⟩
        have hq := (h5 k x hx).kept hbel hB
        obtain ⟨B1, B2, B3, B4, d1, d2, d3, d4, e, x0, x1, x2, x3, x4, x5, x6, x7, x8, x9, x10, x11, x12, x13, x14⟩ := kid_cells hq (fun j u hu => (hbel.cell (p := ⟨g, o + k * 15 + j, none⟩) (Nat.lt_of_lt_of_le hg hB)).trans (hc k hlt j u hu))
        have IH := Lib.hid (fun W (hW : Below w.heap.size w W) => ih x (List.mem_of_getElem? hx) _ B W ((h5 k x hx).kept hW hB) (Nat.le_trans hB hW.size))
        rw [e] at IH
        unfold qcells at IH
        have hlt2 : (k : Int) < 9223372036854775807 := by omega
        have hs := sizes_take_succ hx
        clear hc h4 h5 ih hq e hx h1 h2 h3 hw
        go_wp2_with (go_at_call 43; refine (IH.out _ (by exact Base.bel)).mono ?_; rintro e w2 ⟨rfl, hb2⟩)
        go_roundw
        case rel =>
          refine ⟨k + 1, by omega, by go_num, ?_, (by exact Base.bel)⟩
          rw [hs]
          exact congrArg _ (size_wrap _ _)
        case measure => simp [intOf]; omega
      · obtain rfl : k = ks.length := by omega
        go_wp2
        go_ret
        rw [List.take_length]
        exact ⟨rfl, hbel⟩
end Go.Proofs.YtkcfgcdlnojaeaaGreatDoor.QrySize

namespace Go.Proofs.YtkcfgcdlnojaeaaGreatDoor.OpenField
set_option maxRecDepth 100000
open Go.ChangeShapes Go.WideShapes Go.Deep Base

structure Fld where
  nm : ByteArray
  kd : Int
  fold : Bool
  stop : Bool
  stem : Bool
instance : Inhabited Fld := ⟨⟨ByteArray.empty, 0, false, false, false⟩⟩
def fldC (f : Fld) : List Value := [.string f.nm, .int .i64 f.kd, .bool f.fold, .bool f.stop, .bool f.stem]
def fldV (f : Fld) : Value := .agg #[.string f.nm, .int .i64 f.kd, .bool f.fold, .bool f.stop, .bool f.stem]

theorem cellsField : Tryz.prog.cellsOf 67 = 5 := by kernel_rfl
theorem cellsStr : Tryz.prog.cellsOf 9 = 1 := by kernel_rfl
theorem cellsInt : Tryz.prog.cellsOf 3 = 1 := by kernel_rfl
theorem cellsBool : Tryz.prog.cellsOf 4 = 1 := by kernel_rfl

theorem one_le {H : Type} (d : DataW H) : 1 ≤ Rows.uptoBulk d := by
  cases d with
  | lit l => cases l <;> simp [Rows.uptoBulk]
  | nil => simp [Rows.uptoBulk]
  | ptr d => simp [Rows.uptoBulk]
  | slice elems spare => simp [Rows.uptoBulk]
  | agg parts => simp [Rows.uptoBulk]
  | iface t d => simp [Rows.uptoBulk]
  | map entries => simp [Rows.uptoBulk]
  | held h => simp [Rows.uptoBulk]
theorem part_le {H : Type} {d : DataW H} {l : List (DataW H)} (h : d ∈ l) : Rows.uptoBulk d ≤ Rows.uptoBulkAll l := by
  induction l with
  | nil => cases h
  | cons x r ih =>
    simp only [Rows.uptoBulkAll]
    cases List.mem_cons.1 h with
    | inl e => subst e; omega
    | inr e => have := ih e; omega
theorem bulk_append {H : Type} (l r : List (DataW H)) : Rows.uptoBulkAll (l ++ r) = Rows.uptoBulkAll l + Rows.uptoBulkAll r := by
  induction l with
  | nil => simp [Rows.uptoBulkAll]
  | cons x l ih => simp only [List.cons_append, Rows.uptoBulkAll, ih]; omega

section
variable {H : Type} {enc : TypeId × Value → H} {w : World} {base : Nat} {spare : Nat → Bool} {held : Bool}

theorem open_fld {fuel : Nat} {cs : List Value} {x : DataW H × List MemPlace} (h : DataW.trod enc Tryz.prog w base spare held fuel 67 cs = some x) :
    ∃ y : Fld, cs = fldC y ∧ (Lit.int .i64 y.kd).wf = true ∧ y.nm.size ≤ maxLen := by
  obtain ⟨xs, n, _, _, hlen, hxl, hf⟩ := DataW.trod_struct Tryz.underlying67 h
  rw [cellsField] at hlen
  match cs, hlen, xs, hxl with
  | [a, b, c, d, e], _, [y0, y1, y2, y3, y4], _ =>
    have h0 := hf 0 _ rfl
    have h1 := hf 1 _ rfl
    have h2 := hf 2 _ rfl
    have h3 := hf 3 _ rfl
    have h4 := hf 4 _ rfl
    change DataW.trod enc Tryz.prog w base spare held n 9 (([a, b, c, d, e].drop 0).take (Tryz.prog.cellsOf 9)) = _ at h0
    change DataW.trod enc Tryz.prog w base spare held n 3 (([a, b, c, d, e].drop 1).take (Tryz.prog.cellsOf 3)) = _ at h1
    change DataW.trod enc Tryz.prog w base spare held n 4 (([a, b, c, d, e].drop 2).take (Tryz.prog.cellsOf 4)) = _ at h2
    change DataW.trod enc Tryz.prog w base spare held n 4 (([a, b, c, d, e].drop 3).take (Tryz.prog.cellsOf 4)) = _ at h3
    change DataW.trod enc Tryz.prog w base spare held n 4 (([a, b, c, d, e].drop 4).take (Tryz.prog.cellsOf 4)) = _ at h4
    rw [cellsStr] at h0
    rw [cellsInt] at h1
    rw [cellsBool] at h2 h3 h4
    obtain ⟨s0, e0, _, z0⟩ := DataW.trod_string Tryz.underlying9 (h0.trans rfl)
    obtain ⟨n1, e1, _, w1⟩ := DataW.trod_int Tryz.underlying3 (h1.trans rfl)
    obtain ⟨b2, e2, _⟩ := DataW.trod_bool Tryz.underlying4 (h2.trans rfl)
    obtain ⟨b3, e3, _⟩ := DataW.trod_bool Tryz.underlying4 (h3.trans rfl)
    obtain ⟨b4, e4, _⟩ := DataW.trod_bool Tryz.underlying4 (h4.trans rfl)
    refine ⟨⟨s0, n1, b2, b3, b4⟩, ?_, w1, z0⟩
    simp at e0 e1 e2 e3 e4
    simp [fldC, e0, e1, e2, e3, e4]

theorem open_fldv {r : Reach} {b0 : Nat} {v : Value} {d : DataW H} {ps : List MemPlace} (hval : Value.okWide Tryz.prog w r b0 67 v) (hd : DataW.Trod enc Tryz.prog w base spare held 67 v d ps) :
    ∃ y : Fld, v = fldV y ∧ (Lit.int .i64 y.kd).wf = true ∧ y.nm.size ≤ maxLen := by
  obtain ⟨cs, rfl, hsz⟩ := okWide_struct Tryz.underlying67 hval
  obtain ⟨m, hm⟩ := hd
  obtain ⟨y, hy, hw⟩ := open_fld hm
  refine ⟨y, ?_, hw⟩
  rw [cellsField] at hsz
  match cs, hsz with
  | ⟨[a, b, c, d, e]⟩, _ =>
    simp [Value.cells, fldC] at hy
    obtain ⟨rfl, rfl, rfl, rfl, rfl⟩ := hy
    rfl
end
end Go.Proofs.YtkcfgcdlnojaeaaGreatDoor.OpenField

namespace Go.Proofs.YtkcfgcdlnojaeaaGreatDoor.BindBase
set_option maxRecDepth 100000
open Go.RowKit Go.PlainAid Base Query OpenField

theorem results_cell {fn : Func} {t : Tmp} {ty : TypeId} (h : fn.results = #[.cell t ty]) {tmps : Array Value} {P : Program} {w : World} {a : Addr} {v : Value} (ht : tmps.getD t undef = .pointer (some a)) (hv : (loadVar ty a).run P w = .ok v w) :
    (results fn tmps).run P w = .ok v w := by
  have ht' : tmps[t]?.getD undef = .pointer (some a) := by simpa using ht
  simp [results, h, ht', hv, asAddr]

def bareQ (k f : Int) (t : ByteArray) : Array Value :=
  #[.int .i64 k, .int .i64 f, .string t, .slice none 0 0, .slice none 0 0, .int .i64 0, .int .u64 0, .bool false, .bool false, .string ⟨#[]⟩, .bool false, .bool false, .string ⟨#[]⟩, .slice none 0 0, .slice none 0 0]

set_option maxHeartbeats 1000000 in
theorem none_any (w : World) : Calls Tryz.prog 51 #[] w fun e w' => e = .returned (.agg (bareQ 1 0 ⟨#[]⟩)) ∧ Below w.heap.size w w' := by
  go_enter Tryz.func51, Tryz.ntmps51
  go_wp2_with fail
  exact bodyPost_ret (v := .agg (bareQ 1 0 ⟨#[]⟩)) (by simp [results, Tryz.results51, go_sem, bareQ]) rfl ⟨rfl, (by exact Base.bel)⟩

def hasR (a b c : Bool) (m : Int) (d e f : Bool) (k : Int) (p : Bool) (n : List UInt8) : List Value := [.bool a, .bool b, .bool c, .int .i64 m, .bool d, .bool e, .bool f, .int .i64 k, .bool p, .string ⟨n.toArray⟩]
def kindRow : Nat → List Value
  | 1 => hasR false false false 0 false false false 0 true [110, 111, 110, 101]
  | 2 => hasR false false false 0 false false false 0 true [97, 108, 108]
  | 3 => hasR true false false 0 false false false 0 true [104, 97, 115]
  | 4 => hasR true true true 0 false false false 0 true [116, 101, 114, 109]
  | 5 => hasR true false true 999999999 false true false 0 true [112, 104, 114, 97, 115, 101]
  | 6 => hasR true true false 0 false false false 0 false [112, 114, 101, 102, 105, 120]
  | 7 => hasR true true false 0 false false false 0 false [119, 105, 108, 100]
  | 8 => hasR true true false 2 false false false 0 false [102, 117, 122, 122, 121]
  | 9 => hasR true false false 0 true false false 0 false [115, 112, 97, 110]
  | 10 => hasR false false false 999999999 false false true (-1) true [108, 105, 115, 116]
  | 11 => hasR false false false 0 false false false (-1) true [109, 97, 120]
  | 12 => hasR false false false 0 false false false 1 true [110, 111, 116]
  | 13 => hasR false false true 0 false false false 1 true [98, 111, 111, 115, 116]
  | 14 => hasR false false true 0 false false false 1 true [99, 111, 110, 115, 116]
  | _ => hasR false false false 0 false false false 0 false []
def kindsL : List Value := kindRow 0 ++ kindRow 1 ++ kindRow 2 ++ kindRow 3 ++ kindRow 4 ++ kindRow 5 ++ kindRow 6 ++ kindRow 7 ++ kindRow 8 ++ kindRow 9 ++ kindRow 10 ++ kindRow 11 ++ kindRow 12 ++ kindRow 13 ++ kindRow 14
def kindsA : Array Value := kindsL.toArray

theorem store_eq {P : Program} {a : Addr} {X Y : List Value} {W W' : World} {α : Type} {f : Unit → World → Result α} {G : Result α → Prop} (h : X = Y) (h2 : (storeCells a Y 0).run P W = .ok () W') (h3 : G (f () W')) :
    G (((storeCells a X 0).run P W).andThen f) := by
  subst h; rw [h2]; exact h3
theorem kindsInfo : (Tryz.prog.info? 86).map (·.size) = some kindsA.size := by kernel_rfl
theorem kindsUnd : Tryz.prog.underlying 86 = some (.array 15 85) := by kernel_rfl
theorem kindsOne : kindsA.all (·.oneCell') = true := by kernel_rfl

set_option maxHeartbeats 4000000 in
theorem kinds_any (w : World) : Calls Tryz.prog 47 #[] w fun e w' => e = .returned (.agg kindsA) ∧ Below w.heap.size w w' := by
  go_enter Tryz.func47, Tryz.ntmps47
  go_wp2_with fail
  refine store_eq (G := Oper.upon _ _ _ _ _) (Y := kindsA.toList) (by kernel_rfl) (run_storeCells_new w 86 _ kindsA kindsInfo (by kernel_rfl) kindsOne) ?_
  generalize (Value.agg _) = X
  go_wp2_with fail
  exact bodyPost_ret (results_cell rfl rfl (run_loadVar_new w 86 kindsA 15 85 kindsUnd kindsInfo)) rfl ⟨rfl, (by exact Base.bel)⟩
theorem qrow {w : World} {g : Nat} {t : TypeId} {v0 v1 v2 v3 v4 v5 v6 v7 v8 v9 v10 v11 v12 v13 v14 : Value} (h : Blk w g t #[v0, v1, v2, v3, v4, v5, v6, v7, v8, v9, v10, v11, v12, v13, v14]) : w.cell? ⟨g, 0, none⟩ = some v0 ∧ w.cell? ⟨g, 1, none⟩ = some v1 ∧ w.cell? ⟨g, 2, none⟩ = some v2 ∧ w.cell? ⟨g, 3, none⟩ = some v3 ∧ w.cell? ⟨g, 4, none⟩ = some v4 ∧ w.cell? ⟨g, 5, none⟩ = some v5 ∧ w.cell? ⟨g, 6, none⟩ = some v6 ∧ w.cell? ⟨g, 7, none⟩ = some v7 ∧ w.cell? ⟨g, 8, none⟩ = some v8 ∧ w.cell? ⟨g, 9, none⟩ = some v9 ∧ w.cell? ⟨g, 10, none⟩ = some v10 ∧ w.cell? ⟨g, 11, none⟩ = some v11 ∧ w.cell? ⟨g, 12, none⟩ = some v12 ∧ w.cell? ⟨g, 13, none⟩ = some v13 ∧ w.cell? ⟨g, 14, none⟩ = some v14 :=
  ⟨h.cell 0, h.cell 1, h.cell 2, h.cell 3, h.cell 4, h.cell 5, h.cell 6, h.cell 7, h.cell 8, h.cell 9, h.cell 10, h.cell 11, h.cell 12, h.cell 13, h.cell 14⟩
theorem hrow {w : World} {g : Nat} {t : TypeId} {v0 v1 v2 v3 v4 v5 v6 v7 v8 v9 : Value} (h : Blk w g t #[v0, v1, v2, v3, v4, v5, v6, v7, v8, v9]) : w.cell? ⟨g, 0, none⟩ = some v0 ∧ w.cell? ⟨g, 1, none⟩ = some v1 ∧ w.cell? ⟨g, 2, none⟩ = some v2 ∧ w.cell? ⟨g, 3, none⟩ = some v3 ∧ w.cell? ⟨g, 4, none⟩ = some v4 ∧ w.cell? ⟨g, 5, none⟩ = some v5 ∧ w.cell? ⟨g, 6, none⟩ = some v6 ∧ w.cell? ⟨g, 7, none⟩ = some v7 ∧ w.cell? ⟨g, 8, none⟩ = some v8 ∧ w.cell? ⟨g, 9, none⟩ = some v9 :=
  ⟨h.cell 0, h.cell 1, h.cell 2, h.cell 3, h.cell 4, h.cell 5, h.cell 6, h.cell 7, h.cell 8, h.cell 9⟩

end Go.Proofs.YtkcfgcdlnojaeaaGreatDoor.BindBase
