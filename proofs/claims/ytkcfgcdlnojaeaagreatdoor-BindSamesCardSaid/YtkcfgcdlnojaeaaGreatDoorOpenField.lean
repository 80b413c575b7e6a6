/-
  An argument that is a field, read as data, in cells.
-/
import Derived.Test.YtkcfgcdlnojaeaaGreatDoorRows
import Derived.Test.YtkcfgcdlnojaeaaGreatDoorBase
import Derived.Deep.Slices
import Derived.Deep.Fields
import Derived.ChangeSame
import Derived.SizedLaws
namespace Go.Proofs.YtkcfgcdlnojaeaaGreatDoor.OpenField
set_option maxRecDepth 100000
open Go.ChangeShapes Go.WideShapes Go.Deep Base

structure Fld where
  nm : ByteArray
  kd : Int
  fold : Bool
  stop : Bool
  stem : Bool
instance : Inhabited Fld := ⟨⟨ByteArray.empty, 0, false, false, false⟩⟩
def fldC (f : Fld) : List Value := [.string f.nm, .int .i64 f.kd, .bool f.fold, .bool f.stop, .bool f.stem]
def fldV (f : Fld) : Value := .agg #[.string f.nm, .int .i64 f.kd, .bool f.fold, .bool f.stop, .bool f.stem]

theorem cellsField : Tryz.prog.cellsOf 67 = 5 := by kernel_rfl
theorem cellsStr : Tryz.prog.cellsOf 9 = 1 := by kernel_rfl
theorem cellsInt : Tryz.prog.cellsOf 3 = 1 := by kernel_rfl
theorem cellsBool : Tryz.prog.cellsOf 4 = 1 := by kernel_rfl

theorem one_le {H : Type} (d : DataW H) : 1 ≤ Rows.uptoBulk d := by
  cases d with
  | lit l => cases l <;> simp [Rows.uptoBulk]
  | nil => simp [Rows.uptoBulk]
  | ptr d => simp [Rows.uptoBulk]
  | slice elems spare => simp [Rows.uptoBulk]
  | agg parts => simp [Rows.uptoBulk]
  | iface t d => simp [Rows.uptoBulk]
  | map entries => simp [Rows.uptoBulk]
  | held h => simp [Rows.uptoBulk]
theorem part_le {H : Type} {d : DataW H} {l : List (DataW H)} (h : d ∈ l) : Rows.uptoBulk d ≤ Rows.uptoBulkAll l := by
  induction l with
  | nil => cases h
  | cons x r ih =>
    simp only [Rows.uptoBulkAll]
    cases List.mem_cons.1 h with
    | inl e => subst e; omega
    | inr e => have := ih e; omega
theorem bulk_append {H : Type} (l r : List (DataW H)) : Rows.uptoBulkAll (l ++ r) = Rows.uptoBulkAll l + Rows.uptoBulkAll r := by
  induction l with
  | nil => simp [Rows.uptoBulkAll]
  | cons x l ih => simp only [List.cons_append, Rows.uptoBulkAll, ih]; omega

section
variable {H : Type} {enc : TypeId × Value → H} {w : World} {base : Nat} {spare : Nat → Bool} {held : Bool}

/-- One field's cells. -/
theorem open_fld {fuel : Nat} {cs : List Value} {x : DataW H × List MemPlace} (h : DataW.trod enc Tryz.prog w base spare held fuel 67 cs = some x) :
    ∃ y : Fld, cs = fldC y ∧ (Lit.int .i64 y.kd).wf = true ∧ y.nm.size ≤ maxLen := by
  obtain ⟨xs, n, _, _, hlen, hxl, hf⟩ := DataW.trod_struct Tryz.underlying67 h
  rw [cellsField] at hlen
  match cs, hlen, xs, hxl with
  | [a, b, c, d, e], _, [y0, y1, y2, y3, y4], _ =>
    have h0 := hf 0 _ rfl
    have h1 := hf 1 _ rfl
    have h2 := hf 2 _ rfl
    have h3 := hf 3 _ rfl
    have h4 := hf 4 _ rfl
    change DataW.trod enc Tryz.prog w base spare held n 9 (([a, b, c, d, e].drop 0).take (Tryz.prog.cellsOf 9)) = _ at h0
    change DataW.trod enc Tryz.prog w base spare held n 3 (([a, b, c, d, e].drop 1).take (Tryz.prog.cellsOf 3)) = _ at h1
    change DataW.trod enc Tryz.prog w base spare held n 4 (([a, b, c, d, e].drop 2).take (Tryz.prog.cellsOf 4)) = _ at h2
    change DataW.trod enc Tryz.prog w base spare held n 4 (([a, b, c, d, e].drop 3).take (Tryz.prog.cellsOf 4)) = _ at h3
    change DataW.trod enc Tryz.prog w base spare held n 4 (([a, b, c, d, e].drop 4).take (Tryz.prog.cellsOf 4)) = _ at h4
    rw [cellsStr] at h0
    rw [cellsInt] at h1
    rw [cellsBool] at h2 h3 h4
    obtain ⟨s0, e0, _, z0⟩ := DataW.trod_string Tryz.underlying9 (h0.trans rfl)
    obtain ⟨n1, e1, _, w1⟩ := DataW.trod_int Tryz.underlying3 (h1.trans rfl)
    obtain ⟨b2, e2, _⟩ := DataW.trod_bool Tryz.underlying4 (h2.trans rfl)
    obtain ⟨b3, e3, _⟩ := DataW.trod_bool Tryz.underlying4 (h3.trans rfl)
    obtain ⟨b4, e4, _⟩ := DataW.trod_bool Tryz.underlying4 (h4.trans rfl)
    refine ⟨⟨s0, n1, b2, b3, b4⟩, ?_, w1, z0⟩
    simp at e0 e1 e2 e3 e4
    simp [fldC, e0, e1, e2, e3, e4]

/-- A field by value. -/
theorem open_fldv {r : Reach} {b0 : Nat} {v : Value} {d : DataW H} {ps : List MemPlace} (hval : Value.okWide Tryz.prog w r b0 67 v) (hd : DataW.Trod enc Tryz.prog w base spare held 67 v d ps) :
    ∃ y : Fld, v = fldV y ∧ (Lit.int .i64 y.kd).wf = true ∧ y.nm.size ≤ maxLen := by
  obtain ⟨cs, rfl, hsz⟩ := okWide_struct Tryz.underlying67 hval
  obtain ⟨m, hm⟩ := hd
  obtain ⟨y, hy, hw⟩ := open_fld hm
  refine ⟨y, ?_, hw⟩
  rw [cellsField] at hsz
  match cs, hsz with
  | ⟨[a, b, c, d, e]⟩, _ =>
    simp [Value.cells, fldC] at hy
    obtain ⟨rfl, rfl, rfl, rfl, rfl⟩ := hy
    rfl
end
end Go.Proofs.YtkcfgcdlnojaeaaGreatDoor.OpenField
