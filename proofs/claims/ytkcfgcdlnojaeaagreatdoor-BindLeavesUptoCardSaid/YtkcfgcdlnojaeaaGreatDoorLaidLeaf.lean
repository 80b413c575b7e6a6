/-
  What the listed variables hold of the leaves' rows.
-/
import Derived.Test.YtkcfgcdlnojaeaaGreatDoorDLaid
import Derived.Test.YtkcfgcdlnojaeaaGreatDoorNodeLeaf
set_option linter.unusedVariables false
set_option linter.unusedSimpArgs false
namespace Go.Proofs.YtkcfgcdlnojaeaaGreatDoor.LaidLeaf
set_option maxRecDepth 100000
open Go.ChangeShapes Go.WideShapes Go.RowKit Base NodeTerm NodeLeaf StopsWalk LaidBind

theorem schema_laid2 {W : World} (h : laidMet Tryz.prog theLaid W) : ∃ a, W.cell? ⟨0, 0, none⟩ = some (.iface 274 (.pointer (some a))) := by
  have h3 := tailN 3 h
  obtain ⟨a, s, hv, _⟩ := laid_sentinel (g := 0) h3 (by kernel_rfl) (by kernel_rfl) Tryz.underlying42 err_name Tryz.underlying274 Tryz.underlying298 rfl rfl Tryz.underlying9 (by kernel_rfl) (by kernel_rfl)
  exact ⟨a, World.var?_cell (by kernel_rfl) hv 0⟩

theorem ask2_laid {W : World} (h : laidMet Tryz.prog theLaid W) : Ask2 W := by
  have h5 := tailN 5 h
  obtain ⟨ps, ⟨g', t', cs, fuel, p, q, hg', ht', hvar, hd, _, _⟩, _⟩ := h5
  obtain rfl : 2 = g' := Option.some.inj ((show Tryz.prog.globalNamed "concord/printer.asks" = some 2 by kernel_rfl).symm.trans hg')
  obtain rfl : 151 = t' := Option.some.inj ((show (Tryz.prog.globals[2]?).map (·.type) = some 151 by kernel_rfl).symm.trans ht')
  obtain ⟨xs, m, _, ex, hlen, hl, hel⟩ := DataW.trod_array Tryz.underlying151 hd
  have e1 := hel 2 (by decide)
  rw [cellsAsk] at e1
  have hx : Rows.laid_concord_printer_asks = DataW.agg (xs.map (·.1)) := congrArg Prod.fst ex
  have hx2 : (xs.map (·.1))[2]? = some (DataW.agg [.lit (.bool true), .lit (.bool true), .lit (.int .i64 0), .lit (.int .i64 999999999), .lit (.bool false), .lit (.bool false), .lit (.int .i64 0), .lit (.int .i64 0), .lit (.int .i64 6), .lit (.string [])]) := by
    unfold Rows.laid_concord_printer_asks at hx
    rw [← DataW.agg.inj hx]
    rfl
  rw [List.getElem?_map] at hx2
  obtain ⟨y, hy, hy1⟩ := Option.map_eq_some_iff.1 hx2
  rw [hy] at e1
  obtain ⟨y1, y2⟩ := y
  have hy1' : y1 = _ := hy1
  subst hy1'
  have hr := ask_row e1
  intro j u hu
  have hj : j < 10 := by
    have := (Array.getElem?_eq_some_iff.1 hu).1
    exact this
  have h1 := congrArg (·[j]?) hr
  simp only [Nat.reduceMul] at h1
  rw [List.getElem?_take, if_pos hj, List.getElem?_drop] at h1
  have h2 : W.cell? ⟨2, 20 + j, none⟩ = cs[20 + j]? := World.var?_cell (by kernel_rfl) hvar (20 + j)
  rw [h2, ← Array.getElem?_toList, h1]
  rw [← hu]
  unfold ask2
  rw [List.getElem?_toArray]

theorem ask7_laid {W : World} (h : laidMet Tryz.prog theLaid W) : Ask7 W := by
  have h5 := tailN 5 h
  obtain ⟨ps, ⟨g', t', cs, fuel, p, q, hg', ht', hvar, hd, _, _⟩, _⟩ := h5
  obtain rfl : 2 = g' := Option.some.inj ((show Tryz.prog.globalNamed "concord/printer.asks" = some 2 by kernel_rfl).symm.trans hg')
  obtain rfl : 151 = t' := Option.some.inj ((show (Tryz.prog.globals[2]?).map (·.type) = some 151 by kernel_rfl).symm.trans ht')
  obtain ⟨xs, m, _, ex, hlen, hl, hel⟩ := DataW.trod_array Tryz.underlying151 hd
  have e1 := hel 7 (by decide)
  rw [cellsAsk] at e1
  have hx : Rows.laid_concord_printer_asks = DataW.agg (xs.map (·.1)) := congrArg Prod.fst ex
  have hx2 : (xs.map (·.1))[7]? = some (DataW.agg [.lit (.bool true), .lit (.bool false), .lit (.int .i64 0), .lit (.int .i64 0), .lit (.bool false), .lit (.bool false), .lit (.int .i64 0), .lit (.int .i64 0), .lit (.int .i64 6), .lit (.string [])]) := by
    unfold Rows.laid_concord_printer_asks at hx
    rw [← DataW.agg.inj hx]
    rfl
  rw [List.getElem?_map] at hx2
  obtain ⟨y, hy, hy1⟩ := Option.map_eq_some_iff.1 hx2
  rw [hy] at e1
  obtain ⟨y1, y2⟩ := y
  have hy1' : y1 = _ := hy1
  subst hy1'
  have hr := ask_row e1
  intro j u hu
  have hj : j < 10 := by
    have := (Array.getElem?_eq_some_iff.1 hu).1
    exact this
  have h1 := congrArg (·[j]?) hr
  simp only [Nat.reduceMul] at h1
  rw [List.getElem?_take, if_pos hj, List.getElem?_drop] at h1
  have h2 : W.cell? ⟨2, 70 + j, none⟩ = cs[70 + j]? := World.var?_cell (by kernel_rfl) hvar (70 + j)
  rw [h2, ← Array.getElem?_toList, h1]
  rw [← hu]
  unfold ask7
  rw [List.getElem?_toArray]
end Go.Proofs.YtkcfgcdlnojaeaaGreatDoor.LaidLeaf
