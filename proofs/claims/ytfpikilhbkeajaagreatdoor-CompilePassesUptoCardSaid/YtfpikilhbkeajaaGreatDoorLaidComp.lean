/-
  What the listed variables hold, read off the row's condition.
-/
import Derived.Test.YtfpikilhbkeajaaGreatDoorRows
import Derived.Test.YtfpikilhbkeajaaGreatDoorCPrg
import Derived.OpenShut
import Derived.LaidMore
import Derived.Stop.Joined
import Derived.Stop.LaidErr
import Derived.Lay
import Derived.MakeChecks
set_option linter.unusedVariables false
set_option linter.unusedSimpArgs false
namespace Go.Proofs.YtfpikilhbkeajaaGreatDoor.LaidComp
set_option maxRecDepth 100000
open Go.ChangeShapes Go.WideShapes Go.RowKit Base Args GoodPl

theorem tailN {W : World} : ∀ (n : Nat) {l : List (String × DataW Unit)}, laidMet Tryz.prog l W → laidMet Tryz.prog (l.drop n) W
  | 0, _, h => h
  | _ + 1, [], h => h
  | n + 1, _ :: _, h => tailN n (laidMet.tail h)
theorem err_name (u : TypeId) (h : Tryz.prog.typeName? 3 u = some "*errors.errorString") : u = 222 :=
  have star : "*" ++ "errors.errorString" = "*errors.errorString" := by decide
  typeName_ptr_named (nm := "errors.errorString") (by rw [star]; kernel_rfl) (by kernel_rfl) (by decide) u (by rw [star]; exact h)
theorem one_at {cs : List Value} {k : Nat} {v : Value} (h : (cs.drop k).take 1 = [v]) : cs[k]? = some v := by
  have := congrArg (·[0]?) h
  simpa [List.getElem?_take, List.getElem?_drop] using this
theorem cellsInfo : Tryz.prog.cellsOf 138 = 2 := by kernel_rfl
theorem cellsInt : Tryz.prog.cellsOf 3 = 1 := by kernel_rfl
theorem cellsStr : Tryz.prog.cellsOf 9 = 1 := by kernel_rfl
theorem info_row {fuel : Nat} {W : World} {cs : List Value} {p : List MemPlace} {s : List UInt8} {n : Int} (h : DataW.trod (fun _ => ()) Tryz.prog W 0 (fun _ => true) false fuel 138 cs = some (.agg [.lit (.string s), .lit (.int .i64 n)], p)) : cs[1]? = some (.int .i64 n) := by
  obtain ⟨xs, m, _, hx, hlen, hxl, hf⟩ := DataW.trod_struct Tryz.underlying138 h
  rw [cellsInfo] at hlen
  match cs, hlen, xs, hxl with
  | [c0, c1], _, [y0, y1], _ =>
    have h1 := hf 1 _ rfl
    change DataW.trod _ Tryz.prog W 0 _ false m 3 (([c0, c1].drop 1).take (Tryz.prog.cellsOf 3)) = _ at h1
    rw [cellsInt] at h1
    obtain ⟨n1, e1, d1, _⟩ := DataW.trod_int Tryz.underlying3 (h1.trans rfl)
    simp at e1
    have hx1 := congrArg Prod.fst hx
    simp only [List.map_cons, List.map_nil] at hx1
    rw [d1] at hx1
    simp only [DataW.agg.injEq, List.cons.injEq, DataW.lit.injEq, Lit.int.injEq, true_and, and_true] at hx1
    obtain ⟨_, f1⟩ := hx1
    subst e1 f1
    rfl
theorem tab_in {l : List (String × DataW Unit)} {W : World} (h : laidMet Tryz.prog (("concord/isa.table", Rows.laid_concord_isa_table) :: l) W) : Tab W := by
  obtain ⟨ps, ⟨g', t', cs, fuel, p, q, hg', ht', hvar, hd, _, _⟩, _⟩ := h
  obtain rfl : 24 = g' := Option.some.inj ((show Tryz.prog.globalNamed "concord/isa.table" = some 24 by kernel_rfl).symm.trans hg')
  obtain rfl : 139 = t' := Option.some.inj ((show (Tryz.prog.globals[24]?).map (·.type) = some 139 by kernel_rfl).symm.trans ht')
  obtain ⟨xs, m, _, ex, hlen, hl, hel⟩ := DataW.trod_array Tryz.underlying139 hd
  intro k hk
  have e1 := hel k hk
  rw [cellsInfo] at e1
  have hx : Rows.laid_concord_isa_table = DataW.agg (xs.map (·.1)) := congrArg Prod.fst ex
  have hx2 : ∃ s, (xs.map (·.1))[k]? = some (DataW.agg [.lit (.string s), .lit (.int .i64 (argN k : Int))]) := by
    unfold Rows.laid_concord_isa_table at hx
    rw [← DataW.agg.inj hx]
    rcases (by omega : k = 0 ∨ k = 1 ∨ k = 2 ∨ k = 3 ∨ k = 4 ∨ k = 5 ∨ k = 6 ∨ k = 7 ∨ k = 8 ∨ k = 9 ∨ k = 10 ∨ k = 11 ∨ k = 12 ∨ k = 13 ∨ k = 14 ∨ k = 15 ∨ k = 16) with rfl | rfl | rfl | rfl | rfl | rfl | rfl | rfl | rfl | rfl | rfl | rfl | rfl | rfl | rfl | rfl | rfl <;> exact ⟨_, rfl⟩
  obtain ⟨s, hx2⟩ := hx2
  rw [List.getElem?_map] at hx2
  obtain ⟨y, hy, hy1⟩ := Option.map_eq_some_iff.1 hx2
  rw [hy] at e1
  obtain ⟨y1, y2⟩ := y
  have hy1' : y1 = _ := hy1
  subst hy1'
  have hr := info_row e1
  have h1 : (List.take 2 (List.drop (k * 2) cs.toList))[1]? = some (.int .i64 (argN k : Int)) := hr
  rw [List.getElem?_take, if_pos (by decide), List.getElem?_drop] at h1
  have h2 : W.cell? ⟨24, k * 2 + 1, none⟩ = cs[k * 2 + 1]? := World.var?_cell (by kernel_rfl) hvar (k * 2 + 1)
  rw [h2, ← Array.getElem?_toList, h1]
theorem tab_size {W : World} (h : Tab W) : 24 < W.heap.size := World.block_lt_of_cell? W _ (h 0 (by decide))
theorem node_in {l : List (String × DataW Unit)} {W : World} (h : laidMet Tryz.prog (("concord/api.ErrNode", Rows.laid_concord_api_ErrNode) :: l) W) : ∃ a, W.cell? ⟨0, 0, none⟩ = some (errV a) := by
  obtain ⟨a, s, hv, _⟩ := laid_sentinel (g := 0) h (by kernel_rfl) (by kernel_rfl) Tryz.underlying42 err_name Tryz.underlying222 Tryz.underlying242 rfl rfl Tryz.underlying9 (by kernel_rfl) (by kernel_rfl)
  exact ⟨a, World.var?_cell (by kernel_rfl) hv 0⟩
theorem code_in {l : List (String × DataW Unit)} {W : World} (h : laidMet Tryz.prog (("concord/api.ErrCode", Rows.laid_concord_api_ErrCode) :: l) W) : ∃ a, W.cell? ⟨16, 0, none⟩ = some (errV a) := by
  obtain ⟨a, s, hv, _⟩ := laid_sentinel (g := 16) h (by kernel_rfl) (by kernel_rfl) Tryz.underlying42 err_name Tryz.underlying222 Tryz.underlying242 rfl rfl Tryz.underlying9 (by kernel_rfl) (by kernel_rfl)
  exact ⟨a, World.var?_cell (by kernel_rfl) hv 0⟩

def laid5 : List (String × DataW Unit) := [("concord/api.ErrShort", Rows.laid_concord_api_ErrShort), ("concord/api.ErrVarint", Rows.laid_concord_api_ErrVarint), ("concord/api.ErrNode", Rows.laid_concord_api_ErrNode), ("concord/api.ErrCode", Rows.laid_concord_api_ErrCode), ("concord/isa.table", Rows.laid_concord_isa_table)]
theorem all5 {W : World} (h : laidMet Tryz.prog laid5 W) : Tab W ∧ (∃ a, W.cell? ⟨0, 0, none⟩ = some (errV a)) ∧ ∃ a, W.cell? ⟨16, 0, none⟩ = some (errV a) :=
  ⟨tab_in (tailN 4 h), node_in (tailN 2 h), code_in (tailN 3 h)⟩

theorem door_met (os : Os) (args : Array Value) : laidMetH Tryz.prog laid5 ((World.laidAll Tryz.prog os laid5).forCall (fun _ _ => 0) ⟨#[], args, []⟩).memory := by
  rw [MakeChecks.laidMetH_plain _ _ _ (by kernel_rfl)]; exact laidMet_laidAll _ (by kernel_rfl) (by kernel_rfl)
theorem met {W : World} (h : laidMetH Tryz.prog laid5 W) : laidMet Tryz.prog laid5 W := by
  rwa [MakeChecks.laidMetH_plain _ _ _ (by kernel_rfl)] at h
end Go.Proofs.YtfpikilhbkeajaaGreatDoor.LaidComp
