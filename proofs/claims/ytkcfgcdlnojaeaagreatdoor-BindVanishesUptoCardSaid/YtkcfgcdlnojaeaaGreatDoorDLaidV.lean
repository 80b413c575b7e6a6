/-
  What the listed variables hold, read off the row's condition.
  The laid table asks, row by row; the laid error of schemas.
-/
import Derived.Test.YtkcfgcdlnojaeaaGreatDoorRows
import Derived.Test.YtkcfgcdlnojaeaaGreatDoorDNode
import Derived.Test.YtkcfgcdlnojaeaaGreatDoorDChains
import Derived.Lib.LaidTab
import Derived.Lib.LaidU8
import Derived.OpenShut
import Derived.LaidMore
import Derived.Stop.Joined
import Derived.Stop.LaidErr
import Derived.Lay
import Derived.MakeChecks
import Derived.Test.YtkcfgcdlnojaeaaGreatDoorNodeOwn
set_option linter.unusedVariables false
set_option linter.unusedSimpArgs false
namespace Go.Proofs.YtkcfgcdlnojaeaaGreatDoor.LaidBind
set_option maxRecDepth 100000
open Go.ChangeShapes Go.WideShapes Go.RowKit Base NodeTerm StopsWalk

def theLaid : List (String × DataW Unit) := [("math/bits.deBruijn32tab", Rows.laid_math_bits_deBruijn32tab), ("math/bits.deBruijn64tab", Rows.laid_math_bits_deBruijn64tab), ("internal/strconv.uint64pow10", Rows.laid_internal_strconv_uint64pow10), ("concord/api.ErrSchema", Rows.laid_concord_api_ErrSchema), ("concord/api.ErrNode", Rows.laid_concord_api_ErrNode), ("concord/printer.asks", Rows.laid_concord_printer_asks), ("unicode.White_Space", Rows.laid_unicode_White_Space), ("strings.asciiSpace", Rows.laid_strings_asciiSpace)]

theorem tailN {W : World} : ∀ (n : Nat) {l : List (String × DataW Unit)}, laidMet Tryz.prog l W → laidMet Tryz.prog (l.drop n) W
  | 0, _, h => h
  | _ + 1, [], h => h
  | n + 1, _ :: _, h => tailN n (laidMet.tail h)

theorem tab_laid {W : World} (h : laidMet Tryz.prog theLaid W) : Tab W := by
  have h7 := tailN 7 h
  have e : theLaid.drop 7 = [("strings.asciiSpace", Lib.tabData .u8 Lib.asciiSpaceTab)] := by kernel_rfl
  rw [e] at h7
  exact Lib.tabIs_of_head (g := 3) (by kernel_rfl) (by kernel_rfl) Tryz.underlying209 Tryz.underlying5 (by kernel_rfl) (by kernel_rfl) h7

theorem tab_size {W : World} (h : Tab W) : 3 < W.heap.size := by
  have := h.cell (g := 3) (by kernel_rfl) 0 (by rw [Lib.asciiSpaceTab_length]; decide)
  exact World.block_lt_of_cell? W _ this

theorem err_name (u : TypeId) (h : Tryz.prog.typeName? 3 u = some "*errors.errorString") : u = 274 :=
  have star : "*" ++ "errors.errorString" = "*errors.errorString" := by decide
  typeName_ptr_named (nm := "errors.errorString") (by rw [star]; kernel_rfl) (by kernel_rfl) (by decide) u (by rw [star]; exact h)

theorem schema_laid {W : World} (h : laidMet Tryz.prog theLaid W) : ∃ es, W.cell? ⟨0, 0, none⟩ = some es := by
  have h3 := tailN 3 h
  obtain ⟨a, s, hv, _⟩ := laid_sentinel (g := 0) h3 (by kernel_rfl) (by kernel_rfl) Tryz.underlying42 err_name Tryz.underlying274 Tryz.underlying298 rfl rfl Tryz.underlying9 (by kernel_rfl) (by kernel_rfl)
  exact ⟨_, World.var?_cell (by kernel_rfl) hv 0⟩

theorem node_laid {W : World} (h : laidMet Tryz.prog theLaid W) : ∃ a, W.cell? ⟨1, 0, none⟩ = some (.iface 274 (.pointer (some a))) := by
  have h3 := tailN 4 h
  obtain ⟨a, s, hv, _⟩ := laid_sentinel (g := 1) h3 (by kernel_rfl) (by kernel_rfl) Tryz.underlying42 err_name Tryz.underlying274 Tryz.underlying298 rfl rfl Tryz.underlying9 (by kernel_rfl) (by kernel_rfl)
  exact ⟨a, World.var?_cell (by kernel_rfl) hv 0⟩

theorem one_at {cs : List Value} {k : Nat} {v : Value} (h : (cs.drop k).take 1 = [v]) : cs[k]? = some v := by
  have := congrArg (·[0]?) h
  simpa [List.getElem?_take, List.getElem?_drop] using this

theorem cellsAsk : Tryz.prog.cellsOf 150 = 10 := by kernel_rfl
theorem cellsBool : Tryz.prog.cellsOf 4 = 1 := by kernel_rfl
theorem cellsInt : Tryz.prog.cellsOf 3 = 1 := by kernel_rfl
theorem cellsStr : Tryz.prog.cellsOf 9 = 1 := by kernel_rfl

set_option maxHeartbeats 1000000 in
theorem ask_row {fuel : Nat} {W : World} {cs : List Value} {p : List MemPlace} {a0 a1 a4 a5 : Bool} {a2 a3 a6 a7 a8 : Int} (h : DataW.trod (fun _ => ()) Tryz.prog W 0 (fun _ => true) false fuel 150 cs = some (.agg [.lit (.bool a0), .lit (.bool a1), .lit (.int .i64 a2), .lit (.int .i64 a3), .lit (.bool a4), .lit (.bool a5), .lit (.int .i64 a6), .lit (.int .i64 a7), .lit (.int .i64 a8), .lit (.string [])], p)) :
    cs = [.bool a0, .bool a1, .int .i64 a2, .int .i64 a3, .bool a4, .bool a5, .int .i64 a6, .int .i64 a7, .int .i64 a8, .string ⟨#[]⟩] := by
  obtain ⟨xs, n, _, hx, hlen, hxl, hf⟩ := DataW.trod_struct Tryz.underlying150 h
  rw [cellsAsk] at hlen
  match cs, hlen, xs, hxl with
  | [c0, c1, c2, c3, c4, c5, c6, c7, c8, c9], _, [y0, y1, y2, y3, y4, y5, y6, y7, y8, y9], _ =>
    have h0 := hf 0 _ rfl
    change DataW.trod _ Tryz.prog W 0 _ false n 4 (([c0, c1, c2, c3, c4, c5, c6, c7, c8, c9].drop 0).take (Tryz.prog.cellsOf 4)) = _ at h0
    have h1 := hf 1 _ rfl
    change DataW.trod _ Tryz.prog W 0 _ false n 4 (([c0, c1, c2, c3, c4, c5, c6, c7, c8, c9].drop 1).take (Tryz.prog.cellsOf 4)) = _ at h1
    have h2 := hf 2 _ rfl
    change DataW.trod _ Tryz.prog W 0 _ false n 3 (([c0, c1, c2, c3, c4, c5, c6, c7, c8, c9].drop 2).take (Tryz.prog.cellsOf 3)) = _ at h2
    have h3 := hf 3 _ rfl
    change DataW.trod _ Tryz.prog W 0 _ false n 3 (([c0, c1, c2, c3, c4, c5, c6, c7, c8, c9].drop 3).take (Tryz.prog.cellsOf 3)) = _ at h3
    have h4 := hf 4 _ rfl
    change DataW.trod _ Tryz.prog W 0 _ false n 4 (([c0, c1, c2, c3, c4, c5, c6, c7, c8, c9].drop 4).take (Tryz.prog.cellsOf 4)) = _ at h4
    have h5 := hf 5 _ rfl
    change DataW.trod _ Tryz.prog W 0 _ false n 4 (([c0, c1, c2, c3, c4, c5, c6, c7, c8, c9].drop 5).take (Tryz.prog.cellsOf 4)) = _ at h5
    have h6 := hf 6 _ rfl
    change DataW.trod _ Tryz.prog W 0 _ false n 3 (([c0, c1, c2, c3, c4, c5, c6, c7, c8, c9].drop 6).take (Tryz.prog.cellsOf 3)) = _ at h6
    have h7 := hf 7 _ rfl
    change DataW.trod _ Tryz.prog W 0 _ false n 3 (([c0, c1, c2, c3, c4, c5, c6, c7, c8, c9].drop 7).take (Tryz.prog.cellsOf 3)) = _ at h7
    have h8 := hf 8 _ rfl
    change DataW.trod _ Tryz.prog W 0 _ false n 3 (([c0, c1, c2, c3, c4, c5, c6, c7, c8, c9].drop 8).take (Tryz.prog.cellsOf 3)) = _ at h8
    have h9 := hf 9 _ rfl
    change DataW.trod _ Tryz.prog W 0 _ false n 9 (([c0, c1, c2, c3, c4, c5, c6, c7, c8, c9].drop 9).take (Tryz.prog.cellsOf 9)) = _ at h9
    rw [cellsBool] at h0 h1 h4 h5
    rw [cellsInt] at h2 h3 h6 h7 h8
    rw [cellsStr] at h9
    obtain ⟨b0, e0, d0⟩ := DataW.trod_bool Tryz.underlying4 (h0.trans rfl)
    obtain ⟨b1, e1, d1⟩ := DataW.trod_bool Tryz.underlying4 (h1.trans rfl)
    obtain ⟨b2, e2, d2, _⟩ := DataW.trod_int Tryz.underlying3 (h2.trans rfl)
    obtain ⟨b3, e3, d3, _⟩ := DataW.trod_int Tryz.underlying3 (h3.trans rfl)
    obtain ⟨b4, e4, d4⟩ := DataW.trod_bool Tryz.underlying4 (h4.trans rfl)
    obtain ⟨b5, e5, d5⟩ := DataW.trod_bool Tryz.underlying4 (h5.trans rfl)
    obtain ⟨b6, e6, d6, _⟩ := DataW.trod_int Tryz.underlying3 (h6.trans rfl)
    obtain ⟨b7, e7, d7, _⟩ := DataW.trod_int Tryz.underlying3 (h7.trans rfl)
    obtain ⟨b8, e8, d8, _⟩ := DataW.trod_int Tryz.underlying3 (h8.trans rfl)
    obtain ⟨b9, e9, d9, _⟩ := DataW.trod_string Tryz.underlying9 (h9.trans rfl)
    simp at e0 e1 e2 e3 e4 e5 e6 e7 e8 e9
    have hx1 := congrArg Prod.fst hx
    simp only [List.map_cons, List.map_nil] at hx1
    rw [d0, d1, d2, d3, d4, d5, d6, d7, d8, d9] at hx1
    simp only [DataW.agg.injEq, List.cons.injEq, DataW.lit.injEq, Lit.bool.injEq, Lit.int.injEq, Lit.string.injEq, true_and, and_true] at hx1
    obtain ⟨f0, f1, f2, f3, f4, f5, f6, f7, f8, f9⟩ := hx1
    have hb : b9 = ⟨#[]⟩ := by
      cases b9 with
      | mk l =>
        cases l with
        | mk l =>
          have : l = [] := f9.symm
          rw [this]
    subst e0 e1 e2 e3 e4 e5 e6 e7 e8 e9 f0 f1 f2 f3 f4 f5 f6 f7 f8 hb
    rfl

theorem ask_laid {W : World} (h : laidMet Tryz.prog theLaid W) : Ask1 W := by
  have h5 := tailN 5 h
  obtain ⟨ps, ⟨g', t', cs, fuel, p, q, hg', ht', hvar, hd, _, _⟩, _⟩ := h5
  obtain rfl : 2 = g' := Option.some.inj ((show Tryz.prog.globalNamed "concord/printer.asks" = some 2 by kernel_rfl).symm.trans hg')
  obtain rfl : 151 = t' := Option.some.inj ((show (Tryz.prog.globals[2]?).map (·.type) = some 151 by kernel_rfl).symm.trans ht')
  obtain ⟨xs, m, _, ex, hlen, hl, hel⟩ := DataW.trod_array Tryz.underlying151 hd
  have e1 := hel 1 (by decide)
  rw [cellsAsk] at e1
  have hx : Rows.laid_concord_printer_asks = DataW.agg (xs.map (·.1)) := congrArg Prod.fst ex
  have hx2 : (xs.map (·.1))[1]? = some (DataW.agg [.lit (.bool true), .lit (.bool true), .lit (.int .i64 0), .lit (.int .i64 0), .lit (.bool false), .lit (.bool false), .lit (.int .i64 0), .lit (.int .i64 0), .lit (.int .i64 6), .lit (.string [])]) := by
    unfold Rows.laid_concord_printer_asks at hx
    rw [← DataW.agg.inj hx]
    rfl
  rw [List.getElem?_map] at hx2
  obtain ⟨y, hy, hy1⟩ := Option.map_eq_some_iff.1 hx2
  rw [hy] at e1
  obtain ⟨y1, y2⟩ := y
  have hy1' : y1 = _ := hy1
  subst hy1'
  have hr := ask_row e1
  intro j u hu
  have hj : j < 10 := by
    have := (Array.getElem?_eq_some_iff.1 hu).1
    exact this
  have h1 := congrArg (·[j]?) hr
  simp only [Nat.one_mul] at h1
  rw [List.getElem?_take, if_pos hj, List.getElem?_drop] at h1
  have h2 : W.cell? ⟨2, 10 + j, none⟩ = cs[10 + j]? := World.var?_cell (by kernel_rfl) hvar (10 + j)
  rw [h2, ← Array.getElem?_toList, h1]
  rw [← hu]
  unfold ask1
  rw [List.getElem?_toArray]


theorem door_met (os : Os) (args : Array Value) : laidMetH Tryz.prog theLaid ((World.laidAll Tryz.prog os theLaid).forCall (fun _ _ => 0) ⟨#[], args, []⟩).memory := by
  rw [MakeChecks.laidMetH_plain _ _ _ (by kernel_rfl)]; exact laidMet_laidAll _ (by kernel_rfl) (by kernel_rfl)
theorem shaped (os : Os) : (World.laidAll Tryz.prog os theLaid).Shaped Tryz.prog := World.shaped_of_ZipB (by kernel_rfl) (by kernel_rfl)
theorem met {W : World} (h : laidMetH Tryz.prog theLaid W) : laidMet Tryz.prog theLaid W := by
  rwa [MakeChecks.laidMetH_plain _ _ _ (by kernel_rfl)] at h
end Go.Proofs.YtkcfgcdlnojaeaaGreatDoor.LaidBind

namespace Go.Proofs.YtkcfgcdlnojaeaaGreatDoor.LaidAsks
set_option maxRecDepth 100000
open Go.ChangeShapes Go.WideShapes Go.RowKit Base NodeTerm NodeTree NodePlain NodeOwn StopsWalk LaidBind
def askD (x : NodePlain.Ask) : DataW Unit := .agg [.lit (.bool x.f), .lit (.bool x.t), .lit (.int .i64 x.low), .lit (.int .i64 x.high), .lit (.bool x.ends), .lit (.bool x.occ), .lit (.int .i64 x.least), .lit (.int .i64 x.most), .lit (.int .i64 x.level), .lit (.string x.prints)]
set_option maxHeartbeats 1000000 in
theorem ask_rowG {fuel : Nat} {W : World} {cs : List Value} {p : List MemPlace} (x : NodePlain.Ask) (h : DataW.trod (fun _ => ()) Tryz.prog W 0 (fun _ => true) false fuel 150 cs = some (askD x, p)) :
    cs = askV x := by
  unfold askD at h
  obtain ⟨xs, n, _, hx, hlen, hxl, hf⟩ := DataW.trod_struct Tryz.underlying150 h
  rw [cellsAsk] at hlen
  match cs, hlen, xs, hxl with
  | [c0, c1, c2, c3, c4, c5, c6, c7, c8, c9], _, [y0, y1, y2, y3, y4, y5, y6, y7, y8, y9], _ =>
    have h0 := hf 0 _ rfl
    change DataW.trod _ Tryz.prog W 0 _ false n 4 (([c0, c1, c2, c3, c4, c5, c6, c7, c8, c9].drop 0).take (Tryz.prog.cellsOf 4)) = _ at h0
    have h1 := hf 1 _ rfl
    change DataW.trod _ Tryz.prog W 0 _ false n 4 (([c0, c1, c2, c3, c4, c5, c6, c7, c8, c9].drop 1).take (Tryz.prog.cellsOf 4)) = _ at h1
    have h2 := hf 2 _ rfl
    change DataW.trod _ Tryz.prog W 0 _ false n 3 (([c0, c1, c2, c3, c4, c5, c6, c7, c8, c9].drop 2).take (Tryz.prog.cellsOf 3)) = _ at h2
    have h3 := hf 3 _ rfl
    change DataW.trod _ Tryz.prog W 0 _ false n 3 (([c0, c1, c2, c3, c4, c5, c6, c7, c8, c9].drop 3).take (Tryz.prog.cellsOf 3)) = _ at h3
    have h4 := hf 4 _ rfl
    change DataW.trod _ Tryz.prog W 0 _ false n 4 (([c0, c1, c2, c3, c4, c5, c6, c7, c8, c9].drop 4).take (Tryz.prog.cellsOf 4)) = _ at h4
    have h5 := hf 5 _ rfl
    change DataW.trod _ Tryz.prog W 0 _ false n 4 (([c0, c1, c2, c3, c4, c5, c6, c7, c8, c9].drop 5).take (Tryz.prog.cellsOf 4)) = _ at h5
    have h6 := hf 6 _ rfl
    change DataW.trod _ Tryz.prog W 0 _ false n 3 (([c0, c1, c2, c3, c4, c5, c6, c7, c8, c9].drop 6).take (Tryz.prog.cellsOf 3)) = _ at h6
    have h7 := hf 7 _ rfl
    change DataW.trod _ Tryz.prog W 0 _ false n 3 (([c0, c1, c2, c3, c4, c5, c6, c7, c8, c9].drop 7).take (Tryz.prog.cellsOf 3)) = _ at h7
    have h8 := hf 8 _ rfl
    change DataW.trod _ Tryz.prog W 0 _ false n 3 (([c0, c1, c2, c3, c4, c5, c6, c7, c8, c9].drop 8).take (Tryz.prog.cellsOf 3)) = _ at h8
    have h9 := hf 9 _ rfl
    change DataW.trod _ Tryz.prog W 0 _ false n 9 (([c0, c1, c2, c3, c4, c5, c6, c7, c8, c9].drop 9).take (Tryz.prog.cellsOf 9)) = _ at h9
    rw [cellsBool] at h0 h1 h4 h5
    rw [cellsInt] at h2 h3 h6 h7 h8
    rw [cellsStr] at h9
    obtain ⟨b0, e0, d0⟩ := DataW.trod_bool Tryz.underlying4 (h0.trans rfl)
    obtain ⟨b1, e1, d1⟩ := DataW.trod_bool Tryz.underlying4 (h1.trans rfl)
    obtain ⟨b2, e2, d2, _⟩ := DataW.trod_int Tryz.underlying3 (h2.trans rfl)
    obtain ⟨b3, e3, d3, _⟩ := DataW.trod_int Tryz.underlying3 (h3.trans rfl)
    obtain ⟨b4, e4, d4⟩ := DataW.trod_bool Tryz.underlying4 (h4.trans rfl)
    obtain ⟨b5, e5, d5⟩ := DataW.trod_bool Tryz.underlying4 (h5.trans rfl)
    obtain ⟨b6, e6, d6, _⟩ := DataW.trod_int Tryz.underlying3 (h6.trans rfl)
    obtain ⟨b7, e7, d7, _⟩ := DataW.trod_int Tryz.underlying3 (h7.trans rfl)
    obtain ⟨b8, e8, d8, _⟩ := DataW.trod_int Tryz.underlying3 (h8.trans rfl)
    obtain ⟨b9, e9, d9, _⟩ := DataW.trod_string Tryz.underlying9 (h9.trans rfl)
    simp at e0 e1 e2 e3 e4 e5 e6 e7 e8 e9
    have hx1 := congrArg Prod.fst hx
    simp only [List.map_cons, List.map_nil] at hx1
    rw [d0, d1, d2, d3, d4, d5, d6, d7, d8, d9] at hx1
    simp only [DataW.agg.injEq, List.cons.injEq, DataW.lit.injEq, Lit.bool.injEq, Lit.int.injEq, Lit.string.injEq, true_and, and_true] at hx1
    obtain ⟨f0, f1, f2, f3, f4, f5, f6, f7, f8, f9⟩ := hx1
    have hb : b9 = ⟨x.prints.toArray⟩ := by
      cases b9 with
      | mk l =>
        cases l with
        | mk l =>
          have : x.prints = l := f9
          rw [this]
    subst e0 e1 e2 e3 e4 e5 e6 e7 e8 e9
    rw [hb, ← f0, ← f1, ← f2, ← f3, ← f4, ← f5, ← f6, ← f7, ← f8]
    rfl

theorem asks_laid {W : World} (h : laidMet Tryz.prog theLaid W) : Asks W := by
  have h5 := tailN 5 h
  obtain ⟨ps, ⟨g', t', cs, fuel, p, q, hg', ht', hvar, hd, _, _⟩, _⟩ := h5
  obtain rfl : 2 = g' := Option.some.inj ((show Tryz.prog.globalNamed "concord/printer.asks" = some 2 by kernel_rfl).symm.trans hg')
  obtain rfl : 151 = t' := Option.some.inj ((show (Tryz.prog.globals[2]?).map (·.type) = some 151 by kernel_rfl).symm.trans ht')
  obtain ⟨xs, m, _, ex, hlen, hl, hel⟩ := DataW.trod_array Tryz.underlying151 hd
  intro k j u hk hu
  have e1 := hel k hk
  rw [cellsAsk] at e1
  have hx : Rows.laid_concord_printer_asks = DataW.agg (xs.map (·.1)) := congrArg Prod.fst ex
  have hx2 : (xs.map (·.1))[k]? = some (askD (askOf k)) := by
    unfold Rows.laid_concord_printer_asks at hx
    rw [← DataW.agg.inj hx]
    rcases (by omega : k = 0 ∨ k = 1 ∨ k = 2 ∨ k = 3 ∨ k = 4 ∨ k = 5 ∨ k = 6 ∨ k = 7 ∨ k = 8 ∨ k = 9 ∨ k = 10 ∨ k = 11 ∨ k = 12 ∨ k = 13 ∨ k = 14 ∨ k = 15) with rfl | rfl | rfl | rfl | rfl | rfl | rfl | rfl | rfl | rfl | rfl | rfl | rfl | rfl | rfl | rfl <;> rfl
  rw [List.getElem?_map] at hx2
  obtain ⟨y, hy, hy1⟩ := Option.map_eq_some_iff.1 hx2
  rw [hy] at e1
  obtain ⟨y1, y2⟩ := y
  have hy1' : y1 = _ := hy1
  subst hy1'
  have hr := ask_rowG _ e1
  have hj : j < 10 := by
    have := (List.getElem?_eq_some_iff.1 hu).1
    exact this
  have h1 := congrArg (fun l : List Value => l[j]?) hr
  have h1 : (List.take 10 (List.drop (k * 10) cs.toList))[j]? = (askV (askOf k))[j]? := h1
  rw [List.getElem?_take, if_pos hj, List.getElem?_drop] at h1
  have h2 : W.cell? ⟨2, k * 10 + j, none⟩ = cs[k * 10 + j]? := World.var?_cell (by kernel_rfl) hvar (k * 10 + j)
  rw [h2, ← Array.getElem?_toList, h1, hu]
theorem schema_laid2 {W : World} (h : laidMet Tryz.prog theLaid W) : ∃ a, W.cell? ⟨0, 0, none⟩ = some (.iface 274 (.pointer (some a))) := by
  have h3 := tailN 3 h
  obtain ⟨a, s, hv, _⟩ := laid_sentinel (g := 0) h3 (by kernel_rfl) (by kernel_rfl) Tryz.underlying42 err_name Tryz.underlying274 Tryz.underlying298 rfl rfl Tryz.underlying9 (by kernel_rfl) (by kernel_rfl)
  exact ⟨a, World.var?_cell (by kernel_rfl) hv 0⟩
end Go.Proofs.YtkcfgcdlnojaeaaGreatDoor.LaidAsks
