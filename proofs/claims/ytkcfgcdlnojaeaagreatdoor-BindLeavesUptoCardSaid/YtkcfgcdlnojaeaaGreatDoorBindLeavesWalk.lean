/-
  The walk of concordlaw16.BindLeaves.
-/
import Derived.Test.YtkcfgcdlnojaeaaGreatDoorBindLeavesWalkE
import Derived.Test.YtkcfgcdlnojaeaaGreatDoorBindLeavesWalkN
set_option linter.unusedVariables false
set_option linter.unusedSimpArgs false
namespace Go.Proofs.YtkcfgcdlnojaeaaGreatDoor.BindLeavesWalk
set_option maxRecDepth 100000
open Go.RowKit Go.PlainAid Base Query BindBase NodeTerm NodeLeaf Binder WordPlain WordsWalk StopsWalk OfText OfAny WordsOne NumPlain OpenField FieldPlain GoodName SchemaCheck WordsAny WordsMany SchFind LeafBase LeafOf BindAny LeafLaw LivesBind Rel

theorem walk (fs : List Fld) (fgo : Option Addr) (c : Nat) (field slop : Int) (T nm : ByteArray) (a a2 : Addr) (w : World) (h1 : Slc w w.heap.size fgo (fldCells fs)) (hlen : fs.length ≤ 1099511627776) (hnm : ∀ f ∈ fs, f.nm.size ≤ 9223372036854775807) (hs : T.size ≤ 1048576) (hns : nm.size ≤ 9223372036854775807) (ht : Tab w) (ha1 : Ask1 w) (ha2 : Ask2 w) (ha7 : Ask7 w) (he : w.cell? ⟨0, 0, none⟩ = some (.iface 274 (.pointer (some a2)))) (hn : w.cell? ⟨1, 0, none⟩ = some (.iface 274 (.pointer (some a)))) (h0 : 3 < w.heap.size) :
    Calls Tryz.prog 6 #[.agg #[.slice fgo fs.length c], .int .i64 field, .string T, .int .i64 slop, .string nm] w fun e w' => e = .returned (.bool true) ∧ Below w.heap.size w w' := by
  rcases Decidable.em (nm.size = 0) with hz | hz
  · exact BindLeavesWalkE.walk fs fgo c field slop T nm a a2 w h1 hlen hnm hs hns ht ha1 ha2 ha7 he hn h0 hz
  · exact BindLeavesWalkN.walk fs fgo c field slop T nm a a2 w h1 hlen hnm hs hns ht ha1 ha2 ha7 he hn h0 hz
end Go.Proofs.YtkcfgcdlnojaeaaGreatDoor.BindLeavesWalk
