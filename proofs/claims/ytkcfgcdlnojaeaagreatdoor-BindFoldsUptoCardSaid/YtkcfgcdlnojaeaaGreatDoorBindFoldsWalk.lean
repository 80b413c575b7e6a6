/-
  The walk of concordlaw16.BindFolds.
-/
import Derived.Test.YtkcfgcdlnojaeaaGreatDoorFoldsHead
set_option linter.unusedVariables false
set_option linter.unusedSimpArgs false
namespace Go.Proofs.YtkcfgcdlnojaeaaGreatDoor.BindFoldsWalk
set_option maxRecDepth 100000
open Go.RowKit Go.PlainAid Base Query OpenField FieldPlain GoodName SchemaCheck WordsAny FoldsPlain FoldBind

theorem walk (fs : List Fld) (fgo : Option Addr) (c : Nat) (field : Int) (T hi : ByteArray) (a1 a2 : Addr) (w : World) (m : Mem fs fgo w.heap.size a1 a2 w) (hlen : fs.length ≤ 1099511627776) (hnm : ∀ f ∈ fs, f.nm.size ≤ 9223372036854775807) (hs : T.size ≤ 2097152) (hh : hi.size ≤ 2097152) (hbk : ∀ f ∈ fs, f.nm.size + T.size + hi.size < 2097152) (hfi : fitI field) :
    Calls Tryz.prog 8 #[.agg #[.slice fgo fs.length c], .int .i64 field, .string T, .string hi] w fun e w' => e = .returned (.bool true) ∧ Below w.heap.size w w' := by
  have hcase : (schemaB fs = true ∧ 0 ≤ field ∧ field < (fs.length : Int) ∧ 0 < T.size ∧ T.size ≤ 4096) ∨ (schemaB fs = false ∨ field < 0 ∨ (fs.length : Int) ≤ field ∨ T.size = 0 ∨ 4096 < T.size) := by
    cases hb : schemaB fs
    · exact .inr (.inl rfl)
    · rcases (by omega : (0 ≤ field ∧ field < (fs.length : Int) ∧ 0 < T.size ∧ T.size ≤ 4096) ∨ (field < 0 ∨ (fs.length : Int) ≤ field ∨ T.size = 0 ∨ 4096 < T.size)) with h | h
      · exact .inl ⟨rfl, h⟩
      · exact .inr (.inr h)
  rcases hcase with ⟨hg, q1, q2, q3, q4⟩ | h
  · exact FoldsHead.late fs fgo c field T hi a1 a2 w m hlen hnm hs hh hbk hfi hg q1 q2 q3 q4
  · exact FoldsEarly.early fs fgo c field T hi a1 a2 w m hlen hnm h
end Go.Proofs.YtkcfgcdlnojaeaaGreatDoor.BindFoldsWalk
