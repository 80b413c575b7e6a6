/-
  No cell of these rows narrows 'for every input' (looked for: loops, veiled, ifaces, maps, wideKeys, modest, calm, conditions, laid).
  DERIVED. THE GIVEN ROWS OF THIS SEAT. 6 by the template 'for every input the law returns true; each argument reads behind the call as it read before'; 0 by the template 'total and deterministic' (their statements: YtmoahflgcojfcaaTotals.lean).
  GIVEN WITH THE SEED: the statements are not yours to turn. If you find one false, say at which input.
  Laid BY PROGRAM, IN A SANDBOX (cutbox-rows.mjs): the forced cells as the released guide's own fill.sh prints them over the translation 0ea88816a35ce5be… (all of the seat's roots in one cut). By AI agents, Wed Nov 11 2026. No macro, syntax, notation, axiom, sorry.
-/
import Derived.Test.YtmoahflgcojfcaaChecked
import GoSem.Claim
import GoSem.ClaimJoined
import GoSem.ClaimMapViews
import Derived.JoinedTies
import Derived.KernelRfl
namespace Go.Proofs.Ytmoahflgcojfcaa
/- THE CELL 'sum', in the pinned program and in every row, IS THE sha256 OF THE DUMP (.gsa) THAT YtmoahflgcojfcaaProg.lean LOADS. Nothing in Lean hashes anything: it is a label: what it is worth is what the hold of that sum in a sandbox is worth. -/
noncomputable def Try.pinned : Pinned := { name := "ytmoahflgcojfcaa", sum := "0ea88816a35ce5bef7d908b9a79deaa409f67d83857556b8d7e1a18754ec92b2", checked := Try.checked }
namespace Rows
def none {H : Type} : Left H := { results := [], args := [] }

/-- 'concordlaw05.TokensFolds': WHATEVER THE INPUT: true; the input reads as it did. -/
def tokensFoldsSpec : ChangeSpec := { name := "tokensFolds", fn := fun _ => fun
  | [d] => { results := [.lit (.bool true)], args := [d] }
  | _ => none }
def tokensFoldsRow : OpenClaim := { program := "ytmoahflgcojfcaa", sum := "0ea88816a35ce5bef7d908b9a79deaa409f67d83857556b8d7e1a18754ec92b2", func := "concord/concordlaw05.TokensFolds", spec := "tokensFolds", apart := false }
def TokensFoldsSaid : Prop := tokensFoldsRow.holds Try.pinned (OpenSpec.ofChange tokensFoldsSpec)

/-- ITS FALSE NEIGHBOUR: 'it returns false'. Refute it at one input. -/
def tokensFoldsWrong : ChangeSpec := { name := "tokensFolds", fn := fun _ => fun
  | [d] => { results := [.lit (.bool false)], args := [d] }
  | _ => none }
def TokensFoldsWrongFalsely : Prop := tokensFoldsRow.holds Try.pinned (OpenSpec.ofChange tokensFoldsWrong)

/-- 'concordlaw05.TokensFoldsPieces': WHATEVER THE INPUT: true; the input reads as it did. -/
def tokensFoldsPiecesSpec : ChangeSpec := { name := "tokensFoldsPieces", fn := fun _ => fun
  | [d1, d2] => { results := [.lit (.bool true)], args := [d1, d2] }
  | _ => none }
def tokensFoldsPiecesRow : OpenClaim := { program := "ytmoahflgcojfcaa", sum := "0ea88816a35ce5bef7d908b9a79deaa409f67d83857556b8d7e1a18754ec92b2", func := "concord/concordlaw05.TokensFoldsPieces", spec := "tokensFoldsPieces", apart := false }
def TokensFoldsPiecesSaid : Prop := tokensFoldsPiecesRow.holds Try.pinned (OpenSpec.ofChange tokensFoldsPiecesSpec)

/-- ITS FALSE NEIGHBOUR: 'it returns false'. Refute it at one input. -/
def tokensFoldsPiecesWrong : ChangeSpec := { name := "tokensFoldsPieces", fn := fun _ => fun
  | [d1, d2] => { results := [.lit (.bool false)], args := [d1, d2] }
  | _ => none }
def TokensFoldsPiecesWrongFalsely : Prop := tokensFoldsPiecesRow.holds Try.pinned (OpenSpec.ofChange tokensFoldsPiecesWrong)

/-- 'concordlaw05.TokensWords': WHATEVER THE INPUT: true; the input reads as it did. -/
def tokensWordsSpec : ChangeSpec := { name := "tokensWords", fn := fun _ => fun
  | [d] => { results := [.lit (.bool true)], args := [d] }
  | _ => none }
def tokensWordsRow : OpenClaim := { program := "ytmoahflgcojfcaa", sum := "0ea88816a35ce5bef7d908b9a79deaa409f67d83857556b8d7e1a18754ec92b2", func := "concord/concordlaw05.TokensWords", spec := "tokensWords", inPlace := ["internal/bytealg.IndexByteString"], apart := false }
def TokensWordsSaid : Prop := tokensWordsRow.holds Try.pinned (OpenSpec.ofChange tokensWordsSpec)

/-- ITS FALSE NEIGHBOUR: 'it returns false'. Refute it at one input. -/
def tokensWordsWrong : ChangeSpec := { name := "tokensWords", fn := fun _ => fun
  | [d] => { results := [.lit (.bool false)], args := [d] }
  | _ => none }
def TokensWordsWrongFalsely : Prop := tokensWordsRow.holds Try.pinned (OpenSpec.ofChange tokensWordsWrong)

/-- 'concordlaw05.TokensRuns': WHATEVER THE INPUT: true; the input reads as it did. -/
def tokensRunsSpec : ChangeSpec := { name := "tokensRuns", fn := fun _ => fun
  | [d] => { results := [.lit (.bool true)], args := [d] }
  | _ => none }
def tokensRunsRow : OpenClaim := { program := "ytmoahflgcojfcaa", sum := "0ea88816a35ce5bef7d908b9a79deaa409f67d83857556b8d7e1a18754ec92b2", func := "concord/concordlaw05.TokensRuns", spec := "tokensRuns", inPlace := ["internal/bytealg.IndexByteString"], apart := false }
def TokensRunsSaid : Prop := tokensRunsRow.holds Try.pinned (OpenSpec.ofChange tokensRunsSpec)

/-- ITS FALSE NEIGHBOUR: 'it returns false'. Refute it at one input. -/
def tokensRunsWrong : ChangeSpec := { name := "tokensRuns", fn := fun _ => fun
  | [d] => { results := [.lit (.bool false)], args := [d] }
  | _ => none }
def TokensRunsWrongFalsely : Prop := tokensRunsRow.holds Try.pinned (OpenSpec.ofChange tokensRunsWrong)

/-- 'concordlaw05.TokensStems': WHATEVER THE INPUT: true; the input reads as it did. -/
def tokensStemsSpec : ChangeSpec := { name := "tokensStems", fn := fun _ => fun
  | [d] => { results := [.lit (.bool true)], args := [d] }
  | _ => none }
def tokensStemsRow : OpenClaim := { program := "ytmoahflgcojfcaa", sum := "0ea88816a35ce5bef7d908b9a79deaa409f67d83857556b8d7e1a18754ec92b2", func := "concord/concordlaw05.TokensStems", spec := "tokensStems", inPlace := ["internal/bytealg.IndexByteString"], apart := false }
def TokensStemsSaid : Prop := tokensStemsRow.holds Try.pinned (OpenSpec.ofChange tokensStemsSpec)

/-- ITS FALSE NEIGHBOUR: 'it returns false'. Refute it at one input. -/
def tokensStemsWrong : ChangeSpec := { name := "tokensStems", fn := fun _ => fun
  | [d] => { results := [.lit (.bool false)], args := [d] }
  | _ => none }
def TokensStemsWrongFalsely : Prop := tokensStemsRow.holds Try.pinned (OpenSpec.ofChange tokensStemsWrong)

/-- 'concordlaw05.TokensPlurals': WHATEVER THE INPUT: true; the input reads as it did. -/
def tokensPluralsSpec : ChangeSpec := { name := "tokensPlurals", fn := fun _ => fun
  | [d] => { results := [.lit (.bool true)], args := [d] }
  | _ => none }
def tokensPluralsRow : OpenClaim := { program := "ytmoahflgcojfcaa", sum := "0ea88816a35ce5bef7d908b9a79deaa409f67d83857556b8d7e1a18754ec92b2", func := "concord/concordlaw05.TokensPlurals", spec := "tokensPlurals", inPlace := ["internal/bytealg.IndexByteString"], apart := false }
def TokensPluralsSaid : Prop := tokensPluralsRow.holds Try.pinned (OpenSpec.ofChange tokensPluralsSpec)

/-- ITS FALSE NEIGHBOUR: 'it returns false'. Refute it at one input. -/
def tokensPluralsWrong : ChangeSpec := { name := "tokensPlurals", fn := fun _ => fun
  | [d] => { results := [.lit (.bool false)], args := [d] }
  | _ => none }
def TokensPluralsWrongFalsely : Prop := tokensPluralsRow.holds Try.pinned (OpenSpec.ofChange tokensPluralsWrong)

/- THE SECOND FORM. 'bulk': how many values and letters a reading holds, each counted each time it is reached (what is shared counts as often as it is met; a slice's spare places count too). A statement '..UptoSaid' is the law's where the arguments, and the package variables that the reading takes, are together of bulk at most 1048576: NARROWER than '..Said'. Prove '..Said' where nothing that the law and all that it calls make is longer than what came in: it says more and counts as full. Else prove '..UptoSaid'. A law counts once. -/
mutual
def uptoBulk {H : Type} : DataW H → Nat
  | .lit (.string bytes) => bytes.length + 1
  | .lit _ => 1
  | .nil => 1
  | .ptr d => uptoBulk d + 1
  | .slice elems spare => uptoBulkAll elems + uptoBulkAll spare + 1
  | .agg parts => uptoBulkAll parts + 1
  | .iface _ d => uptoBulk d + 1
  | .map entries => uptoBulkEntries entries + 1
  | .held _ => 1
def uptoBulkAll {H : Type} : List (DataW H) → Nat
  | [] => 0
  | d :: r => uptoBulk d + uptoBulkAll r
def uptoBulkEntries {H : Type} : List (Lit × DataW H) → Nat
  | [] => 0
  | x :: r => uptoBulkEntry x + uptoBulkEntries r
def uptoBulkEntry {H : Type} : Lit × DataW H → Nat
  | (.string bytes, d) => bytes.length + uptoBulk d + 1
  | (_, d) => uptoBulk d + 1
 end
def uptoSmall : (H : Type) → List (DataW H) → Bool := fun _ ds => decide (uptoBulkAll ds ≤ 1048576)
def OpenSpec.upto (s : _root_.Go.ChangeSpec) : _root_.Go.OpenSpec := { _root_.Go.OpenSpec.ofChange s with cond := some uptoSmall }

/-- 'concordlaw05.TokensFolds', WHERE WHAT IT READS IS OF BULK AT MOST 1048576: true; the input reads as it did. -/
def tokensFoldsUptoRow : OpenClaim := { program := "ytmoahflgcojfcaa", sum := "0ea88816a35ce5bef7d908b9a79deaa409f67d83857556b8d7e1a18754ec92b2", func := "concord/concordlaw05.TokensFolds", spec := "tokensFolds", apart := false, narrowed := true }
def TokensFoldsUptoSaid : Prop := tokensFoldsUptoRow.holds Try.pinned (OpenSpec.upto tokensFoldsSpec)

/-- 'concordlaw05.TokensFoldsPieces', WHERE WHAT IT READS IS OF BULK AT MOST 1048576: true; the input reads as it did. -/
def tokensFoldsPiecesUptoRow : OpenClaim := { program := "ytmoahflgcojfcaa", sum := "0ea88816a35ce5bef7d908b9a79deaa409f67d83857556b8d7e1a18754ec92b2", func := "concord/concordlaw05.TokensFoldsPieces", spec := "tokensFoldsPieces", apart := false, narrowed := true }
def TokensFoldsPiecesUptoSaid : Prop := tokensFoldsPiecesUptoRow.holds Try.pinned (OpenSpec.upto tokensFoldsPiecesSpec)

/-- 'concordlaw05.TokensWords', WHERE WHAT IT READS IS OF BULK AT MOST 1048576: true; the input reads as it did. -/
def tokensWordsUptoRow : OpenClaim := { program := "ytmoahflgcojfcaa", sum := "0ea88816a35ce5bef7d908b9a79deaa409f67d83857556b8d7e1a18754ec92b2", func := "concord/concordlaw05.TokensWords", spec := "tokensWords", inPlace := ["internal/bytealg.IndexByteString"], apart := false, narrowed := true }
def TokensWordsUptoSaid : Prop := tokensWordsUptoRow.holds Try.pinned (OpenSpec.upto tokensWordsSpec)

/-- 'concordlaw05.TokensRuns', WHERE WHAT IT READS IS OF BULK AT MOST 1048576: true; the input reads as it did. -/
def tokensRunsUptoRow : OpenClaim := { program := "ytmoahflgcojfcaa", sum := "0ea88816a35ce5bef7d908b9a79deaa409f67d83857556b8d7e1a18754ec92b2", func := "concord/concordlaw05.TokensRuns", spec := "tokensRuns", inPlace := ["internal/bytealg.IndexByteString"], apart := false, narrowed := true }
def TokensRunsUptoSaid : Prop := tokensRunsUptoRow.holds Try.pinned (OpenSpec.upto tokensRunsSpec)

/-- 'concordlaw05.TokensStems', WHERE WHAT IT READS IS OF BULK AT MOST 1048576: true; the input reads as it did. -/
def tokensStemsUptoRow : OpenClaim := { program := "ytmoahflgcojfcaa", sum := "0ea88816a35ce5bef7d908b9a79deaa409f67d83857556b8d7e1a18754ec92b2", func := "concord/concordlaw05.TokensStems", spec := "tokensStems", inPlace := ["internal/bytealg.IndexByteString"], apart := false, narrowed := true }
def TokensStemsUptoSaid : Prop := tokensStemsUptoRow.holds Try.pinned (OpenSpec.upto tokensStemsSpec)

/-- 'concordlaw05.TokensPlurals', WHERE WHAT IT READS IS OF BULK AT MOST 1048576: true; the input reads as it did. -/
def tokensPluralsUptoRow : OpenClaim := { program := "ytmoahflgcojfcaa", sum := "0ea88816a35ce5bef7d908b9a79deaa409f67d83857556b8d7e1a18754ec92b2", func := "concord/concordlaw05.TokensPlurals", spec := "tokensPlurals", inPlace := ["internal/bytealg.IndexByteString"], apart := false, narrowed := true }
def TokensPluralsUptoSaid : Prop := tokensPluralsUptoRow.holds Try.pinned (OpenSpec.upto tokensPluralsSpec)

end Rows
end Go.Proofs.Ytmoahflgcojfcaa
