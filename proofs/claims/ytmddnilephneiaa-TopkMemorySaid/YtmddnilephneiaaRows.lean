/-
  No cell of these rows narrows 'for every input' (looked for: loops, veiled, ifaces, maps, wideKeys, modest, calm, conditions, laid).
  DERIVED. THE GIVEN ROWS OF THIS SEAT. 6 by the template 'for every input the law returns true; each argument reads behind the call as it read before'; 0 by the template 'total and deterministic' (their statements: YtmddnilephneiaaTotals.lean).
  GIVEN WITH THE SEED: the statements are not yours to turn. If you find one false, say at which input.
  Laid BY PROGRAM, IN A SANDBOX (cutbox-rows.mjs): the forced cells as the released guide's own fill.sh prints them over the translation 5a4acfae9cc0d9d2… (all of the seat's roots in one cut). By AI agents, Wed Nov 11 2026. No macro, syntax, notation, axiom, sorry.
-/
import Derived.Test.YtmddnilephneiaaChecked
import GoSem.Claim
import GoSem.ClaimJoined
import GoSem.ClaimMapViews
import Derived.JoinedTies
import Derived.KernelRfl
namespace Go.Proofs.Ytmddnilephneiaa
/- THE CELL 'sum', in the pinned program and in every row, IS THE sha256 OF THE DUMP (.gsa) THAT YtmddnilephneiaaProg.lean LOADS. Nothing in Lean hashes anything: it is a label: what it is worth is what the hold of that sum in a sandbox is worth. -/
noncomputable def Try.pinned : Pinned := { name := "ytmddnilephneiaa", sum := "5a4acfae9cc0d9d29aa5c50dc94d7b4428f1fa2b43cfe05c7a67bb8be8241029", checked := Try.checked }
namespace Rows
def none {H : Type} : Left H := { results := [], args := [] }

/-- 'concordlaw24.TopkPlays': WHATEVER THE INPUT: true; the input reads as it did. -/
def topkPlaysSpec : ChangeSpec := { name := "topkPlays", fn := fun _ => fun
  | [d1, d2, d3] => { results := [.lit (.bool true)], args := [d1, d2, d3] }
  | _ => none }
def topkPlaysRow : OpenClaim := { program := "ytmddnilephneiaa", sum := "5a4acfae9cc0d9d29aa5c50dc94d7b4428f1fa2b43cfe05c7a67bb8be8241029", func := "concord/concordlaw24.TopkPlays", spec := "topkPlays", inPlace := ["internal/reflectlite.ValueOf", "internal/reflectlite.Swapper", "(internal/reflectlite.Value).Len"], unfollowed := true, recurses := true, apart := false }
def TopkPlaysSaid : Prop := topkPlaysRow.holds Try.pinned (OpenSpec.ofChange topkPlaysSpec)

/-- ITS FALSE NEIGHBOUR: 'it returns false'. Refute it at one input. -/
def topkPlaysWrong : ChangeSpec := { name := "topkPlays", fn := fun _ => fun
  | [d1, d2, d3] => { results := [.lit (.bool false)], args := [d1, d2, d3] }
  | _ => none }
def TopkPlaysWrongFalsely : Prop := topkPlaysRow.holds Try.pinned (OpenSpec.ofChange topkPlaysWrong)

/-- 'concordlaw24.TopkJoins': WHATEVER THE INPUT: true; the input reads as it did. -/
def topkJoinsSpec : ChangeSpec := { name := "topkJoins", fn := fun _ => fun
  | [d1, d2] => { results := [.lit (.bool true)], args := [d1, d2] }
  | _ => none }
def topkJoinsRow : OpenClaim := { program := "ytmddnilephneiaa", sum := "5a4acfae9cc0d9d29aa5c50dc94d7b4428f1fa2b43cfe05c7a67bb8be8241029", func := "concord/concordlaw24.TopkJoins", spec := "topkJoins", inPlace := ["internal/reflectlite.ValueOf", "internal/reflectlite.Swapper", "(internal/reflectlite.Value).Len"], unfollowed := true, recurses := true, apart := false }
def TopkJoinsSaid : Prop := topkJoinsRow.holds Try.pinned (OpenSpec.ofChange topkJoinsSpec)

/-- ITS FALSE NEIGHBOUR: 'it returns false'. Refute it at one input. -/
def topkJoinsWrong : ChangeSpec := { name := "topkJoins", fn := fun _ => fun
  | [d1, d2] => { results := [.lit (.bool false)], args := [d1, d2] }
  | _ => none }
def TopkJoinsWrongFalsely : Prop := topkJoinsRow.holds Try.pinned (OpenSpec.ofChange topkJoinsWrong)

/-- 'concordlaw24.TopkBest': WHATEVER THE INPUT: true; the input reads as it did. -/
def topkBestSpec : ChangeSpec := { name := "topkBest", fn := fun _ => fun
  | [d1, d2, d3] => { results := [.lit (.bool true)], args := [d1, d2, d3] }
  | _ => none }
def topkBestRow : OpenClaim := { program := "ytmddnilephneiaa", sum := "5a4acfae9cc0d9d29aa5c50dc94d7b4428f1fa2b43cfe05c7a67bb8be8241029", func := "concord/concordlaw24.TopkBest", spec := "topkBest", inPlace := ["internal/reflectlite.ValueOf", "internal/reflectlite.Swapper", "(internal/reflectlite.Value).Len"], unfollowed := true, recurses := true, apart := false }
def TopkBestSaid : Prop := topkBestRow.holds Try.pinned (OpenSpec.ofChange topkBestSpec)

/-- ITS FALSE NEIGHBOUR: 'it returns false'. Refute it at one input. -/
def topkBestWrong : ChangeSpec := { name := "topkBest", fn := fun _ => fun
  | [d1, d2, d3] => { results := [.lit (.bool false)], args := [d1, d2, d3] }
  | _ => none }
def TopkBestWrongFalsely : Prop := topkBestRow.holds Try.pinned (OpenSpec.ofChange topkBestWrong)

/-- 'concordlaw24.TopkLists': WHATEVER THE INPUT: true; the input reads as it did. -/
def topkListsSpec : ChangeSpec := { name := "topkLists", fn := fun _ => fun
  | [d1, d2, d3] => { results := [.lit (.bool true)], args := [d1, d2, d3] }
  | _ => none }
def topkListsRow : OpenClaim := { program := "ytmddnilephneiaa", sum := "5a4acfae9cc0d9d29aa5c50dc94d7b4428f1fa2b43cfe05c7a67bb8be8241029", func := "concord/concordlaw24.TopkLists", spec := "topkLists", inPlace := ["internal/reflectlite.ValueOf", "internal/reflectlite.Swapper", "(internal/reflectlite.Value).Len"], unfollowed := true, recurses := true, apart := false }
def TopkListsSaid : Prop := topkListsRow.holds Try.pinned (OpenSpec.ofChange topkListsSpec)

/-- ITS FALSE NEIGHBOUR: 'it returns false'. Refute it at one input. -/
def topkListsWrong : ChangeSpec := { name := "topkLists", fn := fun _ => fun
  | [d1, d2, d3] => { results := [.lit (.bool false)], args := [d1, d2, d3] }
  | _ => none }
def TopkListsWrongFalsely : Prop := topkListsRow.holds Try.pinned (OpenSpec.ofChange topkListsWrong)

/-- 'concordlaw24.TopkPages': WHATEVER THE INPUT: true; the input reads as it did. -/
def topkPagesSpec : ChangeSpec := { name := "topkPages", fn := fun _ => fun
  | [d1, d2] => { results := [.lit (.bool true)], args := [d1, d2] }
  | _ => none }
def topkPagesRow : OpenClaim := { program := "ytmddnilephneiaa", sum := "5a4acfae9cc0d9d29aa5c50dc94d7b4428f1fa2b43cfe05c7a67bb8be8241029", func := "concord/concordlaw24.TopkPages", spec := "topkPages", inPlace := ["internal/reflectlite.ValueOf", "internal/reflectlite.Swapper", "(internal/reflectlite.Value).Len"], unfollowed := true, recurses := true, apart := false }
def TopkPagesSaid : Prop := topkPagesRow.holds Try.pinned (OpenSpec.ofChange topkPagesSpec)

/-- ITS FALSE NEIGHBOUR: 'it returns false'. Refute it at one input. -/
def topkPagesWrong : ChangeSpec := { name := "topkPages", fn := fun _ => fun
  | [d1, d2] => { results := [.lit (.bool false)], args := [d1, d2] }
  | _ => none }
def TopkPagesWrongFalsely : Prop := topkPagesRow.holds Try.pinned (OpenSpec.ofChange topkPagesWrong)

/-- 'concordlaw24.TopkMemory': WHATEVER THE INPUT: true; the input reads as it did. -/
def topkMemorySpec : ChangeSpec := { name := "topkMemory", fn := fun _ => fun
  | [d1, d2, d3] => { results := [.lit (.bool true)], args := [d1, d2, d3] }
  | _ => none }
def topkMemoryRow : OpenClaim := { program := "ytmddnilephneiaa", sum := "5a4acfae9cc0d9d29aa5c50dc94d7b4428f1fa2b43cfe05c7a67bb8be8241029", func := "concord/concordlaw24.TopkMemory", spec := "topkMemory", inPlace := ["internal/reflectlite.ValueOf", "internal/reflectlite.Swapper", "(internal/reflectlite.Value).Len"], unfollowed := true, recurses := true, apart := false }
def TopkMemorySaid : Prop := topkMemoryRow.holds Try.pinned (OpenSpec.ofChange topkMemorySpec)

/-- ITS FALSE NEIGHBOUR: 'it returns false'. Refute it at one input. -/
def topkMemoryWrong : ChangeSpec := { name := "topkMemory", fn := fun _ => fun
  | [d1, d2, d3] => { results := [.lit (.bool false)], args := [d1, d2, d3] }
  | _ => none }
def TopkMemoryWrongFalsely : Prop := topkMemoryRow.holds Try.pinned (OpenSpec.ofChange topkMemoryWrong)

/- THE SECOND FORM. 'bulk': how many values and letters a reading holds, each counted each time it is reached (what is shared counts as often as it is met; a slice's spare places count too). A statement '..UptoSaid' is the law's where the arguments, and the package variables that the reading takes, are together of bulk at most 1048576: NARROWER than '..Said'. Prove '..Said' where nothing that the law and all that it calls make is longer than what came in: it says more and counts as full. Else prove '..UptoSaid'. A law counts once. -/
mutual
def uptoBulk {H : Type} : DataW H → Nat
  | .lit (.string bytes) => bytes.length + 1
  | .lit _ => 1
  | .nil => 1
  | .ptr d => uptoBulk d + 1
  | .slice elems spare => uptoBulkAll elems + uptoBulkAll spare + 1
  | .agg parts => uptoBulkAll parts + 1
  | .iface _ d => uptoBulk d + 1
  | .map entries => uptoBulkEntries entries + 1
  | .held _ => 1
def uptoBulkAll {H : Type} : List (DataW H) → Nat
  | [] => 0
  | d :: r => uptoBulk d + uptoBulkAll r
def uptoBulkEntries {H : Type} : List (Lit × DataW H) → Nat
  | [] => 0
  | x :: r => uptoBulkEntry x + uptoBulkEntries r
def uptoBulkEntry {H : Type} : Lit × DataW H → Nat
  | (.string bytes, d) => bytes.length + uptoBulk d + 1
  | (_, d) => uptoBulk d + 1
 end
def uptoSmall : (H : Type) → List (DataW H) → Bool := fun _ ds => decide (uptoBulkAll ds ≤ 1048576)
def OpenSpec.upto (s : _root_.Go.ChangeSpec) : _root_.Go.OpenSpec := { _root_.Go.OpenSpec.ofChange s with cond := some uptoSmall }

/-- 'concordlaw24.TopkPlays', WHERE WHAT IT READS IS OF BULK AT MOST 1048576: true; the input reads as it did. -/
def topkPlaysUptoRow : OpenClaim := { program := "ytmddnilephneiaa", sum := "5a4acfae9cc0d9d29aa5c50dc94d7b4428f1fa2b43cfe05c7a67bb8be8241029", func := "concord/concordlaw24.TopkPlays", spec := "topkPlays", inPlace := ["internal/reflectlite.ValueOf", "internal/reflectlite.Swapper", "(internal/reflectlite.Value).Len"], unfollowed := true, recurses := true, apart := false, narrowed := true }
def TopkPlaysUptoSaid : Prop := topkPlaysUptoRow.holds Try.pinned (OpenSpec.upto topkPlaysSpec)

/-- 'concordlaw24.TopkJoins', WHERE WHAT IT READS IS OF BULK AT MOST 1048576: true; the input reads as it did. -/
def topkJoinsUptoRow : OpenClaim := { program := "ytmddnilephneiaa", sum := "5a4acfae9cc0d9d29aa5c50dc94d7b4428f1fa2b43cfe05c7a67bb8be8241029", func := "concord/concordlaw24.TopkJoins", spec := "topkJoins", inPlace := ["internal/reflectlite.ValueOf", "internal/reflectlite.Swapper", "(internal/reflectlite.Value).Len"], unfollowed := true, recurses := true, apart := false, narrowed := true }
def TopkJoinsUptoSaid : Prop := topkJoinsUptoRow.holds Try.pinned (OpenSpec.upto topkJoinsSpec)

/-- 'concordlaw24.TopkBest', WHERE WHAT IT READS IS OF BULK AT MOST 1048576: true; the input reads as it did. -/
def topkBestUptoRow : OpenClaim := { program := "ytmddnilephneiaa", sum := "5a4acfae9cc0d9d29aa5c50dc94d7b4428f1fa2b43cfe05c7a67bb8be8241029", func := "concord/concordlaw24.TopkBest", spec := "topkBest", inPlace := ["internal/reflectlite.ValueOf", "internal/reflectlite.Swapper", "(internal/reflectlite.Value).Len"], unfollowed := true, recurses := true, apart := false, narrowed := true }
def TopkBestUptoSaid : Prop := topkBestUptoRow.holds Try.pinned (OpenSpec.upto topkBestSpec)

/-- 'concordlaw24.TopkLists', WHERE WHAT IT READS IS OF BULK AT MOST 1048576: true; the input reads as it did. -/
def topkListsUptoRow : OpenClaim := { program := "ytmddnilephneiaa", sum := "5a4acfae9cc0d9d29aa5c50dc94d7b4428f1fa2b43cfe05c7a67bb8be8241029", func := "concord/concordlaw24.TopkLists", spec := "topkLists", inPlace := ["internal/reflectlite.ValueOf", "internal/reflectlite.Swapper", "(internal/reflectlite.Value).Len"], unfollowed := true, recurses := true, apart := false, narrowed := true }
def TopkListsUptoSaid : Prop := topkListsUptoRow.holds Try.pinned (OpenSpec.upto topkListsSpec)

/-- 'concordlaw24.TopkPages', WHERE WHAT IT READS IS OF BULK AT MOST 1048576: true; the input reads as it did. -/
def topkPagesUptoRow : OpenClaim := { program := "ytmddnilephneiaa", sum := "5a4acfae9cc0d9d29aa5c50dc94d7b4428f1fa2b43cfe05c7a67bb8be8241029", func := "concord/concordlaw24.TopkPages", spec := "topkPages", inPlace := ["internal/reflectlite.ValueOf", "internal/reflectlite.Swapper", "(internal/reflectlite.Value).Len"], unfollowed := true, recurses := true, apart := false, narrowed := true }
def TopkPagesUptoSaid : Prop := topkPagesUptoRow.holds Try.pinned (OpenSpec.upto topkPagesSpec)

/-- 'concordlaw24.TopkMemory', WHERE WHAT IT READS IS OF BULK AT MOST 1048576: true; the input reads as it did. -/
def topkMemoryUptoRow : OpenClaim := { program := "ytmddnilephneiaa", sum := "5a4acfae9cc0d9d29aa5c50dc94d7b4428f1fa2b43cfe05c7a67bb8be8241029", func := "concord/concordlaw24.TopkMemory", spec := "topkMemory", inPlace := ["internal/reflectlite.ValueOf", "internal/reflectlite.Swapper", "(internal/reflectlite.Value).Len"], unfollowed := true, recurses := true, apart := false, narrowed := true }
def TopkMemoryUptoSaid : Prop := topkMemoryUptoRow.holds Try.pinned (OpenSpec.upto topkMemorySpec)

end Rows
end Go.Proofs.Ytmddnilephneiaa
