/-
  NARROWER THAN 'FOR EVERY INPUT', by the rows' own cells (each row's printed sentence says how): CompileMakes: loops, laid · CompileTables: loops, laid · CompilePasses: loops, laid.
  DERIVED. THE GIVEN ROWS OF THIS SEAT. 3 by the template 'for every input the law returns true; each argument reads behind the call as it read before'; 0 by the template 'total and deterministic' (their statements: YtfpikilhbkeajaaGreatDoorTotals.lean).
  GIVEN WITH THE SEED: the statements are not yours to turn. If you find one false, say at which input.
  Laid BY PROGRAM, IN A SANDBOX (cutbox-rows.mjs): the forced cells as the released guide's own fill.sh prints them over the translation cf3f2478ddd43823… (all of the seat's roots in one cut). By AI agents, Wed Nov 11 2026. No macro, syntax, notation, axiom, sorry.
-/
import Derived.Test.YtfpikilhbkeajaaGreatDoorChecked
import GoSem.Claim
import GoSem.ClaimJoined
import GoSem.ClaimMapViews
import Derived.JoinedTies
import Derived.KernelRfl
namespace Go.Proofs.YtfpikilhbkeajaaGreatDoor
/- THE CELL 'sum', in the pinned program and in every row, IS THE sha256 OF THE DUMP (.gsa) THAT YtfpikilhbkeajaaGreatDoorProg.lean LOADS. Nothing in Lean hashes anything: it is a label: what it is worth is what the hold of that sum in a sandbox is worth. -/
noncomputable def Tryz.pinned : Pinned := { name := "ytfpikilhbkeajaagreatdoor", sum := "cf3f2478ddd43823ecc0beffb37901b46afe6ab47518a765f18faaccb2d3b243", checked := Tryz.checked }
namespace Rows
def none {H : Type} : Left H := { results := [], args := [] }

/- WHAT THE LISTED PACKAGE-LEVEL VARIABLES READ AS WHEN THE CALL BEGINS. Each datum BY PROGRAM (the guide's laid-datum.mjs) off the statement by which the dump's own 'gosem.cut.vars' lays the variable. In a bare row this is a premise. The card (YtfpikilhbkeajaaGreatDoorCards.lean) ties it to the program's text. -/
def laid_concord_api_ErrShort {H : Type} : DataW H := .iface "*errors.errorString" (.ptr (.agg [.lit (.string [99, 111, 110, 99, 111, 114, 100, 58, 32, 116, 111, 111, 32, 115, 104, 111, 114, 116])]))
def laid_concord_api_ErrVarint {H : Type} : DataW H := .iface "*errors.errorString" (.ptr (.agg [.lit (.string [99, 111, 110, 99, 111, 114, 100, 58, 32, 118, 97, 114, 105, 110, 116])]))
def laid_concord_api_ErrLimit {H : Type} : DataW H := .iface "*errors.errorString" (.ptr (.agg [.lit (.string [99, 111, 110, 99, 111, 114, 100, 58, 32, 108, 105, 109, 105, 116])]))
def laid_concord_api_ErrOrder {H : Type} : DataW H := .iface "*errors.errorString" (.ptr (.agg [.lit (.string [99, 111, 110, 99, 111, 114, 100, 58, 32, 111, 114, 100, 101, 114])]))
def laid_concord_api_ErrTail {H : Type} : DataW H := .iface "*errors.errorString" (.ptr (.agg [.lit (.string [99, 111, 110, 99, 111, 114, 100, 58, 32, 116, 97, 105, 108])]))
def laid_concord_api_ErrTag {H : Type} : DataW H := .iface "*errors.errorString" (.ptr (.agg [.lit (.string [99, 111, 110, 99, 111, 114, 100, 58, 32, 116, 97, 103])]))
def laid_concord_api_ErrSum {H : Type} : DataW H := .iface "*errors.errorString" (.ptr (.agg [.lit (.string [99, 111, 110, 99, 111, 114, 100, 58, 32, 115, 117, 109])]))
def laid_concord_api_ErrRange {H : Type} : DataW H := .iface "*errors.errorString" (.ptr (.agg [.lit (.string [99, 111, 110, 99, 111, 114, 100, 58, 32, 114, 97, 110, 103, 101])]))
def laid_concord_api_ErrSize {H : Type} : DataW H := .iface "*errors.errorString" (.ptr (.agg [.lit (.string [99, 111, 110, 99, 111, 114, 100, 58, 32, 115, 105, 122, 101])]))
def laid_concord_api_ErrCorrupt {H : Type} : DataW H := .iface "*errors.errorString" (.ptr (.agg [.lit (.string [99, 111, 110, 99, 111, 114, 100, 58, 32, 99, 111, 114, 114, 117, 112, 116])]))
def laid_concord_api_ErrSchema {H : Type} : DataW H := .iface "*errors.errorString" (.ptr (.agg [.lit (.string [99, 111, 110, 99, 111, 114, 100, 58, 32, 115, 99, 104, 101, 109, 97])]))
def laid_concord_api_ErrField {H : Type} : DataW H := .iface "*errors.errorString" (.ptr (.agg [.lit (.string [99, 111, 110, 99, 111, 114, 100, 58, 32, 102, 105, 101, 108, 100])]))
def laid_concord_api_ErrValue {H : Type} : DataW H := .iface "*errors.errorString" (.ptr (.agg [.lit (.string [99, 111, 110, 99, 111, 114, 100, 58, 32, 118, 97, 108, 117, 101])]))
def laid_concord_api_ErrPattern {H : Type} : DataW H := .iface "*errors.errorString" (.ptr (.agg [.lit (.string [99, 111, 110, 99, 111, 114, 100, 58, 32, 112, 97, 116, 116, 101, 114, 110])]))
def laid_concord_api_ErrStates {H : Type} : DataW H := .iface "*errors.errorString" (.ptr (.agg [.lit (.string [99, 111, 110, 99, 111, 114, 100, 58, 32, 115, 116, 97, 116, 101, 115])]))
def laid_concord_api_ErrSyntax {H : Type} : DataW H := .iface "*errors.errorString" (.ptr (.agg [.lit (.string [99, 111, 110, 99, 111, 114, 100, 58, 32, 115, 121, 110, 116, 97, 120])]))
def laid_concord_api_ErrDeep {H : Type} : DataW H := .iface "*errors.errorString" (.ptr (.agg [.lit (.string [99, 111, 110, 99, 111, 114, 100, 58, 32, 116, 111, 111, 32, 100, 101, 101, 112])]))
def laid_concord_api_ErrNode {H : Type} : DataW H := .iface "*errors.errorString" (.ptr (.agg [.lit (.string [99, 111, 110, 99, 111, 114, 100, 58, 32, 110, 111, 100, 101])]))
def laid_concord_api_ErrTerms {H : Type} : DataW H := .iface "*errors.errorString" (.ptr (.agg [.lit (.string [99, 111, 110, 99, 111, 114, 100, 58, 32, 116, 111, 111, 32, 109, 97, 110, 121, 32, 116, 101, 114, 109, 115])]))
def laid_concord_api_ErrScore {H : Type} : DataW H := .iface "*errors.errorString" (.ptr (.agg [.lit (.string [99, 111, 110, 99, 111, 114, 100, 58, 32, 115, 99, 111, 114, 101, 32, 111, 118, 101, 114, 102, 108, 111, 119])]))
def laid_concord_api_ErrCode {H : Type} : DataW H := .iface "*errors.errorString" (.ptr (.agg [.lit (.string [99, 111, 110, 99, 111, 114, 100, 58, 32, 99, 111, 100, 101])]))
def laid_concord_api_ErrFuel {H : Type} : DataW H := .iface "*errors.errorString" (.ptr (.agg [.lit (.string [99, 111, 110, 99, 111, 114, 100, 58, 32, 102, 117, 101, 108])]))
def laid_concord_api_ErrDoc {H : Type} : DataW H := .iface "*errors.errorString" (.ptr (.agg [.lit (.string [99, 111, 110, 99, 111, 114, 100, 58, 32, 100, 111, 99, 117, 109, 101, 110, 116])]))
def laid_concord_api_ErrCommand {H : Type} : DataW H := .iface "*errors.errorString" (.ptr (.agg [.lit (.string [99, 111, 110, 99, 111, 114, 100, 58, 32, 99, 111, 109, 109, 97, 110, 100])]))
def laid_concord_isa_table {H : Type} : DataW H := .agg [.agg [.lit (.string [101, 110, 100]), .lit (.int .i64 0)], .agg [.lit (.string [110, 111, 110, 101]), .lit (.int .i64 0)], .agg [.lit (.string [97, 108, 108]), .lit (.int .i64 0)], .agg [.lit (.string [104, 97, 115]), .lit (.int .i64 1)], .agg [.lit (.string [116, 101, 114, 109]), .lit (.int .i64 2)], .agg [.lit (.string [112, 104, 114, 97, 115, 101]), .lit (.int .i64 2)], .agg [.lit (.string [97, 110, 100]), .lit (.int .i64 0)], .agg [.lit (.string [111, 114]), .lit (.int .i64 0)], .agg [.lit (.string [109, 97, 120]), .lit (.int .i64 0)], .agg [.lit (.string [111, 112, 116]), .lit (.int .i64 0)], .agg [.lit (.string [101, 120, 99, 101, 112, 116]), .lit (.int .i64 0)], .agg [.lit (.string [110, 111, 116]), .lit (.int .i64 0)], .agg [.lit (.string [115, 99, 97, 108, 101]), .lit (.int .i64 1)], .agg [.lit (.string [102, 105, 120]), .lit (.int .i64 1)], .agg [.lit (.string [108, 101, 97, 115, 116]), .lit (.int .i64 2)], .agg [.lit (.string [109, 105, 115, 115]), .lit (.int .i64 1)], .agg [.lit (.string [104, 105, 116]), .lit (.int .i64 1)]]

/-- 'concordlaw22.CompileMakes': WHATEVER THE INPUT: true; the input reads as it did. -/
def compileMakesSpec : ChangeSpec := { name := "compileMakes", fn := fun _ => fun
  | [d1, d2] => { results := [.lit (.bool true)], args := [d1, d2] }
  | _ => none }
def compileMakesRow : OpenClaim := { program := "ytfpikilhbkeajaagreatdoor", sum := "cf3f2478ddd43823ecc0beffb37901b46afe6ab47518a765f18faaccb2d3b243", func := "concord/concordlaw22.CompileMakes", spec := "compileMakes", inPlace := ["internal/reflectlite.ValueOf", "internal/reflectlite.Swapper", "(internal/reflectlite.Value).Len"], unfollowed := true, recurses := true, named := ["concord/api.ErrNode", "concord/api.ErrCode", "concord/isa.table", "concord/api.ErrShort", "concord/api.ErrVarint", "concord/api.ErrLimit", "concord/api.ErrOrder", "concord/api.ErrTail", "concord/api.ErrTag", "concord/api.ErrSum", "concord/api.ErrRange", "concord/api.ErrSize", "concord/api.ErrCorrupt", "concord/api.ErrSchema", "concord/api.ErrField", "concord/api.ErrValue", "concord/api.ErrPattern", "concord/api.ErrStates", "concord/api.ErrSyntax", "concord/api.ErrDeep", "concord/api.ErrTerms", "concord/api.ErrScore", "concord/api.ErrFuel", "concord/api.ErrDoc", "concord/api.ErrCommand"], loops := true, plainKeys := false, apart := false, laid := [("concord/api.ErrShort", laid_concord_api_ErrShort), ("concord/api.ErrVarint", laid_concord_api_ErrVarint), ("concord/api.ErrLimit", laid_concord_api_ErrLimit), ("concord/api.ErrOrder", laid_concord_api_ErrOrder), ("concord/api.ErrTail", laid_concord_api_ErrTail), ("concord/api.ErrTag", laid_concord_api_ErrTag), ("concord/api.ErrSum", laid_concord_api_ErrSum), ("concord/api.ErrRange", laid_concord_api_ErrRange), ("concord/api.ErrSize", laid_concord_api_ErrSize), ("concord/api.ErrCorrupt", laid_concord_api_ErrCorrupt), ("concord/api.ErrSchema", laid_concord_api_ErrSchema), ("concord/api.ErrField", laid_concord_api_ErrField), ("concord/api.ErrValue", laid_concord_api_ErrValue), ("concord/api.ErrPattern", laid_concord_api_ErrPattern), ("concord/api.ErrStates", laid_concord_api_ErrStates), ("concord/api.ErrSyntax", laid_concord_api_ErrSyntax), ("concord/api.ErrDeep", laid_concord_api_ErrDeep), ("concord/api.ErrNode", laid_concord_api_ErrNode), ("concord/api.ErrTerms", laid_concord_api_ErrTerms), ("concord/api.ErrScore", laid_concord_api_ErrScore), ("concord/api.ErrCode", laid_concord_api_ErrCode), ("concord/api.ErrFuel", laid_concord_api_ErrFuel), ("concord/api.ErrDoc", laid_concord_api_ErrDoc), ("concord/api.ErrCommand", laid_concord_api_ErrCommand), ("concord/isa.table", laid_concord_isa_table)] }
def CompileMakesSaid : Prop := compileMakesRow.holds Tryz.pinned (OpenSpec.ofChange compileMakesSpec)

/-- ITS FALSE NEIGHBOUR: 'it returns false'. Refute it at one input. -/
def compileMakesWrong : ChangeSpec := { name := "compileMakes", fn := fun _ => fun
  | [d1, d2] => { results := [.lit (.bool false)], args := [d1, d2] }
  | _ => none }
def CompileMakesWrongFalsely : Prop := compileMakesRow.holds Tryz.pinned (OpenSpec.ofChange compileMakesWrong)

/-- 'concordlaw22.CompileTables': WHATEVER THE INPUT: true; the input reads as it did. -/
def compileTablesSpec : ChangeSpec := { name := "compileTables", fn := fun _ => fun
  | [d1, d2, d3] => { results := [.lit (.bool true)], args := [d1, d2, d3] }
  | _ => none }
def compileTablesRow : OpenClaim := { program := "ytfpikilhbkeajaagreatdoor", sum := "cf3f2478ddd43823ecc0beffb37901b46afe6ab47518a765f18faaccb2d3b243", func := "concord/concordlaw22.CompileTables", spec := "compileTables", inPlace := ["internal/reflectlite.ValueOf", "internal/reflectlite.Swapper", "(internal/reflectlite.Value).Len"], unfollowed := true, recurses := true, named := ["concord/api.ErrNode", "concord/api.ErrCode", "concord/isa.table", "concord/api.ErrShort", "concord/api.ErrVarint"], loops := true, plainKeys := false, apart := false, laid := [("concord/api.ErrShort", laid_concord_api_ErrShort), ("concord/api.ErrVarint", laid_concord_api_ErrVarint), ("concord/api.ErrNode", laid_concord_api_ErrNode), ("concord/api.ErrCode", laid_concord_api_ErrCode), ("concord/isa.table", laid_concord_isa_table)] }
def CompileTablesSaid : Prop := compileTablesRow.holds Tryz.pinned (OpenSpec.ofChange compileTablesSpec)

/-- ITS FALSE NEIGHBOUR: 'it returns false'. Refute it at one input. -/
def compileTablesWrong : ChangeSpec := { name := "compileTables", fn := fun _ => fun
  | [d1, d2, d3] => { results := [.lit (.bool false)], args := [d1, d2, d3] }
  | _ => none }
def CompileTablesWrongFalsely : Prop := compileTablesRow.holds Tryz.pinned (OpenSpec.ofChange compileTablesWrong)

/-- 'concordlaw22.CompilePasses': WHATEVER THE INPUT: true; the input reads as it did. -/
def compilePassesSpec : ChangeSpec := { name := "compilePasses", fn := fun _ => fun
  | [d1, d2] => { results := [.lit (.bool true)], args := [d1, d2] }
  | _ => none }
def compilePassesRow : OpenClaim := { program := "ytfpikilhbkeajaagreatdoor", sum := "cf3f2478ddd43823ecc0beffb37901b46afe6ab47518a765f18faaccb2d3b243", func := "concord/concordlaw22.CompilePasses", spec := "compilePasses", inPlace := ["internal/reflectlite.ValueOf", "internal/reflectlite.Swapper", "(internal/reflectlite.Value).Len"], unfollowed := true, recurses := true, named := ["concord/api.ErrNode", "concord/api.ErrCode", "concord/isa.table", "concord/api.ErrShort", "concord/api.ErrVarint"], loops := true, plainKeys := false, apart := false, laid := [("concord/api.ErrShort", laid_concord_api_ErrShort), ("concord/api.ErrVarint", laid_concord_api_ErrVarint), ("concord/api.ErrNode", laid_concord_api_ErrNode), ("concord/api.ErrCode", laid_concord_api_ErrCode), ("concord/isa.table", laid_concord_isa_table)] }
def CompilePassesSaid : Prop := compilePassesRow.holds Tryz.pinned (OpenSpec.ofChange compilePassesSpec)

/-- ITS FALSE NEIGHBOUR: 'it returns false'. Refute it at one input. -/
def compilePassesWrong : ChangeSpec := { name := "compilePasses", fn := fun _ => fun
  | [d1, d2] => { results := [.lit (.bool false)], args := [d1, d2] }
  | _ => none }
def CompilePassesWrongFalsely : Prop := compilePassesRow.holds Tryz.pinned (OpenSpec.ofChange compilePassesWrong)

/- THE SECOND FORM. 'bulk': how many values and letters a reading holds, each counted each time it is reached (what is shared counts as often as it is met; a slice's spare places count too). A statement '..UptoSaid' is the law's where the arguments, and the package variables that the reading takes, are together of bulk at most 1048576: NARROWER than '..Said'. Prove '..Said' where nothing that the law and all that it calls make is longer than what came in: it says more and counts as full. Else prove '..UptoSaid'. A law counts once. -/
mutual
def uptoBulk {H : Type} : DataW H → Nat
  | .lit (.string bytes) => bytes.length + 1
  | .lit _ => 1
  | .nil => 1
  | .ptr d => uptoBulk d + 1
  | .slice elems spare => uptoBulkAll elems + uptoBulkAll spare + 1
  | .agg parts => uptoBulkAll parts + 1
  | .iface _ d => uptoBulk d + 1
  | .map entries => uptoBulkEntries entries + 1
  | .held _ => 1
def uptoBulkAll {H : Type} : List (DataW H) → Nat
  | [] => 0
  | d :: r => uptoBulk d + uptoBulkAll r
def uptoBulkEntries {H : Type} : List (Lit × DataW H) → Nat
  | [] => 0
  | x :: r => uptoBulkEntry x + uptoBulkEntries r
def uptoBulkEntry {H : Type} : Lit × DataW H → Nat
  | (.string bytes, d) => bytes.length + uptoBulk d + 1
  | (_, d) => uptoBulk d + 1
 end
def uptoSmall : (H : Type) → List (DataW H) → Bool := fun _ ds => decide (uptoBulkAll ds ≤ 1048576)
def OpenSpec.upto (s : _root_.Go.ChangeSpec) : _root_.Go.OpenSpec := { _root_.Go.OpenSpec.ofChange s with cond := some uptoSmall }

/-- 'concordlaw22.CompileMakes', WHERE WHAT IT READS IS OF BULK AT MOST 1048576: true; the input reads as it did. -/
def compileMakesUptoRow : OpenClaim := { program := "ytfpikilhbkeajaagreatdoor", sum := "cf3f2478ddd43823ecc0beffb37901b46afe6ab47518a765f18faaccb2d3b243", func := "concord/concordlaw22.CompileMakes", spec := "compileMakes", inPlace := ["internal/reflectlite.ValueOf", "internal/reflectlite.Swapper", "(internal/reflectlite.Value).Len"], unfollowed := true, recurses := true, named := ["concord/api.ErrNode", "concord/api.ErrCode", "concord/isa.table", "concord/api.ErrShort", "concord/api.ErrVarint", "concord/api.ErrLimit", "concord/api.ErrOrder", "concord/api.ErrTail", "concord/api.ErrTag", "concord/api.ErrSum", "concord/api.ErrRange", "concord/api.ErrSize", "concord/api.ErrCorrupt", "concord/api.ErrSchema", "concord/api.ErrField", "concord/api.ErrValue", "concord/api.ErrPattern", "concord/api.ErrStates", "concord/api.ErrSyntax", "concord/api.ErrDeep", "concord/api.ErrTerms", "concord/api.ErrScore", "concord/api.ErrFuel", "concord/api.ErrDoc", "concord/api.ErrCommand"], loops := true, plainKeys := false, apart := false, laid := [("concord/api.ErrShort", laid_concord_api_ErrShort), ("concord/api.ErrVarint", laid_concord_api_ErrVarint), ("concord/api.ErrLimit", laid_concord_api_ErrLimit), ("concord/api.ErrOrder", laid_concord_api_ErrOrder), ("concord/api.ErrTail", laid_concord_api_ErrTail), ("concord/api.ErrTag", laid_concord_api_ErrTag), ("concord/api.ErrSum", laid_concord_api_ErrSum), ("concord/api.ErrRange", laid_concord_api_ErrRange), ("concord/api.ErrSize", laid_concord_api_ErrSize), ("concord/api.ErrCorrupt", laid_concord_api_ErrCorrupt), ("concord/api.ErrSchema", laid_concord_api_ErrSchema), ("concord/api.ErrField", laid_concord_api_ErrField), ("concord/api.ErrValue", laid_concord_api_ErrValue), ("concord/api.ErrPattern", laid_concord_api_ErrPattern), ("concord/api.ErrStates", laid_concord_api_ErrStates), ("concord/api.ErrSyntax", laid_concord_api_ErrSyntax), ("concord/api.ErrDeep", laid_concord_api_ErrDeep), ("concord/api.ErrNode", laid_concord_api_ErrNode), ("concord/api.ErrTerms", laid_concord_api_ErrTerms), ("concord/api.ErrScore", laid_concord_api_ErrScore), ("concord/api.ErrCode", laid_concord_api_ErrCode), ("concord/api.ErrFuel", laid_concord_api_ErrFuel), ("concord/api.ErrDoc", laid_concord_api_ErrDoc), ("concord/api.ErrCommand", laid_concord_api_ErrCommand), ("concord/isa.table", laid_concord_isa_table)], narrowed := true }
def CompileMakesUptoSaid : Prop := compileMakesUptoRow.holds Tryz.pinned (OpenSpec.upto compileMakesSpec)

/-- 'concordlaw22.CompileTables', WHERE WHAT IT READS IS OF BULK AT MOST 1048576: true; the input reads as it did. -/
def compileTablesUptoRow : OpenClaim := { program := "ytfpikilhbkeajaagreatdoor", sum := "cf3f2478ddd43823ecc0beffb37901b46afe6ab47518a765f18faaccb2d3b243", func := "concord/concordlaw22.CompileTables", spec := "compileTables", inPlace := ["internal/reflectlite.ValueOf", "internal/reflectlite.Swapper", "(internal/reflectlite.Value).Len"], unfollowed := true, recurses := true, named := ["concord/api.ErrNode", "concord/api.ErrCode", "concord/isa.table", "concord/api.ErrShort", "concord/api.ErrVarint"], loops := true, plainKeys := false, apart := false, laid := [("concord/api.ErrShort", laid_concord_api_ErrShort), ("concord/api.ErrVarint", laid_concord_api_ErrVarint), ("concord/api.ErrNode", laid_concord_api_ErrNode), ("concord/api.ErrCode", laid_concord_api_ErrCode), ("concord/isa.table", laid_concord_isa_table)], narrowed := true }
def CompileTablesUptoSaid : Prop := compileTablesUptoRow.holds Tryz.pinned (OpenSpec.upto compileTablesSpec)

/-- 'concordlaw22.CompilePasses', WHERE WHAT IT READS IS OF BULK AT MOST 1048576: true; the input reads as it did. -/
def compilePassesUptoRow : OpenClaim := { program := "ytfpikilhbkeajaagreatdoor", sum := "cf3f2478ddd43823ecc0beffb37901b46afe6ab47518a765f18faaccb2d3b243", func := "concord/concordlaw22.CompilePasses", spec := "compilePasses", inPlace := ["internal/reflectlite.ValueOf", "internal/reflectlite.Swapper", "(internal/reflectlite.Value).Len"], unfollowed := true, recurses := true, named := ["concord/api.ErrNode", "concord/api.ErrCode", "concord/isa.table", "concord/api.ErrShort", "concord/api.ErrVarint"], loops := true, plainKeys := false, apart := false, laid := [("concord/api.ErrShort", laid_concord_api_ErrShort), ("concord/api.ErrVarint", laid_concord_api_ErrVarint), ("concord/api.ErrNode", laid_concord_api_ErrNode), ("concord/api.ErrCode", laid_concord_api_ErrCode), ("concord/isa.table", laid_concord_isa_table)], narrowed := true }
def CompilePassesUptoSaid : Prop := compilePassesUptoRow.holds Tryz.pinned (OpenSpec.upto compilePassesSpec)

end Rows
end Go.Proofs.YtfpikilhbkeajaaGreatDoor
