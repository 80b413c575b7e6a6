/-
  DERIVED. GIVEN WITH THE SEED: THE CARDS: each row of YtfpikilhbkeajaaGreatDoorRows.lean that lists a variable, with what it lists TIED to the program's text (the seventh form; the later family's looks); each row that meets fmt, with fmt's text TOLD by the authors' own Lean function (tested against real Go, not proved from fmt's source: count such statements apart). THE CARD IS WHAT COUNTS. Prove the row's statement (the work); the ties are given (YtfpikilhbkeajaaGreatDoorTie.lean); close each card by the builder's one call (the guide's Derived/Test/ToyasCard.lean, 'card_holds'). Laid BY PROGRAM, IN A SANDBOX (cutbox-door.mjs). By AI agents, Wed Nov 11 2026. No macro, syntax, notation, axiom, sorry.
-/
import Derived.Test.YtfpikilhbkeajaaGreatDoorRows
import GoSem.ClaimSeven
namespace Go.Proofs.YtfpikilhbkeajaaGreatDoor
namespace Rows

/-- THE TIED CARD OF 'concordlaw22.CompileMakes'. -/
def compileMakesCard : Claim7 := { stood := { row := compileMakesRow, standIns := [], harness := (true, "81bf903fb70b771f248d5f297bd1c33b254ba452a3d2708b2c50d9f6212982e6"), looks := true }, kinds := [], alts := [], laidByText := true, laidKinds := [.sentinel, .sentinel, .sentinel, .sentinel, .sentinel, .sentinel, .sentinel, .sentinel, .sentinel, .sentinel, .sentinel, .sentinel, .sentinel, .sentinel, .sentinel, .sentinel, .sentinel, .sentinel, .sentinel, .sentinel, .sentinel, .sentinel, .sentinel, .sentinel, .data], laidTests := true, laidLooks := .later }
def CompileMakesCardSaid : Prop := Claim7.holds Tryz.pinned (.plain (OpenSpec.ofChange compileMakesSpec)) compileMakesCard

/-- THE TIED CARD OF 'concordlaw22.CompileTables'. -/
def compileTablesCard : Claim7 := { stood := { row := compileTablesRow, standIns := [], harness := (true, "81bf903fb70b771f248d5f297bd1c33b254ba452a3d2708b2c50d9f6212982e6"), looks := true }, kinds := [], alts := [], laidByText := true, laidKinds := [.sentinel, .sentinel, .sentinel, .sentinel, .data], laidTests := true, laidLooks := .later }
def CompileTablesCardSaid : Prop := Claim7.holds Tryz.pinned (.plain (OpenSpec.ofChange compileTablesSpec)) compileTablesCard

/-- THE TIED CARD OF 'concordlaw22.CompilePasses'. -/
def compilePassesCard : Claim7 := { stood := { row := compilePassesRow, standIns := [], harness := (true, "81bf903fb70b771f248d5f297bd1c33b254ba452a3d2708b2c50d9f6212982e6"), looks := true }, kinds := [], alts := [], laidByText := true, laidKinds := [.sentinel, .sentinel, .sentinel, .sentinel, .data], laidTests := true, laidLooks := .later }
def CompilePassesCardSaid : Prop := Claim7.holds Tryz.pinned (.plain (OpenSpec.ofChange compilePassesSpec)) compilePassesCard

/-- THE SECOND FORM's CARD OF 'concordlaw22.CompileMakes'. -/
def compileMakesUptoCard : Claim7 := { stood := { row := compileMakesUptoRow, standIns := [], harness := (true, "81bf903fb70b771f248d5f297bd1c33b254ba452a3d2708b2c50d9f6212982e6"), looks := true }, kinds := [], alts := [], laidByText := true, laidKinds := [.sentinel, .sentinel, .sentinel, .sentinel, .sentinel, .sentinel, .sentinel, .sentinel, .sentinel, .sentinel, .sentinel, .sentinel, .sentinel, .sentinel, .sentinel, .sentinel, .sentinel, .sentinel, .sentinel, .sentinel, .sentinel, .sentinel, .sentinel, .sentinel, .data], laidTests := true, laidLooks := .later }
def CompileMakesUptoCardSaid : Prop := Claim7.holds Tryz.pinned (.plain (OpenSpec.upto compileMakesSpec)) compileMakesUptoCard

/-- THE SECOND FORM's CARD OF 'concordlaw22.CompileTables'. -/
def compileTablesUptoCard : Claim7 := { stood := { row := compileTablesUptoRow, standIns := [], harness := (true, "81bf903fb70b771f248d5f297bd1c33b254ba452a3d2708b2c50d9f6212982e6"), looks := true }, kinds := [], alts := [], laidByText := true, laidKinds := [.sentinel, .sentinel, .sentinel, .sentinel, .data], laidTests := true, laidLooks := .later }
def CompileTablesUptoCardSaid : Prop := Claim7.holds Tryz.pinned (.plain (OpenSpec.upto compileTablesSpec)) compileTablesUptoCard

/-- THE SECOND FORM's CARD OF 'concordlaw22.CompilePasses'. -/
def compilePassesUptoCard : Claim7 := { stood := { row := compilePassesUptoRow, standIns := [], harness := (true, "81bf903fb70b771f248d5f297bd1c33b254ba452a3d2708b2c50d9f6212982e6"), looks := true }, kinds := [], alts := [], laidByText := true, laidKinds := [.sentinel, .sentinel, .sentinel, .sentinel, .data], laidTests := true, laidLooks := .later }
def CompilePassesUptoCardSaid : Prop := Claim7.holds Tryz.pinned (.plain (OpenSpec.upto compilePassesSpec)) compilePassesUptoCard
end Rows
end Go.Proofs.YtfpikilhbkeajaaGreatDoor
