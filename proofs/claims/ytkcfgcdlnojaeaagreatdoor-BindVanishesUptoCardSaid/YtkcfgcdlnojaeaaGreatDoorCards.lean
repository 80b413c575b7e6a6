/-
  DERIVED. GIVEN WITH THE SEED: THE CARDS: each row of YtkcfgcdlnojaeaaGreatDoorRows.lean that lists a variable, with what it lists TIED to the program's text (the seventh form; the later family's looks); each row that meets fmt, with fmt's text TOLD by the authors' own Lean function (tested against real Go, not proved from fmt's source: count such statements apart). THE CARD IS WHAT COUNTS. Prove the row's statement (the work); the ties are given (YtkcfgcdlnojaeaaGreatDoorTie.lean); close each card by the builder's one call (the guide's Derived/Test/ToyasCard.lean, 'card_holds'). Laid BY PROGRAM, IN A SANDBOX (cutbox-door.mjs). By AI agents, Wed Nov 11 2026. No macro, syntax, notation, axiom, sorry.
-/
import Derived.Test.YtkcfgcdlnojaeaaGreatDoorRows
import GoSem.ClaimSeven
namespace Go.Proofs.YtkcfgcdlnojaeaaGreatDoor
namespace Rows

/-- THE TIED CARD OF 'concordlaw16.BindTexts'. -/
def bindTextsCard : Claim7 := { stood := { row := bindTextsRow, standIns := [], harness := (true, "ec89baeb459822d748830ee2ad8a158bcf0dd2d0cd18516822c8faff9541ee0f"), looks := true }, kinds := [], alts := [], laidByText := true, laidKinds := [.data, .data, .data, .sentinel, .sentinel, .data, .listed, .data], laidTests := true, laidLooks := .later }
def BindTextsCardSaid : Prop := Claim7.holds Tryz.pinned (.plain (OpenSpec.ofChange bindTextsSpec)) bindTextsCard

/-- THE TIED CARD OF 'concordlaw16.BindGood'. -/
def bindGoodCard : Claim7 := { stood := { row := bindGoodRow, standIns := [], harness := (true, "ec89baeb459822d748830ee2ad8a158bcf0dd2d0cd18516822c8faff9541ee0f"), looks := true }, kinds := [], alts := [], laidByText := true, laidKinds := [.data, .data, .data, .sentinel, .sentinel, .data, .listed, .data], laidTests := true, laidLooks := .later }
def BindGoodCardSaid : Prop := Claim7.holds Tryz.pinned (.plain (OpenSpec.ofChange bindGoodSpec)) bindGoodCard

/-- THE TIED CARD OF 'concordlaw16.BindMeaning'. -/
def bindMeaningCard : Claim7 := { stood := { row := bindMeaningRow, standIns := [], harness := (true, "ec89baeb459822d748830ee2ad8a158bcf0dd2d0cd18516822c8faff9541ee0f"), looks := true }, kinds := [], alts := [], laidByText := true, laidKinds := [.data, .data, .data, .sentinel, .sentinel, .data, .listed, .data], laidTests := true, laidLooks := .later }
def BindMeaningCardSaid : Prop := Claim7.holds Tryz.pinned (.plain (OpenSpec.ofChange bindMeaningSpec)) bindMeaningCard

/-- THE TIED CARD OF 'concordlaw16.BindLeaves'. -/
def bindLeavesCard : Claim7 := { stood := { row := bindLeavesRow, standIns := [], harness := (true, "ec89baeb459822d748830ee2ad8a158bcf0dd2d0cd18516822c8faff9541ee0f"), looks := true }, kinds := [], alts := [], laidByText := true, laidKinds := [.data, .data, .data, .sentinel, .sentinel, .data, .listed, .data], laidTests := true, laidLooks := .later }
def BindLeavesCardSaid : Prop := Claim7.holds Tryz.pinned (.plain (OpenSpec.ofChange bindLeavesSpec)) bindLeavesCard

/-- THE TIED CARD OF 'concordlaw16.BindVanishes'. -/
def bindVanishesCard : Claim7 := { stood := { row := bindVanishesRow, standIns := [], harness := (true, "ec89baeb459822d748830ee2ad8a158bcf0dd2d0cd18516822c8faff9541ee0f"), looks := true }, kinds := [], alts := [], laidByText := true, laidKinds := [.data, .data, .data, .sentinel, .sentinel, .data, .listed, .data], laidTests := true, laidLooks := .later }
def BindVanishesCardSaid : Prop := Claim7.holds Tryz.pinned (.plain (OpenSpec.ofChange bindVanishesSpec)) bindVanishesCard

/-- THE TIED CARD OF 'concordlaw16.BindFolds'. -/
def bindFoldsCard : Claim7 := { stood := { row := bindFoldsRow, standIns := [], harness := (true, "ec89baeb459822d748830ee2ad8a158bcf0dd2d0cd18516822c8faff9541ee0f"), looks := true }, kinds := [], alts := [], laidByText := true, laidKinds := [.data, .data, .data, .sentinel, .sentinel, .data, .listed, .data], laidTests := true, laidLooks := .later }
def BindFoldsCardSaid : Prop := Claim7.holds Tryz.pinned (.plain (OpenSpec.ofChange bindFoldsSpec)) bindFoldsCard

/-- THE TIED CARD OF 'concordlaw16.BindOneText'. -/
def bindOneTextCard : Claim7 := { stood := { row := bindOneTextRow, standIns := [], harness := (true, "ec89baeb459822d748830ee2ad8a158bcf0dd2d0cd18516822c8faff9541ee0f"), looks := true }, kinds := [], alts := [], laidByText := true, laidKinds := [.data, .data, .data, .sentinel, .sentinel, .data, .listed, .data], laidTests := true, laidLooks := .later }
def BindOneTextCardSaid : Prop := Claim7.holds Tryz.pinned (.plain (OpenSpec.ofChange bindOneTextSpec)) bindOneTextCard

/-- THE TIED CARD OF 'concordlaw16.BindSames'. -/
def bindSamesCard : Claim7 := { stood := { row := bindSamesRow, standIns := [], harness := (true, "ec89baeb459822d748830ee2ad8a158bcf0dd2d0cd18516822c8faff9541ee0f"), looks := true }, kinds := [], alts := [], laidByText := true, laidKinds := [.data, .data, .data, .sentinel, .sentinel, .data, .listed, .data], laidTests := true, laidLooks := .later }
def BindSamesCardSaid : Prop := Claim7.holds Tryz.pinned (.plain (OpenSpec.ofChange bindSamesSpec)) bindSamesCard

/-- THE SECOND FORM's CARD OF 'concordlaw16.BindTexts'. -/
def bindTextsUptoCard : Claim7 := { stood := { row := bindTextsUptoRow, standIns := [], harness := (true, "ec89baeb459822d748830ee2ad8a158bcf0dd2d0cd18516822c8faff9541ee0f"), looks := true }, kinds := [], alts := [], laidByText := true, laidKinds := [.data, .data, .data, .sentinel, .sentinel, .data, .listed, .data], laidTests := true, laidLooks := .later }
def BindTextsUptoCardSaid : Prop := Claim7.holds Tryz.pinned (.plain (OpenSpec.upto bindTextsSpec)) bindTextsUptoCard

/-- THE SECOND FORM's CARD OF 'concordlaw16.BindGood'. -/
def bindGoodUptoCard : Claim7 := { stood := { row := bindGoodUptoRow, standIns := [], harness := (true, "ec89baeb459822d748830ee2ad8a158bcf0dd2d0cd18516822c8faff9541ee0f"), looks := true }, kinds := [], alts := [], laidByText := true, laidKinds := [.data, .data, .data, .sentinel, .sentinel, .data, .listed, .data], laidTests := true, laidLooks := .later }
def BindGoodUptoCardSaid : Prop := Claim7.holds Tryz.pinned (.plain (OpenSpec.upto bindGoodSpec)) bindGoodUptoCard

/-- THE SECOND FORM's CARD OF 'concordlaw16.BindMeaning'. -/
def bindMeaningUptoCard : Claim7 := { stood := { row := bindMeaningUptoRow, standIns := [], harness := (true, "ec89baeb459822d748830ee2ad8a158bcf0dd2d0cd18516822c8faff9541ee0f"), looks := true }, kinds := [], alts := [], laidByText := true, laidKinds := [.data, .data, .data, .sentinel, .sentinel, .data, .listed, .data], laidTests := true, laidLooks := .later }
def BindMeaningUptoCardSaid : Prop := Claim7.holds Tryz.pinned (.plain (OpenSpec.upto bindMeaningSpec)) bindMeaningUptoCard

/-- THE SECOND FORM's CARD OF 'concordlaw16.BindLeaves'. -/
def bindLeavesUptoCard : Claim7 := { stood := { row := bindLeavesUptoRow, standIns := [], harness := (true, "ec89baeb459822d748830ee2ad8a158bcf0dd2d0cd18516822c8faff9541ee0f"), looks := true }, kinds := [], alts := [], laidByText := true, laidKinds := [.data, .data, .data, .sentinel, .sentinel, .data, .listed, .data], laidTests := true, laidLooks := .later }
def BindLeavesUptoCardSaid : Prop := Claim7.holds Tryz.pinned (.plain (OpenSpec.upto bindLeavesSpec)) bindLeavesUptoCard

/-- THE SECOND FORM's CARD OF 'concordlaw16.BindVanishes'. -/
def bindVanishesUptoCard : Claim7 := { stood := { row := bindVanishesUptoRow, standIns := [], harness := (true, "ec89baeb459822d748830ee2ad8a158bcf0dd2d0cd18516822c8faff9541ee0f"), looks := true }, kinds := [], alts := [], laidByText := true, laidKinds := [.data, .data, .data, .sentinel, .sentinel, .data, .listed, .data], laidTests := true, laidLooks := .later }
def BindVanishesUptoCardSaid : Prop := Claim7.holds Tryz.pinned (.plain (OpenSpec.upto bindVanishesSpec)) bindVanishesUptoCard

/-- THE SECOND FORM's CARD OF 'concordlaw16.BindFolds'. -/
def bindFoldsUptoCard : Claim7 := { stood := { row := bindFoldsUptoRow, standIns := [], harness := (true, "ec89baeb459822d748830ee2ad8a158bcf0dd2d0cd18516822c8faff9541ee0f"), looks := true }, kinds := [], alts := [], laidByText := true, laidKinds := [.data, .data, .data, .sentinel, .sentinel, .data, .listed, .data], laidTests := true, laidLooks := .later }
def BindFoldsUptoCardSaid : Prop := Claim7.holds Tryz.pinned (.plain (OpenSpec.upto bindFoldsSpec)) bindFoldsUptoCard

/-- THE SECOND FORM's CARD OF 'concordlaw16.BindOneText'. -/
def bindOneTextUptoCard : Claim7 := { stood := { row := bindOneTextUptoRow, standIns := [], harness := (true, "ec89baeb459822d748830ee2ad8a158bcf0dd2d0cd18516822c8faff9541ee0f"), looks := true }, kinds := [], alts := [], laidByText := true, laidKinds := [.data, .data, .data, .sentinel, .sentinel, .data, .listed, .data], laidTests := true, laidLooks := .later }
def BindOneTextUptoCardSaid : Prop := Claim7.holds Tryz.pinned (.plain (OpenSpec.upto bindOneTextSpec)) bindOneTextUptoCard

/-- THE SECOND FORM's CARD OF 'concordlaw16.BindSames'. -/
def bindSamesUptoCard : Claim7 := { stood := { row := bindSamesUptoRow, standIns := [], harness := (true, "ec89baeb459822d748830ee2ad8a158bcf0dd2d0cd18516822c8faff9541ee0f"), looks := true }, kinds := [], alts := [], laidByText := true, laidKinds := [.data, .data, .data, .sentinel, .sentinel, .data, .listed, .data], laidTests := true, laidLooks := .later }
def BindSamesUptoCardSaid : Prop := Claim7.holds Tryz.pinned (.plain (OpenSpec.upto bindSamesSpec)) bindSamesUptoCard
end Rows
end Go.Proofs.YtkcfgcdlnojaeaaGreatDoor
