/-
  DERIVED. GIVEN WITH THE SEED: THE CARDS: each row of YtmoahflgcojfcaaDoorRows.lean that lists a variable, with what it lists TIED to the program's text (the seventh form; the later family's looks); each row that meets fmt, with fmt's text TOLD by the authors' own Lean function (tested against real Go, not proved from fmt's source: count such statements apart). THE CARD IS WHAT COUNTS. Prove the row's statement (the work); the ties are given (YtmoahflgcojfcaaDoorTie.lean); close each card by the builder's one call (the guide's Derived/Test/ToyasCard.lean, 'card_holds'). Laid BY PROGRAM, IN A SANDBOX (cutbox-door.mjs). By AI agents, Wed Nov 11 2026. No macro, syntax, notation, axiom, sorry.
-/
import Derived.Test.YtmoahflgcojfcaaDoorRows
import GoSem.ClaimSeven
namespace Go.Proofs.YtmoahflgcojfcaaDoor
namespace Rows

/-- THE TIED CARD OF 'concordlaw05.TokensStops'. -/
def tokensStopsCard : Claim7 := { stood := { row := tokensStopsRow, standIns := [], harness := (true, "6aecf708b7b29f0c9f509666d2a26c4181de9dcb5ab03ca54c54b582fe98b521"), looks := false }, kinds := [], alts := [], laidByText := true, laidKinds := [.listed, .data], laidTests := true, laidLooks := .later }
def TokensStopsCardSaid : Prop := Claim7.holds Tryd.pinned (.plain (OpenSpec.ofChange tokensStopsSpec)) tokensStopsCard

/-- THE TIED CARD OF 'concordlaw05.TokensChain'. -/
def tokensChainCard : Claim7 := { stood := { row := tokensChainRow, standIns := [], harness := (true, "6aecf708b7b29f0c9f509666d2a26c4181de9dcb5ab03ca54c54b582fe98b521"), looks := false }, kinds := [], alts := [], laidByText := true, laidKinds := [.listed, .data], laidTests := true, laidLooks := .later }
def TokensChainCardSaid : Prop := Claim7.holds Tryd.pinned (.plain (OpenSpec.ofChange tokensChainSpec)) tokensChainCard

/-- THE TIED CARD OF 'concordlaw05.TokensOfs'. -/
def tokensOfsCard : Claim7 := { stood := { row := tokensOfsRow, standIns := [], harness := (true, "6aecf708b7b29f0c9f509666d2a26c4181de9dcb5ab03ca54c54b582fe98b521"), looks := false }, kinds := [], alts := [], laidByText := true, laidKinds := [.listed, .data], laidTests := true, laidLooks := .later }
def TokensOfsCardSaid : Prop := Claim7.holds Tryd.pinned (.plain (OpenSpec.ofChange tokensOfsSpec)) tokensOfsCard

/-- THE TIED CARD OF 'concordlaw05.TokensFields'. -/
def tokensFieldsCard : Claim7 := { stood := { row := tokensFieldsRow, standIns := [], harness := (true, "6aecf708b7b29f0c9f509666d2a26c4181de9dcb5ab03ca54c54b582fe98b521"), looks := false }, kinds := [], alts := [], laidByText := true, laidKinds := [.listed, .data], laidTests := true, laidLooks := .later }
def TokensFieldsCardSaid : Prop := Claim7.holds Tryd.pinned (.plain (OpenSpec.ofChange tokensFieldsSpec)) tokensFieldsCard

/-- THE TIED CARD OF 'concordlaw05.TokensGaps'. -/
def tokensGapsCard : Claim7 := { stood := { row := tokensGapsRow, standIns := [], harness := (true, "6aecf708b7b29f0c9f509666d2a26c4181de9dcb5ab03ca54c54b582fe98b521"), looks := false }, kinds := [], alts := [], laidByText := true, laidKinds := [.listed, .data], laidTests := true, laidLooks := .later }
def TokensGapsCardSaid : Prop := Claim7.holds Tryd.pinned (.plain (OpenSpec.ofChange tokensGapsSpec)) tokensGapsCard

/-- THE TIED CARD OF 'concordlaw05.TokensOwns'. -/
def tokensOwnsCard : Claim7 := { stood := { row := tokensOwnsRow, standIns := [], harness := (true, "6aecf708b7b29f0c9f509666d2a26c4181de9dcb5ab03ca54c54b582fe98b521"), looks := false }, kinds := [], alts := [], laidByText := true, laidKinds := [.listed, .data], laidTests := true, laidLooks := .later }
def TokensOwnsCardSaid : Prop := Claim7.holds Tryd.pinned (.plain (OpenSpec.ofChange tokensOwnsSpec)) tokensOwnsCard

/-- THE SECOND FORM's CARD OF 'concordlaw05.TokensStops'. -/
def tokensStopsUptoCard : Claim7 := { stood := { row := tokensStopsUptoRow, standIns := [], harness := (true, "6aecf708b7b29f0c9f509666d2a26c4181de9dcb5ab03ca54c54b582fe98b521"), looks := false }, kinds := [], alts := [], laidByText := true, laidKinds := [.listed, .data], laidTests := true, laidLooks := .later }
def TokensStopsUptoCardSaid : Prop := Claim7.holds Tryd.pinned (.plain (OpenSpec.upto tokensStopsSpec)) tokensStopsUptoCard

/-- THE SECOND FORM's CARD OF 'concordlaw05.TokensChain'. -/
def tokensChainUptoCard : Claim7 := { stood := { row := tokensChainUptoRow, standIns := [], harness := (true, "6aecf708b7b29f0c9f509666d2a26c4181de9dcb5ab03ca54c54b582fe98b521"), looks := false }, kinds := [], alts := [], laidByText := true, laidKinds := [.listed, .data], laidTests := true, laidLooks := .later }
def TokensChainUptoCardSaid : Prop := Claim7.holds Tryd.pinned (.plain (OpenSpec.upto tokensChainSpec)) tokensChainUptoCard

/-- THE SECOND FORM's CARD OF 'concordlaw05.TokensOfs'. -/
def tokensOfsUptoCard : Claim7 := { stood := { row := tokensOfsUptoRow, standIns := [], harness := (true, "6aecf708b7b29f0c9f509666d2a26c4181de9dcb5ab03ca54c54b582fe98b521"), looks := false }, kinds := [], alts := [], laidByText := true, laidKinds := [.listed, .data], laidTests := true, laidLooks := .later }
def TokensOfsUptoCardSaid : Prop := Claim7.holds Tryd.pinned (.plain (OpenSpec.upto tokensOfsSpec)) tokensOfsUptoCard

/-- THE SECOND FORM's CARD OF 'concordlaw05.TokensFields'. -/
def tokensFieldsUptoCard : Claim7 := { stood := { row := tokensFieldsUptoRow, standIns := [], harness := (true, "6aecf708b7b29f0c9f509666d2a26c4181de9dcb5ab03ca54c54b582fe98b521"), looks := false }, kinds := [], alts := [], laidByText := true, laidKinds := [.listed, .data], laidTests := true, laidLooks := .later }
def TokensFieldsUptoCardSaid : Prop := Claim7.holds Tryd.pinned (.plain (OpenSpec.upto tokensFieldsSpec)) tokensFieldsUptoCard

/-- THE SECOND FORM's CARD OF 'concordlaw05.TokensGaps'. -/
def tokensGapsUptoCard : Claim7 := { stood := { row := tokensGapsUptoRow, standIns := [], harness := (true, "6aecf708b7b29f0c9f509666d2a26c4181de9dcb5ab03ca54c54b582fe98b521"), looks := false }, kinds := [], alts := [], laidByText := true, laidKinds := [.listed, .data], laidTests := true, laidLooks := .later }
def TokensGapsUptoCardSaid : Prop := Claim7.holds Tryd.pinned (.plain (OpenSpec.upto tokensGapsSpec)) tokensGapsUptoCard

/-- THE SECOND FORM's CARD OF 'concordlaw05.TokensOwns'. -/
def tokensOwnsUptoCard : Claim7 := { stood := { row := tokensOwnsUptoRow, standIns := [], harness := (true, "6aecf708b7b29f0c9f509666d2a26c4181de9dcb5ab03ca54c54b582fe98b521"), looks := false }, kinds := [], alts := [], laidByText := true, laidKinds := [.listed, .data], laidTests := true, laidLooks := .later }
def TokensOwnsUptoCardSaid : Prop := Claim7.holds Tryd.pinned (.plain (OpenSpec.upto tokensOwnsSpec)) tokensOwnsUptoCard
end Rows
end Go.Proofs.YtmoahflgcojfcaaDoor
