/-
  DERIVED. GIVEN WITH THE SEED: THE CARDS: each row of YtfmfeiikcckgdaaDoorRows.lean that lists a variable, with what it lists TIED to the program's text (the seventh form; the later family's looks); each row that meets fmt, with fmt's text TOLD by the authors' own Lean function (tested against real Go, not proved from fmt's source: count such statements apart). THE CARD IS WHAT COUNTS. Prove the row's statement (the work); the ties are given (YtfmfeiikcckgdaaDoorTie.lean); close each card by the builder's one call (the guide's Derived/Test/ToyasCard.lean, 'card_holds'). Laid BY PROGRAM, IN A SANDBOX (cutbox-door.mjs). By AI agents, Wed Nov 11 2026. No macro, syntax, notation, axiom, sorry.
-/
import Derived.Test.YtfmfeiikcckgdaaDoorRows
import GoSem.ClaimSeven
namespace Go.Proofs.YtfmfeiikcckgdaaDoor
namespace Rows

/-- THE TIED CARD OF 'replevinlaw21.LexerPlaces'. -/
def lexerPlacesCard : Claim7 := { stood := { row := lexerPlacesRow, standIns := [], harness := (true, "cf25f8f95a5b0ae877ebc849af2bd71b8c57284790652d28f5b578d7aa01c0ac"), looks := false }, kinds := [], alts := [], laidByText := true, laidKinds := [.listed, .data], laidTests := true, laidLooks := .later }
def LexerPlacesCardSaid : Prop := Claim7.holds Tryd.pinned (.plain (OpenSpec.ofChange lexerPlacesSpec)) lexerPlacesCard

/-- THE TIED CARD OF 'replevinlaw21.LexerWords'. -/
def lexerWordsCard : Claim7 := { stood := { row := lexerWordsRow, standIns := [], harness := (true, "cf25f8f95a5b0ae877ebc849af2bd71b8c57284790652d28f5b578d7aa01c0ac"), looks := false }, kinds := [], alts := [], laidByText := true, laidKinds := [.listed, .data], laidTests := true, laidLooks := .later }
def LexerWordsCardSaid : Prop := Claim7.holds Tryd.pinned (.plain (OpenSpec.ofChange lexerWordsSpec)) lexerWordsCard

/-- THE TIED CARD OF 'replevinlaw21.LexerBlanks'. -/
def lexerBlanksCard : Claim7 := { stood := { row := lexerBlanksRow, standIns := [], harness := (true, "cf25f8f95a5b0ae877ebc849af2bd71b8c57284790652d28f5b578d7aa01c0ac"), looks := false }, kinds := [], alts := [], laidByText := true, laidKinds := [.listed, .data], laidTests := true, laidLooks := .later }
def LexerBlanksCardSaid : Prop := Claim7.holds Tryd.pinned (.plain (OpenSpec.ofChange lexerBlanksSpec)) lexerBlanksCard

/-- THE TIED CARD OF 'replevinlaw21.LexerSame'. -/
def lexerSameCard : Claim7 := { stood := { row := lexerSameRow, standIns := [], harness := (true, "cf25f8f95a5b0ae877ebc849af2bd71b8c57284790652d28f5b578d7aa01c0ac"), looks := false }, kinds := [], alts := [], laidByText := true, laidKinds := [.listed, .data], laidTests := true, laidLooks := .later }
def LexerSameCardSaid : Prop := Claim7.holds Tryd.pinned (.plain (OpenSpec.ofChange lexerSameSpec)) lexerSameCard

/-- THE TIED CARD OF 'replevinlaw21.LexerQuotes'. -/
def lexerQuotesCard : Claim7 := { stood := { row := lexerQuotesRow, standIns := [], harness := (true, "cf25f8f95a5b0ae877ebc849af2bd71b8c57284790652d28f5b578d7aa01c0ac"), looks := false }, kinds := [], alts := [], laidByText := true, laidKinds := [.listed, .data], laidTests := true, laidLooks := .later }
def LexerQuotesCardSaid : Prop := Claim7.holds Tryd.pinned (.plain (OpenSpec.ofChange lexerQuotesSpec)) lexerQuotesCard

/-- THE TIED CARD OF 'replevinlaw21.LexerPrints'. -/
def lexerPrintsCard : Claim7 := { stood := { row := lexerPrintsRow, standIns := [], harness := (true, "cf25f8f95a5b0ae877ebc849af2bd71b8c57284790652d28f5b578d7aa01c0ac"), looks := false }, kinds := [], alts := [], laidByText := true, laidKinds := [.listed, .data], laidTests := true, laidLooks := .later }
def LexerPrintsCardSaid : Prop := Claim7.holds Tryd.pinned (.plain (OpenSpec.ofChange lexerPrintsSpec)) lexerPrintsCard

/-- THE SECOND FORM's CARD OF 'replevinlaw21.LexerPlaces'. -/
def lexerPlacesUptoCard : Claim7 := { stood := { row := lexerPlacesUptoRow, standIns := [], harness := (true, "cf25f8f95a5b0ae877ebc849af2bd71b8c57284790652d28f5b578d7aa01c0ac"), looks := false }, kinds := [], alts := [], laidByText := true, laidKinds := [.listed, .data], laidTests := true, laidLooks := .later }
def LexerPlacesUptoCardSaid : Prop := Claim7.holds Tryd.pinned (.plain (OpenSpec.upto lexerPlacesSpec)) lexerPlacesUptoCard

/-- THE SECOND FORM's CARD OF 'replevinlaw21.LexerWords'. -/
def lexerWordsUptoCard : Claim7 := { stood := { row := lexerWordsUptoRow, standIns := [], harness := (true, "cf25f8f95a5b0ae877ebc849af2bd71b8c57284790652d28f5b578d7aa01c0ac"), looks := false }, kinds := [], alts := [], laidByText := true, laidKinds := [.listed, .data], laidTests := true, laidLooks := .later }
def LexerWordsUptoCardSaid : Prop := Claim7.holds Tryd.pinned (.plain (OpenSpec.upto lexerWordsSpec)) lexerWordsUptoCard

/-- THE SECOND FORM's CARD OF 'replevinlaw21.LexerBlanks'. -/
def lexerBlanksUptoCard : Claim7 := { stood := { row := lexerBlanksUptoRow, standIns := [], harness := (true, "cf25f8f95a5b0ae877ebc849af2bd71b8c57284790652d28f5b578d7aa01c0ac"), looks := false }, kinds := [], alts := [], laidByText := true, laidKinds := [.listed, .data], laidTests := true, laidLooks := .later }
def LexerBlanksUptoCardSaid : Prop := Claim7.holds Tryd.pinned (.plain (OpenSpec.upto lexerBlanksSpec)) lexerBlanksUptoCard

/-- THE SECOND FORM's CARD OF 'replevinlaw21.LexerSame'. -/
def lexerSameUptoCard : Claim7 := { stood := { row := lexerSameUptoRow, standIns := [], harness := (true, "cf25f8f95a5b0ae877ebc849af2bd71b8c57284790652d28f5b578d7aa01c0ac"), looks := false }, kinds := [], alts := [], laidByText := true, laidKinds := [.listed, .data], laidTests := true, laidLooks := .later }
def LexerSameUptoCardSaid : Prop := Claim7.holds Tryd.pinned (.plain (OpenSpec.upto lexerSameSpec)) lexerSameUptoCard

/-- THE SECOND FORM's CARD OF 'replevinlaw21.LexerQuotes'. -/
def lexerQuotesUptoCard : Claim7 := { stood := { row := lexerQuotesUptoRow, standIns := [], harness := (true, "cf25f8f95a5b0ae877ebc849af2bd71b8c57284790652d28f5b578d7aa01c0ac"), looks := false }, kinds := [], alts := [], laidByText := true, laidKinds := [.listed, .data], laidTests := true, laidLooks := .later }
def LexerQuotesUptoCardSaid : Prop := Claim7.holds Tryd.pinned (.plain (OpenSpec.upto lexerQuotesSpec)) lexerQuotesUptoCard

/-- THE SECOND FORM's CARD OF 'replevinlaw21.LexerPrints'. -/
def lexerPrintsUptoCard : Claim7 := { stood := { row := lexerPrintsUptoRow, standIns := [], harness := (true, "cf25f8f95a5b0ae877ebc849af2bd71b8c57284790652d28f5b578d7aa01c0ac"), looks := false }, kinds := [], alts := [], laidByText := true, laidKinds := [.listed, .data], laidTests := true, laidLooks := .later }
def LexerPrintsUptoCardSaid : Prop := Claim7.holds Tryd.pinned (.plain (OpenSpec.upto lexerPrintsSpec)) lexerPrintsUptoCard
end Rows
end Go.Proofs.YtfmfeiikcckgdaaDoor
