/-
  DERIVED. GIVEN WITH THE SEED: THE CARDS: each row of YtjbfdbbmgbekiaaGreatDoorRows.lean that lists a variable, with what it lists TIED to the program's text (the seventh form; the later family's looks); each row that meets fmt, with fmt's text TOLD by the authors' own Lean function (tested against real Go, not proved from fmt's source: count such statements apart). THE CARD IS WHAT COUNTS. Prove the row's statement (the work); the ties are given (YtjbfdbbmgbekiaaGreatDoorTie.lean); close each card by the builder's one call (the guide's Derived/Test/ToyasCard.lean, 'card_holds'). Laid BY PROGRAM, IN A SANDBOX (cutbox-door.mjs). By AI agents, Wed Nov 11 2026. No macro, syntax, notation, axiom, sorry.
-/
import Derived.Test.YtjbfdbbmgbekiaaGreatDoorRows
import GoSem.ClaimSeven
namespace Go.Proofs.YtjbfdbbmgbekiaaGreatDoor
namespace Rows

/-- THE TIED CARD OF 'replevinlaw07.RangesParses'. -/
def rangesParsesCard : Claim7 := { stood := { row := rangesParsesRow, standIns := [], harness := (true, "81c9a607ab3373d720562b60cf26e6ccf19a24edc162405186e3d0a5937d970d"), looks := true }, kinds := [], alts := [], laidByText := true, laidKinds := [.data, .data, .data, .data, .sentinel, .sentinel, .pinned], laidTests := true, laidLooks := .later }
def RangesParsesCardSaid : Prop := Claim7.holds Tryz.pinned (.plain (OpenSpec.ofChange rangesParsesSpec)) rangesParsesCard

/-- THE TIED CARD OF 'replevinlaw07.RangesTexts'. -/
def rangesTextsCard : Claim7 := { stood := { row := rangesTextsRow, standIns := [], harness := (true, "81c9a607ab3373d720562b60cf26e6ccf19a24edc162405186e3d0a5937d970d"), looks := true }, kinds := [], alts := [], laidByText := true, laidKinds := [.data, .data, .data, .data, .sentinel, .sentinel, .pinned], laidTests := true, laidLooks := .later }
def RangesTextsCardSaid : Prop := Claim7.holds Tryz.pinned (.plain (OpenSpec.ofChange rangesTextsSpec)) rangesTextsCard

/-- THE TIED CARD OF 'replevinlaw07.RangesLimits'. -/
def rangesLimitsCard : Claim7 := { stood := { row := rangesLimitsRow, standIns := [], harness := (true, "81c9a607ab3373d720562b60cf26e6ccf19a24edc162405186e3d0a5937d970d"), looks := true }, kinds := [], alts := [], laidByText := true, laidKinds := [.data, .data, .data, .data, .sentinel, .sentinel, .pinned], laidTests := true, laidLooks := .later }
def RangesLimitsCardSaid : Prop := Claim7.holds Tryz.pinned (.plain (OpenSpec.ofChange rangesLimitsSpec)) rangesLimitsCard

/-- THE SECOND FORM's CARD OF 'replevinlaw07.RangesParses'. -/
def rangesParsesUptoCard : Claim7 := { stood := { row := rangesParsesUptoRow, standIns := [], harness := (true, "81c9a607ab3373d720562b60cf26e6ccf19a24edc162405186e3d0a5937d970d"), looks := true }, kinds := [], alts := [], laidByText := true, laidKinds := [.data, .data, .data, .data, .sentinel, .sentinel, .pinned], laidTests := true, laidLooks := .later }
def RangesParsesUptoCardSaid : Prop := Claim7.holds Tryz.pinned (.plain (OpenSpec.upto rangesParsesSpec)) rangesParsesUptoCard

/-- THE SECOND FORM's CARD OF 'replevinlaw07.RangesTexts'. -/
def rangesTextsUptoCard : Claim7 := { stood := { row := rangesTextsUptoRow, standIns := [], harness := (true, "81c9a607ab3373d720562b60cf26e6ccf19a24edc162405186e3d0a5937d970d"), looks := true }, kinds := [], alts := [], laidByText := true, laidKinds := [.data, .data, .data, .data, .sentinel, .sentinel, .pinned], laidTests := true, laidLooks := .later }
def RangesTextsUptoCardSaid : Prop := Claim7.holds Tryz.pinned (.plain (OpenSpec.upto rangesTextsSpec)) rangesTextsUptoCard

/-- THE SECOND FORM's CARD OF 'replevinlaw07.RangesLimits'. -/
def rangesLimitsUptoCard : Claim7 := { stood := { row := rangesLimitsUptoRow, standIns := [], harness := (true, "81c9a607ab3373d720562b60cf26e6ccf19a24edc162405186e3d0a5937d970d"), looks := true }, kinds := [], alts := [], laidByText := true, laidKinds := [.data, .data, .data, .data, .sentinel, .sentinel, .pinned], laidTests := true, laidLooks := .later }
def RangesLimitsUptoCardSaid : Prop := Claim7.holds Tryz.pinned (.plain (OpenSpec.upto rangesLimitsSpec)) rangesLimitsUptoCard
end Rows
end Go.Proofs.YtjbfdbbmgbekiaaGreatDoor
