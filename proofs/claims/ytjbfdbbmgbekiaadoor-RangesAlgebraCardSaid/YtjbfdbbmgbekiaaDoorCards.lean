/-
  DERIVED. GIVEN WITH THE SEED: THE CARDS: each row of YtjbfdbbmgbekiaaDoorRows.lean that lists a variable, with what it lists TIED to the program's text (the seventh form; the later family's looks); each row that meets fmt, with fmt's text TOLD by the authors' own Lean function (tested against real Go, not proved from fmt's source: count such statements apart). THE CARD IS WHAT COUNTS. Prove the row's statement (the work); the ties are given (YtjbfdbbmgbekiaaDoorTie.lean); close each card by the builder's one call (the guide's Derived/Test/ToyasCard.lean, 'card_holds'). Laid BY PROGRAM, IN A SANDBOX (cutbox-door.mjs). By AI agents, Wed Nov 11 2026. No macro, syntax, notation, axiom, sorry.
-/
import Derived.Test.YtjbfdbbmgbekiaaDoorRows
import GoSem.ClaimSeven
namespace Go.Proofs.YtjbfdbbmgbekiaaDoor
namespace Rows

/-- THE TIED CARD OF 'replevinlaw07.RangesLong'. -/
def rangesLongCard : Claim7 := { stood := { row := rangesLongRow, standIns := [], harness := (true, "76be8645d81c9e40f1f97353ccc90098cbbb6e53ebb88a6df9a0e272f4ff8585"), looks := false }, kinds := [], alts := [], laidByText := true, laidKinds := [.data, .data, .data], laidTests := true, laidLooks := .later }
def RangesLongCardSaid : Prop := Claim7.holds Tryd.pinned (.plain (OpenSpec.ofChange rangesLongSpec)) rangesLongCard

/-- THE TIED CARD OF 'replevinlaw07.RangesOf'. -/
def rangesOfCard : Claim7 := { stood := { row := rangesOfRow, standIns := [], harness := (true, "76be8645d81c9e40f1f97353ccc90098cbbb6e53ebb88a6df9a0e272f4ff8585"), looks := false }, kinds := [], alts := [], laidByText := true, laidKinds := [.data, .data, .data], laidTests := true, laidLooks := .later }
def RangesOfCardSaid : Prop := Claim7.holds Tryd.pinned (.plain (OpenSpec.ofChange rangesOfSpec)) rangesOfCard

/-- THE TIED CARD OF 'replevinlaw07.RangesChanged'. -/
def rangesChangedCard : Claim7 := { stood := { row := rangesChangedRow, standIns := [], harness := (true, "76be8645d81c9e40f1f97353ccc90098cbbb6e53ebb88a6df9a0e272f4ff8585"), looks := false }, kinds := [], alts := [], laidByText := true, laidKinds := [.data, .data, .data], laidTests := true, laidLooks := .later }
def RangesChangedCardSaid : Prop := Claim7.holds Tryd.pinned (.plain (OpenSpec.ofChange rangesChangedSpec)) rangesChangedCard

/-- THE TIED CARD OF 'replevinlaw07.RangesBlocks'. -/
def rangesBlocksCard : Claim7 := { stood := { row := rangesBlocksRow, standIns := [], harness := (true, "76be8645d81c9e40f1f97353ccc90098cbbb6e53ebb88a6df9a0e272f4ff8585"), looks := false }, kinds := [], alts := [], laidByText := true, laidKinds := [.data, .data, .data], laidTests := true, laidLooks := .later }
def RangesBlocksCardSaid : Prop := Claim7.holds Tryd.pinned (.plain (OpenSpec.ofChange rangesBlocksSpec)) rangesBlocksCard

/-- THE TIED CARD OF 'replevinlaw07.RangesCombine'. -/
def rangesCombineCard : Claim7 := { stood := { row := rangesCombineRow, standIns := [], harness := (true, "76be8645d81c9e40f1f97353ccc90098cbbb6e53ebb88a6df9a0e272f4ff8585"), looks := false }, kinds := [], alts := [], laidByText := true, laidKinds := [.data, .data, .data], laidTests := true, laidLooks := .later }
def RangesCombineCardSaid : Prop := Claim7.holds Tryd.pinned (.plain (OpenSpec.ofChange rangesCombineSpec)) rangesCombineCard

/-- THE TIED CARD OF 'replevinlaw07.RangesAlgebra'. -/
def rangesAlgebraCard : Claim7 := { stood := { row := rangesAlgebraRow, standIns := [], harness := (true, "76be8645d81c9e40f1f97353ccc90098cbbb6e53ebb88a6df9a0e272f4ff8585"), looks := false }, kinds := [], alts := [], laidByText := true, laidKinds := [.data, .data, .data], laidTests := true, laidLooks := .later }
def RangesAlgebraCardSaid : Prop := Claim7.holds Tryd.pinned (.plain (OpenSpec.ofChange rangesAlgebraSpec)) rangesAlgebraCard

/-- THE SECOND FORM's CARD OF 'replevinlaw07.RangesLong'. -/
def rangesLongUptoCard : Claim7 := { stood := { row := rangesLongUptoRow, standIns := [], harness := (true, "76be8645d81c9e40f1f97353ccc90098cbbb6e53ebb88a6df9a0e272f4ff8585"), looks := false }, kinds := [], alts := [], laidByText := true, laidKinds := [.data, .data, .data], laidTests := true, laidLooks := .later }
def RangesLongUptoCardSaid : Prop := Claim7.holds Tryd.pinned (.plain (OpenSpec.upto rangesLongSpec)) rangesLongUptoCard

/-- THE SECOND FORM's CARD OF 'replevinlaw07.RangesOf'. -/
def rangesOfUptoCard : Claim7 := { stood := { row := rangesOfUptoRow, standIns := [], harness := (true, "76be8645d81c9e40f1f97353ccc90098cbbb6e53ebb88a6df9a0e272f4ff8585"), looks := false }, kinds := [], alts := [], laidByText := true, laidKinds := [.data, .data, .data], laidTests := true, laidLooks := .later }
def RangesOfUptoCardSaid : Prop := Claim7.holds Tryd.pinned (.plain (OpenSpec.upto rangesOfSpec)) rangesOfUptoCard

/-- THE SECOND FORM's CARD OF 'replevinlaw07.RangesChanged'. -/
def rangesChangedUptoCard : Claim7 := { stood := { row := rangesChangedUptoRow, standIns := [], harness := (true, "76be8645d81c9e40f1f97353ccc90098cbbb6e53ebb88a6df9a0e272f4ff8585"), looks := false }, kinds := [], alts := [], laidByText := true, laidKinds := [.data, .data, .data], laidTests := true, laidLooks := .later }
def RangesChangedUptoCardSaid : Prop := Claim7.holds Tryd.pinned (.plain (OpenSpec.upto rangesChangedSpec)) rangesChangedUptoCard

/-- THE SECOND FORM's CARD OF 'replevinlaw07.RangesBlocks'. -/
def rangesBlocksUptoCard : Claim7 := { stood := { row := rangesBlocksUptoRow, standIns := [], harness := (true, "76be8645d81c9e40f1f97353ccc90098cbbb6e53ebb88a6df9a0e272f4ff8585"), looks := false }, kinds := [], alts := [], laidByText := true, laidKinds := [.data, .data, .data], laidTests := true, laidLooks := .later }
def RangesBlocksUptoCardSaid : Prop := Claim7.holds Tryd.pinned (.plain (OpenSpec.upto rangesBlocksSpec)) rangesBlocksUptoCard

/-- THE SECOND FORM's CARD OF 'replevinlaw07.RangesCombine'. -/
def rangesCombineUptoCard : Claim7 := { stood := { row := rangesCombineUptoRow, standIns := [], harness := (true, "76be8645d81c9e40f1f97353ccc90098cbbb6e53ebb88a6df9a0e272f4ff8585"), looks := false }, kinds := [], alts := [], laidByText := true, laidKinds := [.data, .data, .data], laidTests := true, laidLooks := .later }
def RangesCombineUptoCardSaid : Prop := Claim7.holds Tryd.pinned (.plain (OpenSpec.upto rangesCombineSpec)) rangesCombineUptoCard

/-- THE SECOND FORM's CARD OF 'replevinlaw07.RangesAlgebra'. -/
def rangesAlgebraUptoCard : Claim7 := { stood := { row := rangesAlgebraUptoRow, standIns := [], harness := (true, "76be8645d81c9e40f1f97353ccc90098cbbb6e53ebb88a6df9a0e272f4ff8585"), looks := false }, kinds := [], alts := [], laidByText := true, laidKinds := [.data, .data, .data], laidTests := true, laidLooks := .later }
def RangesAlgebraUptoCardSaid : Prop := Claim7.holds Tryd.pinned (.plain (OpenSpec.upto rangesAlgebraSpec)) rangesAlgebraUptoCard
end Rows
end Go.Proofs.YtjbfdbbmgbekiaaDoor
