/-
  NARROWER THAN 'FOR EVERY INPUT', by the rows' own cells (each row's printed sentence says how): RangesLong: laid · RangesOf: laid · RangesChanged: laid · RangesBlocks: laid · RangesCombine: laid · RangesAlgebra: laid.
  DERIVED. THE GIVEN ROWS OF THIS SEAT. 6 by the template 'for every input the law returns true; each argument reads behind the call as it read before'; 0 by the template 'total and deterministic' (their statements: YtjbfdbbmgbekiaaDoorTotals.lean).
  GIVEN WITH THE SEED: the statements are not yours to turn. If you find one false, say at which input.
  Laid BY PROGRAM, IN A SANDBOX (cutbox-rows.mjs): the forced cells as the released guide's own fill.sh prints them over the translation 509ce302a571980f… (all of the seat's roots in one cut). By AI agents, Wed Nov 11 2026. No macro, syntax, notation, axiom, sorry.
-/
import Derived.Test.YtjbfdbbmgbekiaaDoorChecked
import GoSem.Claim
import GoSem.ClaimJoined
import GoSem.ClaimMapViews
import Derived.JoinedTies
import Derived.KernelRfl
namespace Go.Proofs.YtjbfdbbmgbekiaaDoor
/- THE CELL 'sum', in the pinned program and in every row, IS THE sha256 OF THE DUMP (.gsa) THAT YtjbfdbbmgbekiaaDoorProg.lean LOADS. Nothing in Lean hashes anything: it is a label: what it is worth is what the hold of that sum in a sandbox is worth. -/
noncomputable def Tryd.pinned : Pinned := { name := "ytjbfdbbmgbekiaadoor", sum := "509ce302a571980fc8c701fd380a313785dd8d2491ffc04e9b77fb0346f51f92", checked := Tryd.checked }
namespace Rows
def none {H : Type} : Left H := { results := [], args := [] }

/- WHAT THE LISTED PACKAGE-LEVEL VARIABLES READ AS WHEN THE CALL BEGINS. Each datum BY PROGRAM (the guide's laid-datum.mjs) off the statement by which the dump's own 'gosem.cut.vars' lays the variable. In a bare row this is a premise. The card (YtjbfdbbmgbekiaaDoorCards.lean) ties it to the program's text. -/
def laid_math_bits_deBruijn32tab {H : Type} : DataW H := .agg [.lit (.int .u8 0), .lit (.int .u8 1), .lit (.int .u8 28), .lit (.int .u8 2), .lit (.int .u8 29), .lit (.int .u8 14), .lit (.int .u8 24), .lit (.int .u8 3), .lit (.int .u8 30), .lit (.int .u8 22), .lit (.int .u8 20), .lit (.int .u8 15), .lit (.int .u8 25), .lit (.int .u8 17), .lit (.int .u8 4), .lit (.int .u8 8), .lit (.int .u8 31), .lit (.int .u8 27), .lit (.int .u8 13), .lit (.int .u8 23), .lit (.int .u8 21), .lit (.int .u8 19), .lit (.int .u8 16), .lit (.int .u8 7), .lit (.int .u8 26), .lit (.int .u8 12), .lit (.int .u8 18), .lit (.int .u8 6), .lit (.int .u8 11), .lit (.int .u8 5), .lit (.int .u8 10), .lit (.int .u8 9)]
def laid_math_bits_deBruijn64tab {H : Type} : DataW H := .agg [.lit (.int .u8 0), .lit (.int .u8 1), .lit (.int .u8 56), .lit (.int .u8 2), .lit (.int .u8 57), .lit (.int .u8 49), .lit (.int .u8 28), .lit (.int .u8 3), .lit (.int .u8 61), .lit (.int .u8 58), .lit (.int .u8 42), .lit (.int .u8 50), .lit (.int .u8 38), .lit (.int .u8 29), .lit (.int .u8 17), .lit (.int .u8 4), .lit (.int .u8 62), .lit (.int .u8 47), .lit (.int .u8 59), .lit (.int .u8 36), .lit (.int .u8 45), .lit (.int .u8 43), .lit (.int .u8 51), .lit (.int .u8 22), .lit (.int .u8 53), .lit (.int .u8 39), .lit (.int .u8 33), .lit (.int .u8 30), .lit (.int .u8 24), .lit (.int .u8 18), .lit (.int .u8 12), .lit (.int .u8 5), .lit (.int .u8 63), .lit (.int .u8 55), .lit (.int .u8 48), .lit (.int .u8 27), .lit (.int .u8 60), .lit (.int .u8 41), .lit (.int .u8 37), .lit (.int .u8 16), .lit (.int .u8 46), .lit (.int .u8 35), .lit (.int .u8 44), .lit (.int .u8 21), .lit (.int .u8 52), .lit (.int .u8 32), .lit (.int .u8 23), .lit (.int .u8 11), .lit (.int .u8 54), .lit (.int .u8 26), .lit (.int .u8 40), .lit (.int .u8 15), .lit (.int .u8 34), .lit (.int .u8 20), .lit (.int .u8 31), .lit (.int .u8 10), .lit (.int .u8 25), .lit (.int .u8 14), .lit (.int .u8 19), .lit (.int .u8 9), .lit (.int .u8 13), .lit (.int .u8 8), .lit (.int .u8 7), .lit (.int .u8 6)]
def laid_internal_strconv_uint64pow10 {H : Type} : DataW H := .agg [.lit (.int .u64 1), .lit (.int .u64 10), .lit (.int .u64 100), .lit (.int .u64 1000), .lit (.int .u64 10000), .lit (.int .u64 100000), .lit (.int .u64 1000000), .lit (.int .u64 10000000), .lit (.int .u64 100000000), .lit (.int .u64 1000000000), .lit (.int .u64 10000000000), .lit (.int .u64 100000000000), .lit (.int .u64 1000000000000), .lit (.int .u64 10000000000000), .lit (.int .u64 100000000000000), .lit (.int .u64 1000000000000000), .lit (.int .u64 10000000000000000), .lit (.int .u64 100000000000000000), .lit (.int .u64 1000000000000000000), .lit (.int .u64 10000000000000000000)]

/-- 'replevinlaw07.RangesLong': WHATEVER THE INPUT: true; the input reads as it did. -/
def rangesLongSpec : ChangeSpec := { name := "rangesLong", fn := fun _ => fun
  | [d1, d2] => { results := [.lit (.bool true)], args := [d1, d2] }
  | _ => none }
def rangesLongRow : OpenClaim := { program := "ytjbfdbbmgbekiaadoor", sum := "509ce302a571980fc8c701fd380a313785dd8d2491ffc04e9b77fb0346f51f92", func := "replevin/replevinlaw07.RangesLong", spec := "rangesLong", inPlace := ["internal/abi.NoEscape", "internal/bytealg.MakeNoZero"], unfollowed := true, recurses := true, named := ["internal/strconv.uint64pow10", "math/bits.deBruijn32tab", "math/bits.deBruijn64tab"], apart := false, laid := [("math/bits.deBruijn32tab", laid_math_bits_deBruijn32tab), ("math/bits.deBruijn64tab", laid_math_bits_deBruijn64tab), ("internal/strconv.uint64pow10", laid_internal_strconv_uint64pow10)] }
def RangesLongSaid : Prop := rangesLongRow.holds Tryd.pinned (OpenSpec.ofChange rangesLongSpec)

/-- ITS FALSE NEIGHBOUR: 'it returns false'. Refute it at one input. -/
def rangesLongWrong : ChangeSpec := { name := "rangesLong", fn := fun _ => fun
  | [d1, d2] => { results := [.lit (.bool false)], args := [d1, d2] }
  | _ => none }
def RangesLongWrongFalsely : Prop := rangesLongRow.holds Tryd.pinned (OpenSpec.ofChange rangesLongWrong)

/-- 'replevinlaw07.RangesOf': WHATEVER THE INPUT: true; the input reads as it did. -/
def rangesOfSpec : ChangeSpec := { name := "rangesOf", fn := fun _ => fun
  | [d1, d2] => { results := [.lit (.bool true)], args := [d1, d2] }
  | _ => none }
def rangesOfRow : OpenClaim := { program := "ytjbfdbbmgbekiaadoor", sum := "509ce302a571980fc8c701fd380a313785dd8d2491ffc04e9b77fb0346f51f92", func := "replevin/replevinlaw07.RangesOf", spec := "rangesOf", inPlace := ["internal/abi.NoEscape", "internal/bytealg.MakeNoZero"], unfollowed := true, recurses := true, named := ["internal/strconv.uint64pow10", "math/bits.deBruijn32tab", "math/bits.deBruijn64tab"], apart := false, laid := [("math/bits.deBruijn32tab", laid_math_bits_deBruijn32tab), ("math/bits.deBruijn64tab", laid_math_bits_deBruijn64tab), ("internal/strconv.uint64pow10", laid_internal_strconv_uint64pow10)] }
def RangesOfSaid : Prop := rangesOfRow.holds Tryd.pinned (OpenSpec.ofChange rangesOfSpec)

/-- ITS FALSE NEIGHBOUR: 'it returns false'. Refute it at one input. -/
def rangesOfWrong : ChangeSpec := { name := "rangesOf", fn := fun _ => fun
  | [d1, d2] => { results := [.lit (.bool false)], args := [d1, d2] }
  | _ => none }
def RangesOfWrongFalsely : Prop := rangesOfRow.holds Tryd.pinned (OpenSpec.ofChange rangesOfWrong)

/-- 'replevinlaw07.RangesChanged': WHATEVER THE INPUT: true; the input reads as it did. -/
def rangesChangedSpec : ChangeSpec := { name := "rangesChanged", fn := fun _ => fun
  | [d1, d2] => { results := [.lit (.bool true)], args := [d1, d2] }
  | _ => none }
def rangesChangedRow : OpenClaim := { program := "ytjbfdbbmgbekiaadoor", sum := "509ce302a571980fc8c701fd380a313785dd8d2491ffc04e9b77fb0346f51f92", func := "replevin/replevinlaw07.RangesChanged", spec := "rangesChanged", inPlace := ["internal/abi.NoEscape", "internal/bytealg.MakeNoZero"], unfollowed := true, recurses := true, named := ["internal/strconv.uint64pow10", "math/bits.deBruijn32tab", "math/bits.deBruijn64tab"], apart := false, laid := [("math/bits.deBruijn32tab", laid_math_bits_deBruijn32tab), ("math/bits.deBruijn64tab", laid_math_bits_deBruijn64tab), ("internal/strconv.uint64pow10", laid_internal_strconv_uint64pow10)] }
def RangesChangedSaid : Prop := rangesChangedRow.holds Tryd.pinned (OpenSpec.ofChange rangesChangedSpec)

/-- ITS FALSE NEIGHBOUR: 'it returns false'. Refute it at one input. -/
def rangesChangedWrong : ChangeSpec := { name := "rangesChanged", fn := fun _ => fun
  | [d1, d2] => { results := [.lit (.bool false)], args := [d1, d2] }
  | _ => none }
def RangesChangedWrongFalsely : Prop := rangesChangedRow.holds Tryd.pinned (OpenSpec.ofChange rangesChangedWrong)

/-- 'replevinlaw07.RangesBlocks': WHATEVER THE INPUT: true; the input reads as it did. -/
def rangesBlocksSpec : ChangeSpec := { name := "rangesBlocks", fn := fun _ => fun
  | [d1, d2, d3] => { results := [.lit (.bool true)], args := [d1, d2, d3] }
  | _ => none }
def rangesBlocksRow : OpenClaim := { program := "ytjbfdbbmgbekiaadoor", sum := "509ce302a571980fc8c701fd380a313785dd8d2491ffc04e9b77fb0346f51f92", func := "replevin/replevinlaw07.RangesBlocks", spec := "rangesBlocks", inPlace := ["internal/abi.NoEscape", "internal/bytealg.MakeNoZero"], unfollowed := true, recurses := true, named := ["internal/strconv.uint64pow10", "math/bits.deBruijn32tab", "math/bits.deBruijn64tab"], apart := false, laid := [("math/bits.deBruijn32tab", laid_math_bits_deBruijn32tab), ("math/bits.deBruijn64tab", laid_math_bits_deBruijn64tab), ("internal/strconv.uint64pow10", laid_internal_strconv_uint64pow10)] }
def RangesBlocksSaid : Prop := rangesBlocksRow.holds Tryd.pinned (OpenSpec.ofChange rangesBlocksSpec)

/-- ITS FALSE NEIGHBOUR: 'it returns false'. Refute it at one input. -/
def rangesBlocksWrong : ChangeSpec := { name := "rangesBlocks", fn := fun _ => fun
  | [d1, d2, d3] => { results := [.lit (.bool false)], args := [d1, d2, d3] }
  | _ => none }
def RangesBlocksWrongFalsely : Prop := rangesBlocksRow.holds Tryd.pinned (OpenSpec.ofChange rangesBlocksWrong)

/-- 'replevinlaw07.RangesCombine': WHATEVER THE INPUT: true; the input reads as it did. -/
def rangesCombineSpec : ChangeSpec := { name := "rangesCombine", fn := fun _ => fun
  | [d1, d2] => { results := [.lit (.bool true)], args := [d1, d2] }
  | _ => none }
def rangesCombineRow : OpenClaim := { program := "ytjbfdbbmgbekiaadoor", sum := "509ce302a571980fc8c701fd380a313785dd8d2491ffc04e9b77fb0346f51f92", func := "replevin/replevinlaw07.RangesCombine", spec := "rangesCombine", inPlace := ["internal/abi.NoEscape", "internal/bytealg.MakeNoZero"], unfollowed := true, recurses := true, named := ["internal/strconv.uint64pow10", "math/bits.deBruijn32tab", "math/bits.deBruijn64tab"], apart := false, laid := [("math/bits.deBruijn32tab", laid_math_bits_deBruijn32tab), ("math/bits.deBruijn64tab", laid_math_bits_deBruijn64tab), ("internal/strconv.uint64pow10", laid_internal_strconv_uint64pow10)] }
def RangesCombineSaid : Prop := rangesCombineRow.holds Tryd.pinned (OpenSpec.ofChange rangesCombineSpec)

/-- ITS FALSE NEIGHBOUR: 'it returns false'. Refute it at one input. -/
def rangesCombineWrong : ChangeSpec := { name := "rangesCombine", fn := fun _ => fun
  | [d1, d2] => { results := [.lit (.bool false)], args := [d1, d2] }
  | _ => none }
def RangesCombineWrongFalsely : Prop := rangesCombineRow.holds Tryd.pinned (OpenSpec.ofChange rangesCombineWrong)

/-- 'replevinlaw07.RangesAlgebra': WHATEVER THE INPUT: true; the input reads as it did. -/
def rangesAlgebraSpec : ChangeSpec := { name := "rangesAlgebra", fn := fun _ => fun
  | [d1, d2, d3] => { results := [.lit (.bool true)], args := [d1, d2, d3] }
  | _ => none }
def rangesAlgebraRow : OpenClaim := { program := "ytjbfdbbmgbekiaadoor", sum := "509ce302a571980fc8c701fd380a313785dd8d2491ffc04e9b77fb0346f51f92", func := "replevin/replevinlaw07.RangesAlgebra", spec := "rangesAlgebra", inPlace := ["internal/abi.NoEscape", "internal/bytealg.MakeNoZero"], unfollowed := true, recurses := true, named := ["internal/strconv.uint64pow10", "math/bits.deBruijn32tab", "math/bits.deBruijn64tab"], apart := false, laid := [("math/bits.deBruijn32tab", laid_math_bits_deBruijn32tab), ("math/bits.deBruijn64tab", laid_math_bits_deBruijn64tab), ("internal/strconv.uint64pow10", laid_internal_strconv_uint64pow10)] }
def RangesAlgebraSaid : Prop := rangesAlgebraRow.holds Tryd.pinned (OpenSpec.ofChange rangesAlgebraSpec)

/-- ITS FALSE NEIGHBOUR: 'it returns false'. Refute it at one input. -/
def rangesAlgebraWrong : ChangeSpec := { name := "rangesAlgebra", fn := fun _ => fun
  | [d1, d2, d3] => { results := [.lit (.bool false)], args := [d1, d2, d3] }
  | _ => none }
def RangesAlgebraWrongFalsely : Prop := rangesAlgebraRow.holds Tryd.pinned (OpenSpec.ofChange rangesAlgebraWrong)

/- THE SECOND FORM. 'bulk': how many values and letters a reading holds, each counted each time it is reached (what is shared counts as often as it is met; a slice's spare places count too). A statement '..UptoSaid' is the law's where the arguments, and the package variables that the reading takes, are together of bulk at most 1048576: NARROWER than '..Said'. Prove '..Said' where nothing that the law and all that it calls make is longer than what came in: it says more and counts as full. Else prove '..UptoSaid'. A law counts once. -/
mutual
def uptoBulk {H : Type} : DataW H → Nat
  | .lit (.string bytes) => bytes.length + 1
  | .lit _ => 1
  | .nil => 1
  | .ptr d => uptoBulk d + 1
  | .slice elems spare => uptoBulkAll elems + uptoBulkAll spare + 1
  | .agg parts => uptoBulkAll parts + 1
  | .iface _ d => uptoBulk d + 1
  | .map entries => uptoBulkEntries entries + 1
  | .held _ => 1
def uptoBulkAll {H : Type} : List (DataW H) → Nat
  | [] => 0
  | d :: r => uptoBulk d + uptoBulkAll r
def uptoBulkEntries {H : Type} : List (Lit × DataW H) → Nat
  | [] => 0
  | x :: r => uptoBulkEntry x + uptoBulkEntries r
def uptoBulkEntry {H : Type} : Lit × DataW H → Nat
  | (.string bytes, d) => bytes.length + uptoBulk d + 1
  | (_, d) => uptoBulk d + 1
 end
def uptoSmall : (H : Type) → List (DataW H) → Bool := fun _ ds => decide (uptoBulkAll ds ≤ 1048576)
def OpenSpec.upto (s : _root_.Go.ChangeSpec) : _root_.Go.OpenSpec := { _root_.Go.OpenSpec.ofChange s with cond := some uptoSmall }

/-- 'replevinlaw07.RangesLong', WHERE WHAT IT READS IS OF BULK AT MOST 1048576: true; the input reads as it did. -/
def rangesLongUptoRow : OpenClaim := { program := "ytjbfdbbmgbekiaadoor", sum := "509ce302a571980fc8c701fd380a313785dd8d2491ffc04e9b77fb0346f51f92", func := "replevin/replevinlaw07.RangesLong", spec := "rangesLong", inPlace := ["internal/abi.NoEscape", "internal/bytealg.MakeNoZero"], unfollowed := true, recurses := true, named := ["internal/strconv.uint64pow10", "math/bits.deBruijn32tab", "math/bits.deBruijn64tab"], apart := false, laid := [("math/bits.deBruijn32tab", laid_math_bits_deBruijn32tab), ("math/bits.deBruijn64tab", laid_math_bits_deBruijn64tab), ("internal/strconv.uint64pow10", laid_internal_strconv_uint64pow10)], narrowed := true }
def RangesLongUptoSaid : Prop := rangesLongUptoRow.holds Tryd.pinned (OpenSpec.upto rangesLongSpec)

/-- 'replevinlaw07.RangesOf', WHERE WHAT IT READS IS OF BULK AT MOST 1048576: true; the input reads as it did. -/
def rangesOfUptoRow : OpenClaim := { program := "ytjbfdbbmgbekiaadoor", sum := "509ce302a571980fc8c701fd380a313785dd8d2491ffc04e9b77fb0346f51f92", func := "replevin/replevinlaw07.RangesOf", spec := "rangesOf", inPlace := ["internal/abi.NoEscape", "internal/bytealg.MakeNoZero"], unfollowed := true, recurses := true, named := ["internal/strconv.uint64pow10", "math/bits.deBruijn32tab", "math/bits.deBruijn64tab"], apart := false, laid := [("math/bits.deBruijn32tab", laid_math_bits_deBruijn32tab), ("math/bits.deBruijn64tab", laid_math_bits_deBruijn64tab), ("internal/strconv.uint64pow10", laid_internal_strconv_uint64pow10)], narrowed := true }
def RangesOfUptoSaid : Prop := rangesOfUptoRow.holds Tryd.pinned (OpenSpec.upto rangesOfSpec)

/-- 'replevinlaw07.RangesChanged', WHERE WHAT IT READS IS OF BULK AT MOST 1048576: true; the input reads as it did. -/
def rangesChangedUptoRow : OpenClaim := { program := "ytjbfdbbmgbekiaadoor", sum := "509ce302a571980fc8c701fd380a313785dd8d2491ffc04e9b77fb0346f51f92", func := "replevin/replevinlaw07.RangesChanged", spec := "rangesChanged", inPlace := ["internal/abi.NoEscape", "internal/bytealg.MakeNoZero"], unfollowed := true, recurses := true, named := ["internal/strconv.uint64pow10", "math/bits.deBruijn32tab", "math/bits.deBruijn64tab"], apart := false, laid := [("math/bits.deBruijn32tab", laid_math_bits_deBruijn32tab), ("math/bits.deBruijn64tab", laid_math_bits_deBruijn64tab), ("internal/strconv.uint64pow10", laid_internal_strconv_uint64pow10)], narrowed := true }
def RangesChangedUptoSaid : Prop := rangesChangedUptoRow.holds Tryd.pinned (OpenSpec.upto rangesChangedSpec)

/-- 'replevinlaw07.RangesBlocks', WHERE WHAT IT READS IS OF BULK AT MOST 1048576: true; the input reads as it did. -/
def rangesBlocksUptoRow : OpenClaim := { program := "ytjbfdbbmgbekiaadoor", sum := "509ce302a571980fc8c701fd380a313785dd8d2491ffc04e9b77fb0346f51f92", func := "replevin/replevinlaw07.RangesBlocks", spec := "rangesBlocks", inPlace := ["internal/abi.NoEscape", "internal/bytealg.MakeNoZero"], unfollowed := true, recurses := true, named := ["internal/strconv.uint64pow10", "math/bits.deBruijn32tab", "math/bits.deBruijn64tab"], apart := false, laid := [("math/bits.deBruijn32tab", laid_math_bits_deBruijn32tab), ("math/bits.deBruijn64tab", laid_math_bits_deBruijn64tab), ("internal/strconv.uint64pow10", laid_internal_strconv_uint64pow10)], narrowed := true }
def RangesBlocksUptoSaid : Prop := rangesBlocksUptoRow.holds Tryd.pinned (OpenSpec.upto rangesBlocksSpec)

/-- 'replevinlaw07.RangesCombine', WHERE WHAT IT READS IS OF BULK AT MOST 1048576: true; the input reads as it did. -/
def rangesCombineUptoRow : OpenClaim := { program := "ytjbfdbbmgbekiaadoor", sum := "509ce302a571980fc8c701fd380a313785dd8d2491ffc04e9b77fb0346f51f92", func := "replevin/replevinlaw07.RangesCombine", spec := "rangesCombine", inPlace := ["internal/abi.NoEscape", "internal/bytealg.MakeNoZero"], unfollowed := true, recurses := true, named := ["internal/strconv.uint64pow10", "math/bits.deBruijn32tab", "math/bits.deBruijn64tab"], apart := false, laid := [("math/bits.deBruijn32tab", laid_math_bits_deBruijn32tab), ("math/bits.deBruijn64tab", laid_math_bits_deBruijn64tab), ("internal/strconv.uint64pow10", laid_internal_strconv_uint64pow10)], narrowed := true }
def RangesCombineUptoSaid : Prop := rangesCombineUptoRow.holds Tryd.pinned (OpenSpec.upto rangesCombineSpec)

/-- 'replevinlaw07.RangesAlgebra', WHERE WHAT IT READS IS OF BULK AT MOST 1048576: true; the input reads as it did. -/
def rangesAlgebraUptoRow : OpenClaim := { program := "ytjbfdbbmgbekiaadoor", sum := "509ce302a571980fc8c701fd380a313785dd8d2491ffc04e9b77fb0346f51f92", func := "replevin/replevinlaw07.RangesAlgebra", spec := "rangesAlgebra", inPlace := ["internal/abi.NoEscape", "internal/bytealg.MakeNoZero"], unfollowed := true, recurses := true, named := ["internal/strconv.uint64pow10", "math/bits.deBruijn32tab", "math/bits.deBruijn64tab"], apart := false, laid := [("math/bits.deBruijn32tab", laid_math_bits_deBruijn32tab), ("math/bits.deBruijn64tab", laid_math_bits_deBruijn64tab), ("internal/strconv.uint64pow10", laid_internal_strconv_uint64pow10)], narrowed := true }
def RangesAlgebraUptoSaid : Prop := rangesAlgebraUptoRow.holds Tryd.pinned (OpenSpec.upto rangesAlgebraSpec)

end Rows
end Go.Proofs.YtjbfdbbmgbekiaaDoor
