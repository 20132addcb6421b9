/- What a row's own world has: a variable of bytealg, the table of blanks, strconv's table. -/
import Derived.Test.YtgnedmmecmpnpaaGreatDoorPuSB
import Derived.Test.YtgnedmmecmpnpaaGreatDoorPuSY
import Derived.Test.YtgnedmmecmpnpaaGreatDoorPuSt
import Derived.Lib.LaidTab
import Derived.Stop.LaidErr
import Derived.MakeChecks
import Derived.Test.YtgnedmmecmpnpaaGreatDoorRows
set_option maxRecDepth 100000
set_option linter.unusedSimpArgs false
set_option linter.unusedVariables false
set_option linter.unusedSectionVars false
namespace Go.Pw
open Go.Proofs Go.Shelf
theorem globOk {W : World} (h : W.ShapedOpen Tryz.prog) (hL : laidMetH Tryz.prog YtgnedmmecmpnpaaGreatDoor.Rows.syntaxWordsRow.laid W) : GlobOk W (allImm W) := by
  have hm : laidMet Tryz.prog YtgnedmmecmpnpaaGreatDoor.Rows.syntaxWordsRow.laid W := by
    rw [← MakeChecks.laidMetH_plain _ _ _ (by kernel_rfl)]
    exact hL
  have htab : Lib.TabIs Tryz.prog W _ .u8 Lib.asciiSpaceTab :=
    Lib.tabIs_of_head (g := 2) tabGlobal (by kernel_rfl) (t := 252) (e := 5) (n := 256) (by kernel_rfl) (by kernel_rfl) (by kernel_rfl) (by kernel_rfl) hm.tail.tail.tail.tail
  have htab0 : Lib.TabIs Tryz.prog W tabName .u64 Lib.pow10Tab :=
    Lib.tabIs_of_head (g := 0) tabGlobal0 (by kernel_rfl) (t := 239) (e := 212) (n := 20) (by kernel_rfl) (by kernel_rfl) (by kernel_rfl) (by kernel_rfl) hm.tail.tail
  have hmax : ∃ m, W.cell? ⟨1, 0, none⟩ = some (.int .i64 m) := Tryz.cutM.s1_3 W h
  refine ⟨?_, fun _ _ => rfl, hmax, htab, htab0⟩
  exact World.block_lt_of_cell? W ⟨2, 0, none⟩ (Lib.TabIs.cell htab tabGlobal 0 (by simp [Lib.asciiSpaceTab]))
end Go.Pw
