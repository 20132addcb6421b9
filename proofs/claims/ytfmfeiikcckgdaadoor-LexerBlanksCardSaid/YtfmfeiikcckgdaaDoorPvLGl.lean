/- What a row's own world has: a variable of bytealg and the table of blanks. -/
import Derived.Test.YtfmfeiikcckgdaaDoorPvLB
import Derived.Test.YtfmfeiikcckgdaaDoorPvLY
import Derived.Test.YtfmfeiikcckgdaaDoorPvSt
import Derived.Lib.LaidTab
import Derived.Stop.LaidErr
import Derived.MakeChecks
import Derived.Test.YtfmfeiikcckgdaaDoorRows
set_option maxRecDepth 100000
set_option linter.unusedSimpArgs false
set_option linter.unusedVariables false
set_option linter.unusedSectionVars false
namespace Go.Pw
open Go.Proofs Go.Shelf
theorem globOk {W : World} (h : W.ShapedOpen Tryd.prog) (hL : laidMetH Tryd.prog YtfmfeiikcckgdaaDoor.Rows.lexerWordsRow.laid W) : GlobOk W (allImm W) := by
  have hm : laidMet Tryd.prog YtfmfeiikcckgdaaDoor.Rows.lexerWordsRow.laid W := by
    rw [← MakeChecks.laidMetH_plain _ _ _ (by kernel_rfl)]
    exact hL
  have htab : Lib.TabIs Tryd.prog W _ .u8 Lib.asciiSpaceTab :=
    Lib.tabIs_of_head (g := 0) tabGlobal (by kernel_rfl) (t := 67) (e := 5) (n := 256) (by kernel_rfl) (by kernel_rfl) (by kernel_rfl) (by kernel_rfl) hm.tail
  have hmax : ∃ m, W.cell? ⟨2, 0, none⟩ = some (.int .i64 m) := Tryd.cutM.s1_3 W h
  refine ⟨?_, fun _ _ => rfl, hmax, htab⟩
  obtain ⟨m, hm2⟩ := hmax
  exact World.block_lt_of_cell? W _ hm2
end Go.Pw
