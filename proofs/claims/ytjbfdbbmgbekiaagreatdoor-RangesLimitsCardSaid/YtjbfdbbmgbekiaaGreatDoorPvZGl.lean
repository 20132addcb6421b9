/- What a row's own world has: a variable of bytealg and strconv's table. -/
import Derived.Test.YtjbfdbbmgbekiaaGreatDoorPvZJ
import Derived.Test.YtjbfdbbmgbekiaaGreatDoorPvZY2
import Derived.Test.YtjbfdbbmgbekiaaGreatDoorPvSt
import Derived.Lib.LaidTab
import Derived.Stop.LaidErr
import Derived.MakeChecks
import Derived.Test.YtjbfdbbmgbekiaaGreatDoorRows
set_option linter.unusedSimpArgs false
set_option linter.unusedVariables false
set_option linter.unusedSectionVars false
namespace Go.Pw
open Go.Proofs Go.Shelf
theorem globOk {W : World} (h : W.ShapedOpen Tryz.prog) (hL : laidMetH Tryz.prog YtjbfdbbmgbekiaaGreatDoor.Rows.rangesTextsRow.laid W) : GlobOk W (allImm W) := by
  have hm : laidMet Tryz.prog YtjbfdbbmgbekiaaGreatDoor.Rows.rangesTextsRow.laid W := by
    rw [← MakeChecks.laidMetH_plain _ _ _ (by kernel_rfl)]
    exact hL
  have htab : Lib.TabIs Tryz.prog W tabName .u64 Lib.pow10Tab :=
    Lib.tabIs_of_head (g := 1) tabGlobal (by kernel_rfl) (t := 155) (e := 114) (n := 20) (by kernel_rfl) (by kernel_rfl) (by kernel_rfl) (by kernel_rfl) hm.tail.tail
  have hmax : ∃ m, W.cell? ⟨0, 0, none⟩ = some (.int .i64 m) := Tryz.cutM.s1_3 W h
  refine ⟨?_, fun _ _ => rfl, hmax, htab⟩
  show 2 ≤ W.heap.size
  have := htab
  unfold Lib.TabIs World.var? at this
  rw [tabGlobal] at this
  refine Nat.not_lt.1 fun hlt => ?_
  have e : W.heap[1]? = none := Array.getElem?_eq_none (by omega)
  simp [e] at this
end Go.Pw
