/- A region run by the executor in the midst of a walk. -/
import Derived.Test.YtgnedmmecmpnpaaGreatDoorPuSLv
set_option maxRecDepth 20000
set_option linter.unusedSimpArgs false
set_option linter.unusedVariables false
set_option linter.unusedSectionVars false
namespace Go.Pw
open Go.Proofs
section
variable {P : Program} {mv : FuncId → Nat → Option TypeId} {orcb : FuncId → St → Option St} {n : Nat} {Q : Exit → St → Prop}
theorem PWp.seq_run (T : St) (hO : OrcB P orcb) {rf : RowF} (hF : RowFOk P rf) {id : Nat} {ops : List Oper} {y : Code} {σ : St} (σ' : St) (hd : dstOk n ops = true)
    (h : runN P orcb rf mv ops.toArray ops σ = some σ') (hf : Fits σ' T) (hy : PWp P n y Q T) : PWp P n (.seq (.region id ops.toArray false) y) Q σ := by
  refine PWp.seq (PWp.mono (runN_region hO hF hd h) ?_)
  rintro e s ⟨rfl, hs⟩
  exact PWp.of_look hs.symm (PWp.norm hf hy)
end
end Go.Pw
