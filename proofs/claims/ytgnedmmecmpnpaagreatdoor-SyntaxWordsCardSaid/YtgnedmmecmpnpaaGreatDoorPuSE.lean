/- The lexer: the table of escapes, run by the kernel. -/
import Derived.Test.YtgnedmmecmpnpaaGreatDoorPuSV
set_option maxRecDepth 1000000
set_option linter.unusedSimpArgs false
set_option linter.unusedVariables false
set_option linter.unusedSectionVars false
namespace Go.Pw.L21
open Go.Proofs Go.Pw
def escR : List AV := (List.range 256).map fun i => .pv (.int .i64 (escape (UInt8.ofNat i)))
def noB : FuncId → St → Option St := fun _ _ => none
def noF : RowF := fun _ _ _ _ => none
theorem esc_run : callF Tryz.prog noB noF mv 3000 184 [] = some [(.S 0, .av (.agg escR))] := by kernel_rfl
theorem noB_ok : OrcB Tryz.prog noB := by intro f In Ret h; cases h
theorem noF_ok : RowFOk Tryz.prog noF := by intro f e xs ex ys h; cases h
theorem names21 : Names Tryz.prog := by
  have h : (Tryz.prog.funcs.all fun fn => fn.name != "runtime.NumGoroutine") = true := by kernel_rfl
  intro f fn hf
  exact Array.all_eq_true'.1 h fn (Array.mem_of_getElem? hf)
theorem t91 : PCalls Tryz.prog 184 [] [(.S 0, .av (.agg escR))] := callF_spec names21 mixed noB_ok noF_ok _ _ _ _ esc_run
theorem escR_at (c : UInt8) : escR[c.toNat]? = some (.pv (.int .i64 (escape c))) := by
  unfold escR
  rw [List.getElem?_map, List.getElem?_range c.toNat_lt]
  simp
theorem escR_len : escR.length = 256 := by simp [escR]
def c184 : St → Option (Prop × St)
  | [] => some (True, [(.S 0, .av (.agg escR))])
  | _ => none
theorem p184 {In Ret : St} {pre : Prop} (h : c184 In = some (pre, Ret)) (hp : pre) : PCalls Tryz.prog 184 In Ret := by
  unfold c184 at h
  split at h
  · cases h; exact t91
  · cases h
end Go.Pw.L21
