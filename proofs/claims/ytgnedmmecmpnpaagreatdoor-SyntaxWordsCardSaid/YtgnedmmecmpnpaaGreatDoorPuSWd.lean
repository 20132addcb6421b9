/- The syntax: the statement on words. -/
import Derived.Test.YtgnedmmecmpnpaaGreatDoorPuSLv2
set_option linter.unusedSimpArgs false
set_option linter.unusedVariables false
set_option linter.unusedSectionVars false
set_option maxHeartbeats 4000000
set_option maxRecDepth 20000
namespace Go.Pw.L22
open Go.Proofs Go.Pw Go.Pw.L21
def c13 : St → Option (Prop × St)
  | [] => some (True, [(.S 0, .av (.pv (.bool true)))])
  | _ => none
theorem p13 {In Ret : St} {pre : Prop} (h : c13 In = some (pre, Ret)) (hp : pre) : PCalls Tryz.prog 13 In Ret := by
  unfold c13 at h
  split at h
  · cases h; exact t13
  · cases h
def c19 : St → Option (Prop × St)
  | [(.S 0, .av (.pv (.str s)))] => some (True, [(.S 0, .av (builtinA s))])
  | _ => none
theorem p19 {In Ret : St} {pre : Prop} (h : c19 In = some (pre, Ret)) (hp : pre) : PCalls Tryz.prog 19 In Ret := by
  unfold c19 at h
  split at h
  · cases h; exact t19 _
  · cases h
theorem p20 {In Ret : St} {pre : Prop} (h : c19 In = some (pre, Ret)) (hp : pre) : PCalls Tryz.prog 20 In Ret := by
  unfold c19 at h
  split at h
  · cases h; exact t20 _
  · cases h
def c21 : St → Option (Prop × St)
  | [(.S 0, .av (.pv (.str s)))] => some (True, [(.S 0, .av (.pv (.int .i64 (levelB s))))])
  | _ => none
theorem p21 {In Ret : St} {pre : Prop} (h : c21 In = some (pre, Ret)) (hp : pre) : PCalls Tryz.prog 21 In Ret := by
  unfold c21 at h
  split at h
  · cases h; exact t21 _
  · cases h
theorem p22 {In Ret : St} {pre : Prop} (h : c21 In = some (pre, Ret)) (hp : pre) : PCalls Tryz.prog 22 In Ret := by
  unfold c21 at h
  split at h
  · cases h; exact t22 _
  · cases h
abbrev c20 := c19
abbrev c22 := c21
def orcW : Orc := fun f In => if f = 13 then c13 In else if f = 19 then c19 In else if f = 20 then c20 In else if f = 21 then c21 In else if f = 22 then c22 In else none
theorem orcW_ok : OrcOk Tryz.prog orcW := by
  intro f In pre Ret h hp
  unfold orcW at h
  split at h
  · subst f; exact p13 h hp
  split at h
  · subst f; exact p19 h hp
  split at h
  · subst f; exact p20 h hp
  split at h
  · subst f; exact p21 h hp
  split at h
  · subst f; exact p22 h hp
  cases h
theorem t5 (s : Bs) : PCalls Tryz.prog 5 [(.S 0, .av (.pv (.str s)))] [(.S 0, .av (.pv (.bool true)))] := by
  refine PCalls.of_k Tryz.func5 (by decide) rfl fun Q hQ1 hQ2 => ?_
  refine PWp.seq_rg [0] orcW_ok (mv := mv) (by decide) fun K hK => ?_
  simp only [pwr, pr1, mv, Int.reduceLT, Int.reduceSub, Int.reduceNeg, Int.reduceToNat, ne_eq, reduceIte, reduceCtorEq, Nat.reduceEqDiff, Nat.reduceAdd, Nat.reduceMul, Nat.reduceSub, Nat.reduceLT, Nat.reduceLeDiff, Nat.reduceBEq, if_true, if_false, implies_true, Bool.cond_true, Bool.cond_false, orcW, c13, c19, c20, c21, c22, zf]
  repeat' with_reducible refine And.intro ?_ ?_
  all_goals try (first | omega | rfl | ((with_reducible refine drawGoal ?_); exact rfl) | (simp only [inR]; omega) | (intro y hy; simp only [List.mem_singleton] at hy; subst hy; rfl) | (intro y hy; cases hy; done) | (simp only [List.length_append, List.length_map, List.length_cons, List.length_nil]; omega) | (intro h; simp only [inR]; omega) | (intro h; simp only [List.length_append, List.length_map, List.length_cons, List.length_nil]; omega) | (intro h; exact h.elim))
  refine hK _ ?_
  clear hK K
  refine PWp.seq_rg [0, 3, 4, 5] orcW_ok (mv := mv) (by decide) fun K hK => ?_
  simp only [pwr, pr1, mv, Int.reduceLT, Int.reduceSub, Int.reduceNeg, Int.reduceToNat, ne_eq, reduceIte, reduceCtorEq, Nat.reduceEqDiff, Nat.reduceAdd, Nat.reduceMul, Nat.reduceSub, Nat.reduceLT, Nat.reduceLeDiff, Nat.reduceBEq, if_true, if_false, implies_true, Bool.cond_true, Bool.cond_false, orcW, c13, c19, c20, c21, c22, zf]
  repeat' with_reducible refine And.intro ?_ ?_
  all_goals try (first | omega | rfl | ((with_reducible refine drawGoal ?_); exact rfl) | (simp only [inR]; omega) | (intro y hy; simp only [List.mem_singleton] at hy; subst hy; rfl) | (intro y hy; cases hy; done) | (simp only [List.length_append, List.length_map, List.length_cons, List.length_nil]; omega) | (intro h; simp only [inR]; omega) | (intro h; simp only [List.length_append, List.length_map, List.length_cons, List.length_nil]; omega) | (intro h; exact h.elim))
  refine hK _ ?_
  clear hK K
  refine PWp.seq_rg [0, 3, 4, 5, 6, 7, 8] orcW_ok (mv := mv) (by decide) fun K hK => ?_
  simp only [pwr, pr1, mv, Int.reduceLT, Int.reduceSub, Int.reduceNeg, Int.reduceToNat, ne_eq, reduceIte, reduceCtorEq, Nat.reduceEqDiff, Nat.reduceAdd, Nat.reduceMul, Nat.reduceSub, Nat.reduceLT, Nat.reduceLeDiff, Nat.reduceBEq, if_true, if_false, implies_true, Bool.cond_true, Bool.cond_false, orcW, c13, c19, c20, c21, c22, zf]
  repeat' with_reducible refine And.intro ?_ ?_
  all_goals try (first | omega | rfl | ((with_reducible refine drawGoal ?_); exact rfl) | (simp only [inR]; omega) | (intro y hy; simp only [List.mem_singleton] at hy; subst hy; rfl) | (intro y hy; cases hy; done) | (simp only [List.length_append, List.length_map, List.length_cons, List.length_nil]; omega) | (intro h; simp only [inR]; omega) | (intro h; simp only [List.length_append, List.length_map, List.length_cons, List.length_nil]; omega) | (intro h; exact h.elim))
  refine hK _ ?_
  clear hK K
  refine PWp.seq_rg [2] orcW_ok (mv := mv) (by decide) fun K hK => ?_
  simp only [pwr, pr1, mv, Int.reduceLT, Int.reduceSub, Int.reduceNeg, Int.reduceToNat, ne_eq, reduceIte, reduceCtorEq, Nat.reduceEqDiff, Nat.reduceAdd, Nat.reduceMul, Nat.reduceSub, Nat.reduceLT, Nat.reduceLeDiff, Nat.reduceBEq, if_true, if_false, implies_true, Bool.cond_true, Bool.cond_false, orcW, c13, c19, c20, c21, c22, zf]
  repeat' with_reducible refine And.intro ?_ ?_
  all_goals try (first | omega | rfl | ((with_reducible refine drawGoal ?_); exact rfl) | (simp only [inR]; omega) | (intro y hy; simp only [List.mem_singleton] at hy; subst hy; rfl) | (intro y hy; cases hy; done) | (simp only [List.length_append, List.length_map, List.length_cons, List.length_nil]; omega) | (intro h; simp only [inR]; omega) | (intro h; simp only [List.length_append, List.length_map, List.length_cons, List.length_nil]; omega) | (intro h; exact h.elim))
  refine hK _ ?_
  clear hK K
  refine PWp.ret (hQ2 _ ?_)
  simp only [pwf, pf1, reduceIte, reduceCtorEq, Nat.reduceEqDiff, Nat.reduceAdd, Nat.reduceMul, Nat.reduceSub, Nat.reduceLT, Nat.reduceLeDiff, Nat.reduceBEq, if_true, if_false, implies_true, Bool.cond_true, Bool.cond_false, zf, Tryz.results5]
  repeat simp only [pwf, pf1, reduceIte, reduceCtorEq, Nat.reduceEqDiff, Nat.reduceAdd, Nat.reduceMul, Nat.reduceSub, Nat.reduceLT, Nat.reduceLeDiff, Nat.reduceBEq, if_true, if_false, implies_true, Bool.cond_true, Bool.cond_false, zf]
  first | done | rfl | (simp; done) | trace_state
end Go.Pw.L22
