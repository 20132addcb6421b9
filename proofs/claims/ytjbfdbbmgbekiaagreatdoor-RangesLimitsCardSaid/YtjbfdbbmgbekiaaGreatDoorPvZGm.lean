/- Ranges: Of, the reference's Of, and made. -/
import Derived.Test.YtjbfdbbmgbekiaaGreatDoorPvZE
import Derived.Test.YtjbfdbbmgbekiaaGreatDoorPvZN
import Derived.Test.YtjbfdbbmgbekiaaGreatDoorPvZC
import Derived.Test.YtjbfdbbmgbekiaaGreatDoorPvCs
set_option linter.unusedSimpArgs false
set_option linter.unusedVariables false
set_option linter.unusedSectionVars false
set_option maxHeartbeats 4000000
set_option maxRecDepth 20000
namespace Go.Pw.G7
open Go.Proofs Go.Pw
abbrev gA (g : G) : AV := .agg [.pv (.int .i64 g.1), .pv (.int .i64 g.2)]
def validG (g : G) : Bool := decide (0 ≤ g.1) && decide (g.1 ≤ g.2) && decide (g.2 ≤ 1099511627776)
theorem t44 (g : G) : PCalls Tryz.prog 33 [(.S 0, .av (gA g))] [(.S 0, .av (.pv (.bool (validG g))))] := by
  refine PCalls.of_k Tryz.func33 (by decide) rfl fun Q hQ1 hQ2 => ?_
  refine PWp.seq_rg [1] orc0_ok (mv := mv) (by decide) fun K hK => ?_
  simp only [pwr, mv, List.getD_nil, List.drop_nil, List.head?_nil, Int.natCast_zero, Int.reduceLT, Int.reduceSub, Int.reduceNeg, Int.reduceToNat, decide_false, decide_true, gt_iff_lt, Int.lt_irrefl, ne_eq, not_false_eq_true, not_true_eq_false, reduceIte, reduceCtorEq, Nat.reduceEqDiff, Nat.reduceAdd, Nat.reduceMul, Nat.reduceSub, Nat.reduceLT, Nat.reduceLeDiff, Nat.reduceBEq, if_true, if_false, implies_true, Option.isSome_none, Option.isSome_some, List.nil_append, List.cons_append, List.append_nil, List.map_cons, List.map_nil, List.toList_toArray, Option.getD_some, Option.getD_none, Option.map_some, Option.map_none, Option.bind_some, Option.bind_none, List.length_cons, List.length_nil, Bool.cond_true, Bool.cond_false, Array.toList_append, List.filterMap_cons, List.filterMap_nil, List.all_nil, List.all_cons, List.any_cons, List.any_nil, List.map_append, List.getElem?_toArray, List.getElem?_cons_zero, List.getElem?_cons_succ, Option.toArray_some, Option.toArray_none, List.contains_cons, List.contains_nil, List.head?_cons, List.drop_zero, List.drop_succ_cons, List.take_succ_cons, List.take_zero, List.set_cons_zero, List.set_cons_succ, List.length_map, List.getElem?_nil, orc0, zf, plainL, plainCell]
  refine hK _ ?_
  clear hK K
  refine PWp.seq_rg [2] orc0_ok (mv := mv) (by decide) fun K hK => ?_
  simp only [pwr, mv, List.getD_nil, List.drop_nil, List.head?_nil, Int.natCast_zero, Int.reduceLT, Int.reduceSub, Int.reduceNeg, Int.reduceToNat, decide_false, decide_true, gt_iff_lt, Int.lt_irrefl, ne_eq, not_false_eq_true, not_true_eq_false, reduceIte, reduceCtorEq, Nat.reduceEqDiff, Nat.reduceAdd, Nat.reduceMul, Nat.reduceSub, Nat.reduceLT, Nat.reduceLeDiff, Nat.reduceBEq, if_true, if_false, implies_true, Option.isSome_none, Option.isSome_some, List.nil_append, List.cons_append, List.append_nil, List.map_cons, List.map_nil, List.toList_toArray, Option.getD_some, Option.getD_none, Option.map_some, Option.map_none, Option.bind_some, Option.bind_none, List.length_cons, List.length_nil, Bool.cond_true, Bool.cond_false, Array.toList_append, List.filterMap_cons, List.filterMap_nil, List.all_nil, List.all_cons, List.any_cons, List.any_nil, List.map_append, List.getElem?_toArray, List.getElem?_cons_zero, List.getElem?_cons_succ, Option.toArray_some, Option.toArray_none, List.contains_cons, List.contains_nil, List.head?_cons, List.drop_zero, List.drop_succ_cons, List.take_succ_cons, List.take_zero, List.set_cons_zero, List.set_cons_succ, List.length_map, List.getElem?_nil, orc0, zf, plainL, plainCell]
  refine hK _ ?_
  clear hK K
  refine PWp.ret (hQ2 _ ?_)
  simp only [pwf, List.drop_zero, List.drop_succ_cons, List.take_succ_cons, List.take_zero, List.getElem?_cons_zero, List.getElem?_cons_succ, List.getElem?_nil, Nat.sub_self, reduceIte, reduceCtorEq, Nat.reduceEqDiff, Nat.reduceAdd, Nat.reduceMul, Nat.reduceSub, Nat.reduceLT, Nat.reduceLeDiff, Nat.reduceBEq, if_true, if_false, implies_true, Option.isSome_none, Option.isSome_some, List.nil_append, List.cons_append, List.append_nil, List.map_cons, List.map_nil, List.toList_toArray, Option.getD_some, Option.getD_none, Option.map_some, Option.map_none, Option.bind_some, Option.bind_none, List.length_cons, List.length_nil, Bool.cond_true, Bool.cond_false, Array.toList_append, List.contains_cons, List.contains_nil, zf, plainL, plainCell, Tryz.results33]
  repeat simp only [pwf, List.drop_zero, List.drop_succ_cons, List.take_succ_cons, List.take_zero, List.getElem?_cons_zero, List.getElem?_cons_succ, List.getElem?_nil, Nat.sub_self, reduceIte, reduceCtorEq, Nat.reduceEqDiff, Nat.reduceAdd, Nat.reduceMul, Nat.reduceSub, Nat.reduceLT, Nat.reduceLeDiff, Nat.reduceBEq, if_true, if_false, implies_true, Option.isSome_none, Option.isSome_some, List.nil_append, List.cons_append, List.append_nil, List.map_cons, List.map_nil, List.toList_toArray, Option.getD_some, Option.getD_none, Option.map_some, Option.map_none, Option.bind_some, Option.bind_none, List.length_cons, List.length_nil, Bool.cond_true, Bool.cond_false, Array.toList_append, List.contains_cons, List.contains_nil, zf, plainL, plainCell]
  first | done | rfl | (simp; done) | trace_state
def c33 : St → Option (Prop × St)
  | [(.S 0, .av (.agg [.pv (.int .i64 a), .pv (.int .i64 b)]))] => some ((True), [(.S 0, .av (.pv (.bool (validG (a, b)))))])
  | _ => none
theorem p33 {In Ret : St} {pre : Prop} (h : c33 In = some (pre, Ret)) (hp : pre) : PCalls Tryz.prog 33 In Ret := by
  unfold c33 at h
  split at h
  · rename_i a b
    cases h
    exact t44 (_, _)
  · cases h
def orcG1 : Orc := fun f In => if f = 33 then c33 In else none
theorem orcG1_ok : OrcOk Tryz.prog orcG1 := by
  intro f In pre Ret h hp
  unfold orcG1 at h
  split at h
  · subst f; exact p33 h hp
  cases h
theorem t43 (g : G) : PCalls Tryz.prog 32 [(.S 0, .av (gA g))] [(.S 0, .av (.pv (.bool (!validG g))))] := by
  refine PCalls.of_k Tryz.func32 (by decide) rfl fun Q hQ1 hQ2 => ?_
  refine PWp.seq_rg [1] orcG1_ok (mv := mv) (by decide) fun K hK => ?_
  simp only [pwr, mv, List.getD_nil, List.drop_nil, List.head?_nil, Int.natCast_zero, Int.reduceLT, Int.reduceSub, Int.reduceNeg, Int.reduceToNat, decide_false, decide_true, gt_iff_lt, Int.lt_irrefl, ne_eq, not_false_eq_true, not_true_eq_false, reduceIte, reduceCtorEq, Nat.reduceEqDiff, Nat.reduceAdd, Nat.reduceMul, Nat.reduceSub, Nat.reduceLT, Nat.reduceLeDiff, Nat.reduceBEq, if_true, if_false, implies_true, Option.isSome_none, Option.isSome_some, List.nil_append, List.cons_append, List.append_nil, List.map_cons, List.map_nil, List.toList_toArray, Option.getD_some, Option.getD_none, Option.map_some, Option.map_none, Option.bind_some, Option.bind_none, List.length_cons, List.length_nil, Bool.cond_true, Bool.cond_false, Array.toList_append, List.filterMap_cons, List.filterMap_nil, List.all_nil, List.all_cons, List.any_cons, List.any_nil, List.map_append, List.getElem?_toArray, List.getElem?_cons_zero, List.getElem?_cons_succ, Option.toArray_some, Option.toArray_none, List.contains_cons, List.contains_nil, List.head?_cons, List.drop_zero, List.drop_succ_cons, List.take_succ_cons, List.take_zero, List.set_cons_zero, List.set_cons_succ, List.length_map, List.getElem?_nil, orcG1, c33, zf, plainL, plainCell]
  refine hK _ ?_
  clear hK K
  refine PWp.seq_rg [2] orcG1_ok (mv := mv) (by decide) fun K hK => ?_
  simp only [pwr, mv, List.getD_nil, List.drop_nil, List.head?_nil, Int.natCast_zero, Int.reduceLT, Int.reduceSub, Int.reduceNeg, Int.reduceToNat, decide_false, decide_true, gt_iff_lt, Int.lt_irrefl, ne_eq, not_false_eq_true, not_true_eq_false, reduceIte, reduceCtorEq, Nat.reduceEqDiff, Nat.reduceAdd, Nat.reduceMul, Nat.reduceSub, Nat.reduceLT, Nat.reduceLeDiff, Nat.reduceBEq, if_true, if_false, implies_true, Option.isSome_none, Option.isSome_some, List.nil_append, List.cons_append, List.append_nil, List.map_cons, List.map_nil, List.toList_toArray, Option.getD_some, Option.getD_none, Option.map_some, Option.map_none, Option.bind_some, Option.bind_none, List.length_cons, List.length_nil, Bool.cond_true, Bool.cond_false, Array.toList_append, List.filterMap_cons, List.filterMap_nil, List.all_nil, List.all_cons, List.any_cons, List.any_nil, List.map_append, List.getElem?_toArray, List.getElem?_cons_zero, List.getElem?_cons_succ, Option.toArray_some, Option.toArray_none, List.contains_cons, List.contains_nil, List.head?_cons, List.drop_zero, List.drop_succ_cons, List.take_succ_cons, List.take_zero, List.set_cons_zero, List.set_cons_succ, List.length_map, List.getElem?_nil, orcG1, c33, zf, plainL, plainCell]
  refine hK _ ?_
  clear hK K
  refine PWp.ret (hQ2 _ ?_)
  simp only [pwf, List.drop_zero, List.drop_succ_cons, List.take_succ_cons, List.take_zero, List.getElem?_cons_zero, List.getElem?_cons_succ, List.getElem?_nil, Nat.sub_self, reduceIte, reduceCtorEq, Nat.reduceEqDiff, Nat.reduceAdd, Nat.reduceMul, Nat.reduceSub, Nat.reduceLT, Nat.reduceLeDiff, Nat.reduceBEq, if_true, if_false, implies_true, Option.isSome_none, Option.isSome_some, List.nil_append, List.cons_append, List.append_nil, List.map_cons, List.map_nil, List.toList_toArray, Option.getD_some, Option.getD_none, Option.map_some, Option.map_none, Option.bind_some, Option.bind_none, List.length_cons, List.length_nil, Bool.cond_true, Bool.cond_false, Array.toList_append, List.contains_cons, List.contains_nil, zf, plainL, plainCell, Tryz.results32]
  repeat simp only [pwf, List.drop_zero, List.drop_succ_cons, List.take_succ_cons, List.take_zero, List.getElem?_cons_zero, List.getElem?_cons_succ, List.getElem?_nil, Nat.sub_self, reduceIte, reduceCtorEq, Nat.reduceEqDiff, Nat.reduceAdd, Nat.reduceMul, Nat.reduceSub, Nat.reduceLT, Nat.reduceLeDiff, Nat.reduceBEq, if_true, if_false, implies_true, Option.isSome_none, Option.isSome_some, List.nil_append, List.cons_append, List.append_nil, List.map_cons, List.map_nil, List.toList_toArray, Option.getD_some, Option.getD_none, Option.map_some, Option.map_none, Option.bind_some, Option.bind_none, List.length_cons, List.length_nil, Bool.cond_true, Bool.cond_false, Array.toList_append, List.contains_cons, List.contains_nil, zf, plainL, plainCell]
  first | done | rfl | (simp; done) | trace_state
theorem gRows_snoc {l : List G} {i : Nat} (hil : i < l.length) : gRows (l.take (i + 1)) = gRows (l.take i) ++ [[.int .i64 l[i].1, .int .i64 l[i].2]] := by
  rw [List.take_succ_eq_append_getElem hil, gRows, List.map_append]
  rfl
theorem t32 (l : List G) (hl : l.length ≤ 60) : PCalls Tryz.prog 28 [(.S 0, .av (.pv (.sl (gRows l))))] [(.S 0, .av (.rf (.RS 0 0) 0)), (.RS 0 0, .rw 0 true 41 (gRows l))] := by
  refine PCalls.of_k Tryz.func28 (by decide) rfl fun Q hQ1 hQ2 => ?_
  refine PWp.seq_rg [0] orcG1_ok (mv := mv) (by decide) fun K hK => ?_
  simp only [pwr, mv, List.getD_nil, List.drop_nil, List.head?_nil, Int.natCast_zero, Int.reduceLT, Int.reduceSub, Int.reduceNeg, Int.reduceToNat, decide_false, decide_true, gt_iff_lt, Int.lt_irrefl, ne_eq, not_false_eq_true, not_true_eq_false, reduceIte, reduceCtorEq, Nat.reduceEqDiff, Nat.reduceAdd, Nat.reduceMul, Nat.reduceSub, Nat.reduceLT, Nat.reduceLeDiff, Nat.reduceBEq, if_true, if_false, implies_true, Option.isSome_none, Option.isSome_some, List.nil_append, List.cons_append, List.append_nil, List.map_cons, List.map_nil, List.toList_toArray, Option.getD_some, Option.getD_none, Option.map_some, Option.map_none, Option.bind_some, Option.bind_none, List.length_cons, List.length_nil, Bool.cond_true, Bool.cond_false, Array.toList_append, List.filterMap_cons, List.filterMap_nil, List.all_nil, List.all_cons, List.any_cons, List.any_nil, List.map_append, List.getElem?_toArray, List.getElem?_cons_zero, List.getElem?_cons_succ, Option.toArray_some, Option.toArray_none, List.contains_cons, List.contains_nil, List.head?_cons, List.drop_zero, List.drop_succ_cons, List.take_succ_cons, List.take_zero, List.set_cons_zero, List.set_cons_succ, List.length_map, List.getElem?_nil, orcG1, c33, zf, plainL, plainCell]
  refine hK _ ?_
  clear hK K
  refine PWp.seq_rg [0, 3] orcG1_ok (mv := mv) (by decide) fun K hK => ?_
  simp only [pwr, mv, List.getD_nil, List.drop_nil, List.head?_nil, Int.natCast_zero, Int.reduceLT, Int.reduceSub, Int.reduceNeg, Int.reduceToNat, decide_false, decide_true, gt_iff_lt, Int.lt_irrefl, ne_eq, not_false_eq_true, not_true_eq_false, reduceIte, reduceCtorEq, Nat.reduceEqDiff, Nat.reduceAdd, Nat.reduceMul, Nat.reduceSub, Nat.reduceLT, Nat.reduceLeDiff, Nat.reduceBEq, if_true, if_false, implies_true, Option.isSome_none, Option.isSome_some, List.nil_append, List.cons_append, List.append_nil, List.map_cons, List.map_nil, List.toList_toArray, Option.getD_some, Option.getD_none, Option.map_some, Option.map_none, Option.bind_some, Option.bind_none, List.length_cons, List.length_nil, Bool.cond_true, Bool.cond_false, Array.toList_append, List.filterMap_cons, List.filterMap_nil, List.all_nil, List.all_cons, List.any_cons, List.any_nil, List.map_append, List.getElem?_toArray, List.getElem?_cons_zero, List.getElem?_cons_succ, Option.toArray_some, Option.toArray_none, List.contains_cons, List.contains_nil, List.head?_cons, List.drop_zero, List.drop_succ_cons, List.take_succ_cons, List.take_zero, List.set_cons_zero, List.set_cons_succ, List.length_map, List.getElem?_nil, orcG1, c33, zf, plainL, plainCell]
  refine hK _ ?_
  clear hK K
  refine PWp.seq_k fun K1 hK1 => ?_
  refine PWp.seq_rg [0, 3, 4] orcG1_ok (mv := mv) (by decide) fun K hK => ?_
  simp only [pwr, mv, List.getD_nil, List.drop_nil, List.head?_nil, Int.natCast_zero, Int.reduceLT, Int.reduceSub, Int.reduceNeg, Int.reduceToNat, decide_false, decide_true, gt_iff_lt, Int.lt_irrefl, ne_eq, not_false_eq_true, not_true_eq_false, reduceIte, reduceCtorEq, Nat.reduceEqDiff, Nat.reduceAdd, Nat.reduceMul, Nat.reduceSub, Nat.reduceLT, Nat.reduceLeDiff, Nat.reduceBEq, if_true, if_false, implies_true, Option.isSome_none, Option.isSome_some, List.nil_append, List.cons_append, List.append_nil, List.map_cons, List.map_nil, List.toList_toArray, Option.getD_some, Option.getD_none, Option.map_some, Option.map_none, Option.bind_some, Option.bind_none, List.length_cons, List.length_nil, Bool.cond_true, Bool.cond_false, Array.toList_append, List.filterMap_cons, List.filterMap_nil, List.all_nil, List.all_cons, List.any_cons, List.any_nil, List.map_append, List.getElem?_toArray, List.getElem?_cons_zero, List.getElem?_cons_succ, Option.toArray_some, Option.toArray_none, List.contains_cons, List.contains_nil, List.head?_cons, List.drop_zero, List.drop_succ_cons, List.take_succ_cons, List.take_zero, List.set_cons_zero, List.set_cons_succ, List.length_map, List.getElem?_nil, orcG1, c33, zf, plainL, plainCell]
  refine hK _ ?_
  clear hK K
  refine PWp.block_k fun Qq2 hq2n hq2x hq2r hq2e => ?_
  refine PWp.loop_k (fun i : Nat => [(.S 0, .av (.pv (.sl (gRows l)))), (.S 3, .av (.rf (.RS 3 0) 0)), (.S 4, .av (.pv (.int .i64 i))), (.RS 3 0, .rw 0 true 41 (gRows (l.take i)))]) (fun i => i ≤ l.length) (fun i => l.length - i) (0) (Nat.zero_le _) ?_ ?_
  · repeat simp only [pwf, List.drop_zero, List.drop_succ_cons, List.take_succ_cons, List.take_zero, List.getElem?_cons_zero, List.getElem?_cons_succ, List.getElem?_nil, Nat.sub_self, reduceIte, reduceCtorEq, Nat.reduceEqDiff, Nat.reduceAdd, Nat.reduceMul, Nat.reduceSub, Nat.reduceLT, Nat.reduceLeDiff, Nat.reduceBEq, if_true, if_false, implies_true, Option.isSome_none, Option.isSome_some, List.nil_append, List.cons_append, List.append_nil, List.map_cons, List.map_nil, List.toList_toArray, Option.getD_some, Option.getD_none, Option.map_some, Option.map_none, Option.bind_some, Option.bind_none, List.length_cons, List.length_nil, Bool.cond_true, Bool.cond_false, Array.toList_append, List.contains_cons, List.contains_nil, zf, plainL, plainCell]
    first | done | trivial | rfl | (simp; done)
  rintro i hi J1 hJ1
  refine PWp.seq_k fun K3 hK3 => ?_
  refine PWp.seq_rg [0, 3, 4, 12] orcG1_ok (mv := mv) (by decide) fun K hK => ?_
  simp only [pwr, mv, List.getD_nil, List.drop_nil, List.head?_nil, Int.natCast_zero, Int.reduceLT, Int.reduceSub, Int.reduceNeg, Int.reduceToNat, decide_false, decide_true, gt_iff_lt, Int.lt_irrefl, ne_eq, not_false_eq_true, not_true_eq_false, reduceIte, reduceCtorEq, Nat.reduceEqDiff, Nat.reduceAdd, Nat.reduceMul, Nat.reduceSub, Nat.reduceLT, Nat.reduceLeDiff, Nat.reduceBEq, if_true, if_false, implies_true, Option.isSome_none, Option.isSome_some, List.nil_append, List.cons_append, List.append_nil, List.map_cons, List.map_nil, List.toList_toArray, Option.getD_some, Option.getD_none, Option.map_some, Option.map_none, Option.bind_some, Option.bind_none, List.length_cons, List.length_nil, Bool.cond_true, Bool.cond_false, Array.toList_append, List.filterMap_cons, List.filterMap_nil, List.all_nil, List.all_cons, List.any_cons, List.any_nil, List.map_append, List.getElem?_toArray, List.getElem?_cons_zero, List.getElem?_cons_succ, Option.toArray_some, Option.toArray_none, List.contains_cons, List.contains_nil, List.head?_cons, List.drop_zero, List.drop_succ_cons, List.take_succ_cons, List.take_zero, List.set_cons_zero, List.set_cons_succ, List.length_map, List.getElem?_nil, orcG1, c33, zf, plainL, plainCell]
  refine hK _ ?_
  clear hK K
  refine PWp.cond (by rfl) (fun hb12 => ?_) (fun hb12 => ?_)
  ·
   try (cases hb12; done)
   all_goals
    refine PWp.skip (hK3 _ ?_)
    refine PWp.seq_k fun K4 hK4 => ?_
    refine PWp.block_k fun Qq5 hq5n hq5x hq5r hq5e => ?_
    have hil : i < l.length := by simp at hb12; omega
    have e1 : (gRows l).getD i [] = [.int .i64 l[i].1, .int .i64 l[i].2] := getD_map hil
    refine PWp.dr [0, 3, 4] mixed orcG1_ok (mv := mv) (by decide) ?_
    simp only [pwr, mv, List.getD_nil, List.drop_nil, List.head?_nil, Int.natCast_zero, Int.reduceLT, Int.reduceSub, Int.reduceNeg, Int.reduceToNat, decide_false, decide_true, gt_iff_lt, Int.lt_irrefl, ne_eq, not_false_eq_true, not_true_eq_false, reduceIte, reduceCtorEq, Nat.reduceEqDiff, Nat.reduceAdd, Nat.reduceMul, Nat.reduceSub, Nat.reduceLT, Nat.reduceLeDiff, Nat.reduceBEq, if_true, if_false, implies_true, Option.isSome_none, Option.isSome_some, List.nil_append, List.cons_append, List.append_nil, List.map_cons, List.map_nil, List.toList_toArray, Option.getD_some, Option.getD_none, Option.map_some, Option.map_none, Option.bind_some, Option.bind_none, List.length_cons, List.length_nil, Bool.cond_true, Bool.cond_false, Array.toList_append, List.filterMap_cons, List.filterMap_nil, List.all_nil, List.all_cons, List.any_cons, List.any_nil, List.map_append, List.getElem?_toArray, List.getElem?_cons_zero, List.getElem?_cons_succ, Option.toArray_some, Option.toArray_none, List.contains_cons, List.contains_nil, List.head?_cons, List.drop_zero, List.drop_succ_cons, List.take_succ_cons, List.take_zero, List.set_cons_zero, List.set_cons_succ, List.length_map, List.getElem?_nil, orcG1, c33, zf, plainL, plainCell, e1]
    repeat' with_reducible refine And.intro ?_ ?_
    all_goals try ((simp only [List.length_take]; omega))
    all_goals try (first | omega | rfl | ((with_reducible refine drawGoal ?_); exact rfl) | (simp only [inR]; omega) | (intro y hy; simp only [List.mem_singleton] at hy; subst hy; rfl) | (intro y hy; cases hy; done) | (simp only [List.length_append, List.length_map, List.length_cons, List.length_nil]; omega) | (intro h; simp only [inR]; omega) | (intro h; simp only [List.length_append, List.length_map, List.length_cons, List.length_nil]; omega) | (intro h; exact h.elim))
    refine hq5n _ (hK4 _ ?_)
    refine PWp.rg [0, 3, 4] orcG1_ok (mv := mv) (by decide) ?_
    simp only [pwr, mv, List.getD_nil, List.drop_nil, List.head?_nil, Int.natCast_zero, Int.reduceLT, Int.reduceSub, Int.reduceNeg, Int.reduceToNat, decide_false, decide_true, gt_iff_lt, Int.lt_irrefl, ne_eq, not_false_eq_true, not_true_eq_false, reduceIte, reduceCtorEq, Nat.reduceEqDiff, Nat.reduceAdd, Nat.reduceMul, Nat.reduceSub, Nat.reduceLT, Nat.reduceLeDiff, Nat.reduceBEq, if_true, if_false, implies_true, Option.isSome_none, Option.isSome_some, List.nil_append, List.cons_append, List.append_nil, List.map_cons, List.map_nil, List.toList_toArray, Option.getD_some, Option.getD_none, Option.map_some, Option.map_none, Option.bind_some, Option.bind_none, List.length_cons, List.length_nil, Bool.cond_true, Bool.cond_false, Array.toList_append, List.filterMap_cons, List.filterMap_nil, List.all_nil, List.all_cons, List.any_cons, List.any_nil, List.map_append, List.getElem?_toArray, List.getElem?_cons_zero, List.getElem?_cons_succ, Option.toArray_some, Option.toArray_none, List.contains_cons, List.contains_nil, List.head?_cons, List.drop_zero, List.drop_succ_cons, List.take_succ_cons, List.take_zero, List.set_cons_zero, List.set_cons_succ, List.length_map, List.getElem?_nil, orcG1, c33, zf, plainL, plainCell]
    repeat' with_reducible refine And.intro ?_ ?_
    all_goals try (first | omega | rfl | ((with_reducible refine drawGoal ?_); exact rfl) | (simp only [inR]; omega) | (intro y hy; simp only [List.mem_singleton] at hy; subst hy; rfl) | (intro y hy; cases hy; done) | (simp only [List.length_append, List.length_map, List.length_cons, List.length_nil]; omega) | (intro h; simp only [inR]; omega) | (intro h; simp only [List.length_append, List.length_map, List.length_cons, List.length_nil]; omega) | (intro h; exact h.elim))
    refine hJ1 _ (i + 1) ?_ ?_ ?_
    · first | omega | (show _ ≤ _; omega) | exact ⟨by omega, by assumption⟩
    · omega
    · repeat simp only [pwf, List.drop_zero, List.drop_succ_cons, List.take_succ_cons, List.take_zero, List.getElem?_cons_zero, List.getElem?_cons_succ, List.getElem?_nil, Nat.sub_self, reduceIte, reduceCtorEq, Nat.reduceEqDiff, Nat.reduceAdd, Nat.reduceMul, Nat.reduceSub, Nat.reduceLT, Nat.reduceLeDiff, Nat.reduceBEq, if_true, if_false, implies_true, Option.isSome_none, Option.isSome_some, List.nil_append, List.cons_append, List.append_nil, List.map_cons, List.map_nil, List.toList_toArray, Option.getD_some, Option.getD_none, Option.map_some, Option.map_none, Option.bind_some, Option.bind_none, List.length_cons, List.length_nil, Bool.cond_true, Bool.cond_false, Array.toList_append, List.contains_cons, List.contains_nil, zf, plainL, plainCell]
      exact ⟨⟨_, _, rfl⟩, by simp, gRows_snoc hil⟩
  ·
   try (cases hb12; done)
   all_goals
    refine PWp.exit (hq2x _ (hK1 _ ?_))
    refine PWp.seq_rg [2] orcG1_ok (mv := mv) (by decide) fun K hK => ?_
    simp only [pwr, mv, List.getD_nil, List.drop_nil, List.head?_nil, Int.natCast_zero, Int.reduceLT, Int.reduceSub, Int.reduceNeg, Int.reduceToNat, decide_false, decide_true, gt_iff_lt, Int.lt_irrefl, ne_eq, not_false_eq_true, not_true_eq_false, reduceIte, reduceCtorEq, Nat.reduceEqDiff, Nat.reduceAdd, Nat.reduceMul, Nat.reduceSub, Nat.reduceLT, Nat.reduceLeDiff, Nat.reduceBEq, if_true, if_false, implies_true, Option.isSome_none, Option.isSome_some, List.nil_append, List.cons_append, List.append_nil, List.map_cons, List.map_nil, List.toList_toArray, Option.getD_some, Option.getD_none, Option.map_some, Option.map_none, Option.bind_some, Option.bind_none, List.length_cons, List.length_nil, Bool.cond_true, Bool.cond_false, Array.toList_append, List.filterMap_cons, List.filterMap_nil, List.all_nil, List.all_cons, List.any_cons, List.any_nil, List.map_append, List.getElem?_toArray, List.getElem?_cons_zero, List.getElem?_cons_succ, Option.toArray_some, Option.toArray_none, List.contains_cons, List.contains_nil, List.head?_cons, List.drop_zero, List.drop_succ_cons, List.take_succ_cons, List.take_zero, List.set_cons_zero, List.set_cons_succ, List.length_map, List.getElem?_nil, orcG1, c33, zf, plainL, plainCell]
    refine hK _ ?_
    clear hK K
    refine PWp.ret (hQ2 _ ?_)
    simp only [pwf, List.drop_zero, List.drop_succ_cons, List.take_succ_cons, List.take_zero, List.getElem?_cons_zero, List.getElem?_cons_succ, List.getElem?_nil, Nat.sub_self, reduceIte, reduceCtorEq, Nat.reduceEqDiff, Nat.reduceAdd, Nat.reduceMul, Nat.reduceSub, Nat.reduceLT, Nat.reduceLeDiff, Nat.reduceBEq, if_true, if_false, implies_true, Option.isSome_none, Option.isSome_some, List.nil_append, List.cons_append, List.append_nil, List.map_cons, List.map_nil, List.toList_toArray, Option.getD_some, Option.getD_none, Option.map_some, Option.map_none, Option.bind_some, Option.bind_none, List.length_cons, List.length_nil, Bool.cond_true, Bool.cond_false, Array.toList_append, List.contains_cons, List.contains_nil, zf, plainL, plainCell, Tryz.results28]
    repeat simp only [pwf, List.drop_zero, List.drop_succ_cons, List.take_succ_cons, List.take_zero, List.getElem?_cons_zero, List.getElem?_cons_succ, List.getElem?_nil, Nat.sub_self, reduceIte, reduceCtorEq, Nat.reduceEqDiff, Nat.reduceAdd, Nat.reduceMul, Nat.reduceSub, Nat.reduceLT, Nat.reduceLeDiff, Nat.reduceBEq, if_true, if_false, implies_true, Option.isSome_none, Option.isSome_some, List.nil_append, List.cons_append, List.append_nil, List.map_cons, List.map_nil, List.toList_toArray, Option.getD_some, Option.getD_none, Option.map_some, Option.map_none, Option.bind_some, Option.bind_none, List.length_cons, List.length_nil, Bool.cond_true, Bool.cond_false, Array.toList_append, List.contains_cons, List.contains_nil, zf, plainL, plainCell]
    have hie : i = l.length := by simp at hb12; omega
    rw [hie, List.take_length]
    exact ⟨⟨_, _, rfl⟩, rfl⟩
def c32 : St → Option (Prop × St)
  | [(.S 0, .av (.agg [.pv (.int .i64 a), .pv (.int .i64 b)]))] => some ((True), [(.S 0, .av (.pv (.bool (!validG (a, b)))))])
  | _ => none
theorem p32 {In Ret : St} {pre : Prop} (h : c32 In = some (pre, Ret)) (hp : pre) : PCalls Tryz.prog 32 In Ret := by
  unfold c32 at h
  split at h
  · rename_i a b
    cases h
    exact t43 (_, _)
  · cases h
def orcG2 : Orc := fun f In => if f = 32 then c32 In else none
theorem orcG2_ok : OrcOk Tryz.prog orcG2 := by
  intro f In pre Ret h hp
  unfold orcG2 at h
  split at h
  · subst f; exact p32 h hp
  cases h
abbrev badC : AV := .pv (.raw (.func (.func 32) #[] #[]))
def idxB (l : List G) : Int := if l.any (fun g => !validG g) then ((l.findIdx (fun g => !validG g) : Nat) : Int) else -1
theorem idxB_has (l : List G) : decide (0 ≤ idxB l) = l.any (fun g => !validG g) := by
  unfold idxB
  split <;> simp_all
theorem t52b (l : List G) (hl : l.length < 100000000) : PCalls Tryz.prog 51 [(.S 0, .av (.pv (.sl (gRows l)))), (.S 1, .av badC)] [(.S 0, .av (.pv (.int .i64 (idxB l))))] := by
  refine PCalls.of_k Tryz.func51 (by decide) rfl fun Q hQ1 hQ2 => ?_
  refine PWp.seq_rg [0, 1] orcG2_ok (mv := mv) (by decide) fun K hK => ?_
  simp only [pwr, mv, List.getD_nil, List.drop_nil, List.head?_nil, Int.natCast_zero, Int.reduceLT, Int.reduceSub, Int.reduceNeg, Int.reduceToNat, decide_false, decide_true, gt_iff_lt, Int.lt_irrefl, ne_eq, not_false_eq_true, not_true_eq_false, reduceIte, reduceCtorEq, Nat.reduceEqDiff, Nat.reduceAdd, Nat.reduceMul, Nat.reduceSub, Nat.reduceLT, Nat.reduceLeDiff, Nat.reduceBEq, if_true, if_false, implies_true, Option.isSome_none, Option.isSome_some, List.nil_append, List.cons_append, List.append_nil, List.map_cons, List.map_nil, List.toList_toArray, Option.getD_some, Option.getD_none, Option.map_some, Option.map_none, Option.bind_some, Option.bind_none, List.length_cons, List.length_nil, Bool.cond_true, Bool.cond_false, Array.toList_append, List.filterMap_cons, List.filterMap_nil, List.all_nil, List.all_cons, List.any_cons, List.any_nil, List.map_append, List.getElem?_toArray, List.getElem?_cons_zero, List.getElem?_cons_succ, Option.toArray_some, Option.toArray_none, List.contains_cons, List.contains_nil, List.head?_cons, List.drop_zero, List.drop_succ_cons, List.take_succ_cons, List.take_zero, List.set_cons_zero, List.set_cons_succ, List.length_map, List.getElem?_nil, orcG2, c32, zf, plainL, plainCell]
  refine hK _ ?_
  clear hK K
  refine PWp.seq_k fun K1 hK1 => ?_
  refine PWp.seq_rg [0, 1, 7, 8] orcG2_ok (mv := mv) (by decide) fun K hK => ?_
  simp only [pwr, mv, List.getD_nil, List.drop_nil, List.head?_nil, Int.natCast_zero, Int.reduceLT, Int.reduceSub, Int.reduceNeg, Int.reduceToNat, decide_false, decide_true, gt_iff_lt, Int.lt_irrefl, ne_eq, not_false_eq_true, not_true_eq_false, reduceIte, reduceCtorEq, Nat.reduceEqDiff, Nat.reduceAdd, Nat.reduceMul, Nat.reduceSub, Nat.reduceLT, Nat.reduceLeDiff, Nat.reduceBEq, if_true, if_false, implies_true, Option.isSome_none, Option.isSome_some, List.nil_append, List.cons_append, List.append_nil, List.map_cons, List.map_nil, List.toList_toArray, Option.getD_some, Option.getD_none, Option.map_some, Option.map_none, Option.bind_some, Option.bind_none, List.length_cons, List.length_nil, Bool.cond_true, Bool.cond_false, Array.toList_append, List.filterMap_cons, List.filterMap_nil, List.all_nil, List.all_cons, List.any_cons, List.any_nil, List.map_append, List.getElem?_toArray, List.getElem?_cons_zero, List.getElem?_cons_succ, Option.toArray_some, Option.toArray_none, List.contains_cons, List.contains_nil, List.head?_cons, List.drop_zero, List.drop_succ_cons, List.take_succ_cons, List.take_zero, List.set_cons_zero, List.set_cons_succ, List.length_map, List.getElem?_nil, orcG2, c32, zf, plainL, plainCell]
  refine hK _ ?_
  clear hK K
  refine PWp.block_k fun Qq2 hq2n hq2x hq2r hq2e => ?_
  refine PWp.loop_k (fun i : Nat => [(.S 0, .av (.pv (.sl (gRows l)))), (.S 1, .av badC), (.S 7, .av (.pv (.int .i64 l.length))), (.S 8, .av (.pv (.int .i64 i)))]) (fun i => i ≤ l.length ∧ ∀ g ∈ l.take i, (!validG g) = false) (fun i => l.length - i) (0) (⟨Nat.zero_le _, by simp⟩) ?_ ?_
  · repeat simp only [pwf, List.drop_zero, List.drop_succ_cons, List.take_succ_cons, List.take_zero, List.getElem?_cons_zero, List.getElem?_cons_succ, List.getElem?_nil, Nat.sub_self, reduceIte, reduceCtorEq, Nat.reduceEqDiff, Nat.reduceAdd, Nat.reduceMul, Nat.reduceSub, Nat.reduceLT, Nat.reduceLeDiff, Nat.reduceBEq, if_true, if_false, implies_true, Option.isSome_none, Option.isSome_some, List.nil_append, List.cons_append, List.append_nil, List.map_cons, List.map_nil, List.toList_toArray, Option.getD_some, Option.getD_none, Option.map_some, Option.map_none, Option.bind_some, Option.bind_none, List.length_cons, List.length_nil, Bool.cond_true, Bool.cond_false, Array.toList_append, List.contains_cons, List.contains_nil, zf, plainL, plainCell]
    first | done | trivial | rfl | (simp; done)
  rintro i ⟨hi, hinv⟩ J1 hJ1
  refine PWp.seq_rg [0, 1, 7, 8, 9] orcG2_ok (mv := mv) (by decide) fun K hK => ?_
  simp only [pwr, mv, List.getD_nil, List.drop_nil, List.head?_nil, Int.natCast_zero, Int.reduceLT, Int.reduceSub, Int.reduceNeg, Int.reduceToNat, decide_false, decide_true, gt_iff_lt, Int.lt_irrefl, ne_eq, not_false_eq_true, not_true_eq_false, reduceIte, reduceCtorEq, Nat.reduceEqDiff, Nat.reduceAdd, Nat.reduceMul, Nat.reduceSub, Nat.reduceLT, Nat.reduceLeDiff, Nat.reduceBEq, if_true, if_false, implies_true, Option.isSome_none, Option.isSome_some, List.nil_append, List.cons_append, List.append_nil, List.map_cons, List.map_nil, List.toList_toArray, Option.getD_some, Option.getD_none, Option.map_some, Option.map_none, Option.bind_some, Option.bind_none, List.length_cons, List.length_nil, Bool.cond_true, Bool.cond_false, Array.toList_append, List.filterMap_cons, List.filterMap_nil, List.all_nil, List.all_cons, List.any_cons, List.any_nil, List.map_append, List.getElem?_toArray, List.getElem?_cons_zero, List.getElem?_cons_succ, Option.toArray_some, Option.toArray_none, List.contains_cons, List.contains_nil, List.head?_cons, List.drop_zero, List.drop_succ_cons, List.take_succ_cons, List.take_zero, List.set_cons_zero, List.set_cons_succ, List.length_map, List.getElem?_nil, orcG2, c32, zf, plainL, plainCell]
  refine hK _ ?_
  clear hK K
  refine PWp.seq_k fun K3 hK3 => ?_
  refine PWp.cond (by rfl) (fun hb9 => ?_) (fun hb9 => ?_)
  ·
   try (cases hb9; done)
   all_goals
    refine PWp.skip (hK3 _ ?_)
    refine PWp.seq_k fun K4 hK4 => ?_
    refine PWp.block_k fun Qq5 hq5n hq5x hq5r hq5e => ?_
    refine PWp.seq_rg [0, 1, 5, 7, 8] orcG2_ok (mv := mv) (by decide) fun K hK => ?_
    simp only [pwr, mv, List.getD_nil, List.drop_nil, List.head?_nil, Int.natCast_zero, Int.reduceLT, Int.reduceSub, Int.reduceNeg, Int.reduceToNat, decide_false, decide_true, gt_iff_lt, Int.lt_irrefl, ne_eq, not_false_eq_true, not_true_eq_false, reduceIte, reduceCtorEq, Nat.reduceEqDiff, Nat.reduceAdd, Nat.reduceMul, Nat.reduceSub, Nat.reduceLT, Nat.reduceLeDiff, Nat.reduceBEq, if_true, if_false, implies_true, Option.isSome_none, Option.isSome_some, List.nil_append, List.cons_append, List.append_nil, List.map_cons, List.map_nil, List.toList_toArray, Option.getD_some, Option.getD_none, Option.map_some, Option.map_none, Option.bind_some, Option.bind_none, List.length_cons, List.length_nil, Bool.cond_true, Bool.cond_false, Array.toList_append, List.filterMap_cons, List.filterMap_nil, List.all_nil, List.all_cons, List.any_cons, List.any_nil, List.map_append, List.getElem?_toArray, List.getElem?_cons_zero, List.getElem?_cons_succ, Option.toArray_some, Option.toArray_none, List.contains_cons, List.contains_nil, List.head?_cons, List.drop_zero, List.drop_succ_cons, List.take_succ_cons, List.take_zero, List.set_cons_zero, List.set_cons_succ, List.length_map, List.getElem?_nil, orcG2, c32, zf, plainL, plainCell]
    refine hK _ ?_
    clear hK K
    have hil : i < l.length := by simpa using hb9
    have e1 : (gRows l).getD i [] = [.int .i64 l[i].1, .int .i64 l[i].2] := getD_map hil
    refine PWp.seq_rg [0, 1, 5, 7, 8, 16] orcG2_ok (mv := mv) (by decide) fun K hK => ?_
    simp only [pwr, mv, List.getD_nil, List.drop_nil, List.head?_nil, Int.natCast_zero, Int.reduceLT, Int.reduceSub, Int.reduceNeg, Int.reduceToNat, decide_false, decide_true, gt_iff_lt, Int.lt_irrefl, ne_eq, not_false_eq_true, not_true_eq_false, reduceIte, reduceCtorEq, Nat.reduceEqDiff, Nat.reduceAdd, Nat.reduceMul, Nat.reduceSub, Nat.reduceLT, Nat.reduceLeDiff, Nat.reduceBEq, if_true, if_false, implies_true, Option.isSome_none, Option.isSome_some, List.nil_append, List.cons_append, List.append_nil, List.map_cons, List.map_nil, List.toList_toArray, Option.getD_some, Option.getD_none, Option.map_some, Option.map_none, Option.bind_some, Option.bind_none, List.length_cons, List.length_nil, Bool.cond_true, Bool.cond_false, Array.toList_append, List.filterMap_cons, List.filterMap_nil, List.all_nil, List.all_cons, List.any_cons, List.any_nil, List.map_append, List.getElem?_toArray, List.getElem?_cons_zero, List.getElem?_cons_succ, Option.toArray_some, Option.toArray_none, List.contains_cons, List.contains_nil, List.head?_cons, List.drop_zero, List.drop_succ_cons, List.take_succ_cons, List.take_zero, List.set_cons_zero, List.set_cons_succ, List.length_map, List.getElem?_nil, orcG2, c32, zf, plainL, plainCell, e1]
    repeat' with_reducible refine And.intro ?_ ?_
    all_goals try (first | omega | rfl | ((with_reducible refine drawGoal ?_); exact rfl) | (simp only [inR]; omega) | (intro y hy; simp only [List.mem_singleton] at hy; subst hy; rfl) | (intro y hy; cases hy; done) | (simp only [List.length_append, List.length_map, List.length_cons, List.length_nil]; omega) | (intro h; simp only [inR]; omega) | (intro h; simp only [List.length_append, List.length_map, List.length_cons, List.length_nil]; omega) | (intro h; exact h.elim))
    refine hK _ ?_
    clear hK K
    refine PWp.cond (by rfl) (fun hb16 => ?_) (fun hb16 => ?_)
    ·
     try (cases hb16; done)
     all_goals
      refine PWp.seq_rg [4] orcG2_ok (mv := mv) (by decide) fun K hK => ?_
      simp only [pwr, mv, List.getD_nil, List.drop_nil, List.head?_nil, Int.natCast_zero, Int.reduceLT, Int.reduceSub, Int.reduceNeg, Int.reduceToNat, decide_false, decide_true, gt_iff_lt, Int.lt_irrefl, ne_eq, not_false_eq_true, not_true_eq_false, reduceIte, reduceCtorEq, Nat.reduceEqDiff, Nat.reduceAdd, Nat.reduceMul, Nat.reduceSub, Nat.reduceLT, Nat.reduceLeDiff, Nat.reduceBEq, if_true, if_false, implies_true, Option.isSome_none, Option.isSome_some, List.nil_append, List.cons_append, List.append_nil, List.map_cons, List.map_nil, List.toList_toArray, Option.getD_some, Option.getD_none, Option.map_some, Option.map_none, Option.bind_some, Option.bind_none, List.length_cons, List.length_nil, Bool.cond_true, Bool.cond_false, Array.toList_append, List.filterMap_cons, List.filterMap_nil, List.all_nil, List.all_cons, List.any_cons, List.any_nil, List.map_append, List.getElem?_toArray, List.getElem?_cons_zero, List.getElem?_cons_succ, Option.toArray_some, Option.toArray_none, List.contains_cons, List.contains_nil, List.head?_cons, List.drop_zero, List.drop_succ_cons, List.take_succ_cons, List.take_zero, List.set_cons_zero, List.set_cons_succ, List.length_map, List.getElem?_nil, orcG2, c32, zf, plainL, plainCell]
      refine hK _ ?_
      clear hK K
      refine PWp.ret (hq5r _ (hq2r _ (hQ2 _ ?_)))
      simp only [pwf, List.drop_zero, List.drop_succ_cons, List.take_succ_cons, List.take_zero, List.getElem?_cons_zero, List.getElem?_cons_succ, List.getElem?_nil, Nat.sub_self, reduceIte, reduceCtorEq, Nat.reduceEqDiff, Nat.reduceAdd, Nat.reduceMul, Nat.reduceSub, Nat.reduceLT, Nat.reduceLeDiff, Nat.reduceBEq, if_true, if_false, implies_true, Option.isSome_none, Option.isSome_some, List.nil_append, List.cons_append, List.append_nil, List.map_cons, List.map_nil, List.toList_toArray, Option.getD_some, Option.getD_none, Option.map_some, Option.map_none, Option.bind_some, Option.bind_none, List.length_cons, List.length_nil, Bool.cond_true, Bool.cond_false, Array.toList_append, List.contains_cons, List.contains_nil, zf, plainL, plainCell, Tryz.results51]
      repeat simp only [pwf, List.drop_zero, List.drop_succ_cons, List.take_succ_cons, List.take_zero, List.getElem?_cons_zero, List.getElem?_cons_succ, List.getElem?_nil, Nat.sub_self, reduceIte, reduceCtorEq, Nat.reduceEqDiff, Nat.reduceAdd, Nat.reduceMul, Nat.reduceSub, Nat.reduceLT, Nat.reduceLeDiff, Nat.reduceBEq, if_true, if_false, implies_true, Option.isSome_none, Option.isSome_some, List.nil_append, List.cons_append, List.append_nil, List.map_cons, List.map_nil, List.toList_toArray, Option.getD_some, Option.getD_none, Option.map_some, Option.map_none, Option.bind_some, Option.bind_none, List.length_cons, List.length_nil, Bool.cond_true, Bool.cond_false, Array.toList_append, List.contains_cons, List.contains_nil, zf, plainL, plainCell]
      have hh : l.any (fun g => !validG g) = true := List.any_eq_true.2 ⟨l[i], List.getElem_mem hil, hb16⟩
      have hf : l.findIdx (fun g => !validG g) = i := (List.findIdx_eq hil).2 ⟨hb16, fun j hj => hinv _ (List.mem_take_iff_getElem.2 ⟨j, by omega, rfl⟩)⟩
      rw [idxB, if_pos hh, hf]
    ·
     try (cases hb16; done)
     all_goals
      refine PWp.skip (hq5n _ (hK4 _ ?_))
      refine PWp.rg [0, 1, 7, 8] orcG2_ok (mv := mv) (by decide) ?_
      simp only [pwr, mv, List.getD_nil, List.drop_nil, List.head?_nil, Int.natCast_zero, Int.reduceLT, Int.reduceSub, Int.reduceNeg, Int.reduceToNat, decide_false, decide_true, gt_iff_lt, Int.lt_irrefl, ne_eq, not_false_eq_true, not_true_eq_false, reduceIte, reduceCtorEq, Nat.reduceEqDiff, Nat.reduceAdd, Nat.reduceMul, Nat.reduceSub, Nat.reduceLT, Nat.reduceLeDiff, Nat.reduceBEq, if_true, if_false, implies_true, Option.isSome_none, Option.isSome_some, List.nil_append, List.cons_append, List.append_nil, List.map_cons, List.map_nil, List.toList_toArray, Option.getD_some, Option.getD_none, Option.map_some, Option.map_none, Option.bind_some, Option.bind_none, List.length_cons, List.length_nil, Bool.cond_true, Bool.cond_false, Array.toList_append, List.filterMap_cons, List.filterMap_nil, List.all_nil, List.all_cons, List.any_cons, List.any_nil, List.map_append, List.getElem?_toArray, List.getElem?_cons_zero, List.getElem?_cons_succ, Option.toArray_some, Option.toArray_none, List.contains_cons, List.contains_nil, List.head?_cons, List.drop_zero, List.drop_succ_cons, List.take_succ_cons, List.take_zero, List.set_cons_zero, List.set_cons_succ, List.length_map, List.getElem?_nil, orcG2, c32, zf, plainL, plainCell]
      repeat' with_reducible refine And.intro ?_ ?_
      all_goals try (first | omega | rfl | ((with_reducible refine drawGoal ?_); exact rfl) | (simp only [inR]; omega) | (intro y hy; simp only [List.mem_singleton] at hy; subst hy; rfl) | (intro y hy; cases hy; done) | (simp only [List.length_append, List.length_map, List.length_cons, List.length_nil]; omega) | (intro h; simp only [inR]; omega) | (intro h; simp only [List.length_append, List.length_map, List.length_cons, List.length_nil]; omega) | (intro h; exact h.elim))
      refine hJ1 _ (i + 1) ?_ ?_ ?_
      · exact ⟨by omega, by
          intro g hg
          rw [List.take_succ_eq_append_getElem hil] at hg
          rcases List.mem_append.1 hg with h | h
          · exact hinv g h
          · simp at h; subst h; exact hb16⟩
      · omega
      · repeat simp only [pwf, List.drop_zero, List.drop_succ_cons, List.take_succ_cons, List.take_zero, List.getElem?_cons_zero, List.getElem?_cons_succ, List.getElem?_nil, Nat.sub_self, reduceIte, reduceCtorEq, Nat.reduceEqDiff, Nat.reduceAdd, Nat.reduceMul, Nat.reduceSub, Nat.reduceLT, Nat.reduceLeDiff, Nat.reduceBEq, if_true, if_false, implies_true, Option.isSome_none, Option.isSome_some, List.nil_append, List.cons_append, List.append_nil, List.map_cons, List.map_nil, List.toList_toArray, Option.getD_some, Option.getD_none, Option.map_some, Option.map_none, Option.bind_some, Option.bind_none, List.length_cons, List.length_nil, Bool.cond_true, Bool.cond_false, Array.toList_append, List.contains_cons, List.contains_nil, zf, plainL, plainCell]
        simp
  ·
   try (cases hb9; done)
   all_goals
    refine PWp.exit (hq2x _ (hK1 _ ?_))
    refine PWp.seq_rg [4] orcG2_ok (mv := mv) (by decide) fun K hK => ?_
    simp only [pwr, mv, List.getD_nil, List.drop_nil, List.head?_nil, Int.natCast_zero, Int.reduceLT, Int.reduceSub, Int.reduceNeg, Int.reduceToNat, decide_false, decide_true, gt_iff_lt, Int.lt_irrefl, ne_eq, not_false_eq_true, not_true_eq_false, reduceIte, reduceCtorEq, Nat.reduceEqDiff, Nat.reduceAdd, Nat.reduceMul, Nat.reduceSub, Nat.reduceLT, Nat.reduceLeDiff, Nat.reduceBEq, if_true, if_false, implies_true, Option.isSome_none, Option.isSome_some, List.nil_append, List.cons_append, List.append_nil, List.map_cons, List.map_nil, List.toList_toArray, Option.getD_some, Option.getD_none, Option.map_some, Option.map_none, Option.bind_some, Option.bind_none, List.length_cons, List.length_nil, Bool.cond_true, Bool.cond_false, Array.toList_append, List.filterMap_cons, List.filterMap_nil, List.all_nil, List.all_cons, List.any_cons, List.any_nil, List.map_append, List.getElem?_toArray, List.getElem?_cons_zero, List.getElem?_cons_succ, Option.toArray_some, Option.toArray_none, List.contains_cons, List.contains_nil, List.head?_cons, List.drop_zero, List.drop_succ_cons, List.take_succ_cons, List.take_zero, List.set_cons_zero, List.set_cons_succ, List.length_map, List.getElem?_nil, orcG2, c32, zf, plainL, plainCell]
    refine hK _ ?_
    clear hK K
    refine PWp.ret (hQ2 _ ?_)
    simp only [pwf, List.drop_zero, List.drop_succ_cons, List.take_succ_cons, List.take_zero, List.getElem?_cons_zero, List.getElem?_cons_succ, List.getElem?_nil, Nat.sub_self, reduceIte, reduceCtorEq, Nat.reduceEqDiff, Nat.reduceAdd, Nat.reduceMul, Nat.reduceSub, Nat.reduceLT, Nat.reduceLeDiff, Nat.reduceBEq, if_true, if_false, implies_true, Option.isSome_none, Option.isSome_some, List.nil_append, List.cons_append, List.append_nil, List.map_cons, List.map_nil, List.toList_toArray, Option.getD_some, Option.getD_none, Option.map_some, Option.map_none, Option.bind_some, Option.bind_none, List.length_cons, List.length_nil, Bool.cond_true, Bool.cond_false, Array.toList_append, List.contains_cons, List.contains_nil, zf, plainL, plainCell, Tryz.results51]
    repeat simp only [pwf, List.drop_zero, List.drop_succ_cons, List.take_succ_cons, List.take_zero, List.getElem?_cons_zero, List.getElem?_cons_succ, List.getElem?_nil, Nat.sub_self, reduceIte, reduceCtorEq, Nat.reduceEqDiff, Nat.reduceAdd, Nat.reduceMul, Nat.reduceSub, Nat.reduceLT, Nat.reduceLeDiff, Nat.reduceBEq, if_true, if_false, implies_true, Option.isSome_none, Option.isSome_some, List.nil_append, List.cons_append, List.append_nil, List.map_cons, List.map_nil, List.toList_toArray, Option.getD_some, Option.getD_none, Option.map_some, Option.map_none, Option.bind_some, Option.bind_none, List.length_cons, List.length_nil, Bool.cond_true, Bool.cond_false, Array.toList_append, List.contains_cons, List.contains_nil, zf, plainL, plainCell]
    have hie : i = l.length := by have := of_decide_eq_false hb9; omega
    rw [hie, List.take_length] at hinv
    have hh : l.any (fun g => !validG g) = false := List.any_eq_false.2 fun g hg => by simpa using hinv g hg
    rw [idxB, if_neg (by simp [hh])]
def c51 : St → Option (Prop × St)
  | [(.S 0, .av (.pv (.sl xs1))), (.S 1, .av (.pv (.raw (.func (.func 32) fa fb))))] => some (xs1 = gRows (gOf xs1) ∧ (fa = #[] ∧ fb = #[] ∧ (gOf xs1).length < 100000000), [(.S 0, .av (.pv (.int .i64 (idxB (gOf xs1)))))])
  | _ => none
theorem p51 {In Ret : St} {pre : Prop} (h : c51 In = some (pre, Ret)) (hp : pre) : PCalls Tryz.prog 51 In Ret := by
  unfold c51 at h
  split at h
  · rename_i xs1 fa fb
    cases h
    obtain ⟨e1, hp⟩ := hp
    obtain ⟨l1, rfl⟩ : ∃ l, xs1 = gRows l := ⟨_, e1⟩
    simp only [gOf_gRows] at hp ⊢
    exact (by obtain ⟨rfl, rfl, hp⟩ := hp; exact t52b l1 hp)
  · cases h
def orcG3 : Orc := fun f In => if f = 51 then c51 In else none
theorem orcG3_ok : OrcOk Tryz.prog orcG3 := by
  intro f In pre Ret h hp
  unfold orcG3 at h
  split at h
  · subst f; exact p51 h hp
  cases h
theorem t34b (l : List G) (hl : l.length < 100000000) : PCalls Tryz.prog 31 [(.S 0, .av (.pv (.sl (gRows l)))), (.S 1, .av badC)] [(.S 0, .av (.pv (.bool (l.any (fun g => !validG g)))))] := by
  refine PCalls.of_k Tryz.func31 (by decide) rfl fun Q hQ1 hQ2 => ?_
  refine PWp.seq_rg [0, 1] orcG3_ok (mv := mv) (by decide) fun K hK => ?_
  simp only [pwr, mv, List.getD_nil, List.drop_nil, List.head?_nil, Int.natCast_zero, Int.reduceLT, Int.reduceSub, Int.reduceNeg, Int.reduceToNat, decide_false, decide_true, gt_iff_lt, Int.lt_irrefl, ne_eq, not_false_eq_true, not_true_eq_false, reduceIte, reduceCtorEq, Nat.reduceEqDiff, Nat.reduceAdd, Nat.reduceMul, Nat.reduceSub, Nat.reduceLT, Nat.reduceLeDiff, Nat.reduceBEq, if_true, if_false, implies_true, Option.isSome_none, Option.isSome_some, List.nil_append, List.cons_append, List.append_nil, List.map_cons, List.map_nil, List.toList_toArray, Option.getD_some, Option.getD_none, Option.map_some, Option.map_none, Option.bind_some, Option.bind_none, List.length_cons, List.length_nil, Bool.cond_true, Bool.cond_false, Array.toList_append, List.filterMap_cons, List.filterMap_nil, List.all_nil, List.all_cons, List.any_cons, List.any_nil, List.map_append, List.getElem?_toArray, List.getElem?_cons_zero, List.getElem?_cons_succ, Option.toArray_some, Option.toArray_none, List.contains_cons, List.contains_nil, List.head?_cons, List.drop_zero, List.drop_succ_cons, List.take_succ_cons, List.take_zero, List.set_cons_zero, List.set_cons_succ, List.length_map, List.getElem?_nil, orcG3, c51, gOf_gRows, zf, plainL, plainCell]
  refine hK _ ?_
  clear hK K
  refine PWp.seq_rg [4] orcG3_ok (mv := mv) (by decide) fun K hK => ?_
  simp only [pwr, mv, List.getD_nil, List.drop_nil, List.head?_nil, Int.natCast_zero, Int.reduceLT, Int.reduceSub, Int.reduceNeg, Int.reduceToNat, decide_false, decide_true, gt_iff_lt, Int.lt_irrefl, ne_eq, not_false_eq_true, not_true_eq_false, reduceIte, reduceCtorEq, Nat.reduceEqDiff, Nat.reduceAdd, Nat.reduceMul, Nat.reduceSub, Nat.reduceLT, Nat.reduceLeDiff, Nat.reduceBEq, if_true, if_false, implies_true, Option.isSome_none, Option.isSome_some, List.nil_append, List.cons_append, List.append_nil, List.map_cons, List.map_nil, List.toList_toArray, Option.getD_some, Option.getD_none, Option.map_some, Option.map_none, Option.bind_some, Option.bind_none, List.length_cons, List.length_nil, Bool.cond_true, Bool.cond_false, Array.toList_append, List.filterMap_cons, List.filterMap_nil, List.all_nil, List.all_cons, List.any_cons, List.any_nil, List.map_append, List.getElem?_toArray, List.getElem?_cons_zero, List.getElem?_cons_succ, Option.toArray_some, Option.toArray_none, List.contains_cons, List.contains_nil, List.head?_cons, List.drop_zero, List.drop_succ_cons, List.take_succ_cons, List.take_zero, List.set_cons_zero, List.set_cons_succ, List.length_map, List.getElem?_nil, orcG3, c51, gOf_gRows, zf, plainL, plainCell, idxB_has]
  repeat' with_reducible refine And.intro ?_ ?_
  all_goals try (first | omega | rfl | ((with_reducible refine drawGoal ?_); exact rfl) | (simp only [inR]; omega) | (intro y hy; simp only [List.mem_singleton] at hy; subst hy; rfl) | (intro y hy; cases hy; done) | (simp only [List.length_append, List.length_map, List.length_cons, List.length_nil]; omega) | (intro h; simp only [inR]; omega) | (intro h; simp only [List.length_append, List.length_map, List.length_cons, List.length_nil]; omega) | (intro h; exact h.elim))
  refine hK _ ?_
  clear hK K
  refine PWp.ret (hQ2 _ ?_)
  simp only [pwf, List.drop_zero, List.drop_succ_cons, List.take_succ_cons, List.take_zero, List.getElem?_cons_zero, List.getElem?_cons_succ, List.getElem?_nil, Nat.sub_self, reduceIte, reduceCtorEq, Nat.reduceEqDiff, Nat.reduceAdd, Nat.reduceMul, Nat.reduceSub, Nat.reduceLT, Nat.reduceLeDiff, Nat.reduceBEq, if_true, if_false, implies_true, Option.isSome_none, Option.isSome_some, List.nil_append, List.cons_append, List.append_nil, List.map_cons, List.map_nil, List.toList_toArray, Option.getD_some, Option.getD_none, Option.map_some, Option.map_none, Option.bind_some, Option.bind_none, List.length_cons, List.length_nil, Bool.cond_true, Bool.cond_false, Array.toList_append, List.contains_cons, List.contains_nil, zf, plainL, plainCell, Tryz.results31]
  repeat simp only [pwf, List.drop_zero, List.drop_succ_cons, List.take_succ_cons, List.take_zero, List.getElem?_cons_zero, List.getElem?_cons_succ, List.getElem?_nil, Nat.sub_self, reduceIte, reduceCtorEq, Nat.reduceEqDiff, Nat.reduceAdd, Nat.reduceMul, Nat.reduceSub, Nat.reduceLT, Nat.reduceLeDiff, Nat.reduceBEq, if_true, if_false, implies_true, Option.isSome_none, Option.isSome_some, List.nil_append, List.cons_append, List.append_nil, List.map_cons, List.map_nil, List.toList_toArray, Option.getD_some, Option.getD_none, Option.map_some, Option.map_none, Option.bind_some, Option.bind_none, List.length_cons, List.length_nil, Bool.cond_true, Bool.cond_false, Array.toList_append, List.contains_cons, List.contains_nil, zf, plainL, plainCell]
  first | done | rfl | (simp; done) | trace_state
def c31 : St → Option (Prop × St)
  | [(.S 0, .av (.pv (.sl xs1))), (.S 1, .av (.pv (.raw (.func (.func 32) fa fb))))] => some (xs1 = gRows (gOf xs1) ∧ (fa = #[] ∧ fb = #[] ∧ (gOf xs1).length < 100000000), [(.S 0, .av (.pv (.bool ((gOf xs1).any (fun g => !validG g)))))])
  | _ => none
theorem p31 {In Ret : St} {pre : Prop} (h : c31 In = some (pre, Ret)) (hp : pre) : PCalls Tryz.prog 31 In Ret := by
  unfold c31 at h
  split at h
  · rename_i xs1 fa fb
    cases h
    obtain ⟨e1, hp⟩ := hp
    obtain ⟨l1, rfl⟩ : ∃ l, xs1 = gRows l := ⟨_, e1⟩
    simp only [gOf_gRows] at hp ⊢
    exact (by obtain ⟨rfl, rfl, hp⟩ := hp; exact t34b l1 hp)
  · cases h
def c39 : St → Option (Prop × St)
  | [(.S 0, .av (.pv (.sl xs1)))] => some (xs1 = gRows (gOf xs1) ∧ ((gOf xs1).length < 100000000), [(.S 0, .av (.tup [gSet (made (gOf xs1)).1, .pv (.int .i64 (made (gOf xs1)).2)]))])
  | _ => none
theorem p39 {In Ret : St} {pre : Prop} (h : c39 In = some (pre, Ret)) (hp : pre) : PCalls Tryz.prog 39 In Ret := by
  unfold c39 at h
  split at h
  · rename_i xs1
    cases h
    obtain ⟨e1, hp⟩ := hp
    obtain ⟨l1, rfl⟩ : ∃ l, xs1 = gRows l := ⟨_, e1⟩
    simp only [gOf_gRows] at hp ⊢
    exact t25 l1 hp
  · cases h
def orcG4 : Orc := fun f In => if f = 31 then c31 In else if f = 34 then c34 In else if f = 39 then c39 In else none
theorem orcG4_ok : OrcOk Tryz.prog orcG4 := by
  intro f In pre Ret h hp
  unfold orcG4 at h
  split at h
  · subst f; exact p31 h hp
  split at h
  · subst f; exact p34 h hp
  split at h
  · subst f; exact p39 h hp
  cases h
def ofG (l : List G) : List G × Int := if l.any (fun g => !validG g) then ([], 2) else made (insS l)
theorem t26 (l : List G) (hl : l.length < 100000000) : PCalls Tryz.prog 15 [(.S 0, .av (.pv (.sl (gRows l))))] [(.S 0, .av (.tup [gSet (ofG l).1, .pv (.int .i64 (ofG l).2)]))] := by
  refine PCalls.of_k Tryz.func15 (by decide) rfl fun Q hQ1 hQ2 => ?_
  refine PWp.seq_rg [0, 2] orcG4_ok (mv := mv) (by decide) fun K hK => ?_
  simp only [pwr, mv, List.getD_nil, List.drop_nil, List.head?_nil, Int.natCast_zero, Int.reduceLT, Int.reduceSub, Int.reduceNeg, Int.reduceToNat, decide_false, decide_true, gt_iff_lt, Int.lt_irrefl, ne_eq, not_false_eq_true, not_true_eq_false, reduceIte, reduceCtorEq, Nat.reduceEqDiff, Nat.reduceAdd, Nat.reduceMul, Nat.reduceSub, Nat.reduceLT, Nat.reduceLeDiff, Nat.reduceBEq, if_true, if_false, implies_true, Option.isSome_none, Option.isSome_some, List.nil_append, List.cons_append, List.append_nil, List.map_cons, List.map_nil, List.toList_toArray, Option.getD_some, Option.getD_none, Option.map_some, Option.map_none, Option.bind_some, Option.bind_none, List.length_cons, List.length_nil, Bool.cond_true, Bool.cond_false, Array.toList_append, List.filterMap_cons, List.filterMap_nil, List.all_nil, List.all_cons, List.any_cons, List.any_nil, List.map_append, List.getElem?_toArray, List.getElem?_cons_zero, List.getElem?_cons_succ, Option.toArray_some, Option.toArray_none, List.contains_cons, List.contains_nil, List.head?_cons, List.drop_zero, List.drop_succ_cons, List.take_succ_cons, List.take_zero, List.set_cons_zero, List.set_cons_succ, List.length_map, List.getElem?_nil, orcG4, c31, c34, c39, gOf_gRows, zf, plainL, plainCell]
  refine hK _ ?_
  clear hK K
  refine PWp.seq_k fun K1 hK1 => ?_
  refine PWp.seq_rg [0, 2, 6] orcG4_ok (mv := mv) (by decide) fun K hK => ?_
  simp only [pwr, mv, List.getD_nil, List.drop_nil, List.head?_nil, Int.natCast_zero, Int.reduceLT, Int.reduceSub, Int.reduceNeg, Int.reduceToNat, decide_false, decide_true, gt_iff_lt, Int.lt_irrefl, ne_eq, not_false_eq_true, not_true_eq_false, reduceIte, reduceCtorEq, Nat.reduceEqDiff, Nat.reduceAdd, Nat.reduceMul, Nat.reduceSub, Nat.reduceLT, Nat.reduceLeDiff, Nat.reduceBEq, if_true, if_false, implies_true, Option.isSome_none, Option.isSome_some, List.nil_append, List.cons_append, List.append_nil, List.map_cons, List.map_nil, List.toList_toArray, Option.getD_some, Option.getD_none, Option.map_some, Option.map_none, Option.bind_some, Option.bind_none, List.length_cons, List.length_nil, Bool.cond_true, Bool.cond_false, Array.toList_append, List.filterMap_cons, List.filterMap_nil, List.all_nil, List.all_cons, List.any_cons, List.any_nil, List.map_append, List.getElem?_toArray, List.getElem?_cons_zero, List.getElem?_cons_succ, Option.toArray_some, Option.toArray_none, List.contains_cons, List.contains_nil, List.head?_cons, List.drop_zero, List.drop_succ_cons, List.take_succ_cons, List.take_zero, List.set_cons_zero, List.set_cons_succ, List.length_map, List.getElem?_nil, orcG4, c31, c34, c39, gOf_gRows, zf, plainL, plainCell]
  repeat' with_reducible refine And.intro ?_ ?_
  all_goals try (first | omega | rfl | ((with_reducible refine drawGoal ?_); exact rfl) | (simp only [inR]; omega) | (intro y hy; simp only [List.mem_singleton] at hy; subst hy; rfl) | (intro y hy; cases hy; done) | (simp only [List.length_append, List.length_map, List.length_cons, List.length_nil]; omega) | (intro h; simp only [inR]; omega) | (intro h; simp only [List.length_append, List.length_map, List.length_cons, List.length_nil]; omega) | (intro h; exact h.elim))
  refine hK _ ?_
  clear hK K
  refine PWp.cond (by rfl) (fun hb6 => ?_) (fun hb6 => ?_)
  ·
   try (cases hb6; done)
   all_goals
    refine PWp.seq_rg [2, 3] orcG4_ok (mv := mv) (by decide) fun K hK => ?_
    simp only [pwr, mv, List.getD_nil, List.drop_nil, List.head?_nil, Int.natCast_zero, Int.reduceLT, Int.reduceSub, Int.reduceNeg, Int.reduceToNat, decide_false, decide_true, gt_iff_lt, Int.lt_irrefl, ne_eq, not_false_eq_true, not_true_eq_false, reduceIte, reduceCtorEq, Nat.reduceEqDiff, Nat.reduceAdd, Nat.reduceMul, Nat.reduceSub, Nat.reduceLT, Nat.reduceLeDiff, Nat.reduceBEq, if_true, if_false, implies_true, Option.isSome_none, Option.isSome_some, List.nil_append, List.cons_append, List.append_nil, List.map_cons, List.map_nil, List.toList_toArray, Option.getD_some, Option.getD_none, Option.map_some, Option.map_none, Option.bind_some, Option.bind_none, List.length_cons, List.length_nil, Bool.cond_true, Bool.cond_false, Array.toList_append, List.filterMap_cons, List.filterMap_nil, List.all_nil, List.all_cons, List.any_cons, List.any_nil, List.map_append, List.getElem?_toArray, List.getElem?_cons_zero, List.getElem?_cons_succ, Option.toArray_some, Option.toArray_none, List.contains_cons, List.contains_nil, List.head?_cons, List.drop_zero, List.drop_succ_cons, List.take_succ_cons, List.take_zero, List.set_cons_zero, List.set_cons_succ, List.length_map, List.getElem?_nil, orcG4, c31, c34, c39, gOf_gRows, zf, plainL, plainCell]
    refine hK _ ?_
    clear hK K
    refine PWp.ret (hQ2 _ ?_)
    simp only [pwf, List.drop_zero, List.drop_succ_cons, List.take_succ_cons, List.take_zero, List.getElem?_cons_zero, List.getElem?_cons_succ, List.getElem?_nil, Nat.sub_self, reduceIte, reduceCtorEq, Nat.reduceEqDiff, Nat.reduceAdd, Nat.reduceMul, Nat.reduceSub, Nat.reduceLT, Nat.reduceLeDiff, Nat.reduceBEq, if_true, if_false, implies_true, Option.isSome_none, Option.isSome_some, List.nil_append, List.cons_append, List.append_nil, List.map_cons, List.map_nil, List.toList_toArray, Option.getD_some, Option.getD_none, Option.map_some, Option.map_none, Option.bind_some, Option.bind_none, List.length_cons, List.length_nil, Bool.cond_true, Bool.cond_false, Array.toList_append, List.contains_cons, List.contains_nil, zf, plainL, plainCell, Tryz.results15]
    repeat simp only [pwf, List.drop_zero, List.drop_succ_cons, List.take_succ_cons, List.take_zero, List.getElem?_cons_zero, List.getElem?_cons_succ, List.getElem?_nil, Nat.sub_self, reduceIte, reduceCtorEq, Nat.reduceEqDiff, Nat.reduceAdd, Nat.reduceMul, Nat.reduceSub, Nat.reduceLT, Nat.reduceLeDiff, Nat.reduceBEq, if_true, if_false, implies_true, Option.isSome_none, Option.isSome_some, List.nil_append, List.cons_append, List.append_nil, List.map_cons, List.map_nil, List.toList_toArray, Option.getD_some, Option.getD_none, Option.map_some, Option.map_none, Option.bind_some, Option.bind_none, List.length_cons, List.length_nil, Bool.cond_true, Bool.cond_false, Array.toList_append, List.contains_cons, List.contains_nil, zf, plainL, plainCell]
    have e : ofG l = ([], 2) := by unfold ofG; rw [if_pos hb6]
    rw [e]; exact ⟨rfl, rfl⟩
  ·
   try (cases hb6; done)
   all_goals
    refine PWp.skip (hK1 _ ?_)
    refine PWp.seq_rg [2, 4] orcG4_ok (mv := mv) (by decide) fun K hK => ?_
    simp only [pwr, mv, List.getD_nil, List.drop_nil, List.head?_nil, Int.natCast_zero, Int.reduceLT, Int.reduceSub, Int.reduceNeg, Int.reduceToNat, decide_false, decide_true, gt_iff_lt, Int.lt_irrefl, ne_eq, not_false_eq_true, not_true_eq_false, reduceIte, reduceCtorEq, Nat.reduceEqDiff, Nat.reduceAdd, Nat.reduceMul, Nat.reduceSub, Nat.reduceLT, Nat.reduceLeDiff, Nat.reduceBEq, if_true, if_false, implies_true, Option.isSome_none, Option.isSome_some, List.nil_append, List.cons_append, List.append_nil, List.map_cons, List.map_nil, List.toList_toArray, Option.getD_some, Option.getD_none, Option.map_some, Option.map_none, Option.bind_some, Option.bind_none, List.length_cons, List.length_nil, Bool.cond_true, Bool.cond_false, Array.toList_append, List.filterMap_cons, List.filterMap_nil, List.all_nil, List.all_cons, List.any_cons, List.any_nil, List.map_append, List.getElem?_toArray, List.getElem?_cons_zero, List.getElem?_cons_succ, Option.toArray_some, Option.toArray_none, List.contains_cons, List.contains_nil, List.head?_cons, List.drop_zero, List.drop_succ_cons, List.take_succ_cons, List.take_zero, List.set_cons_zero, List.set_cons_succ, List.length_map, List.getElem?_nil, orcG4, c31, c34, c39, gOf_gRows, zf, plainL, plainCell]
    repeat' with_reducible refine And.intro ?_ ?_
    all_goals try (first | omega | rfl | ((with_reducible refine drawGoal ?_); exact rfl) | (simp only [inR]; omega) | (intro y hy; simp only [List.mem_singleton] at hy; subst hy; rfl) | (intro y hy; cases hy; done) | (simp only [List.length_append, List.length_map, List.length_cons, List.length_nil]; omega) | (intro h; simp only [inR]; omega) | (intro h; simp only [List.length_append, List.length_map, List.length_cons, List.length_nil]; omega) | (intro h; exact h.elim))
    refine hK _ ?_
    clear hK K
    refine PWp.seq_row [2, 4] (.RS 4 0) 0 41 (gRows l) (gRows (insS l)) 11 orcG4_ok (mv := mv) (l := [_]) rfl (by decide) fun K hK => ?_
    simp only [pwr, mv, List.getD_nil, List.drop_nil, List.head?_nil, Int.natCast_zero, Int.reduceLT, Int.reduceSub, Int.reduceNeg, Int.reduceToNat, decide_false, decide_true, gt_iff_lt, Int.lt_irrefl, ne_eq, not_false_eq_true, not_true_eq_false, reduceIte, reduceCtorEq, Nat.reduceEqDiff, Nat.reduceAdd, Nat.reduceMul, Nat.reduceSub, Nat.reduceLT, Nat.reduceLeDiff, Nat.reduceBEq, if_true, if_false, implies_true, Option.isSome_none, Option.isSome_some, List.nil_append, List.cons_append, List.append_nil, List.map_cons, List.map_nil, List.toList_toArray, Option.getD_some, Option.getD_none, Option.map_some, Option.map_none, Option.bind_some, Option.bind_none, List.length_cons, List.length_nil, Bool.cond_true, Bool.cond_false, Array.toList_append, List.filterMap_cons, List.filterMap_nil, List.all_nil, List.all_cons, List.any_cons, List.any_nil, List.map_append, List.getElem?_toArray, List.getElem?_cons_zero, List.getElem?_cons_succ, Option.toArray_some, Option.toArray_none, List.contains_cons, List.contains_nil, List.head?_cons, List.drop_zero, List.drop_succ_cons, List.take_succ_cons, List.take_zero, List.set_cons_zero, List.set_cons_succ, List.length_map, List.getElem?_nil, orcG4, c31, c34, c39, gOf_gRows, zf, plainL, plainCell]
    refine ⟨⟨⟨_, _, _, _, _, rfl, rfl, rfl, ?_, rfl, rfl, sort_row l (by omega)⟩⟩, ?_⟩
    · (repeat' constructor) <;> simp
    refine hK _ ?_
    clear hK K
    refine PWp.seq_rg [2, 3] orcG4_ok (mv := mv) (by decide) fun K hK => ?_
    simp only [pwr, mv, List.getD_nil, List.drop_nil, List.head?_nil, Int.natCast_zero, Int.reduceLT, Int.reduceSub, Int.reduceNeg, Int.reduceToNat, decide_false, decide_true, gt_iff_lt, Int.lt_irrefl, ne_eq, not_false_eq_true, not_true_eq_false, reduceIte, reduceCtorEq, Nat.reduceEqDiff, Nat.reduceAdd, Nat.reduceMul, Nat.reduceSub, Nat.reduceLT, Nat.reduceLeDiff, Nat.reduceBEq, if_true, if_false, implies_true, Option.isSome_none, Option.isSome_some, List.nil_append, List.cons_append, List.append_nil, List.map_cons, List.map_nil, List.toList_toArray, Option.getD_some, Option.getD_none, Option.map_some, Option.map_none, Option.bind_some, Option.bind_none, List.length_cons, List.length_nil, Bool.cond_true, Bool.cond_false, Array.toList_append, List.filterMap_cons, List.filterMap_nil, List.all_nil, List.all_cons, List.any_cons, List.any_nil, List.map_append, List.getElem?_toArray, List.getElem?_cons_zero, List.getElem?_cons_succ, Option.toArray_some, Option.toArray_none, List.contains_cons, List.contains_nil, List.head?_cons, List.drop_zero, List.drop_succ_cons, List.take_succ_cons, List.take_zero, List.set_cons_zero, List.set_cons_succ, List.length_map, List.getElem?_nil, orcG4, c31, c34, c39, gOf_gRows, zf, plainL, plainCell]
    repeat' with_reducible refine And.intro ?_ ?_
    all_goals try ((rw [insS_length]; exact hl))
    all_goals try (first | omega | rfl | ((with_reducible refine drawGoal ?_); exact rfl) | (simp only [inR]; omega) | (intro y hy; simp only [List.mem_singleton] at hy; subst hy; rfl) | (intro y hy; cases hy; done) | (simp only [List.length_append, List.length_map, List.length_cons, List.length_nil]; omega) | (intro h; simp only [inR]; omega) | (intro h; simp only [List.length_append, List.length_map, List.length_cons, List.length_nil]; omega) | (intro h; exact h.elim))
    refine hK _ ?_
    clear hK K
    refine PWp.ret (hQ2 _ ?_)
    simp only [pwf, List.drop_zero, List.drop_succ_cons, List.take_succ_cons, List.take_zero, List.getElem?_cons_zero, List.getElem?_cons_succ, List.getElem?_nil, Nat.sub_self, reduceIte, reduceCtorEq, Nat.reduceEqDiff, Nat.reduceAdd, Nat.reduceMul, Nat.reduceSub, Nat.reduceLT, Nat.reduceLeDiff, Nat.reduceBEq, if_true, if_false, implies_true, Option.isSome_none, Option.isSome_some, List.nil_append, List.cons_append, List.append_nil, List.map_cons, List.map_nil, List.toList_toArray, Option.getD_some, Option.getD_none, Option.map_some, Option.map_none, Option.bind_some, Option.bind_none, List.length_cons, List.length_nil, Bool.cond_true, Bool.cond_false, Array.toList_append, List.contains_cons, List.contains_nil, zf, plainL, plainCell, Tryz.results15]
    repeat simp only [pwf, List.drop_zero, List.drop_succ_cons, List.take_succ_cons, List.take_zero, List.getElem?_cons_zero, List.getElem?_cons_succ, List.getElem?_nil, Nat.sub_self, reduceIte, reduceCtorEq, Nat.reduceEqDiff, Nat.reduceAdd, Nat.reduceMul, Nat.reduceSub, Nat.reduceLT, Nat.reduceLeDiff, Nat.reduceBEq, if_true, if_false, implies_true, Option.isSome_none, Option.isSome_some, List.nil_append, List.cons_append, List.append_nil, List.map_cons, List.map_nil, List.toList_toArray, Option.getD_some, Option.getD_none, Option.map_some, Option.map_none, Option.bind_some, Option.bind_none, List.length_cons, List.length_nil, Bool.cond_true, Bool.cond_false, Array.toList_append, List.contains_cons, List.contains_nil, zf, plainL, plainCell]
    have e : ofG l = made (insS l) := by unfold ofG; rw [if_neg (by simp [hb6])]
    rw [e]; exact ⟨rfl, rfl⟩
theorem cut_at {α : Type} {p : α → Bool} : ∀ {s : List α} {j : Nat}, (∀ g ∈ s.take j, p g = true) → (s.length ≤ j ∨ ∃ h : j < s.length, p s[j] = false) → s.takeWhile p = s.take j ∧ s.dropWhile p = s.drop j
  | [], j, _, _ => by simp
  | a :: s, 0, _, h => by
    rcases h with h | ⟨h, k⟩
    · simp at h
    · have : p a = false := by simpa using k
      simp [List.takeWhile_cons, List.dropWhile_cons, this]
  | a :: s, j + 1, h1, h2 => by
    have ha : p a = true := h1 a (by simp)
    obtain ⟨q1, q2⟩ := cut_at (s := s) (j := j) (fun g hg => h1 g (by simp [hg])) (by
      rcases h2 with h | ⟨h, k⟩
      · left; simp at h; exact h
      · right; exact ⟨by simpa using h, by simpa using k⟩)
    simp [List.takeWhile_cons, List.dropWhile_cons, ha, q1, q2]
end Go.Pw.G7
