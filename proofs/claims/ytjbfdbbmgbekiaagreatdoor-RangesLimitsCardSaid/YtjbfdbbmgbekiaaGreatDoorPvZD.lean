/- Ranges: how two of them are compared. -/
import Derived.Test.YtjbfdbbmgbekiaaGreatDoorPvZA
set_option linter.unusedSimpArgs false
set_option linter.unusedVariables false
set_option linter.unusedSectionVars false
set_option maxHeartbeats 4000000
set_option maxRecDepth 20000
namespace Go.Pw
variable [Mode]
open Go.Proofs
theorem t58 (n : Int) : PCalls Tryz.prog 54 [(.S 0, .av (.pv (.int .i64 n)))] [(.S 0, .av (.pv (.bool false)))] := by
  refine PCalls.of_k Tryz.func54 (by decide) rfl fun Q hQ1 hQ2 => ?_
  refine PWp.seq_rg [0] orc0_ok (mv := mv) (by decide) fun K hK => ?_
  simp only [pwr, mv, List.getD_nil, List.drop_nil, List.head?_nil, Int.natCast_zero, Int.reduceLT, Int.reduceSub, Int.reduceNeg, Int.reduceToNat, decide_false, decide_true, gt_iff_lt, Int.lt_irrefl, ne_eq, not_false_eq_true, not_true_eq_false, reduceIte, reduceCtorEq, Nat.reduceEqDiff, Nat.reduceAdd, Nat.reduceMul, Nat.reduceSub, Nat.reduceLT, Nat.reduceLeDiff, Nat.reduceBEq, if_true, if_false, implies_true, Option.isSome_none, Option.isSome_some, List.nil_append, List.cons_append, List.append_nil, List.map_cons, List.map_nil, List.toList_toArray, Option.getD_some, Option.getD_none, Option.map_some, Option.map_none, Option.bind_some, Option.bind_none, List.length_cons, List.length_nil, Bool.cond_true, Bool.cond_false, Array.toList_append, List.filterMap_cons, List.filterMap_nil, List.all_nil, List.all_cons, List.any_cons, List.any_nil, List.map_append, List.getElem?_toArray, List.getElem?_cons_zero, List.getElem?_cons_succ, Option.toArray_some, Option.toArray_none, List.contains_cons, List.contains_nil, List.head?_cons, List.drop_zero, List.drop_succ_cons, List.take_succ_cons, List.take_zero, List.set_cons_zero, List.set_cons_succ, List.length_map, List.getElem?_nil, orc0, bne_self_eq_false, zf, plainL, plainCell]
  refine hK _ ?_
  clear hK K
  refine PWp.seq_rg [2] orc0_ok (mv := mv) (by decide) fun K hK => ?_
  simp only [pwr, mv, List.getD_nil, List.drop_nil, List.head?_nil, Int.natCast_zero, Int.reduceLT, Int.reduceSub, Int.reduceNeg, Int.reduceToNat, decide_false, decide_true, gt_iff_lt, Int.lt_irrefl, ne_eq, not_false_eq_true, not_true_eq_false, reduceIte, reduceCtorEq, Nat.reduceEqDiff, Nat.reduceAdd, Nat.reduceMul, Nat.reduceSub, Nat.reduceLT, Nat.reduceLeDiff, Nat.reduceBEq, if_true, if_false, implies_true, Option.isSome_none, Option.isSome_some, List.nil_append, List.cons_append, List.append_nil, List.map_cons, List.map_nil, List.toList_toArray, Option.getD_some, Option.getD_none, Option.map_some, Option.map_none, Option.bind_some, Option.bind_none, List.length_cons, List.length_nil, Bool.cond_true, Bool.cond_false, Array.toList_append, List.filterMap_cons, List.filterMap_nil, List.all_nil, List.all_cons, List.any_cons, List.any_nil, List.map_append, List.getElem?_toArray, List.getElem?_cons_zero, List.getElem?_cons_succ, Option.toArray_some, Option.toArray_none, List.contains_cons, List.contains_nil, List.head?_cons, List.drop_zero, List.drop_succ_cons, List.take_succ_cons, List.take_zero, List.set_cons_zero, List.set_cons_succ, List.length_map, List.getElem?_nil, orc0, bne_self_eq_false, zf, plainL, plainCell]
  refine hK _ ?_
  clear hK K
  refine PWp.ret (hQ2 _ ?_)
  simp only [pwf, List.drop_zero, List.drop_succ_cons, List.take_succ_cons, List.take_zero, List.getElem?_cons_zero, List.getElem?_cons_succ, List.getElem?_nil, Nat.sub_self, reduceIte, reduceCtorEq, Nat.reduceEqDiff, Nat.reduceAdd, Nat.reduceMul, Nat.reduceSub, Nat.reduceLT, Nat.reduceLeDiff, Nat.reduceBEq, if_true, if_false, implies_true, Option.isSome_none, Option.isSome_some, List.nil_append, List.cons_append, List.append_nil, List.map_cons, List.map_nil, List.toList_toArray, Option.getD_some, Option.getD_none, Option.map_some, Option.map_none, Option.bind_some, Option.bind_none, List.length_cons, List.length_nil, Bool.cond_true, Bool.cond_false, Array.toList_append, List.contains_cons, List.contains_nil, zf, plainL, plainCell, Tryz.results54]
  repeat simp only [pwf, List.drop_zero, List.drop_succ_cons, List.take_succ_cons, List.take_zero, List.getElem?_cons_zero, List.getElem?_cons_succ, List.getElem?_nil, Nat.sub_self, reduceIte, reduceCtorEq, Nat.reduceEqDiff, Nat.reduceAdd, Nat.reduceMul, Nat.reduceSub, Nat.reduceLT, Nat.reduceLeDiff, Nat.reduceBEq, if_true, if_false, implies_true, Option.isSome_none, Option.isSome_some, List.nil_append, List.cons_append, List.append_nil, List.map_cons, List.map_nil, List.toList_toArray, Option.getD_some, Option.getD_none, Option.map_some, Option.map_none, Option.bind_some, Option.bind_none, List.length_cons, List.length_nil, Bool.cond_true, Bool.cond_false, Array.toList_append, List.contains_cons, List.contains_nil, zf, plainL, plainCell]
  first | done | rfl | (simp; done) | trace_state
def c54 : St → Option (Prop × St)
  | [(.S 0, .av (.pv (.int .i64 n)))] => some (True, [(.S 0, .av (.pv (.bool false)))])
  | _ => none
theorem p54 {In Ret : St} {pre : Prop} (h : c54 In = some (pre, Ret)) (hp : pre) : PCalls Tryz.prog 54 In Ret := by
  unfold c54 at h
  split at h
  · cases h
    exact t58 _
  · cases h
def orcD1 : Orc := fun f In => if f = 54 then c54 In else none
theorem orcD1_ok : OrcOk Tryz.prog orcD1 := by
  intro f In pre Ret h hp
  unfold orcD1 at h
  split at h
  · subst f; exact p54 h hp
  cases h
def cmpI (a b : Int) : Int := if a < b then -1 else if b < a then 1 else 0
theorem t49 (a b : Int) : PCalls Tryz.prog 38 [(.S 0, .av (.pv (.int .i64 a))), (.S 1, .av (.pv (.int .i64 b)))] [(.S 0, .av (.pv (.int .i64 (cmpI a b))))] := by
  refine PCalls.of_k Tryz.func38 (by decide) rfl fun Q hQ1 hQ2 => ?_
  refine PWp.seq_rg [0, 1] orcD1_ok (mv := mv) (by decide) fun K hK => ?_
  simp only [pwr, mv, List.getD_nil, List.drop_nil, List.head?_nil, Int.natCast_zero, Int.reduceLT, Int.reduceSub, Int.reduceNeg, Int.reduceToNat, decide_false, decide_true, gt_iff_lt, Int.lt_irrefl, ne_eq, not_false_eq_true, not_true_eq_false, reduceIte, reduceCtorEq, Nat.reduceEqDiff, Nat.reduceAdd, Nat.reduceMul, Nat.reduceSub, Nat.reduceLT, Nat.reduceLeDiff, Nat.reduceBEq, if_true, if_false, implies_true, Option.isSome_none, Option.isSome_some, List.nil_append, List.cons_append, List.append_nil, List.map_cons, List.map_nil, List.toList_toArray, Option.getD_some, Option.getD_none, Option.map_some, Option.map_none, Option.bind_some, Option.bind_none, List.length_cons, List.length_nil, Bool.cond_true, Bool.cond_false, Array.toList_append, List.filterMap_cons, List.filterMap_nil, List.all_nil, List.all_cons, List.any_cons, List.any_nil, List.map_append, List.getElem?_toArray, List.getElem?_cons_zero, List.getElem?_cons_succ, Option.toArray_some, Option.toArray_none, List.contains_cons, List.contains_nil, List.head?_cons, List.drop_zero, List.drop_succ_cons, List.take_succ_cons, List.take_zero, List.set_cons_zero, List.set_cons_succ, List.length_map, List.getElem?_nil, orcD1, c54, zf, plainL, plainCell]
  refine hK _ ?_
  clear hK K
  refine PWp.seq_rg [0, 1, 5] orcD1_ok (mv := mv) (by decide) fun K hK => ?_
  simp only [pwr, mv, List.getD_nil, List.drop_nil, List.head?_nil, Int.natCast_zero, Int.reduceLT, Int.reduceSub, Int.reduceNeg, Int.reduceToNat, decide_false, decide_true, gt_iff_lt, Int.lt_irrefl, ne_eq, not_false_eq_true, not_true_eq_false, reduceIte, reduceCtorEq, Nat.reduceEqDiff, Nat.reduceAdd, Nat.reduceMul, Nat.reduceSub, Nat.reduceLT, Nat.reduceLeDiff, Nat.reduceBEq, if_true, if_false, implies_true, Option.isSome_none, Option.isSome_some, List.nil_append, List.cons_append, List.append_nil, List.map_cons, List.map_nil, List.toList_toArray, Option.getD_some, Option.getD_none, Option.map_some, Option.map_none, Option.bind_some, Option.bind_none, List.length_cons, List.length_nil, Bool.cond_true, Bool.cond_false, Array.toList_append, List.filterMap_cons, List.filterMap_nil, List.all_nil, List.all_cons, List.any_cons, List.any_nil, List.map_append, List.getElem?_toArray, List.getElem?_cons_zero, List.getElem?_cons_succ, Option.toArray_some, Option.toArray_none, List.contains_cons, List.contains_nil, List.head?_cons, List.drop_zero, List.drop_succ_cons, List.take_succ_cons, List.take_zero, List.set_cons_zero, List.set_cons_succ, List.length_map, List.getElem?_nil, orcD1, c54, zf, plainL, plainCell]
  refine hK _ ?_
  clear hK K
  refine PWp.seq_rg [0, 1, 5, 6] orcD1_ok (mv := mv) (by decide) fun K hK => ?_
  simp only [pwr, mv, List.getD_nil, List.drop_nil, List.head?_nil, Int.natCast_zero, Int.reduceLT, Int.reduceSub, Int.reduceNeg, Int.reduceToNat, decide_false, decide_true, gt_iff_lt, Int.lt_irrefl, ne_eq, not_false_eq_true, not_true_eq_false, reduceIte, reduceCtorEq, Nat.reduceEqDiff, Nat.reduceAdd, Nat.reduceMul, Nat.reduceSub, Nat.reduceLT, Nat.reduceLeDiff, Nat.reduceBEq, if_true, if_false, implies_true, Option.isSome_none, Option.isSome_some, List.nil_append, List.cons_append, List.append_nil, List.map_cons, List.map_nil, List.toList_toArray, Option.getD_some, Option.getD_none, Option.map_some, Option.map_none, Option.bind_some, Option.bind_none, List.length_cons, List.length_nil, Bool.cond_true, Bool.cond_false, Array.toList_append, List.filterMap_cons, List.filterMap_nil, List.all_nil, List.all_cons, List.any_cons, List.any_nil, List.map_append, List.getElem?_toArray, List.getElem?_cons_zero, List.getElem?_cons_succ, Option.toArray_some, Option.toArray_none, List.contains_cons, List.contains_nil, List.head?_cons, List.drop_zero, List.drop_succ_cons, List.take_succ_cons, List.take_zero, List.set_cons_zero, List.set_cons_succ, List.length_map, List.getElem?_nil, orcD1, c54, zf, plainL, plainCell]
  refine hK _ ?_
  clear hK K
  refine PWp.seq_k fun K1 hK1 => ?_
  refine PWp.seq_rg [0, 1, 6, 11] orcD1_ok (mv := mv) (by decide) fun K hK => ?_
  simp only [pwr, mv, List.getD_nil, List.drop_nil, List.head?_nil, Int.natCast_zero, Int.reduceLT, Int.reduceSub, Int.reduceNeg, Int.reduceToNat, decide_false, decide_true, gt_iff_lt, Int.lt_irrefl, ne_eq, not_false_eq_true, not_true_eq_false, reduceIte, reduceCtorEq, Nat.reduceEqDiff, Nat.reduceAdd, Nat.reduceMul, Nat.reduceSub, Nat.reduceLT, Nat.reduceLeDiff, Nat.reduceBEq, if_true, if_false, implies_true, Option.isSome_none, Option.isSome_some, List.nil_append, List.cons_append, List.append_nil, List.map_cons, List.map_nil, List.toList_toArray, Option.getD_some, Option.getD_none, Option.map_some, Option.map_none, Option.bind_some, Option.bind_none, List.length_cons, List.length_nil, Bool.cond_true, Bool.cond_false, Array.toList_append, List.filterMap_cons, List.filterMap_nil, List.all_nil, List.all_cons, List.any_cons, List.any_nil, List.map_append, List.getElem?_toArray, List.getElem?_cons_zero, List.getElem?_cons_succ, Option.toArray_some, Option.toArray_none, List.contains_cons, List.contains_nil, List.head?_cons, List.drop_zero, List.drop_succ_cons, List.take_succ_cons, List.take_zero, List.set_cons_zero, List.set_cons_succ, List.length_map, List.getElem?_nil, orcD1, c54, zf, plainL, plainCell]
  refine hK _ ?_
  clear hK K
  refine PWp.cond (by rfl) (fun hb11 => ?_) (fun hb11 => ?_)
  ·
   cases hb11
  ·
   try (cases hb11; done)
   all_goals
    refine PWp.skip (hK1 _ ?_)
    refine PWp.seq_k fun K3 hK3 => ?_
    refine PWp.seq_rg [0, 1, 13] orcD1_ok (mv := mv) (by decide) fun K hK => ?_
    simp only [pwr, mv, List.getD_nil, List.drop_nil, List.head?_nil, Int.natCast_zero, Int.reduceLT, Int.reduceSub, Int.reduceNeg, Int.reduceToNat, decide_false, decide_true, gt_iff_lt, Int.lt_irrefl, ne_eq, not_false_eq_true, not_true_eq_false, reduceIte, reduceCtorEq, Nat.reduceEqDiff, Nat.reduceAdd, Nat.reduceMul, Nat.reduceSub, Nat.reduceLT, Nat.reduceLeDiff, Nat.reduceBEq, if_true, if_false, implies_true, Option.isSome_none, Option.isSome_some, List.nil_append, List.cons_append, List.append_nil, List.map_cons, List.map_nil, List.toList_toArray, Option.getD_some, Option.getD_none, Option.map_some, Option.map_none, Option.bind_some, Option.bind_none, List.length_cons, List.length_nil, Bool.cond_true, Bool.cond_false, Array.toList_append, List.filterMap_cons, List.filterMap_nil, List.all_nil, List.all_cons, List.any_cons, List.any_nil, List.map_append, List.getElem?_toArray, List.getElem?_cons_zero, List.getElem?_cons_succ, Option.toArray_some, Option.toArray_none, List.contains_cons, List.contains_nil, List.head?_cons, List.drop_zero, List.drop_succ_cons, List.take_succ_cons, List.take_zero, List.set_cons_zero, List.set_cons_succ, List.length_map, List.getElem?_nil, orcD1, c54, zf, plainL, plainCell]
    refine hK _ ?_
    clear hK K
    refine PWp.cond (by rfl) (fun hb13 => ?_) (fun hb13 => ?_)
    ·
     cases hb13
    ·
     try (cases hb13; done)
     all_goals
      refine PWp.skip (hK3 _ ?_)
      refine PWp.seq_k fun K4 hK4 => ?_
      refine PWp.seq_rg [0, 1, 16] orcD1_ok (mv := mv) (by decide) fun K hK => ?_
      simp only [pwr, mv, List.getD_nil, List.drop_nil, List.head?_nil, Int.natCast_zero, Int.reduceLT, Int.reduceSub, Int.reduceNeg, Int.reduceToNat, decide_false, decide_true, gt_iff_lt, Int.lt_irrefl, ne_eq, not_false_eq_true, not_true_eq_false, reduceIte, reduceCtorEq, Nat.reduceEqDiff, Nat.reduceAdd, Nat.reduceMul, Nat.reduceSub, Nat.reduceLT, Nat.reduceLeDiff, Nat.reduceBEq, if_true, if_false, implies_true, Option.isSome_none, Option.isSome_some, List.nil_append, List.cons_append, List.append_nil, List.map_cons, List.map_nil, List.toList_toArray, Option.getD_some, Option.getD_none, Option.map_some, Option.map_none, Option.bind_some, Option.bind_none, List.length_cons, List.length_nil, Bool.cond_true, Bool.cond_false, Array.toList_append, List.filterMap_cons, List.filterMap_nil, List.all_nil, List.all_cons, List.any_cons, List.any_nil, List.map_append, List.getElem?_toArray, List.getElem?_cons_zero, List.getElem?_cons_succ, Option.toArray_some, Option.toArray_none, List.contains_cons, List.contains_nil, List.head?_cons, List.drop_zero, List.drop_succ_cons, List.take_succ_cons, List.take_zero, List.set_cons_zero, List.set_cons_succ, List.length_map, List.getElem?_nil, orcD1, c54, zf, plainL, plainCell]
      refine hK _ ?_
      clear hK K
      refine PWp.cond (by rfl) (fun hb16 => ?_) (fun hb16 => ?_)
      ·
       try (cases hb16; done)
       all_goals
        refine PWp.seq_rg [4] orcD1_ok (mv := mv) (by decide) fun K hK => ?_
        simp only [pwr, mv, List.getD_nil, List.drop_nil, List.head?_nil, Int.natCast_zero, Int.reduceLT, Int.reduceSub, Int.reduceNeg, Int.reduceToNat, decide_false, decide_true, gt_iff_lt, Int.lt_irrefl, ne_eq, not_false_eq_true, not_true_eq_false, reduceIte, reduceCtorEq, Nat.reduceEqDiff, Nat.reduceAdd, Nat.reduceMul, Nat.reduceSub, Nat.reduceLT, Nat.reduceLeDiff, Nat.reduceBEq, if_true, if_false, implies_true, Option.isSome_none, Option.isSome_some, List.nil_append, List.cons_append, List.append_nil, List.map_cons, List.map_nil, List.toList_toArray, Option.getD_some, Option.getD_none, Option.map_some, Option.map_none, Option.bind_some, Option.bind_none, List.length_cons, List.length_nil, Bool.cond_true, Bool.cond_false, Array.toList_append, List.filterMap_cons, List.filterMap_nil, List.all_nil, List.all_cons, List.any_cons, List.any_nil, List.map_append, List.getElem?_toArray, List.getElem?_cons_zero, List.getElem?_cons_succ, Option.toArray_some, Option.toArray_none, List.contains_cons, List.contains_nil, List.head?_cons, List.drop_zero, List.drop_succ_cons, List.take_succ_cons, List.take_zero, List.set_cons_zero, List.set_cons_succ, List.length_map, List.getElem?_nil, orcD1, c54, zf, plainL, plainCell]
        refine hK _ ?_
        clear hK K
        refine PWp.ret (hQ2 _ ?_)
        simp only [pwf, List.drop_zero, List.drop_succ_cons, List.take_succ_cons, List.take_zero, List.getElem?_cons_zero, List.getElem?_cons_succ, List.getElem?_nil, Nat.sub_self, reduceIte, reduceCtorEq, Nat.reduceEqDiff, Nat.reduceAdd, Nat.reduceMul, Nat.reduceSub, Nat.reduceLT, Nat.reduceLeDiff, Nat.reduceBEq, if_true, if_false, implies_true, Option.isSome_none, Option.isSome_some, List.nil_append, List.cons_append, List.append_nil, List.map_cons, List.map_nil, List.toList_toArray, Option.getD_some, Option.getD_none, Option.map_some, Option.map_none, Option.bind_some, Option.bind_none, List.length_cons, List.length_nil, Bool.cond_true, Bool.cond_false, Array.toList_append, List.contains_cons, List.contains_nil, zf, plainL, plainCell, Tryz.results38]
        repeat simp only [pwf, List.drop_zero, List.drop_succ_cons, List.take_succ_cons, List.take_zero, List.getElem?_cons_zero, List.getElem?_cons_succ, List.getElem?_nil, Nat.sub_self, reduceIte, reduceCtorEq, Nat.reduceEqDiff, Nat.reduceAdd, Nat.reduceMul, Nat.reduceSub, Nat.reduceLT, Nat.reduceLeDiff, Nat.reduceBEq, if_true, if_false, implies_true, Option.isSome_none, Option.isSome_some, List.nil_append, List.cons_append, List.append_nil, List.map_cons, List.map_nil, List.toList_toArray, Option.getD_some, Option.getD_none, Option.map_some, Option.map_none, Option.bind_some, Option.bind_none, List.length_cons, List.length_nil, Bool.cond_true, Bool.cond_false, Array.toList_append, List.contains_cons, List.contains_nil, zf, plainL, plainCell]
        simp only [decide_eq_true_eq, decide_eq_false_iff_not] at *
        simp only [cmpI]
        (repeat' split) <;> first | rfl | omega
      ·
       try (cases hb16; done)
       all_goals
        refine PWp.skip (hK4 _ ?_)
        refine PWp.seq_k fun K5 hK5 => ?_
        refine PWp.seq_rg [19] orcD1_ok (mv := mv) (by decide) fun K hK => ?_
        simp only [pwr, mv, List.getD_nil, List.drop_nil, List.head?_nil, Int.natCast_zero, Int.reduceLT, Int.reduceSub, Int.reduceNeg, Int.reduceToNat, decide_false, decide_true, gt_iff_lt, Int.lt_irrefl, ne_eq, not_false_eq_true, not_true_eq_false, reduceIte, reduceCtorEq, Nat.reduceEqDiff, Nat.reduceAdd, Nat.reduceMul, Nat.reduceSub, Nat.reduceLT, Nat.reduceLeDiff, Nat.reduceBEq, if_true, if_false, implies_true, Option.isSome_none, Option.isSome_some, List.nil_append, List.cons_append, List.append_nil, List.map_cons, List.map_nil, List.toList_toArray, Option.getD_some, Option.getD_none, Option.map_some, Option.map_none, Option.bind_some, Option.bind_none, List.length_cons, List.length_nil, Bool.cond_true, Bool.cond_false, Array.toList_append, List.filterMap_cons, List.filterMap_nil, List.all_nil, List.all_cons, List.any_cons, List.any_nil, List.map_append, List.getElem?_toArray, List.getElem?_cons_zero, List.getElem?_cons_succ, Option.toArray_some, Option.toArray_none, List.contains_cons, List.contains_nil, List.head?_cons, List.drop_zero, List.drop_succ_cons, List.take_succ_cons, List.take_zero, List.set_cons_zero, List.set_cons_succ, List.length_map, List.getElem?_nil, orcD1, c54, zf, plainL, plainCell]
        refine hK _ ?_
        clear hK K
        refine PWp.cond (by rfl) (fun hb19 => ?_) (fun hb19 => ?_)
        ·
         try (cases hb19; done)
         all_goals
          refine PWp.seq_rg [4] orcD1_ok (mv := mv) (by decide) fun K hK => ?_
          simp only [pwr, mv, List.getD_nil, List.drop_nil, List.head?_nil, Int.natCast_zero, Int.reduceLT, Int.reduceSub, Int.reduceNeg, Int.reduceToNat, decide_false, decide_true, gt_iff_lt, Int.lt_irrefl, ne_eq, not_false_eq_true, not_true_eq_false, reduceIte, reduceCtorEq, Nat.reduceEqDiff, Nat.reduceAdd, Nat.reduceMul, Nat.reduceSub, Nat.reduceLT, Nat.reduceLeDiff, Nat.reduceBEq, if_true, if_false, implies_true, Option.isSome_none, Option.isSome_some, List.nil_append, List.cons_append, List.append_nil, List.map_cons, List.map_nil, List.toList_toArray, Option.getD_some, Option.getD_none, Option.map_some, Option.map_none, Option.bind_some, Option.bind_none, List.length_cons, List.length_nil, Bool.cond_true, Bool.cond_false, Array.toList_append, List.filterMap_cons, List.filterMap_nil, List.all_nil, List.all_cons, List.any_cons, List.any_nil, List.map_append, List.getElem?_toArray, List.getElem?_cons_zero, List.getElem?_cons_succ, Option.toArray_some, Option.toArray_none, List.contains_cons, List.contains_nil, List.head?_cons, List.drop_zero, List.drop_succ_cons, List.take_succ_cons, List.take_zero, List.set_cons_zero, List.set_cons_succ, List.length_map, List.getElem?_nil, orcD1, c54, zf, plainL, plainCell]
          refine hK _ ?_
          clear hK K
          refine PWp.ret (hQ2 _ ?_)
          simp only [pwf, List.drop_zero, List.drop_succ_cons, List.take_succ_cons, List.take_zero, List.getElem?_cons_zero, List.getElem?_cons_succ, List.getElem?_nil, Nat.sub_self, reduceIte, reduceCtorEq, Nat.reduceEqDiff, Nat.reduceAdd, Nat.reduceMul, Nat.reduceSub, Nat.reduceLT, Nat.reduceLeDiff, Nat.reduceBEq, if_true, if_false, implies_true, Option.isSome_none, Option.isSome_some, List.nil_append, List.cons_append, List.append_nil, List.map_cons, List.map_nil, List.toList_toArray, Option.getD_some, Option.getD_none, Option.map_some, Option.map_none, Option.bind_some, Option.bind_none, List.length_cons, List.length_nil, Bool.cond_true, Bool.cond_false, Array.toList_append, List.contains_cons, List.contains_nil, zf, plainL, plainCell, Tryz.results38]
          repeat simp only [pwf, List.drop_zero, List.drop_succ_cons, List.take_succ_cons, List.take_zero, List.getElem?_cons_zero, List.getElem?_cons_succ, List.getElem?_nil, Nat.sub_self, reduceIte, reduceCtorEq, Nat.reduceEqDiff, Nat.reduceAdd, Nat.reduceMul, Nat.reduceSub, Nat.reduceLT, Nat.reduceLeDiff, Nat.reduceBEq, if_true, if_false, implies_true, Option.isSome_none, Option.isSome_some, List.nil_append, List.cons_append, List.append_nil, List.map_cons, List.map_nil, List.toList_toArray, Option.getD_some, Option.getD_none, Option.map_some, Option.map_none, Option.bind_some, Option.bind_none, List.length_cons, List.length_nil, Bool.cond_true, Bool.cond_false, Array.toList_append, List.contains_cons, List.contains_nil, zf, plainL, plainCell]
          simp only [decide_eq_true_eq, decide_eq_false_iff_not] at *
          simp only [cmpI]
          (repeat' split) <;> first | rfl | omega
        ·
         try (cases hb19; done)
         all_goals
          refine PWp.skip (hK5 _ ?_)
          refine PWp.seq_rg [4] orcD1_ok (mv := mv) (by decide) fun K hK => ?_
          simp only [pwr, mv, List.getD_nil, List.drop_nil, List.head?_nil, Int.natCast_zero, Int.reduceLT, Int.reduceSub, Int.reduceNeg, Int.reduceToNat, decide_false, decide_true, gt_iff_lt, Int.lt_irrefl, ne_eq, not_false_eq_true, not_true_eq_false, reduceIte, reduceCtorEq, Nat.reduceEqDiff, Nat.reduceAdd, Nat.reduceMul, Nat.reduceSub, Nat.reduceLT, Nat.reduceLeDiff, Nat.reduceBEq, if_true, if_false, implies_true, Option.isSome_none, Option.isSome_some, List.nil_append, List.cons_append, List.append_nil, List.map_cons, List.map_nil, List.toList_toArray, Option.getD_some, Option.getD_none, Option.map_some, Option.map_none, Option.bind_some, Option.bind_none, List.length_cons, List.length_nil, Bool.cond_true, Bool.cond_false, Array.toList_append, List.filterMap_cons, List.filterMap_nil, List.all_nil, List.all_cons, List.any_cons, List.any_nil, List.map_append, List.getElem?_toArray, List.getElem?_cons_zero, List.getElem?_cons_succ, Option.toArray_some, Option.toArray_none, List.contains_cons, List.contains_nil, List.head?_cons, List.drop_zero, List.drop_succ_cons, List.take_succ_cons, List.take_zero, List.set_cons_zero, List.set_cons_succ, List.length_map, List.getElem?_nil, orcD1, c54, zf, plainL, plainCell]
          refine hK _ ?_
          clear hK K
          refine PWp.ret (hQ2 _ ?_)
          simp only [pwf, List.drop_zero, List.drop_succ_cons, List.take_succ_cons, List.take_zero, List.getElem?_cons_zero, List.getElem?_cons_succ, List.getElem?_nil, Nat.sub_self, reduceIte, reduceCtorEq, Nat.reduceEqDiff, Nat.reduceAdd, Nat.reduceMul, Nat.reduceSub, Nat.reduceLT, Nat.reduceLeDiff, Nat.reduceBEq, if_true, if_false, implies_true, Option.isSome_none, Option.isSome_some, List.nil_append, List.cons_append, List.append_nil, List.map_cons, List.map_nil, List.toList_toArray, Option.getD_some, Option.getD_none, Option.map_some, Option.map_none, Option.bind_some, Option.bind_none, List.length_cons, List.length_nil, Bool.cond_true, Bool.cond_false, Array.toList_append, List.contains_cons, List.contains_nil, zf, plainL, plainCell, Tryz.results38]
          repeat simp only [pwf, List.drop_zero, List.drop_succ_cons, List.take_succ_cons, List.take_zero, List.getElem?_cons_zero, List.getElem?_cons_succ, List.getElem?_nil, Nat.sub_self, reduceIte, reduceCtorEq, Nat.reduceEqDiff, Nat.reduceAdd, Nat.reduceMul, Nat.reduceSub, Nat.reduceLT, Nat.reduceLeDiff, Nat.reduceBEq, if_true, if_false, implies_true, Option.isSome_none, Option.isSome_some, List.nil_append, List.cons_append, List.append_nil, List.map_cons, List.map_nil, List.toList_toArray, Option.getD_some, Option.getD_none, Option.map_some, Option.map_none, Option.bind_some, Option.bind_none, List.length_cons, List.length_nil, Bool.cond_true, Bool.cond_false, Array.toList_append, List.contains_cons, List.contains_nil, zf, plainL, plainCell]
          simp only [decide_eq_true_eq, decide_eq_false_iff_not] at *
          simp only [cmpI]
          (repeat' split) <;> first | rfl | omega
abbrev iRows (l : List Int) : List (List PV) := l.map fun n => [PV.int .i64 n]
def orL (l : List Int) : Int := (l.find? (· != 0)).getD 0
theorem t48 (l : List Int) (hl : l.length < 1000) : PCalls Tryz.prog 37 [(.S 0, .av (.pv (.sl (iRows l))))] [(.S 0, .av (.pv (.int .i64 (orL l))))] := by
  refine PCalls.of_k Tryz.func37 (by decide) rfl fun Q hQ1 hQ2 => ?_
  refine PWp.seq_rg [0] orcD1_ok (mv := mv) (by decide) fun K hK => ?_
  simp only [pwr, mv, List.getD_nil, List.drop_nil, List.head?_nil, Int.natCast_zero, Int.reduceLT, Int.reduceSub, Int.reduceNeg, Int.reduceToNat, decide_false, decide_true, gt_iff_lt, Int.lt_irrefl, ne_eq, not_false_eq_true, not_true_eq_false, reduceIte, reduceCtorEq, Nat.reduceEqDiff, Nat.reduceAdd, Nat.reduceMul, Nat.reduceSub, Nat.reduceLT, Nat.reduceLeDiff, Nat.reduceBEq, if_true, if_false, implies_true, Option.isSome_none, Option.isSome_some, List.nil_append, List.cons_append, List.append_nil, List.map_cons, List.map_nil, List.toList_toArray, Option.getD_some, Option.getD_none, Option.map_some, Option.map_none, Option.bind_some, Option.bind_none, List.length_cons, List.length_nil, Bool.cond_true, Bool.cond_false, Array.toList_append, List.filterMap_cons, List.filterMap_nil, List.all_nil, List.all_cons, List.any_cons, List.any_nil, List.map_append, List.getElem?_toArray, List.getElem?_cons_zero, List.getElem?_cons_succ, Option.toArray_some, Option.toArray_none, List.contains_cons, List.contains_nil, List.head?_cons, List.drop_zero, List.drop_succ_cons, List.take_succ_cons, List.take_zero, List.set_cons_zero, List.set_cons_succ, List.length_map, List.getElem?_nil, orcD1, c54, zf, plainL, plainCell]
  refine hK _ ?_
  clear hK K
  refine PWp.seq_rg [0, 3] orcD1_ok (mv := mv) (by decide) fun K hK => ?_
  simp only [pwr, mv, List.getD_nil, List.drop_nil, List.head?_nil, Int.natCast_zero, Int.reduceLT, Int.reduceSub, Int.reduceNeg, Int.reduceToNat, decide_false, decide_true, gt_iff_lt, Int.lt_irrefl, ne_eq, not_false_eq_true, not_true_eq_false, reduceIte, reduceCtorEq, Nat.reduceEqDiff, Nat.reduceAdd, Nat.reduceMul, Nat.reduceSub, Nat.reduceLT, Nat.reduceLeDiff, Nat.reduceBEq, if_true, if_false, implies_true, Option.isSome_none, Option.isSome_some, List.nil_append, List.cons_append, List.append_nil, List.map_cons, List.map_nil, List.toList_toArray, Option.getD_some, Option.getD_none, Option.map_some, Option.map_none, Option.bind_some, Option.bind_none, List.length_cons, List.length_nil, Bool.cond_true, Bool.cond_false, Array.toList_append, List.filterMap_cons, List.filterMap_nil, List.all_nil, List.all_cons, List.any_cons, List.any_nil, List.map_append, List.getElem?_toArray, List.getElem?_cons_zero, List.getElem?_cons_succ, Option.toArray_some, Option.toArray_none, List.contains_cons, List.contains_nil, List.head?_cons, List.drop_zero, List.drop_succ_cons, List.take_succ_cons, List.take_zero, List.set_cons_zero, List.set_cons_succ, List.length_map, List.getElem?_nil, orcD1, c54, zf, plainL, plainCell]
  refine hK _ ?_
  clear hK K
  refine PWp.seq_k fun K1 hK1 => ?_
  refine PWp.seq_rg [3, 6, 7, 8] orcD1_ok (mv := mv) (by decide) fun K hK => ?_
  simp only [pwr, mv, List.getD_nil, List.drop_nil, List.head?_nil, Int.natCast_zero, Int.reduceLT, Int.reduceSub, Int.reduceNeg, Int.reduceToNat, decide_false, decide_true, gt_iff_lt, Int.lt_irrefl, ne_eq, not_false_eq_true, not_true_eq_false, reduceIte, reduceCtorEq, Nat.reduceEqDiff, Nat.reduceAdd, Nat.reduceMul, Nat.reduceSub, Nat.reduceLT, Nat.reduceLeDiff, Nat.reduceBEq, if_true, if_false, implies_true, Option.isSome_none, Option.isSome_some, List.nil_append, List.cons_append, List.append_nil, List.map_cons, List.map_nil, List.toList_toArray, Option.getD_some, Option.getD_none, Option.map_some, Option.map_none, Option.bind_some, Option.bind_none, List.length_cons, List.length_nil, Bool.cond_true, Bool.cond_false, Array.toList_append, List.filterMap_cons, List.filterMap_nil, List.all_nil, List.all_cons, List.any_cons, List.any_nil, List.map_append, List.getElem?_toArray, List.getElem?_cons_zero, List.getElem?_cons_succ, Option.toArray_some, Option.toArray_none, List.contains_cons, List.contains_nil, List.head?_cons, List.drop_zero, List.drop_succ_cons, List.take_succ_cons, List.take_zero, List.set_cons_zero, List.set_cons_succ, List.length_map, List.getElem?_nil, orcD1, c54, zf, plainL, plainCell]
  refine hK _ ?_
  clear hK K
  refine PWp.block_k fun Qq2 hq2n hq2x hq2r hq2e => ?_
  refine PWp.loop_k (fun i : Nat => [(.S 3, .av (.pv (.int .i64 0))), (.S 6, .av (.pv (.sl (iRows l)))), (.S 7, .av (.pv (.int .i64 l.length))), (.S 8, .av (.pv (.int .i64 i)))]) (fun i => i ≤ l.length ∧ ∀ x ∈ l.take i, x = 0) (fun i => l.length - i) (0) (⟨Nat.zero_le _, by simp⟩) ?_ ?_
  · repeat simp only [pwf, List.drop_zero, List.drop_succ_cons, List.take_succ_cons, List.take_zero, List.getElem?_cons_zero, List.getElem?_cons_succ, List.getElem?_nil, Nat.sub_self, reduceIte, reduceCtorEq, Nat.reduceEqDiff, Nat.reduceAdd, Nat.reduceMul, Nat.reduceSub, Nat.reduceLT, Nat.reduceLeDiff, Nat.reduceBEq, if_true, if_false, implies_true, Option.isSome_none, Option.isSome_some, List.nil_append, List.cons_append, List.append_nil, List.map_cons, List.map_nil, List.toList_toArray, Option.getD_some, Option.getD_none, Option.map_some, Option.map_none, Option.bind_some, Option.bind_none, List.length_cons, List.length_nil, Bool.cond_true, Bool.cond_false, Array.toList_append, List.contains_cons, List.contains_nil, zf, plainL, plainCell]
    simp [iRows]
  rintro i ⟨hi, hinv⟩ J1 hJ1
  refine PWp.seq_rg [3, 6, 7, 8, 9] orcD1_ok (mv := mv) (by decide) fun K hK => ?_
  simp only [pwr, mv, List.getD_nil, List.drop_nil, List.head?_nil, Int.natCast_zero, Int.reduceLT, Int.reduceSub, Int.reduceNeg, Int.reduceToNat, decide_false, decide_true, gt_iff_lt, Int.lt_irrefl, ne_eq, not_false_eq_true, not_true_eq_false, reduceIte, reduceCtorEq, Nat.reduceEqDiff, Nat.reduceAdd, Nat.reduceMul, Nat.reduceSub, Nat.reduceLT, Nat.reduceLeDiff, Nat.reduceBEq, if_true, if_false, implies_true, Option.isSome_none, Option.isSome_some, List.nil_append, List.cons_append, List.append_nil, List.map_cons, List.map_nil, List.toList_toArray, Option.getD_some, Option.getD_none, Option.map_some, Option.map_none, Option.bind_some, Option.bind_none, List.length_cons, List.length_nil, Bool.cond_true, Bool.cond_false, Array.toList_append, List.filterMap_cons, List.filterMap_nil, List.all_nil, List.all_cons, List.any_cons, List.any_nil, List.map_append, List.getElem?_toArray, List.getElem?_cons_zero, List.getElem?_cons_succ, Option.toArray_some, Option.toArray_none, List.contains_cons, List.contains_nil, List.head?_cons, List.drop_zero, List.drop_succ_cons, List.take_succ_cons, List.take_zero, List.set_cons_zero, List.set_cons_succ, List.length_map, List.getElem?_nil, orcD1, c54, zf, plainL, plainCell]
  refine hK _ ?_
  clear hK K
  refine PWp.seq_k fun K3 hK3 => ?_
  refine PWp.cond (by rfl) (fun hb9 => ?_) (fun hb9 => ?_)
  ·
   try (cases hb9; done)
   all_goals
    refine PWp.skip (hK3 _ ?_)
    refine PWp.seq_k fun K4 hK4 => ?_
    refine PWp.block_k fun Qq5 hq5n hq5x hq5r hq5e => ?_
    have hil : i < l.length := by simpa using hb9
    have e1 : (iRows l).getD i [] = [.int .i64 l[i]] := getD_map hil
    refine PWp.seq_rg [3, 5, 6, 7, 8] orcD1_ok (mv := mv) (by decide) fun K hK => ?_
    simp only [pwr, mv, List.getD_nil, List.drop_nil, List.head?_nil, Int.natCast_zero, Int.reduceLT, Int.reduceSub, Int.reduceNeg, Int.reduceToNat, decide_false, decide_true, gt_iff_lt, Int.lt_irrefl, ne_eq, not_false_eq_true, not_true_eq_false, reduceIte, reduceCtorEq, Nat.reduceEqDiff, Nat.reduceAdd, Nat.reduceMul, Nat.reduceSub, Nat.reduceLT, Nat.reduceLeDiff, Nat.reduceBEq, if_true, if_false, implies_true, Option.isSome_none, Option.isSome_some, List.nil_append, List.cons_append, List.append_nil, List.map_cons, List.map_nil, List.toList_toArray, Option.getD_some, Option.getD_none, Option.map_some, Option.map_none, Option.bind_some, Option.bind_none, List.length_cons, List.length_nil, Bool.cond_true, Bool.cond_false, Array.toList_append, List.filterMap_cons, List.filterMap_nil, List.all_nil, List.all_cons, List.any_cons, List.any_nil, List.map_append, List.getElem?_toArray, List.getElem?_cons_zero, List.getElem?_cons_succ, Option.toArray_some, Option.toArray_none, List.contains_cons, List.contains_nil, List.head?_cons, List.drop_zero, List.drop_succ_cons, List.take_succ_cons, List.take_zero, List.set_cons_zero, List.set_cons_succ, List.length_map, List.getElem?_nil, orcD1, c54, zf, plainL, plainCell, e1]
    repeat' with_reducible refine And.intro ?_ ?_
    all_goals try (first | omega | rfl | ((with_reducible refine drawGoal ?_); exact rfl) | (simp only [inR]; omega) | (intro y hy; simp only [List.mem_singleton] at hy; subst hy; rfl) | (intro y hy; cases hy; done) | (simp only [List.length_append, List.length_map, List.length_cons, List.length_nil]; omega) | (intro h; simp only [inR]; omega) | (intro h; simp only [List.length_append, List.length_map, List.length_cons, List.length_nil]; omega) | (intro h; exact h.elim))
    refine hK _ ?_
    clear hK K
    refine PWp.seq_rg [3, 5, 6, 7, 8, 14] orcD1_ok (mv := mv) (by decide) fun K hK => ?_
    simp only [pwr, mv, List.getD_nil, List.drop_nil, List.head?_nil, Int.natCast_zero, Int.reduceLT, Int.reduceSub, Int.reduceNeg, Int.reduceToNat, decide_false, decide_true, gt_iff_lt, Int.lt_irrefl, ne_eq, not_false_eq_true, not_true_eq_false, reduceIte, reduceCtorEq, Nat.reduceEqDiff, Nat.reduceAdd, Nat.reduceMul, Nat.reduceSub, Nat.reduceLT, Nat.reduceLeDiff, Nat.reduceBEq, if_true, if_false, implies_true, Option.isSome_none, Option.isSome_some, List.nil_append, List.cons_append, List.append_nil, List.map_cons, List.map_nil, List.toList_toArray, Option.getD_some, Option.getD_none, Option.map_some, Option.map_none, Option.bind_some, Option.bind_none, List.length_cons, List.length_nil, Bool.cond_true, Bool.cond_false, Array.toList_append, List.filterMap_cons, List.filterMap_nil, List.all_nil, List.all_cons, List.any_cons, List.any_nil, List.map_append, List.getElem?_toArray, List.getElem?_cons_zero, List.getElem?_cons_succ, Option.toArray_some, Option.toArray_none, List.contains_cons, List.contains_nil, List.head?_cons, List.drop_zero, List.drop_succ_cons, List.take_succ_cons, List.take_zero, List.set_cons_zero, List.set_cons_succ, List.length_map, List.getElem?_nil, orcD1, c54, zf, plainL, plainCell]
    refine hK _ ?_
    clear hK K
    refine PWp.cond (by rfl) (fun hb14 => ?_) (fun hb14 => ?_)
    ·
     try (cases hb14; done)
     all_goals
      refine PWp.seq_rg [2] orcD1_ok (mv := mv) (by decide) fun K hK => ?_
      simp only [pwr, mv, List.getD_nil, List.drop_nil, List.head?_nil, Int.natCast_zero, Int.reduceLT, Int.reduceSub, Int.reduceNeg, Int.reduceToNat, decide_false, decide_true, gt_iff_lt, Int.lt_irrefl, ne_eq, not_false_eq_true, not_true_eq_false, reduceIte, reduceCtorEq, Nat.reduceEqDiff, Nat.reduceAdd, Nat.reduceMul, Nat.reduceSub, Nat.reduceLT, Nat.reduceLeDiff, Nat.reduceBEq, if_true, if_false, implies_true, Option.isSome_none, Option.isSome_some, List.nil_append, List.cons_append, List.append_nil, List.map_cons, List.map_nil, List.toList_toArray, Option.getD_some, Option.getD_none, Option.map_some, Option.map_none, Option.bind_some, Option.bind_none, List.length_cons, List.length_nil, Bool.cond_true, Bool.cond_false, Array.toList_append, List.filterMap_cons, List.filterMap_nil, List.all_nil, List.all_cons, List.any_cons, List.any_nil, List.map_append, List.getElem?_toArray, List.getElem?_cons_zero, List.getElem?_cons_succ, Option.toArray_some, Option.toArray_none, List.contains_cons, List.contains_nil, List.head?_cons, List.drop_zero, List.drop_succ_cons, List.take_succ_cons, List.take_zero, List.set_cons_zero, List.set_cons_succ, List.length_map, List.getElem?_nil, orcD1, c54, zf, plainL, plainCell]
      refine hK _ ?_
      clear hK K
      refine PWp.ret (hq5r _ (hq2r _ (hQ2 _ ?_)))
      simp only [pwf, List.drop_zero, List.drop_succ_cons, List.take_succ_cons, List.take_zero, List.getElem?_cons_zero, List.getElem?_cons_succ, List.getElem?_nil, Nat.sub_self, reduceIte, reduceCtorEq, Nat.reduceEqDiff, Nat.reduceAdd, Nat.reduceMul, Nat.reduceSub, Nat.reduceLT, Nat.reduceLeDiff, Nat.reduceBEq, if_true, if_false, implies_true, Option.isSome_none, Option.isSome_some, List.nil_append, List.cons_append, List.append_nil, List.map_cons, List.map_nil, List.toList_toArray, Option.getD_some, Option.getD_none, Option.map_some, Option.map_none, Option.bind_some, Option.bind_none, List.length_cons, List.length_nil, Bool.cond_true, Bool.cond_false, Array.toList_append, List.contains_cons, List.contains_nil, zf, plainL, plainCell, Tryz.results37]
      repeat simp only [pwf, List.drop_zero, List.drop_succ_cons, List.take_succ_cons, List.take_zero, List.getElem?_cons_zero, List.getElem?_cons_succ, List.getElem?_nil, Nat.sub_self, reduceIte, reduceCtorEq, Nat.reduceEqDiff, Nat.reduceAdd, Nat.reduceMul, Nat.reduceSub, Nat.reduceLT, Nat.reduceLeDiff, Nat.reduceBEq, if_true, if_false, implies_true, Option.isSome_none, Option.isSome_some, List.nil_append, List.cons_append, List.append_nil, List.map_cons, List.map_nil, List.toList_toArray, Option.getD_some, Option.getD_none, Option.map_some, Option.map_none, Option.bind_some, Option.bind_none, List.length_cons, List.length_nil, Bool.cond_true, Bool.cond_false, Array.toList_append, List.contains_cons, List.contains_nil, zf, plainL, plainCell]
      have h1 : ¬ l[i] = 0 := by simpa using hb14
      have h2 : orL l = l[i] := by
        have e : l = l.take i ++ l[i] :: l.drop (i + 1) := by simp
        have e2 := congrArg (List.find? (fun x : Int => x != 0)) e
        have e3 : (l.take i).find? (fun x : Int => x != 0) = none := List.find?_eq_none.2 fun x hx => by simp [hinv x hx]
        rw [List.find?_append, e3] at e2
        unfold orL
        rw [e2, Option.none_or, List.find?_cons_of_pos (p := fun x : Int => x != 0) hb14]
        rfl
      rw [h2]
    ·
     try (cases hb14; done)
     all_goals
      refine PWp.skip (hq5n _ (hK4 _ ?_))
      refine PWp.rg [3, 6, 7, 8] orcD1_ok (mv := mv) (by decide) ?_
      simp only [pwr, mv, List.getD_nil, List.drop_nil, List.head?_nil, Int.natCast_zero, Int.reduceLT, Int.reduceSub, Int.reduceNeg, Int.reduceToNat, decide_false, decide_true, gt_iff_lt, Int.lt_irrefl, ne_eq, not_false_eq_true, not_true_eq_false, reduceIte, reduceCtorEq, Nat.reduceEqDiff, Nat.reduceAdd, Nat.reduceMul, Nat.reduceSub, Nat.reduceLT, Nat.reduceLeDiff, Nat.reduceBEq, if_true, if_false, implies_true, Option.isSome_none, Option.isSome_some, List.nil_append, List.cons_append, List.append_nil, List.map_cons, List.map_nil, List.toList_toArray, Option.getD_some, Option.getD_none, Option.map_some, Option.map_none, Option.bind_some, Option.bind_none, List.length_cons, List.length_nil, Bool.cond_true, Bool.cond_false, Array.toList_append, List.filterMap_cons, List.filterMap_nil, List.all_nil, List.all_cons, List.any_cons, List.any_nil, List.map_append, List.getElem?_toArray, List.getElem?_cons_zero, List.getElem?_cons_succ, Option.toArray_some, Option.toArray_none, List.contains_cons, List.contains_nil, List.head?_cons, List.drop_zero, List.drop_succ_cons, List.take_succ_cons, List.take_zero, List.set_cons_zero, List.set_cons_succ, List.length_map, List.getElem?_nil, orcD1, c54, zf, plainL, plainCell]
      repeat' with_reducible refine And.intro ?_ ?_
      all_goals try (first | omega | rfl | ((with_reducible refine drawGoal ?_); exact rfl) | (simp only [inR]; omega) | (intro y hy; simp only [List.mem_singleton] at hy; subst hy; rfl) | (intro y hy; cases hy; done) | (simp only [List.length_append, List.length_map, List.length_cons, List.length_nil]; omega) | (intro h; simp only [inR]; omega) | (intro h; simp only [List.length_append, List.length_map, List.length_cons, List.length_nil]; omega) | (intro h; exact h.elim))
      refine hJ1 _ (i + 1) ?_ ?_ ?_
      · exact ⟨by omega, by
          intro x hx
          rw [List.take_succ_eq_append_getElem hil] at hx
          rcases List.mem_append.1 hx with h | h
          · exact hinv x h
          · simp at h; subst h; simpa using hb14⟩
      · omega
      · repeat simp only [pwf, List.drop_zero, List.drop_succ_cons, List.take_succ_cons, List.take_zero, List.getElem?_cons_zero, List.getElem?_cons_succ, List.getElem?_nil, Nat.sub_self, reduceIte, reduceCtorEq, Nat.reduceEqDiff, Nat.reduceAdd, Nat.reduceMul, Nat.reduceSub, Nat.reduceLT, Nat.reduceLeDiff, Nat.reduceBEq, if_true, if_false, implies_true, Option.isSome_none, Option.isSome_some, List.nil_append, List.cons_append, List.append_nil, List.map_cons, List.map_nil, List.toList_toArray, Option.getD_some, Option.getD_none, Option.map_some, Option.map_none, Option.bind_some, Option.bind_none, List.length_cons, List.length_nil, Bool.cond_true, Bool.cond_false, Array.toList_append, List.contains_cons, List.contains_nil, zf, plainL, plainCell]
        simp
  ·
   try (cases hb9; done)
   all_goals
    refine PWp.exit (hq2x _ (hK1 _ ?_))
    refine PWp.seq_rg [2] orcD1_ok (mv := mv) (by decide) fun K hK => ?_
    simp only [pwr, mv, List.getD_nil, List.drop_nil, List.head?_nil, Int.natCast_zero, Int.reduceLT, Int.reduceSub, Int.reduceNeg, Int.reduceToNat, decide_false, decide_true, gt_iff_lt, Int.lt_irrefl, ne_eq, not_false_eq_true, not_true_eq_false, reduceIte, reduceCtorEq, Nat.reduceEqDiff, Nat.reduceAdd, Nat.reduceMul, Nat.reduceSub, Nat.reduceLT, Nat.reduceLeDiff, Nat.reduceBEq, if_true, if_false, implies_true, Option.isSome_none, Option.isSome_some, List.nil_append, List.cons_append, List.append_nil, List.map_cons, List.map_nil, List.toList_toArray, Option.getD_some, Option.getD_none, Option.map_some, Option.map_none, Option.bind_some, Option.bind_none, List.length_cons, List.length_nil, Bool.cond_true, Bool.cond_false, Array.toList_append, List.filterMap_cons, List.filterMap_nil, List.all_nil, List.all_cons, List.any_cons, List.any_nil, List.map_append, List.getElem?_toArray, List.getElem?_cons_zero, List.getElem?_cons_succ, Option.toArray_some, Option.toArray_none, List.contains_cons, List.contains_nil, List.head?_cons, List.drop_zero, List.drop_succ_cons, List.take_succ_cons, List.take_zero, List.set_cons_zero, List.set_cons_succ, List.length_map, List.getElem?_nil, orcD1, c54, zf, plainL, plainCell]
    refine hK _ ?_
    clear hK K
    refine PWp.ret (hQ2 _ ?_)
    simp only [pwf, List.drop_zero, List.drop_succ_cons, List.take_succ_cons, List.take_zero, List.getElem?_cons_zero, List.getElem?_cons_succ, List.getElem?_nil, Nat.sub_self, reduceIte, reduceCtorEq, Nat.reduceEqDiff, Nat.reduceAdd, Nat.reduceMul, Nat.reduceSub, Nat.reduceLT, Nat.reduceLeDiff, Nat.reduceBEq, if_true, if_false, implies_true, Option.isSome_none, Option.isSome_some, List.nil_append, List.cons_append, List.append_nil, List.map_cons, List.map_nil, List.toList_toArray, Option.getD_some, Option.getD_none, Option.map_some, Option.map_none, Option.bind_some, Option.bind_none, List.length_cons, List.length_nil, Bool.cond_true, Bool.cond_false, Array.toList_append, List.contains_cons, List.contains_nil, zf, plainL, plainCell, Tryz.results37]
    repeat simp only [pwf, List.drop_zero, List.drop_succ_cons, List.take_succ_cons, List.take_zero, List.getElem?_cons_zero, List.getElem?_cons_succ, List.getElem?_nil, Nat.sub_self, reduceIte, reduceCtorEq, Nat.reduceEqDiff, Nat.reduceAdd, Nat.reduceMul, Nat.reduceSub, Nat.reduceLT, Nat.reduceLeDiff, Nat.reduceBEq, if_true, if_false, implies_true, Option.isSome_none, Option.isSome_some, List.nil_append, List.cons_append, List.append_nil, List.map_cons, List.map_nil, List.toList_toArray, Option.getD_some, Option.getD_none, Option.map_some, Option.map_none, Option.bind_some, Option.bind_none, List.length_cons, List.length_nil, Bool.cond_true, Bool.cond_false, Array.toList_append, List.contains_cons, List.contains_nil, zf, plainL, plainCell]
    have hie : i = l.length := by have := of_decide_eq_false hb9; omega
    rw [hie, List.take_length] at hinv
    have h2 : orL l = 0 := by
      unfold orL
      rw [List.find?_eq_none.2 (fun x hx => by simp [hinv x hx])]
      rfl
    rw [h2]
def iOf : List (List PV) → List Int
  | [] => []
  | [.int _ a] :: l => a :: iOf l
  | _ :: l => iOf l
theorem iOf_iRows (l : List Int) : iOf (List.map (fun n => [PV.int .i64 n]) l) = l := by
  induction l with
  | nil => rfl
  | cons g l ih => simp only [List.map_cons, iOf, ih]
def c37 : St → Option (Prop × St)
  | [(.S 0, .av (.pv (.sl xs)))] => some (xs = iRows (iOf xs) ∧ (iOf xs).length < 1000, [(.S 0, .av (.pv (.int .i64 (orL (iOf xs)))))])
  | _ => none
theorem p37 {In Ret : St} {pre : Prop} (h : c37 In = some (pre, Ret)) (hp : pre) : PCalls Tryz.prog 37 In Ret := by
  unfold c37 at h
  split at h
  · cases h
    rw [hp.1]
    simp only [iOf_iRows]
    exact t48 _ hp.2
  · cases h
def c38 : St → Option (Prop × St)
  | [(.S 0, .av (.pv (.int .i64 a))), (.S 1, .av (.pv (.int .i64 b)))] => some (True, [(.S 0, .av (.pv (.int .i64 (cmpI a b))))])
  | _ => none
theorem p38 {In Ret : St} {pre : Prop} (h : c38 In = some (pre, Ret)) (hp : pre) : PCalls Tryz.prog 38 In Ret := by
  unfold c38 at h
  split at h
  · cases h
    exact t49 _ _
  · cases h
def orcD2 : Orc := fun f In => if f = 37 then c37 In else if f = 38 then c38 In else none
theorem orcD2_ok : OrcOk Tryz.prog orcD2 := by
  intro f In pre Ret h hp
  unfold orcD2 at h
  split at h
  · subst f; exact p37 h hp
  split at h
  · subst f; exact p38 h hp
  cases h
def cmpR (x y : G) : Int := orL [cmpI x.1 y.1, cmpI x.2 y.2]
theorem t47 (x y : G) : PCalls Tryz.prog 36 [(.S 0, .av (.agg [.pv (.int .i64 x.1), .pv (.int .i64 x.2)])), (.S 1, .av (.agg [.pv (.int .i64 y.1), .pv (.int .i64 y.2)]))] [(.S 0, .av (.pv (.int .i64 (cmpR x y))))] := by
  refine PCalls.of_k Tryz.func36 (by decide) rfl fun Q hQ1 hQ2 => ?_
  refine PWp.seq_rg [2, 3] orcD2_ok (mv := mv) (by decide) fun K hK => ?_
  simp only [pwr, mv, List.getD_nil, List.drop_nil, List.head?_nil, Int.natCast_zero, Int.reduceLT, Int.reduceSub, Int.reduceNeg, Int.reduceToNat, decide_false, decide_true, gt_iff_lt, Int.lt_irrefl, ne_eq, not_false_eq_true, not_true_eq_false, reduceIte, reduceCtorEq, Nat.reduceEqDiff, Nat.reduceAdd, Nat.reduceMul, Nat.reduceSub, Nat.reduceLT, Nat.reduceLeDiff, Nat.reduceBEq, if_true, if_false, implies_true, Option.isSome_none, Option.isSome_some, List.nil_append, List.cons_append, List.append_nil, List.map_cons, List.map_nil, List.toList_toArray, Option.getD_some, Option.getD_none, Option.map_some, Option.map_none, Option.bind_some, Option.bind_none, List.length_cons, List.length_nil, Bool.cond_true, Bool.cond_false, Array.toList_append, List.filterMap_cons, List.filterMap_nil, List.all_nil, List.all_cons, List.any_cons, List.any_nil, List.map_append, List.getElem?_toArray, List.getElem?_cons_zero, List.getElem?_cons_succ, Option.toArray_some, Option.toArray_none, List.contains_cons, List.contains_nil, List.head?_cons, List.drop_zero, List.drop_succ_cons, List.take_succ_cons, List.take_zero, List.set_cons_zero, List.set_cons_succ, List.length_map, List.getElem?_nil, orcD2, c37, c38, iOf, zf, plainL, plainCell]
  refine hK _ ?_
  clear hK K
  refine PWp.seq_dr [4] mixed orcD2_ok (mv := mv) (by decide) fun K hK => ?_
  simp only [pwr, mv, List.getD_nil, List.drop_nil, List.head?_nil, Int.natCast_zero, Int.reduceLT, Int.reduceSub, Int.reduceNeg, Int.reduceToNat, decide_false, decide_true, gt_iff_lt, Int.lt_irrefl, ne_eq, not_false_eq_true, not_true_eq_false, reduceIte, reduceCtorEq, Nat.reduceEqDiff, Nat.reduceAdd, Nat.reduceMul, Nat.reduceSub, Nat.reduceLT, Nat.reduceLeDiff, Nat.reduceBEq, if_true, if_false, implies_true, Option.isSome_none, Option.isSome_some, List.nil_append, List.cons_append, List.append_nil, List.map_cons, List.map_nil, List.toList_toArray, Option.getD_some, Option.getD_none, Option.map_some, Option.map_none, Option.bind_some, Option.bind_none, List.length_cons, List.length_nil, Bool.cond_true, Bool.cond_false, Array.toList_append, List.filterMap_cons, List.filterMap_nil, List.all_nil, List.all_cons, List.any_cons, List.any_nil, List.map_append, List.getElem?_toArray, List.getElem?_cons_zero, List.getElem?_cons_succ, Option.toArray_some, Option.toArray_none, List.contains_cons, List.contains_nil, List.head?_cons, List.drop_zero, List.drop_succ_cons, List.take_succ_cons, List.take_zero, List.set_cons_zero, List.set_cons_succ, List.length_map, List.getElem?_nil, orcD2, c37, c38, iOf, zf, plainL, plainCell]
  repeat' with_reducible refine And.intro ?_ ?_
  all_goals try (first | omega | rfl | ((with_reducible refine drawGoal ?_); exact rfl) | (simp only [inR]; omega) | (intro y hy; simp only [List.mem_singleton] at hy; subst hy; rfl) | (intro y hy; cases hy; done) | (simp only [List.length_append, List.length_map, List.length_cons, List.length_nil]; omega) | (intro h; simp only [inR]; omega) | (intro h; simp only [List.length_append, List.length_map, List.length_cons, List.length_nil]; omega) | (intro h; exact h.elim))
  refine hK _ ?_
  clear hK K
  refine PWp.ret (hQ2 _ ?_)
  simp only [pwf, List.drop_zero, List.drop_succ_cons, List.take_succ_cons, List.take_zero, List.getElem?_cons_zero, List.getElem?_cons_succ, List.getElem?_nil, Nat.sub_self, reduceIte, reduceCtorEq, Nat.reduceEqDiff, Nat.reduceAdd, Nat.reduceMul, Nat.reduceSub, Nat.reduceLT, Nat.reduceLeDiff, Nat.reduceBEq, if_true, if_false, implies_true, Option.isSome_none, Option.isSome_some, List.nil_append, List.cons_append, List.append_nil, List.map_cons, List.map_nil, List.toList_toArray, Option.getD_some, Option.getD_none, Option.map_some, Option.map_none, Option.bind_some, Option.bind_none, List.length_cons, List.length_nil, Bool.cond_true, Bool.cond_false, Array.toList_append, List.contains_cons, List.contains_nil, zf, plainL, plainCell, Tryz.results36]
  repeat simp only [pwf, List.drop_zero, List.drop_succ_cons, List.take_succ_cons, List.take_zero, List.getElem?_cons_zero, List.getElem?_cons_succ, List.getElem?_nil, Nat.sub_self, reduceIte, reduceCtorEq, Nat.reduceEqDiff, Nat.reduceAdd, Nat.reduceMul, Nat.reduceSub, Nat.reduceLT, Nat.reduceLeDiff, Nat.reduceBEq, if_true, if_false, implies_true, Option.isSome_none, Option.isSome_some, List.nil_append, List.cons_append, List.append_nil, List.map_cons, List.map_nil, List.toList_toArray, Option.getD_some, Option.getD_none, Option.map_some, Option.map_none, Option.bind_some, Option.bind_none, List.length_cons, List.length_nil, Bool.cond_true, Bool.cond_false, Array.toList_append, List.contains_cons, List.contains_nil, zf, plainL, plainCell]
  first | done | rfl | (simp; done) | trace_state
end Go.Pw
