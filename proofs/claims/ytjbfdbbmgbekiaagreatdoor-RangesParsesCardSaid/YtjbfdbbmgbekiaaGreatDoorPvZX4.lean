/- Ranges: the statement on texts. -/
import Derived.Test.YtjbfdbbmgbekiaaGreatDoorPvZQ
set_option linter.unusedSimpArgs false
set_option linter.unusedVariables false
set_option linter.unusedSectionVars false
set_option maxHeartbeats 4000000
set_option maxRecDepth 20000
namespace Go.Pw.G7
open Go.Proofs Go.Pw
def c10 : St → Option (Prop × St)
  | [(.S 0, .av (.agg [.pv (.sl xs1)]))] => some (xs1 = gRows (gOf xs1) ∧ (okL (gOf xs1)), [(.S 0, .av (.pv (.str (textL (gOf xs1)))))])
  | _ => none
theorem p10 {In Ret : St} {pre : Prop} (h : c10 In = some (pre, Ret)) (hp : pre) : PCalls Tryz.prog 10 In Ret := by
  unfold c10 at h
  split at h
  · rename_i xs1
    cases h
    obtain ⟨e1, hp⟩ := hp
    obtain ⟨l1, rfl⟩ : ∃ l, xs1 = gRows l := ⟨_, e1⟩
    simp only [gOf_gRows] at hp ⊢
    exact t10 l1 hp
  · cases h
def c12 : St → Option (Prop × St)
  | [(.S 0, .av (.pv (.sl xs1)))] => some (xs1 = gRows (gOf xs1) ∧ (okL (gOf xs1) ∧ ∀ g ∈ (gOf xs1), g.1 ≤ g.2), [(.S 0, .av (.pv (.str (textL (gOf xs1)))))])
  | _ => none
theorem p12 {In Ret : St} {pre : Prop} (h : c12 In = some (pre, Ret)) (hp : pre) : PCalls Tryz.prog 12 In Ret := by
  unfold c12 at h
  split at h
  · rename_i xs1
    cases h
    obtain ⟨e1, hp⟩ := hp
    obtain ⟨l1, rfl⟩ : ∃ l, xs1 = gRows l := ⟨_, e1⟩
    simp only [gOf_gRows] at hp ⊢
    exact t12b l1 hp.1 hp.2
  · cases h
def c13 : St → Option (Prop × St)
  | [(.S 0, .av (.agg [.pv (.sl xs1)])), (.S 1, .av (.agg [.pv (.sl xs2)]))] => some (xs1 = gRows (gOf xs1) ∧ xs2 = gRows (gOf xs2) ∧ ((gOf xs1).length < 100000000 ∧ (gOf xs2).length < 100000000), [(.S 0, .av (.pv (.bool (decide ((gOf xs1) = (gOf xs2))))))])
  | _ => none
theorem p13 {In Ret : St} {pre : Prop} (h : c13 In = some (pre, Ret)) (hp : pre) : PCalls Tryz.prog 13 In Ret := by
  unfold c13 at h
  split at h
  · rename_i xs1 xs2
    cases h
    obtain ⟨e1, e2, hp⟩ := hp
    obtain ⟨l1, rfl⟩ : ∃ l, xs1 = gRows l := ⟨_, e1⟩
    obtain ⟨l2, rfl⟩ : ∃ l, xs2 = gRows l := ⟨_, e2⟩
    simp only [gOf_gRows] at hp ⊢
    exact t22 l1 l2 hp.1 hp.2
  · cases h
def c8 : St → Option (Prop × St)
  | [] => some ((True), [(.S 0, .av (.pv (.bool true)))])
  | _ => none
theorem p8 {In Ret : St} {pre : Prop} (h : c8 In = some (pre, Ret)) (hp : pre) : PCalls Tryz.prog 8 In Ret := by
  unfold c8 at h
  split at h
  · cases h
    exact known07
  · cases h
def c6 : St → Option (Prop × St)
  | [(.S 0, .av (.pv (.str t)))] => some (t.length ≤ 100000, [(.S 0, .av (.tup [gSet (parseL t).1, .pv (.int .i64 (parseL t).2.1), .pv (.int .i64 (parseL t).2.2)]))])
  | _ => none
theorem p6 {In Ret : St} {pre : Prop} (h : c6 In = some (pre, Ret)) (hp : pre) : PCalls Tryz.prog 6 In Ret := by
  unfold c6 at h
  split at h
  · cases h; exact t6p _ hp
  · cases h
def orcX5 : Orc := fun f In => if f = 11 then c11 In else if f = 10 then c10 In else if f = 6 then c6 In else if f = 8 then c8 In else if f = 12 then c12 In else if f = 13 then c13 In else if f = 9 then c9 In else none
theorem orcX5_ok : OrcOk Tryz.prog orcX5 := by
  intro f In pre Ret h hp
  unfold orcX5 at h
  split at h
  · subst f; exact p11 h hp
  split at h
  · subst f; exact p10 h hp
  split at h
  · subst f; exact p6 h hp
  split at h
  · subst f; exact p8 h hp
  split at h
  · subst f; exact p12 h hp
  split at h
  · subst f; exact p13 h hp
  split at h
  · subst f; exact p9 h hp
  cases h
theorem t4 (l : List G) (hl : l.length < 9223372036854775807) : PCalls Tryz.prog 4 [(.S 0, .av (.pv (.sl (gRows l))))] [(.S 0, .av (.pv (.bool true)))] := by
  refine PCalls.of_k Tryz.func4 (by decide) rfl fun Q hQ1 hQ2 => ?_
  refine PWp.seq_rg [0] orcX5_ok (mv := mv) (by decide) fun K hK => ?_
  simp only [pwr, mv, List.getD_nil, List.drop_nil, List.head?_nil, Int.natCast_zero, Int.reduceLT, Int.reduceSub, Int.reduceNeg, Int.reduceToNat, decide_false, decide_true, gt_iff_lt, Int.lt_irrefl, ne_eq, not_false_eq_true, not_true_eq_false, reduceIte, reduceCtorEq, Nat.reduceEqDiff, Nat.reduceAdd, Nat.reduceMul, Nat.reduceSub, Nat.reduceLT, Nat.reduceLeDiff, Nat.reduceBEq, if_true, if_false, implies_true, Option.isSome_none, Option.isSome_some, List.nil_append, List.cons_append, List.append_nil, List.map_cons, List.map_nil, List.toList_toArray, Option.getD_some, Option.getD_none, Option.map_some, Option.map_none, Option.bind_some, Option.bind_none, List.length_cons, List.length_nil, Bool.cond_true, Bool.cond_false, Array.toList_append, List.filterMap_cons, List.filterMap_nil, List.all_nil, List.all_cons, List.any_cons, List.any_nil, List.map_append, List.getElem?_toArray, List.getElem?_cons_zero, List.getElem?_cons_succ, Option.toArray_some, Option.toArray_none, List.contains_cons, List.contains_nil, List.head?_cons, List.drop_zero, List.drop_succ_cons, List.take_succ_cons, List.take_zero, List.set_cons_zero, List.set_cons_succ, List.length_map, List.getElem?_nil, orcX5, c11, c10, c6, c8, c12, c13, c9, gOf_gRows, zf, plainL, plainCell]
  refine hK _ ?_
  clear hK K
  refine PWp.seq_rg [3, 4, 5] orcX5_ok (mv := mv) (by decide) fun K hK => ?_
  simp only [pwr, mv, List.getD_nil, List.drop_nil, List.head?_nil, Int.natCast_zero, Int.reduceLT, Int.reduceSub, Int.reduceNeg, Int.reduceToNat, decide_false, decide_true, gt_iff_lt, Int.lt_irrefl, ne_eq, not_false_eq_true, not_true_eq_false, reduceIte, reduceCtorEq, Nat.reduceEqDiff, Nat.reduceAdd, Nat.reduceMul, Nat.reduceSub, Nat.reduceLT, Nat.reduceLeDiff, Nat.reduceBEq, if_true, if_false, implies_true, Option.isSome_none, Option.isSome_some, List.nil_append, List.cons_append, List.append_nil, List.map_cons, List.map_nil, List.toList_toArray, Option.getD_some, Option.getD_none, Option.map_some, Option.map_none, Option.bind_some, Option.bind_none, List.length_cons, List.length_nil, Bool.cond_true, Bool.cond_false, Array.toList_append, List.filterMap_cons, List.filterMap_nil, List.all_nil, List.all_cons, List.any_cons, List.any_nil, List.map_append, List.getElem?_toArray, List.getElem?_cons_zero, List.getElem?_cons_succ, Option.toArray_some, Option.toArray_none, List.contains_cons, List.contains_nil, List.head?_cons, List.drop_zero, List.drop_succ_cons, List.take_succ_cons, List.take_zero, List.set_cons_zero, List.set_cons_succ, List.length_map, List.getElem?_nil, orcX5, c11, c10, c6, c8, c12, c13, c9, gOf_gRows, zf, plainL, plainCell]
  repeat' with_reducible refine And.intro ?_ ?_
  all_goals try (first | omega | rfl | ((with_reducible refine drawGoal ?_); exact rfl) | (simp only [inR]; omega) | (intro y hy; simp only [List.mem_singleton] at hy; subst hy; rfl) | (intro y hy; cases hy; done) | (simp only [List.length_append, List.length_map, List.length_cons, List.length_nil]; omega) | (intro h; simp only [inR]; omega) | (intro h; simp only [List.length_append, List.length_map, List.length_cons, List.length_nil]; omega) | (intro h; exact h.elim))
  refine hK _ ?_
  clear hK K
  have hm : (l.take 60).length ≤ 60 := by rw [List.length_take]; omega
  obtain ⟨hc1, hc2, hc3⟩ := ofG_spec _ hm
  generalize (ofG (l.take 60)).1 = c at *
  have hpt := parse_text hc2 hc1 (by omega)
  have hjl := join_len 43 (c.map wordL) (words_len hc1)
  rw [List.length_map] at hjl
  change (textL c).length ≤ _ at hjl
  refine PWp.seq_rg [3, 4, 5, 6] orcX5_ok (mv := mv) (by decide) fun K hK => ?_
  simp only [pwr, mv, List.getD_nil, List.drop_nil, List.head?_nil, Int.natCast_zero, Int.reduceLT, Int.reduceSub, Int.reduceNeg, Int.reduceToNat, decide_false, decide_true, gt_iff_lt, Int.lt_irrefl, ne_eq, not_false_eq_true, not_true_eq_false, reduceIte, reduceCtorEq, Nat.reduceEqDiff, Nat.reduceAdd, Nat.reduceMul, Nat.reduceSub, Nat.reduceLT, Nat.reduceLeDiff, Nat.reduceBEq, if_true, if_false, implies_true, Option.isSome_none, Option.isSome_some, List.nil_append, List.cons_append, List.append_nil, List.map_cons, List.map_nil, List.toList_toArray, Option.getD_some, Option.getD_none, Option.map_some, Option.map_none, Option.bind_some, Option.bind_none, List.length_cons, List.length_nil, Bool.cond_true, Bool.cond_false, Array.toList_append, List.filterMap_cons, List.filterMap_nil, List.all_nil, List.all_cons, List.any_cons, List.any_nil, List.map_append, List.getElem?_toArray, List.getElem?_cons_zero, List.getElem?_cons_succ, Option.toArray_some, Option.toArray_none, List.contains_cons, List.contains_nil, List.head?_cons, List.drop_zero, List.drop_succ_cons, List.take_succ_cons, List.take_zero, List.set_cons_zero, List.set_cons_succ, List.length_map, List.getElem?_nil, orcX5, c11, c10, c6, c8, c12, c13, c9, gOf_gRows, zf, plainL, plainCell]
  repeat' with_reducible refine And.intro ?_ ?_
  all_goals try (exact hc1)
  all_goals try (first | omega | rfl | ((with_reducible refine drawGoal ?_); exact rfl) | (simp only [inR]; omega) | (intro y hy; simp only [List.mem_singleton] at hy; subst hy; rfl) | (intro y hy; cases hy; done) | (simp only [List.length_append, List.length_map, List.length_cons, List.length_nil]; omega) | (intro h; simp only [inR]; omega) | (intro h; simp only [List.length_append, List.length_map, List.length_cons, List.length_nil]; omega) | (intro h; exact h.elim))
  refine hK _ ?_
  clear hK K
  refine PWp.seq_rg [3, 4, 5, 6, 7, 8, 9] orcX5_ok (mv := mv) (by decide) fun K hK => ?_
  simp only [pwr, mv, List.getD_nil, List.drop_nil, List.head?_nil, Int.natCast_zero, Int.reduceLT, Int.reduceSub, Int.reduceNeg, Int.reduceToNat, decide_false, decide_true, gt_iff_lt, Int.lt_irrefl, ne_eq, not_false_eq_true, not_true_eq_false, reduceIte, reduceCtorEq, Nat.reduceEqDiff, Nat.reduceAdd, Nat.reduceMul, Nat.reduceSub, Nat.reduceLT, Nat.reduceLeDiff, Nat.reduceBEq, if_true, if_false, implies_true, Option.isSome_none, Option.isSome_some, List.nil_append, List.cons_append, List.append_nil, List.map_cons, List.map_nil, List.toList_toArray, Option.getD_some, Option.getD_none, Option.map_some, Option.map_none, Option.bind_some, Option.bind_none, List.length_cons, List.length_nil, Bool.cond_true, Bool.cond_false, Array.toList_append, List.filterMap_cons, List.filterMap_nil, List.all_nil, List.all_cons, List.any_cons, List.any_nil, List.map_append, List.getElem?_toArray, List.getElem?_cons_zero, List.getElem?_cons_succ, Option.toArray_some, Option.toArray_none, List.contains_cons, List.contains_nil, List.head?_cons, List.drop_zero, List.drop_succ_cons, List.take_succ_cons, List.take_zero, List.set_cons_zero, List.set_cons_succ, List.length_map, List.getElem?_nil, orcX5, c11, c10, c6, c8, c12, c13, c9, gOf_gRows, zf, plainL, plainCell, hpt]
  repeat' with_reducible refine And.intro ?_ ?_
  all_goals try (omega)
  all_goals try (first | omega | rfl | ((with_reducible refine drawGoal ?_); exact rfl) | (simp only [inR]; omega) | (intro y hy; simp only [List.mem_singleton] at hy; subst hy; rfl) | (intro y hy; cases hy; done) | (simp only [List.length_append, List.length_map, List.length_cons, List.length_nil]; omega) | (intro h; simp only [inR]; omega) | (intro h; simp only [List.length_append, List.length_map, List.length_cons, List.length_nil]; omega) | (intro h; exact h.elim))
  refine hK _ ?_
  clear hK K
  refine PWp.seq_rg [2] orcX5_ok (mv := mv) (by decide) fun K hK => ?_
  simp only [pwr, mv, List.getD_nil, List.drop_nil, List.head?_nil, Int.natCast_zero, Int.reduceLT, Int.reduceSub, Int.reduceNeg, Int.reduceToNat, decide_false, decide_true, gt_iff_lt, Int.lt_irrefl, ne_eq, not_false_eq_true, not_true_eq_false, reduceIte, reduceCtorEq, Nat.reduceEqDiff, Nat.reduceAdd, Nat.reduceMul, Nat.reduceSub, Nat.reduceLT, Nat.reduceLeDiff, Nat.reduceBEq, if_true, if_false, implies_true, Option.isSome_none, Option.isSome_some, List.nil_append, List.cons_append, List.append_nil, List.map_cons, List.map_nil, List.toList_toArray, Option.getD_some, Option.getD_none, Option.map_some, Option.map_none, Option.bind_some, Option.bind_none, List.length_cons, List.length_nil, Bool.cond_true, Bool.cond_false, Array.toList_append, List.filterMap_cons, List.filterMap_nil, List.all_nil, List.all_cons, List.any_cons, List.any_nil, List.map_append, List.getElem?_toArray, List.getElem?_cons_zero, List.getElem?_cons_succ, Option.toArray_some, Option.toArray_none, List.contains_cons, List.contains_nil, List.head?_cons, List.drop_zero, List.drop_succ_cons, List.take_succ_cons, List.take_zero, List.set_cons_zero, List.set_cons_succ, List.length_map, List.getElem?_nil, orcX5, c11, c10, c6, c8, c12, c13, c9, gOf_gRows, zf, plainL, plainCell, beq_self_eq_true, eq_self]
  repeat' with_reducible refine And.intro ?_ ?_
  all_goals try (first | omega | exact hc1 | exact fun _ => hc1 | exact fun g hg => Int.le_of_lt (hc2.2 g hg))
  all_goals try (first | omega | rfl | ((with_reducible refine drawGoal ?_); exact rfl) | (simp only [inR]; omega) | (intro y hy; simp only [List.mem_singleton] at hy; subst hy; rfl) | (intro y hy; cases hy; done) | (simp only [List.length_append, List.length_map, List.length_cons, List.length_nil]; omega) | (intro h; simp only [inR]; omega) | (intro h; simp only [List.length_append, List.length_map, List.length_cons, List.length_nil]; omega) | (intro h; exact h.elim))
  refine hK _ ?_
  clear hK K
  refine PWp.ret (hQ2 _ ?_)
  simp only [pwf, List.drop_zero, List.drop_succ_cons, List.take_succ_cons, List.take_zero, List.getElem?_cons_zero, List.getElem?_cons_succ, List.getElem?_nil, Nat.sub_self, reduceIte, reduceCtorEq, Nat.reduceEqDiff, Nat.reduceAdd, Nat.reduceMul, Nat.reduceSub, Nat.reduceLT, Nat.reduceLeDiff, Nat.reduceBEq, if_true, if_false, implies_true, Option.isSome_none, Option.isSome_some, List.nil_append, List.cons_append, List.append_nil, List.map_cons, List.map_nil, List.toList_toArray, Option.getD_some, Option.getD_none, Option.map_some, Option.map_none, Option.bind_some, Option.bind_none, List.length_cons, List.length_nil, Bool.cond_true, Bool.cond_false, Array.toList_append, List.contains_cons, List.contains_nil, zf, plainL, plainCell, Tryz.results4]
  repeat simp only [pwf, List.drop_zero, List.drop_succ_cons, List.take_succ_cons, List.take_zero, List.getElem?_cons_zero, List.getElem?_cons_succ, List.getElem?_nil, Nat.sub_self, reduceIte, reduceCtorEq, Nat.reduceEqDiff, Nat.reduceAdd, Nat.reduceMul, Nat.reduceSub, Nat.reduceLT, Nat.reduceLeDiff, Nat.reduceBEq, if_true, if_false, implies_true, Option.isSome_none, Option.isSome_some, List.nil_append, List.cons_append, List.append_nil, List.map_cons, List.map_nil, List.toList_toArray, Option.getD_some, Option.getD_none, Option.map_some, Option.map_none, Option.bind_some, Option.bind_none, List.length_cons, List.length_nil, Bool.cond_true, Bool.cond_false, Array.toList_append, List.contains_cons, List.contains_nil, zf, plainL, plainCell]
  first | done | rfl | (simp; done) | trace_state
end Go.Pw.G7
