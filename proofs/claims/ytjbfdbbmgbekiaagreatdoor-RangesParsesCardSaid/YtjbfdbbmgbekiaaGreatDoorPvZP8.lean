/- Ranges: the reference's Parse, and the statement on parsing. -/
import Derived.Test.YtjbfdbbmgbekiaaGreatDoorPvZP7
set_option linter.unusedSimpArgs false
set_option linter.unusedVariables false
set_option linter.unusedSectionVars false
set_option maxHeartbeats 4000000
set_option maxRecDepth 20000
namespace Go.Pw.G7
open Go.Proofs Go.Pw
def c21 : St → Option (Prop × St)
  | [(.S 0, .av (.pv (.str s))), (.S 1, .av (.pv (.int .i64 q)))] => some (s.length ≤ 1000000, [(.S 0, .av (.tup [gA (itemL s q).1, .pv (.int .i64 (itemL s q).2)]))])
  | _ => none
theorem p21 {In Ret : St} {pre : Prop} (h : c21 In = some (pre, Ret)) (hp : pre) : PCalls Tryz.prog 21 In Ret := by
  unfold c21 at h
  split at h
  · cases h; exact t21p _ _ hp
  · cases h
def orcP8 : Orc := fun f In => if f = 21 then c21 In else none
theorem orcP8_ok : OrcOk Tryz.prog orcP8 := by
  intro f In pre Ret h hp
  unfold orcP8 at h
  split at h
  · subst f; exact p21 h hp
  cases h
theorem word_snoc {t : Bs} {a k : Nat} (ha : a ≤ k) (hk : k < t.length) : (t.take (k + 1)).drop a = (t.take k).drop a ++ [t[k]] := by
  rw [List.take_succ_eq_append_getElem hk, List.drop_append_of_le_length (by rw [List.length_take]; omega)]
theorem split_word {t : Bs} {a k : Nat} (ha : a ≤ k) (hk : k ≤ t.length) (hn : ∀ b ∈ (t.take k).drop a, b ≠ 32) (he : ∀ h : k < t.length, t[k] = 32) :
    splitC (t.drop a) = (t.take k).drop a :: (if k < t.length then splitC (t.drop (k + 1)) else []) := by
  have e : t.drop a = (t.take k).drop a ++ t.drop k := by
    conv => lhs; rw [← List.take_append_drop k t]
    rw [List.drop_append_of_le_length (by rw [List.length_take]; omega)]
  rw [e]
  split
  · rename_i h
    rw [List.drop_eq_getElem_cons h, he h]
    exact splitC_app _ hn
  · rename_i h
    have e2 : t.drop k = [] := List.drop_eq_nil_of_le (by omega)
    rw [e2, List.append_nil]
    exact splitC_none hn
theorem t7p (t : Bs) (ht : t.length ≤ 100000) : PCalls Tryz.prog 7 [(.S 0, .av (.pv (.str t)))] [(.S 0, .av (.tup [.pv (.sl (gRows (parseL t).1)), .pv (.int .i64 (parseL t).2.1), .pv (.int .i64 (parseL t).2.2)]))] := by
  refine PCalls.of_k Tryz.func7 (by decide) rfl fun Q hQ1 hQ2 => ?_
  refine PWp.seq_rg [0] orcP8_ok (mv := mv) (by decide) fun K hK => ?_
  simp only [pwr, mv, List.getD_nil, List.drop_nil, List.head?_nil, Int.natCast_zero, Int.reduceLT, Int.reduceSub, Int.reduceNeg, Int.reduceToNat, decide_false, decide_true, gt_iff_lt, Int.lt_irrefl, ne_eq, not_false_eq_true, not_true_eq_false, reduceIte, reduceCtorEq, Nat.reduceEqDiff, Nat.reduceAdd, Nat.reduceMul, Nat.reduceSub, Nat.reduceLT, Nat.reduceLeDiff, Nat.reduceBEq, if_true, if_false, implies_true, Option.isSome_none, Option.isSome_some, List.nil_append, List.cons_append, List.append_nil, List.map_cons, List.map_nil, List.toList_toArray, Option.getD_some, Option.getD_none, Option.map_some, Option.map_none, Option.bind_some, Option.bind_none, List.length_cons, List.length_nil, Bool.cond_true, Bool.cond_false, Array.toList_append, List.filterMap_cons, List.filterMap_nil, List.all_nil, List.all_cons, List.any_cons, List.any_nil, List.map_append, List.getElem?_toArray, List.getElem?_cons_zero, List.getElem?_cons_succ, Option.toArray_some, Option.toArray_none, List.contains_cons, List.contains_nil, List.head?_cons, List.drop_zero, List.drop_succ_cons, List.take_succ_cons, List.take_zero, List.set_cons_zero, List.set_cons_succ, List.length_map, List.getElem?_nil, orcP8, c21, zf, plainL, plainCell]
  refine hK _ ?_
  clear hK K
  refine PWp.seq_rg [0, 5] orcP8_ok (mv := mv) (by decide) fun K hK => ?_
  simp only [pwr, mv, List.getD_nil, List.drop_nil, List.head?_nil, Int.natCast_zero, Int.reduceLT, Int.reduceSub, Int.reduceNeg, Int.reduceToNat, decide_false, decide_true, gt_iff_lt, Int.lt_irrefl, ne_eq, not_false_eq_true, not_true_eq_false, reduceIte, reduceCtorEq, Nat.reduceEqDiff, Nat.reduceAdd, Nat.reduceMul, Nat.reduceSub, Nat.reduceLT, Nat.reduceLeDiff, Nat.reduceBEq, if_true, if_false, implies_true, Option.isSome_none, Option.isSome_some, List.nil_append, List.cons_append, List.append_nil, List.map_cons, List.map_nil, List.toList_toArray, Option.getD_some, Option.getD_none, Option.map_some, Option.map_none, Option.bind_some, Option.bind_none, List.length_cons, List.length_nil, Bool.cond_true, Bool.cond_false, Array.toList_append, List.filterMap_cons, List.filterMap_nil, List.all_nil, List.all_cons, List.any_cons, List.any_nil, List.map_append, List.getElem?_toArray, List.getElem?_cons_zero, List.getElem?_cons_succ, Option.toArray_some, Option.toArray_none, List.contains_cons, List.contains_nil, List.head?_cons, List.drop_zero, List.drop_succ_cons, List.take_succ_cons, List.take_zero, List.set_cons_zero, List.set_cons_succ, List.length_map, List.getElem?_nil, orcP8, c21, zf, plainL, plainCell]
  refine hK _ ?_
  clear hK K
  refine PWp.seq_k fun K1 hK1 => ?_
  refine PWp.seq_rg [0, 5, 12] orcP8_ok (mv := mv) (by decide) fun K hK => ?_
  simp only [pwr, mv, List.getD_nil, List.drop_nil, List.head?_nil, Int.natCast_zero, Int.reduceLT, Int.reduceSub, Int.reduceNeg, Int.reduceToNat, decide_false, decide_true, gt_iff_lt, Int.lt_irrefl, ne_eq, not_false_eq_true, not_true_eq_false, reduceIte, reduceCtorEq, Nat.reduceEqDiff, Nat.reduceAdd, Nat.reduceMul, Nat.reduceSub, Nat.reduceLT, Nat.reduceLeDiff, Nat.reduceBEq, if_true, if_false, implies_true, Option.isSome_none, Option.isSome_some, List.nil_append, List.cons_append, List.append_nil, List.map_cons, List.map_nil, List.toList_toArray, Option.getD_some, Option.getD_none, Option.map_some, Option.map_none, Option.bind_some, Option.bind_none, List.length_cons, List.length_nil, Bool.cond_true, Bool.cond_false, Array.toList_append, List.filterMap_cons, List.filterMap_nil, List.all_nil, List.all_cons, List.any_cons, List.any_nil, List.map_append, List.getElem?_toArray, List.getElem?_cons_zero, List.getElem?_cons_succ, Option.toArray_some, Option.toArray_none, List.contains_cons, List.contains_nil, List.head?_cons, List.drop_zero, List.drop_succ_cons, List.take_succ_cons, List.take_zero, List.set_cons_zero, List.set_cons_succ, List.length_map, List.getElem?_nil, orcP8, c21, zf, plainL, plainCell]
  refine hK _ ?_
  clear hK K
  refine PWp.cond (by rfl) (fun hb12 => ?_) (fun hb12 => ?_)
  ·
   try (cases hb12; done)
   all_goals
    refine PWp.seq_rg [2, 3, 4] orcP8_ok (mv := mv) (by decide) fun K hK => ?_
    simp only [pwr, mv, List.getD_nil, List.drop_nil, List.head?_nil, Int.natCast_zero, Int.reduceLT, Int.reduceSub, Int.reduceNeg, Int.reduceToNat, decide_false, decide_true, gt_iff_lt, Int.lt_irrefl, ne_eq, not_false_eq_true, not_true_eq_false, reduceIte, reduceCtorEq, Nat.reduceEqDiff, Nat.reduceAdd, Nat.reduceMul, Nat.reduceSub, Nat.reduceLT, Nat.reduceLeDiff, Nat.reduceBEq, if_true, if_false, implies_true, Option.isSome_none, Option.isSome_some, List.nil_append, List.cons_append, List.append_nil, List.map_cons, List.map_nil, List.toList_toArray, Option.getD_some, Option.getD_none, Option.map_some, Option.map_none, Option.bind_some, Option.bind_none, List.length_cons, List.length_nil, Bool.cond_true, Bool.cond_false, Array.toList_append, List.filterMap_cons, List.filterMap_nil, List.all_nil, List.all_cons, List.any_cons, List.any_nil, List.map_append, List.getElem?_toArray, List.getElem?_cons_zero, List.getElem?_cons_succ, Option.toArray_some, Option.toArray_none, List.contains_cons, List.contains_nil, List.head?_cons, List.drop_zero, List.drop_succ_cons, List.take_succ_cons, List.take_zero, List.set_cons_zero, List.set_cons_succ, List.length_map, List.getElem?_nil, orcP8, c21, zf, plainL, plainCell]
    refine hK _ ?_
    clear hK K
    refine PWp.ret (hQ2 _ ?_)
    simp only [pwf, List.drop_zero, List.drop_succ_cons, List.take_succ_cons, List.take_zero, List.getElem?_cons_zero, List.getElem?_cons_succ, List.getElem?_nil, Nat.sub_self, reduceIte, reduceCtorEq, Nat.reduceEqDiff, Nat.reduceAdd, Nat.reduceMul, Nat.reduceSub, Nat.reduceLT, Nat.reduceLeDiff, Nat.reduceBEq, if_true, if_false, implies_true, Option.isSome_none, Option.isSome_some, List.nil_append, List.cons_append, List.append_nil, List.map_cons, List.map_nil, List.toList_toArray, Option.getD_some, Option.getD_none, Option.map_some, Option.map_none, Option.bind_some, Option.bind_none, List.length_cons, List.length_nil, Bool.cond_true, Bool.cond_false, Array.toList_append, List.contains_cons, List.contains_nil, zf, plainL, plainCell, Tryz.results7]
    repeat simp only [pwf, List.drop_zero, List.drop_succ_cons, List.take_succ_cons, List.take_zero, List.getElem?_cons_zero, List.getElem?_cons_succ, List.getElem?_nil, Nat.sub_self, reduceIte, reduceCtorEq, Nat.reduceEqDiff, Nat.reduceAdd, Nat.reduceMul, Nat.reduceSub, Nat.reduceLT, Nat.reduceLeDiff, Nat.reduceBEq, if_true, if_false, implies_true, Option.isSome_none, Option.isSome_some, List.nil_append, List.cons_append, List.append_nil, List.map_cons, List.map_nil, List.toList_toArray, Option.getD_some, Option.getD_none, Option.map_some, Option.map_none, Option.bind_some, Option.bind_none, List.length_cons, List.length_nil, Bool.cond_true, Bool.cond_false, Array.toList_append, List.contains_cons, List.contains_nil, zf, plainL, plainCell]
    have h0 : t = [] := by simpa using hb12
    have e : parseL t = ([], 0, 0) := by unfold parseL; rw [if_pos h0]
    rw [e]; exact ⟨rfl, rfl, rfl⟩
  ·
   try (cases hb12; done)
   all_goals
    refine PWp.skip (hK1 _ ?_)
    have h0 : ¬ t = [] := by simpa using hb12
    have hp : parseL t = parseW (splitC (t.drop 0)) [] (-1) 0 := by unfold parseL; rw [if_neg h0, List.drop_zero]
    refine PWp.seq_rg [0, 5, 6, 7] orcP8_ok (mv := mv) (by decide) fun K hK => ?_
    simp only [pwr, mv, List.getD_nil, List.drop_nil, List.head?_nil, Int.natCast_zero, Int.reduceLT, Int.reduceSub, Int.reduceNeg, Int.reduceToNat, decide_false, decide_true, gt_iff_lt, Int.lt_irrefl, ne_eq, not_false_eq_true, not_true_eq_false, reduceIte, reduceCtorEq, Nat.reduceEqDiff, Nat.reduceAdd, Nat.reduceMul, Nat.reduceSub, Nat.reduceLT, Nat.reduceLeDiff, Nat.reduceBEq, if_true, if_false, implies_true, Option.isSome_none, Option.isSome_some, List.nil_append, List.cons_append, List.append_nil, List.map_cons, List.map_nil, List.toList_toArray, Option.getD_some, Option.getD_none, Option.map_some, Option.map_none, Option.bind_some, Option.bind_none, List.length_cons, List.length_nil, Bool.cond_true, Bool.cond_false, Array.toList_append, List.filterMap_cons, List.filterMap_nil, List.all_nil, List.all_cons, List.any_cons, List.any_nil, List.map_append, List.getElem?_toArray, List.getElem?_cons_zero, List.getElem?_cons_succ, Option.toArray_some, Option.toArray_none, List.contains_cons, List.contains_nil, List.head?_cons, List.drop_zero, List.drop_succ_cons, List.take_succ_cons, List.take_zero, List.set_cons_zero, List.set_cons_succ, List.length_map, List.getElem?_nil, orcP8, c21, zf, plainL, plainCell]
    refine hK _ ?_
    clear hK K
    refine PWp.block_l fun Qq2 hq2n hq2x hq2r hq2e => ?_
    refine PWp.loop_k (fun x : Nat × List G × Int => [(.S 0, .av (.pv (.str t))), (.S 5, .av (.rf (.RS 5 0) 0)), (.S 6, .av (.pv (.int .i64 x.1))), (.S 7, .av (.pv (.int .i64 x.2.2))), (.RS 5 0, .rw 0 true 52 (gRows x.2.1))]) (fun x => x.1 ≤ t.length ∧ parseL t = parseW (splitC (t.drop x.1)) x.2.1 x.2.2 x.1 ∧ x.2.1.length ≤ 1024) (fun x => t.length - x.1) ((0, [], -1)) (⟨Nat.zero_le _, hp, by simp⟩) ?_ ?_
    · repeat simp only [pwf, List.drop_zero, List.drop_succ_cons, List.take_succ_cons, List.take_zero, List.getElem?_cons_zero, List.getElem?_cons_succ, List.getElem?_nil, Nat.sub_self, reduceIte, reduceCtorEq, Nat.reduceEqDiff, Nat.reduceAdd, Nat.reduceMul, Nat.reduceSub, Nat.reduceLT, Nat.reduceLeDiff, Nat.reduceBEq, if_true, if_false, implies_true, Option.isSome_none, Option.isSome_some, List.nil_append, List.cons_append, List.append_nil, List.map_cons, List.map_nil, List.toList_toArray, Option.getD_some, Option.getD_none, Option.map_some, Option.map_none, Option.bind_some, Option.bind_none, List.length_cons, List.length_nil, Bool.cond_true, Bool.cond_false, Array.toList_append, List.contains_cons, List.contains_nil, zf, plainL, plainCell]
      first | done | trivial | rfl | (simp; done)
    rintro ⟨a, acc, last⟩ ⟨ha, hinv, hacc⟩ J1 hJ1
    change a ≤ t.length at ha
    change parseL t = parseW (splitC (t.drop a)) acc last a at hinv
    change acc.length ≤ 1024 at hacc
    refine PWp.block_k fun Qq3 hq3n hq3x hq3r hq3e => ?_
    refine PWp.seq_rg [0, 5, 6, 7, 8] orcP8_ok (mv := mv) (by decide) fun K hK => ?_
    simp only [pwr, mv, List.getD_nil, List.drop_nil, List.head?_nil, Int.natCast_zero, Int.reduceLT, Int.reduceSub, Int.reduceNeg, Int.reduceToNat, decide_false, decide_true, gt_iff_lt, Int.lt_irrefl, ne_eq, not_false_eq_true, not_true_eq_false, reduceIte, reduceCtorEq, Nat.reduceEqDiff, Nat.reduceAdd, Nat.reduceMul, Nat.reduceSub, Nat.reduceLT, Nat.reduceLeDiff, Nat.reduceBEq, if_true, if_false, implies_true, Option.isSome_none, Option.isSome_some, List.nil_append, List.cons_append, List.append_nil, List.map_cons, List.map_nil, List.toList_toArray, Option.getD_some, Option.getD_none, Option.map_some, Option.map_none, Option.bind_some, Option.bind_none, List.length_cons, List.length_nil, Bool.cond_true, Bool.cond_false, Array.toList_append, List.filterMap_cons, List.filterMap_nil, List.all_nil, List.all_cons, List.any_cons, List.any_nil, List.map_append, List.getElem?_toArray, List.getElem?_cons_zero, List.getElem?_cons_succ, Option.toArray_some, Option.toArray_none, List.contains_cons, List.contains_nil, List.head?_cons, List.drop_zero, List.drop_succ_cons, List.take_succ_cons, List.take_zero, List.set_cons_zero, List.set_cons_succ, List.length_map, List.getElem?_nil, orcP8, c21, zf, plainL, plainCell]
    refine hK _ ?_
    clear hK K
    refine PWp.seq_k fun K4 hK4 => ?_
    refine PWp.block_k fun Qq5 hq5n hq5x hq5r hq5e => ?_
    refine PWp.loop_k (fun k : Nat => [(.S 0, .av (.pv (.str t))), (.S 5, .av (.rf (.RS 5 0) 0)), (.S 6, .av (.pv (.int .i64 a))), (.S 7, .av (.pv (.int .i64 last))), (.S 8, .av (.pv (.int .i64 k))), (.RS 5 0, .rw 0 true 52 (gRows acc))]) (fun k => a ≤ k ∧ k ≤ t.length ∧ ∀ b ∈ (t.take k).drop a, b ≠ 32) (fun k => t.length - k) (a) (⟨Nat.le_refl _, ha, by rw [List.drop_eq_nil_of_le (by rw [List.length_take]; omega)]; simp⟩) ?_ ?_
    · repeat simp only [pwf, List.drop_zero, List.drop_succ_cons, List.take_succ_cons, List.take_zero, List.getElem?_cons_zero, List.getElem?_cons_succ, List.getElem?_nil, Nat.sub_self, reduceIte, reduceCtorEq, Nat.reduceEqDiff, Nat.reduceAdd, Nat.reduceMul, Nat.reduceSub, Nat.reduceLT, Nat.reduceLeDiff, Nat.reduceBEq, if_true, if_false, implies_true, Option.isSome_none, Option.isSome_some, List.nil_append, List.cons_append, List.append_nil, List.map_cons, List.map_nil, List.toList_toArray, Option.getD_some, Option.getD_none, Option.map_some, Option.map_none, Option.bind_some, Option.bind_none, List.length_cons, List.length_nil, Bool.cond_true, Bool.cond_false, Array.toList_append, List.contains_cons, List.contains_nil, zf, plainL, plainCell]
      first | done | trivial | rfl | (simp; done)
    rintro k ⟨hk1, hk2, hkn⟩ J2 hJ2
    refine PWp.seq_k fun K6 hK6 => ?_
    refine PWp.seq_rg [0, 5, 6, 7, 8, 23] orcP8_ok (mv := mv) (by decide) fun K hK => ?_
    simp only [pwr, mv, List.getD_nil, List.drop_nil, List.head?_nil, Int.natCast_zero, Int.reduceLT, Int.reduceSub, Int.reduceNeg, Int.reduceToNat, decide_false, decide_true, gt_iff_lt, Int.lt_irrefl, ne_eq, not_false_eq_true, not_true_eq_false, reduceIte, reduceCtorEq, Nat.reduceEqDiff, Nat.reduceAdd, Nat.reduceMul, Nat.reduceSub, Nat.reduceLT, Nat.reduceLeDiff, Nat.reduceBEq, if_true, if_false, implies_true, Option.isSome_none, Option.isSome_some, List.nil_append, List.cons_append, List.append_nil, List.map_cons, List.map_nil, List.toList_toArray, Option.getD_some, Option.getD_none, Option.map_some, Option.map_none, Option.bind_some, Option.bind_none, List.length_cons, List.length_nil, Bool.cond_true, Bool.cond_false, Array.toList_append, List.filterMap_cons, List.filterMap_nil, List.all_nil, List.all_cons, List.any_cons, List.any_nil, List.map_append, List.getElem?_toArray, List.getElem?_cons_zero, List.getElem?_cons_succ, Option.toArray_some, Option.toArray_none, List.contains_cons, List.contains_nil, List.head?_cons, List.drop_zero, List.drop_succ_cons, List.take_succ_cons, List.take_zero, List.set_cons_zero, List.set_cons_succ, List.length_map, List.getElem?_nil, orcP8, c21, zf, plainL, plainCell]
    repeat' with_reducible refine And.intro ?_ ?_
    all_goals try (first | omega | rfl | ((with_reducible refine drawGoal ?_); exact rfl) | (simp only [inR]; omega) | (intro y hy; simp only [List.mem_singleton] at hy; subst hy; rfl) | (intro y hy; cases hy; done) | (simp only [List.length_append, List.length_map, List.length_cons, List.length_nil]; omega) | (intro h; simp only [inR]; omega) | (intro h; simp only [List.length_append, List.length_map, List.length_cons, List.length_nil]; omega) | (intro h; exact h.elim))
    refine hK _ ?_
    clear hK K
    refine PWp.cond (by rfl) (fun hb23 => ?_) (fun hb23 => ?_)
    ·
     try (cases hb23; done)
     all_goals
      refine PWp.skip (hK6 _ ?_)
      refine PWp.block_k fun Qq7 hq7n hq7x hq7r hq7e => ?_
      refine PWp.rg [0, 5, 6, 7, 8] orcP8_ok (mv := mv) (by decide) ?_
      simp only [pwr, mv, List.getD_nil, List.drop_nil, List.head?_nil, Int.natCast_zero, Int.reduceLT, Int.reduceSub, Int.reduceNeg, Int.reduceToNat, decide_false, decide_true, gt_iff_lt, Int.lt_irrefl, ne_eq, not_false_eq_true, not_true_eq_false, reduceIte, reduceCtorEq, Nat.reduceEqDiff, Nat.reduceAdd, Nat.reduceMul, Nat.reduceSub, Nat.reduceLT, Nat.reduceLeDiff, Nat.reduceBEq, if_true, if_false, implies_true, Option.isSome_none, Option.isSome_some, List.nil_append, List.cons_append, List.append_nil, List.map_cons, List.map_nil, List.toList_toArray, Option.getD_some, Option.getD_none, Option.map_some, Option.map_none, Option.bind_some, Option.bind_none, List.length_cons, List.length_nil, Bool.cond_true, Bool.cond_false, Array.toList_append, List.filterMap_cons, List.filterMap_nil, List.all_nil, List.all_cons, List.any_cons, List.any_nil, List.map_append, List.getElem?_toArray, List.getElem?_cons_zero, List.getElem?_cons_succ, Option.toArray_some, Option.toArray_none, List.contains_cons, List.contains_nil, List.head?_cons, List.drop_zero, List.drop_succ_cons, List.take_succ_cons, List.take_zero, List.set_cons_zero, List.set_cons_succ, List.length_map, List.getElem?_nil, orcP8, c21, zf, plainL, plainCell]
      repeat' with_reducible refine And.intro ?_ ?_
      all_goals try (first | omega | rfl | ((with_reducible refine drawGoal ?_); exact rfl) | (simp only [inR]; omega) | (intro y hy; simp only [List.mem_singleton] at hy; subst hy; rfl) | (intro y hy; cases hy; done) | (simp only [List.length_append, List.length_map, List.length_cons, List.length_nil]; omega) | (intro h; simp only [inR]; omega) | (intro h; simp only [List.length_append, List.length_map, List.length_cons, List.length_nil]; omega) | (intro h; exact h.elim))
      refine hq7n _ (hJ2 _ (k + 1) ?_ ?_ ?_)
      · have hkl : k < t.length := by simp only [Bool.and_eq_true, decide_eq_true_eq] at hb23; omega
        refine ⟨by omega, hkl, fun b hb => ?_⟩
        rw [word_snoc hk1 hkl] at hb
        rcases List.mem_append.1 hb with h | h
        · exact hkn b h
        · simp only [List.mem_singleton] at h
          subst h
          intro h32
          have h1 := (Bool.and_eq_true _ _ ▸ hb23).2
          rw [getD_at hkl, h32] at h1
          simp at h1
      · (simp only [Bool.and_eq_true, decide_eq_true_eq] at hb23; omega)
      · repeat simp only [pwf, List.drop_zero, List.drop_succ_cons, List.take_succ_cons, List.take_zero, List.getElem?_cons_zero, List.getElem?_cons_succ, List.getElem?_nil, Nat.sub_self, reduceIte, reduceCtorEq, Nat.reduceEqDiff, Nat.reduceAdd, Nat.reduceMul, Nat.reduceSub, Nat.reduceLT, Nat.reduceLeDiff, Nat.reduceBEq, if_true, if_false, implies_true, Option.isSome_none, Option.isSome_some, List.nil_append, List.cons_append, List.append_nil, List.map_cons, List.map_nil, List.toList_toArray, Option.getD_some, Option.getD_none, Option.map_some, Option.map_none, Option.bind_some, Option.bind_none, List.length_cons, List.length_nil, Bool.cond_true, Bool.cond_false, Array.toList_append, List.contains_cons, List.contains_nil, zf, plainL, plainCell]
        simp
    ·
     try (cases hb23; done)
     all_goals
      refine PWp.exit (hq5x _ (hK4 _ ?_))
      refine PWp.seq_k fun K8 hK8 => ?_
      have he : ∀ h : k < t.length, t[k] = 32 := by
        intro h
        rw [getD_at h] at hb23
        have h1 : decide ((k : Int) < (t.length : Int)) = true := by simpa using h
        rw [h1, Bool.true_and] at hb23
        rw [← UInt8.toNat_inj]
        show _ = 32
        have : (t[k].toNat : Int) = 32 := by simpa using hb23
        omega
      have hsp := split_word hk1 hk2 hkn he
      have hwl : ((t.take k).drop a).length = k - a := by rw [List.length_drop, List.length_take]; omega
      rw [hsp, parseW] at hinv
      generalize hwd : (t.take k).drop a = wd at *
      refine PWp.seq_rg [0, 5, 6, 7, 8, 28] orcP8_ok (mv := mv) (by decide) fun K hK => ?_
      simp only [pwr, mv, List.getD_nil, List.drop_nil, List.head?_nil, Int.natCast_zero, Int.reduceLT, Int.reduceSub, Int.reduceNeg, Int.reduceToNat, decide_false, decide_true, gt_iff_lt, Int.lt_irrefl, ne_eq, not_false_eq_true, not_true_eq_false, reduceIte, reduceCtorEq, Nat.reduceEqDiff, Nat.reduceAdd, Nat.reduceMul, Nat.reduceSub, Nat.reduceLT, Nat.reduceLeDiff, Nat.reduceBEq, if_true, if_false, implies_true, Option.isSome_none, Option.isSome_some, List.nil_append, List.cons_append, List.append_nil, List.map_cons, List.map_nil, List.toList_toArray, Option.getD_some, Option.getD_none, Option.map_some, Option.map_none, Option.bind_some, Option.bind_none, List.length_cons, List.length_nil, Bool.cond_true, Bool.cond_false, Array.toList_append, List.filterMap_cons, List.filterMap_nil, List.all_nil, List.all_cons, List.any_cons, List.any_nil, List.map_append, List.getElem?_toArray, List.getElem?_cons_zero, List.getElem?_cons_succ, Option.toArray_some, Option.toArray_none, List.contains_cons, List.contains_nil, List.head?_cons, List.drop_zero, List.drop_succ_cons, List.take_succ_cons, List.take_zero, List.set_cons_zero, List.set_cons_succ, List.length_map, List.getElem?_nil, orcP8, c21, zf, plainL, plainCell]
      refine hK _ ?_
      clear hK K
      refine PWp.cond (by rfl) (fun hb28 => ?_) (fun hb28 => ?_)
      ·
       try (cases hb28; done)
       all_goals
        refine PWp.seq_rg [2, 3, 4] orcP8_ok (mv := mv) (by decide) fun K hK => ?_
        simp only [pwr, mv, List.getD_nil, List.drop_nil, List.head?_nil, Int.natCast_zero, Int.reduceLT, Int.reduceSub, Int.reduceNeg, Int.reduceToNat, decide_false, decide_true, gt_iff_lt, Int.lt_irrefl, ne_eq, not_false_eq_true, not_true_eq_false, reduceIte, reduceCtorEq, Nat.reduceEqDiff, Nat.reduceAdd, Nat.reduceMul, Nat.reduceSub, Nat.reduceLT, Nat.reduceLeDiff, Nat.reduceBEq, if_true, if_false, implies_true, Option.isSome_none, Option.isSome_some, List.nil_append, List.cons_append, List.append_nil, List.map_cons, List.map_nil, List.toList_toArray, Option.getD_some, Option.getD_none, Option.map_some, Option.map_none, Option.bind_some, Option.bind_none, List.length_cons, List.length_nil, Bool.cond_true, Bool.cond_false, Array.toList_append, List.filterMap_cons, List.filterMap_nil, List.all_nil, List.all_cons, List.any_cons, List.any_nil, List.map_append, List.getElem?_toArray, List.getElem?_cons_zero, List.getElem?_cons_succ, Option.toArray_some, Option.toArray_none, List.contains_cons, List.contains_nil, List.head?_cons, List.drop_zero, List.drop_succ_cons, List.take_succ_cons, List.take_zero, List.set_cons_zero, List.set_cons_succ, List.length_map, List.getElem?_nil, orcP8, c21, zf, plainL, plainCell]
        refine hK _ ?_
        clear hK K
        refine PWp.ret (hq3r _ (hq2r _ (hQ2 _ ?_)))
        simp only [pwf, List.drop_zero, List.drop_succ_cons, List.take_succ_cons, List.take_zero, List.getElem?_cons_zero, List.getElem?_cons_succ, List.getElem?_nil, Nat.sub_self, reduceIte, reduceCtorEq, Nat.reduceEqDiff, Nat.reduceAdd, Nat.reduceMul, Nat.reduceSub, Nat.reduceLT, Nat.reduceLeDiff, Nat.reduceBEq, if_true, if_false, implies_true, Option.isSome_none, Option.isSome_some, List.nil_append, List.cons_append, List.append_nil, List.map_cons, List.map_nil, List.toList_toArray, Option.getD_some, Option.getD_none, Option.map_some, Option.map_none, Option.bind_some, Option.bind_none, List.length_cons, List.length_nil, Bool.cond_true, Bool.cond_false, Array.toList_append, List.contains_cons, List.contains_nil, zf, plainL, plainCell, Tryz.results7]
        repeat simp only [pwf, List.drop_zero, List.drop_succ_cons, List.take_succ_cons, List.take_zero, List.getElem?_cons_zero, List.getElem?_cons_succ, List.getElem?_nil, Nat.sub_self, reduceIte, reduceCtorEq, Nat.reduceEqDiff, Nat.reduceAdd, Nat.reduceMul, Nat.reduceSub, Nat.reduceLT, Nat.reduceLeDiff, Nat.reduceBEq, if_true, if_false, implies_true, Option.isSome_none, Option.isSome_some, List.nil_append, List.cons_append, List.append_nil, List.map_cons, List.map_nil, List.toList_toArray, Option.getD_some, Option.getD_none, Option.map_some, Option.map_none, Option.bind_some, Option.bind_none, List.length_cons, List.length_nil, Bool.cond_true, Bool.cond_false, Array.toList_append, List.contains_cons, List.contains_nil, zf, plainL, plainCell]
        rw [if_pos (by simp at hb28; omega)] at hinv
        rw [hinv]; exact ⟨rfl, rfl, rfl⟩
      ·
       try (cases hb28; done)
       all_goals
        refine PWp.skip (hK8 _ ?_)
        have hal : ¬ acc.length = 1024 := by simp at hb28; omega
        rw [if_neg hal] at hinv
        refine PWp.seq_rg [0, 5, 6, 8, 9, 10] orcP8_ok (mv := mv) (by decide) fun K hK => ?_
        simp only [pwr, mv, List.getD_nil, List.drop_nil, List.head?_nil, Int.natCast_zero, Int.reduceLT, Int.reduceSub, Int.reduceNeg, Int.reduceToNat, decide_false, decide_true, gt_iff_lt, Int.lt_irrefl, ne_eq, not_false_eq_true, not_true_eq_false, reduceIte, reduceCtorEq, Nat.reduceEqDiff, Nat.reduceAdd, Nat.reduceMul, Nat.reduceSub, Nat.reduceLT, Nat.reduceLeDiff, Nat.reduceBEq, if_true, if_false, implies_true, Option.isSome_none, Option.isSome_some, List.nil_append, List.cons_append, List.append_nil, List.map_cons, List.map_nil, List.toList_toArray, Option.getD_some, Option.getD_none, Option.map_some, Option.map_none, Option.bind_some, Option.bind_none, List.length_cons, List.length_nil, Bool.cond_true, Bool.cond_false, Array.toList_append, List.filterMap_cons, List.filterMap_nil, List.all_nil, List.all_cons, List.any_cons, List.any_nil, List.map_append, List.getElem?_toArray, List.getElem?_cons_zero, List.getElem?_cons_succ, Option.toArray_some, Option.toArray_none, List.contains_cons, List.contains_nil, List.head?_cons, List.drop_zero, List.drop_succ_cons, List.take_succ_cons, List.take_zero, List.set_cons_zero, List.set_cons_succ, List.length_map, List.getElem?_nil, orcP8, c21, zf, plainL, plainCell, hwd]
        repeat' with_reducible refine And.intro ?_ ?_
        all_goals try (omega)
        all_goals try (first | omega | rfl | ((with_reducible refine drawGoal ?_); exact rfl) | (simp only [inR]; omega) | (intro y hy; simp only [List.mem_singleton] at hy; subst hy; rfl) | (intro y hy; cases hy; done) | (simp only [List.length_append, List.length_map, List.length_cons, List.length_nil]; omega) | (intro h; simp only [inR]; omega) | (intro h; simp only [List.length_append, List.length_map, List.length_cons, List.length_nil]; omega) | (intro h; exact h.elim))
        refine hK _ ?_
        clear hK K
        refine PWp.seq_k fun K9 hK9 => ?_
        refine PWp.seq_rg [0, 5, 6, 8, 9, 10, 40] orcP8_ok (mv := mv) (by decide) fun K hK => ?_
        simp only [pwr, mv, List.getD_nil, List.drop_nil, List.head?_nil, Int.natCast_zero, Int.reduceLT, Int.reduceSub, Int.reduceNeg, Int.reduceToNat, decide_false, decide_true, gt_iff_lt, Int.lt_irrefl, ne_eq, not_false_eq_true, not_true_eq_false, reduceIte, reduceCtorEq, Nat.reduceEqDiff, Nat.reduceAdd, Nat.reduceMul, Nat.reduceSub, Nat.reduceLT, Nat.reduceLeDiff, Nat.reduceBEq, if_true, if_false, implies_true, Option.isSome_none, Option.isSome_some, List.nil_append, List.cons_append, List.append_nil, List.map_cons, List.map_nil, List.toList_toArray, Option.getD_some, Option.getD_none, Option.map_some, Option.map_none, Option.bind_some, Option.bind_none, List.length_cons, List.length_nil, Bool.cond_true, Bool.cond_false, Array.toList_append, List.filterMap_cons, List.filterMap_nil, List.all_nil, List.all_cons, List.any_cons, List.any_nil, List.map_append, List.getElem?_toArray, List.getElem?_cons_zero, List.getElem?_cons_succ, Option.toArray_some, Option.toArray_none, List.contains_cons, List.contains_nil, List.head?_cons, List.drop_zero, List.drop_succ_cons, List.take_succ_cons, List.take_zero, List.set_cons_zero, List.set_cons_succ, List.length_map, List.getElem?_nil, orcP8, c21, zf, plainL, plainCell]
        refine hK _ ?_
        clear hK K
        refine PWp.cond (by rfl) (fun hb40 => ?_) (fun hb40 => ?_)
        ·
         try (cases hb40; done)
         all_goals
          refine PWp.seq_rg [2, 3, 4] orcP8_ok (mv := mv) (by decide) fun K hK => ?_
          simp only [pwr, mv, List.getD_nil, List.drop_nil, List.head?_nil, Int.natCast_zero, Int.reduceLT, Int.reduceSub, Int.reduceNeg, Int.reduceToNat, decide_false, decide_true, gt_iff_lt, Int.lt_irrefl, ne_eq, not_false_eq_true, not_true_eq_false, reduceIte, reduceCtorEq, Nat.reduceEqDiff, Nat.reduceAdd, Nat.reduceMul, Nat.reduceSub, Nat.reduceLT, Nat.reduceLeDiff, Nat.reduceBEq, if_true, if_false, implies_true, Option.isSome_none, Option.isSome_some, List.nil_append, List.cons_append, List.append_nil, List.map_cons, List.map_nil, List.toList_toArray, Option.getD_some, Option.getD_none, Option.map_some, Option.map_none, Option.bind_some, Option.bind_none, List.length_cons, List.length_nil, Bool.cond_true, Bool.cond_false, Array.toList_append, List.filterMap_cons, List.filterMap_nil, List.all_nil, List.all_cons, List.any_cons, List.any_nil, List.map_append, List.getElem?_toArray, List.getElem?_cons_zero, List.getElem?_cons_succ, Option.toArray_some, Option.toArray_none, List.contains_cons, List.contains_nil, List.head?_cons, List.drop_zero, List.drop_succ_cons, List.take_succ_cons, List.take_zero, List.set_cons_zero, List.set_cons_succ, List.length_map, List.getElem?_nil, orcP8, c21, zf, plainL, plainCell]
          refine hK _ ?_
          clear hK K
          refine PWp.ret (hq3r _ (hq2r _ (hQ2 _ ?_)))
          simp only [pwf, List.drop_zero, List.drop_succ_cons, List.take_succ_cons, List.take_zero, List.getElem?_cons_zero, List.getElem?_cons_succ, List.getElem?_nil, Nat.sub_self, reduceIte, reduceCtorEq, Nat.reduceEqDiff, Nat.reduceAdd, Nat.reduceMul, Nat.reduceSub, Nat.reduceLT, Nat.reduceLeDiff, Nat.reduceBEq, if_true, if_false, implies_true, Option.isSome_none, Option.isSome_some, List.nil_append, List.cons_append, List.append_nil, List.map_cons, List.map_nil, List.toList_toArray, Option.getD_some, Option.getD_none, Option.map_some, Option.map_none, Option.bind_some, Option.bind_none, List.length_cons, List.length_nil, Bool.cond_true, Bool.cond_false, Array.toList_append, List.contains_cons, List.contains_nil, zf, plainL, plainCell, Tryz.results7]
          repeat simp only [pwf, List.drop_zero, List.drop_succ_cons, List.take_succ_cons, List.take_zero, List.getElem?_cons_zero, List.getElem?_cons_succ, List.getElem?_nil, Nat.sub_self, reduceIte, reduceCtorEq, Nat.reduceEqDiff, Nat.reduceAdd, Nat.reduceMul, Nat.reduceSub, Nat.reduceLT, Nat.reduceLeDiff, Nat.reduceBEq, if_true, if_false, implies_true, Option.isSome_none, Option.isSome_some, List.nil_append, List.cons_append, List.append_nil, List.map_cons, List.map_nil, List.toList_toArray, Option.getD_some, Option.getD_none, Option.map_some, Option.map_none, Option.bind_some, Option.bind_none, List.length_cons, List.length_nil, Bool.cond_true, Bool.cond_false, Array.toList_append, List.contains_cons, List.contains_nil, zf, plainL, plainCell]
          rw [if_pos (by simpa using hb40)] at hinv
          rw [hinv]; exact ⟨rfl, rfl, rfl⟩
        ·
         try (cases hb40; done)
         all_goals
          refine PWp.skip (hK9 _ ?_)
          rw [if_neg (by simpa using hb40)] at hinv
          refine PWp.seq_rg [0, 5, 8, 9] orcP8_ok (mv := mv) (by decide) fun K hK => ?_
          simp only [pwr, mv, List.getD_nil, List.drop_nil, List.head?_nil, Int.natCast_zero, Int.reduceLT, Int.reduceSub, Int.reduceNeg, Int.reduceToNat, decide_false, decide_true, gt_iff_lt, Int.lt_irrefl, ne_eq, not_false_eq_true, not_true_eq_false, reduceIte, reduceCtorEq, Nat.reduceEqDiff, Nat.reduceAdd, Nat.reduceMul, Nat.reduceSub, Nat.reduceLT, Nat.reduceLeDiff, Nat.reduceBEq, if_true, if_false, implies_true, Option.isSome_none, Option.isSome_some, List.nil_append, List.cons_append, List.append_nil, List.map_cons, List.map_nil, List.toList_toArray, Option.getD_some, Option.getD_none, Option.map_some, Option.map_none, Option.bind_some, Option.bind_none, List.length_cons, List.length_nil, Bool.cond_true, Bool.cond_false, Array.toList_append, List.filterMap_cons, List.filterMap_nil, List.all_nil, List.all_cons, List.any_cons, List.any_nil, List.map_append, List.getElem?_toArray, List.getElem?_cons_zero, List.getElem?_cons_succ, Option.toArray_some, Option.toArray_none, List.contains_cons, List.contains_nil, List.head?_cons, List.drop_zero, List.drop_succ_cons, List.take_succ_cons, List.take_zero, List.set_cons_zero, List.set_cons_succ, List.length_map, List.getElem?_nil, orcP8, c21, zf, plainL, plainCell]
          repeat' with_reducible refine And.intro ?_ ?_
          all_goals try (omega)
          all_goals try (first | omega | rfl | ((with_reducible refine drawGoal ?_); exact rfl) | (simp only [inR]; omega) | (intro y hy; simp only [List.mem_singleton] at hy; subst hy; rfl) | (intro y hy; cases hy; done) | (simp only [List.length_append, List.length_map, List.length_cons, List.length_nil]; omega) | (intro h; simp only [inR]; omega) | (intro h; simp only [List.length_append, List.length_map, List.length_cons, List.length_nil]; omega) | (intro h; exact h.elim))
          refine hK _ ?_
          clear hK K
          refine PWp.seq_rg [0, 5, 7, 8] orcP8_ok (mv := mv) (by decide) fun K hK => ?_
          simp only [pwr, mv, List.getD_nil, List.drop_nil, List.head?_nil, Int.natCast_zero, Int.reduceLT, Int.reduceSub, Int.reduceNeg, Int.reduceToNat, decide_false, decide_true, gt_iff_lt, Int.lt_irrefl, ne_eq, not_false_eq_true, not_true_eq_false, reduceIte, reduceCtorEq, Nat.reduceEqDiff, Nat.reduceAdd, Nat.reduceMul, Nat.reduceSub, Nat.reduceLT, Nat.reduceLeDiff, Nat.reduceBEq, if_true, if_false, implies_true, Option.isSome_none, Option.isSome_some, List.nil_append, List.cons_append, List.append_nil, List.map_cons, List.map_nil, List.toList_toArray, Option.getD_some, Option.getD_none, Option.map_some, Option.map_none, Option.bind_some, Option.bind_none, List.length_cons, List.length_nil, Bool.cond_true, Bool.cond_false, Array.toList_append, List.filterMap_cons, List.filterMap_nil, List.all_nil, List.all_cons, List.any_cons, List.any_nil, List.map_append, List.getElem?_toArray, List.getElem?_cons_zero, List.getElem?_cons_succ, Option.toArray_some, Option.toArray_none, List.contains_cons, List.contains_nil, List.head?_cons, List.drop_zero, List.drop_succ_cons, List.take_succ_cons, List.take_zero, List.set_cons_zero, List.set_cons_succ, List.length_map, List.getElem?_nil, orcP8, c21, zf, plainL, plainCell]
          refine hK _ ?_
          clear hK K
          refine PWp.seq_k fun K10 hK10 => ?_
          refine PWp.seq_rg [0, 5, 7, 8, 52] orcP8_ok (mv := mv) (by decide) fun K hK => ?_
          simp only [pwr, mv, List.getD_nil, List.drop_nil, List.head?_nil, Int.natCast_zero, Int.reduceLT, Int.reduceSub, Int.reduceNeg, Int.reduceToNat, decide_false, decide_true, gt_iff_lt, Int.lt_irrefl, ne_eq, not_false_eq_true, not_true_eq_false, reduceIte, reduceCtorEq, Nat.reduceEqDiff, Nat.reduceAdd, Nat.reduceMul, Nat.reduceSub, Nat.reduceLT, Nat.reduceLeDiff, Nat.reduceBEq, if_true, if_false, implies_true, Option.isSome_none, Option.isSome_some, List.nil_append, List.cons_append, List.append_nil, List.map_cons, List.map_nil, List.toList_toArray, Option.getD_some, Option.getD_none, Option.map_some, Option.map_none, Option.bind_some, Option.bind_none, List.length_cons, List.length_nil, Bool.cond_true, Bool.cond_false, Array.toList_append, List.filterMap_cons, List.filterMap_nil, List.all_nil, List.all_cons, List.any_cons, List.any_nil, List.map_append, List.getElem?_toArray, List.getElem?_cons_zero, List.getElem?_cons_succ, Option.toArray_some, Option.toArray_none, List.contains_cons, List.contains_nil, List.head?_cons, List.drop_zero, List.drop_succ_cons, List.take_succ_cons, List.take_zero, List.set_cons_zero, List.set_cons_succ, List.length_map, List.getElem?_nil, orcP8, c21, zf, plainL, plainCell]
          refine hK _ ?_
          clear hK K
          refine PWp.cond (by rfl) (fun hb52 => ?_) (fun hb52 => ?_)
          ·
           try (cases hb52; done)
           all_goals
            refine PWp.seq_rg [2, 3, 4] orcP8_ok (mv := mv) (by decide) fun K hK => ?_
            simp only [pwr, mv, List.getD_nil, List.drop_nil, List.head?_nil, Int.natCast_zero, Int.reduceLT, Int.reduceSub, Int.reduceNeg, Int.reduceToNat, decide_false, decide_true, gt_iff_lt, Int.lt_irrefl, ne_eq, not_false_eq_true, not_true_eq_false, reduceIte, reduceCtorEq, Nat.reduceEqDiff, Nat.reduceAdd, Nat.reduceMul, Nat.reduceSub, Nat.reduceLT, Nat.reduceLeDiff, Nat.reduceBEq, if_true, if_false, implies_true, Option.isSome_none, Option.isSome_some, List.nil_append, List.cons_append, List.append_nil, List.map_cons, List.map_nil, List.toList_toArray, Option.getD_some, Option.getD_none, Option.map_some, Option.map_none, Option.bind_some, Option.bind_none, List.length_cons, List.length_nil, Bool.cond_true, Bool.cond_false, Array.toList_append, List.filterMap_cons, List.filterMap_nil, List.all_nil, List.all_cons, List.any_cons, List.any_nil, List.map_append, List.getElem?_toArray, List.getElem?_cons_zero, List.getElem?_cons_succ, Option.toArray_some, Option.toArray_none, List.contains_cons, List.contains_nil, List.head?_cons, List.drop_zero, List.drop_succ_cons, List.take_succ_cons, List.take_zero, List.set_cons_zero, List.set_cons_succ, List.length_map, List.getElem?_nil, orcP8, c21, zf, plainL, plainCell]
            refine hK _ ?_
            clear hK K
            refine PWp.ret (hq3r _ (hq2r _ (hQ2 _ ?_)))
            simp only [pwf, List.drop_zero, List.drop_succ_cons, List.take_succ_cons, List.take_zero, List.getElem?_cons_zero, List.getElem?_cons_succ, List.getElem?_nil, Nat.sub_self, reduceIte, reduceCtorEq, Nat.reduceEqDiff, Nat.reduceAdd, Nat.reduceMul, Nat.reduceSub, Nat.reduceLT, Nat.reduceLeDiff, Nat.reduceBEq, if_true, if_false, implies_true, Option.isSome_none, Option.isSome_some, List.nil_append, List.cons_append, List.append_nil, List.map_cons, List.map_nil, List.toList_toArray, Option.getD_some, Option.getD_none, Option.map_some, Option.map_none, Option.bind_some, Option.bind_none, List.length_cons, List.length_nil, Bool.cond_true, Bool.cond_false, Array.toList_append, List.contains_cons, List.contains_nil, zf, plainL, plainCell, Tryz.results7]
            repeat simp only [pwf, List.drop_zero, List.drop_succ_cons, List.take_succ_cons, List.take_zero, List.getElem?_cons_zero, List.getElem?_cons_succ, List.getElem?_nil, Nat.sub_self, reduceIte, reduceCtorEq, Nat.reduceEqDiff, Nat.reduceAdd, Nat.reduceMul, Nat.reduceSub, Nat.reduceLT, Nat.reduceLeDiff, Nat.reduceBEq, if_true, if_false, implies_true, Option.isSome_none, Option.isSome_some, List.nil_append, List.cons_append, List.append_nil, List.map_cons, List.map_nil, List.toList_toArray, Option.getD_some, Option.getD_none, Option.map_some, Option.map_none, Option.bind_some, Option.bind_none, List.length_cons, List.length_nil, Bool.cond_true, Bool.cond_false, Array.toList_append, List.contains_cons, List.contains_nil, zf, plainL, plainCell]
            have hkl : ¬ k < t.length := by simp at hb52; omega
            rw [if_neg hkl, parseW] at hinv
            rw [hinv]
            exact ⟨by simp [gRow], rfl, rfl⟩
          ·
           try (cases hb52; done)
           all_goals
            refine PWp.skip (hK10 _ ?_)
            have hkl : k < t.length := by simp at hb52; omega
            rw [if_pos hkl] at hinv
            refine PWp.rg [0, 5, 6, 7] orcP8_ok (mv := mv) (by decide) ?_
            simp only [pwr, mv, List.getD_nil, List.drop_nil, List.head?_nil, Int.natCast_zero, Int.reduceLT, Int.reduceSub, Int.reduceNeg, Int.reduceToNat, decide_false, decide_true, gt_iff_lt, Int.lt_irrefl, ne_eq, not_false_eq_true, not_true_eq_false, reduceIte, reduceCtorEq, Nat.reduceEqDiff, Nat.reduceAdd, Nat.reduceMul, Nat.reduceSub, Nat.reduceLT, Nat.reduceLeDiff, Nat.reduceBEq, if_true, if_false, implies_true, Option.isSome_none, Option.isSome_some, List.nil_append, List.cons_append, List.append_nil, List.map_cons, List.map_nil, List.toList_toArray, Option.getD_some, Option.getD_none, Option.map_some, Option.map_none, Option.bind_some, Option.bind_none, List.length_cons, List.length_nil, Bool.cond_true, Bool.cond_false, Array.toList_append, List.filterMap_cons, List.filterMap_nil, List.all_nil, List.all_cons, List.any_cons, List.any_nil, List.map_append, List.getElem?_toArray, List.getElem?_cons_zero, List.getElem?_cons_succ, Option.toArray_some, Option.toArray_none, List.contains_cons, List.contains_nil, List.head?_cons, List.drop_zero, List.drop_succ_cons, List.take_succ_cons, List.take_zero, List.set_cons_zero, List.set_cons_succ, List.length_map, List.getElem?_nil, orcP8, c21, zf, plainL, plainCell]
            repeat' with_reducible refine And.intro ?_ ?_
            all_goals try (omega)
            all_goals try (first | omega | rfl | ((with_reducible refine drawGoal ?_); exact rfl) | (simp only [inR]; omega) | (intro y hy; simp only [List.mem_singleton] at hy; subst hy; rfl) | (intro y hy; cases hy; done) | (simp only [List.length_append, List.length_map, List.length_cons, List.length_nil]; omega) | (intro h; simp only [inR]; omega) | (intro h; simp only [List.length_append, List.length_map, List.length_cons, List.length_nil]; omega) | (intro h; exact h.elim))
            refine hq3n _ (hJ1 _ ((k + 1, acc ++ [(itemL wd last).1], (itemL wd last).1.2)) ?_ ?_ ?_)
            · refine ⟨hkl, ?_, by show (acc ++ [_]).length ≤ 1024; simp only [List.length_append, List.length_singleton]; omega⟩
              show parseL t = parseW (splitC (t.drop (k + 1))) (acc ++ [(itemL wd last).1]) (itemL wd last).1.2 ((k + 1 : Nat) : Int)
              rw [hinv]
              congr 1
              omega
            · omega
            · repeat simp only [pwf, List.drop_zero, List.drop_succ_cons, List.take_succ_cons, List.take_zero, List.getElem?_cons_zero, List.getElem?_cons_succ, List.getElem?_nil, Nat.sub_self, reduceIte, reduceCtorEq, Nat.reduceEqDiff, Nat.reduceAdd, Nat.reduceMul, Nat.reduceSub, Nat.reduceLT, Nat.reduceLeDiff, Nat.reduceBEq, if_true, if_false, implies_true, Option.isSome_none, Option.isSome_some, List.nil_append, List.cons_append, List.append_nil, List.map_cons, List.map_nil, List.toList_toArray, Option.getD_some, Option.getD_none, Option.map_some, Option.map_none, Option.bind_some, Option.bind_none, List.length_cons, List.length_nil, Bool.cond_true, Bool.cond_false, Array.toList_append, List.contains_cons, List.contains_nil, zf, plainL, plainCell]
              simp [gRow]
theorem val_pos : ∀ (s : Bs) (a : Int), 1 ≤ a → s.all isDig = true → 1 ≤ s.foldl (fun n b => n * 10 + ((b.toNat : Int) - 48)) a
  | [], a, ha, _ => ha
  | b :: s, a, ha, h => by
    simp only [List.all_cons, Bool.and_eq_true] at h
    have hb := h.1
    unfold isDig at hb
    simp only [Bool.and_eq_true, decide_eq_true_eq, UInt8.le_iff_toNat_le, UInt8.reduceToNat] at hb
    exact val_pos s _ (by show 1 ≤ a * 10 + ((b.toNat : Int) - 48); omega) h.2
theorem dec_of_val : ∀ (k : Nat) (s : Bs), s.length ≤ k → s.all isDig = true → s ≠ [] → (1 < s.length → s.head? ≠ some 48) → Lib.decDigits (valD s).toNat = s
  | 0, s, hk, _, hne, _ => absurd (List.length_eq_zero_iff.1 (by omega)) hne
  | k + 1, s, hk, hd, hne, hh => by
    rcases List.eq_nil_or_concat s with rfl | ⟨r, b, rfl⟩
    · exact absurd rfl hne
    rw [List.concat_eq_append] at *
    rw [List.all_append] at hd
    simp only [Bool.and_eq_true, List.all_cons, List.all_nil, and_true] at hd
    obtain ⟨hr, hbd⟩ := hd
    have hb := hbd
    unfold isDig at hb
    simp only [Bool.and_eq_true, decide_eq_true_eq, UInt8.le_iff_toNat_le, UInt8.reduceToNat] at hb
    have eb : UInt8.ofNat (48 + (b.toNat - 48)) = b := by
      rw [show 48 + (b.toNat - 48) = b.toNat by omega]
      simp
    cases r with
    | nil =>
      have e : valD ([] ++ [b]) = (b.toNat : Int) - 48 := by rw [valD_snoc]; show (0 : Int) * 10 + _ = _; omega
      rw [e, Lib.decDigits, dif_pos (by omega), show ((b.toNat : Int) - 48).toNat = b.toNat - 48 by omega, eb]
      rfl
    | cons c r =>
      have hc : 1 ≤ valD (c :: r) := by
        have h1 := (List.all_eq_true.1 hr) c (by simp)
        have h48 : c ≠ 48 := fun e => hh (by simp) (by rw [e]; rfl)
        unfold isDig at h1
        simp only [Bool.and_eq_true, decide_eq_true_eq, UInt8.le_iff_toNat_le, UInt8.reduceToNat] at h1
        have h2 : c.toNat ≠ 48 := fun e => h48 (by rw [← UInt8.toNat_inj]; exact e)
        unfold valD
        rw [List.foldl_cons]
        refine val_pos r _ (by omega) ?_
        simp only [List.all_cons, Bool.and_eq_true] at hr
        exact hr.2
      have ih := dec_of_val k (c :: r) (by simp at hk ⊢; omega) hr (by simp) (fun _ => by
        have := hh (by simp)
        simpa using this)
      rw [valD_snoc, Lib.decDigits, dif_neg (by omega)]
      rw [show (valD (c :: r) * 10 + ((b.toNat : Int) - 48)).toNat / 10 = (valD (c :: r)).toNat by omega, show (valD (c :: r) * 10 + ((b.toNat : Int) - 48)).toNat % 10 = b.toNat - 48 by omega, ih, eb]
theorem itoa_num {s : Bs} {n : Int} (h : numL s = some n) : Lib.itoa n = s := by
  have hb := numL_bound h
  have e : Lib.itoa n = Lib.decDigits n.toNat := by unfold Lib.itoa; rw [if_neg (by omega)]
  rw [e]
  unfold numL at h
  split at h
  · cases h
  · rename_i hn
    cases h
    have hd : s.all isDig = true := by
      cases hh : s.all isDig
      · exact absurd (.inr (.inr (.inr (by simp [hh])))) hn
      · rfl
    exact dec_of_val _ s (Nat.le_refl _) hd (fun e => hn (.inl (by rw [e]; decide))) (fun h1 h2 => hn (.inr (.inr (.inl ⟨h1, h2⟩))))
theorem item_ok {w : Bs} {after : Int} (h : (itemL w after).2 = 0) : wordL (itemL w after).1 = w ∧ 0 ≤ (itemL w after).1.1 ∧ (itemL w after).1.1 ≤ 1099511627776 ∧ 0 ≤ (itemL w after).1.2 ∧ (itemL w after).1.2 ≤ 1099511627776 := by
  unfold itemL at h ⊢
  cases hA : numL (leftL w) with
  | none => rw [hA] at h; cases h
  | some f =>
    cases hB : numL (rightL w) with
    | none => rw [hA, hB] at h; cases h
    | some c =>
      rw [hA, hB] at h
      simp only at h ⊢
      have b1 := numL_bound hA
      have b2 := numL_bound hB
      split at h
      · cases h
      · rename_i h1
        split at h
        · cases h
        · rename_i h2
          rw [if_neg h1, if_neg h2]
          refine ⟨?_, by show 0 ≤ f; omega, by show f ≤ _; omega, by show 0 ≤ f + c; omega, by show f + c ≤ _; omega⟩
          unfold wordL
          show Lib.itoa f ++ 43 :: Lib.itoa (f + c - f) = w
          rw [show f + c - f = c by omega, itoa_num hA, itoa_num hB]
          rcases plusAt_cut w with ⟨_, _, k3⟩ | ⟨_, k2⟩
          · rw [k3] at hB
            simp [numL] at hB
          · exact k2.symm
theorem okL_snoc {acc : List G} {g : G} (h : okL acc) (hl : acc.length < 1024) (hg : 0 ≤ g.1 ∧ g.1 ≤ 1099511627776 ∧ 0 ≤ g.2 ∧ g.2 ≤ 1099511627776) : okL (acc ++ [g]) := by
  refine ⟨by simp; omega, fun r hr => ?_⟩
  rcases List.mem_append.1 hr with k | k
  · exact h.2 r k
  · simp at k; subst k; exact hg
theorem parseW_ok : ∀ (ws : List Bs) (acc : List G) (after at_ : Int), okL acc → acc.length ≤ 1024 → okL (parseW ws acc after at_).1 ∧ (parseW ws acc after at_).1.length ≤ 1024 ∧ ((parseW ws acc after at_).2.2 = 0 → ∃ gs, (parseW ws acc after at_).1 = acc ++ gs ∧ gs.map wordL = ws)
  | [], acc, after, at_, h, hl => ⟨h, hl, fun _ => ⟨[], by simp [parseW], rfl⟩⟩
  | w :: ws, acc, after, at_, h, hl => by
    have hn : okL [] := ⟨by simp, by simp⟩
    rw [parseW]
    split
    · exact ⟨hn, by simp, fun k => by cases k⟩
    · rename_i h1
      split
      · rename_i h2
        exact ⟨hn, by simp, fun k => absurd k h2⟩
      · rename_i h2
        have h2 := Decidable.not_not.1 h2
        obtain ⟨i1, i2⟩ := item_ok h2
        obtain ⟨j1, j2, j3⟩ := parseW_ok ws (acc ++ [(itemL w after).1]) (itemL w after).1.2 (at_ + (w.length + 1)) (okL_snoc h (by omega) i2) (by simp; omega)
        refine ⟨j1, j2, fun k => ?_⟩
        obtain ⟨gs, k1, k2⟩ := j3 k
        refine ⟨(itemL w after).1 :: gs, by rw [k1]; simp, ?_⟩
        rw [List.map_cons, i1, k2]
theorem join_split : ∀ t : Bs, Lib.join (splitC t) [32] = t
  | [] => by rw [splitC, Lib.join_one]
  | b :: l => by
    have ih := join_split l
    rw [splitC]
    split
    · rename_i hb
      cases hs : splitC l with
      | nil => rw [hs] at ih; rw [← ih, hb]; simp [Lib.join, List.intercalate] at ih ⊢
               exact absurd hs (by
                 cases l with
                 | nil => simp [splitC]
                 | cons c r => rw [splitC]; split <;> (try split) <;> simp)
      | cons w ws => rw [hs] at ih; rw [join_cons, ih, hb]; rfl
    · split
      · rename_i w ws hs
        rw [hs] at ih
        cases ws with
        | nil => rw [Lib.join_one] at ih ⊢; rw [ih]
        | cons u ws => rw [join_cons] at ih ⊢; rw [List.cons_append, ih]
      · rename_i hs
        exact absurd hs (by
          cases l with
          | nil => simp [splitC]
          | cons c r => rw [splitC]; split <;> (try split) <;> simp)
theorem parse_ok (t : Bs) : okL (parseL t).1 ∧ ((parseL t).2.2 = 0 → textL (parseL t).1 = t) := by
  unfold parseL
  split
  · rename_i h
    subst h
    exact ⟨⟨by simp, by simp⟩, fun _ => rfl⟩
  · obtain ⟨h1, _, h3⟩ := parseW_ok (splitC t) [] (-1) 0 ⟨by simp, by simp⟩ (by simp)
    refine ⟨h1, fun k => ?_⟩
    obtain ⟨gs, k1, k2⟩ := h3 k
    rw [k1, List.nil_append]
    unfold textL
    rw [k2]
    exact join_split t
def c7 : St → Option (Prop × St)
  | [(.S 0, .av (.pv (.str t)))] => some (t.length ≤ 100000, [(.S 0, .av (.tup [.pv (.sl (gRows (parseL t).1)), .pv (.int .i64 (parseL t).2.1), .pv (.int .i64 (parseL t).2.2)]))])
  | _ => none
theorem p7 {In Ret : St} {pre : Prop} (h : c7 In = some (pre, Ret)) (hp : pre) : PCalls Tryz.prog 7 In Ret := by
  unfold c7 at h
  split at h
  · cases h; exact t7p _ hp
  · cases h
def orcP9 : Orc := fun f In => if f = 6 then c6 In else if f = 7 then c7 In else if f = 8 then c8 In else if f = 9 then c9 In else if f = 10 then c10 In else none
theorem orcP9_ok : OrcOk Tryz.prog orcP9 := by
  intro f In pre Ret h hp
  unfold orcP9 at h
  split at h
  · subst f; exact p6 h hp
  split at h
  · subst f; exact p7 h hp
  split at h
  · subst f; exact p8 h hp
  split at h
  · subst f; exact p9 h hp
  split at h
  · subst f; exact p10 h hp
  cases h
theorem t3 (t : Bs) (ht : t.length ≤ 9223372036854775807) : PCalls Tryz.prog 3 [(.S 0, .av (.pv (.str t)))] [(.S 0, .av (.pv (.bool true)))] := by
  refine PCalls.of_k Tryz.func3 (by decide) rfl fun Q hQ1 hQ2 => ?_
  refine PWp.seq_rg [0] orcP9_ok (mv := mv) (by decide) fun K hK => ?_
  simp only [pwr, mv, List.getD_nil, List.drop_nil, List.head?_nil, Int.natCast_zero, Int.reduceLT, Int.reduceSub, Int.reduceNeg, Int.reduceToNat, decide_false, decide_true, gt_iff_lt, Int.lt_irrefl, ne_eq, not_false_eq_true, not_true_eq_false, reduceIte, reduceCtorEq, Nat.reduceEqDiff, Nat.reduceAdd, Nat.reduceMul, Nat.reduceSub, Nat.reduceLT, Nat.reduceLeDiff, Nat.reduceBEq, if_true, if_false, implies_true, Option.isSome_none, Option.isSome_some, List.nil_append, List.cons_append, List.append_nil, List.map_cons, List.map_nil, List.toList_toArray, Option.getD_some, Option.getD_none, Option.map_some, Option.map_none, Option.bind_some, Option.bind_none, List.length_cons, List.length_nil, Bool.cond_true, Bool.cond_false, Array.toList_append, List.filterMap_cons, List.filterMap_nil, List.all_nil, List.all_cons, List.any_cons, List.any_nil, List.map_append, List.getElem?_toArray, List.getElem?_cons_zero, List.getElem?_cons_succ, Option.toArray_some, Option.toArray_none, List.contains_cons, List.contains_nil, List.head?_cons, List.drop_zero, List.drop_succ_cons, List.take_succ_cons, List.take_zero, List.set_cons_zero, List.set_cons_succ, List.length_map, List.getElem?_nil, orcP9, c6, c7, c8, c9, c10, gOf_gRows, zf, plainL, plainCell]
  refine hK _ ?_
  clear hK K
  refine PWp.seq_rg [0] orcP9_ok (mv := mv) (by decide) fun K hK => ?_
  simp only [pwr, mv, List.getD_nil, List.drop_nil, List.head?_nil, Int.natCast_zero, Int.reduceLT, Int.reduceSub, Int.reduceNeg, Int.reduceToNat, decide_false, decide_true, gt_iff_lt, Int.lt_irrefl, ne_eq, not_false_eq_true, not_true_eq_false, reduceIte, reduceCtorEq, Nat.reduceEqDiff, Nat.reduceAdd, Nat.reduceMul, Nat.reduceSub, Nat.reduceLT, Nat.reduceLeDiff, Nat.reduceBEq, if_true, if_false, implies_true, Option.isSome_none, Option.isSome_some, List.nil_append, List.cons_append, List.append_nil, List.map_cons, List.map_nil, List.toList_toArray, Option.getD_some, Option.getD_none, Option.map_some, Option.map_none, Option.bind_some, Option.bind_none, List.length_cons, List.length_nil, Bool.cond_true, Bool.cond_false, Array.toList_append, List.filterMap_cons, List.filterMap_nil, List.all_nil, List.all_cons, List.any_cons, List.any_nil, List.map_append, List.getElem?_toArray, List.getElem?_cons_zero, List.getElem?_cons_succ, Option.toArray_some, Option.toArray_none, List.contains_cons, List.contains_nil, List.head?_cons, List.drop_zero, List.drop_succ_cons, List.take_succ_cons, List.take_zero, List.set_cons_zero, List.set_cons_succ, List.length_map, List.getElem?_nil, orcP9, c6, c7, c8, c9, c10, gOf_gRows, zf, plainL, plainCell]
  repeat' with_reducible refine And.intro ?_ ?_
  all_goals try (omega)
  all_goals try (first | omega | rfl | ((with_reducible refine drawGoal ?_); exact rfl) | (simp only [inR]; omega) | (intro y hy; simp only [List.mem_singleton] at hy; subst hy; rfl) | (intro y hy; cases hy; done) | (simp only [List.length_append, List.length_map, List.length_cons, List.length_nil]; omega) | (intro h; simp only [inR]; omega) | (intro h; simp only [List.length_append, List.length_map, List.length_cons, List.length_nil]; omega) | (intro h; exact h.elim))
  refine hK _ ?_
  clear hK K
  have ex : List.take (min (t.length : Int) 300).toNat t = t.take 300 := by
    rcases Nat.lt_or_ge t.length 300 with h | h
    · rw [List.take_of_length_le (by omega), List.take_of_length_le (by omega)]
    · congr 1; omega
  rw [ex]
  have hx : (t.take 300).length ≤ 300 := by rw [List.length_take]; omega
  generalize t.take 300 = x at *
  obtain ⟨hok, hpr⟩ := parse_ok x
  refine PWp.seq_rg [0, 3, 4, 5] orcP9_ok (mv := mv) (by decide) fun K hK => ?_
  simp only [pwr, mv, List.getD_nil, List.drop_nil, List.head?_nil, Int.natCast_zero, Int.reduceLT, Int.reduceSub, Int.reduceNeg, Int.reduceToNat, decide_false, decide_true, gt_iff_lt, Int.lt_irrefl, ne_eq, not_false_eq_true, not_true_eq_false, reduceIte, reduceCtorEq, Nat.reduceEqDiff, Nat.reduceAdd, Nat.reduceMul, Nat.reduceSub, Nat.reduceLT, Nat.reduceLeDiff, Nat.reduceBEq, if_true, if_false, implies_true, Option.isSome_none, Option.isSome_some, List.nil_append, List.cons_append, List.append_nil, List.map_cons, List.map_nil, List.toList_toArray, Option.getD_some, Option.getD_none, Option.map_some, Option.map_none, Option.bind_some, Option.bind_none, List.length_cons, List.length_nil, Bool.cond_true, Bool.cond_false, Array.toList_append, List.filterMap_cons, List.filterMap_nil, List.all_nil, List.all_cons, List.any_cons, List.any_nil, List.map_append, List.getElem?_toArray, List.getElem?_cons_zero, List.getElem?_cons_succ, Option.toArray_some, Option.toArray_none, List.contains_cons, List.contains_nil, List.head?_cons, List.drop_zero, List.drop_succ_cons, List.take_succ_cons, List.take_zero, List.set_cons_zero, List.set_cons_succ, List.length_map, List.getElem?_nil, orcP9, c6, c7, c8, c9, c10, gOf_gRows, zf, plainL, plainCell]
  repeat' with_reducible refine And.intro ?_ ?_
  all_goals try (omega)
  all_goals try (first | omega | rfl | ((with_reducible refine drawGoal ?_); exact rfl) | (simp only [inR]; omega) | (intro y hy; simp only [List.mem_singleton] at hy; subst hy; rfl) | (intro y hy; cases hy; done) | (simp only [List.length_append, List.length_map, List.length_cons, List.length_nil]; omega) | (intro h; simp only [inR]; omega) | (intro h; simp only [List.length_append, List.length_map, List.length_cons, List.length_nil]; omega) | (intro h; exact h.elim))
  refine hK _ ?_
  clear hK K
  refine PWp.seq_rg [0, 3, 4, 5, 6, 7, 8] orcP9_ok (mv := mv) (by decide) fun K hK => ?_
  simp only [pwr, mv, List.getD_nil, List.drop_nil, List.head?_nil, Int.natCast_zero, Int.reduceLT, Int.reduceSub, Int.reduceNeg, Int.reduceToNat, decide_false, decide_true, gt_iff_lt, Int.lt_irrefl, ne_eq, not_false_eq_true, not_true_eq_false, reduceIte, reduceCtorEq, Nat.reduceEqDiff, Nat.reduceAdd, Nat.reduceMul, Nat.reduceSub, Nat.reduceLT, Nat.reduceLeDiff, Nat.reduceBEq, if_true, if_false, implies_true, Option.isSome_none, Option.isSome_some, List.nil_append, List.cons_append, List.append_nil, List.map_cons, List.map_nil, List.toList_toArray, Option.getD_some, Option.getD_none, Option.map_some, Option.map_none, Option.bind_some, Option.bind_none, List.length_cons, List.length_nil, Bool.cond_true, Bool.cond_false, Array.toList_append, List.filterMap_cons, List.filterMap_nil, List.all_nil, List.all_cons, List.any_cons, List.any_nil, List.map_append, List.getElem?_toArray, List.getElem?_cons_zero, List.getElem?_cons_succ, Option.toArray_some, Option.toArray_none, List.contains_cons, List.contains_nil, List.head?_cons, List.drop_zero, List.drop_succ_cons, List.take_succ_cons, List.take_zero, List.set_cons_zero, List.set_cons_succ, List.length_map, List.getElem?_nil, orcP9, c6, c7, c8, c9, c10, gOf_gRows, zf, plainL, plainCell]
  repeat' with_reducible refine And.intro ?_ ?_
  all_goals try (omega)
  all_goals try (first | omega | rfl | ((with_reducible refine drawGoal ?_); exact rfl) | (simp only [inR]; omega) | (intro y hy; simp only [List.mem_singleton] at hy; subst hy; rfl) | (intro y hy; cases hy; done) | (simp only [List.length_append, List.length_map, List.length_cons, List.length_nil]; omega) | (intro h; simp only [inR]; omega) | (intro h; simp only [List.length_append, List.length_map, List.length_cons, List.length_nil]; omega) | (intro h; exact h.elim))
  refine hK _ ?_
  clear hK K
  refine PWp.seq_rg [2] orcP9_ok (mv := mv) (by decide) fun K hK => ?_
  simp only [pwr, mv, List.getD_nil, List.drop_nil, List.head?_nil, Int.natCast_zero, Int.reduceLT, Int.reduceSub, Int.reduceNeg, Int.reduceToNat, decide_false, decide_true, gt_iff_lt, Int.lt_irrefl, ne_eq, not_false_eq_true, not_true_eq_false, reduceIte, reduceCtorEq, Nat.reduceEqDiff, Nat.reduceAdd, Nat.reduceMul, Nat.reduceSub, Nat.reduceLT, Nat.reduceLeDiff, Nat.reduceBEq, if_true, if_false, implies_true, Option.isSome_none, Option.isSome_some, List.nil_append, List.cons_append, List.append_nil, List.map_cons, List.map_nil, List.toList_toArray, Option.getD_some, Option.getD_none, Option.map_some, Option.map_none, Option.bind_some, Option.bind_none, List.length_cons, List.length_nil, Bool.cond_true, Bool.cond_false, Array.toList_append, List.filterMap_cons, List.filterMap_nil, List.all_nil, List.all_cons, List.any_cons, List.any_nil, List.map_append, List.getElem?_toArray, List.getElem?_cons_zero, List.getElem?_cons_succ, Option.toArray_some, Option.toArray_none, List.contains_cons, List.contains_nil, List.head?_cons, List.drop_zero, List.drop_succ_cons, List.take_succ_cons, List.take_zero, List.set_cons_zero, List.set_cons_succ, List.length_map, List.getElem?_nil, orcP9, c6, c7, c8, c9, c10, gOf_gRows, zf, plainL, plainCell, beq_self_eq_true]
  repeat' with_reducible refine And.intro ?_ ?_
  all_goals try (first | exact hok | (intro _; exact hok))
  all_goals try (first | omega | rfl | ((with_reducible refine drawGoal ?_); exact rfl) | (simp only [inR]; omega) | (intro y hy; simp only [List.mem_singleton] at hy; subst hy; rfl) | (intro y hy; cases hy; done) | (simp only [List.length_append, List.length_map, List.length_cons, List.length_nil]; omega) | (intro h; simp only [inR]; omega) | (intro h; simp only [List.length_append, List.length_map, List.length_cons, List.length_nil]; omega) | (intro h; exact h.elim))
  refine hK _ ?_
  clear hK K
  refine PWp.ret (hQ2 _ ?_)
  simp only [pwf, List.drop_zero, List.drop_succ_cons, List.take_succ_cons, List.take_zero, List.getElem?_cons_zero, List.getElem?_cons_succ, List.getElem?_nil, Nat.sub_self, reduceIte, reduceCtorEq, Nat.reduceEqDiff, Nat.reduceAdd, Nat.reduceMul, Nat.reduceSub, Nat.reduceLT, Nat.reduceLeDiff, Nat.reduceBEq, if_true, if_false, implies_true, Option.isSome_none, Option.isSome_some, List.nil_append, List.cons_append, List.append_nil, List.map_cons, List.map_nil, List.toList_toArray, Option.getD_some, Option.getD_none, Option.map_some, Option.map_none, Option.bind_some, Option.bind_none, List.length_cons, List.length_nil, Bool.cond_true, Bool.cond_false, Array.toList_append, List.contains_cons, List.contains_nil, zf, plainL, plainCell, Tryz.results3]
  repeat simp only [pwf, List.drop_zero, List.drop_succ_cons, List.take_succ_cons, List.take_zero, List.getElem?_cons_zero, List.getElem?_cons_succ, List.getElem?_nil, Nat.sub_self, reduceIte, reduceCtorEq, Nat.reduceEqDiff, Nat.reduceAdd, Nat.reduceMul, Nat.reduceSub, Nat.reduceLT, Nat.reduceLeDiff, Nat.reduceBEq, if_true, if_false, implies_true, Option.isSome_none, Option.isSome_some, List.nil_append, List.cons_append, List.append_nil, List.map_cons, List.map_nil, List.toList_toArray, Option.getD_some, Option.getD_none, Option.map_some, Option.map_none, Option.bind_some, Option.bind_none, List.length_cons, List.length_nil, Bool.cond_true, Bool.cond_false, Array.toList_append, List.contains_cons, List.contains_nil, zf, plainL, plainCell]
  have hpr2 : ((parseL x).2.2 != 0 || textL (parseL x).1 == x) = true := by
    by_cases h : (parseL x).2.2 = 0
    · rw [hpr h]; simp
    · simp [h]
  simp [hpr2]
end Go.Pw.G7
