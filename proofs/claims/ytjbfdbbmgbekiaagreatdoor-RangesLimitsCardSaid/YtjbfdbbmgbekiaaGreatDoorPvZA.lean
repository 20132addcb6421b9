/- Ranges: leaves. -/
import Derived.Test.YtjbfdbbmgbekiaaGreatDoorPvZF
import Derived.Test.YtjbfdbbmgbekiaaGreatDoorPvCr
set_option linter.unusedSimpArgs false
set_option linter.unusedVariables false
set_option linter.unusedSectionVars false
namespace Go.Pw
variable [Mode]
open Go.Proofs
theorem mixed : Tryz.prog.follows .mixedOrders = true := by kernel_rfl
def mv : FuncId → Nat → Option TypeId
  | 56, 0 => some 3
  | _, _ => none
def orc0 : Orc := fun _ _ => none
theorem orc0_ok : OrcOk Tryz.prog orc0 := by intro f In pre Ret h; cases h

abbrev G := Int × Int
def gRow (g : G) : List PV := [.int .i64 g.1, .int .i64 g.2]
abbrev gRows (l : List G) : List (List PV) := l.map gRow
abbrev gSet (l : List G) : AV := .agg [.pv (.sl (gRows l))]
theorem getD_map {α β : Type} {f : α → β} {l : List α} {i : Nat} {d : β} (h : i < l.length) : (l.map f).getD i d = f l[i] := by simp [h]
def mstep (out : List G) (r : G) : List G :=
  if r.2 ≤ r.1 then out
  else match out.getLast? with
    | some g => if r.1 ≤ g.2 then out.dropLast ++ [(g.1, max g.2 r.2)] else out ++ [r]
    | none => out ++ [r]
def mjoin (l : List G) : List G := l.foldl mstep []
def made (l : List G) : List G × Int := if 1024 < (mjoin l).length then ([], 9) else (mjoin l, 0)

theorem gRows_len {l : List G} : ∀ y ∈ gRows l, y.length = 2 := by
  intro y hy
  obtain ⟨g, _, rfl⟩ := List.mem_map.1 hy
  rfl
theorem t29 (l : List G) : PCalls Tryz.prog 17 [(.S 0, .av (gSet l))] [(.S 0, .av (.pv (.bool (decide (l = [])))))] := by
  refine PCalls.of_k Tryz.func17 (by decide) rfl fun Q hQ1 hQ2 => ?_
  refine PWp.seq_rg [1] orc0_ok (mv := mv) (by decide) fun K hK => ?_
  simp only [pwr, mv, List.getD_nil, List.drop_nil, List.head?_nil, Int.natCast_zero, Int.reduceLT, Int.reduceSub, Int.reduceNeg, Int.reduceToNat, decide_false, decide_true, gt_iff_lt, Int.lt_irrefl, ne_eq, not_false_eq_true, not_true_eq_false, reduceIte, reduceCtorEq, Nat.reduceEqDiff, Nat.reduceAdd, Nat.reduceMul, Nat.reduceSub, Nat.reduceLT, Nat.reduceLeDiff, Nat.reduceBEq, if_true, if_false, implies_true, Option.isSome_none, Option.isSome_some, List.nil_append, List.cons_append, List.append_nil, List.map_cons, List.map_nil, List.toList_toArray, Option.getD_some, Option.getD_none, Option.map_some, Option.map_none, Option.bind_some, Option.bind_none, List.length_cons, List.length_nil, Bool.cond_true, Bool.cond_false, Array.toList_append, List.filterMap_cons, List.filterMap_nil, List.all_nil, List.all_cons, List.any_cons, List.any_nil, List.map_append, List.getElem?_toArray, List.getElem?_cons_zero, List.getElem?_cons_succ, Option.toArray_some, Option.toArray_none, List.contains_cons, List.contains_nil, List.head?_cons, List.drop_zero, List.drop_succ_cons, List.take_succ_cons, List.take_zero, List.set_cons_zero, List.set_cons_succ, List.length_map, List.getElem?_nil, orc0, zf]
  refine hK _ ?_
  clear hK K
  refine PWp.seq_rg [2] orc0_ok (mv := mv) (by decide) fun K hK => ?_
  simp only [pwr, mv, List.getD_nil, List.drop_nil, List.head?_nil, Int.natCast_zero, Int.reduceLT, Int.reduceSub, Int.reduceNeg, Int.reduceToNat, decide_false, decide_true, gt_iff_lt, Int.lt_irrefl, ne_eq, not_false_eq_true, not_true_eq_false, reduceIte, reduceCtorEq, Nat.reduceEqDiff, Nat.reduceAdd, Nat.reduceMul, Nat.reduceSub, Nat.reduceLT, Nat.reduceLeDiff, Nat.reduceBEq, if_true, if_false, implies_true, Option.isSome_none, Option.isSome_some, List.nil_append, List.cons_append, List.append_nil, List.map_cons, List.map_nil, List.toList_toArray, Option.getD_some, Option.getD_none, Option.map_some, Option.map_none, Option.bind_some, Option.bind_none, List.length_cons, List.length_nil, Bool.cond_true, Bool.cond_false, Array.toList_append, List.filterMap_cons, List.filterMap_nil, List.all_nil, List.all_cons, List.any_cons, List.any_nil, List.map_append, List.getElem?_toArray, List.getElem?_cons_zero, List.getElem?_cons_succ, Option.toArray_some, Option.toArray_none, List.contains_cons, List.contains_nil, List.head?_cons, List.drop_zero, List.drop_succ_cons, List.take_succ_cons, List.take_zero, List.set_cons_zero, List.set_cons_succ, List.length_map, List.getElem?_nil, orc0, zf]
  refine hK _ ?_
  clear hK K
  refine PWp.ret (hQ2 _ ?_)
  simp only [pwf, List.drop_zero, List.drop_succ_cons, List.take_succ_cons, List.take_zero, List.getElem?_cons_zero, List.getElem?_cons_succ, List.getElem?_nil, Nat.sub_self, reduceIte, reduceCtorEq, Nat.reduceEqDiff, Nat.reduceAdd, Nat.reduceMul, Nat.reduceSub, Nat.reduceLT, Nat.reduceLeDiff, Nat.reduceBEq, if_true, if_false, implies_true, Option.isSome_none, Option.isSome_some, List.nil_append, List.cons_append, List.append_nil, List.map_cons, List.map_nil, List.toList_toArray, Option.getD_some, Option.getD_none, Option.map_some, Option.map_none, Option.bind_some, Option.bind_none, List.length_cons, List.length_nil, Bool.cond_true, Bool.cond_false, Array.toList_append, List.contains_cons, List.contains_nil, zf, Tryz.results17]
  repeat simp only [pwf, List.drop_zero, List.drop_succ_cons, List.take_succ_cons, List.take_zero, List.getElem?_cons_zero, List.getElem?_cons_succ, List.getElem?_nil, Nat.sub_self, reduceIte, reduceCtorEq, Nat.reduceEqDiff, Nat.reduceAdd, Nat.reduceMul, Nat.reduceSub, Nat.reduceLT, Nat.reduceLeDiff, Nat.reduceBEq, if_true, if_false, implies_true, Option.isSome_none, Option.isSome_some, List.nil_append, List.cons_append, List.append_nil, List.map_cons, List.map_nil, List.toList_toArray, Option.getD_some, Option.getD_none, Option.map_some, Option.map_none, Option.bind_some, Option.bind_none, List.length_cons, List.length_nil, Bool.cond_true, Bool.cond_false, Array.toList_append, List.contains_cons, List.contains_nil, zf]
  cases l <;> simp <;> omega
def sumL (l : List G) : Int := (l.map fun g => g.2 - g.1).sum
def okL (l : List G) : Prop := l.length ≤ 4096 ∧ ∀ g ∈ l, 0 ≤ g.1 ∧ g.1 ≤ 1099511627776 ∧ 0 ≤ g.2 ∧ g.2 ≤ 1099511627776
theorem sumL_bd {l : List G} (h : ∀ g ∈ l, 0 ≤ g.1 ∧ g.1 ≤ 1099511627776 ∧ 0 ≤ g.2 ∧ g.2 ≤ 1099511627776) : -(1099511627776 * l.length) ≤ sumL l ∧ sumL l ≤ 1099511627776 * l.length := by
  induction l with
  | nil => simp [sumL]
  | cons g l ih =>
    have h1 := ih (fun g hg => h g (List.mem_cons_of_mem _ hg))
    have h2 := h g (List.mem_cons_self ..)
    simp only [sumL, List.map_cons, List.sum_cons, List.length_cons] at h1 ⊢
    omega
theorem sumL_snoc (l : List G) (g : G) : sumL (l ++ [g]) = sumL l + (g.2 - g.1) := by simp [sumL]
theorem t30 (l : List G) (hl : okL l) : PCalls Tryz.prog 18 [(.S 0, .av (gSet l))] [(.S 0, .av (.pv (.int .i64 (sumL l))))] := by
  refine PCalls.of_k Tryz.func18 (by decide) rfl fun Q hQ1 hQ2 => ?_
  refine PWp.seq_rg [1] orc0_ok (mv := mv) (by decide) fun K hK => ?_
  simp only [pwr, mv, List.getD_nil, List.drop_nil, List.head?_nil, Int.natCast_zero, Int.reduceLT, Int.reduceSub, Int.reduceNeg, Int.reduceToNat, decide_false, decide_true, gt_iff_lt, Int.lt_irrefl, ne_eq, not_false_eq_true, not_true_eq_false, reduceIte, reduceCtorEq, Nat.reduceEqDiff, Nat.reduceAdd, Nat.reduceMul, Nat.reduceSub, Nat.reduceLT, Nat.reduceLeDiff, Nat.reduceBEq, if_true, if_false, implies_true, Option.isSome_none, Option.isSome_some, List.nil_append, List.cons_append, List.append_nil, List.map_cons, List.map_nil, List.toList_toArray, Option.getD_some, Option.getD_none, Option.map_some, Option.map_none, Option.bind_some, Option.bind_none, List.length_cons, List.length_nil, Bool.cond_true, Bool.cond_false, Array.toList_append, List.filterMap_cons, List.filterMap_nil, List.all_nil, List.all_cons, List.any_cons, List.any_nil, List.map_append, List.getElem?_toArray, List.getElem?_cons_zero, List.getElem?_cons_succ, Option.toArray_some, Option.toArray_none, List.contains_cons, List.contains_nil, List.head?_cons, List.drop_zero, List.drop_succ_cons, List.take_succ_cons, List.take_zero, List.set_cons_zero, List.set_cons_succ, List.length_map, List.getElem?_nil, orc0, zf]
  refine hK _ ?_
  clear hK K
  refine PWp.seq_rg [1, 3] orc0_ok (mv := mv) (by decide) fun K hK => ?_
  simp only [pwr, mv, List.getD_nil, List.drop_nil, List.head?_nil, Int.natCast_zero, Int.reduceLT, Int.reduceSub, Int.reduceNeg, Int.reduceToNat, decide_false, decide_true, gt_iff_lt, Int.lt_irrefl, ne_eq, not_false_eq_true, not_true_eq_false, reduceIte, reduceCtorEq, Nat.reduceEqDiff, Nat.reduceAdd, Nat.reduceMul, Nat.reduceSub, Nat.reduceLT, Nat.reduceLeDiff, Nat.reduceBEq, if_true, if_false, implies_true, Option.isSome_none, Option.isSome_some, List.nil_append, List.cons_append, List.append_nil, List.map_cons, List.map_nil, List.toList_toArray, Option.getD_some, Option.getD_none, Option.map_some, Option.map_none, Option.bind_some, Option.bind_none, List.length_cons, List.length_nil, Bool.cond_true, Bool.cond_false, Array.toList_append, List.filterMap_cons, List.filterMap_nil, List.all_nil, List.all_cons, List.any_cons, List.any_nil, List.map_append, List.getElem?_toArray, List.getElem?_cons_zero, List.getElem?_cons_succ, Option.toArray_some, Option.toArray_none, List.contains_cons, List.contains_nil, List.head?_cons, List.drop_zero, List.drop_succ_cons, List.take_succ_cons, List.take_zero, List.set_cons_zero, List.set_cons_succ, List.length_map, List.getElem?_nil, orc0, zf]
  refine hK _ ?_
  clear hK K
  refine PWp.seq_k fun K1 hK1 => ?_
  refine PWp.seq_rg [3, 7, 8, 9] orc0_ok (mv := mv) (by decide) fun K hK => ?_
  simp only [pwr, mv, List.getD_nil, List.drop_nil, List.head?_nil, Int.natCast_zero, Int.reduceLT, Int.reduceSub, Int.reduceNeg, Int.reduceToNat, decide_false, decide_true, gt_iff_lt, Int.lt_irrefl, ne_eq, not_false_eq_true, not_true_eq_false, reduceIte, reduceCtorEq, Nat.reduceEqDiff, Nat.reduceAdd, Nat.reduceMul, Nat.reduceSub, Nat.reduceLT, Nat.reduceLeDiff, Nat.reduceBEq, if_true, if_false, implies_true, Option.isSome_none, Option.isSome_some, List.nil_append, List.cons_append, List.append_nil, List.map_cons, List.map_nil, List.toList_toArray, Option.getD_some, Option.getD_none, Option.map_some, Option.map_none, Option.bind_some, Option.bind_none, List.length_cons, List.length_nil, Bool.cond_true, Bool.cond_false, Array.toList_append, List.filterMap_cons, List.filterMap_nil, List.all_nil, List.all_cons, List.any_cons, List.any_nil, List.map_append, List.getElem?_toArray, List.getElem?_cons_zero, List.getElem?_cons_succ, Option.toArray_some, Option.toArray_none, List.contains_cons, List.contains_nil, List.head?_cons, List.drop_zero, List.drop_succ_cons, List.take_succ_cons, List.take_zero, List.set_cons_zero, List.set_cons_succ, List.length_map, List.getElem?_nil, orc0, zf]
  refine hK _ ?_
  clear hK K
  refine PWp.block_k fun Qq2 hq2n hq2x hq2r hq2e => ?_
  refine PWp.loop_k (fun i : Nat => [(.S 3, .av (.pv (.int .i64 (sumL (l.take i))))), (.S 7, .av (.pv (.sl (gRows l)))), (.S 8, .av (.pv (.int .i64 l.length))), (.S 9, .av (.pv (.int .i64 i)))]) (fun i => i ≤ l.length) (fun i => l.length - i) (0) (Nat.zero_le _) ?_ ?_
  · repeat simp only [pwf, List.drop_zero, List.drop_succ_cons, List.take_succ_cons, List.take_zero, List.getElem?_cons_zero, List.getElem?_cons_succ, List.getElem?_nil, Nat.sub_self, reduceIte, reduceCtorEq, Nat.reduceEqDiff, Nat.reduceAdd, Nat.reduceMul, Nat.reduceSub, Nat.reduceLT, Nat.reduceLeDiff, Nat.reduceBEq, if_true, if_false, implies_true, Option.isSome_none, Option.isSome_some, List.nil_append, List.cons_append, List.append_nil, List.map_cons, List.map_nil, List.toList_toArray, Option.getD_some, Option.getD_none, Option.map_some, Option.map_none, Option.bind_some, Option.bind_none, List.length_cons, List.length_nil, Bool.cond_true, Bool.cond_false, Array.toList_append, List.contains_cons, List.contains_nil, zf]
    first | done | trivial | rfl | (simp; done)
  rintro i hi J1 hJ1
  refine PWp.seq_rg [3, 7, 8, 9, 10] orc0_ok (mv := mv) (by decide) fun K hK => ?_
  simp only [pwr, mv, List.getD_nil, List.drop_nil, List.head?_nil, Int.natCast_zero, Int.reduceLT, Int.reduceSub, Int.reduceNeg, Int.reduceToNat, decide_false, decide_true, gt_iff_lt, Int.lt_irrefl, ne_eq, not_false_eq_true, not_true_eq_false, reduceIte, reduceCtorEq, Nat.reduceEqDiff, Nat.reduceAdd, Nat.reduceMul, Nat.reduceSub, Nat.reduceLT, Nat.reduceLeDiff, Nat.reduceBEq, if_true, if_false, implies_true, Option.isSome_none, Option.isSome_some, List.nil_append, List.cons_append, List.append_nil, List.map_cons, List.map_nil, List.toList_toArray, Option.getD_some, Option.getD_none, Option.map_some, Option.map_none, Option.bind_some, Option.bind_none, List.length_cons, List.length_nil, Bool.cond_true, Bool.cond_false, Array.toList_append, List.filterMap_cons, List.filterMap_nil, List.all_nil, List.all_cons, List.any_cons, List.any_nil, List.map_append, List.getElem?_toArray, List.getElem?_cons_zero, List.getElem?_cons_succ, Option.toArray_some, Option.toArray_none, List.contains_cons, List.contains_nil, List.head?_cons, List.drop_zero, List.drop_succ_cons, List.take_succ_cons, List.take_zero, List.set_cons_zero, List.set_cons_succ, List.length_map, List.getElem?_nil, orc0, zf]
  refine hK _ ?_
  clear hK K
  refine PWp.seq_k fun K3 hK3 => ?_
  refine PWp.cond (by rfl) (fun hb10 => ?_) (fun hb10 => ?_)
  ·
   try (cases hb10; done)
   all_goals
    refine PWp.skip (hK3 _ ?_)
    refine PWp.seq_k fun K4 hK4 => ?_
    refine PWp.block_k fun Qq5 hq5n hq5x hq5r hq5e => ?_
    have hil : i < l.length := by simpa using hb10
    have e1 : (gRows l).getD i [] = [.int .i64 l[i].1, .int .i64 l[i].2] := getD_map hil
    have h1 := hl.2 _ (List.getElem_mem hil)
    have h2 := sumL_bd (l := l.take i) (fun g hg => hl.2 g (List.mem_of_mem_take hg))
    have h3 : (l.take i).length = i := by simp; omega
    have h4 := hl.1
    have h5 : sumL (l.take (i + 1)) = sumL (l.take i) + (l[i].2 - l[i].1) := by rw [List.take_succ_eq_append_getElem hil, sumL_snoc]
    rw [h3] at h2
    refine PWp.seq_rg [3, 5, 7, 8, 9] orc0_ok (mv := mv) (by decide) fun K hK => ?_
    simp only [pwr, mv, List.getD_nil, List.drop_nil, List.head?_nil, Int.natCast_zero, Int.reduceLT, Int.reduceSub, Int.reduceNeg, Int.reduceToNat, decide_false, decide_true, gt_iff_lt, Int.lt_irrefl, ne_eq, not_false_eq_true, not_true_eq_false, reduceIte, reduceCtorEq, Nat.reduceEqDiff, Nat.reduceAdd, Nat.reduceMul, Nat.reduceSub, Nat.reduceLT, Nat.reduceLeDiff, Nat.reduceBEq, if_true, if_false, implies_true, Option.isSome_none, Option.isSome_some, List.nil_append, List.cons_append, List.append_nil, List.map_cons, List.map_nil, List.toList_toArray, Option.getD_some, Option.getD_none, Option.map_some, Option.map_none, Option.bind_some, Option.bind_none, List.length_cons, List.length_nil, Bool.cond_true, Bool.cond_false, Array.toList_append, List.filterMap_cons, List.filterMap_nil, List.all_nil, List.all_cons, List.any_cons, List.any_nil, List.map_append, List.getElem?_toArray, List.getElem?_cons_zero, List.getElem?_cons_succ, Option.toArray_some, Option.toArray_none, List.contains_cons, List.contains_nil, List.head?_cons, List.drop_zero, List.drop_succ_cons, List.take_succ_cons, List.take_zero, List.set_cons_zero, List.set_cons_succ, List.length_map, List.getElem?_nil, orc0, zf, e1]
    repeat' with_reducible refine And.intro ?_ ?_
    all_goals try (first | omega | rfl | ((with_reducible refine drawGoal ?_); exact rfl) | (simp only [inR]; omega) | (intro y hy; simp only [List.mem_singleton] at hy; subst hy; rfl) | (intro y hy; cases hy; done) | (simp only [List.length_append, List.length_map, List.length_cons, List.length_nil]; omega) | (intro h; simp only [inR]; omega) | (intro h; simp only [List.length_append, List.length_map, List.length_cons, List.length_nil]; omega) | (intro h; exact h.elim))
    refine hK _ ?_
    clear hK K
    refine PWp.rg [3, 7, 8, 9] orc0_ok (mv := mv) (by decide) ?_
    simp only [pwr, mv, List.getD_nil, List.drop_nil, List.head?_nil, Int.natCast_zero, Int.reduceLT, Int.reduceSub, Int.reduceNeg, Int.reduceToNat, decide_false, decide_true, gt_iff_lt, Int.lt_irrefl, ne_eq, not_false_eq_true, not_true_eq_false, reduceIte, reduceCtorEq, Nat.reduceEqDiff, Nat.reduceAdd, Nat.reduceMul, Nat.reduceSub, Nat.reduceLT, Nat.reduceLeDiff, Nat.reduceBEq, if_true, if_false, implies_true, Option.isSome_none, Option.isSome_some, List.nil_append, List.cons_append, List.append_nil, List.map_cons, List.map_nil, List.toList_toArray, Option.getD_some, Option.getD_none, Option.map_some, Option.map_none, Option.bind_some, Option.bind_none, List.length_cons, List.length_nil, Bool.cond_true, Bool.cond_false, Array.toList_append, List.filterMap_cons, List.filterMap_nil, List.all_nil, List.all_cons, List.any_cons, List.any_nil, List.map_append, List.getElem?_toArray, List.getElem?_cons_zero, List.getElem?_cons_succ, Option.toArray_some, Option.toArray_none, List.contains_cons, List.contains_nil, List.head?_cons, List.drop_zero, List.drop_succ_cons, List.take_succ_cons, List.take_zero, List.set_cons_zero, List.set_cons_succ, List.length_map, List.getElem?_nil, orc0, zf]
    repeat' with_reducible refine And.intro ?_ ?_
    all_goals try (first | omega | rfl | ((with_reducible refine drawGoal ?_); exact rfl) | (simp only [inR]; omega) | (intro y hy; simp only [List.mem_singleton] at hy; subst hy; rfl) | (intro y hy; cases hy; done) | (simp only [List.length_append, List.length_map, List.length_cons, List.length_nil]; omega) | (intro h; simp only [inR]; omega) | (intro h; simp only [List.length_append, List.length_map, List.length_cons, List.length_nil]; omega) | (intro h; exact h.elim))
    refine hq5n _ (hK4 _ ?_)
    refine PWp.rg [3, 7, 8, 9] orc0_ok (mv := mv) (by decide) ?_
    simp only [pwr, mv, List.getD_nil, List.drop_nil, List.head?_nil, Int.natCast_zero, Int.reduceLT, Int.reduceSub, Int.reduceNeg, Int.reduceToNat, decide_false, decide_true, gt_iff_lt, Int.lt_irrefl, ne_eq, not_false_eq_true, not_true_eq_false, reduceIte, reduceCtorEq, Nat.reduceEqDiff, Nat.reduceAdd, Nat.reduceMul, Nat.reduceSub, Nat.reduceLT, Nat.reduceLeDiff, Nat.reduceBEq, if_true, if_false, implies_true, Option.isSome_none, Option.isSome_some, List.nil_append, List.cons_append, List.append_nil, List.map_cons, List.map_nil, List.toList_toArray, Option.getD_some, Option.getD_none, Option.map_some, Option.map_none, Option.bind_some, Option.bind_none, List.length_cons, List.length_nil, Bool.cond_true, Bool.cond_false, Array.toList_append, List.filterMap_cons, List.filterMap_nil, List.all_nil, List.all_cons, List.any_cons, List.any_nil, List.map_append, List.getElem?_toArray, List.getElem?_cons_zero, List.getElem?_cons_succ, Option.toArray_some, Option.toArray_none, List.contains_cons, List.contains_nil, List.head?_cons, List.drop_zero, List.drop_succ_cons, List.take_succ_cons, List.take_zero, List.set_cons_zero, List.set_cons_succ, List.length_map, List.getElem?_nil, orc0, zf]
    repeat' with_reducible refine And.intro ?_ ?_
    all_goals try (first | omega | rfl | ((with_reducible refine drawGoal ?_); exact rfl) | (simp only [inR]; omega) | (intro y hy; simp only [List.mem_singleton] at hy; subst hy; rfl) | (intro y hy; cases hy; done) | (simp only [List.length_append, List.length_map, List.length_cons, List.length_nil]; omega) | (intro h; simp only [inR]; omega) | (intro h; simp only [List.length_append, List.length_map, List.length_cons, List.length_nil]; omega) | (intro h; exact h.elim))
    refine hJ1 _ (i + 1) ?_ ?_ ?_
    · first | omega | (show _ ≤ _; omega) | exact ⟨by omega, by assumption⟩
    · omega
    · repeat simp only [pwf, List.drop_zero, List.drop_succ_cons, List.take_succ_cons, List.take_zero, List.getElem?_cons_zero, List.getElem?_cons_succ, List.getElem?_nil, Nat.sub_self, reduceIte, reduceCtorEq, Nat.reduceEqDiff, Nat.reduceAdd, Nat.reduceMul, Nat.reduceSub, Nat.reduceLT, Nat.reduceLeDiff, Nat.reduceBEq, if_true, if_false, implies_true, Option.isSome_none, Option.isSome_some, List.nil_append, List.cons_append, List.append_nil, List.map_cons, List.map_nil, List.toList_toArray, Option.getD_some, Option.getD_none, Option.map_some, Option.map_none, Option.bind_some, Option.bind_none, List.length_cons, List.length_nil, Bool.cond_true, Bool.cond_false, Array.toList_append, List.contains_cons, List.contains_nil, zf]
      first | exact h5 | (simp; exact h5)
  ·
   try (cases hb10; done)
   all_goals
    refine PWp.exit (hq2x _ (hK1 _ ?_))
    refine PWp.seq_rg [2] orc0_ok (mv := mv) (by decide) fun K hK => ?_
    simp only [pwr, mv, List.getD_nil, List.drop_nil, List.head?_nil, Int.natCast_zero, Int.reduceLT, Int.reduceSub, Int.reduceNeg, Int.reduceToNat, decide_false, decide_true, gt_iff_lt, Int.lt_irrefl, ne_eq, not_false_eq_true, not_true_eq_false, reduceIte, reduceCtorEq, Nat.reduceEqDiff, Nat.reduceAdd, Nat.reduceMul, Nat.reduceSub, Nat.reduceLT, Nat.reduceLeDiff, Nat.reduceBEq, if_true, if_false, implies_true, Option.isSome_none, Option.isSome_some, List.nil_append, List.cons_append, List.append_nil, List.map_cons, List.map_nil, List.toList_toArray, Option.getD_some, Option.getD_none, Option.map_some, Option.map_none, Option.bind_some, Option.bind_none, List.length_cons, List.length_nil, Bool.cond_true, Bool.cond_false, Array.toList_append, List.filterMap_cons, List.filterMap_nil, List.all_nil, List.all_cons, List.any_cons, List.any_nil, List.map_append, List.getElem?_toArray, List.getElem?_cons_zero, List.getElem?_cons_succ, Option.toArray_some, Option.toArray_none, List.contains_cons, List.contains_nil, List.head?_cons, List.drop_zero, List.drop_succ_cons, List.take_succ_cons, List.take_zero, List.set_cons_zero, List.set_cons_succ, List.length_map, List.getElem?_nil, orc0, zf]
    refine hK _ ?_
    clear hK K
    refine PWp.ret (hQ2 _ ?_)
    simp only [pwf, List.drop_zero, List.drop_succ_cons, List.take_succ_cons, List.take_zero, List.getElem?_cons_zero, List.getElem?_cons_succ, List.getElem?_nil, Nat.sub_self, reduceIte, reduceCtorEq, Nat.reduceEqDiff, Nat.reduceAdd, Nat.reduceMul, Nat.reduceSub, Nat.reduceLT, Nat.reduceLeDiff, Nat.reduceBEq, if_true, if_false, implies_true, Option.isSome_none, Option.isSome_some, List.nil_append, List.cons_append, List.append_nil, List.map_cons, List.map_nil, List.toList_toArray, Option.getD_some, Option.getD_none, Option.map_some, Option.map_none, Option.bind_some, Option.bind_none, List.length_cons, List.length_nil, Bool.cond_true, Bool.cond_false, Array.toList_append, List.contains_cons, List.contains_nil, zf, Tryz.results18]
    repeat simp only [pwf, List.drop_zero, List.drop_succ_cons, List.take_succ_cons, List.take_zero, List.getElem?_cons_zero, List.getElem?_cons_succ, List.getElem?_nil, Nat.sub_self, reduceIte, reduceCtorEq, Nat.reduceEqDiff, Nat.reduceAdd, Nat.reduceMul, Nat.reduceSub, Nat.reduceLT, Nat.reduceLeDiff, Nat.reduceBEq, if_true, if_false, implies_true, Option.isSome_none, Option.isSome_some, List.nil_append, List.cons_append, List.append_nil, List.map_cons, List.map_nil, List.toList_toArray, Option.getD_some, Option.getD_none, Option.map_some, Option.map_none, Option.bind_some, Option.bind_none, List.length_cons, List.length_nil, Bool.cond_true, Bool.cond_false, Array.toList_append, List.contains_cons, List.contains_nil, zf]
    have hie : i = l.length := by have := hb10; simp at this; omega
    rw [hie, List.take_length]
theorem t45 (l : List G) (hl : l.length < 100000000) : PCalls Tryz.prog 34 [(.S 0, .av (.pv (.sl (gRows l))))] [(.S 0, .av (.rf (.RS 0 0) 0)), (.RS 0 0, .rw 0 true 41 (gRows l))] := by
  cases l with
  | nil =>
  refine PCalls.of_k Tryz.func34 (by decide) rfl fun Q hQ1 hQ2 => ?_
  refine PWp.seq_rg [0] orc0_ok (mv := mv) (by decide) fun K hK => ?_
  simp only [pwr, mv, List.getD_nil, List.drop_nil, List.head?_nil, Int.natCast_zero, Int.reduceLT, Int.reduceSub, Int.reduceNeg, Int.reduceToNat, decide_false, decide_true, gt_iff_lt, Int.lt_irrefl, ne_eq, not_false_eq_true, not_true_eq_false, reduceIte, reduceCtorEq, Nat.reduceEqDiff, Nat.reduceAdd, Nat.reduceMul, Nat.reduceSub, Nat.reduceLT, Nat.reduceLeDiff, Nat.reduceBEq, if_true, if_false, implies_true, Option.isSome_none, Option.isSome_some, List.nil_append, List.cons_append, List.append_nil, List.map_cons, List.map_nil, List.toList_toArray, Option.getD_some, Option.getD_none, Option.map_some, Option.map_none, Option.bind_some, Option.bind_none, List.length_cons, List.length_nil, Bool.cond_true, Bool.cond_false, Array.toList_append, List.filterMap_cons, List.filterMap_nil, List.all_nil, List.all_cons, List.any_cons, List.any_nil, List.map_append, List.getElem?_toArray, List.getElem?_cons_zero, List.getElem?_cons_succ, Option.toArray_some, Option.toArray_none, List.contains_cons, List.contains_nil, List.head?_cons, List.drop_zero, List.drop_succ_cons, List.take_succ_cons, List.take_zero, List.set_cons_zero, List.set_cons_succ, List.length_map, List.getElem?_nil, orc0, zf]
  refine hK _ ?_
  clear hK K
  refine PWp.seq_k fun K1 hK1 => ?_
  refine PWp.seq_rg [0, 4] orc0_ok (mv := mv) (by decide) fun K hK => ?_
  simp only [pwr, mv, List.getD_nil, List.drop_nil, List.head?_nil, Int.natCast_zero, Int.reduceLT, Int.reduceSub, Int.reduceNeg, Int.reduceToNat, decide_false, decide_true, gt_iff_lt, Int.lt_irrefl, ne_eq, not_false_eq_true, not_true_eq_false, reduceIte, reduceCtorEq, Nat.reduceEqDiff, Nat.reduceAdd, Nat.reduceMul, Nat.reduceSub, Nat.reduceLT, Nat.reduceLeDiff, Nat.reduceBEq, if_true, if_false, implies_true, Option.isSome_none, Option.isSome_some, List.nil_append, List.cons_append, List.append_nil, List.map_cons, List.map_nil, List.toList_toArray, Option.getD_some, Option.getD_none, Option.map_some, Option.map_none, Option.bind_some, Option.bind_none, List.length_cons, List.length_nil, Bool.cond_true, Bool.cond_false, Array.toList_append, List.filterMap_cons, List.filterMap_nil, List.all_nil, List.all_cons, List.any_cons, List.any_nil, List.map_append, List.getElem?_toArray, List.getElem?_cons_zero, List.getElem?_cons_succ, Option.toArray_some, Option.toArray_none, List.contains_cons, List.contains_nil, List.head?_cons, List.drop_zero, List.drop_succ_cons, List.take_succ_cons, List.take_zero, List.set_cons_zero, List.set_cons_succ, List.length_map, List.getElem?_nil, orc0, zf]
  refine hK _ ?_
  clear hK K
  refine PWp.cond_any (by rfl) ?_ ?_
  ·
   refine PWp.seq_rg [2] orc0_ok (mv := mv) (by decide) fun K hK => ?_
   simp only [pwr, mv, List.getD_nil, List.drop_nil, List.head?_nil, Int.natCast_zero, Int.reduceLT, Int.reduceSub, Int.reduceNeg, Int.reduceToNat, decide_false, decide_true, gt_iff_lt, Int.lt_irrefl, ne_eq, not_false_eq_true, not_true_eq_false, reduceIte, reduceCtorEq, Nat.reduceEqDiff, Nat.reduceAdd, Nat.reduceMul, Nat.reduceSub, Nat.reduceLT, Nat.reduceLeDiff, Nat.reduceBEq, if_true, if_false, implies_true, Option.isSome_none, Option.isSome_some, List.nil_append, List.cons_append, List.append_nil, List.map_cons, List.map_nil, List.toList_toArray, Option.getD_some, Option.getD_none, Option.map_some, Option.map_none, Option.bind_some, Option.bind_none, List.length_cons, List.length_nil, Bool.cond_true, Bool.cond_false, Array.toList_append, List.filterMap_cons, List.filterMap_nil, List.all_nil, List.all_cons, List.any_cons, List.any_nil, List.map_append, List.getElem?_toArray, List.getElem?_cons_zero, List.getElem?_cons_succ, Option.toArray_some, Option.toArray_none, List.contains_cons, List.contains_nil, List.head?_cons, List.drop_zero, List.drop_succ_cons, List.take_succ_cons, List.take_zero, List.set_cons_zero, List.set_cons_succ, List.length_map, List.getElem?_nil, orc0, zf]
   refine hK _ ?_
   clear hK K
   refine PWp.ret (hQ2 _ ?_)
   simp only [pwf, List.drop_zero, List.drop_succ_cons, List.take_succ_cons, List.take_zero, List.getElem?_cons_zero, List.getElem?_cons_succ, List.getElem?_nil, Nat.sub_self, reduceIte, reduceCtorEq, Nat.reduceEqDiff, Nat.reduceAdd, Nat.reduceMul, Nat.reduceSub, Nat.reduceLT, Nat.reduceLeDiff, Nat.reduceBEq, if_true, if_false, implies_true, Option.isSome_none, Option.isSome_some, List.nil_append, List.cons_append, List.append_nil, List.map_cons, List.map_nil, List.toList_toArray, Option.getD_some, Option.getD_none, Option.map_some, Option.map_none, Option.bind_some, Option.bind_none, List.length_cons, List.length_nil, Bool.cond_true, Bool.cond_false, Array.toList_append, List.contains_cons, List.contains_nil, zf, Tryz.results34]
   repeat simp only [pwf, List.drop_zero, List.drop_succ_cons, List.take_succ_cons, List.take_zero, List.getElem?_cons_zero, List.getElem?_cons_succ, List.getElem?_nil, Nat.sub_self, reduceIte, reduceCtorEq, Nat.reduceEqDiff, Nat.reduceAdd, Nat.reduceMul, Nat.reduceSub, Nat.reduceLT, Nat.reduceLeDiff, Nat.reduceBEq, if_true, if_false, implies_true, Option.isSome_none, Option.isSome_some, List.nil_append, List.cons_append, List.append_nil, List.map_cons, List.map_nil, List.toList_toArray, Option.getD_some, Option.getD_none, Option.map_some, Option.map_none, Option.bind_some, Option.bind_none, List.length_cons, List.length_nil, Bool.cond_true, Bool.cond_false, Array.toList_append, List.contains_cons, List.contains_nil, zf]
   first | done | rfl | (simp; done) | trace_state
  ·
   refine PWp.skip (hK1 _ ?_)
   refine PWp.seq_rg [2] orc0_ok (mv := mv) (by decide) fun K hK => ?_
   simp only [pwr, mv, List.getD_nil, List.drop_nil, List.head?_nil, Int.natCast_zero, Int.reduceLT, Int.reduceSub, Int.reduceNeg, Int.reduceToNat, decide_false, decide_true, gt_iff_lt, Int.lt_irrefl, ne_eq, not_false_eq_true, not_true_eq_false, reduceIte, reduceCtorEq, Nat.reduceEqDiff, Nat.reduceAdd, Nat.reduceMul, Nat.reduceSub, Nat.reduceLT, Nat.reduceLeDiff, Nat.reduceBEq, if_true, if_false, implies_true, Option.isSome_none, Option.isSome_some, List.nil_append, List.cons_append, List.append_nil, List.map_cons, List.map_nil, List.toList_toArray, Option.getD_some, Option.getD_none, Option.map_some, Option.map_none, Option.bind_some, Option.bind_none, List.length_cons, List.length_nil, Bool.cond_true, Bool.cond_false, Array.toList_append, List.filterMap_cons, List.filterMap_nil, List.all_nil, List.all_cons, List.any_cons, List.any_nil, List.map_append, List.getElem?_toArray, List.getElem?_cons_zero, List.getElem?_cons_succ, Option.toArray_some, Option.toArray_none, List.contains_cons, List.contains_nil, List.head?_cons, List.drop_zero, List.drop_succ_cons, List.take_succ_cons, List.take_zero, List.set_cons_zero, List.set_cons_succ, List.length_map, List.getElem?_nil, orc0, zf]
   repeat' with_reducible refine And.intro ?_ ?_
   all_goals try (first | omega | rfl | ((with_reducible refine drawGoal ?_); exact rfl) | (simp only [inR]; omega) | (intro y hy; simp only [List.mem_singleton] at hy; subst hy; rfl) | (intro y hy; cases hy; done) | (simp only [List.length_append, List.length_map, List.length_cons, List.length_nil]; omega) | (intro h; simp only [inR]; omega) | (intro h; simp only [List.length_append, List.length_map, List.length_cons, List.length_nil]; omega) | (intro h; exact h.elim))
   refine hK _ ?_
   clear hK K
   refine PWp.ret (hQ2 _ ?_)
   simp only [pwf, List.drop_zero, List.drop_succ_cons, List.take_succ_cons, List.take_zero, List.getElem?_cons_zero, List.getElem?_cons_succ, List.getElem?_nil, Nat.sub_self, reduceIte, reduceCtorEq, Nat.reduceEqDiff, Nat.reduceAdd, Nat.reduceMul, Nat.reduceSub, Nat.reduceLT, Nat.reduceLeDiff, Nat.reduceBEq, if_true, if_false, implies_true, Option.isSome_none, Option.isSome_some, List.nil_append, List.cons_append, List.append_nil, List.map_cons, List.map_nil, List.toList_toArray, Option.getD_some, Option.getD_none, Option.map_some, Option.map_none, Option.bind_some, Option.bind_none, List.length_cons, List.length_nil, Bool.cond_true, Bool.cond_false, Array.toList_append, List.contains_cons, List.contains_nil, zf, Tryz.results34]
   repeat simp only [pwf, List.drop_zero, List.drop_succ_cons, List.take_succ_cons, List.take_zero, List.getElem?_cons_zero, List.getElem?_cons_succ, List.getElem?_nil, Nat.sub_self, reduceIte, reduceCtorEq, Nat.reduceEqDiff, Nat.reduceAdd, Nat.reduceMul, Nat.reduceSub, Nat.reduceLT, Nat.reduceLeDiff, Nat.reduceBEq, if_true, if_false, implies_true, Option.isSome_none, Option.isSome_some, List.nil_append, List.cons_append, List.append_nil, List.map_cons, List.map_nil, List.toList_toArray, Option.getD_some, Option.getD_none, Option.map_some, Option.map_none, Option.bind_some, Option.bind_none, List.length_cons, List.length_nil, Bool.cond_true, Bool.cond_false, Array.toList_append, List.contains_cons, List.contains_nil, zf]
   first | done | rfl | (simp; done) | trace_state
  | cons g l =>
  refine PCalls.of_k Tryz.func34 (by decide) rfl fun Q hQ1 hQ2 => ?_
  refine PWp.seq_rg [0] orc0_ok (mv := mv) (by decide) fun K hK => ?_
  simp only [pwr, mv, List.getD_nil, List.drop_nil, List.head?_nil, Int.natCast_zero, Int.reduceLT, Int.reduceSub, Int.reduceNeg, Int.reduceToNat, decide_false, decide_true, gt_iff_lt, Int.lt_irrefl, ne_eq, not_false_eq_true, not_true_eq_false, reduceIte, reduceCtorEq, Nat.reduceEqDiff, Nat.reduceAdd, Nat.reduceMul, Nat.reduceSub, Nat.reduceLT, Nat.reduceLeDiff, Nat.reduceBEq, if_true, if_false, implies_true, Option.isSome_none, Option.isSome_some, List.nil_append, List.cons_append, List.append_nil, List.map_cons, List.map_nil, List.toList_toArray, Option.getD_some, Option.getD_none, Option.map_some, Option.map_none, Option.bind_some, Option.bind_none, List.length_cons, List.length_nil, Bool.cond_true, Bool.cond_false, Array.toList_append, List.filterMap_cons, List.filterMap_nil, List.all_nil, List.all_cons, List.any_cons, List.any_nil, List.map_append, List.getElem?_toArray, List.getElem?_cons_zero, List.getElem?_cons_succ, Option.toArray_some, Option.toArray_none, List.contains_cons, List.contains_nil, List.head?_cons, List.drop_zero, List.drop_succ_cons, List.take_succ_cons, List.take_zero, List.set_cons_zero, List.set_cons_succ, List.length_map, List.getElem?_nil, orc0, zf]
  refine hK _ ?_
  clear hK K
  refine PWp.seq_k fun K1 hK1 => ?_
  refine PWp.seq_rg [0, 4] orc0_ok (mv := mv) (by decide) fun K hK => ?_
  simp only [pwr, mv, List.getD_nil, List.drop_nil, List.head?_nil, Int.natCast_zero, Int.reduceLT, Int.reduceSub, Int.reduceNeg, Int.reduceToNat, decide_false, decide_true, gt_iff_lt, Int.lt_irrefl, ne_eq, not_false_eq_true, not_true_eq_false, reduceIte, reduceCtorEq, Nat.reduceEqDiff, Nat.reduceAdd, Nat.reduceMul, Nat.reduceSub, Nat.reduceLT, Nat.reduceLeDiff, Nat.reduceBEq, if_true, if_false, implies_true, Option.isSome_none, Option.isSome_some, List.nil_append, List.cons_append, List.append_nil, List.map_cons, List.map_nil, List.toList_toArray, Option.getD_some, Option.getD_none, Option.map_some, Option.map_none, Option.bind_some, Option.bind_none, List.length_cons, List.length_nil, Bool.cond_true, Bool.cond_false, Array.toList_append, List.filterMap_cons, List.filterMap_nil, List.all_nil, List.all_cons, List.any_cons, List.any_nil, List.map_append, List.getElem?_toArray, List.getElem?_cons_zero, List.getElem?_cons_succ, Option.toArray_some, Option.toArray_none, List.contains_cons, List.contains_nil, List.head?_cons, List.drop_zero, List.drop_succ_cons, List.take_succ_cons, List.take_zero, List.set_cons_zero, List.set_cons_succ, List.length_map, List.getElem?_nil, orc0, zf]
  refine hK _ ?_
  clear hK K
  refine PWp.cond (by rfl) (fun hb4 => ?_) (fun hb4 => ?_)
  ·
   cases hb4
  ·
   try (cases hb4; done)
   all_goals
    refine PWp.skip (hK1 _ ?_)
    simp only [List.length_cons] at hl
    refine PWp.seq_rg [2] orc0_ok (mv := mv) (by decide) fun K hK => ?_
    simp only [pwr, mv, List.getD_nil, List.drop_nil, List.head?_nil, Int.natCast_zero, Int.reduceLT, Int.reduceSub, Int.reduceNeg, Int.reduceToNat, decide_false, decide_true, gt_iff_lt, Int.lt_irrefl, ne_eq, not_false_eq_true, not_true_eq_false, reduceIte, reduceCtorEq, Nat.reduceEqDiff, Nat.reduceAdd, Nat.reduceMul, Nat.reduceSub, Nat.reduceLT, Nat.reduceLeDiff, Nat.reduceBEq, if_true, if_false, implies_true, Option.isSome_none, Option.isSome_some, List.nil_append, List.cons_append, List.append_nil, List.map_cons, List.map_nil, List.toList_toArray, Option.getD_some, Option.getD_none, Option.map_some, Option.map_none, Option.bind_some, Option.bind_none, List.length_cons, List.length_nil, Bool.cond_true, Bool.cond_false, Array.toList_append, List.filterMap_cons, List.filterMap_nil, List.all_nil, List.all_cons, List.any_cons, List.any_nil, List.map_append, List.getElem?_toArray, List.getElem?_cons_zero, List.getElem?_cons_succ, Option.toArray_some, Option.toArray_none, List.contains_cons, List.contains_nil, List.head?_cons, List.drop_zero, List.drop_succ_cons, List.take_succ_cons, List.take_zero, List.set_cons_zero, List.set_cons_succ, List.length_map, List.getElem?_nil, orc0, zf]
    repeat' with_reducible refine And.intro ?_ ?_
    all_goals try (exact gRows_len (l := g :: l))
    all_goals try (first | omega | rfl | ((with_reducible refine drawGoal ?_); exact rfl) | (simp only [inR]; omega) | (intro y hy; simp only [List.mem_singleton] at hy; subst hy; rfl) | (intro y hy; cases hy; done) | (simp only [List.length_append, List.length_map, List.length_cons, List.length_nil]; omega) | (intro h; simp only [inR]; omega) | (intro h; simp only [List.length_append, List.length_map, List.length_cons, List.length_nil]; omega) | (intro h; exact h.elim))
    refine hK _ ?_
    clear hK K
    refine PWp.ret (hQ2 _ ?_)
    simp only [pwf, List.drop_zero, List.drop_succ_cons, List.take_succ_cons, List.take_zero, List.getElem?_cons_zero, List.getElem?_cons_succ, List.getElem?_nil, Nat.sub_self, reduceIte, reduceCtorEq, Nat.reduceEqDiff, Nat.reduceAdd, Nat.reduceMul, Nat.reduceSub, Nat.reduceLT, Nat.reduceLeDiff, Nat.reduceBEq, if_true, if_false, implies_true, Option.isSome_none, Option.isSome_some, List.nil_append, List.cons_append, List.append_nil, List.map_cons, List.map_nil, List.toList_toArray, Option.getD_some, Option.getD_none, Option.map_some, Option.map_none, Option.bind_some, Option.bind_none, List.length_cons, List.length_nil, Bool.cond_true, Bool.cond_false, Array.toList_append, List.contains_cons, List.contains_nil, zf, Tryz.results34]
    repeat simp only [pwf, List.drop_zero, List.drop_succ_cons, List.take_succ_cons, List.take_zero, List.getElem?_cons_zero, List.getElem?_cons_succ, List.getElem?_nil, Nat.sub_self, reduceIte, reduceCtorEq, Nat.reduceEqDiff, Nat.reduceAdd, Nat.reduceMul, Nat.reduceSub, Nat.reduceLT, Nat.reduceLeDiff, Nat.reduceBEq, if_true, if_false, implies_true, Option.isSome_none, Option.isSome_some, List.nil_append, List.cons_append, List.append_nil, List.map_cons, List.map_nil, List.toList_toArray, Option.getD_some, Option.getD_none, Option.map_some, Option.map_none, Option.bind_some, Option.bind_none, List.length_cons, List.length_nil, Bool.cond_true, Bool.cond_false, Array.toList_append, List.contains_cons, List.contains_nil, zf]
    first | done | rfl | (simp; done) | trace_state
theorem getD_snoc (o : List G) (g : G) : (List.map gRow o ++ [gRow g]).getD o.length [] = [.int .i64 g.1, .int .i64 g.2] := by
  simp [List.getD, gRow]
theorem mjoin_snoc (l : List G) (r : G) : mjoin (l ++ [r]) = mstep (mjoin l) r := by simp [mjoin]
theorem mstep_len (out : List G) (r : G) : (mstep out r).length ≤ out.length + 1 := by
  unfold mstep
  split
  · omega
  · split
    · rename_i g hg
      have : out ≠ [] := by intro e; subst e; simp at hg
      have := List.length_pos_iff.2 this
      split <;> simp <;> omega
    · simp
theorem mjoin_len (l : List G) : (mjoin l).length ≤ l.length := by
  have : ∀ (l : List G) (o : List G), (l.foldl mstep o).length ≤ o.length + l.length := by
    intro l
    induction l with
    | nil => intro o; simp
    | cons r l ih =>
      intro o
      have h1 := ih (mstep o r)
      have h2 := mstep_len o r
      simp only [List.foldl_cons, List.length_cons]
      omega
  have h := this l []
  simp only [List.length_nil, Nat.zero_add] at h
  exact h
theorem t25 (l : List G) (hl : l.length < 100000000) : PCalls Tryz.prog 39 [(.S 0, .av (.pv (.sl (gRows l))))] [(.S 0, .av (.tup [gSet (made l).1, .pv (.int .i64 (made l).2)]))] := by
  refine PCalls.of_k Tryz.func39 (by decide) rfl fun Q hQ1 hQ2 => ?_
  refine PWp.seq_rg [0, 2] orc0_ok (mv := mv) (by decide) fun K hK => ?_
  simp only [pwr, mv, List.getD_nil, List.drop_nil, List.head?_nil, Int.natCast_zero, Int.reduceLT, Int.reduceSub, Int.reduceNeg, Int.reduceToNat, decide_false, decide_true, gt_iff_lt, Int.lt_irrefl, ne_eq, not_false_eq_true, not_true_eq_false, reduceIte, reduceCtorEq, Nat.reduceEqDiff, Nat.reduceAdd, Nat.reduceMul, Nat.reduceSub, Nat.reduceLT, Nat.reduceLeDiff, Nat.reduceBEq, if_true, if_false, implies_true, Option.isSome_none, Option.isSome_some, List.nil_append, List.cons_append, List.append_nil, List.map_cons, List.map_nil, List.toList_toArray, Option.getD_some, Option.getD_none, Option.map_some, Option.map_none, Option.bind_some, Option.bind_none, List.length_cons, List.length_nil, Bool.cond_true, Bool.cond_false, Array.toList_append, List.filterMap_cons, List.filterMap_nil, List.all_nil, List.all_cons, List.any_cons, List.any_nil, List.map_append, List.getElem?_toArray, List.getElem?_cons_zero, List.getElem?_cons_succ, Option.toArray_some, Option.toArray_none, List.contains_cons, List.contains_nil, List.head?_cons, List.drop_zero, List.drop_succ_cons, List.take_succ_cons, List.take_zero, List.set_cons_zero, List.set_cons_succ, List.length_map, List.getElem?_nil, orc0, zf]
  refine hK _ ?_
  clear hK K
  refine PWp.seq_rg [0, 2, 4] orc0_ok (mv := mv) (by decide) fun K hK => ?_
  simp only [pwr, mv, List.getD_nil, List.drop_nil, List.head?_nil, Int.natCast_zero, Int.reduceLT, Int.reduceSub, Int.reduceNeg, Int.reduceToNat, decide_false, decide_true, gt_iff_lt, Int.lt_irrefl, ne_eq, not_false_eq_true, not_true_eq_false, reduceIte, reduceCtorEq, Nat.reduceEqDiff, Nat.reduceAdd, Nat.reduceMul, Nat.reduceSub, Nat.reduceLT, Nat.reduceLeDiff, Nat.reduceBEq, if_true, if_false, implies_true, Option.isSome_none, Option.isSome_some, List.nil_append, List.cons_append, List.append_nil, List.map_cons, List.map_nil, List.toList_toArray, Option.getD_some, Option.getD_none, Option.map_some, Option.map_none, Option.bind_some, Option.bind_none, List.length_cons, List.length_nil, Bool.cond_true, Bool.cond_false, Array.toList_append, List.filterMap_cons, List.filterMap_nil, List.all_nil, List.all_cons, List.any_cons, List.any_nil, List.map_append, List.getElem?_toArray, List.getElem?_cons_zero, List.getElem?_cons_succ, Option.toArray_some, Option.toArray_none, List.contains_cons, List.contains_nil, List.head?_cons, List.drop_zero, List.drop_succ_cons, List.take_succ_cons, List.take_zero, List.set_cons_zero, List.set_cons_succ, List.length_map, List.getElem?_nil, orc0, zf]
  refine hK _ ?_
  clear hK K
  refine PWp.seq_k fun K1 hK1 => ?_
  refine PWp.seq_rg [2, 4, 8, 9, 10] orc0_ok (mv := mv) (by decide) fun K hK => ?_
  simp only [pwr, mv, List.getD_nil, List.drop_nil, List.head?_nil, Int.natCast_zero, Int.reduceLT, Int.reduceSub, Int.reduceNeg, Int.reduceToNat, decide_false, decide_true, gt_iff_lt, Int.lt_irrefl, ne_eq, not_false_eq_true, not_true_eq_false, reduceIte, reduceCtorEq, Nat.reduceEqDiff, Nat.reduceAdd, Nat.reduceMul, Nat.reduceSub, Nat.reduceLT, Nat.reduceLeDiff, Nat.reduceBEq, if_true, if_false, implies_true, Option.isSome_none, Option.isSome_some, List.nil_append, List.cons_append, List.append_nil, List.map_cons, List.map_nil, List.toList_toArray, Option.getD_some, Option.getD_none, Option.map_some, Option.map_none, Option.bind_some, Option.bind_none, List.length_cons, List.length_nil, Bool.cond_true, Bool.cond_false, Array.toList_append, List.filterMap_cons, List.filterMap_nil, List.all_nil, List.all_cons, List.any_cons, List.any_nil, List.map_append, List.getElem?_toArray, List.getElem?_cons_zero, List.getElem?_cons_succ, Option.toArray_some, Option.toArray_none, List.contains_cons, List.contains_nil, List.head?_cons, List.drop_zero, List.drop_succ_cons, List.take_succ_cons, List.take_zero, List.set_cons_zero, List.set_cons_succ, List.length_map, List.getElem?_nil, orc0, zf]
  refine hK _ ?_
  clear hK K
  refine PWp.block_k fun Qq2 hq2n hq2x hq2r hq2e => ?_
  refine PWp.loop_k (fun i : Nat => [(.S 2, .av (.ptr 1002 0 0)), (.S 4, .av (.rf (.RS 4 0) 0)), (.S 8, .av (.pv (.sl (gRows l)))), (.S 9, .av (.pv (.int .i64 l.length))), (.S 10, .av (.pv (.int .i64 i))), (.B 1002, .bx 0 [.emp]), (.RS 4 0, .rw 0 true 41 (gRows (mjoin (l.take i))))]) (fun i => i ≤ l.length) (fun i => l.length - i) (0) (Nat.zero_le _) ?_ ?_
  · repeat simp only [pwf, List.drop_zero, List.drop_succ_cons, List.take_succ_cons, List.take_zero, List.getElem?_cons_zero, List.getElem?_cons_succ, List.getElem?_nil, Nat.sub_self, reduceIte, reduceCtorEq, Nat.reduceEqDiff, Nat.reduceAdd, Nat.reduceMul, Nat.reduceSub, Nat.reduceLT, Nat.reduceLeDiff, Nat.reduceBEq, if_true, if_false, implies_true, Option.isSome_none, Option.isSome_some, List.nil_append, List.cons_append, List.append_nil, List.map_cons, List.map_nil, List.toList_toArray, Option.getD_some, Option.getD_none, Option.map_some, Option.map_none, Option.bind_some, Option.bind_none, List.length_cons, List.length_nil, Bool.cond_true, Bool.cond_false, Array.toList_append, List.contains_cons, List.contains_nil, zf]
    simp [mjoin]
  rintro i hi J1 hJ1
  rcases List.eq_nil_or_concat (mjoin (l.take i)) with ho | ⟨o, g, ho⟩ <;> (try rw [List.concat_eq_append] at ho) <;> rw [ho]
  ·
   refine PWp.seq_rg [2, 4, 8, 9, 10, 11] orc0_ok (mv := mv) (by decide) fun K hK => ?_
   simp only [pwr, mv, List.getD_nil, List.drop_nil, List.head?_nil, Int.natCast_zero, Int.reduceLT, Int.reduceSub, Int.reduceNeg, Int.reduceToNat, decide_false, decide_true, gt_iff_lt, Int.lt_irrefl, ne_eq, not_false_eq_true, not_true_eq_false, reduceIte, reduceCtorEq, Nat.reduceEqDiff, Nat.reduceAdd, Nat.reduceMul, Nat.reduceSub, Nat.reduceLT, Nat.reduceLeDiff, Nat.reduceBEq, if_true, if_false, implies_true, Option.isSome_none, Option.isSome_some, List.nil_append, List.cons_append, List.append_nil, List.map_cons, List.map_nil, List.toList_toArray, Option.getD_some, Option.getD_none, Option.map_some, Option.map_none, Option.bind_some, Option.bind_none, List.length_cons, List.length_nil, Bool.cond_true, Bool.cond_false, Array.toList_append, List.filterMap_cons, List.filterMap_nil, List.all_nil, List.all_cons, List.any_cons, List.any_nil, List.map_append, List.getElem?_toArray, List.getElem?_cons_zero, List.getElem?_cons_succ, Option.toArray_some, Option.toArray_none, List.contains_cons, List.contains_nil, List.head?_cons, List.drop_zero, List.drop_succ_cons, List.take_succ_cons, List.take_zero, List.set_cons_zero, List.set_cons_succ, List.length_map, List.getElem?_nil, orc0, zf]
   refine hK _ ?_
   clear hK K
   refine PWp.seq_k fun K3 hK3 => ?_
   refine PWp.cond (by rfl) (fun hb11 => ?_) (fun hb11 => ?_)
   ·
    try (cases hb11; done)
    all_goals
     refine PWp.skip (hK3 _ ?_)
     refine PWp.seq_k fun K4 hK4 => ?_
     refine PWp.block_k fun Qq5 hq5n hq5x hq5r hq5e => ?_
     have hil : i < l.length := by simpa using hb11
     have e1 : (gRows l).getD i [] = [.int .i64 l[i].1, .int .i64 l[i].2] := getD_map hil
     have hs : mjoin (l.take (i + 1)) = mstep (mjoin (l.take i)) l[i] := by rw [List.take_succ_eq_append_getElem hil, mjoin_snoc]
     refine PWp.seq_rg [2, 4, 6, 8, 9, 10] orc0_ok (mv := mv) (by decide) fun K hK => ?_
     simp only [pwr, mv, List.getD_nil, List.drop_nil, List.head?_nil, Int.natCast_zero, Int.reduceLT, Int.reduceSub, Int.reduceNeg, Int.reduceToNat, decide_false, decide_true, gt_iff_lt, Int.lt_irrefl, ne_eq, not_false_eq_true, not_true_eq_false, reduceIte, reduceCtorEq, Nat.reduceEqDiff, Nat.reduceAdd, Nat.reduceMul, Nat.reduceSub, Nat.reduceLT, Nat.reduceLeDiff, Nat.reduceBEq, if_true, if_false, implies_true, Option.isSome_none, Option.isSome_some, List.nil_append, List.cons_append, List.append_nil, List.map_cons, List.map_nil, List.toList_toArray, Option.getD_some, Option.getD_none, Option.map_some, Option.map_none, Option.bind_some, Option.bind_none, List.length_cons, List.length_nil, Bool.cond_true, Bool.cond_false, Array.toList_append, List.filterMap_cons, List.filterMap_nil, List.all_nil, List.all_cons, List.any_cons, List.any_nil, List.map_append, List.getElem?_toArray, List.getElem?_cons_zero, List.getElem?_cons_succ, Option.toArray_some, Option.toArray_none, List.contains_cons, List.contains_nil, List.head?_cons, List.drop_zero, List.drop_succ_cons, List.take_succ_cons, List.take_zero, List.set_cons_zero, List.set_cons_succ, List.length_map, List.getElem?_nil, orc0, zf, e1]
     repeat' with_reducible refine And.intro ?_ ?_
     all_goals try (first | omega | rfl | ((with_reducible refine drawGoal ?_); exact rfl) | (simp only [inR]; omega) | (intro y hy; simp only [List.mem_singleton] at hy; subst hy; rfl) | (intro y hy; cases hy; done) | (simp only [List.length_append, List.length_map, List.length_cons, List.length_nil]; omega) | (intro h; simp only [inR]; omega) | (intro h; simp only [List.length_append, List.length_map, List.length_cons, List.length_nil]; omega) | (intro h; exact h.elim))
     refine hK _ ?_
     clear hK K
     refine PWp.seq_rg [2, 4, 6, 7, 8, 9, 10] orc0_ok (mv := mv) (by decide) fun K hK => ?_
     simp only [pwr, mv, List.getD_nil, List.drop_nil, List.head?_nil, Int.natCast_zero, Int.reduceLT, Int.reduceSub, Int.reduceNeg, Int.reduceToNat, decide_false, decide_true, gt_iff_lt, Int.lt_irrefl, ne_eq, not_false_eq_true, not_true_eq_false, reduceIte, reduceCtorEq, Nat.reduceEqDiff, Nat.reduceAdd, Nat.reduceMul, Nat.reduceSub, Nat.reduceLT, Nat.reduceLeDiff, Nat.reduceBEq, if_true, if_false, implies_true, Option.isSome_none, Option.isSome_some, List.nil_append, List.cons_append, List.append_nil, List.map_cons, List.map_nil, List.toList_toArray, Option.getD_some, Option.getD_none, Option.map_some, Option.map_none, Option.bind_some, Option.bind_none, List.length_cons, List.length_nil, Bool.cond_true, Bool.cond_false, Array.toList_append, List.filterMap_cons, List.filterMap_nil, List.all_nil, List.all_cons, List.any_cons, List.any_nil, List.map_append, List.getElem?_toArray, List.getElem?_cons_zero, List.getElem?_cons_succ, Option.toArray_some, Option.toArray_none, List.contains_cons, List.contains_nil, List.head?_cons, List.drop_zero, List.drop_succ_cons, List.take_succ_cons, List.take_zero, List.set_cons_zero, List.set_cons_succ, List.length_map, List.getElem?_nil, orc0, zf]
     refine hK _ ?_
     clear hK K
     refine PWp.block_l fun Qq6 hq6n hq6x hq6r hq6e => ?_
     refine PWp.seq_rg [2, 4, 6, 7, 8, 9, 10, 20] orc0_ok (mv := mv) (by decide) fun K hK => ?_
     simp only [pwr, mv, List.getD_nil, List.drop_nil, List.head?_nil, Int.natCast_zero, Int.reduceLT, Int.reduceSub, Int.reduceNeg, Int.reduceToNat, decide_false, decide_true, gt_iff_lt, Int.lt_irrefl, ne_eq, not_false_eq_true, not_true_eq_false, reduceIte, reduceCtorEq, Nat.reduceEqDiff, Nat.reduceAdd, Nat.reduceMul, Nat.reduceSub, Nat.reduceLT, Nat.reduceLeDiff, Nat.reduceBEq, if_true, if_false, implies_true, Option.isSome_none, Option.isSome_some, List.nil_append, List.cons_append, List.append_nil, List.map_cons, List.map_nil, List.toList_toArray, Option.getD_some, Option.getD_none, Option.map_some, Option.map_none, Option.bind_some, Option.bind_none, List.length_cons, List.length_nil, Bool.cond_true, Bool.cond_false, Array.toList_append, List.filterMap_cons, List.filterMap_nil, List.all_nil, List.all_cons, List.any_cons, List.any_nil, List.map_append, List.getElem?_toArray, List.getElem?_cons_zero, List.getElem?_cons_succ, Option.toArray_some, Option.toArray_none, List.contains_cons, List.contains_nil, List.head?_cons, List.drop_zero, List.drop_succ_cons, List.take_succ_cons, List.take_zero, List.set_cons_zero, List.set_cons_succ, List.length_map, List.getElem?_nil, orc0, zf]
     refine hK _ ?_
     clear hK K
     refine PWp.cond (by rfl) (fun hb20 => ?_) (fun hb20 => ?_)
     ·
      try (cases hb20; done)
      all_goals
       refine PWp.skip (hq6n _ (hq5n _ (hK4 _ ?_)))
       refine PWp.rg [2, 4, 8, 9, 10] orc0_ok (mv := mv) (by decide) ?_
       simp only [pwr, mv, List.getD_nil, List.drop_nil, List.head?_nil, Int.natCast_zero, Int.reduceLT, Int.reduceSub, Int.reduceNeg, Int.reduceToNat, decide_false, decide_true, gt_iff_lt, Int.lt_irrefl, ne_eq, not_false_eq_true, not_true_eq_false, reduceIte, reduceCtorEq, Nat.reduceEqDiff, Nat.reduceAdd, Nat.reduceMul, Nat.reduceSub, Nat.reduceLT, Nat.reduceLeDiff, Nat.reduceBEq, if_true, if_false, implies_true, Option.isSome_none, Option.isSome_some, List.nil_append, List.cons_append, List.append_nil, List.map_cons, List.map_nil, List.toList_toArray, Option.getD_some, Option.getD_none, Option.map_some, Option.map_none, Option.bind_some, Option.bind_none, List.length_cons, List.length_nil, Bool.cond_true, Bool.cond_false, Array.toList_append, List.filterMap_cons, List.filterMap_nil, List.all_nil, List.all_cons, List.any_cons, List.any_nil, List.map_append, List.getElem?_toArray, List.getElem?_cons_zero, List.getElem?_cons_succ, Option.toArray_some, Option.toArray_none, List.contains_cons, List.contains_nil, List.head?_cons, List.drop_zero, List.drop_succ_cons, List.take_succ_cons, List.take_zero, List.set_cons_zero, List.set_cons_succ, List.length_map, List.getElem?_nil, orc0, zf]
       repeat' with_reducible refine And.intro ?_ ?_
       all_goals try (first | omega | rfl | ((with_reducible refine drawGoal ?_); exact rfl) | (simp only [inR]; omega) | (intro y hy; simp only [List.mem_singleton] at hy; subst hy; rfl) | (intro y hy; cases hy; done) | (simp only [List.length_append, List.length_map, List.length_cons, List.length_nil]; omega) | (intro h; simp only [inR]; omega) | (intro h; simp only [List.length_append, List.length_map, List.length_cons, List.length_nil]; omega) | (intro h; exact h.elim))
       refine hJ1 _ (i + 1) ?_ ?_ ?_
       · first | omega | (show _ ≤ _; omega) | exact ⟨by omega, by assumption⟩
       · omega
       · repeat simp only [pwf, List.drop_zero, List.drop_succ_cons, List.take_succ_cons, List.take_zero, List.getElem?_cons_zero, List.getElem?_cons_succ, List.getElem?_nil, Nat.sub_self, reduceIte, reduceCtorEq, Nat.reduceEqDiff, Nat.reduceAdd, Nat.reduceMul, Nat.reduceSub, Nat.reduceLT, Nat.reduceLeDiff, Nat.reduceBEq, if_true, if_false, implies_true, Option.isSome_none, Option.isSome_some, List.nil_append, List.cons_append, List.append_nil, List.map_cons, List.map_nil, List.toList_toArray, Option.getD_some, Option.getD_none, Option.map_some, Option.map_none, Option.bind_some, Option.bind_none, List.length_cons, List.length_nil, Bool.cond_true, Bool.cond_false, Array.toList_append, List.contains_cons, List.contains_nil, zf]
         have := of_decide_eq_true hb20
         simp [hs, ho, mstep, this]
     ·
      try (cases hb20; done)
      all_goals
       refine PWp.seq_dr [2, 4, 6, 7, 8, 9, 10, 26] mixed orc0_ok (mv := mv) (by decide) fun K hK => ?_
       simp only [pwr, mv, List.getD_nil, List.drop_nil, List.head?_nil, Int.natCast_zero, Int.reduceLT, Int.reduceSub, Int.reduceNeg, Int.reduceToNat, decide_false, decide_true, gt_iff_lt, Int.lt_irrefl, ne_eq, not_false_eq_true, not_true_eq_false, reduceIte, reduceCtorEq, Nat.reduceEqDiff, Nat.reduceAdd, Nat.reduceMul, Nat.reduceSub, Nat.reduceLT, Nat.reduceLeDiff, Nat.reduceBEq, if_true, if_false, implies_true, Option.isSome_none, Option.isSome_some, List.nil_append, List.cons_append, List.append_nil, List.map_cons, List.map_nil, List.toList_toArray, Option.getD_some, Option.getD_none, Option.map_some, Option.map_none, Option.bind_some, Option.bind_none, List.length_cons, List.length_nil, Bool.cond_true, Bool.cond_false, Array.toList_append, List.filterMap_cons, List.filterMap_nil, List.all_nil, List.all_cons, List.any_cons, List.any_nil, List.map_append, List.getElem?_toArray, List.getElem?_cons_zero, List.getElem?_cons_succ, Option.toArray_some, Option.toArray_none, List.contains_cons, List.contains_nil, List.head?_cons, List.drop_zero, List.drop_succ_cons, List.take_succ_cons, List.take_zero, List.set_cons_zero, List.set_cons_succ, List.length_map, List.getElem?_nil, orc0, zf]
       repeat' with_reducible refine And.intro ?_ ?_
       all_goals try ((first | (intro h; simp only [inR]; omega) | (intro h; simp only [List.length_append, List.length_map, List.length_singleton]; omega)))
       all_goals try (first | omega | rfl | ((with_reducible refine drawGoal ?_); exact rfl) | (simp only [inR]; omega) | (intro y hy; simp only [List.mem_singleton] at hy; subst hy; rfl) | (intro y hy; cases hy; done) | (simp only [List.length_append, List.length_map, List.length_cons, List.length_nil]; omega) | (intro h; simp only [inR]; omega) | (intro h; simp only [List.length_append, List.length_map, List.length_cons, List.length_nil]; omega) | (intro h; exact h.elim))
       refine hK _ ?_
       clear hK K
       refine PWp.cond (by rfl) (fun hb26 => ?_) (fun hb26 => ?_)
       ·
        cases hb26
       ·
        try (cases hb26; done)
        all_goals
         refine PWp.rg [2, 4, 8, 9, 10] orc0_ok (mv := mv) (by decide) ?_
         simp only [pwr, mv, List.getD_nil, List.drop_nil, List.head?_nil, Int.natCast_zero, Int.reduceLT, Int.reduceSub, Int.reduceNeg, Int.reduceToNat, decide_false, decide_true, gt_iff_lt, Int.lt_irrefl, ne_eq, not_false_eq_true, not_true_eq_false, reduceIte, reduceCtorEq, Nat.reduceEqDiff, Nat.reduceAdd, Nat.reduceMul, Nat.reduceSub, Nat.reduceLT, Nat.reduceLeDiff, Nat.reduceBEq, if_true, if_false, implies_true, Option.isSome_none, Option.isSome_some, List.nil_append, List.cons_append, List.append_nil, List.map_cons, List.map_nil, List.toList_toArray, Option.getD_some, Option.getD_none, Option.map_some, Option.map_none, Option.bind_some, Option.bind_none, List.length_cons, List.length_nil, Bool.cond_true, Bool.cond_false, Array.toList_append, List.filterMap_cons, List.filterMap_nil, List.all_nil, List.all_cons, List.any_cons, List.any_nil, List.map_append, List.getElem?_toArray, List.getElem?_cons_zero, List.getElem?_cons_succ, Option.toArray_some, Option.toArray_none, List.contains_cons, List.contains_nil, List.head?_cons, List.drop_zero, List.drop_succ_cons, List.take_succ_cons, List.take_zero, List.set_cons_zero, List.set_cons_succ, List.length_map, List.getElem?_nil, orc0, zf]
         repeat' with_reducible refine And.intro ?_ ?_
         all_goals try (first | omega | rfl | ((with_reducible refine drawGoal ?_); exact rfl) | (simp only [inR]; omega) | (intro y hy; simp only [List.mem_singleton] at hy; subst hy; rfl) | (intro y hy; cases hy; done) | (simp only [List.length_append, List.length_map, List.length_cons, List.length_nil]; omega) | (intro h; simp only [inR]; omega) | (intro h; simp only [List.length_append, List.length_map, List.length_cons, List.length_nil]; omega) | (intro h; exact h.elim))
         refine hq6n _ (hq5n _ (hK4 _ ?_))
         refine PWp.rg [2, 4, 8, 9, 10] orc0_ok (mv := mv) (by decide) ?_
         simp only [pwr, mv, List.getD_nil, List.drop_nil, List.head?_nil, Int.natCast_zero, Int.reduceLT, Int.reduceSub, Int.reduceNeg, Int.reduceToNat, decide_false, decide_true, gt_iff_lt, Int.lt_irrefl, ne_eq, not_false_eq_true, not_true_eq_false, reduceIte, reduceCtorEq, Nat.reduceEqDiff, Nat.reduceAdd, Nat.reduceMul, Nat.reduceSub, Nat.reduceLT, Nat.reduceLeDiff, Nat.reduceBEq, if_true, if_false, implies_true, Option.isSome_none, Option.isSome_some, List.nil_append, List.cons_append, List.append_nil, List.map_cons, List.map_nil, List.toList_toArray, Option.getD_some, Option.getD_none, Option.map_some, Option.map_none, Option.bind_some, Option.bind_none, List.length_cons, List.length_nil, Bool.cond_true, Bool.cond_false, Array.toList_append, List.filterMap_cons, List.filterMap_nil, List.all_nil, List.all_cons, List.any_cons, List.any_nil, List.map_append, List.getElem?_toArray, List.getElem?_cons_zero, List.getElem?_cons_succ, Option.toArray_some, Option.toArray_none, List.contains_cons, List.contains_nil, List.head?_cons, List.drop_zero, List.drop_succ_cons, List.take_succ_cons, List.take_zero, List.set_cons_zero, List.set_cons_succ, List.length_map, List.getElem?_nil, orc0, zf]
         repeat' with_reducible refine And.intro ?_ ?_
         all_goals try (first | omega | rfl | ((with_reducible refine drawGoal ?_); exact rfl) | (simp only [inR]; omega) | (intro y hy; simp only [List.mem_singleton] at hy; subst hy; rfl) | (intro y hy; cases hy; done) | (simp only [List.length_append, List.length_map, List.length_cons, List.length_nil]; omega) | (intro h; simp only [inR]; omega) | (intro h; simp only [List.length_append, List.length_map, List.length_cons, List.length_nil]; omega) | (intro h; exact h.elim))
         refine hJ1 _ (i + 1) ?_ ?_ ?_
         · first | omega | (show _ ≤ _; omega) | exact ⟨by omega, by assumption⟩
         · omega
         · repeat simp only [pwf, List.drop_zero, List.drop_succ_cons, List.take_succ_cons, List.take_zero, List.getElem?_cons_zero, List.getElem?_cons_succ, List.getElem?_nil, Nat.sub_self, reduceIte, reduceCtorEq, Nat.reduceEqDiff, Nat.reduceAdd, Nat.reduceMul, Nat.reduceSub, Nat.reduceLT, Nat.reduceLeDiff, Nat.reduceBEq, if_true, if_false, implies_true, Option.isSome_none, Option.isSome_some, List.nil_append, List.cons_append, List.append_nil, List.map_cons, List.map_nil, List.toList_toArray, Option.getD_some, Option.getD_none, Option.map_some, Option.map_none, Option.bind_some, Option.bind_none, List.length_cons, List.length_nil, Bool.cond_true, Bool.cond_false, Array.toList_append, List.contains_cons, List.contains_nil, zf]
           have := of_decide_eq_false hb20
           simp [hs, ho, mstep, this, gRow]
   ·
    try (cases hb11; done)
    all_goals
      have hie : i = l.length := by have := of_decide_eq_false hb11; omega
      have hmj := ho
      rw [hie, List.take_length] at hmj
    try (cases hb11; done)
    all_goals
     refine PWp.exit (hq2x _ (hK1 _ ?_))
     refine PWp.seq_k fun K7 hK7 => ?_
     refine PWp.seq_rg [2, 4, 57] orc0_ok (mv := mv) (by decide) fun K hK => ?_
     simp only [pwr, mv, List.getD_nil, List.drop_nil, List.head?_nil, Int.natCast_zero, Int.reduceLT, Int.reduceSub, Int.reduceNeg, Int.reduceToNat, decide_false, decide_true, gt_iff_lt, Int.lt_irrefl, ne_eq, not_false_eq_true, not_true_eq_false, reduceIte, reduceCtorEq, Nat.reduceEqDiff, Nat.reduceAdd, Nat.reduceMul, Nat.reduceSub, Nat.reduceLT, Nat.reduceLeDiff, Nat.reduceBEq, if_true, if_false, implies_true, Option.isSome_none, Option.isSome_some, List.nil_append, List.cons_append, List.append_nil, List.map_cons, List.map_nil, List.toList_toArray, Option.getD_some, Option.getD_none, Option.map_some, Option.map_none, Option.bind_some, Option.bind_none, List.length_cons, List.length_nil, Bool.cond_true, Bool.cond_false, Array.toList_append, List.filterMap_cons, List.filterMap_nil, List.all_nil, List.all_cons, List.any_cons, List.any_nil, List.map_append, List.getElem?_toArray, List.getElem?_cons_zero, List.getElem?_cons_succ, Option.toArray_some, Option.toArray_none, List.contains_cons, List.contains_nil, List.head?_cons, List.drop_zero, List.drop_succ_cons, List.take_succ_cons, List.take_zero, List.set_cons_zero, List.set_cons_succ, List.length_map, List.getElem?_nil, orc0, zf]
     refine hK _ ?_
     clear hK K
     refine PWp.cond (by rfl) (fun hb57 => ?_) (fun hb57 => ?_)
     ·
      cases hb57
     ·
      try (cases hb57; done)
      all_goals
       refine PWp.skip (hK7 _ ?_)
       refine PWp.seq_rg [2, 3] orc0_ok (mv := mv) (by decide) fun K hK => ?_
       simp only [pwr, mv, List.getD_nil, List.drop_nil, List.head?_nil, Int.natCast_zero, Int.reduceLT, Int.reduceSub, Int.reduceNeg, Int.reduceToNat, decide_false, decide_true, gt_iff_lt, Int.lt_irrefl, ne_eq, not_false_eq_true, not_true_eq_false, reduceIte, reduceCtorEq, Nat.reduceEqDiff, Nat.reduceAdd, Nat.reduceMul, Nat.reduceSub, Nat.reduceLT, Nat.reduceLeDiff, Nat.reduceBEq, if_true, if_false, implies_true, Option.isSome_none, Option.isSome_some, List.nil_append, List.cons_append, List.append_nil, List.map_cons, List.map_nil, List.toList_toArray, Option.getD_some, Option.getD_none, Option.map_some, Option.map_none, Option.bind_some, Option.bind_none, List.length_cons, List.length_nil, Bool.cond_true, Bool.cond_false, Array.toList_append, List.filterMap_cons, List.filterMap_nil, List.all_nil, List.all_cons, List.any_cons, List.any_nil, List.map_append, List.getElem?_toArray, List.getElem?_cons_zero, List.getElem?_cons_succ, Option.toArray_some, Option.toArray_none, List.contains_cons, List.contains_nil, List.head?_cons, List.drop_zero, List.drop_succ_cons, List.take_succ_cons, List.take_zero, List.set_cons_zero, List.set_cons_succ, List.length_map, List.getElem?_nil, orc0, zf]
       refine hK _ ?_
       clear hK K
       refine PWp.ret (hQ2 _ ?_)
       simp only [pwf, List.drop_zero, List.drop_succ_cons, List.take_succ_cons, List.take_zero, List.getElem?_cons_zero, List.getElem?_cons_succ, List.getElem?_nil, Nat.sub_self, reduceIte, reduceCtorEq, Nat.reduceEqDiff, Nat.reduceAdd, Nat.reduceMul, Nat.reduceSub, Nat.reduceLT, Nat.reduceLeDiff, Nat.reduceBEq, if_true, if_false, implies_true, Option.isSome_none, Option.isSome_some, List.nil_append, List.cons_append, List.append_nil, List.map_cons, List.map_nil, List.toList_toArray, Option.getD_some, Option.getD_none, Option.map_some, Option.map_none, Option.bind_some, Option.bind_none, List.length_cons, List.length_nil, Bool.cond_true, Bool.cond_false, Array.toList_append, List.contains_cons, List.contains_nil, zf, Tryz.results39]
       repeat simp only [pwf, List.drop_zero, List.drop_succ_cons, List.take_succ_cons, List.take_zero, List.getElem?_cons_zero, List.getElem?_cons_succ, List.getElem?_nil, Nat.sub_self, reduceIte, reduceCtorEq, Nat.reduceEqDiff, Nat.reduceAdd, Nat.reduceMul, Nat.reduceSub, Nat.reduceLT, Nat.reduceLeDiff, Nat.reduceBEq, if_true, if_false, implies_true, Option.isSome_none, Option.isSome_some, List.nil_append, List.cons_append, List.append_nil, List.map_cons, List.map_nil, List.toList_toArray, Option.getD_some, Option.getD_none, Option.map_some, Option.map_none, Option.bind_some, Option.bind_none, List.length_cons, List.length_nil, Bool.cond_true, Bool.cond_false, Array.toList_append, List.contains_cons, List.contains_nil, zf]
       simp [made, hmj]
  ·
   refine PWp.seq_rg [2, 4, 8, 9, 10, 11] orc0_ok (mv := mv) (by decide) fun K hK => ?_
   simp only [pwr, mv, List.getD_nil, List.drop_nil, List.head?_nil, Int.natCast_zero, Int.reduceLT, Int.reduceSub, Int.reduceNeg, Int.reduceToNat, decide_false, decide_true, gt_iff_lt, Int.lt_irrefl, ne_eq, not_false_eq_true, not_true_eq_false, reduceIte, reduceCtorEq, Nat.reduceEqDiff, Nat.reduceAdd, Nat.reduceMul, Nat.reduceSub, Nat.reduceLT, Nat.reduceLeDiff, Nat.reduceBEq, if_true, if_false, implies_true, Option.isSome_none, Option.isSome_some, List.nil_append, List.cons_append, List.append_nil, List.map_cons, List.map_nil, List.toList_toArray, Option.getD_some, Option.getD_none, Option.map_some, Option.map_none, Option.bind_some, Option.bind_none, List.length_cons, List.length_nil, Bool.cond_true, Bool.cond_false, Array.toList_append, List.filterMap_cons, List.filterMap_nil, List.all_nil, List.all_cons, List.any_cons, List.any_nil, List.map_append, List.getElem?_toArray, List.getElem?_cons_zero, List.getElem?_cons_succ, Option.toArray_some, Option.toArray_none, List.contains_cons, List.contains_nil, List.head?_cons, List.drop_zero, List.drop_succ_cons, List.take_succ_cons, List.take_zero, List.set_cons_zero, List.set_cons_succ, List.length_map, List.getElem?_nil, orc0, zf]
   refine hK _ ?_
   clear hK K
   refine PWp.seq_k fun K8 hK8 => ?_
   refine PWp.cond (by rfl) (fun hb11 => ?_) (fun hb11 => ?_)
   ·
    try (cases hb11; done)
    all_goals
     refine PWp.skip (hK8 _ ?_)
     refine PWp.seq_k fun K9 hK9 => ?_
     refine PWp.block_k fun Qq10 hq10n hq10x hq10r hq10e => ?_
     have hil : i < l.length := by simpa using hb11
     have e1 : (gRows l).getD i [] = [.int .i64 l[i].1, .int .i64 l[i].2] := getD_map hil
     have hs : mjoin (l.take (i + 1)) = mstep (mjoin (l.take i)) l[i] := by rw [List.take_succ_eq_append_getElem hil, mjoin_snoc]
     refine PWp.seq_rg [2, 4, 6, 8, 9, 10] orc0_ok (mv := mv) (by decide) fun K hK => ?_
     simp only [pwr, mv, List.getD_nil, List.drop_nil, List.head?_nil, Int.natCast_zero, Int.reduceLT, Int.reduceSub, Int.reduceNeg, Int.reduceToNat, decide_false, decide_true, gt_iff_lt, Int.lt_irrefl, ne_eq, not_false_eq_true, not_true_eq_false, reduceIte, reduceCtorEq, Nat.reduceEqDiff, Nat.reduceAdd, Nat.reduceMul, Nat.reduceSub, Nat.reduceLT, Nat.reduceLeDiff, Nat.reduceBEq, if_true, if_false, implies_true, Option.isSome_none, Option.isSome_some, List.nil_append, List.cons_append, List.append_nil, List.map_cons, List.map_nil, List.toList_toArray, Option.getD_some, Option.getD_none, Option.map_some, Option.map_none, Option.bind_some, Option.bind_none, List.length_cons, List.length_nil, Bool.cond_true, Bool.cond_false, Array.toList_append, List.filterMap_cons, List.filterMap_nil, List.all_nil, List.all_cons, List.any_cons, List.any_nil, List.map_append, List.getElem?_toArray, List.getElem?_cons_zero, List.getElem?_cons_succ, Option.toArray_some, Option.toArray_none, List.contains_cons, List.contains_nil, List.head?_cons, List.drop_zero, List.drop_succ_cons, List.take_succ_cons, List.take_zero, List.set_cons_zero, List.set_cons_succ, List.length_map, List.getElem?_nil, orc0, zf, e1]
     repeat' with_reducible refine And.intro ?_ ?_
     all_goals try (first | omega | rfl | ((with_reducible refine drawGoal ?_); exact rfl) | (simp only [inR]; omega) | (intro y hy; simp only [List.mem_singleton] at hy; subst hy; rfl) | (intro y hy; cases hy; done) | (simp only [List.length_append, List.length_map, List.length_cons, List.length_nil]; omega) | (intro h; simp only [inR]; omega) | (intro h; simp only [List.length_append, List.length_map, List.length_cons, List.length_nil]; omega) | (intro h; exact h.elim))
     refine hK _ ?_
     clear hK K
     have eN : (((o.length + 1 : Nat) : Int) - 1).toNat = o.length := by omega
     have hol : o.length < 100000000 := by
       have := mjoin_len (l.take i)
       rw [ho] at this
       simp at this
       omega
     refine PWp.seq_rg [2, 4, 6, 7, 8, 9, 10] orc0_ok (mv := mv) (by decide) fun K hK => ?_
     simp only [pwr, mv, List.getD_nil, List.drop_nil, List.head?_nil, Int.natCast_zero, Int.reduceLT, Int.reduceSub, Int.reduceNeg, Int.reduceToNat, decide_false, decide_true, gt_iff_lt, Int.lt_irrefl, ne_eq, not_false_eq_true, not_true_eq_false, reduceIte, reduceCtorEq, Nat.reduceEqDiff, Nat.reduceAdd, Nat.reduceMul, Nat.reduceSub, Nat.reduceLT, Nat.reduceLeDiff, Nat.reduceBEq, if_true, if_false, implies_true, Option.isSome_none, Option.isSome_some, List.nil_append, List.cons_append, List.append_nil, List.map_cons, List.map_nil, List.toList_toArray, Option.getD_some, Option.getD_none, Option.map_some, Option.map_none, Option.bind_some, Option.bind_none, List.length_cons, List.length_nil, Bool.cond_true, Bool.cond_false, Array.toList_append, List.filterMap_cons, List.filterMap_nil, List.all_nil, List.all_cons, List.any_cons, List.any_nil, List.map_append, List.getElem?_toArray, List.getElem?_cons_zero, List.getElem?_cons_succ, Option.toArray_some, Option.toArray_none, List.contains_cons, List.contains_nil, List.head?_cons, List.drop_zero, List.drop_succ_cons, List.take_succ_cons, List.take_zero, List.set_cons_zero, List.set_cons_succ, List.length_map, List.getElem?_nil, orc0, zf, List.length_append, List.length_map, List.length_singleton]
     refine hK _ ?_
     clear hK K
     refine PWp.block_l fun Qq11 hq11n hq11x hq11r hq11e => ?_
     refine PWp.seq_rg [2, 4, 6, 7, 8, 9, 10, 20] orc0_ok (mv := mv) (by decide) fun K hK => ?_
     simp only [pwr, mv, List.getD_nil, List.drop_nil, List.head?_nil, Int.natCast_zero, Int.reduceLT, Int.reduceSub, Int.reduceNeg, Int.reduceToNat, decide_false, decide_true, gt_iff_lt, Int.lt_irrefl, ne_eq, not_false_eq_true, not_true_eq_false, reduceIte, reduceCtorEq, Nat.reduceEqDiff, Nat.reduceAdd, Nat.reduceMul, Nat.reduceSub, Nat.reduceLT, Nat.reduceLeDiff, Nat.reduceBEq, if_true, if_false, implies_true, Option.isSome_none, Option.isSome_some, List.nil_append, List.cons_append, List.append_nil, List.map_cons, List.map_nil, List.toList_toArray, Option.getD_some, Option.getD_none, Option.map_some, Option.map_none, Option.bind_some, Option.bind_none, List.length_cons, List.length_nil, Bool.cond_true, Bool.cond_false, Array.toList_append, List.filterMap_cons, List.filterMap_nil, List.all_nil, List.all_cons, List.any_cons, List.any_nil, List.map_append, List.getElem?_toArray, List.getElem?_cons_zero, List.getElem?_cons_succ, Option.toArray_some, Option.toArray_none, List.contains_cons, List.contains_nil, List.head?_cons, List.drop_zero, List.drop_succ_cons, List.take_succ_cons, List.take_zero, List.set_cons_zero, List.set_cons_succ, List.length_map, List.getElem?_nil, orc0, zf]
     refine hK _ ?_
     clear hK K
     refine PWp.cond (by rfl) (fun hb20 => ?_) (fun hb20 => ?_)
     ·
      try (cases hb20; done)
      all_goals
       refine PWp.skip (hq11n _ (hq10n _ (hK9 _ ?_)))
       refine PWp.rg [2, 4, 8, 9, 10] orc0_ok (mv := mv) (by decide) ?_
       simp only [pwr, mv, List.getD_nil, List.drop_nil, List.head?_nil, Int.natCast_zero, Int.reduceLT, Int.reduceSub, Int.reduceNeg, Int.reduceToNat, decide_false, decide_true, gt_iff_lt, Int.lt_irrefl, ne_eq, not_false_eq_true, not_true_eq_false, reduceIte, reduceCtorEq, Nat.reduceEqDiff, Nat.reduceAdd, Nat.reduceMul, Nat.reduceSub, Nat.reduceLT, Nat.reduceLeDiff, Nat.reduceBEq, if_true, if_false, implies_true, Option.isSome_none, Option.isSome_some, List.nil_append, List.cons_append, List.append_nil, List.map_cons, List.map_nil, List.toList_toArray, Option.getD_some, Option.getD_none, Option.map_some, Option.map_none, Option.bind_some, Option.bind_none, List.length_cons, List.length_nil, Bool.cond_true, Bool.cond_false, Array.toList_append, List.filterMap_cons, List.filterMap_nil, List.all_nil, List.all_cons, List.any_cons, List.any_nil, List.map_append, List.getElem?_toArray, List.getElem?_cons_zero, List.getElem?_cons_succ, Option.toArray_some, Option.toArray_none, List.contains_cons, List.contains_nil, List.head?_cons, List.drop_zero, List.drop_succ_cons, List.take_succ_cons, List.take_zero, List.set_cons_zero, List.set_cons_succ, List.length_map, List.getElem?_nil, orc0, zf]
       repeat' with_reducible refine And.intro ?_ ?_
       all_goals try (first | omega | rfl | ((with_reducible refine drawGoal ?_); exact rfl) | (simp only [inR]; omega) | (intro y hy; simp only [List.mem_singleton] at hy; subst hy; rfl) | (intro y hy; cases hy; done) | (simp only [List.length_append, List.length_map, List.length_cons, List.length_nil]; omega) | (intro h; simp only [inR]; omega) | (intro h; simp only [List.length_append, List.length_map, List.length_cons, List.length_nil]; omega) | (intro h; exact h.elim))
       refine hJ1 _ (i + 1) ?_ ?_ ?_
       · first | omega | (show _ ≤ _; omega) | exact ⟨by omega, by assumption⟩
       · omega
       · repeat simp only [pwf, List.drop_zero, List.drop_succ_cons, List.take_succ_cons, List.take_zero, List.getElem?_cons_zero, List.getElem?_cons_succ, List.getElem?_nil, Nat.sub_self, reduceIte, reduceCtorEq, Nat.reduceEqDiff, Nat.reduceAdd, Nat.reduceMul, Nat.reduceSub, Nat.reduceLT, Nat.reduceLeDiff, Nat.reduceBEq, if_true, if_false, implies_true, Option.isSome_none, Option.isSome_some, List.nil_append, List.cons_append, List.append_nil, List.map_cons, List.map_nil, List.toList_toArray, Option.getD_some, Option.getD_none, Option.map_some, Option.map_none, Option.bind_some, Option.bind_none, List.length_cons, List.length_nil, Bool.cond_true, Bool.cond_false, Array.toList_append, List.contains_cons, List.contains_nil, zf]
         have := of_decide_eq_true hb20
         simp [hs, ho, mstep, this]
     ·
      try (cases hb20; done)
      all_goals
       refine PWp.seq_dr [2, 4, 6, 7, 8, 9, 10, 26] mixed orc0_ok (mv := mv) (by decide) fun K hK => ?_
       simp only [pwr, mv, List.getD_nil, List.drop_nil, List.head?_nil, Int.natCast_zero, Int.reduceLT, Int.reduceSub, Int.reduceNeg, Int.reduceToNat, decide_false, decide_true, gt_iff_lt, Int.lt_irrefl, ne_eq, not_false_eq_true, not_true_eq_false, reduceIte, reduceCtorEq, Nat.reduceEqDiff, Nat.reduceAdd, Nat.reduceMul, Nat.reduceSub, Nat.reduceLT, Nat.reduceLeDiff, Nat.reduceBEq, if_true, if_false, implies_true, Option.isSome_none, Option.isSome_some, List.nil_append, List.cons_append, List.append_nil, List.map_cons, List.map_nil, List.toList_toArray, Option.getD_some, Option.getD_none, Option.map_some, Option.map_none, Option.bind_some, Option.bind_none, List.length_cons, List.length_nil, Bool.cond_true, Bool.cond_false, Array.toList_append, List.filterMap_cons, List.filterMap_nil, List.all_nil, List.all_cons, List.any_cons, List.any_nil, List.map_append, List.getElem?_toArray, List.getElem?_cons_zero, List.getElem?_cons_succ, Option.toArray_some, Option.toArray_none, List.contains_cons, List.contains_nil, List.head?_cons, List.drop_zero, List.drop_succ_cons, List.take_succ_cons, List.take_zero, List.set_cons_zero, List.set_cons_succ, List.length_map, List.getElem?_nil, orc0, zf, eN, getD_snoc]
       repeat' with_reducible refine And.intro ?_ ?_
       all_goals try ((first | (intro h; simp only [inR]; omega) | (intro h; simp only [List.length_append, List.length_map, List.length_singleton]; omega)))
       all_goals try (first | omega | rfl | ((with_reducible refine drawGoal ?_); exact rfl) | (simp only [inR]; omega) | (intro y hy; simp only [List.mem_singleton] at hy; subst hy; rfl) | (intro y hy; cases hy; done) | (simp only [List.length_append, List.length_map, List.length_cons, List.length_nil]; omega) | (intro h; simp only [inR]; omega) | (intro h; simp only [List.length_append, List.length_map, List.length_cons, List.length_nil]; omega) | (intro h; exact h.elim))
       refine hK _ ?_
       clear hK K
       refine PWp.cond (by rfl) (fun hb26 => ?_) (fun hb26 => ?_)
       ·
        try (cases hb26; done)
        all_goals
         refine PWp.dr [2, 4, 8, 9, 10] mixed orc0_ok (mv := mv) (by decide) ?_
         simp only [pwr, mv, List.getD_nil, List.drop_nil, List.head?_nil, Int.natCast_zero, Int.reduceLT, Int.reduceSub, Int.reduceNeg, Int.reduceToNat, decide_false, decide_true, gt_iff_lt, Int.lt_irrefl, ne_eq, not_false_eq_true, not_true_eq_false, reduceIte, reduceCtorEq, Nat.reduceEqDiff, Nat.reduceAdd, Nat.reduceMul, Nat.reduceSub, Nat.reduceLT, Nat.reduceLeDiff, Nat.reduceBEq, if_true, if_false, implies_true, Option.isSome_none, Option.isSome_some, List.nil_append, List.cons_append, List.append_nil, List.map_cons, List.map_nil, List.toList_toArray, Option.getD_some, Option.getD_none, Option.map_some, Option.map_none, Option.bind_some, Option.bind_none, List.length_cons, List.length_nil, Bool.cond_true, Bool.cond_false, Array.toList_append, List.filterMap_cons, List.filterMap_nil, List.all_nil, List.all_cons, List.any_cons, List.any_nil, List.map_append, List.getElem?_toArray, List.getElem?_cons_zero, List.getElem?_cons_succ, Option.toArray_some, Option.toArray_none, List.contains_cons, List.contains_nil, List.head?_cons, List.drop_zero, List.drop_succ_cons, List.take_succ_cons, List.take_zero, List.set_cons_zero, List.set_cons_succ, List.length_map, List.getElem?_nil, orc0, zf, eN, getD_snoc]
         repeat' with_reducible refine And.intro ?_ ?_
         all_goals try ((first | (simp only [inR]; omega) | (simp only [List.length_append, List.length_map, List.length_singleton]; omega)))
         all_goals try (first | omega | rfl | ((with_reducible refine drawGoal ?_); exact rfl) | (simp only [inR]; omega) | (intro y hy; simp only [List.mem_singleton] at hy; subst hy; rfl) | (intro y hy; cases hy; done) | (simp only [List.length_append, List.length_map, List.length_cons, List.length_nil]; omega) | (intro h; simp only [inR]; omega) | (intro h; simp only [List.length_append, List.length_map, List.length_cons, List.length_nil]; omega) | (intro h; exact h.elim))
         refine hq11n _ (hq10n _ (hK9 _ ?_))
         refine PWp.rg [2, 4, 8, 9, 10] orc0_ok (mv := mv) (by decide) ?_
         simp only [pwr, mv, List.getD_nil, List.drop_nil, List.head?_nil, Int.natCast_zero, Int.reduceLT, Int.reduceSub, Int.reduceNeg, Int.reduceToNat, decide_false, decide_true, gt_iff_lt, Int.lt_irrefl, ne_eq, not_false_eq_true, not_true_eq_false, reduceIte, reduceCtorEq, Nat.reduceEqDiff, Nat.reduceAdd, Nat.reduceMul, Nat.reduceSub, Nat.reduceLT, Nat.reduceLeDiff, Nat.reduceBEq, if_true, if_false, implies_true, Option.isSome_none, Option.isSome_some, List.nil_append, List.cons_append, List.append_nil, List.map_cons, List.map_nil, List.toList_toArray, Option.getD_some, Option.getD_none, Option.map_some, Option.map_none, Option.bind_some, Option.bind_none, List.length_cons, List.length_nil, Bool.cond_true, Bool.cond_false, Array.toList_append, List.filterMap_cons, List.filterMap_nil, List.all_nil, List.all_cons, List.any_cons, List.any_nil, List.map_append, List.getElem?_toArray, List.getElem?_cons_zero, List.getElem?_cons_succ, Option.toArray_some, Option.toArray_none, List.contains_cons, List.contains_nil, List.head?_cons, List.drop_zero, List.drop_succ_cons, List.take_succ_cons, List.take_zero, List.set_cons_zero, List.set_cons_succ, List.length_map, List.getElem?_nil, orc0, zf]
         repeat' with_reducible refine And.intro ?_ ?_
         all_goals try (first | omega | rfl | ((with_reducible refine drawGoal ?_); exact rfl) | (simp only [inR]; omega) | (intro y hy; simp only [List.mem_singleton] at hy; subst hy; rfl) | (intro y hy; cases hy; done) | (simp only [List.length_append, List.length_map, List.length_cons, List.length_nil]; omega) | (intro h; simp only [inR]; omega) | (intro h; simp only [List.length_append, List.length_map, List.length_cons, List.length_nil]; omega) | (intro h; exact h.elim))
         refine hJ1 _ (i + 1) ?_ ?_ ?_
         · first | omega | (show _ ≤ _; omega) | exact ⟨by omega, by assumption⟩
         · omega
         · repeat simp only [pwf, List.drop_zero, List.drop_succ_cons, List.take_succ_cons, List.take_zero, List.getElem?_cons_zero, List.getElem?_cons_succ, List.getElem?_nil, Nat.sub_self, reduceIte, reduceCtorEq, Nat.reduceEqDiff, Nat.reduceAdd, Nat.reduceMul, Nat.reduceSub, Nat.reduceLT, Nat.reduceLeDiff, Nat.reduceBEq, if_true, if_false, implies_true, Option.isSome_none, Option.isSome_some, List.nil_append, List.cons_append, List.append_nil, List.map_cons, List.map_nil, List.toList_toArray, Option.getD_some, Option.getD_none, Option.map_some, Option.map_none, Option.bind_some, Option.bind_none, List.length_cons, List.length_nil, Bool.cond_true, Bool.cond_false, Array.toList_append, List.contains_cons, List.contains_nil, zf]
           have h1 := of_decide_eq_false hb20
           simp at hb26
           simp [hs, ho, mstep, h1, hb26, gRow]
       ·
        try (cases hb26; done)
        all_goals
         refine PWp.rg [2, 4, 8, 9, 10] orc0_ok (mv := mv) (by decide) ?_
         simp only [pwr, mv, List.getD_nil, List.drop_nil, List.head?_nil, Int.natCast_zero, Int.reduceLT, Int.reduceSub, Int.reduceNeg, Int.reduceToNat, decide_false, decide_true, gt_iff_lt, Int.lt_irrefl, ne_eq, not_false_eq_true, not_true_eq_false, reduceIte, reduceCtorEq, Nat.reduceEqDiff, Nat.reduceAdd, Nat.reduceMul, Nat.reduceSub, Nat.reduceLT, Nat.reduceLeDiff, Nat.reduceBEq, if_true, if_false, implies_true, Option.isSome_none, Option.isSome_some, List.nil_append, List.cons_append, List.append_nil, List.map_cons, List.map_nil, List.toList_toArray, Option.getD_some, Option.getD_none, Option.map_some, Option.map_none, Option.bind_some, Option.bind_none, List.length_cons, List.length_nil, Bool.cond_true, Bool.cond_false, Array.toList_append, List.filterMap_cons, List.filterMap_nil, List.all_nil, List.all_cons, List.any_cons, List.any_nil, List.map_append, List.getElem?_toArray, List.getElem?_cons_zero, List.getElem?_cons_succ, Option.toArray_some, Option.toArray_none, List.contains_cons, List.contains_nil, List.head?_cons, List.drop_zero, List.drop_succ_cons, List.take_succ_cons, List.take_zero, List.set_cons_zero, List.set_cons_succ, List.length_map, List.getElem?_nil, orc0, zf]
         repeat' with_reducible refine And.intro ?_ ?_
         all_goals try (first | omega | rfl | ((with_reducible refine drawGoal ?_); exact rfl) | (simp only [inR]; omega) | (intro y hy; simp only [List.mem_singleton] at hy; subst hy; rfl) | (intro y hy; cases hy; done) | (simp only [List.length_append, List.length_map, List.length_cons, List.length_nil]; omega) | (intro h; simp only [inR]; omega) | (intro h; simp only [List.length_append, List.length_map, List.length_cons, List.length_nil]; omega) | (intro h; exact h.elim))
         refine hq11n _ (hq10n _ (hK9 _ ?_))
         refine PWp.rg [2, 4, 8, 9, 10] orc0_ok (mv := mv) (by decide) ?_
         simp only [pwr, mv, List.getD_nil, List.drop_nil, List.head?_nil, Int.natCast_zero, Int.reduceLT, Int.reduceSub, Int.reduceNeg, Int.reduceToNat, decide_false, decide_true, gt_iff_lt, Int.lt_irrefl, ne_eq, not_false_eq_true, not_true_eq_false, reduceIte, reduceCtorEq, Nat.reduceEqDiff, Nat.reduceAdd, Nat.reduceMul, Nat.reduceSub, Nat.reduceLT, Nat.reduceLeDiff, Nat.reduceBEq, if_true, if_false, implies_true, Option.isSome_none, Option.isSome_some, List.nil_append, List.cons_append, List.append_nil, List.map_cons, List.map_nil, List.toList_toArray, Option.getD_some, Option.getD_none, Option.map_some, Option.map_none, Option.bind_some, Option.bind_none, List.length_cons, List.length_nil, Bool.cond_true, Bool.cond_false, Array.toList_append, List.filterMap_cons, List.filterMap_nil, List.all_nil, List.all_cons, List.any_cons, List.any_nil, List.map_append, List.getElem?_toArray, List.getElem?_cons_zero, List.getElem?_cons_succ, Option.toArray_some, Option.toArray_none, List.contains_cons, List.contains_nil, List.head?_cons, List.drop_zero, List.drop_succ_cons, List.take_succ_cons, List.take_zero, List.set_cons_zero, List.set_cons_succ, List.length_map, List.getElem?_nil, orc0, zf]
         repeat' with_reducible refine And.intro ?_ ?_
         all_goals try (first | omega | rfl | ((with_reducible refine drawGoal ?_); exact rfl) | (simp only [inR]; omega) | (intro y hy; simp only [List.mem_singleton] at hy; subst hy; rfl) | (intro y hy; cases hy; done) | (simp only [List.length_append, List.length_map, List.length_cons, List.length_nil]; omega) | (intro h; simp only [inR]; omega) | (intro h; simp only [List.length_append, List.length_map, List.length_cons, List.length_nil]; omega) | (intro h; exact h.elim))
         refine hJ1 _ (i + 1) ?_ ?_ ?_
         · first | omega | (show _ ≤ _; omega) | exact ⟨by omega, by assumption⟩
         · omega
         · repeat simp only [pwf, List.drop_zero, List.drop_succ_cons, List.take_succ_cons, List.take_zero, List.getElem?_cons_zero, List.getElem?_cons_succ, List.getElem?_nil, Nat.sub_self, reduceIte, reduceCtorEq, Nat.reduceEqDiff, Nat.reduceAdd, Nat.reduceMul, Nat.reduceSub, Nat.reduceLT, Nat.reduceLeDiff, Nat.reduceBEq, if_true, if_false, implies_true, Option.isSome_none, Option.isSome_some, List.nil_append, List.cons_append, List.append_nil, List.map_cons, List.map_nil, List.toList_toArray, Option.getD_some, Option.getD_none, Option.map_some, Option.map_none, Option.bind_some, Option.bind_none, List.length_cons, List.length_nil, Bool.cond_true, Bool.cond_false, Array.toList_append, List.contains_cons, List.contains_nil, zf]
           have h1 := of_decide_eq_false hb20
           simp at hb26
           have h2 : ¬ l[i].1 ≤ g.2 := by omega
           simp [hs, ho, mstep, h1, h2, gRow]
   ·
    try (cases hb11; done)
    all_goals
      have hie : i = l.length := by have := of_decide_eq_false hb11; omega
      have hmj := ho
      rw [hie, List.take_length] at hmj
    try (cases hb11; done)
    all_goals
     refine PWp.exit (hq2x _ (hK1 _ ?_))
     refine PWp.seq_k fun K12 hK12 => ?_
     refine PWp.seq_rg [2, 4, 57] orc0_ok (mv := mv) (by decide) fun K hK => ?_
     simp only [pwr, mv, List.getD_nil, List.drop_nil, List.head?_nil, Int.natCast_zero, Int.reduceLT, Int.reduceSub, Int.reduceNeg, Int.reduceToNat, decide_false, decide_true, gt_iff_lt, Int.lt_irrefl, ne_eq, not_false_eq_true, not_true_eq_false, reduceIte, reduceCtorEq, Nat.reduceEqDiff, Nat.reduceAdd, Nat.reduceMul, Nat.reduceSub, Nat.reduceLT, Nat.reduceLeDiff, Nat.reduceBEq, if_true, if_false, implies_true, Option.isSome_none, Option.isSome_some, List.nil_append, List.cons_append, List.append_nil, List.map_cons, List.map_nil, List.toList_toArray, Option.getD_some, Option.getD_none, Option.map_some, Option.map_none, Option.bind_some, Option.bind_none, List.length_cons, List.length_nil, Bool.cond_true, Bool.cond_false, Array.toList_append, List.filterMap_cons, List.filterMap_nil, List.all_nil, List.all_cons, List.any_cons, List.any_nil, List.map_append, List.getElem?_toArray, List.getElem?_cons_zero, List.getElem?_cons_succ, Option.toArray_some, Option.toArray_none, List.contains_cons, List.contains_nil, List.head?_cons, List.drop_zero, List.drop_succ_cons, List.take_succ_cons, List.take_zero, List.set_cons_zero, List.set_cons_succ, List.length_map, List.getElem?_nil, orc0, zf]
     refine hK _ ?_
     clear hK K
     refine PWp.cond (by rfl) (fun hb57 => ?_) (fun hb57 => ?_)
     ·
      try (cases hb57; done)
      all_goals
       refine PWp.seq_rg [2, 3] orc0_ok (mv := mv) (by decide) fun K hK => ?_
       simp only [pwr, mv, List.getD_nil, List.drop_nil, List.head?_nil, Int.natCast_zero, Int.reduceLT, Int.reduceSub, Int.reduceNeg, Int.reduceToNat, decide_false, decide_true, gt_iff_lt, Int.lt_irrefl, ne_eq, not_false_eq_true, not_true_eq_false, reduceIte, reduceCtorEq, Nat.reduceEqDiff, Nat.reduceAdd, Nat.reduceMul, Nat.reduceSub, Nat.reduceLT, Nat.reduceLeDiff, Nat.reduceBEq, if_true, if_false, implies_true, Option.isSome_none, Option.isSome_some, List.nil_append, List.cons_append, List.append_nil, List.map_cons, List.map_nil, List.toList_toArray, Option.getD_some, Option.getD_none, Option.map_some, Option.map_none, Option.bind_some, Option.bind_none, List.length_cons, List.length_nil, Bool.cond_true, Bool.cond_false, Array.toList_append, List.filterMap_cons, List.filterMap_nil, List.all_nil, List.all_cons, List.any_cons, List.any_nil, List.map_append, List.getElem?_toArray, List.getElem?_cons_zero, List.getElem?_cons_succ, Option.toArray_some, Option.toArray_none, List.contains_cons, List.contains_nil, List.head?_cons, List.drop_zero, List.drop_succ_cons, List.take_succ_cons, List.take_zero, List.set_cons_zero, List.set_cons_succ, List.length_map, List.getElem?_nil, orc0, zf]
       refine hK _ ?_
       clear hK K
       refine PWp.ret (hQ2 _ ?_)
       simp only [pwf, List.drop_zero, List.drop_succ_cons, List.take_succ_cons, List.take_zero, List.getElem?_cons_zero, List.getElem?_cons_succ, List.getElem?_nil, Nat.sub_self, reduceIte, reduceCtorEq, Nat.reduceEqDiff, Nat.reduceAdd, Nat.reduceMul, Nat.reduceSub, Nat.reduceLT, Nat.reduceLeDiff, Nat.reduceBEq, if_true, if_false, implies_true, Option.isSome_none, Option.isSome_some, List.nil_append, List.cons_append, List.append_nil, List.map_cons, List.map_nil, List.toList_toArray, Option.getD_some, Option.getD_none, Option.map_some, Option.map_none, Option.bind_some, Option.bind_none, List.length_cons, List.length_nil, Bool.cond_true, Bool.cond_false, Array.toList_append, List.contains_cons, List.contains_nil, zf, Tryz.results39]
       repeat simp only [pwf, List.drop_zero, List.drop_succ_cons, List.take_succ_cons, List.take_zero, List.getElem?_cons_zero, List.getElem?_cons_succ, List.getElem?_nil, Nat.sub_self, reduceIte, reduceCtorEq, Nat.reduceEqDiff, Nat.reduceAdd, Nat.reduceMul, Nat.reduceSub, Nat.reduceLT, Nat.reduceLeDiff, Nat.reduceBEq, if_true, if_false, implies_true, Option.isSome_none, Option.isSome_some, List.nil_append, List.cons_append, List.append_nil, List.map_cons, List.map_nil, List.toList_toArray, Option.getD_some, Option.getD_none, Option.map_some, Option.map_none, Option.bind_some, Option.bind_none, List.length_cons, List.length_nil, Bool.cond_true, Bool.cond_false, Array.toList_append, List.contains_cons, List.contains_nil, zf]
       simp [made, hmj]
       simp at hb57
       first
         | rw [if_pos (by omega)]; exact ⟨rfl, rfl⟩
         | rw [if_neg (by omega)]; simp
     ·
      try (cases hb57; done)
      all_goals
       refine PWp.skip (hK12 _ ?_)
       refine PWp.seq_rg [2, 3] orc0_ok (mv := mv) (by decide) fun K hK => ?_
       simp only [pwr, mv, List.getD_nil, List.drop_nil, List.head?_nil, Int.natCast_zero, Int.reduceLT, Int.reduceSub, Int.reduceNeg, Int.reduceToNat, decide_false, decide_true, gt_iff_lt, Int.lt_irrefl, ne_eq, not_false_eq_true, not_true_eq_false, reduceIte, reduceCtorEq, Nat.reduceEqDiff, Nat.reduceAdd, Nat.reduceMul, Nat.reduceSub, Nat.reduceLT, Nat.reduceLeDiff, Nat.reduceBEq, if_true, if_false, implies_true, Option.isSome_none, Option.isSome_some, List.nil_append, List.cons_append, List.append_nil, List.map_cons, List.map_nil, List.toList_toArray, Option.getD_some, Option.getD_none, Option.map_some, Option.map_none, Option.bind_some, Option.bind_none, List.length_cons, List.length_nil, Bool.cond_true, Bool.cond_false, Array.toList_append, List.filterMap_cons, List.filterMap_nil, List.all_nil, List.all_cons, List.any_cons, List.any_nil, List.map_append, List.getElem?_toArray, List.getElem?_cons_zero, List.getElem?_cons_succ, Option.toArray_some, Option.toArray_none, List.contains_cons, List.contains_nil, List.head?_cons, List.drop_zero, List.drop_succ_cons, List.take_succ_cons, List.take_zero, List.set_cons_zero, List.set_cons_succ, List.length_map, List.getElem?_nil, orc0, zf]
       refine hK _ ?_
       clear hK K
       refine PWp.ret (hQ2 _ ?_)
       simp only [pwf, List.drop_zero, List.drop_succ_cons, List.take_succ_cons, List.take_zero, List.getElem?_cons_zero, List.getElem?_cons_succ, List.getElem?_nil, Nat.sub_self, reduceIte, reduceCtorEq, Nat.reduceEqDiff, Nat.reduceAdd, Nat.reduceMul, Nat.reduceSub, Nat.reduceLT, Nat.reduceLeDiff, Nat.reduceBEq, if_true, if_false, implies_true, Option.isSome_none, Option.isSome_some, List.nil_append, List.cons_append, List.append_nil, List.map_cons, List.map_nil, List.toList_toArray, Option.getD_some, Option.getD_none, Option.map_some, Option.map_none, Option.bind_some, Option.bind_none, List.length_cons, List.length_nil, Bool.cond_true, Bool.cond_false, Array.toList_append, List.contains_cons, List.contains_nil, zf, Tryz.results39]
       repeat simp only [pwf, List.drop_zero, List.drop_succ_cons, List.take_succ_cons, List.take_zero, List.getElem?_cons_zero, List.getElem?_cons_succ, List.getElem?_nil, Nat.sub_self, reduceIte, reduceCtorEq, Nat.reduceEqDiff, Nat.reduceAdd, Nat.reduceMul, Nat.reduceSub, Nat.reduceLT, Nat.reduceLeDiff, Nat.reduceBEq, if_true, if_false, implies_true, Option.isSome_none, Option.isSome_some, List.nil_append, List.cons_append, List.append_nil, List.map_cons, List.map_nil, List.toList_toArray, Option.getD_some, Option.getD_none, Option.map_some, Option.map_none, Option.bind_some, Option.bind_none, List.length_cons, List.length_nil, Bool.cond_true, Bool.cond_false, Array.toList_append, List.contains_cons, List.contains_nil, zf]
       simp [made, hmj]
       simp at hb57
       first
         | rw [if_pos (by omega)]; exact ⟨rfl, rfl⟩
         | rw [if_neg (by omega)]; simp
end Go.Pw
