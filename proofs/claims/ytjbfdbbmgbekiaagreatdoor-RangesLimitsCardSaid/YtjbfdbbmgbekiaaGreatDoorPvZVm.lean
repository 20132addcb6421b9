/- Ranges: two sets combined by Union. -/
import Derived.Test.YtjbfdbbmgbekiaaGreatDoorPvZSm
import Derived.Test.YtjbfdbbmgbekiaaGreatDoorPvZW
set_option linter.unusedSimpArgs false
set_option linter.unusedVariables false
set_option linter.unusedSectionVars false
set_option maxHeartbeats 4000000
set_option maxRecDepth 20000
namespace Go.Pw.G7
open Go.Proofs Go.Pw
theorem t39 (x y : Bool) : PCalls Tryz.prog 41 [(.S 0, .av (.pv (.bool x))), (.S 1, .av (.pv (.bool y)))] [(.S 0, .av (.pv (.bool (x || y))))] := by
  refine PCalls.of_k Tryz.func41 (by decide) rfl fun Q hQ1 hQ2 => ?_
  refine PWp.seq_rg [0, 1] orc0_ok (mv := mv) (by decide) fun K hK => ?_
  simp only [pwr, mv, List.getD_nil, List.drop_nil, List.head?_nil, Int.natCast_zero, Int.reduceLT, Int.reduceSub, Int.reduceNeg, Int.reduceToNat, decide_false, decide_true, gt_iff_lt, Int.lt_irrefl, ne_eq, not_false_eq_true, not_true_eq_false, reduceIte, reduceCtorEq, Nat.reduceEqDiff, Nat.reduceAdd, Nat.reduceMul, Nat.reduceSub, Nat.reduceLT, Nat.reduceLeDiff, Nat.reduceBEq, if_true, if_false, implies_true, Option.isSome_none, Option.isSome_some, List.nil_append, List.cons_append, List.append_nil, List.map_cons, List.map_nil, List.toList_toArray, Option.getD_some, Option.getD_none, Option.map_some, Option.map_none, Option.bind_some, Option.bind_none, List.length_cons, List.length_nil, Bool.cond_true, Bool.cond_false, Array.toList_append, List.filterMap_cons, List.filterMap_nil, List.all_nil, List.all_cons, List.any_cons, List.any_nil, List.map_append, List.getElem?_toArray, List.getElem?_cons_zero, List.getElem?_cons_succ, Option.toArray_some, Option.toArray_none, List.contains_cons, List.contains_nil, List.head?_cons, List.drop_zero, List.drop_succ_cons, List.take_succ_cons, List.take_zero, List.set_cons_zero, List.set_cons_succ, List.length_map, List.getElem?_nil, orc0, zf, plainL, plainCell]
  refine hK _ ?_
  clear hK K
  refine PWp.seq_rg [4] orc0_ok (mv := mv) (by decide) fun K hK => ?_
  simp only [pwr, mv, List.getD_nil, List.drop_nil, List.head?_nil, Int.natCast_zero, Int.reduceLT, Int.reduceSub, Int.reduceNeg, Int.reduceToNat, decide_false, decide_true, gt_iff_lt, Int.lt_irrefl, ne_eq, not_false_eq_true, not_true_eq_false, reduceIte, reduceCtorEq, Nat.reduceEqDiff, Nat.reduceAdd, Nat.reduceMul, Nat.reduceSub, Nat.reduceLT, Nat.reduceLeDiff, Nat.reduceBEq, if_true, if_false, implies_true, Option.isSome_none, Option.isSome_some, List.nil_append, List.cons_append, List.append_nil, List.map_cons, List.map_nil, List.toList_toArray, Option.getD_some, Option.getD_none, Option.map_some, Option.map_none, Option.bind_some, Option.bind_none, List.length_cons, List.length_nil, Bool.cond_true, Bool.cond_false, Array.toList_append, List.filterMap_cons, List.filterMap_nil, List.all_nil, List.all_cons, List.any_cons, List.any_nil, List.map_append, List.getElem?_toArray, List.getElem?_cons_zero, List.getElem?_cons_succ, Option.toArray_some, Option.toArray_none, List.contains_cons, List.contains_nil, List.head?_cons, List.drop_zero, List.drop_succ_cons, List.take_succ_cons, List.take_zero, List.set_cons_zero, List.set_cons_succ, List.length_map, List.getElem?_nil, orc0, zf, plainL, plainCell]
  refine hK _ ?_
  clear hK K
  refine PWp.ret (hQ2 _ ?_)
  simp only [pwf, List.drop_zero, List.drop_succ_cons, List.take_succ_cons, List.take_zero, List.getElem?_cons_zero, List.getElem?_cons_succ, List.getElem?_nil, Nat.sub_self, reduceIte, reduceCtorEq, Nat.reduceEqDiff, Nat.reduceAdd, Nat.reduceMul, Nat.reduceSub, Nat.reduceLT, Nat.reduceLeDiff, Nat.reduceBEq, if_true, if_false, implies_true, Option.isSome_none, Option.isSome_some, List.nil_append, List.cons_append, List.append_nil, List.map_cons, List.map_nil, List.toList_toArray, Option.getD_some, Option.getD_none, Option.map_some, Option.map_none, Option.bind_some, Option.bind_none, List.length_cons, List.length_nil, Bool.cond_true, Bool.cond_false, Array.toList_append, List.contains_cons, List.contains_nil, zf, plainL, plainCell, Tryz.results41]
  repeat simp only [pwf, List.drop_zero, List.drop_succ_cons, List.take_succ_cons, List.take_zero, List.getElem?_cons_zero, List.getElem?_cons_succ, List.getElem?_nil, Nat.sub_self, reduceIte, reduceCtorEq, Nat.reduceEqDiff, Nat.reduceAdd, Nat.reduceMul, Nat.reduceSub, Nat.reduceLT, Nat.reduceLeDiff, Nat.reduceBEq, if_true, if_false, implies_true, Option.isSome_none, Option.isSome_some, List.nil_append, List.cons_append, List.append_nil, List.map_cons, List.map_nil, List.toList_toArray, Option.getD_some, Option.getD_none, Option.map_some, Option.map_none, Option.bind_some, Option.bind_none, List.length_cons, List.length_nil, Bool.cond_true, Bool.cond_false, Array.toList_append, List.contains_cons, List.contains_nil, zf, plainL, plainCell]
  first | done | rfl | (simp; done) | trace_state
theorem iRows_len {l : List Int} : ∀ y ∈ iRows l, y.length = 1 := by
  intro y hy
  obtain ⟨n, _, rfl⟩ := List.mem_map.1 hy
  rfl
theorem take_filter {α : Type} (p : α → Bool) {l : List α} {i : Nat} (hi : i < l.length) : (l.take (i + 1)).filter p = (l.take i).filter p ++ if p l[i] then [l[i]] else [] := by
  rw [List.take_succ_eq_append_getElem hi, List.filter_append]
  simp [List.filter_cons]
def wid (F : FuncId) : Bool := F == 41
def wf (F : FuncId) (x y : Bool) : Bool := x || y
def cW (F : FuncId) : St → Option (Prop × St)
  | [(.S 0, .av (.pv (.bool x))), (.S 1, .av (.pv (.bool y)))] => some (True, [(.S 0, .av (.pv (.bool (wf F x y))))])
  | _ => none
theorem wid_iff {F : FuncId} (h : wid F = true) : F = 41 := by
  unfold wid at h
  simpa using h
theorem pW {F : FuncId} {In Ret : St} {pre : Prop} (hF : wid F = true) (h : cW F In = some (pre, Ret)) (hp : pre) : PCalls Tryz.prog F In Ret := by
  unfold cW at h
  split at h
  · rename_i x y
    cases h
    obtain rfl := wid_iff hF
    exact t39 x y
  · cases h
def c56 : St → Option (Prop × St)
  | [(.S 0, .av (.rf (.RS 0 0) 0)), (.RS 0 0, .rw 0 true 3 xs)] => some (xs = iRows (iOf xs), [(.S 0, .av (.pv (.sl (iRows (Lib.compact (iOf xs))))))])
  | _ => none
theorem p56 {In Ret : St} {pre : Prop} (h : c56 In = some (pre, Ret)) (hp : pre) : PCalls Tryz.prog 56 In Ret := by
  unfold c56 at h
  split at h
  · cases h
    rw [hp]
    simp only [iOf_iRows]
    exact tCompact _
  · cases h
def orcV1 : Orc := fun f In => if f = 34 then c34 In else if f = 56 then c56 In else if wid f = true then cW f In else none
theorem orcV1_ok : OrcOk Tryz.prog orcV1 := by
  intro f In pre Ret h hp
  unfold orcV1 at h
  split at h
  · subst f; exact p34 h hp
  split at h
  · subst f; exact p56 h hp
  split at h
  · rename_i hw; exact pW hw h hp
  cases h
abbrev wC (F : FuncId) : AV := .pv (.raw (.func (.func F) #[] #[]))
theorem sorted_cuts' (a b : List G) : Lib.compact (srt (endsL (a ++ b))) = cutsL a b := by
  unfold srt
  rw [endsL_append]
  exact sorted_cuts a b
theorem endsL_snoc {l : List G} {i : Nat} (hil : i < l.length) : endsL (l.take (i + 1)) = endsL (l.take i) ++ [l[i].1, l[i].2] := by
  rw [List.take_succ_eq_append_getElem hil, endsL_append]
  rfl
def behind (a : List G) (c : List Int) (n i : Nat) : Prop := i ≤ a.length ∧ ∀ r ∈ a.take i, ∀ h : n < c.length, r.2 ≤ c[n]
theorem behind_zero (a : List G) (c : List Int) : behind a c 0 0 := ⟨Nat.zero_le _, by simp⟩
theorem take_le {l : List G} {j : Nat} (hj : j < l.length) {x : Int} (h : ∀ r ∈ l.take j, r.2 ≤ x) (hx : l[j].2 ≤ x) : ∀ r ∈ l.take (j + 1), r.2 ≤ x := by
  intro r hr
  rw [List.take_succ_eq_append_getElem hj] at hr
  rcases List.mem_append.1 hr with k | k
  · exact h r k
  · simp at k; subst k; exact hx
theorem getD_gRows (b : List G) (k : Nat) : (gRows b).getD k [] = if h : k < b.length then [.int .i64 b[k].1, .int .i64 b[k].2] else [] := by
  split
  · rename_i h; exact getD_map h
  · simp [List.getD, List.getElem?_eq_none (show b.length ≤ k by omega)]
theorem t38 (F : FuncId) (hw : wid F = true) (a b : List G) (hca : Canon a) (hcb : Canon b) (ha : a.length < 5000) (hb : b.length < 5000) : PCalls Tryz.prog 40 [(.S 0, .av (gSet a)), (.S 1, .av (gSet b)), (.S 2, .av (wC F))] [(.S 0, .av (.pv (.sl (gRows (combL (wf F) a b)))))] := by
  refine PCalls.of_k Tryz.func40 (by decide) rfl fun Q hQ1 hQ2 => ?_
  refine PWp.seq_rg [2, 3, 4] orcV1_ok (mv := mv) (by decide) fun K hK => ?_
  simp only [pwr, mv, List.getD_nil, List.drop_nil, List.head?_nil, Int.natCast_zero, Int.reduceLT, Int.reduceSub, Int.reduceNeg, Int.reduceToNat, decide_false, decide_true, gt_iff_lt, Int.lt_irrefl, ne_eq, not_false_eq_true, not_true_eq_false, reduceIte, reduceCtorEq, Nat.reduceEqDiff, Nat.reduceAdd, Nat.reduceMul, Nat.reduceSub, Nat.reduceLT, Nat.reduceLeDiff, Nat.reduceBEq, if_true, if_false, implies_true, Option.isSome_none, Option.isSome_some, List.nil_append, List.cons_append, List.append_nil, List.map_cons, List.map_nil, List.toList_toArray, Option.getD_some, Option.getD_none, Option.map_some, Option.map_none, Option.bind_some, Option.bind_none, List.length_cons, List.length_nil, Bool.cond_true, Bool.cond_false, Array.toList_append, List.filterMap_cons, List.filterMap_nil, List.all_nil, List.all_cons, List.any_cons, List.any_nil, List.map_append, List.getElem?_toArray, List.getElem?_cons_zero, List.getElem?_cons_succ, Option.toArray_some, Option.toArray_none, List.contains_cons, List.contains_nil, List.head?_cons, List.drop_zero, List.drop_succ_cons, List.take_succ_cons, List.take_zero, List.set_cons_zero, List.set_cons_succ, List.length_map, List.getElem?_nil, orcV1, c34, c56, cW, gOf_gRows, iOf_iRows, zf, plainL, plainCell]
  refine hK _ ?_
  clear hK K
  refine PWp.seq_rg [2, 3, 4, 7] orcV1_ok (mv := mv) (by decide) fun K hK => ?_
  simp only [pwr, mv, List.getD_nil, List.drop_nil, List.head?_nil, Int.natCast_zero, Int.reduceLT, Int.reduceSub, Int.reduceNeg, Int.reduceToNat, decide_false, decide_true, gt_iff_lt, Int.lt_irrefl, ne_eq, not_false_eq_true, not_true_eq_false, reduceIte, reduceCtorEq, Nat.reduceEqDiff, Nat.reduceAdd, Nat.reduceMul, Nat.reduceSub, Nat.reduceLT, Nat.reduceLeDiff, Nat.reduceBEq, if_true, if_false, implies_true, Option.isSome_none, Option.isSome_some, List.nil_append, List.cons_append, List.append_nil, List.map_cons, List.map_nil, List.toList_toArray, Option.getD_some, Option.getD_none, Option.map_some, Option.map_none, Option.bind_some, Option.bind_none, List.length_cons, List.length_nil, Bool.cond_true, Bool.cond_false, Array.toList_append, List.filterMap_cons, List.filterMap_nil, List.all_nil, List.all_cons, List.any_cons, List.any_nil, List.map_append, List.getElem?_toArray, List.getElem?_cons_zero, List.getElem?_cons_succ, Option.toArray_some, Option.toArray_none, List.contains_cons, List.contains_nil, List.head?_cons, List.drop_zero, List.drop_succ_cons, List.take_succ_cons, List.take_zero, List.set_cons_zero, List.set_cons_succ, List.length_map, List.getElem?_nil, orcV1, c34, c56, cW, gOf_gRows, iOf_iRows, zf, plainL, plainCell]
  refine hK _ ?_
  clear hK K
  refine PWp.seq_k fun K1 hK1 => ?_
  have hF45 : ¬ F = 34 := by rw [wid_iff hw]; decide
  have hF55 : ¬ F = 56 := by rw [wid_iff hw]; decide
  have hm : ∀ j, mv F j = none := by rw [wid_iff hw]; intro j; rfl
  have hcl := (cutsL_spec a b).2.2
  have hco := (cutsL_spec a b).1
  have hcm : combL (wf F) a b = (pairsL (cutsL a b)).filter fun p => wf F (hasL a p.1) (hasL b p.1) := rfl
  have hsc := sorted_cuts' a b
  have hel := endsL_len (a ++ b)
  rw [List.length_append] at hel
  have hml : (a ++ b).length = a.length + b.length := List.length_append
  generalize hmm : a ++ b = m at *
  refine PWp.seq_dr [2, 3, 4, 7, 20, 21, 22] mixed orcV1_ok (mv := mv) (by decide) fun K hK => ?_
  simp only [pwr, mv, List.getD_nil, List.drop_nil, List.head?_nil, Int.natCast_zero, Int.reduceLT, Int.reduceSub, Int.reduceNeg, Int.reduceToNat, decide_false, decide_true, gt_iff_lt, Int.lt_irrefl, ne_eq, not_false_eq_true, not_true_eq_false, reduceIte, reduceCtorEq, Nat.reduceEqDiff, Nat.reduceAdd, Nat.reduceMul, Nat.reduceSub, Nat.reduceLT, Nat.reduceLeDiff, Nat.reduceBEq, if_true, if_false, implies_true, Option.isSome_none, Option.isSome_some, List.nil_append, List.cons_append, List.append_nil, List.map_cons, List.map_nil, List.toList_toArray, Option.getD_some, Option.getD_none, Option.map_some, Option.map_none, Option.bind_some, Option.bind_none, List.length_cons, List.length_nil, Bool.cond_true, Bool.cond_false, Array.toList_append, List.filterMap_cons, List.filterMap_nil, List.all_nil, List.all_cons, List.any_cons, List.any_nil, List.map_append, List.getElem?_toArray, List.getElem?_cons_zero, List.getElem?_cons_succ, Option.toArray_some, Option.toArray_none, List.contains_cons, List.contains_nil, List.head?_cons, List.drop_zero, List.drop_succ_cons, List.take_succ_cons, List.take_zero, List.set_cons_zero, List.set_cons_succ, List.length_map, List.getElem?_nil, orcV1, c34, c56, cW, gOf_gRows, iOf_iRows, zf, plainL, plainCell]
  repeat' with_reducible refine And.intro ?_ ?_
  all_goals try (first | omega | exact gRows_len)
  all_goals try (first | omega | rfl | ((with_reducible refine drawGoal ?_); exact rfl) | (simp only [inR]; omega) | (intro y hy; simp only [List.mem_singleton] at hy; subst hy; rfl) | (intro y hy; cases hy; done) | (simp only [List.length_append, List.length_map, List.length_cons, List.length_nil]; omega) | (intro h; simp only [inR]; omega) | (intro h; simp only [List.length_append, List.length_map, List.length_cons, List.length_nil]; omega) | (intro h; exact h.elim))
  refine hK _ ?_
  clear hK K
  refine PWp.block_k fun Qq2 hq2n hq2x hq2r hq2e => ?_
  refine PWp.loop_k (fun i : Nat => [(.S 2, .av (wC F)), (.S 3, .av (.ptr 1003 0 0)), (.S 4, .av (.ptr 1004 0 0)), (.S 7, .av (.rf (.RS 7 0) 0)), (.S 20, .av (.pv (.sl (gRows m)))), (.S 21, .av (.pv (.int .i64 m.length))), (.S 22, .av (.pv (.int .i64 i))), (.B 1003, .bx 0 [.pv (.sl (gRows a))]), (.B 1004, .bx 0 [.pv (.sl (gRows b))]), (.RS 7 0, .rw 0 true 3 (iRows (endsL (m.take i))))]) (fun i => i ≤ m.length) (fun i => m.length - i) (0) (Nat.zero_le _) ?_ ?_
  · repeat simp only [pwf, List.drop_zero, List.drop_succ_cons, List.take_succ_cons, List.take_zero, List.getElem?_cons_zero, List.getElem?_cons_succ, List.getElem?_nil, Nat.sub_self, reduceIte, reduceCtorEq, Nat.reduceEqDiff, Nat.reduceAdd, Nat.reduceMul, Nat.reduceSub, Nat.reduceLT, Nat.reduceLeDiff, Nat.reduceBEq, if_true, if_false, implies_true, Option.isSome_none, Option.isSome_some, List.nil_append, List.cons_append, List.append_nil, List.map_cons, List.map_nil, List.toList_toArray, Option.getD_some, Option.getD_none, Option.map_some, Option.map_none, Option.bind_some, Option.bind_none, List.length_cons, List.length_nil, Bool.cond_true, Bool.cond_false, Array.toList_append, List.contains_cons, List.contains_nil, zf, plainL, plainCell]
    repeat' with_reducible refine And.intro ?_ ?_
    all_goals first | exact ⟨_, _, rfl⟩ | rfl | (simp [hml]; done) | (rw [← hmm]; exact congrArg PV.sl List.map_append) | (simp [endsL]; done)
  rintro i hi J1 hJ1
  refine PWp.seq_rg [2, 3, 4, 7, 20, 21, 22, 23] orcV1_ok (mv := mv) (by decide) fun K hK => ?_
  simp only [pwr, mv, List.getD_nil, List.drop_nil, List.head?_nil, Int.natCast_zero, Int.reduceLT, Int.reduceSub, Int.reduceNeg, Int.reduceToNat, decide_false, decide_true, gt_iff_lt, Int.lt_irrefl, ne_eq, not_false_eq_true, not_true_eq_false, reduceIte, reduceCtorEq, Nat.reduceEqDiff, Nat.reduceAdd, Nat.reduceMul, Nat.reduceSub, Nat.reduceLT, Nat.reduceLeDiff, Nat.reduceBEq, if_true, if_false, implies_true, Option.isSome_none, Option.isSome_some, List.nil_append, List.cons_append, List.append_nil, List.map_cons, List.map_nil, List.toList_toArray, Option.getD_some, Option.getD_none, Option.map_some, Option.map_none, Option.bind_some, Option.bind_none, List.length_cons, List.length_nil, Bool.cond_true, Bool.cond_false, Array.toList_append, List.filterMap_cons, List.filterMap_nil, List.all_nil, List.all_cons, List.any_cons, List.any_nil, List.map_append, List.getElem?_toArray, List.getElem?_cons_zero, List.getElem?_cons_succ, Option.toArray_some, Option.toArray_none, List.contains_cons, List.contains_nil, List.head?_cons, List.drop_zero, List.drop_succ_cons, List.take_succ_cons, List.take_zero, List.set_cons_zero, List.set_cons_succ, List.length_map, List.getElem?_nil, orcV1, c34, c56, cW, gOf_gRows, iOf_iRows, zf, plainL, plainCell]
  refine hK _ ?_
  clear hK K
  refine PWp.seq_k fun K3 hK3 => ?_
  refine PWp.cond (by rfl) (fun hb23 => ?_) (fun hb23 => ?_)
  ·
   try (cases hb23; done)
   all_goals
    refine PWp.skip (hK3 _ ?_)
    refine PWp.seq_k fun K4 hK4 => ?_
    refine PWp.block_k fun Qq5 hq5n hq5x hq5r hq5e => ?_
    have hil : i < m.length := by have := of_decide_eq_true hb23; omega
    have e1 : (gRows m).getD i [] = [.int .i64 m[i].1, .int .i64 m[i].2] := getD_map hil
    have hs := endsL_snoc hil
    have h2 := endsL_len (m.take i)
    rw [List.length_take] at h2
    refine PWp.seq_rg [2, 3, 4, 7, 9, 20, 21, 22] orcV1_ok (mv := mv) (by decide) fun K hK => ?_
    simp only [pwr, mv, List.getD_nil, List.drop_nil, List.head?_nil, Int.natCast_zero, Int.reduceLT, Int.reduceSub, Int.reduceNeg, Int.reduceToNat, decide_false, decide_true, gt_iff_lt, Int.lt_irrefl, ne_eq, not_false_eq_true, not_true_eq_false, reduceIte, reduceCtorEq, Nat.reduceEqDiff, Nat.reduceAdd, Nat.reduceMul, Nat.reduceSub, Nat.reduceLT, Nat.reduceLeDiff, Nat.reduceBEq, if_true, if_false, implies_true, Option.isSome_none, Option.isSome_some, List.nil_append, List.cons_append, List.append_nil, List.map_cons, List.map_nil, List.toList_toArray, Option.getD_some, Option.getD_none, Option.map_some, Option.map_none, Option.bind_some, Option.bind_none, List.length_cons, List.length_nil, Bool.cond_true, Bool.cond_false, Array.toList_append, List.filterMap_cons, List.filterMap_nil, List.all_nil, List.all_cons, List.any_cons, List.any_nil, List.map_append, List.getElem?_toArray, List.getElem?_cons_zero, List.getElem?_cons_succ, Option.toArray_some, Option.toArray_none, List.contains_cons, List.contains_nil, List.head?_cons, List.drop_zero, List.drop_succ_cons, List.take_succ_cons, List.take_zero, List.set_cons_zero, List.set_cons_succ, List.length_map, List.getElem?_nil, orcV1, c34, c56, cW, gOf_gRows, iOf_iRows, zf, plainL, plainCell, e1]
    repeat' with_reducible refine And.intro ?_ ?_
    all_goals try (first | omega | rfl | ((with_reducible refine drawGoal ?_); exact rfl) | (simp only [inR]; omega) | (intro y hy; simp only [List.mem_singleton] at hy; subst hy; rfl) | (intro y hy; cases hy; done) | (simp only [List.length_append, List.length_map, List.length_cons, List.length_nil]; omega) | (intro h; simp only [inR]; omega) | (intro h; simp only [List.length_append, List.length_map, List.length_cons, List.length_nil]; omega) | (intro h; exact h.elim))
    refine hK _ ?_
    clear hK K
    refine PWp.rg [2, 3, 4, 7, 20, 21, 22] orcV1_ok (mv := mv) (by decide) ?_
    simp only [pwr, mv, List.getD_nil, List.drop_nil, List.head?_nil, Int.natCast_zero, Int.reduceLT, Int.reduceSub, Int.reduceNeg, Int.reduceToNat, decide_false, decide_true, gt_iff_lt, Int.lt_irrefl, ne_eq, not_false_eq_true, not_true_eq_false, reduceIte, reduceCtorEq, Nat.reduceEqDiff, Nat.reduceAdd, Nat.reduceMul, Nat.reduceSub, Nat.reduceLT, Nat.reduceLeDiff, Nat.reduceBEq, if_true, if_false, implies_true, Option.isSome_none, Option.isSome_some, List.nil_append, List.cons_append, List.append_nil, List.map_cons, List.map_nil, List.toList_toArray, Option.getD_some, Option.getD_none, Option.map_some, Option.map_none, Option.bind_some, Option.bind_none, List.length_cons, List.length_nil, Bool.cond_true, Bool.cond_false, Array.toList_append, List.filterMap_cons, List.filterMap_nil, List.all_nil, List.all_cons, List.any_cons, List.any_nil, List.map_append, List.getElem?_toArray, List.getElem?_cons_zero, List.getElem?_cons_succ, Option.toArray_some, Option.toArray_none, List.contains_cons, List.contains_nil, List.head?_cons, List.drop_zero, List.drop_succ_cons, List.take_succ_cons, List.take_zero, List.set_cons_zero, List.set_cons_succ, List.length_map, List.getElem?_nil, orcV1, c34, c56, cW, gOf_gRows, iOf_iRows, zf, plainL, plainCell]
    repeat' with_reducible refine And.intro ?_ ?_
    all_goals try (first | exact iRows_len | omega | (intro y hy; simp at hy; rcases hy with rfl | rfl <;> rfl))
    all_goals try (first | omega | rfl | ((with_reducible refine drawGoal ?_); exact rfl) | (simp only [inR]; omega) | (intro y hy; simp only [List.mem_singleton] at hy; subst hy; rfl) | (intro y hy; cases hy; done) | (simp only [List.length_append, List.length_map, List.length_cons, List.length_nil]; omega) | (intro h; simp only [inR]; omega) | (intro h; simp only [List.length_append, List.length_map, List.length_cons, List.length_nil]; omega) | (intro h; exact h.elim))
    refine hq5n _ (hK4 _ ?_)
    refine PWp.rg [2, 3, 4, 7, 20, 21, 22] orcV1_ok (mv := mv) (by decide) ?_
    simp only [pwr, mv, List.getD_nil, List.drop_nil, List.head?_nil, Int.natCast_zero, Int.reduceLT, Int.reduceSub, Int.reduceNeg, Int.reduceToNat, decide_false, decide_true, gt_iff_lt, Int.lt_irrefl, ne_eq, not_false_eq_true, not_true_eq_false, reduceIte, reduceCtorEq, Nat.reduceEqDiff, Nat.reduceAdd, Nat.reduceMul, Nat.reduceSub, Nat.reduceLT, Nat.reduceLeDiff, Nat.reduceBEq, if_true, if_false, implies_true, Option.isSome_none, Option.isSome_some, List.nil_append, List.cons_append, List.append_nil, List.map_cons, List.map_nil, List.toList_toArray, Option.getD_some, Option.getD_none, Option.map_some, Option.map_none, Option.bind_some, Option.bind_none, List.length_cons, List.length_nil, Bool.cond_true, Bool.cond_false, Array.toList_append, List.filterMap_cons, List.filterMap_nil, List.all_nil, List.all_cons, List.any_cons, List.any_nil, List.map_append, List.getElem?_toArray, List.getElem?_cons_zero, List.getElem?_cons_succ, Option.toArray_some, Option.toArray_none, List.contains_cons, List.contains_nil, List.head?_cons, List.drop_zero, List.drop_succ_cons, List.take_succ_cons, List.take_zero, List.set_cons_zero, List.set_cons_succ, List.length_map, List.getElem?_nil, orcV1, c34, c56, cW, gOf_gRows, iOf_iRows, zf, plainL, plainCell]
    repeat' with_reducible refine And.intro ?_ ?_
    all_goals try (first | omega | rfl | ((with_reducible refine drawGoal ?_); exact rfl) | (simp only [inR]; omega) | (intro y hy; simp only [List.mem_singleton] at hy; subst hy; rfl) | (intro y hy; cases hy; done) | (simp only [List.length_append, List.length_map, List.length_cons, List.length_nil]; omega) | (intro h; simp only [inR]; omega) | (intro h; simp only [List.length_append, List.length_map, List.length_cons, List.length_nil]; omega) | (intro h; exact h.elim))
    refine hJ1 _ (i + 1) ?_ ?_ ?_
    · first | omega | (show _ ≤ _; omega) | exact ⟨by omega, by assumption⟩
    · omega
    · repeat simp only [pwf, List.drop_zero, List.drop_succ_cons, List.take_succ_cons, List.take_zero, List.getElem?_cons_zero, List.getElem?_cons_succ, List.getElem?_nil, Nat.sub_self, reduceIte, reduceCtorEq, Nat.reduceEqDiff, Nat.reduceAdd, Nat.reduceMul, Nat.reduceSub, Nat.reduceLT, Nat.reduceLeDiff, Nat.reduceBEq, if_true, if_false, implies_true, Option.isSome_none, Option.isSome_some, List.nil_append, List.cons_append, List.append_nil, List.map_cons, List.map_nil, List.toList_toArray, Option.getD_some, Option.getD_none, Option.map_some, Option.map_none, Option.bind_some, Option.bind_none, List.length_cons, List.length_nil, Bool.cond_true, Bool.cond_false, Array.toList_append, List.contains_cons, List.contains_nil, zf, plainL, plainCell]
      rw [hs]
      simp
  ·
   try (cases hb23; done)
   all_goals
    refine PWp.exit (hq2x _ (hK1 _ ?_))
    have hie : i = m.length := by have := of_decide_eq_false hb23; omega
    rw [hie, List.take_length]
    refine PWp.seq_row [2, 3, 4, 7] (.RS 7 0) 0 3 (iRows (endsL m)) (iRows (srt (endsL m))) 35 orcV1_ok (mv := mv) (l := [_]) rfl (by decide) fun K hK => ?_
    simp only [pwr, mv, List.getD_nil, List.drop_nil, List.head?_nil, Int.natCast_zero, Int.reduceLT, Int.reduceSub, Int.reduceNeg, Int.reduceToNat, decide_false, decide_true, gt_iff_lt, Int.lt_irrefl, ne_eq, not_false_eq_true, not_true_eq_false, reduceIte, reduceCtorEq, Nat.reduceEqDiff, Nat.reduceAdd, Nat.reduceMul, Nat.reduceSub, Nat.reduceLT, Nat.reduceLeDiff, Nat.reduceBEq, if_true, if_false, implies_true, Option.isSome_none, Option.isSome_some, List.nil_append, List.cons_append, List.append_nil, List.map_cons, List.map_nil, List.toList_toArray, Option.getD_some, Option.getD_none, Option.map_some, Option.map_none, Option.bind_some, Option.bind_none, List.length_cons, List.length_nil, Bool.cond_true, Bool.cond_false, Array.toList_append, List.filterMap_cons, List.filterMap_nil, List.all_nil, List.all_cons, List.any_cons, List.any_nil, List.map_append, List.getElem?_toArray, List.getElem?_cons_zero, List.getElem?_cons_succ, Option.toArray_some, Option.toArray_none, List.contains_cons, List.contains_nil, List.head?_cons, List.drop_zero, List.drop_succ_cons, List.take_succ_cons, List.take_zero, List.set_cons_zero, List.set_cons_succ, List.length_map, List.getElem?_nil, orcV1, c34, c56, cW, gOf_gRows, iOf_iRows, zf, plainL, plainCell]
    refine ⟨⟨⟨_, _, _, _, _, rfl, rfl, rfl, ?_, rfl, rfl, sortI_row _ (by omega)⟩⟩, ?_⟩
    · (repeat' constructor) <;> simp
    refine hK _ ?_
    clear hK K
    refine PWp.seq_rg [2, 3, 4, 7] orcV1_ok (mv := mv) (by decide) fun K hK => ?_
    simp only [pwr, mv, List.getD_nil, List.drop_nil, List.head?_nil, Int.natCast_zero, Int.reduceLT, Int.reduceSub, Int.reduceNeg, Int.reduceToNat, decide_false, decide_true, gt_iff_lt, Int.lt_irrefl, ne_eq, not_false_eq_true, not_true_eq_false, reduceIte, reduceCtorEq, Nat.reduceEqDiff, Nat.reduceAdd, Nat.reduceMul, Nat.reduceSub, Nat.reduceLT, Nat.reduceLeDiff, Nat.reduceBEq, if_true, if_false, implies_true, Option.isSome_none, Option.isSome_some, List.nil_append, List.cons_append, List.append_nil, List.map_cons, List.map_nil, List.toList_toArray, Option.getD_some, Option.getD_none, Option.map_some, Option.map_none, Option.bind_some, Option.bind_none, List.length_cons, List.length_nil, Bool.cond_true, Bool.cond_false, Array.toList_append, List.filterMap_cons, List.filterMap_nil, List.all_nil, List.all_cons, List.any_cons, List.any_nil, List.map_append, List.getElem?_toArray, List.getElem?_cons_zero, List.getElem?_cons_succ, Option.toArray_some, Option.toArray_none, List.contains_cons, List.contains_nil, List.head?_cons, List.drop_zero, List.drop_succ_cons, List.take_succ_cons, List.take_zero, List.set_cons_zero, List.set_cons_succ, List.length_map, List.getElem?_nil, orcV1, c34, c56, cW, gOf_gRows, iOf_iRows, zf, plainL, plainCell, hsc]
    refine hK _ ?_
    clear hK K
    generalize hc : cutsL a b = c at *
    refine PWp.seq_rg [2, 3, 4, 7, 10] orcV1_ok (mv := mv) (by decide) fun K hK => ?_
    simp only [pwr, mv, List.getD_nil, List.drop_nil, List.head?_nil, Int.natCast_zero, Int.reduceLT, Int.reduceSub, Int.reduceNeg, Int.reduceToNat, decide_false, decide_true, gt_iff_lt, Int.lt_irrefl, ne_eq, not_false_eq_true, not_true_eq_false, reduceIte, reduceCtorEq, Nat.reduceEqDiff, Nat.reduceAdd, Nat.reduceMul, Nat.reduceSub, Nat.reduceLT, Nat.reduceLeDiff, Nat.reduceBEq, if_true, if_false, implies_true, Option.isSome_none, Option.isSome_some, List.nil_append, List.cons_append, List.append_nil, List.map_cons, List.map_nil, List.toList_toArray, Option.getD_some, Option.getD_none, Option.map_some, Option.map_none, Option.bind_some, Option.bind_none, List.length_cons, List.length_nil, Bool.cond_true, Bool.cond_false, Array.toList_append, List.filterMap_cons, List.filterMap_nil, List.all_nil, List.all_cons, List.any_cons, List.any_nil, List.map_append, List.getElem?_toArray, List.getElem?_cons_zero, List.getElem?_cons_succ, Option.toArray_some, Option.toArray_none, List.contains_cons, List.contains_nil, List.head?_cons, List.drop_zero, List.drop_succ_cons, List.take_succ_cons, List.take_zero, List.set_cons_zero, List.set_cons_succ, List.length_map, List.getElem?_nil, orcV1, c34, c56, cW, gOf_gRows, iOf_iRows, zf, plainL, plainCell]
    refine hK _ ?_
    clear hK K
    refine PWp.seq_rg [2, 3, 4, 7, 10, 11, 12] orcV1_ok (mv := mv) (by decide) fun K hK => ?_
    simp only [pwr, mv, List.getD_nil, List.drop_nil, List.head?_nil, Int.natCast_zero, Int.reduceLT, Int.reduceSub, Int.reduceNeg, Int.reduceToNat, decide_false, decide_true, gt_iff_lt, Int.lt_irrefl, ne_eq, not_false_eq_true, not_true_eq_false, reduceIte, reduceCtorEq, Nat.reduceEqDiff, Nat.reduceAdd, Nat.reduceMul, Nat.reduceSub, Nat.reduceLT, Nat.reduceLeDiff, Nat.reduceBEq, if_true, if_false, implies_true, Option.isSome_none, Option.isSome_some, List.nil_append, List.cons_append, List.append_nil, List.map_cons, List.map_nil, List.toList_toArray, Option.getD_some, Option.getD_none, Option.map_some, Option.map_none, Option.bind_some, Option.bind_none, List.length_cons, List.length_nil, Bool.cond_true, Bool.cond_false, Array.toList_append, List.filterMap_cons, List.filterMap_nil, List.all_nil, List.all_cons, List.any_cons, List.any_nil, List.map_append, List.getElem?_toArray, List.getElem?_cons_zero, List.getElem?_cons_succ, Option.toArray_some, Option.toArray_none, List.contains_cons, List.contains_nil, List.head?_cons, List.drop_zero, List.drop_succ_cons, List.take_succ_cons, List.take_zero, List.set_cons_zero, List.set_cons_succ, List.length_map, List.getElem?_nil, orcV1, c34, c56, cW, gOf_gRows, iOf_iRows, zf, plainL, plainCell]
    refine hK _ ?_
    clear hK K
    refine PWp.seq_k fun K6 hK6 => ?_
    refine PWp.seq_rg [2, 3, 4, 7, 10, 11, 12, 13] orcV1_ok (mv := mv) (by decide) fun K hK => ?_
    simp only [pwr, mv, List.getD_nil, List.drop_nil, List.head?_nil, Int.natCast_zero, Int.reduceLT, Int.reduceSub, Int.reduceNeg, Int.reduceToNat, decide_false, decide_true, gt_iff_lt, Int.lt_irrefl, ne_eq, not_false_eq_true, not_true_eq_false, reduceIte, reduceCtorEq, Nat.reduceEqDiff, Nat.reduceAdd, Nat.reduceMul, Nat.reduceSub, Nat.reduceLT, Nat.reduceLeDiff, Nat.reduceBEq, if_true, if_false, implies_true, Option.isSome_none, Option.isSome_some, List.nil_append, List.cons_append, List.append_nil, List.map_cons, List.map_nil, List.toList_toArray, Option.getD_some, Option.getD_none, Option.map_some, Option.map_none, Option.bind_some, Option.bind_none, List.length_cons, List.length_nil, Bool.cond_true, Bool.cond_false, Array.toList_append, List.filterMap_cons, List.filterMap_nil, List.all_nil, List.all_cons, List.any_cons, List.any_nil, List.map_append, List.getElem?_toArray, List.getElem?_cons_zero, List.getElem?_cons_succ, Option.toArray_some, Option.toArray_none, List.contains_cons, List.contains_nil, List.head?_cons, List.drop_zero, List.drop_succ_cons, List.take_succ_cons, List.take_zero, List.set_cons_zero, List.set_cons_succ, List.length_map, List.getElem?_nil, orcV1, c34, c56, cW, gOf_gRows, iOf_iRows, zf, plainL, plainCell]
    refine hK _ ?_
    clear hK K
    refine PWp.block_k fun Qq7 hq7n hq7x hq7r hq7e => ?_
    refine PWp.loop_k (fun x : Nat × Nat × Nat => [(.S 2, .av (wC F)), (.S 3, .av (.ptr 1003 0 0)), (.S 4, .av (.ptr 1004 0 0)), (.S 7, .av (.pv (.sl (iRows c)))), (.S 10, .av (.rf (.RS 10 0) 0)), (.S 11, .av (.pv (.int .i64 x.2.1))), (.S 12, .av (.pv (.int .i64 x.2.2))), (.S 13, .av (.pv (.int .i64 x.1))), (.B 1003, .bx 0 [.pv (.sl (gRows a))]), (.B 1004, .bx 0 [.pv (.sl (gRows b))]), (.RS 10 0, .rw 0 true 41 (gRows (((pairsL c).take x.1).filter fun p => wf F (hasL a p.1) (hasL b p.1))))]) (fun x => (x.1 = 0 ∨ x.1 + 1 ≤ c.length) ∧ behind a c x.1 x.2.1 ∧ behind b c x.1 x.2.2) (fun x => c.length - x.1) ((0, 0, 0)) (⟨.inl rfl, behind_zero _ _, behind_zero _ _⟩) ?_ ?_
    · repeat simp only [pwf, List.drop_zero, List.drop_succ_cons, List.take_succ_cons, List.take_zero, List.getElem?_cons_zero, List.getElem?_cons_succ, List.getElem?_nil, Nat.sub_self, reduceIte, reduceCtorEq, Nat.reduceEqDiff, Nat.reduceAdd, Nat.reduceMul, Nat.reduceSub, Nat.reduceLT, Nat.reduceLeDiff, Nat.reduceBEq, if_true, if_false, implies_true, Option.isSome_none, Option.isSome_some, List.nil_append, List.cons_append, List.append_nil, List.map_cons, List.map_nil, List.toList_toArray, Option.getD_some, Option.getD_none, Option.map_some, Option.map_none, Option.bind_some, Option.bind_none, List.length_cons, List.length_nil, Bool.cond_true, Bool.cond_false, Array.toList_append, List.contains_cons, List.contains_nil, zf, plainL, plainCell]
      first | done | trivial | rfl | (simp; done)
    rintro ⟨n, i0, k0⟩ ⟨hn, hA, hB⟩ J2 hJ2
    change n = 0 ∨ n + 1 ≤ c.length at hn
    change behind a c n i0 at hA
    change behind b c n k0 at hB
    refine PWp.seq_k fun K8 hK8 => ?_
    refine PWp.seq_rg [2, 3, 4, 7, 10, 11, 12, 13, 42] orcV1_ok (mv := mv) (by decide) fun K hK => ?_
    simp only [pwr, mv, List.getD_nil, List.drop_nil, List.head?_nil, Int.natCast_zero, Int.reduceLT, Int.reduceSub, Int.reduceNeg, Int.reduceToNat, decide_false, decide_true, gt_iff_lt, Int.lt_irrefl, ne_eq, not_false_eq_true, not_true_eq_false, reduceIte, reduceCtorEq, Nat.reduceEqDiff, Nat.reduceAdd, Nat.reduceMul, Nat.reduceSub, Nat.reduceLT, Nat.reduceLeDiff, Nat.reduceBEq, if_true, if_false, implies_true, Option.isSome_none, Option.isSome_some, List.nil_append, List.cons_append, List.append_nil, List.map_cons, List.map_nil, List.toList_toArray, Option.getD_some, Option.getD_none, Option.map_some, Option.map_none, Option.bind_some, Option.bind_none, List.length_cons, List.length_nil, Bool.cond_true, Bool.cond_false, Array.toList_append, List.filterMap_cons, List.filterMap_nil, List.all_nil, List.all_cons, List.any_cons, List.any_nil, List.map_append, List.getElem?_toArray, List.getElem?_cons_zero, List.getElem?_cons_succ, Option.toArray_some, Option.toArray_none, List.contains_cons, List.contains_nil, List.head?_cons, List.drop_zero, List.drop_succ_cons, List.take_succ_cons, List.take_zero, List.set_cons_zero, List.set_cons_succ, List.length_map, List.getElem?_nil, orcV1, c34, c56, cW, gOf_gRows, iOf_iRows, zf, plainL, plainCell]
    repeat' with_reducible refine And.intro ?_ ?_
    all_goals try (first | omega | rfl | ((with_reducible refine drawGoal ?_); exact rfl) | (simp only [inR]; omega) | (intro y hy; simp only [List.mem_singleton] at hy; subst hy; rfl) | (intro y hy; cases hy; done) | (simp only [List.length_append, List.length_map, List.length_cons, List.length_nil]; omega) | (intro h; simp only [inR]; omega) | (intro h; simp only [List.length_append, List.length_map, List.length_cons, List.length_nil]; omega) | (intro h; exact h.elim))
    refine hK _ ?_
    clear hK K
    refine PWp.cond (by rfl) (fun hb42 => ?_) (fun hb42 => ?_)
    ·
     try (cases hb42; done)
     all_goals
      refine PWp.skip (hK8 _ ?_)
      refine PWp.seq_k fun K9 hK9 => ?_
      refine PWp.block_k fun Qq10 hq10n hq10x hq10r hq10e => ?_
      have hnl : n + 1 < c.length := by simp at hb42; omega
      have hpl : n < (pairsL c).length := by rw [pairsL_len]; omega
      have htf := take_filter (fun p => wf F (hasL a p.1) (hasL b p.1)) hpl
      rw [pairsL_get hnl] at htf
      have hfl := List.length_filter_le (fun p => wf F (hasL a p.1) (hasL b p.1)) ((pairsL c).take n)
      rw [List.length_take] at hfl
      have e1 : (iRows c).getD n [] = [.int .i64 c[n]] := getD_map (by omega)
      have e2 : (iRows c).getD (n + 1) [] = [.int .i64 c[n + 1]] := getD_map hnl
      have eM : ((n : Int) + 1).toNat = n + 1 := by omega
      have hA1 : ∀ r ∈ a.take i0, r.2 ≤ c[n] := fun r hr => hA.2 r hr (by omega)
      have hB1 : ∀ r ∈ b.take k0, r.2 ≤ c[n] := fun r hr => hB.2 r hr (by omega)
      have hnext : c[n] < c[n + 1] := List.pairwise_iff_getElem.1 hco n (n + 1) (by omega) hnl (by omega)
      have hA2 : ∀ j, (∀ r ∈ a.take j, r.2 ≤ c[n]) → j ≤ a.length → behind a c (n + 1) j := fun j h1 h2 => ⟨h2, fun r hr h => by have := h1 r hr; omega⟩
      have hB2 : ∀ j, (∀ r ∈ b.take j, r.2 ≤ c[n]) → j ≤ b.length → behind b c (n + 1) j := fun j h1 h2 => ⟨h2, fun r hr h => by have := h1 r hr; omega⟩
      generalize c[n] = av at *
      generalize c[n + 1] = nx at *
      refine PWp.seq_rg [2, 3, 4, 7, 10, 11, 12, 13, 14] orcV1_ok (mv := mv) (by decide) fun K hK => ?_
      simp only [pwr, mv, List.getD_nil, List.drop_nil, List.head?_nil, Int.natCast_zero, Int.reduceLT, Int.reduceSub, Int.reduceNeg, Int.reduceToNat, decide_false, decide_true, gt_iff_lt, Int.lt_irrefl, ne_eq, not_false_eq_true, not_true_eq_false, reduceIte, reduceCtorEq, Nat.reduceEqDiff, Nat.reduceAdd, Nat.reduceMul, Nat.reduceSub, Nat.reduceLT, Nat.reduceLeDiff, Nat.reduceBEq, if_true, if_false, implies_true, Option.isSome_none, Option.isSome_some, List.nil_append, List.cons_append, List.append_nil, List.map_cons, List.map_nil, List.toList_toArray, Option.getD_some, Option.getD_none, Option.map_some, Option.map_none, Option.bind_some, Option.bind_none, List.length_cons, List.length_nil, Bool.cond_true, Bool.cond_false, Array.toList_append, List.filterMap_cons, List.filterMap_nil, List.all_nil, List.all_cons, List.any_cons, List.any_nil, List.map_append, List.getElem?_toArray, List.getElem?_cons_zero, List.getElem?_cons_succ, Option.toArray_some, Option.toArray_none, List.contains_cons, List.contains_nil, List.head?_cons, List.drop_zero, List.drop_succ_cons, List.take_succ_cons, List.take_zero, List.set_cons_zero, List.set_cons_succ, List.length_map, List.getElem?_nil, orcV1, c34, c56, cW, gOf_gRows, iOf_iRows, zf, plainL, plainCell, e1]
      repeat' with_reducible refine And.intro ?_ ?_
      all_goals try (first | omega | rfl | ((with_reducible refine drawGoal ?_); exact rfl) | (simp only [inR]; omega) | (intro y hy; simp only [List.mem_singleton] at hy; subst hy; rfl) | (intro y hy; cases hy; done) | (simp only [List.length_append, List.length_map, List.length_cons, List.length_nil]; omega) | (intro h; simp only [inR]; omega) | (intro h; simp only [List.length_append, List.length_map, List.length_cons, List.length_nil]; omega) | (intro h; exact h.elim))
      refine hK _ ?_
      clear hK K
      refine PWp.seq_k fun K11 hK11 => ?_
      refine PWp.block_k fun Qq12 hq12n hq12x hq12r hq12e => ?_
      refine PWp.loop_k (fun j : Nat => [(.S 2, .av (wC F)), (.S 3, .av (.ptr 1003 0 0)), (.S 4, .av (.ptr 1004 0 0)), (.S 7, .av (.pv (.sl (iRows c)))), (.S 10, .av (.rf (.RS 10 0) 0)), (.S 11, .av (.pv (.int .i64 j))), (.S 12, .av (.pv (.int .i64 k0))), (.S 13, .av (.pv (.int .i64 n))), (.S 14, .av (.pv (.int .i64 av))), (.B 1003, .bx 0 [.pv (.sl (gRows a))]), (.B 1004, .bx 0 [.pv (.sl (gRows b))]), (.RS 10 0, .rw 0 true 41 (gRows (((pairsL c).take n).filter fun p => wf F (hasL a p.1) (hasL b p.1))))]) (fun j => j ≤ a.length ∧ ∀ r ∈ a.take j, r.2 ≤ av) (fun j => a.length - j) (i0) (⟨hA.1, hA1⟩) ?_ ?_
      · repeat simp only [pwf, List.drop_zero, List.drop_succ_cons, List.take_succ_cons, List.take_zero, List.getElem?_cons_zero, List.getElem?_cons_succ, List.getElem?_nil, Nat.sub_self, reduceIte, reduceCtorEq, Nat.reduceEqDiff, Nat.reduceAdd, Nat.reduceMul, Nat.reduceSub, Nat.reduceLT, Nat.reduceLeDiff, Nat.reduceBEq, if_true, if_false, implies_true, Option.isSome_none, Option.isSome_some, List.nil_append, List.cons_append, List.append_nil, List.map_cons, List.map_nil, List.toList_toArray, Option.getD_some, Option.getD_none, Option.map_some, Option.map_none, Option.bind_some, Option.bind_none, List.length_cons, List.length_nil, Bool.cond_true, Bool.cond_false, Array.toList_append, List.contains_cons, List.contains_nil, zf, plainL, plainCell]
        first | done | trivial | rfl | (simp; done)
      rintro j ⟨hj, hjn⟩ J3 hJ3
      refine PWp.seq_k fun K13 hK13 => ?_
      by_cases hja : j < a.length
      ·
       have e3 := getD_gRows a j
       have hD : decide ((j : Int) < (a.length : Int)) = decide (j < a.length) := by simp
       simp only [hja, dite_true, dite_false, decide_true, decide_false] at e3 hD
       refine PWp.seq_rg [2, 3, 4, 7, 10, 11, 12, 13, 14, 63] orcV1_ok (mv := mv) (by decide) fun K hK => ?_
       simp only [pwr, mv, List.getD_nil, List.drop_nil, List.head?_nil, Int.natCast_zero, Int.reduceLT, Int.reduceSub, Int.reduceNeg, Int.reduceToNat, decide_false, decide_true, gt_iff_lt, Int.lt_irrefl, ne_eq, not_false_eq_true, not_true_eq_false, reduceIte, reduceCtorEq, Nat.reduceEqDiff, Nat.reduceAdd, Nat.reduceMul, Nat.reduceSub, Nat.reduceLT, Nat.reduceLeDiff, Nat.reduceBEq, if_true, if_false, implies_true, Option.isSome_none, Option.isSome_some, List.nil_append, List.cons_append, List.append_nil, List.map_cons, List.map_nil, List.toList_toArray, Option.getD_some, Option.getD_none, Option.map_some, Option.map_none, Option.bind_some, Option.bind_none, List.length_cons, List.length_nil, Bool.cond_true, Bool.cond_false, Array.toList_append, List.filterMap_cons, List.filterMap_nil, List.all_nil, List.all_cons, List.any_cons, List.any_nil, List.map_append, List.getElem?_toArray, List.getElem?_cons_zero, List.getElem?_cons_succ, Option.toArray_some, Option.toArray_none, List.contains_cons, List.contains_nil, List.head?_cons, List.drop_zero, List.drop_succ_cons, List.take_succ_cons, List.take_zero, List.set_cons_zero, List.set_cons_succ, List.length_map, List.getElem?_nil, orcV1, c34, c56, cW, gOf_gRows, iOf_iRows, zf, plainL, plainCell, e3, hD]
       repeat' with_reducible refine And.intro ?_ ?_
       all_goals try (first | omega | rfl | ((with_reducible refine drawGoal ?_); exact rfl) | (simp only [inR]; omega) | (intro y hy; simp only [List.mem_singleton] at hy; subst hy; rfl) | (intro y hy; cases hy; done) | (simp only [List.length_append, List.length_map, List.length_cons, List.length_nil]; omega) | (intro h; simp only [inR]; omega) | (intro h; simp only [List.length_append, List.length_map, List.length_cons, List.length_nil]; omega) | (intro h; exact h.elim))
       refine hK _ ?_
       clear hK K
       refine PWp.cond (by rfl) (fun hb63 => ?_) (fun hb63 => ?_)
       ·
        try (cases hb63; done)
        all_goals
         refine PWp.skip (hK13 _ ?_)
         refine PWp.block_k fun Qq14 hq14n hq14x hq14r hq14e => ?_
         refine PWp.rg [2, 3, 4, 7, 10, 11, 12, 13, 14] orcV1_ok (mv := mv) (by decide) ?_
         simp only [pwr, mv, List.getD_nil, List.drop_nil, List.head?_nil, Int.natCast_zero, Int.reduceLT, Int.reduceSub, Int.reduceNeg, Int.reduceToNat, decide_false, decide_true, gt_iff_lt, Int.lt_irrefl, ne_eq, not_false_eq_true, not_true_eq_false, reduceIte, reduceCtorEq, Nat.reduceEqDiff, Nat.reduceAdd, Nat.reduceMul, Nat.reduceSub, Nat.reduceLT, Nat.reduceLeDiff, Nat.reduceBEq, if_true, if_false, implies_true, Option.isSome_none, Option.isSome_some, List.nil_append, List.cons_append, List.append_nil, List.map_cons, List.map_nil, List.toList_toArray, Option.getD_some, Option.getD_none, Option.map_some, Option.map_none, Option.bind_some, Option.bind_none, List.length_cons, List.length_nil, Bool.cond_true, Bool.cond_false, Array.toList_append, List.filterMap_cons, List.filterMap_nil, List.all_nil, List.all_cons, List.any_cons, List.any_nil, List.map_append, List.getElem?_toArray, List.getElem?_cons_zero, List.getElem?_cons_succ, Option.toArray_some, Option.toArray_none, List.contains_cons, List.contains_nil, List.head?_cons, List.drop_zero, List.drop_succ_cons, List.take_succ_cons, List.take_zero, List.set_cons_zero, List.set_cons_succ, List.length_map, List.getElem?_nil, orcV1, c34, c56, cW, gOf_gRows, iOf_iRows, zf, plainL, plainCell]
         repeat' with_reducible refine And.intro ?_ ?_
         all_goals try (first | omega | rfl | ((with_reducible refine drawGoal ?_); exact rfl) | (simp only [inR]; omega) | (intro y hy; simp only [List.mem_singleton] at hy; subst hy; rfl) | (intro y hy; cases hy; done) | (simp only [List.length_append, List.length_map, List.length_cons, List.length_nil]; omega) | (intro h; simp only [inR]; omega) | (intro h; simp only [List.length_append, List.length_map, List.length_cons, List.length_nil]; omega) | (intro h; exact h.elim))
         refine hq14n _ (hJ3 _ (j + 1) ?_ ?_ ?_)
         · exact ⟨by omega, take_le hja hjn (by simpa using hb63)⟩
         · omega
         · repeat simp only [pwf, List.drop_zero, List.drop_succ_cons, List.take_succ_cons, List.take_zero, List.getElem?_cons_zero, List.getElem?_cons_succ, List.getElem?_nil, Nat.sub_self, reduceIte, reduceCtorEq, Nat.reduceEqDiff, Nat.reduceAdd, Nat.reduceMul, Nat.reduceSub, Nat.reduceLT, Nat.reduceLeDiff, Nat.reduceBEq, if_true, if_false, implies_true, Option.isSome_none, Option.isSome_some, List.nil_append, List.cons_append, List.append_nil, List.map_cons, List.map_nil, List.toList_toArray, Option.getD_some, Option.getD_none, Option.map_some, Option.map_none, Option.bind_some, Option.bind_none, List.length_cons, List.length_nil, Bool.cond_true, Bool.cond_false, Array.toList_append, List.contains_cons, List.contains_nil, zf, plainL, plainCell]
           simp
       ·
        try (cases hb63; done)
        all_goals
         refine PWp.exit (hq12x _ (hK11 _ ?_))
         refine PWp.seq_k fun K15 hK15 => ?_
         refine PWp.block_k fun Qq16 hq16n hq16x hq16r hq16e => ?_
         refine PWp.loop_k (fun k : Nat => [(.S 2, .av (wC F)), (.S 3, .av (.ptr 1003 0 0)), (.S 4, .av (.ptr 1004 0 0)), (.S 7, .av (.pv (.sl (iRows c)))), (.S 10, .av (.rf (.RS 10 0) 0)), (.S 11, .av (.pv (.int .i64 j))), (.S 12, .av (.pv (.int .i64 k))), (.S 13, .av (.pv (.int .i64 n))), (.S 14, .av (.pv (.int .i64 av))), (.B 1003, .bx 0 [.pv (.sl (gRows a))]), (.B 1004, .bx 0 [.pv (.sl (gRows b))]), (.RS 10 0, .rw 0 true 41 (gRows (((pairsL c).take n).filter fun p => wf F (hasL a p.1) (hasL b p.1))))]) (fun k => k ≤ b.length ∧ ∀ r ∈ b.take k, r.2 ≤ av) (fun k => b.length - k) (k0) (⟨hB.1, hB1⟩) ?_ ?_
         · repeat simp only [pwf, List.drop_zero, List.drop_succ_cons, List.take_succ_cons, List.take_zero, List.getElem?_cons_zero, List.getElem?_cons_succ, List.getElem?_nil, Nat.sub_self, reduceIte, reduceCtorEq, Nat.reduceEqDiff, Nat.reduceAdd, Nat.reduceMul, Nat.reduceSub, Nat.reduceLT, Nat.reduceLeDiff, Nat.reduceBEq, if_true, if_false, implies_true, Option.isSome_none, Option.isSome_some, List.nil_append, List.cons_append, List.append_nil, List.map_cons, List.map_nil, List.toList_toArray, Option.getD_some, Option.getD_none, Option.map_some, Option.map_none, Option.bind_some, Option.bind_none, List.length_cons, List.length_nil, Bool.cond_true, Bool.cond_false, Array.toList_append, List.contains_cons, List.contains_nil, zf, plainL, plainCell]
           first | done | trivial | rfl | (simp; done)
         rintro k ⟨hk, hkn⟩ J4 hJ4
         refine PWp.seq_k fun K17 hK17 => ?_
         by_cases hkb : k < b.length
         ·
          have e4 := getD_gRows b k
          have hE : decide ((k : Int) < (b.length : Int)) = decide (k < b.length) := by simp
          simp only [hkb, dite_true, dite_false, decide_true, decide_false] at e4 hE
          refine PWp.seq_rg [2, 3, 4, 7, 10, 11, 12, 13, 14, 80] orcV1_ok (mv := mv) (by decide) fun K hK => ?_
          simp only [pwr, mv, List.getD_nil, List.drop_nil, List.head?_nil, Int.natCast_zero, Int.reduceLT, Int.reduceSub, Int.reduceNeg, Int.reduceToNat, decide_false, decide_true, gt_iff_lt, Int.lt_irrefl, ne_eq, not_false_eq_true, not_true_eq_false, reduceIte, reduceCtorEq, Nat.reduceEqDiff, Nat.reduceAdd, Nat.reduceMul, Nat.reduceSub, Nat.reduceLT, Nat.reduceLeDiff, Nat.reduceBEq, if_true, if_false, implies_true, Option.isSome_none, Option.isSome_some, List.nil_append, List.cons_append, List.append_nil, List.map_cons, List.map_nil, List.toList_toArray, Option.getD_some, Option.getD_none, Option.map_some, Option.map_none, Option.bind_some, Option.bind_none, List.length_cons, List.length_nil, Bool.cond_true, Bool.cond_false, Array.toList_append, List.filterMap_cons, List.filterMap_nil, List.all_nil, List.all_cons, List.any_cons, List.any_nil, List.map_append, List.getElem?_toArray, List.getElem?_cons_zero, List.getElem?_cons_succ, Option.toArray_some, Option.toArray_none, List.contains_cons, List.contains_nil, List.head?_cons, List.drop_zero, List.drop_succ_cons, List.take_succ_cons, List.take_zero, List.set_cons_zero, List.set_cons_succ, List.length_map, List.getElem?_nil, orcV1, c34, c56, cW, gOf_gRows, iOf_iRows, zf, plainL, plainCell, e4, hE]
          repeat' with_reducible refine And.intro ?_ ?_
          all_goals try (first | omega | rfl | ((with_reducible refine drawGoal ?_); exact rfl) | (simp only [inR]; omega) | (intro y hy; simp only [List.mem_singleton] at hy; subst hy; rfl) | (intro y hy; cases hy; done) | (simp only [List.length_append, List.length_map, List.length_cons, List.length_nil]; omega) | (intro h; simp only [inR]; omega) | (intro h; simp only [List.length_append, List.length_map, List.length_cons, List.length_nil]; omega) | (intro h; exact h.elim))
          refine hK _ ?_
          clear hK K
          refine PWp.cond (by rfl) (fun hb80 => ?_) (fun hb80 => ?_)
          ·
           try (cases hb80; done)
           all_goals
            refine PWp.skip (hK17 _ ?_)
            refine PWp.block_k fun Qq18 hq18n hq18x hq18r hq18e => ?_
            refine PWp.rg [2, 3, 4, 7, 10, 11, 12, 13, 14] orcV1_ok (mv := mv) (by decide) ?_
            simp only [pwr, mv, List.getD_nil, List.drop_nil, List.head?_nil, Int.natCast_zero, Int.reduceLT, Int.reduceSub, Int.reduceNeg, Int.reduceToNat, decide_false, decide_true, gt_iff_lt, Int.lt_irrefl, ne_eq, not_false_eq_true, not_true_eq_false, reduceIte, reduceCtorEq, Nat.reduceEqDiff, Nat.reduceAdd, Nat.reduceMul, Nat.reduceSub, Nat.reduceLT, Nat.reduceLeDiff, Nat.reduceBEq, if_true, if_false, implies_true, Option.isSome_none, Option.isSome_some, List.nil_append, List.cons_append, List.append_nil, List.map_cons, List.map_nil, List.toList_toArray, Option.getD_some, Option.getD_none, Option.map_some, Option.map_none, Option.bind_some, Option.bind_none, List.length_cons, List.length_nil, Bool.cond_true, Bool.cond_false, Array.toList_append, List.filterMap_cons, List.filterMap_nil, List.all_nil, List.all_cons, List.any_cons, List.any_nil, List.map_append, List.getElem?_toArray, List.getElem?_cons_zero, List.getElem?_cons_succ, Option.toArray_some, Option.toArray_none, List.contains_cons, List.contains_nil, List.head?_cons, List.drop_zero, List.drop_succ_cons, List.take_succ_cons, List.take_zero, List.set_cons_zero, List.set_cons_succ, List.length_map, List.getElem?_nil, orcV1, c34, c56, cW, gOf_gRows, iOf_iRows, zf, plainL, plainCell]
            repeat' with_reducible refine And.intro ?_ ?_
            all_goals try (first | omega | rfl | ((with_reducible refine drawGoal ?_); exact rfl) | (simp only [inR]; omega) | (intro y hy; simp only [List.mem_singleton] at hy; subst hy; rfl) | (intro y hy; cases hy; done) | (simp only [List.length_append, List.length_map, List.length_cons, List.length_nil]; omega) | (intro h; simp only [inR]; omega) | (intro h; simp only [List.length_append, List.length_map, List.length_cons, List.length_nil]; omega) | (intro h; exact h.elim))
            refine hq18n _ (hJ4 _ (k + 1) ?_ ?_ ?_)
            · exact ⟨by omega, take_le hkb hkn (by simpa using hb80)⟩
            · omega
            · repeat simp only [pwf, List.drop_zero, List.drop_succ_cons, List.take_succ_cons, List.take_zero, List.getElem?_cons_zero, List.getElem?_cons_succ, List.getElem?_nil, Nat.sub_self, reduceIte, reduceCtorEq, Nat.reduceEqDiff, Nat.reduceAdd, Nat.reduceMul, Nat.reduceSub, Nat.reduceLT, Nat.reduceLeDiff, Nat.reduceBEq, if_true, if_false, implies_true, Option.isSome_none, Option.isSome_some, List.nil_append, List.cons_append, List.append_nil, List.map_cons, List.map_nil, List.toList_toArray, Option.getD_some, Option.getD_none, Option.map_some, Option.map_none, Option.bind_some, Option.bind_none, List.length_cons, List.length_nil, Bool.cond_true, Bool.cond_false, Array.toList_append, List.contains_cons, List.contains_nil, zf, plainL, plainCell]
              simp
          ·
           try (cases hb80; done)
           all_goals
            refine PWp.exit (hq16x _ (hK15 _ ?_))
            have hHa := has_at hca hjn (fun h => by first | exact absurd h hja | (simp at hb63; omega))
            have hHb := has_at hcb hkn (fun h => by first | exact absurd h hkb | (simp at hb80; omega))
            simp only [hja, hkb, dite_true, dite_false] at hHa hHb
            refine PWp.seq_dr [2, 3, 4, 7, 10, 11, 12, 13, 14, 114] mixed orcV1_ok (mv := mv) (by decide) fun K hK => ?_
            simp only [pwr, mv, List.getD_nil, List.drop_nil, List.head?_nil, Int.natCast_zero, Int.reduceLT, Int.reduceSub, Int.reduceNeg, Int.reduceToNat, decide_false, decide_true, gt_iff_lt, Int.lt_irrefl, ne_eq, not_false_eq_true, not_true_eq_false, reduceIte, reduceCtorEq, Nat.reduceEqDiff, Nat.reduceAdd, Nat.reduceMul, Nat.reduceSub, Nat.reduceLT, Nat.reduceLeDiff, Nat.reduceBEq, if_true, if_false, implies_true, Option.isSome_none, Option.isSome_some, List.nil_append, List.cons_append, List.append_nil, List.map_cons, List.map_nil, List.toList_toArray, Option.getD_some, Option.getD_none, Option.map_some, Option.map_none, Option.bind_some, Option.bind_none, List.length_cons, List.length_nil, Bool.cond_true, Bool.cond_false, Array.toList_append, List.filterMap_cons, List.filterMap_nil, List.all_nil, List.all_cons, List.any_cons, List.any_nil, List.map_append, List.getElem?_toArray, List.getElem?_cons_zero, List.getElem?_cons_succ, Option.toArray_some, Option.toArray_none, List.contains_cons, List.contains_nil, List.head?_cons, List.drop_zero, List.drop_succ_cons, List.take_succ_cons, List.take_zero, List.set_cons_zero, List.set_cons_succ, List.length_map, List.getElem?_nil, orcV1, c34, c56, cW, gOf_gRows, iOf_iRows, zf, plainL, plainCell, e3, hD, e4, hE, hF45, hF55, hw, hm]
            repeat' with_reducible refine And.intro ?_ ?_
            all_goals try (first | omega | rfl | ((with_reducible refine drawGoal ?_); exact rfl) | (simp only [inR]; omega) | (intro y hy; simp only [List.mem_singleton] at hy; subst hy; rfl) | (intro y hy; cases hy; done) | (simp only [List.length_append, List.length_map, List.length_cons, List.length_nil]; omega) | (intro h; simp only [inR]; omega) | (intro h; simp only [List.length_append, List.length_map, List.length_cons, List.length_nil]; omega) | (intro h; exact h.elim))
            refine hK _ ?_
            clear hK K
            refine PWp.cond (by rfl) (fun hb114 => ?_) (fun hb114 => ?_)
            ·
             try (cases hb114; done)
             all_goals
              refine PWp.rg [2, 3, 4, 7, 10, 11, 12, 13] orcV1_ok (mv := mv) (by decide) ?_
              simp only [pwr, mv, List.getD_nil, List.drop_nil, List.head?_nil, Int.natCast_zero, Int.reduceLT, Int.reduceSub, Int.reduceNeg, Int.reduceToNat, decide_false, decide_true, gt_iff_lt, Int.lt_irrefl, ne_eq, not_false_eq_true, not_true_eq_false, reduceIte, reduceCtorEq, Nat.reduceEqDiff, Nat.reduceAdd, Nat.reduceMul, Nat.reduceSub, Nat.reduceLT, Nat.reduceLeDiff, Nat.reduceBEq, if_true, if_false, implies_true, Option.isSome_none, Option.isSome_some, List.nil_append, List.cons_append, List.append_nil, List.map_cons, List.map_nil, List.toList_toArray, Option.getD_some, Option.getD_none, Option.map_some, Option.map_none, Option.bind_some, Option.bind_none, List.length_cons, List.length_nil, Bool.cond_true, Bool.cond_false, Array.toList_append, List.filterMap_cons, List.filterMap_nil, List.all_nil, List.all_cons, List.any_cons, List.any_nil, List.map_append, List.getElem?_toArray, List.getElem?_cons_zero, List.getElem?_cons_succ, Option.toArray_some, Option.toArray_none, List.contains_cons, List.contains_nil, List.head?_cons, List.drop_zero, List.drop_succ_cons, List.take_succ_cons, List.take_zero, List.set_cons_zero, List.set_cons_succ, List.length_map, List.getElem?_nil, orcV1, c34, c56, cW, gOf_gRows, iOf_iRows, zf, plainL, plainCell, e2, eM]
              repeat' with_reducible refine And.intro ?_ ?_
              all_goals try (omega)
              all_goals try (first | omega | rfl | ((with_reducible refine drawGoal ?_); exact rfl) | (simp only [inR]; omega) | (intro y hy; simp only [List.mem_singleton] at hy; subst hy; rfl) | (intro y hy; cases hy; done) | (simp only [List.length_append, List.length_map, List.length_cons, List.length_nil]; omega) | (intro h; simp only [inR]; omega) | (intro h; simp only [List.length_append, List.length_map, List.length_cons, List.length_nil]; omega) | (intro h; exact h.elim))
              refine hq10n _ (hK9 _ ?_)
              refine PWp.rg [2, 3, 4, 7, 10, 11, 12, 13] orcV1_ok (mv := mv) (by decide) ?_
              simp only [pwr, mv, List.getD_nil, List.drop_nil, List.head?_nil, Int.natCast_zero, Int.reduceLT, Int.reduceSub, Int.reduceNeg, Int.reduceToNat, decide_false, decide_true, gt_iff_lt, Int.lt_irrefl, ne_eq, not_false_eq_true, not_true_eq_false, reduceIte, reduceCtorEq, Nat.reduceEqDiff, Nat.reduceAdd, Nat.reduceMul, Nat.reduceSub, Nat.reduceLT, Nat.reduceLeDiff, Nat.reduceBEq, if_true, if_false, implies_true, Option.isSome_none, Option.isSome_some, List.nil_append, List.cons_append, List.append_nil, List.map_cons, List.map_nil, List.toList_toArray, Option.getD_some, Option.getD_none, Option.map_some, Option.map_none, Option.bind_some, Option.bind_none, List.length_cons, List.length_nil, Bool.cond_true, Bool.cond_false, Array.toList_append, List.filterMap_cons, List.filterMap_nil, List.all_nil, List.all_cons, List.any_cons, List.any_nil, List.map_append, List.getElem?_toArray, List.getElem?_cons_zero, List.getElem?_cons_succ, Option.toArray_some, Option.toArray_none, List.contains_cons, List.contains_nil, List.head?_cons, List.drop_zero, List.drop_succ_cons, List.take_succ_cons, List.take_zero, List.set_cons_zero, List.set_cons_succ, List.length_map, List.getElem?_nil, orcV1, c34, c56, cW, gOf_gRows, iOf_iRows, zf, plainL, plainCell]
              repeat' with_reducible refine And.intro ?_ ?_
              all_goals try (first | omega | rfl | ((with_reducible refine drawGoal ?_); exact rfl) | (simp only [inR]; omega) | (intro y hy; simp only [List.mem_singleton] at hy; subst hy; rfl) | (intro y hy; cases hy; done) | (simp only [List.length_append, List.length_map, List.length_cons, List.length_nil]; omega) | (intro h; simp only [inR]; omega) | (intro h; simp only [List.length_append, List.length_map, List.length_cons, List.length_nil]; omega) | (intro h; exact h.elim))
              refine hJ2 _ ((n + 1, j, k)) ?_ ?_ ?_
              · exact ⟨.inr (by show n + 1 + 1 ≤ _; omega), hA2 j hjn hj, hB2 k hkn hk⟩
              · omega
              · repeat simp only [pwf, List.drop_zero, List.drop_succ_cons, List.take_succ_cons, List.take_zero, List.getElem?_cons_zero, List.getElem?_cons_succ, List.getElem?_nil, Nat.sub_self, reduceIte, reduceCtorEq, Nat.reduceEqDiff, Nat.reduceAdd, Nat.reduceMul, Nat.reduceSub, Nat.reduceLT, Nat.reduceLeDiff, Nat.reduceBEq, if_true, if_false, implies_true, Option.isSome_none, Option.isSome_some, List.nil_append, List.cons_append, List.append_nil, List.map_cons, List.map_nil, List.toList_toArray, Option.getD_some, Option.getD_none, Option.map_some, Option.map_none, Option.bind_some, Option.bind_none, List.length_cons, List.length_nil, Bool.cond_true, Bool.cond_false, Array.toList_append, List.contains_cons, List.contains_nil, zf, plainL, plainCell]
                rw [htf]
                simp [hHa, hHb, hb114, gRow]
            ·
             try (cases hb114; done)
             all_goals
              refine PWp.skip (hq10n _ (hK9 _ ?_))
              refine PWp.rg [2, 3, 4, 7, 10, 11, 12, 13] orcV1_ok (mv := mv) (by decide) ?_
              simp only [pwr, mv, List.getD_nil, List.drop_nil, List.head?_nil, Int.natCast_zero, Int.reduceLT, Int.reduceSub, Int.reduceNeg, Int.reduceToNat, decide_false, decide_true, gt_iff_lt, Int.lt_irrefl, ne_eq, not_false_eq_true, not_true_eq_false, reduceIte, reduceCtorEq, Nat.reduceEqDiff, Nat.reduceAdd, Nat.reduceMul, Nat.reduceSub, Nat.reduceLT, Nat.reduceLeDiff, Nat.reduceBEq, if_true, if_false, implies_true, Option.isSome_none, Option.isSome_some, List.nil_append, List.cons_append, List.append_nil, List.map_cons, List.map_nil, List.toList_toArray, Option.getD_some, Option.getD_none, Option.map_some, Option.map_none, Option.bind_some, Option.bind_none, List.length_cons, List.length_nil, Bool.cond_true, Bool.cond_false, Array.toList_append, List.filterMap_cons, List.filterMap_nil, List.all_nil, List.all_cons, List.any_cons, List.any_nil, List.map_append, List.getElem?_toArray, List.getElem?_cons_zero, List.getElem?_cons_succ, Option.toArray_some, Option.toArray_none, List.contains_cons, List.contains_nil, List.head?_cons, List.drop_zero, List.drop_succ_cons, List.take_succ_cons, List.take_zero, List.set_cons_zero, List.set_cons_succ, List.length_map, List.getElem?_nil, orcV1, c34, c56, cW, gOf_gRows, iOf_iRows, zf, plainL, plainCell]
              repeat' with_reducible refine And.intro ?_ ?_
              all_goals try (first | omega | rfl | ((with_reducible refine drawGoal ?_); exact rfl) | (simp only [inR]; omega) | (intro y hy; simp only [List.mem_singleton] at hy; subst hy; rfl) | (intro y hy; cases hy; done) | (simp only [List.length_append, List.length_map, List.length_cons, List.length_nil]; omega) | (intro h; simp only [inR]; omega) | (intro h; simp only [List.length_append, List.length_map, List.length_cons, List.length_nil]; omega) | (intro h; exact h.elim))
              refine hJ2 _ ((n + 1, j, k)) ?_ ?_ ?_
              · exact ⟨.inr (by show n + 1 + 1 ≤ _; omega), hA2 j hjn hj, hB2 k hkn hk⟩
              · omega
              · repeat simp only [pwf, List.drop_zero, List.drop_succ_cons, List.take_succ_cons, List.take_zero, List.getElem?_cons_zero, List.getElem?_cons_succ, List.getElem?_nil, Nat.sub_self, reduceIte, reduceCtorEq, Nat.reduceEqDiff, Nat.reduceAdd, Nat.reduceMul, Nat.reduceSub, Nat.reduceLT, Nat.reduceLeDiff, Nat.reduceBEq, if_true, if_false, implies_true, Option.isSome_none, Option.isSome_some, List.nil_append, List.cons_append, List.append_nil, List.map_cons, List.map_nil, List.toList_toArray, Option.getD_some, Option.getD_none, Option.map_some, Option.map_none, Option.bind_some, Option.bind_none, List.length_cons, List.length_nil, Bool.cond_true, Bool.cond_false, Array.toList_append, List.contains_cons, List.contains_nil, zf, plainL, plainCell]
                rw [htf]
                simp [hHa, hHb, hb114, gRow]
         ·
          have e4 := getD_gRows b k
          have hE : decide ((k : Int) < (b.length : Int)) = decide (k < b.length) := by simp
          simp only [hkb, dite_true, dite_false, decide_true, decide_false] at e4 hE
          refine PWp.seq_rg [2, 3, 4, 7, 10, 11, 12, 13, 14, 80] orcV1_ok (mv := mv) (by decide) fun K hK => ?_
          simp only [pwr, mv, List.getD_nil, List.drop_nil, List.head?_nil, Int.natCast_zero, Int.reduceLT, Int.reduceSub, Int.reduceNeg, Int.reduceToNat, decide_false, decide_true, gt_iff_lt, Int.lt_irrefl, ne_eq, not_false_eq_true, not_true_eq_false, reduceIte, reduceCtorEq, Nat.reduceEqDiff, Nat.reduceAdd, Nat.reduceMul, Nat.reduceSub, Nat.reduceLT, Nat.reduceLeDiff, Nat.reduceBEq, if_true, if_false, implies_true, Option.isSome_none, Option.isSome_some, List.nil_append, List.cons_append, List.append_nil, List.map_cons, List.map_nil, List.toList_toArray, Option.getD_some, Option.getD_none, Option.map_some, Option.map_none, Option.bind_some, Option.bind_none, List.length_cons, List.length_nil, Bool.cond_true, Bool.cond_false, Array.toList_append, List.filterMap_cons, List.filterMap_nil, List.all_nil, List.all_cons, List.any_cons, List.any_nil, List.map_append, List.getElem?_toArray, List.getElem?_cons_zero, List.getElem?_cons_succ, Option.toArray_some, Option.toArray_none, List.contains_cons, List.contains_nil, List.head?_cons, List.drop_zero, List.drop_succ_cons, List.take_succ_cons, List.take_zero, List.set_cons_zero, List.set_cons_succ, List.length_map, List.getElem?_nil, orcV1, c34, c56, cW, gOf_gRows, iOf_iRows, zf, plainL, plainCell, e4, hE]
          refine hK _ ?_
          clear hK K
          refine PWp.cond (by rfl) (fun hb80 => ?_) (fun hb80 => ?_)
          ·
           cases hb80
          ·
           try (cases hb80; done)
           all_goals
            refine PWp.exit (hq16x _ (hK15 _ ?_))
            have hHa := has_at hca hjn (fun h => by first | exact absurd h hja | (simp at hb63; omega))
            have hHb := has_at hcb hkn (fun h => by first | exact absurd h hkb | (simp at hb80; omega))
            simp only [hja, hkb, dite_true, dite_false] at hHa hHb
            refine PWp.seq_dr [2, 3, 4, 7, 10, 11, 12, 13, 14, 114] mixed orcV1_ok (mv := mv) (by decide) fun K hK => ?_
            simp only [pwr, mv, List.getD_nil, List.drop_nil, List.head?_nil, Int.natCast_zero, Int.reduceLT, Int.reduceSub, Int.reduceNeg, Int.reduceToNat, decide_false, decide_true, gt_iff_lt, Int.lt_irrefl, ne_eq, not_false_eq_true, not_true_eq_false, reduceIte, reduceCtorEq, Nat.reduceEqDiff, Nat.reduceAdd, Nat.reduceMul, Nat.reduceSub, Nat.reduceLT, Nat.reduceLeDiff, Nat.reduceBEq, if_true, if_false, implies_true, Option.isSome_none, Option.isSome_some, List.nil_append, List.cons_append, List.append_nil, List.map_cons, List.map_nil, List.toList_toArray, Option.getD_some, Option.getD_none, Option.map_some, Option.map_none, Option.bind_some, Option.bind_none, List.length_cons, List.length_nil, Bool.cond_true, Bool.cond_false, Array.toList_append, List.filterMap_cons, List.filterMap_nil, List.all_nil, List.all_cons, List.any_cons, List.any_nil, List.map_append, List.getElem?_toArray, List.getElem?_cons_zero, List.getElem?_cons_succ, Option.toArray_some, Option.toArray_none, List.contains_cons, List.contains_nil, List.head?_cons, List.drop_zero, List.drop_succ_cons, List.take_succ_cons, List.take_zero, List.set_cons_zero, List.set_cons_succ, List.length_map, List.getElem?_nil, orcV1, c34, c56, cW, gOf_gRows, iOf_iRows, zf, plainL, plainCell, e3, hD, e4, hE, hF45, hF55, hw, hm]
            repeat' with_reducible refine And.intro ?_ ?_
            all_goals try (first | omega | rfl | ((with_reducible refine drawGoal ?_); exact rfl) | (simp only [inR]; omega) | (intro y hy; simp only [List.mem_singleton] at hy; subst hy; rfl) | (intro y hy; cases hy; done) | (simp only [List.length_append, List.length_map, List.length_cons, List.length_nil]; omega) | (intro h; simp only [inR]; omega) | (intro h; simp only [List.length_append, List.length_map, List.length_cons, List.length_nil]; omega) | (intro h; exact h.elim))
            refine hK _ ?_
            clear hK K
            refine PWp.cond (by rfl) (fun hb114 => ?_) (fun hb114 => ?_)
            ·
             try (cases hb114; done)
             all_goals
              refine PWp.rg [2, 3, 4, 7, 10, 11, 12, 13] orcV1_ok (mv := mv) (by decide) ?_
              simp only [pwr, mv, List.getD_nil, List.drop_nil, List.head?_nil, Int.natCast_zero, Int.reduceLT, Int.reduceSub, Int.reduceNeg, Int.reduceToNat, decide_false, decide_true, gt_iff_lt, Int.lt_irrefl, ne_eq, not_false_eq_true, not_true_eq_false, reduceIte, reduceCtorEq, Nat.reduceEqDiff, Nat.reduceAdd, Nat.reduceMul, Nat.reduceSub, Nat.reduceLT, Nat.reduceLeDiff, Nat.reduceBEq, if_true, if_false, implies_true, Option.isSome_none, Option.isSome_some, List.nil_append, List.cons_append, List.append_nil, List.map_cons, List.map_nil, List.toList_toArray, Option.getD_some, Option.getD_none, Option.map_some, Option.map_none, Option.bind_some, Option.bind_none, List.length_cons, List.length_nil, Bool.cond_true, Bool.cond_false, Array.toList_append, List.filterMap_cons, List.filterMap_nil, List.all_nil, List.all_cons, List.any_cons, List.any_nil, List.map_append, List.getElem?_toArray, List.getElem?_cons_zero, List.getElem?_cons_succ, Option.toArray_some, Option.toArray_none, List.contains_cons, List.contains_nil, List.head?_cons, List.drop_zero, List.drop_succ_cons, List.take_succ_cons, List.take_zero, List.set_cons_zero, List.set_cons_succ, List.length_map, List.getElem?_nil, orcV1, c34, c56, cW, gOf_gRows, iOf_iRows, zf, plainL, plainCell, e2, eM]
              repeat' with_reducible refine And.intro ?_ ?_
              all_goals try (omega)
              all_goals try (first | omega | rfl | ((with_reducible refine drawGoal ?_); exact rfl) | (simp only [inR]; omega) | (intro y hy; simp only [List.mem_singleton] at hy; subst hy; rfl) | (intro y hy; cases hy; done) | (simp only [List.length_append, List.length_map, List.length_cons, List.length_nil]; omega) | (intro h; simp only [inR]; omega) | (intro h; simp only [List.length_append, List.length_map, List.length_cons, List.length_nil]; omega) | (intro h; exact h.elim))
              refine hq10n _ (hK9 _ ?_)
              refine PWp.rg [2, 3, 4, 7, 10, 11, 12, 13] orcV1_ok (mv := mv) (by decide) ?_
              simp only [pwr, mv, List.getD_nil, List.drop_nil, List.head?_nil, Int.natCast_zero, Int.reduceLT, Int.reduceSub, Int.reduceNeg, Int.reduceToNat, decide_false, decide_true, gt_iff_lt, Int.lt_irrefl, ne_eq, not_false_eq_true, not_true_eq_false, reduceIte, reduceCtorEq, Nat.reduceEqDiff, Nat.reduceAdd, Nat.reduceMul, Nat.reduceSub, Nat.reduceLT, Nat.reduceLeDiff, Nat.reduceBEq, if_true, if_false, implies_true, Option.isSome_none, Option.isSome_some, List.nil_append, List.cons_append, List.append_nil, List.map_cons, List.map_nil, List.toList_toArray, Option.getD_some, Option.getD_none, Option.map_some, Option.map_none, Option.bind_some, Option.bind_none, List.length_cons, List.length_nil, Bool.cond_true, Bool.cond_false, Array.toList_append, List.filterMap_cons, List.filterMap_nil, List.all_nil, List.all_cons, List.any_cons, List.any_nil, List.map_append, List.getElem?_toArray, List.getElem?_cons_zero, List.getElem?_cons_succ, Option.toArray_some, Option.toArray_none, List.contains_cons, List.contains_nil, List.head?_cons, List.drop_zero, List.drop_succ_cons, List.take_succ_cons, List.take_zero, List.set_cons_zero, List.set_cons_succ, List.length_map, List.getElem?_nil, orcV1, c34, c56, cW, gOf_gRows, iOf_iRows, zf, plainL, plainCell]
              repeat' with_reducible refine And.intro ?_ ?_
              all_goals try (first | omega | rfl | ((with_reducible refine drawGoal ?_); exact rfl) | (simp only [inR]; omega) | (intro y hy; simp only [List.mem_singleton] at hy; subst hy; rfl) | (intro y hy; cases hy; done) | (simp only [List.length_append, List.length_map, List.length_cons, List.length_nil]; omega) | (intro h; simp only [inR]; omega) | (intro h; simp only [List.length_append, List.length_map, List.length_cons, List.length_nil]; omega) | (intro h; exact h.elim))
              refine hJ2 _ ((n + 1, j, k)) ?_ ?_ ?_
              · exact ⟨.inr (by show n + 1 + 1 ≤ _; omega), hA2 j hjn hj, hB2 k hkn hk⟩
              · omega
              · repeat simp only [pwf, List.drop_zero, List.drop_succ_cons, List.take_succ_cons, List.take_zero, List.getElem?_cons_zero, List.getElem?_cons_succ, List.getElem?_nil, Nat.sub_self, reduceIte, reduceCtorEq, Nat.reduceEqDiff, Nat.reduceAdd, Nat.reduceMul, Nat.reduceSub, Nat.reduceLT, Nat.reduceLeDiff, Nat.reduceBEq, if_true, if_false, implies_true, Option.isSome_none, Option.isSome_some, List.nil_append, List.cons_append, List.append_nil, List.map_cons, List.map_nil, List.toList_toArray, Option.getD_some, Option.getD_none, Option.map_some, Option.map_none, Option.bind_some, Option.bind_none, List.length_cons, List.length_nil, Bool.cond_true, Bool.cond_false, Array.toList_append, List.contains_cons, List.contains_nil, zf, plainL, plainCell]
                rw [htf]
                simp [hHa, hHb, hb114, gRow]
            ·
             try (cases hb114; done)
             all_goals
              refine PWp.skip (hq10n _ (hK9 _ ?_))
              refine PWp.rg [2, 3, 4, 7, 10, 11, 12, 13] orcV1_ok (mv := mv) (by decide) ?_
              simp only [pwr, mv, List.getD_nil, List.drop_nil, List.head?_nil, Int.natCast_zero, Int.reduceLT, Int.reduceSub, Int.reduceNeg, Int.reduceToNat, decide_false, decide_true, gt_iff_lt, Int.lt_irrefl, ne_eq, not_false_eq_true, not_true_eq_false, reduceIte, reduceCtorEq, Nat.reduceEqDiff, Nat.reduceAdd, Nat.reduceMul, Nat.reduceSub, Nat.reduceLT, Nat.reduceLeDiff, Nat.reduceBEq, if_true, if_false, implies_true, Option.isSome_none, Option.isSome_some, List.nil_append, List.cons_append, List.append_nil, List.map_cons, List.map_nil, List.toList_toArray, Option.getD_some, Option.getD_none, Option.map_some, Option.map_none, Option.bind_some, Option.bind_none, List.length_cons, List.length_nil, Bool.cond_true, Bool.cond_false, Array.toList_append, List.filterMap_cons, List.filterMap_nil, List.all_nil, List.all_cons, List.any_cons, List.any_nil, List.map_append, List.getElem?_toArray, List.getElem?_cons_zero, List.getElem?_cons_succ, Option.toArray_some, Option.toArray_none, List.contains_cons, List.contains_nil, List.head?_cons, List.drop_zero, List.drop_succ_cons, List.take_succ_cons, List.take_zero, List.set_cons_zero, List.set_cons_succ, List.length_map, List.getElem?_nil, orcV1, c34, c56, cW, gOf_gRows, iOf_iRows, zf, plainL, plainCell]
              repeat' with_reducible refine And.intro ?_ ?_
              all_goals try (first | omega | rfl | ((with_reducible refine drawGoal ?_); exact rfl) | (simp only [inR]; omega) | (intro y hy; simp only [List.mem_singleton] at hy; subst hy; rfl) | (intro y hy; cases hy; done) | (simp only [List.length_append, List.length_map, List.length_cons, List.length_nil]; omega) | (intro h; simp only [inR]; omega) | (intro h; simp only [List.length_append, List.length_map, List.length_cons, List.length_nil]; omega) | (intro h; exact h.elim))
              refine hJ2 _ ((n + 1, j, k)) ?_ ?_ ?_
              · exact ⟨.inr (by show n + 1 + 1 ≤ _; omega), hA2 j hjn hj, hB2 k hkn hk⟩
              · omega
              · repeat simp only [pwf, List.drop_zero, List.drop_succ_cons, List.take_succ_cons, List.take_zero, List.getElem?_cons_zero, List.getElem?_cons_succ, List.getElem?_nil, Nat.sub_self, reduceIte, reduceCtorEq, Nat.reduceEqDiff, Nat.reduceAdd, Nat.reduceMul, Nat.reduceSub, Nat.reduceLT, Nat.reduceLeDiff, Nat.reduceBEq, if_true, if_false, implies_true, Option.isSome_none, Option.isSome_some, List.nil_append, List.cons_append, List.append_nil, List.map_cons, List.map_nil, List.toList_toArray, Option.getD_some, Option.getD_none, Option.map_some, Option.map_none, Option.bind_some, Option.bind_none, List.length_cons, List.length_nil, Bool.cond_true, Bool.cond_false, Array.toList_append, List.contains_cons, List.contains_nil, zf, plainL, plainCell]
                rw [htf]
                simp [hHa, hHb, hb114, gRow]
      ·
       have e3 := getD_gRows a j
       have hD : decide ((j : Int) < (a.length : Int)) = decide (j < a.length) := by simp
       simp only [hja, dite_true, dite_false, decide_true, decide_false] at e3 hD
       refine PWp.seq_rg [2, 3, 4, 7, 10, 11, 12, 13, 14, 63] orcV1_ok (mv := mv) (by decide) fun K hK => ?_
       simp only [pwr, mv, List.getD_nil, List.drop_nil, List.head?_nil, Int.natCast_zero, Int.reduceLT, Int.reduceSub, Int.reduceNeg, Int.reduceToNat, decide_false, decide_true, gt_iff_lt, Int.lt_irrefl, ne_eq, not_false_eq_true, not_true_eq_false, reduceIte, reduceCtorEq, Nat.reduceEqDiff, Nat.reduceAdd, Nat.reduceMul, Nat.reduceSub, Nat.reduceLT, Nat.reduceLeDiff, Nat.reduceBEq, if_true, if_false, implies_true, Option.isSome_none, Option.isSome_some, List.nil_append, List.cons_append, List.append_nil, List.map_cons, List.map_nil, List.toList_toArray, Option.getD_some, Option.getD_none, Option.map_some, Option.map_none, Option.bind_some, Option.bind_none, List.length_cons, List.length_nil, Bool.cond_true, Bool.cond_false, Array.toList_append, List.filterMap_cons, List.filterMap_nil, List.all_nil, List.all_cons, List.any_cons, List.any_nil, List.map_append, List.getElem?_toArray, List.getElem?_cons_zero, List.getElem?_cons_succ, Option.toArray_some, Option.toArray_none, List.contains_cons, List.contains_nil, List.head?_cons, List.drop_zero, List.drop_succ_cons, List.take_succ_cons, List.take_zero, List.set_cons_zero, List.set_cons_succ, List.length_map, List.getElem?_nil, orcV1, c34, c56, cW, gOf_gRows, iOf_iRows, zf, plainL, plainCell, e3, hD]
       refine hK _ ?_
       clear hK K
       refine PWp.cond (by rfl) (fun hb63 => ?_) (fun hb63 => ?_)
       ·
        cases hb63
       ·
        try (cases hb63; done)
        all_goals
         refine PWp.exit (hq12x _ (hK11 _ ?_))
         refine PWp.seq_k fun K21 hK21 => ?_
         refine PWp.block_k fun Qq22 hq22n hq22x hq22r hq22e => ?_
         refine PWp.loop_k (fun k : Nat => [(.S 2, .av (wC F)), (.S 3, .av (.ptr 1003 0 0)), (.S 4, .av (.ptr 1004 0 0)), (.S 7, .av (.pv (.sl (iRows c)))), (.S 10, .av (.rf (.RS 10 0) 0)), (.S 11, .av (.pv (.int .i64 j))), (.S 12, .av (.pv (.int .i64 k))), (.S 13, .av (.pv (.int .i64 n))), (.S 14, .av (.pv (.int .i64 av))), (.B 1003, .bx 0 [.pv (.sl (gRows a))]), (.B 1004, .bx 0 [.pv (.sl (gRows b))]), (.RS 10 0, .rw 0 true 41 (gRows (((pairsL c).take n).filter fun p => wf F (hasL a p.1) (hasL b p.1))))]) (fun k => k ≤ b.length ∧ ∀ r ∈ b.take k, r.2 ≤ av) (fun k => b.length - k) (k0) (⟨hB.1, hB1⟩) ?_ ?_
         · repeat simp only [pwf, List.drop_zero, List.drop_succ_cons, List.take_succ_cons, List.take_zero, List.getElem?_cons_zero, List.getElem?_cons_succ, List.getElem?_nil, Nat.sub_self, reduceIte, reduceCtorEq, Nat.reduceEqDiff, Nat.reduceAdd, Nat.reduceMul, Nat.reduceSub, Nat.reduceLT, Nat.reduceLeDiff, Nat.reduceBEq, if_true, if_false, implies_true, Option.isSome_none, Option.isSome_some, List.nil_append, List.cons_append, List.append_nil, List.map_cons, List.map_nil, List.toList_toArray, Option.getD_some, Option.getD_none, Option.map_some, Option.map_none, Option.bind_some, Option.bind_none, List.length_cons, List.length_nil, Bool.cond_true, Bool.cond_false, Array.toList_append, List.contains_cons, List.contains_nil, zf, plainL, plainCell]
           first | done | trivial | rfl | (simp; done)
         rintro k ⟨hk, hkn⟩ J4 hJ4
         refine PWp.seq_k fun K23 hK23 => ?_
         by_cases hkb : k < b.length
         ·
          have e4 := getD_gRows b k
          have hE : decide ((k : Int) < (b.length : Int)) = decide (k < b.length) := by simp
          simp only [hkb, dite_true, dite_false, decide_true, decide_false] at e4 hE
          refine PWp.seq_rg [2, 3, 4, 7, 10, 11, 12, 13, 14, 80] orcV1_ok (mv := mv) (by decide) fun K hK => ?_
          simp only [pwr, mv, List.getD_nil, List.drop_nil, List.head?_nil, Int.natCast_zero, Int.reduceLT, Int.reduceSub, Int.reduceNeg, Int.reduceToNat, decide_false, decide_true, gt_iff_lt, Int.lt_irrefl, ne_eq, not_false_eq_true, not_true_eq_false, reduceIte, reduceCtorEq, Nat.reduceEqDiff, Nat.reduceAdd, Nat.reduceMul, Nat.reduceSub, Nat.reduceLT, Nat.reduceLeDiff, Nat.reduceBEq, if_true, if_false, implies_true, Option.isSome_none, Option.isSome_some, List.nil_append, List.cons_append, List.append_nil, List.map_cons, List.map_nil, List.toList_toArray, Option.getD_some, Option.getD_none, Option.map_some, Option.map_none, Option.bind_some, Option.bind_none, List.length_cons, List.length_nil, Bool.cond_true, Bool.cond_false, Array.toList_append, List.filterMap_cons, List.filterMap_nil, List.all_nil, List.all_cons, List.any_cons, List.any_nil, List.map_append, List.getElem?_toArray, List.getElem?_cons_zero, List.getElem?_cons_succ, Option.toArray_some, Option.toArray_none, List.contains_cons, List.contains_nil, List.head?_cons, List.drop_zero, List.drop_succ_cons, List.take_succ_cons, List.take_zero, List.set_cons_zero, List.set_cons_succ, List.length_map, List.getElem?_nil, orcV1, c34, c56, cW, gOf_gRows, iOf_iRows, zf, plainL, plainCell, e4, hE]
          repeat' with_reducible refine And.intro ?_ ?_
          all_goals try (first | omega | rfl | ((with_reducible refine drawGoal ?_); exact rfl) | (simp only [inR]; omega) | (intro y hy; simp only [List.mem_singleton] at hy; subst hy; rfl) | (intro y hy; cases hy; done) | (simp only [List.length_append, List.length_map, List.length_cons, List.length_nil]; omega) | (intro h; simp only [inR]; omega) | (intro h; simp only [List.length_append, List.length_map, List.length_cons, List.length_nil]; omega) | (intro h; exact h.elim))
          refine hK _ ?_
          clear hK K
          refine PWp.cond (by rfl) (fun hb80 => ?_) (fun hb80 => ?_)
          ·
           try (cases hb80; done)
           all_goals
            refine PWp.skip (hK23 _ ?_)
            refine PWp.block_k fun Qq24 hq24n hq24x hq24r hq24e => ?_
            refine PWp.rg [2, 3, 4, 7, 10, 11, 12, 13, 14] orcV1_ok (mv := mv) (by decide) ?_
            simp only [pwr, mv, List.getD_nil, List.drop_nil, List.head?_nil, Int.natCast_zero, Int.reduceLT, Int.reduceSub, Int.reduceNeg, Int.reduceToNat, decide_false, decide_true, gt_iff_lt, Int.lt_irrefl, ne_eq, not_false_eq_true, not_true_eq_false, reduceIte, reduceCtorEq, Nat.reduceEqDiff, Nat.reduceAdd, Nat.reduceMul, Nat.reduceSub, Nat.reduceLT, Nat.reduceLeDiff, Nat.reduceBEq, if_true, if_false, implies_true, Option.isSome_none, Option.isSome_some, List.nil_append, List.cons_append, List.append_nil, List.map_cons, List.map_nil, List.toList_toArray, Option.getD_some, Option.getD_none, Option.map_some, Option.map_none, Option.bind_some, Option.bind_none, List.length_cons, List.length_nil, Bool.cond_true, Bool.cond_false, Array.toList_append, List.filterMap_cons, List.filterMap_nil, List.all_nil, List.all_cons, List.any_cons, List.any_nil, List.map_append, List.getElem?_toArray, List.getElem?_cons_zero, List.getElem?_cons_succ, Option.toArray_some, Option.toArray_none, List.contains_cons, List.contains_nil, List.head?_cons, List.drop_zero, List.drop_succ_cons, List.take_succ_cons, List.take_zero, List.set_cons_zero, List.set_cons_succ, List.length_map, List.getElem?_nil, orcV1, c34, c56, cW, gOf_gRows, iOf_iRows, zf, plainL, plainCell]
            repeat' with_reducible refine And.intro ?_ ?_
            all_goals try (first | omega | rfl | ((with_reducible refine drawGoal ?_); exact rfl) | (simp only [inR]; omega) | (intro y hy; simp only [List.mem_singleton] at hy; subst hy; rfl) | (intro y hy; cases hy; done) | (simp only [List.length_append, List.length_map, List.length_cons, List.length_nil]; omega) | (intro h; simp only [inR]; omega) | (intro h; simp only [List.length_append, List.length_map, List.length_cons, List.length_nil]; omega) | (intro h; exact h.elim))
            refine hq24n _ (hJ4 _ (k + 1) ?_ ?_ ?_)
            · exact ⟨by omega, take_le hkb hkn (by simpa using hb80)⟩
            · omega
            · repeat simp only [pwf, List.drop_zero, List.drop_succ_cons, List.take_succ_cons, List.take_zero, List.getElem?_cons_zero, List.getElem?_cons_succ, List.getElem?_nil, Nat.sub_self, reduceIte, reduceCtorEq, Nat.reduceEqDiff, Nat.reduceAdd, Nat.reduceMul, Nat.reduceSub, Nat.reduceLT, Nat.reduceLeDiff, Nat.reduceBEq, if_true, if_false, implies_true, Option.isSome_none, Option.isSome_some, List.nil_append, List.cons_append, List.append_nil, List.map_cons, List.map_nil, List.toList_toArray, Option.getD_some, Option.getD_none, Option.map_some, Option.map_none, Option.bind_some, Option.bind_none, List.length_cons, List.length_nil, Bool.cond_true, Bool.cond_false, Array.toList_append, List.contains_cons, List.contains_nil, zf, plainL, plainCell]
              simp
          ·
           try (cases hb80; done)
           all_goals
            refine PWp.exit (hq22x _ (hK21 _ ?_))
            have hHa := has_at hca hjn (fun h => by first | exact absurd h hja | (simp at hb63; omega))
            have hHb := has_at hcb hkn (fun h => by first | exact absurd h hkb | (simp at hb80; omega))
            simp only [hja, hkb, dite_true, dite_false] at hHa hHb
            refine PWp.seq_dr [2, 3, 4, 7, 10, 11, 12, 13, 14, 114] mixed orcV1_ok (mv := mv) (by decide) fun K hK => ?_
            simp only [pwr, mv, List.getD_nil, List.drop_nil, List.head?_nil, Int.natCast_zero, Int.reduceLT, Int.reduceSub, Int.reduceNeg, Int.reduceToNat, decide_false, decide_true, gt_iff_lt, Int.lt_irrefl, ne_eq, not_false_eq_true, not_true_eq_false, reduceIte, reduceCtorEq, Nat.reduceEqDiff, Nat.reduceAdd, Nat.reduceMul, Nat.reduceSub, Nat.reduceLT, Nat.reduceLeDiff, Nat.reduceBEq, if_true, if_false, implies_true, Option.isSome_none, Option.isSome_some, List.nil_append, List.cons_append, List.append_nil, List.map_cons, List.map_nil, List.toList_toArray, Option.getD_some, Option.getD_none, Option.map_some, Option.map_none, Option.bind_some, Option.bind_none, List.length_cons, List.length_nil, Bool.cond_true, Bool.cond_false, Array.toList_append, List.filterMap_cons, List.filterMap_nil, List.all_nil, List.all_cons, List.any_cons, List.any_nil, List.map_append, List.getElem?_toArray, List.getElem?_cons_zero, List.getElem?_cons_succ, Option.toArray_some, Option.toArray_none, List.contains_cons, List.contains_nil, List.head?_cons, List.drop_zero, List.drop_succ_cons, List.take_succ_cons, List.take_zero, List.set_cons_zero, List.set_cons_succ, List.length_map, List.getElem?_nil, orcV1, c34, c56, cW, gOf_gRows, iOf_iRows, zf, plainL, plainCell, e3, hD, e4, hE, hF45, hF55, hw, hm]
            repeat' with_reducible refine And.intro ?_ ?_
            all_goals try (first | omega | rfl | ((with_reducible refine drawGoal ?_); exact rfl) | (simp only [inR]; omega) | (intro y hy; simp only [List.mem_singleton] at hy; subst hy; rfl) | (intro y hy; cases hy; done) | (simp only [List.length_append, List.length_map, List.length_cons, List.length_nil]; omega) | (intro h; simp only [inR]; omega) | (intro h; simp only [List.length_append, List.length_map, List.length_cons, List.length_nil]; omega) | (intro h; exact h.elim))
            refine hK _ ?_
            clear hK K
            refine PWp.cond (by rfl) (fun hb114 => ?_) (fun hb114 => ?_)
            ·
             try (cases hb114; done)
             all_goals
              refine PWp.rg [2, 3, 4, 7, 10, 11, 12, 13] orcV1_ok (mv := mv) (by decide) ?_
              simp only [pwr, mv, List.getD_nil, List.drop_nil, List.head?_nil, Int.natCast_zero, Int.reduceLT, Int.reduceSub, Int.reduceNeg, Int.reduceToNat, decide_false, decide_true, gt_iff_lt, Int.lt_irrefl, ne_eq, not_false_eq_true, not_true_eq_false, reduceIte, reduceCtorEq, Nat.reduceEqDiff, Nat.reduceAdd, Nat.reduceMul, Nat.reduceSub, Nat.reduceLT, Nat.reduceLeDiff, Nat.reduceBEq, if_true, if_false, implies_true, Option.isSome_none, Option.isSome_some, List.nil_append, List.cons_append, List.append_nil, List.map_cons, List.map_nil, List.toList_toArray, Option.getD_some, Option.getD_none, Option.map_some, Option.map_none, Option.bind_some, Option.bind_none, List.length_cons, List.length_nil, Bool.cond_true, Bool.cond_false, Array.toList_append, List.filterMap_cons, List.filterMap_nil, List.all_nil, List.all_cons, List.any_cons, List.any_nil, List.map_append, List.getElem?_toArray, List.getElem?_cons_zero, List.getElem?_cons_succ, Option.toArray_some, Option.toArray_none, List.contains_cons, List.contains_nil, List.head?_cons, List.drop_zero, List.drop_succ_cons, List.take_succ_cons, List.take_zero, List.set_cons_zero, List.set_cons_succ, List.length_map, List.getElem?_nil, orcV1, c34, c56, cW, gOf_gRows, iOf_iRows, zf, plainL, plainCell, e2, eM]
              repeat' with_reducible refine And.intro ?_ ?_
              all_goals try (omega)
              all_goals try (first | omega | rfl | ((with_reducible refine drawGoal ?_); exact rfl) | (simp only [inR]; omega) | (intro y hy; simp only [List.mem_singleton] at hy; subst hy; rfl) | (intro y hy; cases hy; done) | (simp only [List.length_append, List.length_map, List.length_cons, List.length_nil]; omega) | (intro h; simp only [inR]; omega) | (intro h; simp only [List.length_append, List.length_map, List.length_cons, List.length_nil]; omega) | (intro h; exact h.elim))
              refine hq10n _ (hK9 _ ?_)
              refine PWp.rg [2, 3, 4, 7, 10, 11, 12, 13] orcV1_ok (mv := mv) (by decide) ?_
              simp only [pwr, mv, List.getD_nil, List.drop_nil, List.head?_nil, Int.natCast_zero, Int.reduceLT, Int.reduceSub, Int.reduceNeg, Int.reduceToNat, decide_false, decide_true, gt_iff_lt, Int.lt_irrefl, ne_eq, not_false_eq_true, not_true_eq_false, reduceIte, reduceCtorEq, Nat.reduceEqDiff, Nat.reduceAdd, Nat.reduceMul, Nat.reduceSub, Nat.reduceLT, Nat.reduceLeDiff, Nat.reduceBEq, if_true, if_false, implies_true, Option.isSome_none, Option.isSome_some, List.nil_append, List.cons_append, List.append_nil, List.map_cons, List.map_nil, List.toList_toArray, Option.getD_some, Option.getD_none, Option.map_some, Option.map_none, Option.bind_some, Option.bind_none, List.length_cons, List.length_nil, Bool.cond_true, Bool.cond_false, Array.toList_append, List.filterMap_cons, List.filterMap_nil, List.all_nil, List.all_cons, List.any_cons, List.any_nil, List.map_append, List.getElem?_toArray, List.getElem?_cons_zero, List.getElem?_cons_succ, Option.toArray_some, Option.toArray_none, List.contains_cons, List.contains_nil, List.head?_cons, List.drop_zero, List.drop_succ_cons, List.take_succ_cons, List.take_zero, List.set_cons_zero, List.set_cons_succ, List.length_map, List.getElem?_nil, orcV1, c34, c56, cW, gOf_gRows, iOf_iRows, zf, plainL, plainCell]
              repeat' with_reducible refine And.intro ?_ ?_
              all_goals try (first | omega | rfl | ((with_reducible refine drawGoal ?_); exact rfl) | (simp only [inR]; omega) | (intro y hy; simp only [List.mem_singleton] at hy; subst hy; rfl) | (intro y hy; cases hy; done) | (simp only [List.length_append, List.length_map, List.length_cons, List.length_nil]; omega) | (intro h; simp only [inR]; omega) | (intro h; simp only [List.length_append, List.length_map, List.length_cons, List.length_nil]; omega) | (intro h; exact h.elim))
              refine hJ2 _ ((n + 1, j, k)) ?_ ?_ ?_
              · exact ⟨.inr (by show n + 1 + 1 ≤ _; omega), hA2 j hjn hj, hB2 k hkn hk⟩
              · omega
              · repeat simp only [pwf, List.drop_zero, List.drop_succ_cons, List.take_succ_cons, List.take_zero, List.getElem?_cons_zero, List.getElem?_cons_succ, List.getElem?_nil, Nat.sub_self, reduceIte, reduceCtorEq, Nat.reduceEqDiff, Nat.reduceAdd, Nat.reduceMul, Nat.reduceSub, Nat.reduceLT, Nat.reduceLeDiff, Nat.reduceBEq, if_true, if_false, implies_true, Option.isSome_none, Option.isSome_some, List.nil_append, List.cons_append, List.append_nil, List.map_cons, List.map_nil, List.toList_toArray, Option.getD_some, Option.getD_none, Option.map_some, Option.map_none, Option.bind_some, Option.bind_none, List.length_cons, List.length_nil, Bool.cond_true, Bool.cond_false, Array.toList_append, List.contains_cons, List.contains_nil, zf, plainL, plainCell]
                rw [htf]
                simp [hHa, hHb, hb114, gRow]
            ·
             try (cases hb114; done)
             all_goals
              refine PWp.skip (hq10n _ (hK9 _ ?_))
              refine PWp.rg [2, 3, 4, 7, 10, 11, 12, 13] orcV1_ok (mv := mv) (by decide) ?_
              simp only [pwr, mv, List.getD_nil, List.drop_nil, List.head?_nil, Int.natCast_zero, Int.reduceLT, Int.reduceSub, Int.reduceNeg, Int.reduceToNat, decide_false, decide_true, gt_iff_lt, Int.lt_irrefl, ne_eq, not_false_eq_true, not_true_eq_false, reduceIte, reduceCtorEq, Nat.reduceEqDiff, Nat.reduceAdd, Nat.reduceMul, Nat.reduceSub, Nat.reduceLT, Nat.reduceLeDiff, Nat.reduceBEq, if_true, if_false, implies_true, Option.isSome_none, Option.isSome_some, List.nil_append, List.cons_append, List.append_nil, List.map_cons, List.map_nil, List.toList_toArray, Option.getD_some, Option.getD_none, Option.map_some, Option.map_none, Option.bind_some, Option.bind_none, List.length_cons, List.length_nil, Bool.cond_true, Bool.cond_false, Array.toList_append, List.filterMap_cons, List.filterMap_nil, List.all_nil, List.all_cons, List.any_cons, List.any_nil, List.map_append, List.getElem?_toArray, List.getElem?_cons_zero, List.getElem?_cons_succ, Option.toArray_some, Option.toArray_none, List.contains_cons, List.contains_nil, List.head?_cons, List.drop_zero, List.drop_succ_cons, List.take_succ_cons, List.take_zero, List.set_cons_zero, List.set_cons_succ, List.length_map, List.getElem?_nil, orcV1, c34, c56, cW, gOf_gRows, iOf_iRows, zf, plainL, plainCell]
              repeat' with_reducible refine And.intro ?_ ?_
              all_goals try (first | omega | rfl | ((with_reducible refine drawGoal ?_); exact rfl) | (simp only [inR]; omega) | (intro y hy; simp only [List.mem_singleton] at hy; subst hy; rfl) | (intro y hy; cases hy; done) | (simp only [List.length_append, List.length_map, List.length_cons, List.length_nil]; omega) | (intro h; simp only [inR]; omega) | (intro h; simp only [List.length_append, List.length_map, List.length_cons, List.length_nil]; omega) | (intro h; exact h.elim))
              refine hJ2 _ ((n + 1, j, k)) ?_ ?_ ?_
              · exact ⟨.inr (by show n + 1 + 1 ≤ _; omega), hA2 j hjn hj, hB2 k hkn hk⟩
              · omega
              · repeat simp only [pwf, List.drop_zero, List.drop_succ_cons, List.take_succ_cons, List.take_zero, List.getElem?_cons_zero, List.getElem?_cons_succ, List.getElem?_nil, Nat.sub_self, reduceIte, reduceCtorEq, Nat.reduceEqDiff, Nat.reduceAdd, Nat.reduceMul, Nat.reduceSub, Nat.reduceLT, Nat.reduceLeDiff, Nat.reduceBEq, if_true, if_false, implies_true, Option.isSome_none, Option.isSome_some, List.nil_append, List.cons_append, List.append_nil, List.map_cons, List.map_nil, List.toList_toArray, Option.getD_some, Option.getD_none, Option.map_some, Option.map_none, Option.bind_some, Option.bind_none, List.length_cons, List.length_nil, Bool.cond_true, Bool.cond_false, Array.toList_append, List.contains_cons, List.contains_nil, zf, plainL, plainCell]
                rw [htf]
                simp [hHa, hHb, hb114, gRow]
         ·
          have e4 := getD_gRows b k
          have hE : decide ((k : Int) < (b.length : Int)) = decide (k < b.length) := by simp
          simp only [hkb, dite_true, dite_false, decide_true, decide_false] at e4 hE
          refine PWp.seq_rg [2, 3, 4, 7, 10, 11, 12, 13, 14, 80] orcV1_ok (mv := mv) (by decide) fun K hK => ?_
          simp only [pwr, mv, List.getD_nil, List.drop_nil, List.head?_nil, Int.natCast_zero, Int.reduceLT, Int.reduceSub, Int.reduceNeg, Int.reduceToNat, decide_false, decide_true, gt_iff_lt, Int.lt_irrefl, ne_eq, not_false_eq_true, not_true_eq_false, reduceIte, reduceCtorEq, Nat.reduceEqDiff, Nat.reduceAdd, Nat.reduceMul, Nat.reduceSub, Nat.reduceLT, Nat.reduceLeDiff, Nat.reduceBEq, if_true, if_false, implies_true, Option.isSome_none, Option.isSome_some, List.nil_append, List.cons_append, List.append_nil, List.map_cons, List.map_nil, List.toList_toArray, Option.getD_some, Option.getD_none, Option.map_some, Option.map_none, Option.bind_some, Option.bind_none, List.length_cons, List.length_nil, Bool.cond_true, Bool.cond_false, Array.toList_append, List.filterMap_cons, List.filterMap_nil, List.all_nil, List.all_cons, List.any_cons, List.any_nil, List.map_append, List.getElem?_toArray, List.getElem?_cons_zero, List.getElem?_cons_succ, Option.toArray_some, Option.toArray_none, List.contains_cons, List.contains_nil, List.head?_cons, List.drop_zero, List.drop_succ_cons, List.take_succ_cons, List.take_zero, List.set_cons_zero, List.set_cons_succ, List.length_map, List.getElem?_nil, orcV1, c34, c56, cW, gOf_gRows, iOf_iRows, zf, plainL, plainCell, e4, hE]
          refine hK _ ?_
          clear hK K
          refine PWp.cond (by rfl) (fun hb80 => ?_) (fun hb80 => ?_)
          ·
           cases hb80
          ·
           try (cases hb80; done)
           all_goals
            refine PWp.exit (hq22x _ (hK21 _ ?_))
            have hHa := has_at hca hjn (fun h => by first | exact absurd h hja | (simp at hb63; omega))
            have hHb := has_at hcb hkn (fun h => by first | exact absurd h hkb | (simp at hb80; omega))
            simp only [hja, hkb, dite_true, dite_false] at hHa hHb
            refine PWp.seq_dr [2, 3, 4, 7, 10, 11, 12, 13, 14, 114] mixed orcV1_ok (mv := mv) (by decide) fun K hK => ?_
            simp only [pwr, mv, List.getD_nil, List.drop_nil, List.head?_nil, Int.natCast_zero, Int.reduceLT, Int.reduceSub, Int.reduceNeg, Int.reduceToNat, decide_false, decide_true, gt_iff_lt, Int.lt_irrefl, ne_eq, not_false_eq_true, not_true_eq_false, reduceIte, reduceCtorEq, Nat.reduceEqDiff, Nat.reduceAdd, Nat.reduceMul, Nat.reduceSub, Nat.reduceLT, Nat.reduceLeDiff, Nat.reduceBEq, if_true, if_false, implies_true, Option.isSome_none, Option.isSome_some, List.nil_append, List.cons_append, List.append_nil, List.map_cons, List.map_nil, List.toList_toArray, Option.getD_some, Option.getD_none, Option.map_some, Option.map_none, Option.bind_some, Option.bind_none, List.length_cons, List.length_nil, Bool.cond_true, Bool.cond_false, Array.toList_append, List.filterMap_cons, List.filterMap_nil, List.all_nil, List.all_cons, List.any_cons, List.any_nil, List.map_append, List.getElem?_toArray, List.getElem?_cons_zero, List.getElem?_cons_succ, Option.toArray_some, Option.toArray_none, List.contains_cons, List.contains_nil, List.head?_cons, List.drop_zero, List.drop_succ_cons, List.take_succ_cons, List.take_zero, List.set_cons_zero, List.set_cons_succ, List.length_map, List.getElem?_nil, orcV1, c34, c56, cW, gOf_gRows, iOf_iRows, zf, plainL, plainCell, e3, hD, e4, hE, hF45, hF55, hw, hm]
            repeat' with_reducible refine And.intro ?_ ?_
            all_goals try (first | omega | rfl | ((with_reducible refine drawGoal ?_); exact rfl) | (simp only [inR]; omega) | (intro y hy; simp only [List.mem_singleton] at hy; subst hy; rfl) | (intro y hy; cases hy; done) | (simp only [List.length_append, List.length_map, List.length_cons, List.length_nil]; omega) | (intro h; simp only [inR]; omega) | (intro h; simp only [List.length_append, List.length_map, List.length_cons, List.length_nil]; omega) | (intro h; exact h.elim))
            refine hK _ ?_
            clear hK K
            refine PWp.cond (by rfl) (fun hb114 => ?_) (fun hb114 => ?_)
            ·
             cases hb114
            ·
             try (cases hb114; done)
             all_goals
              refine PWp.skip (hq10n _ (hK9 _ ?_))
              refine PWp.rg [2, 3, 4, 7, 10, 11, 12, 13] orcV1_ok (mv := mv) (by decide) ?_
              simp only [pwr, mv, List.getD_nil, List.drop_nil, List.head?_nil, Int.natCast_zero, Int.reduceLT, Int.reduceSub, Int.reduceNeg, Int.reduceToNat, decide_false, decide_true, gt_iff_lt, Int.lt_irrefl, ne_eq, not_false_eq_true, not_true_eq_false, reduceIte, reduceCtorEq, Nat.reduceEqDiff, Nat.reduceAdd, Nat.reduceMul, Nat.reduceSub, Nat.reduceLT, Nat.reduceLeDiff, Nat.reduceBEq, if_true, if_false, implies_true, Option.isSome_none, Option.isSome_some, List.nil_append, List.cons_append, List.append_nil, List.map_cons, List.map_nil, List.toList_toArray, Option.getD_some, Option.getD_none, Option.map_some, Option.map_none, Option.bind_some, Option.bind_none, List.length_cons, List.length_nil, Bool.cond_true, Bool.cond_false, Array.toList_append, List.filterMap_cons, List.filterMap_nil, List.all_nil, List.all_cons, List.any_cons, List.any_nil, List.map_append, List.getElem?_toArray, List.getElem?_cons_zero, List.getElem?_cons_succ, Option.toArray_some, Option.toArray_none, List.contains_cons, List.contains_nil, List.head?_cons, List.drop_zero, List.drop_succ_cons, List.take_succ_cons, List.take_zero, List.set_cons_zero, List.set_cons_succ, List.length_map, List.getElem?_nil, orcV1, c34, c56, cW, gOf_gRows, iOf_iRows, zf, plainL, plainCell]
              repeat' with_reducible refine And.intro ?_ ?_
              all_goals try (first | omega | rfl | ((with_reducible refine drawGoal ?_); exact rfl) | (simp only [inR]; omega) | (intro y hy; simp only [List.mem_singleton] at hy; subst hy; rfl) | (intro y hy; cases hy; done) | (simp only [List.length_append, List.length_map, List.length_cons, List.length_nil]; omega) | (intro h; simp only [inR]; omega) | (intro h; simp only [List.length_append, List.length_map, List.length_cons, List.length_nil]; omega) | (intro h; exact h.elim))
              refine hJ2 _ ((n + 1, j, k)) ?_ ?_ ?_
              · exact ⟨.inr (by show n + 1 + 1 ≤ _; omega), hA2 j hjn hj, hB2 k hkn hk⟩
              · omega
              · repeat simp only [pwf, List.drop_zero, List.drop_succ_cons, List.take_succ_cons, List.take_zero, List.getElem?_cons_zero, List.getElem?_cons_succ, List.getElem?_nil, Nat.sub_self, reduceIte, reduceCtorEq, Nat.reduceEqDiff, Nat.reduceAdd, Nat.reduceMul, Nat.reduceSub, Nat.reduceLT, Nat.reduceLeDiff, Nat.reduceBEq, if_true, if_false, implies_true, Option.isSome_none, Option.isSome_some, List.nil_append, List.cons_append, List.append_nil, List.map_cons, List.map_nil, List.toList_toArray, Option.getD_some, Option.getD_none, Option.map_some, Option.map_none, Option.bind_some, Option.bind_none, List.length_cons, List.length_nil, Bool.cond_true, Bool.cond_false, Array.toList_append, List.contains_cons, List.contains_nil, zf, plainL, plainCell]
                rw [htf]
                simp [hHa, hHb, hb114, gRow]
    ·
     try (cases hb42; done)
     all_goals
      refine PWp.exit (hq7x _ (hK6 _ ?_))
      refine PWp.seq_rg [6] orcV1_ok (mv := mv) (by decide) fun K hK => ?_
      simp only [pwr, mv, List.getD_nil, List.drop_nil, List.head?_nil, Int.natCast_zero, Int.reduceLT, Int.reduceSub, Int.reduceNeg, Int.reduceToNat, decide_false, decide_true, gt_iff_lt, Int.lt_irrefl, ne_eq, not_false_eq_true, not_true_eq_false, reduceIte, reduceCtorEq, Nat.reduceEqDiff, Nat.reduceAdd, Nat.reduceMul, Nat.reduceSub, Nat.reduceLT, Nat.reduceLeDiff, Nat.reduceBEq, if_true, if_false, implies_true, Option.isSome_none, Option.isSome_some, List.nil_append, List.cons_append, List.append_nil, List.map_cons, List.map_nil, List.toList_toArray, Option.getD_some, Option.getD_none, Option.map_some, Option.map_none, Option.bind_some, Option.bind_none, List.length_cons, List.length_nil, Bool.cond_true, Bool.cond_false, Array.toList_append, List.filterMap_cons, List.filterMap_nil, List.all_nil, List.all_cons, List.any_cons, List.any_nil, List.map_append, List.getElem?_toArray, List.getElem?_cons_zero, List.getElem?_cons_succ, Option.toArray_some, Option.toArray_none, List.contains_cons, List.contains_nil, List.head?_cons, List.drop_zero, List.drop_succ_cons, List.take_succ_cons, List.take_zero, List.set_cons_zero, List.set_cons_succ, List.length_map, List.getElem?_nil, orcV1, c34, c56, cW, gOf_gRows, iOf_iRows, zf, plainL, plainCell]
      refine hK _ ?_
      clear hK K
      refine PWp.ret (hQ2 _ ?_)
      simp only [pwf, List.drop_zero, List.drop_succ_cons, List.take_succ_cons, List.take_zero, List.getElem?_cons_zero, List.getElem?_cons_succ, List.getElem?_nil, Nat.sub_self, reduceIte, reduceCtorEq, Nat.reduceEqDiff, Nat.reduceAdd, Nat.reduceMul, Nat.reduceSub, Nat.reduceLT, Nat.reduceLeDiff, Nat.reduceBEq, if_true, if_false, implies_true, Option.isSome_none, Option.isSome_some, List.nil_append, List.cons_append, List.append_nil, List.map_cons, List.map_nil, List.toList_toArray, Option.getD_some, Option.getD_none, Option.map_some, Option.map_none, Option.bind_some, Option.bind_none, List.length_cons, List.length_nil, Bool.cond_true, Bool.cond_false, Array.toList_append, List.contains_cons, List.contains_nil, zf, plainL, plainCell, Tryz.results40]
      repeat simp only [pwf, List.drop_zero, List.drop_succ_cons, List.take_succ_cons, List.take_zero, List.getElem?_cons_zero, List.getElem?_cons_succ, List.getElem?_nil, Nat.sub_self, reduceIte, reduceCtorEq, Nat.reduceEqDiff, Nat.reduceAdd, Nat.reduceMul, Nat.reduceSub, Nat.reduceLT, Nat.reduceLeDiff, Nat.reduceBEq, if_true, if_false, implies_true, Option.isSome_none, Option.isSome_some, List.nil_append, List.cons_append, List.append_nil, List.map_cons, List.map_nil, List.toList_toArray, Option.getD_some, Option.getD_none, Option.map_some, Option.map_none, Option.bind_some, Option.bind_none, List.length_cons, List.length_nil, Bool.cond_true, Bool.cond_false, Array.toList_append, List.contains_cons, List.contains_nil, zf, plainL, plainCell]
      have htl : ((pairsL c).take n).filter (fun p => wf F (hasL a p.1) (hasL b p.1)) = combL (wf F) a b := by
        rw [hcm, List.take_of_length_le]
        rw [pairsL_len]
        have := of_decide_eq_false hb42
        omega
      rw [htl]
end Go.Pw.G7
