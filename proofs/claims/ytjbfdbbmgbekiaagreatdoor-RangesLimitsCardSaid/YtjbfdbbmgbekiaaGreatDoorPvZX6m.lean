/- Ranges: the statement on limits. -/
import Derived.Test.YtjbfdbbmgbekiaaGreatDoorPvZVm
import Derived.Test.YtjbfdbbmgbekiaaGreatDoorPvZX4m
set_option linter.unusedSimpArgs false
set_option linter.unusedVariables false
set_option linter.unusedSectionVars false
set_option maxHeartbeats 4000000
set_option maxRecDepth 20000
namespace Go.Pw.G7
open Go.Proofs Go.Pw
def sing (b : Int) (i : Nat) : List G := (List.range i).map fun j : Nat => (b + 2 * (j : Int), b + 2 * (j : Int) + 1)
theorem sing_succ (b : Int) (i : Nat) : sing b (i + 1) = sing b i ++ [(b + 2 * (i : Int), b + 2 * (i : Int) + 1)] := by simp [sing, List.range_succ]
theorem sing_len (b : Int) (i : Nat) : (sing b i).length = i := by simp [sing]
theorem sing_mem {b : Int} {i : Nat} {g : G} (h : g ∈ sing b i) : ∃ j : Nat, j < i ∧ g = (b + 2 * (j : Int), b + 2 * (j : Int) + 1) := by
  obtain ⟨j, hj, rfl⟩ := List.mem_map.1 h
  exact ⟨j, by simpa using hj, rfl⟩
theorem sing_canon (b : Int) : ∀ i : Nat, Canon (sing b i)
  | 0 => ⟨by simp [sing], by simp [sing]⟩
  | i + 1 => by
    obtain ⟨h1, h2⟩ := sing_canon b i
    rw [sing_succ]
    refine ⟨List.pairwise_append.2 ⟨h1, by simp, fun x hx y hy => ?_⟩, fun r hr => ?_⟩
    · obtain ⟨j, hj, rfl⟩ := sing_mem hx
      simp at hy; subst hy
      show b + 2 * (j : Int) + 1 < b + 2 * (i : Int)
      omega
    · rcases List.mem_append.1 hr with k | k
      · exact h2 r k
      · simp at k; subst k
        show b + 2 * (i : Int) < b + 2 * (i : Int) + 1
        omega
theorem sing_ok {b : Int} (h0 : 0 ≤ b) (h1 : b ≤ 10000) {i : Nat} (hi : i ≤ 1100) : okL (sing b i) := by
  refine ⟨by rw [sing_len]; omega, fun g hg => ?_⟩
  obtain ⟨j, hj, rfl⟩ := sing_mem hg
  simp only
  omega
theorem ofG_sing {b : Int} (h0 : 0 ≤ b) (h1 : b ≤ 10000) {i : Nat} (hi : i ≤ 1100) : ofG (sing b i) = if 1024 < i then ([], 9) else (sing b i, 0) := by
  have hv : (sing b i).any (fun g => !validG g) = false := by
    rw [List.any_eq_false]
    intro g hg
    obtain ⟨j, hj, rfl⟩ := sing_mem hg
    simp only [validG, Bool.not_eq_true', Bool.not_eq_false, Bool.and_eq_true, decide_eq_true_eq]
    omega
  have hm : mjoin (insS (sing b i)) = sing b i := (ofL_canon _).1.ext (sing_canon b i) (ofL_canon _).2
  unfold ofG made
  rw [if_neg (by simp [hv]), hm, sing_len]
theorem parse_many : ∀ (l acc : List G) (after at_ : Int), Canon l → (∀ g ∈ l, 0 ≤ g.1 ∧ g.2 ≤ 1099511627776 ∧ after < g.1) → acc.length ≤ 1024 → 1024 < acc.length + l.length → (parseW (l.map wordL) acc after at_).1 = [] ∧ (parseW (l.map wordL) acc after at_).2.2 = 9
  | [], acc, after, at_, _, _, ha, hl => by simp at hl; omega
  | g :: l, acc, after, at_, hc, h, ha, hl => by
    have hg := h g (by simp)
    have e := item_word hg.1 (hc.2 g (by simp)) hg.2.1 hg.2.2
    rw [List.map_cons, parseW, e]
    by_cases h4 : acc.length = 1024
    · rw [if_pos h4]; exact ⟨rfl, rfl⟩
    · rw [if_neg h4, if_neg (by simp)]
      refine parse_many l (acc ++ [g]) g.2 _ hc.tail (fun r hr => ?_) (by simp; omega) (by simp at hl ⊢; omega)
      have h1 := h r (by simp [hr])
      exact ⟨h1.1, h1.2.1, (List.pairwise_cons.1 hc.1).1 r hr⟩
theorem parse_sing {i : Nat} (hi : i ≤ 1100) : (parseL (textL (sing 0 i))).1 = (ofG (sing 0 i)).1 ∧ (parseL (textL (sing 0 i))).2.2 = (ofG (sing 0 i)).2 := by
  have hk := sing_ok (b := 0) (by decide) (by decide) hi
  have hc := sing_canon 0 i
  rw [ofG_sing (by decide) (by decide) hi]
  by_cases h : 1024 < i
  · rw [if_pos h]
    have hbl : ∀ w ∈ (sing 0 i).map wordL, ∀ b ∈ w, b ≠ 32 := by
      intro w hw
      obtain ⟨r, hr, rfl⟩ := List.mem_map.1 hw
      exact word_blank (hk.2 r hr).1 (Int.le_of_lt (hc.2 r hr))
    have hne : (sing 0 i).map wordL ≠ [] := by
      intro e
      have := congrArg List.length e
      rw [List.length_map, sing_len] at this
      simp at this; omega
    have hs : splitC (textL (sing 0 i)) = (sing 0 i).map wordL := split_join _ hne hbl
    have ht : ¬ textL (sing 0 i) = [] := by
      intro e
      rw [e] at hs
      have h1 : ((sing 0 i).map wordL).length = 1 := by rw [← hs]; rfl
      rw [List.length_map, sing_len] at h1
      omega
    unfold parseL
    rw [if_neg ht, hs]
    exact parse_many _ _ _ _ hc (fun r hr => ⟨(hk.2 r hr).1, (hk.2 r hr).2.2.2, by have := (hk.2 r hr).1; omega⟩) (by simp) (by rw [sing_len]; simp; omega)
  · rw [if_neg h, parse_text hc hk (by rw [sing_len]; omega)]
    exact ⟨rfl, rfl⟩
theorem two_canon {n m : Nat} (hn : n ≤ 1024) : Canon (sing 0 n ++ sing 5000 m) := by
  refine ⟨List.pairwise_append.2 ⟨(sing_canon 0 n).1, (sing_canon 5000 m).1, fun x hx y hy => ?_⟩, fun r hr => ?_⟩
  · obtain ⟨j, hj, rfl⟩ := sing_mem hx
    obtain ⟨k, hk, rfl⟩ := sing_mem hy
    show (0 : Int) + 2 * (j : Int) + 1 < 5000 + 2 * (k : Int)
    omega
  · rcases List.mem_append.1 hr with k | k
    · exact (sing_canon 0 n).2 r k
    · exact (sing_canon 5000 m).2 r k
theorem union_sing {n m : Nat} (hn : n ≤ 1024) (hm : m ≤ 1024) : made (combL (wf 41) (sing 0 n) (sing 5000 m)) = if 1024 < n + m then ([], 9) else (sing 0 n ++ sing 5000 m, 0) := by
  have e : mjoin (combL (wf 41) (sing 0 n) (sing 5000 m)) = sing 0 n ++ sing 5000 m :=
    canon_ext (opS_canon _ _ _) (two_canon hn) fun x => by
      have := opS_in (f := wf 41) rfl (sing 0 n) (sing 5000 m) x
      unfold opS at this
      rw [this]
      show (hasL _ x || hasL _ x) = _
      unfold hasL
      rw [List.any_append]
  unfold made
  rw [e, List.length_append, sing_len, sing_len]
theorem sum_sing (b : Int) : ∀ i : Nat, sumL (sing b i) = i
  | 0 => by simp [sing, sumL]
  | i + 1 => by
    rw [sing_succ, sumL_snoc, sum_sing b i]
    show (i : Int) + (b + 2 * (i : Int) + 1 - (b + 2 * (i : Int))) = ((i + 1 : Nat) : Int)
    omega
theorem sum_app (a b : List G) : sumL (a ++ b) = sumL a + sumL b := by simp [sumL]
theorem itoa_one : Lib.itoa 1 = [49] := by
  unfold Lib.itoa
  rw [if_neg (by decide), show (1 : Int).toNat = 1 from rfl, Lib.decDigits, dif_pos (by decide)]
  rfl
theorem word_sing (i : Nat) : wordL ((0 : Int) + 2 * (i : Int), (0 : Int) + 2 * (i : Int) + 1) = Lib.itoa (2 * (i : Int)) ++ [43, 49] := by
  unfold wordL
  show Lib.itoa (0 + 2 * (i : Int)) ++ 43 :: Lib.itoa (0 + 2 * (i : Int) + 1 - (0 + 2 * (i : Int))) = _
  rw [show (0 : Int) + 2 * (i : Int) + 1 - (0 + 2 * (i : Int)) = 1 by omega, itoa_one, Int.zero_add]
def c40 : St → Option (Prop × St)
  | [(.S 0, .av (.agg [.pv (.sl xs1)])), (.S 1, .av (.agg [.pv (.sl xs2)])), (.S 2, .av (.pv (.raw (.func (.func fid) fa fb))))] => some (xs1 = gRows (gOf xs1) ∧ xs2 = gRows (gOf xs2) ∧ (fa = #[] ∧ fb = #[] ∧ wid fid = true ∧ Canon (gOf xs1) ∧ Canon (gOf xs2) ∧ (gOf xs1).length < 5000 ∧ (gOf xs2).length < 5000), [(.S 0, .av (.pv (.sl (gRows (combL (wf fid) (gOf xs1) (gOf xs2))))))])
  | _ => none
theorem p40 {In Ret : St} {pre : Prop} (h : c40 In = some (pre, Ret)) (hp : pre) : PCalls Tryz.prog 40 In Ret := by
  unfold c40 at h
  split at h
  · rename_i xs1 xs2 fid fa fb
    cases h
    obtain ⟨e1, e2, hp⟩ := hp
    obtain ⟨l1, rfl⟩ : ∃ l, xs1 = gRows l := ⟨_, e1⟩
    obtain ⟨l2, rfl⟩ : ∃ l, xs2 = gRows l := ⟨_, e2⟩
    simp only [gOf_gRows] at hp ⊢
    exact (by obtain ⟨rfl, rfl, h1, h2, h3, h4, h5⟩ := hp; exact t38 fid h1 l1 l2 h2 h3 h4 h5)
  · cases h
def orcX6 : Orc := fun f In => if f = 40 then c40 In else if f = 39 then c39 In else none
theorem orcX6_ok : OrcOk Tryz.prog orcX6 := by
  intro f In pre Ret h hp
  unfold orcX6 at h
  split at h
  · subst f; exact p40 h hp
  split at h
  · subst f; exact p39 h hp
  cases h
theorem wid41 : wid 41 = true := rfl
theorem t16u (a b : List G) (ha : Canon a) (hb : Canon b) (h1 : a.length < 5000) (h2 : b.length < 5000) : PCalls Tryz.prog 16 [(.S 0, .av (gSet a)), (.S 1, .av (gSet b))] [(.S 0, .av (.tup [gSet (made (combL (wf 41) a b)).1, .pv (.int .i64 (made (combL (wf 41) a b)).2)]))] := by
  refine PCalls.of_k Tryz.func16 (by decide) rfl fun Q hQ1 hQ2 => ?_
  refine PWp.seq_rg [2, 3, 4] orcX6_ok (mv := mv) (by decide) fun K hK => ?_
  simp only [pwr, mv, List.getD_nil, List.drop_nil, List.head?_nil, Int.natCast_zero, Int.reduceLT, Int.reduceSub, Int.reduceNeg, Int.reduceToNat, decide_false, decide_true, gt_iff_lt, Int.lt_irrefl, ne_eq, not_false_eq_true, not_true_eq_false, reduceIte, reduceCtorEq, Nat.reduceEqDiff, Nat.reduceAdd, Nat.reduceMul, Nat.reduceSub, Nat.reduceLT, Nat.reduceLeDiff, Nat.reduceBEq, if_true, if_false, implies_true, Option.isSome_none, Option.isSome_some, List.nil_append, List.cons_append, List.append_nil, List.map_cons, List.map_nil, List.toList_toArray, Option.getD_some, Option.getD_none, Option.map_some, Option.map_none, Option.bind_some, Option.bind_none, List.length_cons, List.length_nil, Bool.cond_true, Bool.cond_false, Array.toList_append, List.filterMap_cons, List.filterMap_nil, List.all_nil, List.all_cons, List.any_cons, List.any_nil, List.map_append, List.getElem?_toArray, List.getElem?_cons_zero, List.getElem?_cons_succ, Option.toArray_some, Option.toArray_none, List.contains_cons, List.contains_nil, List.head?_cons, List.drop_zero, List.drop_succ_cons, List.take_succ_cons, List.take_zero, List.set_cons_zero, List.set_cons_succ, List.length_map, List.getElem?_nil, orcX6, c40, c39, gOf_gRows, zf, plainL, plainCell]
  refine hK _ ?_
  clear hK K
  have hcl := combL_len (wf 41) a b
  refine PWp.seq_rg [4, 5] orcX6_ok (mv := mv) (by decide) fun K hK => ?_
  simp only [pwr, mv, List.getD_nil, List.drop_nil, List.head?_nil, Int.natCast_zero, Int.reduceLT, Int.reduceSub, Int.reduceNeg, Int.reduceToNat, decide_false, decide_true, gt_iff_lt, Int.lt_irrefl, ne_eq, not_false_eq_true, not_true_eq_false, reduceIte, reduceCtorEq, Nat.reduceEqDiff, Nat.reduceAdd, Nat.reduceMul, Nat.reduceSub, Nat.reduceLT, Nat.reduceLeDiff, Nat.reduceBEq, if_true, if_false, implies_true, Option.isSome_none, Option.isSome_some, List.nil_append, List.cons_append, List.append_nil, List.map_cons, List.map_nil, List.toList_toArray, Option.getD_some, Option.getD_none, Option.map_some, Option.map_none, Option.bind_some, Option.bind_none, List.length_cons, List.length_nil, Bool.cond_true, Bool.cond_false, Array.toList_append, List.filterMap_cons, List.filterMap_nil, List.all_nil, List.all_cons, List.any_cons, List.any_nil, List.map_append, List.getElem?_toArray, List.getElem?_cons_zero, List.getElem?_cons_succ, Option.toArray_some, Option.toArray_none, List.contains_cons, List.contains_nil, List.head?_cons, List.drop_zero, List.drop_succ_cons, List.take_succ_cons, List.take_zero, List.set_cons_zero, List.set_cons_succ, List.length_map, List.getElem?_nil, orcX6, c40, c39, gOf_gRows, zf, plainL, plainCell, wid41]
  repeat' with_reducible refine And.intro ?_ ?_
  all_goals try (first | assumption | omega)
  all_goals try (first | omega | rfl | ((with_reducible refine drawGoal ?_); exact rfl) | (simp only [inR]; omega) | (intro y hy; simp only [List.mem_singleton] at hy; subst hy; rfl) | (intro y hy; cases hy; done) | (simp only [List.length_append, List.length_map, List.length_cons, List.length_nil]; omega) | (intro h; simp only [inR]; omega) | (intro h; simp only [List.length_append, List.length_map, List.length_cons, List.length_nil]; omega) | (intro h; exact h.elim))
  refine hK _ ?_
  clear hK K
  refine PWp.ret (hQ2 _ ?_)
  simp only [pwf, List.drop_zero, List.drop_succ_cons, List.take_succ_cons, List.take_zero, List.getElem?_cons_zero, List.getElem?_cons_succ, List.getElem?_nil, Nat.sub_self, reduceIte, reduceCtorEq, Nat.reduceEqDiff, Nat.reduceAdd, Nat.reduceMul, Nat.reduceSub, Nat.reduceLT, Nat.reduceLeDiff, Nat.reduceBEq, if_true, if_false, implies_true, Option.isSome_none, Option.isSome_some, List.nil_append, List.cons_append, List.append_nil, List.map_cons, List.map_nil, List.toList_toArray, Option.getD_some, Option.getD_none, Option.map_some, Option.map_none, Option.bind_some, Option.bind_none, List.length_cons, List.length_nil, Bool.cond_true, Bool.cond_false, Array.toList_append, List.contains_cons, List.contains_nil, zf, plainL, plainCell, Tryz.results16]
  repeat simp only [pwf, List.drop_zero, List.drop_succ_cons, List.take_succ_cons, List.take_zero, List.getElem?_cons_zero, List.getElem?_cons_succ, List.getElem?_nil, Nat.sub_self, reduceIte, reduceCtorEq, Nat.reduceEqDiff, Nat.reduceAdd, Nat.reduceMul, Nat.reduceSub, Nat.reduceLT, Nat.reduceLeDiff, Nat.reduceBEq, if_true, if_false, implies_true, Option.isSome_none, Option.isSome_some, List.nil_append, List.cons_append, List.append_nil, List.map_cons, List.map_nil, List.toList_toArray, Option.getD_some, Option.getD_none, Option.map_some, Option.map_none, Option.bind_some, Option.bind_none, List.length_cons, List.length_nil, Bool.cond_true, Bool.cond_false, Array.toList_append, List.contains_cons, List.contains_nil, zf, plainL, plainCell]
  first | done | rfl | (simp; done) | trace_state
def c16 : St → Option (Prop × St)
  | [(.S 0, .av (.agg [.pv (.sl xs1)])), (.S 1, .av (.agg [.pv (.sl xs2)]))] => some (xs1 = gRows (gOf xs1) ∧ xs2 = gRows (gOf xs2) ∧ (Canon (gOf xs1) ∧ Canon (gOf xs2) ∧ (gOf xs1).length < 5000 ∧ (gOf xs2).length < 5000), [(.S 0, .av (.tup [gSet (made (combL (wf 41) (gOf xs1) (gOf xs2))).1, .pv (.int .i64 (made (combL (wf 41) (gOf xs1) (gOf xs2))).2)]))])
  | _ => none
theorem p16 {In Ret : St} {pre : Prop} (h : c16 In = some (pre, Ret)) (hp : pre) : PCalls Tryz.prog 16 In Ret := by
  unfold c16 at h
  split at h
  · rename_i xs1 xs2
    cases h
    obtain ⟨e1, e2, hp⟩ := hp
    obtain ⟨l1, rfl⟩ : ∃ l, xs1 = gRows l := ⟨_, e1⟩
    obtain ⟨l2, rfl⟩ : ∃ l, xs2 = gRows l := ⟨_, e2⟩
    simp only [gOf_gRows] at hp ⊢
    exact t16u l1 l2 hp.1 hp.2.1 hp.2.2.1 hp.2.2.2
  · cases h
def orcX7 : Orc := fun f In => if f = 14 then c14p In else if f = 15 then c15 In else if f = 6 then c6 In else if f = 8 then c8 In else if f = 13 then c13 In else if f = 16 then c16 In else if f = 17 then c17 In else if f = 18 then c18 In else none
theorem orcX7_ok : OrcOk Tryz.prog orcX7 := by
  intro f In pre Ret h hp
  unfold orcX7 at h
  split at h
  · subst f; exact p14 h hp
  split at h
  · subst f; exact p15 h hp
  split at h
  · subst f; exact p6 h hp
  split at h
  · subst f; exact p8 h hp
  split at h
  · subst f; exact p13 h hp
  split at h
  · subst f; exact p16 h hp
  split at h
  · subst f; exact p17 h hp
  split at h
  · subst f; exact p18 h hp
  cases h
theorem t5 (n m : Int) (hn : -9223372036854775808 ≤ n ∧ n ≤ 9223372036854775807) (hm : -9223372036854775808 ≤ m ∧ m ≤ 9223372036854775807) : PCalls Tryz.prog 5 [(.S 0, .av (.pv (.int .i64 n))), (.S 1, .av (.pv (.int .i64 m)))] [(.S 0, .av (.pv (.bool true)))] := by
  refine PCalls.of_k Tryz.func5 (by decide) rfl fun Q hQ1 hQ2 => ?_
  refine PWp.seq_rg [0, 1] orcX7_ok (mv := mv) (by decide) fun K hK => ?_
  simp only [pwr, mv, List.getD_nil, List.drop_nil, List.head?_nil, Int.natCast_zero, Int.reduceLT, Int.reduceSub, Int.reduceNeg, Int.reduceToNat, decide_false, decide_true, gt_iff_lt, Int.lt_irrefl, ne_eq, not_false_eq_true, not_true_eq_false, reduceIte, reduceCtorEq, Nat.reduceEqDiff, Nat.reduceAdd, Nat.reduceMul, Nat.reduceSub, Nat.reduceLT, Nat.reduceLeDiff, Nat.reduceBEq, if_true, if_false, implies_true, Option.isSome_none, Option.isSome_some, List.nil_append, List.cons_append, List.append_nil, List.map_cons, List.map_nil, List.toList_toArray, Option.getD_some, Option.getD_none, Option.map_some, Option.map_none, Option.bind_some, Option.bind_none, List.length_cons, List.length_nil, Bool.cond_true, Bool.cond_false, Array.toList_append, List.filterMap_cons, List.filterMap_nil, List.all_nil, List.all_cons, List.any_cons, List.any_nil, List.map_append, List.getElem?_toArray, List.getElem?_cons_zero, List.getElem?_cons_succ, Option.toArray_some, Option.toArray_none, List.contains_cons, List.contains_nil, List.head?_cons, List.drop_zero, List.drop_succ_cons, List.take_succ_cons, List.take_zero, List.set_cons_zero, List.set_cons_succ, List.length_map, List.getElem?_nil, orcX7, c14p, c15, c6, c8, c13, c16, c17, c18, gOf_gRows, zf, plainL, plainCell]
  refine hK _ ?_
  clear hK K
  obtain ⟨N, hN, hN1⟩ : ∃ N : Nat, min (max n 0) 1100 = (N : Int) ∧ N ≤ 1100 := ⟨(min (max n 0) 1100).toNat, by omega, by omega⟩
  obtain ⟨M, hM, hM1⟩ : ∃ M : Nat, min (max m 0) 1100 = (M : Int) ∧ M ≤ 1100 := ⟨(min (max m 0) 1100).toNat, by omega, by omega⟩
  refine PWp.seq_rg [0, 1] orcX7_ok (mv := mv) (by decide) fun K hK => ?_
  simp only [pwr, mv, List.getD_nil, List.drop_nil, List.head?_nil, Int.natCast_zero, Int.reduceLT, Int.reduceSub, Int.reduceNeg, Int.reduceToNat, decide_false, decide_true, gt_iff_lt, Int.lt_irrefl, ne_eq, not_false_eq_true, not_true_eq_false, reduceIte, reduceCtorEq, Nat.reduceEqDiff, Nat.reduceAdd, Nat.reduceMul, Nat.reduceSub, Nat.reduceLT, Nat.reduceLeDiff, Nat.reduceBEq, if_true, if_false, implies_true, Option.isSome_none, Option.isSome_some, List.nil_append, List.cons_append, List.append_nil, List.map_cons, List.map_nil, List.toList_toArray, Option.getD_some, Option.getD_none, Option.map_some, Option.map_none, Option.bind_some, Option.bind_none, List.length_cons, List.length_nil, Bool.cond_true, Bool.cond_false, Array.toList_append, List.filterMap_cons, List.filterMap_nil, List.all_nil, List.all_cons, List.any_cons, List.any_nil, List.map_append, List.getElem?_toArray, List.getElem?_cons_zero, List.getElem?_cons_succ, Option.toArray_some, Option.toArray_none, List.contains_cons, List.contains_nil, List.head?_cons, List.drop_zero, List.drop_succ_cons, List.take_succ_cons, List.take_zero, List.set_cons_zero, List.set_cons_succ, List.length_map, List.getElem?_nil, orcX7, c14p, c15, c6, c8, c13, c16, c17, c18, gOf_gRows, zf, plainL, plainCell, hN, hM]
  refine hK _ ?_
  clear hK K
  refine PWp.seq_rg [0, 1, 5, 6] orcX7_ok (mv := mv) (by decide) fun K hK => ?_
  simp only [pwr, mv, List.getD_nil, List.drop_nil, List.head?_nil, Int.natCast_zero, Int.reduceLT, Int.reduceSub, Int.reduceNeg, Int.reduceToNat, decide_false, decide_true, gt_iff_lt, Int.lt_irrefl, ne_eq, not_false_eq_true, not_true_eq_false, reduceIte, reduceCtorEq, Nat.reduceEqDiff, Nat.reduceAdd, Nat.reduceMul, Nat.reduceSub, Nat.reduceLT, Nat.reduceLeDiff, Nat.reduceBEq, if_true, if_false, implies_true, Option.isSome_none, Option.isSome_some, List.nil_append, List.cons_append, List.append_nil, List.map_cons, List.map_nil, List.toList_toArray, Option.getD_some, Option.getD_none, Option.map_some, Option.map_none, Option.bind_some, Option.bind_none, List.length_cons, List.length_nil, Bool.cond_true, Bool.cond_false, Array.toList_append, List.filterMap_cons, List.filterMap_nil, List.all_nil, List.all_cons, List.any_cons, List.any_nil, List.map_append, List.getElem?_toArray, List.getElem?_cons_zero, List.getElem?_cons_succ, Option.toArray_some, Option.toArray_none, List.contains_cons, List.contains_nil, List.head?_cons, List.drop_zero, List.drop_succ_cons, List.take_succ_cons, List.take_zero, List.set_cons_zero, List.set_cons_succ, List.length_map, List.getElem?_nil, orcX7, c14p, c15, c6, c8, c13, c16, c17, c18, gOf_gRows, zf, plainL, plainCell]
  refine hK _ ?_
  clear hK K
  refine PWp.seq_rg [0, 1, 5, 6, 7] orcX7_ok (mv := mv) (by decide) fun K hK => ?_
  simp only [pwr, mv, List.getD_nil, List.drop_nil, List.head?_nil, Int.natCast_zero, Int.reduceLT, Int.reduceSub, Int.reduceNeg, Int.reduceToNat, decide_false, decide_true, gt_iff_lt, Int.lt_irrefl, ne_eq, not_false_eq_true, not_true_eq_false, reduceIte, reduceCtorEq, Nat.reduceEqDiff, Nat.reduceAdd, Nat.reduceMul, Nat.reduceSub, Nat.reduceLT, Nat.reduceLeDiff, Nat.reduceBEq, if_true, if_false, implies_true, Option.isSome_none, Option.isSome_some, List.nil_append, List.cons_append, List.append_nil, List.map_cons, List.map_nil, List.toList_toArray, Option.getD_some, Option.getD_none, Option.map_some, Option.map_none, Option.bind_some, Option.bind_none, List.length_cons, List.length_nil, Bool.cond_true, Bool.cond_false, Array.toList_append, List.filterMap_cons, List.filterMap_nil, List.all_nil, List.all_cons, List.any_cons, List.any_nil, List.map_append, List.getElem?_toArray, List.getElem?_cons_zero, List.getElem?_cons_succ, Option.toArray_some, Option.toArray_none, List.contains_cons, List.contains_nil, List.head?_cons, List.drop_zero, List.drop_succ_cons, List.take_succ_cons, List.take_zero, List.set_cons_zero, List.set_cons_succ, List.length_map, List.getElem?_nil, orcX7, c14p, c15, c6, c8, c13, c16, c17, c18, gOf_gRows, zf, plainL, plainCell]
  refine hK _ ?_
  clear hK K
  refine PWp.seq_k fun K1 hK1 => ?_
  refine PWp.seq_rg [0, 1, 5, 6, 7, 8] orcX7_ok (mv := mv) (by decide) fun K hK => ?_
  simp only [pwr, mv, List.getD_nil, List.drop_nil, List.head?_nil, Int.natCast_zero, Int.reduceLT, Int.reduceSub, Int.reduceNeg, Int.reduceToNat, decide_false, decide_true, gt_iff_lt, Int.lt_irrefl, ne_eq, not_false_eq_true, not_true_eq_false, reduceIte, reduceCtorEq, Nat.reduceEqDiff, Nat.reduceAdd, Nat.reduceMul, Nat.reduceSub, Nat.reduceLT, Nat.reduceLeDiff, Nat.reduceBEq, if_true, if_false, implies_true, Option.isSome_none, Option.isSome_some, List.nil_append, List.cons_append, List.append_nil, List.map_cons, List.map_nil, List.toList_toArray, Option.getD_some, Option.getD_none, Option.map_some, Option.map_none, Option.bind_some, Option.bind_none, List.length_cons, List.length_nil, Bool.cond_true, Bool.cond_false, Array.toList_append, List.filterMap_cons, List.filterMap_nil, List.all_nil, List.all_cons, List.any_cons, List.any_nil, List.map_append, List.getElem?_toArray, List.getElem?_cons_zero, List.getElem?_cons_succ, Option.toArray_some, Option.toArray_none, List.contains_cons, List.contains_nil, List.head?_cons, List.drop_zero, List.drop_succ_cons, List.take_succ_cons, List.take_zero, List.set_cons_zero, List.set_cons_succ, List.length_map, List.getElem?_nil, orcX7, c14p, c15, c6, c8, c13, c16, c17, c18, gOf_gRows, zf, plainL, plainCell]
  refine hK _ ?_
  clear hK K
  refine PWp.block_k fun Qq2 hq2n hq2x hq2r hq2e => ?_
  refine PWp.loop_k (fun i : Nat => [(.S 0, .av (.pv (.int .i64 N))), (.S 1, .av (.pv (.int .i64 M))), (.S 5, .av (.rf (.RS 5 0) 0)), (.S 6, .av .emp), (.S 7, .av (.pv (.str (textL (sing 0 i))))), (.S 8, .av (.pv (.int .i64 i))), (.RS 5 0, .rw 0 true 41 (gRows (sing 0 i)))]) (fun i => i ≤ N) (fun i => N - i) (0) (Nat.zero_le _) ?_ ?_
  · repeat simp only [pwf, List.drop_zero, List.drop_succ_cons, List.take_succ_cons, List.take_zero, List.getElem?_cons_zero, List.getElem?_cons_succ, List.getElem?_nil, Nat.sub_self, reduceIte, reduceCtorEq, Nat.reduceEqDiff, Nat.reduceAdd, Nat.reduceMul, Nat.reduceSub, Nat.reduceLT, Nat.reduceLeDiff, Nat.reduceBEq, if_true, if_false, implies_true, Option.isSome_none, Option.isSome_some, List.nil_append, List.cons_append, List.append_nil, List.map_cons, List.map_nil, List.toList_toArray, Option.getD_some, Option.getD_none, Option.map_some, Option.map_none, Option.bind_some, Option.bind_none, List.length_cons, List.length_nil, Bool.cond_true, Bool.cond_false, Array.toList_append, List.contains_cons, List.contains_nil, zf, plainL, plainCell]
    first | done | (simp [sing, textL, Lib.join, List.intercalate]; done)
  rintro i hi J1 hJ1
  refine PWp.seq_k fun K3 hK3 => ?_
  refine PWp.seq_rg [0, 1, 5, 6, 7, 8, 27] orcX7_ok (mv := mv) (by decide) fun K hK => ?_
  simp only [pwr, mv, List.getD_nil, List.drop_nil, List.head?_nil, Int.natCast_zero, Int.reduceLT, Int.reduceSub, Int.reduceNeg, Int.reduceToNat, decide_false, decide_true, gt_iff_lt, Int.lt_irrefl, ne_eq, not_false_eq_true, not_true_eq_false, reduceIte, reduceCtorEq, Nat.reduceEqDiff, Nat.reduceAdd, Nat.reduceMul, Nat.reduceSub, Nat.reduceLT, Nat.reduceLeDiff, Nat.reduceBEq, if_true, if_false, implies_true, Option.isSome_none, Option.isSome_some, List.nil_append, List.cons_append, List.append_nil, List.map_cons, List.map_nil, List.toList_toArray, Option.getD_some, Option.getD_none, Option.map_some, Option.map_none, Option.bind_some, Option.bind_none, List.length_cons, List.length_nil, Bool.cond_true, Bool.cond_false, Array.toList_append, List.filterMap_cons, List.filterMap_nil, List.all_nil, List.all_cons, List.any_cons, List.any_nil, List.map_append, List.getElem?_toArray, List.getElem?_cons_zero, List.getElem?_cons_succ, Option.toArray_some, Option.toArray_none, List.contains_cons, List.contains_nil, List.head?_cons, List.drop_zero, List.drop_succ_cons, List.take_succ_cons, List.take_zero, List.set_cons_zero, List.set_cons_succ, List.length_map, List.getElem?_nil, orcX7, c14p, c15, c6, c8, c13, c16, c17, c18, gOf_gRows, zf, plainL, plainCell]
  refine hK _ ?_
  clear hK K
  refine PWp.cond (by rfl) (fun hb27 => ?_) (fun hb27 => ?_)
  ·
   try (cases hb27; done)
   all_goals
    refine PWp.skip (hK3 _ ?_)
    refine PWp.seq_k fun K4 hK4 => ?_
    refine PWp.block_k fun Qq5 hq5n hq5x hq5r hq5e => ?_
    have hiN : i < N := by have := of_decide_eq_true hb27; omega
    have hln := sing_len 0 i
    have hok := sing_ok (b := 0) (by decide) (by decide) (i := i) (by omega)
    have hjl := join_len 43 ((sing 0 i).map wordL) (words_len hok)
    rw [List.length_map, hln] at hjl
    change (textL (sing 0 i)).length ≤ _ at hjl
    have hts := textL_snoc (sing 0 i) ((0 : Int) + 2 * (i : Int), (0 : Int) + 2 * (i : Int) + 1)
    rw [← sing_succ, word_sing] at hts
    have hss := sing_succ 0 i
    have hil := Lib.itoa_length_le (2 * (i : Int)) (by omega) (by omega)
    generalize htx : textL (sing 0 i) = tx at *
    refine PWp.seq_rg [0, 1, 5, 6, 7, 8] orcX7_ok (mv := mv) (by decide) fun K hK => ?_
    simp only [pwr, mv, List.getD_nil, List.drop_nil, List.head?_nil, Int.natCast_zero, Int.reduceLT, Int.reduceSub, Int.reduceNeg, Int.reduceToNat, decide_false, decide_true, gt_iff_lt, Int.lt_irrefl, ne_eq, not_false_eq_true, not_true_eq_false, reduceIte, reduceCtorEq, Nat.reduceEqDiff, Nat.reduceAdd, Nat.reduceMul, Nat.reduceSub, Nat.reduceLT, Nat.reduceLeDiff, Nat.reduceBEq, if_true, if_false, implies_true, Option.isSome_none, Option.isSome_some, List.nil_append, List.cons_append, List.append_nil, List.map_cons, List.map_nil, List.toList_toArray, Option.getD_some, Option.getD_none, Option.map_some, Option.map_none, Option.bind_some, Option.bind_none, List.length_cons, List.length_nil, Bool.cond_true, Bool.cond_false, Array.toList_append, List.filterMap_cons, List.filterMap_nil, List.all_nil, List.all_cons, List.any_cons, List.any_nil, List.map_append, List.getElem?_toArray, List.getElem?_cons_zero, List.getElem?_cons_succ, Option.toArray_some, Option.toArray_none, List.contains_cons, List.contains_nil, List.head?_cons, List.drop_zero, List.drop_succ_cons, List.take_succ_cons, List.take_zero, List.set_cons_zero, List.set_cons_succ, List.length_map, List.getElem?_nil, orcX7, c14p, c15, c6, c8, c13, c16, c17, c18, gOf_gRows, zf, plainL, plainCell]
    repeat' with_reducible refine And.intro ?_ ?_
    all_goals try (first | omega | (simp only [inR]; omega))
    all_goals try (first | omega | rfl | ((with_reducible refine drawGoal ?_); exact rfl) | (simp only [inR]; omega) | (intro y hy; simp only [List.mem_singleton] at hy; subst hy; rfl) | (intro y hy; cases hy; done) | (simp only [List.length_append, List.length_map, List.length_cons, List.length_nil]; omega) | (intro h; simp only [inR]; omega) | (intro h; simp only [List.length_append, List.length_map, List.length_cons, List.length_nil]; omega) | (intro h; exact h.elim))
    refine hK _ ?_
    clear hK K
    refine PWp.seq_k fun K6 hK6 => ?_
    refine PWp.seq_rg [0, 1, 5, 6, 7, 8, 40] orcX7_ok (mv := mv) (by decide) fun K hK => ?_
    simp only [pwr, mv, List.getD_nil, List.drop_nil, List.head?_nil, Int.natCast_zero, Int.reduceLT, Int.reduceSub, Int.reduceNeg, Int.reduceToNat, decide_false, decide_true, gt_iff_lt, Int.lt_irrefl, ne_eq, not_false_eq_true, not_true_eq_false, reduceIte, reduceCtorEq, Nat.reduceEqDiff, Nat.reduceAdd, Nat.reduceMul, Nat.reduceSub, Nat.reduceLT, Nat.reduceLeDiff, Nat.reduceBEq, if_true, if_false, implies_true, Option.isSome_none, Option.isSome_some, List.nil_append, List.cons_append, List.append_nil, List.map_cons, List.map_nil, List.toList_toArray, Option.getD_some, Option.getD_none, Option.map_some, Option.map_none, Option.bind_some, Option.bind_none, List.length_cons, List.length_nil, Bool.cond_true, Bool.cond_false, Array.toList_append, List.filterMap_cons, List.filterMap_nil, List.all_nil, List.all_cons, List.any_cons, List.any_nil, List.map_append, List.getElem?_toArray, List.getElem?_cons_zero, List.getElem?_cons_succ, Option.toArray_some, Option.toArray_none, List.contains_cons, List.contains_nil, List.head?_cons, List.drop_zero, List.drop_succ_cons, List.take_succ_cons, List.take_zero, List.set_cons_zero, List.set_cons_succ, List.length_map, List.getElem?_nil, orcX7, c14p, c15, c6, c8, c13, c16, c17, c18, gOf_gRows, zf, plainL, plainCell]
    refine hK _ ?_
    clear hK K
    refine PWp.cond (by rfl) (fun hb40 => ?_) (fun hb40 => ?_)
    ·
     try (cases hb40; done)
     all_goals
      refine PWp.rg [0, 1, 5, 6, 7, 8] orcX7_ok (mv := mv) (by decide) ?_
      simp only [pwr, mv, List.getD_nil, List.drop_nil, List.head?_nil, Int.natCast_zero, Int.reduceLT, Int.reduceSub, Int.reduceNeg, Int.reduceToNat, decide_false, decide_true, gt_iff_lt, Int.lt_irrefl, ne_eq, not_false_eq_true, not_true_eq_false, reduceIte, reduceCtorEq, Nat.reduceEqDiff, Nat.reduceAdd, Nat.reduceMul, Nat.reduceSub, Nat.reduceLT, Nat.reduceLeDiff, Nat.reduceBEq, if_true, if_false, implies_true, Option.isSome_none, Option.isSome_some, List.nil_append, List.cons_append, List.append_nil, List.map_cons, List.map_nil, List.toList_toArray, Option.getD_some, Option.getD_none, Option.map_some, Option.map_none, Option.bind_some, Option.bind_none, List.length_cons, List.length_nil, Bool.cond_true, Bool.cond_false, Array.toList_append, List.filterMap_cons, List.filterMap_nil, List.all_nil, List.all_cons, List.any_cons, List.any_nil, List.map_append, List.getElem?_toArray, List.getElem?_cons_zero, List.getElem?_cons_succ, Option.toArray_some, Option.toArray_none, List.contains_cons, List.contains_nil, List.head?_cons, List.drop_zero, List.drop_succ_cons, List.take_succ_cons, List.take_zero, List.set_cons_zero, List.set_cons_succ, List.length_map, List.getElem?_nil, orcX7, c14p, c15, c6, c8, c13, c16, c17, c18, gOf_gRows, zf, plainL, plainCell]
      repeat' with_reducible refine And.intro ?_ ?_
      all_goals try (first | omega | (simp only [List.length_append, List.length_cons, List.length_nil]; omega))
      all_goals try (first | omega | rfl | ((with_reducible refine drawGoal ?_); exact rfl) | (simp only [inR]; omega) | (intro y hy; simp only [List.mem_singleton] at hy; subst hy; rfl) | (intro y hy; cases hy; done) | (simp only [List.length_append, List.length_map, List.length_cons, List.length_nil]; omega) | (intro h; simp only [inR]; omega) | (intro h; simp only [List.length_append, List.length_map, List.length_cons, List.length_nil]; omega) | (intro h; exact h.elim))
      refine hK6 _ ?_
      refine PWp.rg [0, 1, 5, 6, 7, 8] orcX7_ok (mv := mv) (by decide) ?_
      simp only [pwr, mv, List.getD_nil, List.drop_nil, List.head?_nil, Int.natCast_zero, Int.reduceLT, Int.reduceSub, Int.reduceNeg, Int.reduceToNat, decide_false, decide_true, gt_iff_lt, Int.lt_irrefl, ne_eq, not_false_eq_true, not_true_eq_false, reduceIte, reduceCtorEq, Nat.reduceEqDiff, Nat.reduceAdd, Nat.reduceMul, Nat.reduceSub, Nat.reduceLT, Nat.reduceLeDiff, Nat.reduceBEq, if_true, if_false, implies_true, Option.isSome_none, Option.isSome_some, List.nil_append, List.cons_append, List.append_nil, List.map_cons, List.map_nil, List.toList_toArray, Option.getD_some, Option.getD_none, Option.map_some, Option.map_none, Option.bind_some, Option.bind_none, List.length_cons, List.length_nil, Bool.cond_true, Bool.cond_false, Array.toList_append, List.filterMap_cons, List.filterMap_nil, List.all_nil, List.all_cons, List.any_cons, List.any_nil, List.map_append, List.getElem?_toArray, List.getElem?_cons_zero, List.getElem?_cons_succ, Option.toArray_some, Option.toArray_none, List.contains_cons, List.contains_nil, List.head?_cons, List.drop_zero, List.drop_succ_cons, List.take_succ_cons, List.take_zero, List.set_cons_zero, List.set_cons_succ, List.length_map, List.getElem?_nil, orcX7, c14p, c15, c6, c8, c13, c16, c17, c18, gOf_gRows, zf, plainL, plainCell]
      repeat' with_reducible refine And.intro ?_ ?_
      all_goals try (first | omega | (simp only [inR]; omega) | (simp only [List.length_append, List.length_cons, List.length_nil]; omega))
      all_goals try (first | omega | rfl | ((with_reducible refine drawGoal ?_); exact rfl) | (simp only [inR]; omega) | (intro y hy; simp only [List.mem_singleton] at hy; subst hy; rfl) | (intro y hy; cases hy; done) | (simp only [List.length_append, List.length_map, List.length_cons, List.length_nil]; omega) | (intro h; simp only [inR]; omega) | (intro h; simp only [List.length_append, List.length_map, List.length_cons, List.length_nil]; omega) | (intro h; exact h.elim))
      refine hq5n _ (hK4 _ ?_)
      refine PWp.rg [0, 1, 5, 6, 7, 8] orcX7_ok (mv := mv) (by decide) ?_
      simp only [pwr, mv, List.getD_nil, List.drop_nil, List.head?_nil, Int.natCast_zero, Int.reduceLT, Int.reduceSub, Int.reduceNeg, Int.reduceToNat, decide_false, decide_true, gt_iff_lt, Int.lt_irrefl, ne_eq, not_false_eq_true, not_true_eq_false, reduceIte, reduceCtorEq, Nat.reduceEqDiff, Nat.reduceAdd, Nat.reduceMul, Nat.reduceSub, Nat.reduceLT, Nat.reduceLeDiff, Nat.reduceBEq, if_true, if_false, implies_true, Option.isSome_none, Option.isSome_some, List.nil_append, List.cons_append, List.append_nil, List.map_cons, List.map_nil, List.toList_toArray, Option.getD_some, Option.getD_none, Option.map_some, Option.map_none, Option.bind_some, Option.bind_none, List.length_cons, List.length_nil, Bool.cond_true, Bool.cond_false, Array.toList_append, List.filterMap_cons, List.filterMap_nil, List.all_nil, List.all_cons, List.any_cons, List.any_nil, List.map_append, List.getElem?_toArray, List.getElem?_cons_zero, List.getElem?_cons_succ, Option.toArray_some, Option.toArray_none, List.contains_cons, List.contains_nil, List.head?_cons, List.drop_zero, List.drop_succ_cons, List.take_succ_cons, List.take_zero, List.set_cons_zero, List.set_cons_succ, List.length_map, List.getElem?_nil, orcX7, c14p, c15, c6, c8, c13, c16, c17, c18, gOf_gRows, zf, plainL, plainCell]
      repeat' with_reducible refine And.intro ?_ ?_
      all_goals try (first | omega | rfl | ((with_reducible refine drawGoal ?_); exact rfl) | (simp only [inR]; omega) | (intro y hy; simp only [List.mem_singleton] at hy; subst hy; rfl) | (intro y hy; cases hy; done) | (simp only [List.length_append, List.length_map, List.length_cons, List.length_nil]; omega) | (intro h; simp only [inR]; omega) | (intro h; simp only [List.length_append, List.length_map, List.length_cons, List.length_nil]; omega) | (intro h; exact h.elim))
      refine hJ1 _ (i + 1) ?_ ?_ ?_
      · first | omega | (show _ ≤ _; omega) | exact ⟨by omega, by assumption⟩
      · omega
      · repeat simp only [pwf, List.drop_zero, List.drop_succ_cons, List.take_succ_cons, List.take_zero, List.getElem?_cons_zero, List.getElem?_cons_succ, List.getElem?_nil, Nat.sub_self, reduceIte, reduceCtorEq, Nat.reduceEqDiff, Nat.reduceAdd, Nat.reduceMul, Nat.reduceSub, Nat.reduceLT, Nat.reduceLeDiff, Nat.reduceBEq, if_true, if_false, implies_true, Option.isSome_none, Option.isSome_some, List.nil_append, List.cons_append, List.append_nil, List.map_cons, List.map_nil, List.toList_toArray, Option.getD_some, Option.getD_none, Option.map_some, Option.map_none, Option.bind_some, Option.bind_none, List.length_cons, List.length_nil, Bool.cond_true, Bool.cond_false, Array.toList_append, List.contains_cons, List.contains_nil, zf, plainL, plainCell]
        rw [hts, hss]
        have hi0 : (sing 0 i = []) ↔ i = 0 := by rw [← List.length_eq_zero_iff, hln]
        simp at hb40
        first | rw [if_neg (by rw [hi0]; omega)] | (have h0 : i = 0 := by omega
                                                    subst h0
                                                    rw [if_pos (hi0.2 rfl)]
                                                    have : tx = [] := by rw [← htx]; rfl
                                                    rw [this])
        simp [gRow]
    ·
     try (cases hb40; done)
     all_goals
      refine PWp.skip (hK6 _ ?_)
      refine PWp.rg [0, 1, 5, 6, 7, 8] orcX7_ok (mv := mv) (by decide) ?_
      simp only [pwr, mv, List.getD_nil, List.drop_nil, List.head?_nil, Int.natCast_zero, Int.reduceLT, Int.reduceSub, Int.reduceNeg, Int.reduceToNat, decide_false, decide_true, gt_iff_lt, Int.lt_irrefl, ne_eq, not_false_eq_true, not_true_eq_false, reduceIte, reduceCtorEq, Nat.reduceEqDiff, Nat.reduceAdd, Nat.reduceMul, Nat.reduceSub, Nat.reduceLT, Nat.reduceLeDiff, Nat.reduceBEq, if_true, if_false, implies_true, Option.isSome_none, Option.isSome_some, List.nil_append, List.cons_append, List.append_nil, List.map_cons, List.map_nil, List.toList_toArray, Option.getD_some, Option.getD_none, Option.map_some, Option.map_none, Option.bind_some, Option.bind_none, List.length_cons, List.length_nil, Bool.cond_true, Bool.cond_false, Array.toList_append, List.filterMap_cons, List.filterMap_nil, List.all_nil, List.all_cons, List.any_cons, List.any_nil, List.map_append, List.getElem?_toArray, List.getElem?_cons_zero, List.getElem?_cons_succ, Option.toArray_some, Option.toArray_none, List.contains_cons, List.contains_nil, List.head?_cons, List.drop_zero, List.drop_succ_cons, List.take_succ_cons, List.take_zero, List.set_cons_zero, List.set_cons_succ, List.length_map, List.getElem?_nil, orcX7, c14p, c15, c6, c8, c13, c16, c17, c18, gOf_gRows, zf, plainL, plainCell]
      repeat' with_reducible refine And.intro ?_ ?_
      all_goals try (first | omega | (simp only [inR]; omega) | (simp only [List.length_append, List.length_cons, List.length_nil]; omega))
      all_goals try (first | omega | rfl | ((with_reducible refine drawGoal ?_); exact rfl) | (simp only [inR]; omega) | (intro y hy; simp only [List.mem_singleton] at hy; subst hy; rfl) | (intro y hy; cases hy; done) | (simp only [List.length_append, List.length_map, List.length_cons, List.length_nil]; omega) | (intro h; simp only [inR]; omega) | (intro h; simp only [List.length_append, List.length_map, List.length_cons, List.length_nil]; omega) | (intro h; exact h.elim))
      refine hq5n _ (hK4 _ ?_)
      refine PWp.rg [0, 1, 5, 6, 7, 8] orcX7_ok (mv := mv) (by decide) ?_
      simp only [pwr, mv, List.getD_nil, List.drop_nil, List.head?_nil, Int.natCast_zero, Int.reduceLT, Int.reduceSub, Int.reduceNeg, Int.reduceToNat, decide_false, decide_true, gt_iff_lt, Int.lt_irrefl, ne_eq, not_false_eq_true, not_true_eq_false, reduceIte, reduceCtorEq, Nat.reduceEqDiff, Nat.reduceAdd, Nat.reduceMul, Nat.reduceSub, Nat.reduceLT, Nat.reduceLeDiff, Nat.reduceBEq, if_true, if_false, implies_true, Option.isSome_none, Option.isSome_some, List.nil_append, List.cons_append, List.append_nil, List.map_cons, List.map_nil, List.toList_toArray, Option.getD_some, Option.getD_none, Option.map_some, Option.map_none, Option.bind_some, Option.bind_none, List.length_cons, List.length_nil, Bool.cond_true, Bool.cond_false, Array.toList_append, List.filterMap_cons, List.filterMap_nil, List.all_nil, List.all_cons, List.any_cons, List.any_nil, List.map_append, List.getElem?_toArray, List.getElem?_cons_zero, List.getElem?_cons_succ, Option.toArray_some, Option.toArray_none, List.contains_cons, List.contains_nil, List.head?_cons, List.drop_zero, List.drop_succ_cons, List.take_succ_cons, List.take_zero, List.set_cons_zero, List.set_cons_succ, List.length_map, List.getElem?_nil, orcX7, c14p, c15, c6, c8, c13, c16, c17, c18, gOf_gRows, zf, plainL, plainCell]
      repeat' with_reducible refine And.intro ?_ ?_
      all_goals try (first | omega | rfl | ((with_reducible refine drawGoal ?_); exact rfl) | (simp only [inR]; omega) | (intro y hy; simp only [List.mem_singleton] at hy; subst hy; rfl) | (intro y hy; cases hy; done) | (simp only [List.length_append, List.length_map, List.length_cons, List.length_nil]; omega) | (intro h; simp only [inR]; omega) | (intro h; simp only [List.length_append, List.length_map, List.length_cons, List.length_nil]; omega) | (intro h; exact h.elim))
      refine hJ1 _ (i + 1) ?_ ?_ ?_
      · first | omega | (show _ ≤ _; omega) | exact ⟨by omega, by assumption⟩
      · omega
      · repeat simp only [pwf, List.drop_zero, List.drop_succ_cons, List.take_succ_cons, List.take_zero, List.getElem?_cons_zero, List.getElem?_cons_succ, List.getElem?_nil, Nat.sub_self, reduceIte, reduceCtorEq, Nat.reduceEqDiff, Nat.reduceAdd, Nat.reduceMul, Nat.reduceSub, Nat.reduceLT, Nat.reduceLeDiff, Nat.reduceBEq, if_true, if_false, implies_true, Option.isSome_none, Option.isSome_some, List.nil_append, List.cons_append, List.append_nil, List.map_cons, List.map_nil, List.toList_toArray, Option.getD_some, Option.getD_none, Option.map_some, Option.map_none, Option.bind_some, Option.bind_none, List.length_cons, List.length_nil, Bool.cond_true, Bool.cond_false, Array.toList_append, List.contains_cons, List.contains_nil, zf, plainL, plainCell]
        rw [hts, hss]
        have hi0 : (sing 0 i = []) ↔ i = 0 := by rw [← List.length_eq_zero_iff, hln]
        simp at hb40
        first | rw [if_neg (by rw [hi0]; omega)] | (have h0 : i = 0 := by omega
                                                    subst h0
                                                    rw [if_pos (hi0.2 rfl)]
                                                    have : tx = [] := by rw [← htx]; rfl
                                                    rw [this])
        simp [gRow]
  ·
   try (cases hb27; done)
   all_goals
    refine PWp.exit (hq2x _ (hK1 _ ?_))
    refine PWp.seq_k fun K7 hK7 => ?_
    have hie : i = N := by have := of_decide_eq_false hb27; omega
    rw [hie]
    refine PWp.seq_rg [0, 1, 5, 6, 7, 9] orcX7_ok (mv := mv) (by decide) fun K hK => ?_
    simp only [pwr, mv, List.getD_nil, List.drop_nil, List.head?_nil, Int.natCast_zero, Int.reduceLT, Int.reduceSub, Int.reduceNeg, Int.reduceToNat, decide_false, decide_true, gt_iff_lt, Int.lt_irrefl, ne_eq, not_false_eq_true, not_true_eq_false, reduceIte, reduceCtorEq, Nat.reduceEqDiff, Nat.reduceAdd, Nat.reduceMul, Nat.reduceSub, Nat.reduceLT, Nat.reduceLeDiff, Nat.reduceBEq, if_true, if_false, implies_true, Option.isSome_none, Option.isSome_some, List.nil_append, List.cons_append, List.append_nil, List.map_cons, List.map_nil, List.toList_toArray, Option.getD_some, Option.getD_none, Option.map_some, Option.map_none, Option.bind_some, Option.bind_none, List.length_cons, List.length_nil, Bool.cond_true, Bool.cond_false, Array.toList_append, List.filterMap_cons, List.filterMap_nil, List.all_nil, List.all_cons, List.any_cons, List.any_nil, List.map_append, List.getElem?_toArray, List.getElem?_cons_zero, List.getElem?_cons_succ, Option.toArray_some, Option.toArray_none, List.contains_cons, List.contains_nil, List.head?_cons, List.drop_zero, List.drop_succ_cons, List.take_succ_cons, List.take_zero, List.set_cons_zero, List.set_cons_succ, List.length_map, List.getElem?_nil, orcX7, c14p, c15, c6, c8, c13, c16, c17, c18, gOf_gRows, zf, plainL, plainCell]
    refine hK _ ?_
    clear hK K
    refine PWp.block_k fun Qq8 hq8n hq8x hq8r hq8e => ?_
    refine PWp.loop_k (fun i : Nat => [(.S 0, .av (.pv (.int .i64 N))), (.S 1, .av (.pv (.int .i64 M))), (.S 5, .av (.rf (.RS 5 0) 0)), (.S 6, .av (.rf (.RS 6 0) 0)), (.S 7, .av (.pv (.str (textL (sing 0 N))))), (.S 9, .av (.pv (.int .i64 i))), (.RS 5 0, .rw 0 true 41 (gRows (sing 0 N))), (.RS 6 0, .rw 0 true 41 (gRows (sing 5000 i)))]) (fun i => i ≤ M) (fun i => M - i) (0) (Nat.zero_le _) ?_ ?_
    · repeat simp only [pwf, List.drop_zero, List.drop_succ_cons, List.take_succ_cons, List.take_zero, List.getElem?_cons_zero, List.getElem?_cons_succ, List.getElem?_nil, Nat.sub_self, reduceIte, reduceCtorEq, Nat.reduceEqDiff, Nat.reduceAdd, Nat.reduceMul, Nat.reduceSub, Nat.reduceLT, Nat.reduceLeDiff, Nat.reduceBEq, if_true, if_false, implies_true, Option.isSome_none, Option.isSome_some, List.nil_append, List.cons_append, List.append_nil, List.map_cons, List.map_nil, List.toList_toArray, Option.getD_some, Option.getD_none, Option.map_some, Option.map_none, Option.bind_some, Option.bind_none, List.length_cons, List.length_nil, Bool.cond_true, Bool.cond_false, Array.toList_append, List.contains_cons, List.contains_nil, zf, plainL, plainCell]
      first | done | (simp [sing]; done)
    rintro i2 hi2 J2 hJ2
    refine PWp.seq_k fun K9 hK9 => ?_
    refine PWp.seq_rg [0, 1, 5, 6, 7, 9, 51] orcX7_ok (mv := mv) (by decide) fun K hK => ?_
    simp only [pwr, mv, List.getD_nil, List.drop_nil, List.head?_nil, Int.natCast_zero, Int.reduceLT, Int.reduceSub, Int.reduceNeg, Int.reduceToNat, decide_false, decide_true, gt_iff_lt, Int.lt_irrefl, ne_eq, not_false_eq_true, not_true_eq_false, reduceIte, reduceCtorEq, Nat.reduceEqDiff, Nat.reduceAdd, Nat.reduceMul, Nat.reduceSub, Nat.reduceLT, Nat.reduceLeDiff, Nat.reduceBEq, if_true, if_false, implies_true, Option.isSome_none, Option.isSome_some, List.nil_append, List.cons_append, List.append_nil, List.map_cons, List.map_nil, List.toList_toArray, Option.getD_some, Option.getD_none, Option.map_some, Option.map_none, Option.bind_some, Option.bind_none, List.length_cons, List.length_nil, Bool.cond_true, Bool.cond_false, Array.toList_append, List.filterMap_cons, List.filterMap_nil, List.all_nil, List.all_cons, List.any_cons, List.any_nil, List.map_append, List.getElem?_toArray, List.getElem?_cons_zero, List.getElem?_cons_succ, Option.toArray_some, Option.toArray_none, List.contains_cons, List.contains_nil, List.head?_cons, List.drop_zero, List.drop_succ_cons, List.take_succ_cons, List.take_zero, List.set_cons_zero, List.set_cons_succ, List.length_map, List.getElem?_nil, orcX7, c14p, c15, c6, c8, c13, c16, c17, c18, gOf_gRows, zf, plainL, plainCell]
    refine hK _ ?_
    clear hK K
    refine PWp.cond (by rfl) (fun hb51 => ?_) (fun hb51 => ?_)
    ·
     try (cases hb51; done)
     all_goals
      refine PWp.skip (hK9 _ ?_)
      refine PWp.seq_k fun K10 hK10 => ?_
      refine PWp.block_k fun Qq11 hq11n hq11x hq11r hq11e => ?_
      have hiM : i2 < M := by have := of_decide_eq_true hb51; omega
      have hln := sing_len 5000 i2
      have hss := sing_succ 5000 i2
      refine PWp.rg [0, 1, 5, 6, 7, 9] orcX7_ok (mv := mv) (by decide) ?_
      simp only [pwr, mv, List.getD_nil, List.drop_nil, List.head?_nil, Int.natCast_zero, Int.reduceLT, Int.reduceSub, Int.reduceNeg, Int.reduceToNat, decide_false, decide_true, gt_iff_lt, Int.lt_irrefl, ne_eq, not_false_eq_true, not_true_eq_false, reduceIte, reduceCtorEq, Nat.reduceEqDiff, Nat.reduceAdd, Nat.reduceMul, Nat.reduceSub, Nat.reduceLT, Nat.reduceLeDiff, Nat.reduceBEq, if_true, if_false, implies_true, Option.isSome_none, Option.isSome_some, List.nil_append, List.cons_append, List.append_nil, List.map_cons, List.map_nil, List.toList_toArray, Option.getD_some, Option.getD_none, Option.map_some, Option.map_none, Option.bind_some, Option.bind_none, List.length_cons, List.length_nil, Bool.cond_true, Bool.cond_false, Array.toList_append, List.filterMap_cons, List.filterMap_nil, List.all_nil, List.all_cons, List.any_cons, List.any_nil, List.map_append, List.getElem?_toArray, List.getElem?_cons_zero, List.getElem?_cons_succ, Option.toArray_some, Option.toArray_none, List.contains_cons, List.contains_nil, List.head?_cons, List.drop_zero, List.drop_succ_cons, List.take_succ_cons, List.take_zero, List.set_cons_zero, List.set_cons_succ, List.length_map, List.getElem?_nil, orcX7, c14p, c15, c6, c8, c13, c16, c17, c18, gOf_gRows, zf, plainL, plainCell]
      repeat' with_reducible refine And.intro ?_ ?_
      all_goals try (first | omega | (simp only [inR]; omega))
      all_goals try (first | omega | rfl | ((with_reducible refine drawGoal ?_); exact rfl) | (simp only [inR]; omega) | (intro y hy; simp only [List.mem_singleton] at hy; subst hy; rfl) | (intro y hy; cases hy; done) | (simp only [List.length_append, List.length_map, List.length_cons, List.length_nil]; omega) | (intro h; simp only [inR]; omega) | (intro h; simp only [List.length_append, List.length_map, List.length_cons, List.length_nil]; omega) | (intro h; exact h.elim))
      refine hq11n _ (hK10 _ ?_)
      refine PWp.rg [0, 1, 5, 6, 7, 9] orcX7_ok (mv := mv) (by decide) ?_
      simp only [pwr, mv, List.getD_nil, List.drop_nil, List.head?_nil, Int.natCast_zero, Int.reduceLT, Int.reduceSub, Int.reduceNeg, Int.reduceToNat, decide_false, decide_true, gt_iff_lt, Int.lt_irrefl, ne_eq, not_false_eq_true, not_true_eq_false, reduceIte, reduceCtorEq, Nat.reduceEqDiff, Nat.reduceAdd, Nat.reduceMul, Nat.reduceSub, Nat.reduceLT, Nat.reduceLeDiff, Nat.reduceBEq, if_true, if_false, implies_true, Option.isSome_none, Option.isSome_some, List.nil_append, List.cons_append, List.append_nil, List.map_cons, List.map_nil, List.toList_toArray, Option.getD_some, Option.getD_none, Option.map_some, Option.map_none, Option.bind_some, Option.bind_none, List.length_cons, List.length_nil, Bool.cond_true, Bool.cond_false, Array.toList_append, List.filterMap_cons, List.filterMap_nil, List.all_nil, List.all_cons, List.any_cons, List.any_nil, List.map_append, List.getElem?_toArray, List.getElem?_cons_zero, List.getElem?_cons_succ, Option.toArray_some, Option.toArray_none, List.contains_cons, List.contains_nil, List.head?_cons, List.drop_zero, List.drop_succ_cons, List.take_succ_cons, List.take_zero, List.set_cons_zero, List.set_cons_succ, List.length_map, List.getElem?_nil, orcX7, c14p, c15, c6, c8, c13, c16, c17, c18, gOf_gRows, zf, plainL, plainCell]
      repeat' with_reducible refine And.intro ?_ ?_
      all_goals try (first | omega | rfl | ((with_reducible refine drawGoal ?_); exact rfl) | (simp only [inR]; omega) | (intro y hy; simp only [List.mem_singleton] at hy; subst hy; rfl) | (intro y hy; cases hy; done) | (simp only [List.length_append, List.length_map, List.length_cons, List.length_nil]; omega) | (intro h; simp only [inR]; omega) | (intro h; simp only [List.length_append, List.length_map, List.length_cons, List.length_nil]; omega) | (intro h; exact h.elim))
      refine hJ2 _ (i2 + 1) ?_ ?_ ?_
      · first | omega | (show _ ≤ _; omega) | exact ⟨by omega, by assumption⟩
      · omega
      · repeat simp only [pwf, List.drop_zero, List.drop_succ_cons, List.take_succ_cons, List.take_zero, List.getElem?_cons_zero, List.getElem?_cons_succ, List.getElem?_nil, Nat.sub_self, reduceIte, reduceCtorEq, Nat.reduceEqDiff, Nat.reduceAdd, Nat.reduceMul, Nat.reduceSub, Nat.reduceLT, Nat.reduceLeDiff, Nat.reduceBEq, if_true, if_false, implies_true, Option.isSome_none, Option.isSome_some, List.nil_append, List.cons_append, List.append_nil, List.map_cons, List.map_nil, List.toList_toArray, Option.getD_some, Option.getD_none, Option.map_some, Option.map_none, Option.bind_some, Option.bind_none, List.length_cons, List.length_nil, Bool.cond_true, Bool.cond_false, Array.toList_append, List.contains_cons, List.contains_nil, zf, plainL, plainCell]
        rw [hss]
        simp [gRow]
        omega
    ·
     try (cases hb51; done)
     all_goals
      refine PWp.exit (hq8x _ (hK7 _ ?_))
      have hie2 : i2 = M := by have := of_decide_eq_false hb51; omega
      rw [hie2]
      have hl1 := sing_len 0 N
      have hl2 := sing_len 5000 M
      have hok := sing_ok (b := 0) (by decide) (by decide) hN1
      have hjl := join_len 43 ((sing 0 N).map wordL) (words_len hok)
      rw [List.length_map, hl1] at hjl
      change (textL (sing 0 N)).length ≤ _ at hjl
      obtain ⟨hp1, hp2⟩ := parse_sing hN1
      have ho1 := ofG_sing (b := 0) (by decide) (by decide) hN1
      have ho2 := ofG_sing (b := 5000) (by decide) (by decide) hM1
      have he : ((ofG (sing 0 N)).2 == 0) = decide ((N : Int) ≤ 1024) := by
        rw [ho1]
        split
        · rename_i h; symm; simp; omega
        · rename_i h; symm; simp; omega
      have hf : ((ofG (sing 5000 M)).2 == 0) = decide ((M : Int) ≤ 1024) := by
        rw [ho2]
        split
        · rename_i h; symm; simp; omega
        · rename_i h; symm; simp; omega
      have he9 : (ofG (sing 0 N)).2 = 0 ∨ (ofG (sing 0 N)).2 = 9 := by rw [ho1]; split <;> simp
      have hf9 : (ofG (sing 5000 M)).2 = 0 ∨ (ofG (sing 5000 M)).2 = 9 := by rw [ho2]; split <;> simp
      have hlo : (ofG (sing 0 N)).1.length ≤ 1100 := by rw [ho1]; split <;> simp [hl1]; omega
      refine PWp.seq_rg [0, 1, 6, 7, 10, 11] orcX7_ok (mv := mv) (by decide) fun K hK => ?_
      simp only [pwr, mv, List.getD_nil, List.drop_nil, List.head?_nil, Int.natCast_zero, Int.reduceLT, Int.reduceSub, Int.reduceNeg, Int.reduceToNat, decide_false, decide_true, gt_iff_lt, Int.lt_irrefl, ne_eq, not_false_eq_true, not_true_eq_false, reduceIte, reduceCtorEq, Nat.reduceEqDiff, Nat.reduceAdd, Nat.reduceMul, Nat.reduceSub, Nat.reduceLT, Nat.reduceLeDiff, Nat.reduceBEq, if_true, if_false, implies_true, Option.isSome_none, Option.isSome_some, List.nil_append, List.cons_append, List.append_nil, List.map_cons, List.map_nil, List.toList_toArray, Option.getD_some, Option.getD_none, Option.map_some, Option.map_none, Option.bind_some, Option.bind_none, List.length_cons, List.length_nil, Bool.cond_true, Bool.cond_false, Array.toList_append, List.filterMap_cons, List.filterMap_nil, List.all_nil, List.all_cons, List.any_cons, List.any_nil, List.map_append, List.getElem?_toArray, List.getElem?_cons_zero, List.getElem?_cons_succ, Option.toArray_some, Option.toArray_none, List.contains_cons, List.contains_nil, List.head?_cons, List.drop_zero, List.drop_succ_cons, List.take_succ_cons, List.take_zero, List.set_cons_zero, List.set_cons_succ, List.length_map, List.getElem?_nil, orcX7, c14p, c15, c6, c8, c13, c16, c17, c18, gOf_gRows, zf, plainL, plainCell]
      repeat' with_reducible refine And.intro ?_ ?_
      all_goals try (omega)
      all_goals try (first | omega | rfl | ((with_reducible refine drawGoal ?_); exact rfl) | (simp only [inR]; omega) | (intro y hy; simp only [List.mem_singleton] at hy; subst hy; rfl) | (intro y hy; cases hy; done) | (simp only [List.length_append, List.length_map, List.length_cons, List.length_nil]; omega) | (intro h; simp only [inR]; omega) | (intro h; simp only [List.length_append, List.length_map, List.length_cons, List.length_nil]; omega) | (intro h; exact h.elim))
      refine hK _ ?_
      clear hK K
      refine PWp.seq_rg [0, 1, 7, 10, 11, 12, 13] orcX7_ok (mv := mv) (by decide) fun K hK => ?_
      simp only [pwr, mv, List.getD_nil, List.drop_nil, List.head?_nil, Int.natCast_zero, Int.reduceLT, Int.reduceSub, Int.reduceNeg, Int.reduceToNat, decide_false, decide_true, gt_iff_lt, Int.lt_irrefl, ne_eq, not_false_eq_true, not_true_eq_false, reduceIte, reduceCtorEq, Nat.reduceEqDiff, Nat.reduceAdd, Nat.reduceMul, Nat.reduceSub, Nat.reduceLT, Nat.reduceLeDiff, Nat.reduceBEq, if_true, if_false, implies_true, Option.isSome_none, Option.isSome_some, List.nil_append, List.cons_append, List.append_nil, List.map_cons, List.map_nil, List.toList_toArray, Option.getD_some, Option.getD_none, Option.map_some, Option.map_none, Option.bind_some, Option.bind_none, List.length_cons, List.length_nil, Bool.cond_true, Bool.cond_false, Array.toList_append, List.filterMap_cons, List.filterMap_nil, List.all_nil, List.all_cons, List.any_cons, List.any_nil, List.map_append, List.getElem?_toArray, List.getElem?_cons_zero, List.getElem?_cons_succ, Option.toArray_some, Option.toArray_none, List.contains_cons, List.contains_nil, List.head?_cons, List.drop_zero, List.drop_succ_cons, List.take_succ_cons, List.take_zero, List.set_cons_zero, List.set_cons_succ, List.length_map, List.getElem?_nil, orcX7, c14p, c15, c6, c8, c13, c16, c17, c18, gOf_gRows, zf, plainL, plainCell]
      repeat' with_reducible refine And.intro ?_ ?_
      all_goals try (omega)
      all_goals try (first | omega | rfl | ((with_reducible refine drawGoal ?_); exact rfl) | (simp only [inR]; omega) | (intro y hy; simp only [List.mem_singleton] at hy; subst hy; rfl) | (intro y hy; cases hy; done) | (simp only [List.length_append, List.length_map, List.length_cons, List.length_nil]; omega) | (intro h; simp only [inR]; omega) | (intro h; simp only [List.length_append, List.length_map, List.length_cons, List.length_nil]; omega) | (intro h; exact h.elim))
      refine hK _ ?_
      clear hK K
      refine PWp.seq_rg [0, 1, 10, 11, 12, 13, 14, 16] orcX7_ok (mv := mv) (by decide) fun K hK => ?_
      simp only [pwr, mv, List.getD_nil, List.drop_nil, List.head?_nil, Int.natCast_zero, Int.reduceLT, Int.reduceSub, Int.reduceNeg, Int.reduceToNat, decide_false, decide_true, gt_iff_lt, Int.lt_irrefl, ne_eq, not_false_eq_true, not_true_eq_false, reduceIte, reduceCtorEq, Nat.reduceEqDiff, Nat.reduceAdd, Nat.reduceMul, Nat.reduceSub, Nat.reduceLT, Nat.reduceLeDiff, Nat.reduceBEq, if_true, if_false, implies_true, Option.isSome_none, Option.isSome_some, List.nil_append, List.cons_append, List.append_nil, List.map_cons, List.map_nil, List.toList_toArray, Option.getD_some, Option.getD_none, Option.map_some, Option.map_none, Option.bind_some, Option.bind_none, List.length_cons, List.length_nil, Bool.cond_true, Bool.cond_false, Array.toList_append, List.filterMap_cons, List.filterMap_nil, List.all_nil, List.all_cons, List.any_cons, List.any_nil, List.map_append, List.getElem?_toArray, List.getElem?_cons_zero, List.getElem?_cons_succ, Option.toArray_some, Option.toArray_none, List.contains_cons, List.contains_nil, List.head?_cons, List.drop_zero, List.drop_succ_cons, List.take_succ_cons, List.take_zero, List.set_cons_zero, List.set_cons_succ, List.length_map, List.getElem?_nil, orcX7, c14p, c15, c6, c8, c13, c16, c17, c18, gOf_gRows, zf, plainL, plainCell, hp1, hp2]
      repeat' with_reducible refine And.intro ?_ ?_
      all_goals try (omega)
      all_goals try (first | omega | rfl | ((with_reducible refine drawGoal ?_); exact rfl) | (simp only [inR]; omega) | (intro y hy; simp only [List.mem_singleton] at hy; subst hy; rfl) | (intro y hy; cases hy; done) | (simp only [List.length_append, List.length_map, List.length_cons, List.length_nil]; omega) | (intro h; simp only [inR]; omega) | (intro h; simp only [List.length_append, List.length_map, List.length_cons, List.length_nil]; omega) | (intro h; exact h.elim))
      refine hK _ ?_
      clear hK K
      refine PWp.seq_k fun K12 hK12 => ?_
      refine PWp.seq_rg [0, 1, 10, 11, 12, 13, 106] orcX7_ok (mv := mv) (by decide) fun K hK => ?_
      simp only [pwr, mv, List.getD_nil, List.drop_nil, List.head?_nil, Int.natCast_zero, Int.reduceLT, Int.reduceSub, Int.reduceNeg, Int.reduceToNat, decide_false, decide_true, gt_iff_lt, Int.lt_irrefl, ne_eq, not_false_eq_true, not_true_eq_false, reduceIte, reduceCtorEq, Nat.reduceEqDiff, Nat.reduceAdd, Nat.reduceMul, Nat.reduceSub, Nat.reduceLT, Nat.reduceLeDiff, Nat.reduceBEq, if_true, if_false, implies_true, Option.isSome_none, Option.isSome_some, List.nil_append, List.cons_append, List.append_nil, List.map_cons, List.map_nil, List.toList_toArray, Option.getD_some, Option.getD_none, Option.map_some, Option.map_none, Option.bind_some, Option.bind_none, List.length_cons, List.length_nil, Bool.cond_true, Bool.cond_false, Array.toList_append, List.filterMap_cons, List.filterMap_nil, List.all_nil, List.all_cons, List.any_cons, List.any_nil, List.map_append, List.getElem?_toArray, List.getElem?_cons_zero, List.getElem?_cons_succ, Option.toArray_some, Option.toArray_none, List.contains_cons, List.contains_nil, List.head?_cons, List.drop_zero, List.drop_succ_cons, List.take_succ_cons, List.take_zero, List.set_cons_zero, List.set_cons_succ, List.length_map, List.getElem?_nil, orcX7, c14p, c15, c6, c8, c13, c16, c17, c18, gOf_gRows, zf, plainL, plainCell, he, hf, bne_self_eq_false, beq_self_eq_true, eq_self]
      repeat' with_reducible refine And.intro ?_ ?_
      all_goals try (first | omega | (intro _; omega))
      all_goals try (first | omega | rfl | ((with_reducible refine drawGoal ?_); exact rfl) | (simp only [inR]; omega) | (intro y hy; simp only [List.mem_singleton] at hy; subst hy; rfl) | (intro y hy; cases hy; done) | (simp only [List.length_append, List.length_map, List.length_cons, List.length_nil]; omega) | (intro h; simp only [inR]; omega) | (intro h; simp only [List.length_append, List.length_map, List.length_cons, List.length_nil]; omega) | (intro h; exact h.elim))
      refine hK _ ?_
      clear hK K
      refine PWp.cond (by rfl) (fun hb106 => ?_) (fun hb106 => ?_)
      ·
       cases hb106
      ·
       try (cases hb106; done)
       all_goals
        refine PWp.skip (hK12 _ ?_)
        refine PWp.seq_k fun K13 hK13 => ?_
        refine PWp.seq_rg [0, 1, 10, 11, 12, 13, 112] orcX7_ok (mv := mv) (by decide) fun K hK => ?_
        simp only [pwr, mv, List.getD_nil, List.drop_nil, List.head?_nil, Int.natCast_zero, Int.reduceLT, Int.reduceSub, Int.reduceNeg, Int.reduceToNat, decide_false, decide_true, gt_iff_lt, Int.lt_irrefl, ne_eq, not_false_eq_true, not_true_eq_false, reduceIte, reduceCtorEq, Nat.reduceEqDiff, Nat.reduceAdd, Nat.reduceMul, Nat.reduceSub, Nat.reduceLT, Nat.reduceLeDiff, Nat.reduceBEq, if_true, if_false, implies_true, Option.isSome_none, Option.isSome_some, List.nil_append, List.cons_append, List.append_nil, List.map_cons, List.map_nil, List.toList_toArray, Option.getD_some, Option.getD_none, Option.map_some, Option.map_none, Option.bind_some, Option.bind_none, List.length_cons, List.length_nil, Bool.cond_true, Bool.cond_false, Array.toList_append, List.filterMap_cons, List.filterMap_nil, List.all_nil, List.all_cons, List.any_cons, List.any_nil, List.map_append, List.getElem?_toArray, List.getElem?_cons_zero, List.getElem?_cons_succ, Option.toArray_some, Option.toArray_none, List.contains_cons, List.contains_nil, List.head?_cons, List.drop_zero, List.drop_succ_cons, List.take_succ_cons, List.take_zero, List.set_cons_zero, List.set_cons_succ, List.length_map, List.getElem?_nil, orcX7, c14p, c15, c6, c8, c13, c16, c17, c18, gOf_gRows, zf, plainL, plainCell]
        refine hK _ ?_
        clear hK K
        refine PWp.cond (by rfl) (fun hb112 => ?_) (fun hb112 => ?_)
        ·
         try (cases hb112; done)
         all_goals
          refine PWp.seq_rg [4] orcX7_ok (mv := mv) (by decide) fun K hK => ?_
          simp only [pwr, mv, List.getD_nil, List.drop_nil, List.head?_nil, Int.natCast_zero, Int.reduceLT, Int.reduceSub, Int.reduceNeg, Int.reduceToNat, decide_false, decide_true, gt_iff_lt, Int.lt_irrefl, ne_eq, not_false_eq_true, not_true_eq_false, reduceIte, reduceCtorEq, Nat.reduceEqDiff, Nat.reduceAdd, Nat.reduceMul, Nat.reduceSub, Nat.reduceLT, Nat.reduceLeDiff, Nat.reduceBEq, if_true, if_false, implies_true, Option.isSome_none, Option.isSome_some, List.nil_append, List.cons_append, List.append_nil, List.map_cons, List.map_nil, List.toList_toArray, Option.getD_some, Option.getD_none, Option.map_some, Option.map_none, Option.bind_some, Option.bind_none, List.length_cons, List.length_nil, Bool.cond_true, Bool.cond_false, Array.toList_append, List.filterMap_cons, List.filterMap_nil, List.all_nil, List.all_cons, List.any_cons, List.any_nil, List.map_append, List.getElem?_toArray, List.getElem?_cons_zero, List.getElem?_cons_succ, Option.toArray_some, Option.toArray_none, List.contains_cons, List.contains_nil, List.head?_cons, List.drop_zero, List.drop_succ_cons, List.take_succ_cons, List.take_zero, List.set_cons_zero, List.set_cons_succ, List.length_map, List.getElem?_nil, orcX7, c14p, c15, c6, c8, c13, c16, c17, c18, gOf_gRows, zf, plainL, plainCell]
          refine hK _ ?_
          clear hK K
          refine PWp.ret (hQ2 _ ?_)
          simp only [pwf, List.drop_zero, List.drop_succ_cons, List.take_succ_cons, List.take_zero, List.getElem?_cons_zero, List.getElem?_cons_succ, List.getElem?_nil, Nat.sub_self, reduceIte, reduceCtorEq, Nat.reduceEqDiff, Nat.reduceAdd, Nat.reduceMul, Nat.reduceSub, Nat.reduceLT, Nat.reduceLeDiff, Nat.reduceBEq, if_true, if_false, implies_true, Option.isSome_none, Option.isSome_some, List.nil_append, List.cons_append, List.append_nil, List.map_cons, List.map_nil, List.toList_toArray, Option.getD_some, Option.getD_none, Option.map_some, Option.map_none, Option.bind_some, Option.bind_none, List.length_cons, List.length_nil, Bool.cond_true, Bool.cond_false, Array.toList_append, List.contains_cons, List.contains_nil, zf, plainL, plainCell, Tryz.results5]
          repeat simp only [pwf, List.drop_zero, List.drop_succ_cons, List.take_succ_cons, List.take_zero, List.getElem?_cons_zero, List.getElem?_cons_succ, List.getElem?_nil, Nat.sub_self, reduceIte, reduceCtorEq, Nat.reduceEqDiff, Nat.reduceAdd, Nat.reduceMul, Nat.reduceSub, Nat.reduceLT, Nat.reduceLeDiff, Nat.reduceBEq, if_true, if_false, implies_true, Option.isSome_none, Option.isSome_some, List.nil_append, List.cons_append, List.append_nil, List.map_cons, List.map_nil, List.toList_toArray, Option.getD_some, Option.getD_none, Option.map_some, Option.map_none, Option.bind_some, Option.bind_none, List.length_cons, List.length_nil, Bool.cond_true, Bool.cond_false, Array.toList_append, List.contains_cons, List.contains_nil, zf, plainL, plainCell]
          have h1 : ((ofG (sing 0 N)).2 == 0 || (ofG (sing 0 N)).2 == 9) = true := by rcases he9 with h | h <;> simp [h]
          have h2 : ((ofG (sing 5000 M)).2 == 0 || (ofG (sing 5000 M)).2 == 9) = true := by rcases hf9 with h | h <;> simp [h]
          simp [h1, h2]
        ·
         try (cases hb112; done)
         all_goals
          refine PWp.skip (hK13 _ ?_)
          have hz : (ofG (sing 0 N)).2 = 0 ∧ (ofG (sing 5000 M)).2 = 0 := by simpa using hb112
          have hN2 : N ≤ 1024 := by
            have := he
            rw [hz.1] at this
            have := of_decide_eq_true (this.symm.trans rfl)
            omega
          have hM2 : M ≤ 1024 := by
            have := hf
            rw [hz.2] at this
            have := of_decide_eq_true (this.symm.trans rfl)
            omega
          rw [if_neg (by omega)] at ho1 ho2
          rw [ho1, ho2]
          have hc1 := sing_canon 0 N
          have hc2 := sing_canon 5000 M
          have hu := union_sing hN2 hM2
          refine PWp.seq_rg [0, 1, 17, 18] orcX7_ok (mv := mv) (by decide) fun K hK => ?_
          simp only [pwr, mv, List.getD_nil, List.drop_nil, List.head?_nil, Int.natCast_zero, Int.reduceLT, Int.reduceSub, Int.reduceNeg, Int.reduceToNat, decide_false, decide_true, gt_iff_lt, Int.lt_irrefl, ne_eq, not_false_eq_true, not_true_eq_false, reduceIte, reduceCtorEq, Nat.reduceEqDiff, Nat.reduceAdd, Nat.reduceMul, Nat.reduceSub, Nat.reduceLT, Nat.reduceLeDiff, Nat.reduceBEq, if_true, if_false, implies_true, Option.isSome_none, Option.isSome_some, List.nil_append, List.cons_append, List.append_nil, List.map_cons, List.map_nil, List.toList_toArray, Option.getD_some, Option.getD_none, Option.map_some, Option.map_none, Option.bind_some, Option.bind_none, List.length_cons, List.length_nil, Bool.cond_true, Bool.cond_false, Array.toList_append, List.filterMap_cons, List.filterMap_nil, List.all_nil, List.all_cons, List.any_cons, List.any_nil, List.map_append, List.getElem?_toArray, List.getElem?_cons_zero, List.getElem?_cons_succ, Option.toArray_some, Option.toArray_none, List.contains_cons, List.contains_nil, List.head?_cons, List.drop_zero, List.drop_succ_cons, List.take_succ_cons, List.take_zero, List.set_cons_zero, List.set_cons_succ, List.length_map, List.getElem?_nil, orcX7, c14p, c15, c6, c8, c13, c16, c17, c18, gOf_gRows, zf, plainL, plainCell]
          repeat' with_reducible refine And.intro ?_ ?_
          all_goals try (first | assumption | omega)
          all_goals try (first | omega | rfl | ((with_reducible refine drawGoal ?_); exact rfl) | (simp only [inR]; omega) | (intro y hy; simp only [List.mem_singleton] at hy; subst hy; rfl) | (intro y hy; cases hy; done) | (simp only [List.length_append, List.length_map, List.length_cons, List.length_nil]; omega) | (intro h; simp only [inR]; omega) | (intro h; simp only [List.length_append, List.length_map, List.length_cons, List.length_nil]; omega) | (intro h; exact h.elim))
          refine hK _ ?_
          clear hK K
          refine PWp.seq_k fun K14 hK14 => ?_
          refine PWp.seq_rg [0, 1, 17, 18, 136] orcX7_ok (mv := mv) (by decide) fun K hK => ?_
          simp only [pwr, mv, List.getD_nil, List.drop_nil, List.head?_nil, Int.natCast_zero, Int.reduceLT, Int.reduceSub, Int.reduceNeg, Int.reduceToNat, decide_false, decide_true, gt_iff_lt, Int.lt_irrefl, ne_eq, not_false_eq_true, not_true_eq_false, reduceIte, reduceCtorEq, Nat.reduceEqDiff, Nat.reduceAdd, Nat.reduceMul, Nat.reduceSub, Nat.reduceLT, Nat.reduceLeDiff, Nat.reduceBEq, if_true, if_false, implies_true, Option.isSome_none, Option.isSome_some, List.nil_append, List.cons_append, List.append_nil, List.map_cons, List.map_nil, List.toList_toArray, Option.getD_some, Option.getD_none, Option.map_some, Option.map_none, Option.bind_some, Option.bind_none, List.length_cons, List.length_nil, Bool.cond_true, Bool.cond_false, Array.toList_append, List.filterMap_cons, List.filterMap_nil, List.all_nil, List.all_cons, List.any_cons, List.any_nil, List.map_append, List.getElem?_toArray, List.getElem?_cons_zero, List.getElem?_cons_succ, Option.toArray_some, Option.toArray_none, List.contains_cons, List.contains_nil, List.head?_cons, List.drop_zero, List.drop_succ_cons, List.take_succ_cons, List.take_zero, List.set_cons_zero, List.set_cons_succ, List.length_map, List.getElem?_nil, orcX7, c14p, c15, c6, c8, c13, c16, c17, c18, gOf_gRows, zf, plainL, plainCell]
          repeat' with_reducible refine And.intro ?_ ?_
          all_goals try (first | omega | rfl | ((with_reducible refine drawGoal ?_); exact rfl) | (simp only [inR]; omega) | (intro y hy; simp only [List.mem_singleton] at hy; subst hy; rfl) | (intro y hy; cases hy; done) | (simp only [List.length_append, List.length_map, List.length_cons, List.length_nil]; omega) | (intro h; simp only [inR]; omega) | (intro h; simp only [List.length_append, List.length_map, List.length_cons, List.length_nil]; omega) | (intro h; exact h.elim))
          refine hK _ ?_
          clear hK K
          refine PWp.cond (by rfl) (fun hb136 => ?_) (fun hb136 => ?_)
          ·
           try (cases hb136; done)
           all_goals
            have hgt : 1024 < N + M := by have := of_decide_eq_true hb136; omega
            rw [if_pos hgt] at hu
            rw [hu]
            refine PWp.seq_rg [4] orcX7_ok (mv := mv) (by decide) fun K hK => ?_
            simp only [pwr, mv, List.getD_nil, List.drop_nil, List.head?_nil, Int.natCast_zero, Int.reduceLT, Int.reduceSub, Int.reduceNeg, Int.reduceToNat, decide_false, decide_true, gt_iff_lt, Int.lt_irrefl, ne_eq, not_false_eq_true, not_true_eq_false, reduceIte, reduceCtorEq, Nat.reduceEqDiff, Nat.reduceAdd, Nat.reduceMul, Nat.reduceSub, Nat.reduceLT, Nat.reduceLeDiff, Nat.reduceBEq, if_true, if_false, implies_true, Option.isSome_none, Option.isSome_some, List.nil_append, List.cons_append, List.append_nil, List.map_cons, List.map_nil, List.toList_toArray, Option.getD_some, Option.getD_none, Option.map_some, Option.map_none, Option.bind_some, Option.bind_none, List.length_cons, List.length_nil, Bool.cond_true, Bool.cond_false, Array.toList_append, List.filterMap_cons, List.filterMap_nil, List.all_nil, List.all_cons, List.any_cons, List.any_nil, List.map_append, List.getElem?_toArray, List.getElem?_cons_zero, List.getElem?_cons_succ, Option.toArray_some, Option.toArray_none, List.contains_cons, List.contains_nil, List.head?_cons, List.drop_zero, List.drop_succ_cons, List.take_succ_cons, List.take_zero, List.set_cons_zero, List.set_cons_succ, List.length_map, List.getElem?_nil, orcX7, c14p, c15, c6, c8, c13, c16, c17, c18, gOf_gRows, zf, plainL, plainCell, beq_self_eq_true, eq_self]
            repeat' with_reducible refine And.intro ?_ ?_
            all_goals try (first | omega | rfl | ((with_reducible refine drawGoal ?_); exact rfl) | (simp only [inR]; omega) | (intro y hy; simp only [List.mem_singleton] at hy; subst hy; rfl) | (intro y hy; cases hy; done) | (simp only [List.length_append, List.length_map, List.length_cons, List.length_nil]; omega) | (intro h; simp only [inR]; omega) | (intro h; simp only [List.length_append, List.length_map, List.length_cons, List.length_nil]; omega) | (intro h; exact h.elim))
            refine hK _ ?_
            clear hK K
            refine PWp.ret (hQ2 _ ?_)
            simp only [pwf, List.drop_zero, List.drop_succ_cons, List.take_succ_cons, List.take_zero, List.getElem?_cons_zero, List.getElem?_cons_succ, List.getElem?_nil, Nat.sub_self, reduceIte, reduceCtorEq, Nat.reduceEqDiff, Nat.reduceAdd, Nat.reduceMul, Nat.reduceSub, Nat.reduceLT, Nat.reduceLeDiff, Nat.reduceBEq, if_true, if_false, implies_true, Option.isSome_none, Option.isSome_some, List.nil_append, List.cons_append, List.append_nil, List.map_cons, List.map_nil, List.toList_toArray, Option.getD_some, Option.getD_none, Option.map_some, Option.map_none, Option.bind_some, Option.bind_none, List.length_cons, List.length_nil, Bool.cond_true, Bool.cond_false, Array.toList_append, List.contains_cons, List.contains_nil, zf, plainL, plainCell, Tryz.results5]
            repeat simp only [pwf, List.drop_zero, List.drop_succ_cons, List.take_succ_cons, List.take_zero, List.getElem?_cons_zero, List.getElem?_cons_succ, List.getElem?_nil, Nat.sub_self, reduceIte, reduceCtorEq, Nat.reduceEqDiff, Nat.reduceAdd, Nat.reduceMul, Nat.reduceSub, Nat.reduceLT, Nat.reduceLeDiff, Nat.reduceBEq, if_true, if_false, implies_true, Option.isSome_none, Option.isSome_some, List.nil_append, List.cons_append, List.append_nil, List.map_cons, List.map_nil, List.toList_toArray, Option.getD_some, Option.getD_none, Option.map_some, Option.map_none, Option.bind_some, Option.bind_none, List.length_cons, List.length_nil, Bool.cond_true, Bool.cond_false, Array.toList_append, List.contains_cons, List.contains_nil, zf, plainL, plainCell]
            first | done | rfl | (simp; done) | trace_state
          ·
           try (cases hb136; done)
           all_goals
            refine PWp.skip (hK14 _ ?_)
            have hle : ¬ 1024 < N + M := by have := of_decide_eq_false hb136; omega
            rw [if_neg hle] at hu
            rw [hu]
            have hok2 : okL (sing 0 N ++ sing 5000 M) := by
              refine ⟨by rw [List.length_append]; omega, fun g hg => ?_⟩
              rcases List.mem_append.1 hg with k | k
              · exact hok.2 g k
              · exact (sing_ok (b := 5000) (by decide) (by decide) hM1).2 g k
            have hsum : sumL (sing 0 N ++ sing 5000 M) = (N : Int) + M := by rw [sum_app, sum_sing, sum_sing]
            generalize sing 0 N ++ sing 5000 M = u at *
            refine PWp.seq_rg [4] orcX7_ok (mv := mv) (by decide) fun K hK => ?_
            simp only [pwr, mv, List.getD_nil, List.drop_nil, List.head?_nil, Int.natCast_zero, Int.reduceLT, Int.reduceSub, Int.reduceNeg, Int.reduceToNat, decide_false, decide_true, gt_iff_lt, Int.lt_irrefl, ne_eq, not_false_eq_true, not_true_eq_false, reduceIte, reduceCtorEq, Nat.reduceEqDiff, Nat.reduceAdd, Nat.reduceMul, Nat.reduceSub, Nat.reduceLT, Nat.reduceLeDiff, Nat.reduceBEq, if_true, if_false, implies_true, Option.isSome_none, Option.isSome_some, List.nil_append, List.cons_append, List.append_nil, List.map_cons, List.map_nil, List.toList_toArray, Option.getD_some, Option.getD_none, Option.map_some, Option.map_none, Option.bind_some, Option.bind_none, List.length_cons, List.length_nil, Bool.cond_true, Bool.cond_false, Array.toList_append, List.filterMap_cons, List.filterMap_nil, List.all_nil, List.all_cons, List.any_cons, List.any_nil, List.map_append, List.getElem?_toArray, List.getElem?_cons_zero, List.getElem?_cons_succ, Option.toArray_some, Option.toArray_none, List.contains_cons, List.contains_nil, List.head?_cons, List.drop_zero, List.drop_succ_cons, List.take_succ_cons, List.take_zero, List.set_cons_zero, List.set_cons_succ, List.length_map, List.getElem?_nil, orcX7, c14p, c15, c6, c8, c13, c16, c17, c18, gOf_gRows, zf, plainL, plainCell, hsum, beq_self_eq_true]
            repeat' with_reducible refine And.intro ?_ ?_
            all_goals try (first | exact hok2 | (intro _; exact hok2) | omega)
            all_goals try (first | omega | rfl | ((with_reducible refine drawGoal ?_); exact rfl) | (simp only [inR]; omega) | (intro y hy; simp only [List.mem_singleton] at hy; subst hy; rfl) | (intro y hy; cases hy; done) | (simp only [List.length_append, List.length_map, List.length_cons, List.length_nil]; omega) | (intro h; simp only [inR]; omega) | (intro h; simp only [List.length_append, List.length_map, List.length_cons, List.length_nil]; omega) | (intro h; exact h.elim))
            refine hK _ ?_
            clear hK K
            refine PWp.ret (hQ2 _ ?_)
            simp only [pwf, List.drop_zero, List.drop_succ_cons, List.take_succ_cons, List.take_zero, List.getElem?_cons_zero, List.getElem?_cons_succ, List.getElem?_nil, Nat.sub_self, reduceIte, reduceCtorEq, Nat.reduceEqDiff, Nat.reduceAdd, Nat.reduceMul, Nat.reduceSub, Nat.reduceLT, Nat.reduceLeDiff, Nat.reduceBEq, if_true, if_false, implies_true, Option.isSome_none, Option.isSome_some, List.nil_append, List.cons_append, List.append_nil, List.map_cons, List.map_nil, List.toList_toArray, Option.getD_some, Option.getD_none, Option.map_some, Option.map_none, Option.bind_some, Option.bind_none, List.length_cons, List.length_nil, Bool.cond_true, Bool.cond_false, Array.toList_append, List.contains_cons, List.contains_nil, zf, plainL, plainCell, Tryz.results5]
            repeat simp only [pwf, List.drop_zero, List.drop_succ_cons, List.take_succ_cons, List.take_zero, List.getElem?_cons_zero, List.getElem?_cons_succ, List.getElem?_nil, Nat.sub_self, reduceIte, reduceCtorEq, Nat.reduceEqDiff, Nat.reduceAdd, Nat.reduceMul, Nat.reduceSub, Nat.reduceLT, Nat.reduceLeDiff, Nat.reduceBEq, if_true, if_false, implies_true, Option.isSome_none, Option.isSome_some, List.nil_append, List.cons_append, List.append_nil, List.map_cons, List.map_nil, List.toList_toArray, Option.getD_some, Option.getD_none, Option.map_some, Option.map_none, Option.bind_some, Option.bind_none, List.length_cons, List.length_nil, Bool.cond_true, Bool.cond_false, Array.toList_append, List.contains_cons, List.contains_nil, zf, plainL, plainCell]
            first | done | rfl | (simp; done) | trace_state
end Go.Pw.G7
