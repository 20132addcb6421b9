/- The lexer: a token, and Scan. -/
import Derived.Test.YtgnedmmecmpnpaaGreatDoorPuSK
set_option linter.unusedSimpArgs false
set_option linter.unusedVariables false
set_option linter.unusedSectionVars false
set_option maxHeartbeats 4000000
set_option maxRecDepth 20000
namespace Go.Pw.L21
open Go.Proofs Go.Pw
def c105 : St → Option (Prop × St)
  | [] => some (True, [(.S 0, .av (.pv (.sl [kRow 131, kRow 132, kRow 133, kRow 134, kRow 135])))])
  | _ => none
theorem p105 {In Ret : St} {pre : Prop} (h : c105 In = some (pre, Ret)) (hp : pre) : PCalls Tryz.prog 105 In Ret := by
  unfold c105 at h
  split at h
  · cases h; exact t40
  · cases h
/-- what a kind answers -/
abbrev kA (is : Bool) (a : Ans) : AV := ansA is (if is = true then a else ({}, 0, 0))
theorem cons_of {s : Bs} (h : s ≠ []) : ∃ c r, s = c :: r ∧ s.headD 0 = c := by
  cases s with
  | nil => exact absurd rfl h
  | cons c r => exact ⟨c, r, rfl, rfl⟩
def c131 : St → Option (Prop × St)
  | [(.S 0, .av (.pv (.str s)))] => some (s ≠ [] ∧ s.length ≤ 20000, [(.S 0, .av (kA (letterB (s.headD 0)) (names s)))])
  | _ => none
theorem p131 {In Ret : St} {pre : Prop} (h : c131 In = some (pre, Ret)) (hp : pre) : PCalls Tryz.prog 131 In Ret := by
  unfold c131 at h
  split at h
  · cases h
    obtain ⟨c, r, rfl, e⟩ := cons_of hp.1
    rw [e]
    have := hp.2
    simp only [List.length_cons] at this
    exact t53 c r (by omega)
  · cases h
def c132 : St → Option (Prop × St)
  | [(.S 0, .av (.pv (.str s)))] => some (s ≠ [] ∧ s.length ≤ 20000, [(.S 0, .av (kA (digitB (s.headD 0)) (numbers s)))])
  | _ => none
theorem p132 {In Ret : St} {pre : Prop} (h : c132 In = some (pre, Ret)) (hp : pre) : PCalls Tryz.prog 132 In Ret := by
  unfold c132 at h
  split at h
  · cases h
    obtain ⟨c, r, rfl, e⟩ := cons_of hp.1
    rw [e]
    have := hp.2
    simp only [List.length_cons] at this
    exact t54 c r (by omega)
  · cases h
def c133 : St → Option (Prop × St)
  | [(.S 0, .av (.pv (.str s)))] => some (s ≠ [] ∧ s.length ≤ 20000, [(.S 0, .av (kA (decide (s.headD 0 = 39)) (chars s)))])
  | _ => none
theorem p133 {In Ret : St} {pre : Prop} (h : c133 In = some (pre, Ret)) (hp : pre) : PCalls Tryz.prog 133 In Ret := by
  unfold c133 at h
  split at h
  · cases h
    rename_i s
    obtain ⟨c, r, he, e⟩ := cons_of hp.1
    rw [e]
    have := t55 s c r he hp.2
    simpa only [kA, decide_eq_true_eq] using this
  · cases h
def c134 : St → Option (Prop × St)
  | [(.S 0, .av (.pv (.str s)))] => some (s ≠ [] ∧ s.length ≤ 20000, [(.S 0, .av (kA (decide (s.headD 0 = 34)) (quoted s)))])
  | _ => none
theorem p134 {In Ret : St} {pre : Prop} (h : c134 In = some (pre, Ret)) (hp : pre) : PCalls Tryz.prog 134 In Ret := by
  unfold c134 at h
  split at h
  · cases h
    rename_i s
    obtain ⟨c, r, he, e⟩ := cons_of hp.1
    rw [e]
    have := t56 s c r he hp.2
    simpa only [kA, decide_eq_true_eq] using this
  · cases h
def c135 : St → Option (Prop × St)
  | [(.S 0, .av (.pv (.str s)))] => some (s ≠ [] ∧ s.length ≤ 20000, [(.S 0, .av (kA true (marks s)))])
  | _ => none
theorem p135 {In Ret : St} {pre : Prop} (h : c135 In = some (pre, Ret)) (hp : pre) : PCalls Tryz.prog 135 In Ret := by
  unfold c135 at h
  split at h
  · cases h
    exact t57 _ hp.1 (by have := hp.2; omega)
  · cases h
/-- which kinds are over -/
def over (c : UInt8) : Nat → Prop
  | 0 => True
  | 1 => letterB c = false
  | 2 => letterB c = false ∧ digitB c = false
  | 3 => letterB c = false ∧ digitB c = false ∧ c ≠ 39
  | 4 => letterB c = false ∧ digitB c = false ∧ c ≠ 39 ∧ c ≠ 34
  | _ => False
abbrev tokA (a : Ans) (l c : Int) : AV := .tup [.agg [.pv (.int .i64 a.1.kind), .pv (.str a.1.text), .pv (.int .i64 a.1.value), .pv (.str a.1.bytes), .pv (.int .i64 l), .pv (.int .i64 c)], fA a.2.1 a.2.2]
theorem cast2 : ((2 : Nat) : Int) = 2 := rfl
theorem cast3 : ((3 : Nat) : Int) = 3 := rfl
theorem cast4 : ((4 : Nat) : Int) = 4 := rfl
def orcN1 : Orc := fun f In => if f = 105 then c105 In else if f = 131 then c131 In else if f = 132 then c132 In else if f = 133 then c133 In else if f = 134 then c134 In else if f = 135 then c135 In else none
theorem orcN1_ok : OrcOk Tryz.prog orcN1 := by
  intro f In pre Ret h hp
  unfold orcN1 at h
  split at h
  · subst f; exact p105 h hp
  split at h
  · subst f; exact p131 h hp
  split at h
  · subst f; exact p132 h hp
  split at h
  · subst f; exact p133 h hp
  split at h
  · subst f; exact p134 h hp
  split at h
  · subst f; exact p135 h hp
  cases h
theorem t24 (r : Bs) (l c : Int) (h0 : r ≠ []) (hr : r.length ≤ 20000) : PCalls Tryz.prog 68 [(.S 0, .av (.ptr 0 0 0)), (.B 0, .bx 0 (scB r (l, c)))] [(.S 0, .av (tokA (lexOne r) l c)), (.B 0, .bx 0 (scB r (l, c)))] := by
  obtain ⟨x, d, hxd, hx⟩ := cons_of h0
  have hlex : lexOne r = if letterB x then names r else if digitB x then numbers r else if x = 39 then chars r else if x = 34 then quoted r else marks r := by rw [hxd]; rfl
  refine PCalls.of_k Tryz.func68 (by decide) rfl fun Q hQ1 hQ2 => ?_
  refine PWp.seq_rg [0, 2, 3] orcN1_ok (mv := mv) (by decide) fun K hK => ?_
  simp only [pwr, pr1, mv, Int.reduceLT, Int.reduceSub, Int.reduceNeg, Int.reduceToNat, ne_eq, reduceIte, reduceCtorEq, Nat.reduceEqDiff, Nat.reduceAdd, Nat.reduceMul, Nat.reduceSub, Nat.reduceLT, Nat.reduceLeDiff, Nat.reduceBEq, if_true, if_false, implies_true, Bool.cond_true, Bool.cond_false, orcN1, c105, c131, c132, c133, c134, c135, kRow, zf]
  repeat' with_reducible refine And.intro ?_ ?_
  all_goals try (first | omega | rfl | ((with_reducible refine drawGoal ?_); exact rfl) | (simp only [inR]; omega) | (intro y hy; simp only [List.mem_singleton] at hy; subst hy; rfl) | (intro y hy; cases hy; done) | (simp only [List.length_append, List.length_map, List.length_cons, List.length_nil]; omega) | (intro h; simp only [inR]; omega) | (intro h; simp only [List.length_append, List.length_map, List.length_cons, List.length_nil]; omega) | (intro h; exact h.elim))
  refine hK _ ?_
  clear hK K
  refine PWp.seq_k fun K1 hK1 => ?_
  refine PWp.seq_rg [0, 2, 3, 9, 10, 11] orcN1_ok (mv := mv) (by decide) fun K hK => ?_
  simp only [pwr, pr1, mv, Int.reduceLT, Int.reduceSub, Int.reduceNeg, Int.reduceToNat, ne_eq, reduceIte, reduceCtorEq, Nat.reduceEqDiff, Nat.reduceAdd, Nat.reduceMul, Nat.reduceSub, Nat.reduceLT, Nat.reduceLeDiff, Nat.reduceBEq, if_true, if_false, implies_true, Bool.cond_true, Bool.cond_false, orcN1, c105, c131, c132, c133, c134, c135, kRow, zf]
  repeat' with_reducible refine And.intro ?_ ?_
  all_goals try (first | omega | rfl | ((with_reducible refine drawGoal ?_); exact rfl) | (simp only [inR]; omega) | (intro y hy; simp only [List.mem_singleton] at hy; subst hy; rfl) | (intro y hy; cases hy; done) | (simp only [List.length_append, List.length_map, List.length_cons, List.length_nil]; omega) | (intro h; simp only [inR]; omega) | (intro h; simp only [List.length_append, List.length_map, List.length_cons, List.length_nil]; omega) | (intro h; exact h.elim))
  refine hK _ ?_
  clear hK K
  refine PWp.block_k fun Qq2 hq2n hq2x hq2r hq2e => ?_
  refine PWp.loop_k (fun i : Nat => [(.S 0, .av (.ptr 0 0 0)), (.S 2, .av (.ptr 1002 0 0)), (.S 3, .av (.ptr 1003 0 0)), (.S 9, .av (.pv (.sl [kRow 131, kRow 132, kRow 133, kRow 134, kRow 135]))), (.S 10, .av (.pv (.int .i64 5))), (.S 11, .av (.pv (.int .i64 (i : Int)))), (.B 0, .bx 0 (scB r (l, c))), (.B 1002, .bx 0 [.pv (.int .i64 0), .pv (.str []), .pv (.int .i64 0), .pv (.str []), .pv (.int .i64 0), .pv (.int .i64 0)]), (.B 1003, .bx 0 [.pv (.int .i64 0), .pv (.int .i64 0)])]) (fun i => over x i) (fun i => 5 - i) (0) (trivial) ?_ ?_
  · repeat simp only [pwf, pf1, reduceIte, reduceCtorEq, Nat.reduceEqDiff, Nat.reduceAdd, Nat.reduceMul, Nat.reduceSub, Nat.reduceLT, Nat.reduceLeDiff, Nat.reduceBEq, if_true, if_false, implies_true, Bool.cond_true, Bool.cond_false, zf]
    first | done | trivial | rfl | (simp; done)
  rintro i hov J1 hJ1
  refine PWp.seq_rg [0, 2, 3, 9, 10, 11, 12] orcN1_ok (mv := mv) (by decide) fun K hK => ?_
  simp only [pwr, pr1, mv, Int.reduceLT, Int.reduceSub, Int.reduceNeg, Int.reduceToNat, ne_eq, reduceIte, reduceCtorEq, Nat.reduceEqDiff, Nat.reduceAdd, Nat.reduceMul, Nat.reduceSub, Nat.reduceLT, Nat.reduceLeDiff, Nat.reduceBEq, if_true, if_false, implies_true, Bool.cond_true, Bool.cond_false, orcN1, c105, c131, c132, c133, c134, c135, kRow, zf]
  repeat' with_reducible refine And.intro ?_ ?_
  all_goals try (first | omega | rfl | ((with_reducible refine drawGoal ?_); exact rfl) | (simp only [inR]; omega) | (intro y hy; simp only [List.mem_singleton] at hy; subst hy; rfl) | (intro y hy; cases hy; done) | (simp only [List.length_append, List.length_map, List.length_cons, List.length_nil]; omega) | (intro h; simp only [inR]; omega) | (intro h; simp only [List.length_append, List.length_map, List.length_cons, List.length_nil]; omega) | (intro h; exact h.elim))
  refine hK _ ?_
  clear hK K
  refine PWp.seq_k fun K3 hK3 => ?_
  refine PWp.cond (by rfl) (fun hb12 => ?_) (fun hb12 => ?_)
  ·
   try (cases hb12; done)
   all_goals
    refine PWp.skip (hK3 _ ?_)
    refine PWp.seq_k fun K4 hK4 => ?_
    refine PWp.block_k fun Qq5 hq5n hq5x hq5r hq5e => ?_
    have h5 : i = 0 ∨ i = 1 ∨ i = 2 ∨ i = 3 ∨ i = 4 := by have := of_decide_eq_true hb12; omega
    rcases h5 with rfl | rfl | rfl | rfl | rfl
    ·
     refine PWp.seq_rg [0, 2, 3, 5, 9, 10, 11] orcN1_ok (mv := mv) (by decide) fun K hK => ?_
     simp only [pwr, pr1, mv, Int.reduceLT, Int.reduceSub, Int.reduceNeg, Int.reduceToNat, ne_eq, reduceIte, reduceCtorEq, Nat.reduceEqDiff, Nat.reduceAdd, Nat.reduceMul, Nat.reduceSub, Nat.reduceLT, Nat.reduceLeDiff, Nat.reduceBEq, if_true, if_false, implies_true, Bool.cond_true, Bool.cond_false, orcN1, c105, c131, c132, c133, c134, c135, kRow, zf, List.getD_cons_zero, List.getD_cons_succ, cast2, cast3, cast4, Int.natCast_one, Int.natCast_zero, kRow]
     repeat' with_reducible refine And.intro ?_ ?_
     all_goals try (omega)
     all_goals try (first | omega | rfl | ((with_reducible refine drawGoal ?_); exact rfl) | (simp only [inR]; omega) | (intro y hy; simp only [List.mem_singleton] at hy; subst hy; rfl) | (intro y hy; cases hy; done) | (simp only [List.length_append, List.length_map, List.length_cons, List.length_nil]; omega) | (intro h; simp only [inR]; omega) | (intro h; simp only [List.length_append, List.length_map, List.length_cons, List.length_nil]; omega) | (intro h; exact h.elim))
     refine hK _ ?_
     clear hK K
     obtain ⟨a, ha⟩ : ∃ a, (if letterB x = true then names r else ({}, 0, 0)) = a := ⟨_, rfl⟩
     refine PWp.seq_rg [0, 2, 3, 6, 7, 8, 9, 10, 11] orcN1_ok (mv := mv) (by decide) fun K hK => ?_
     simp only [pwr, pr1, mv, Int.reduceLT, Int.reduceSub, Int.reduceNeg, Int.reduceToNat, ne_eq, reduceIte, reduceCtorEq, Nat.reduceEqDiff, Nat.reduceAdd, Nat.reduceMul, Nat.reduceSub, Nat.reduceLT, Nat.reduceLeDiff, Nat.reduceBEq, if_true, if_false, implies_true, Bool.cond_true, Bool.cond_false, orcN1, c105, c131, c132, c133, c134, c135, kRow, zf, hx, ha, List.toList_toArray, decide_eq_true_eq]
     repeat' with_reducible refine And.intro ?_ ?_
     all_goals try (first | exact ⟨h0, hr⟩ | omega)
     all_goals try (first | omega | rfl | ((with_reducible refine drawGoal ?_); exact rfl) | (simp only [inR]; omega) | (intro y hy; simp only [List.mem_singleton] at hy; subst hy; rfl) | (intro y hy; cases hy; done) | (simp only [List.length_append, List.length_map, List.length_cons, List.length_nil]; omega) | (intro h; simp only [inR]; omega) | (intro h; simp only [List.length_append, List.length_map, List.length_cons, List.length_nil]; omega) | (intro h; exact h.elim))
     refine hK _ ?_
     clear hK K
     refine PWp.seq_rg [0, 2, 3, 6, 8, 9, 10, 11, 25] orcN1_ok (mv := mv) (by decide) fun K hK => ?_
     simp only [pwr, pr1, mv, Int.reduceLT, Int.reduceSub, Int.reduceNeg, Int.reduceToNat, ne_eq, reduceIte, reduceCtorEq, Nat.reduceEqDiff, Nat.reduceAdd, Nat.reduceMul, Nat.reduceSub, Nat.reduceLT, Nat.reduceLeDiff, Nat.reduceBEq, if_true, if_false, implies_true, Bool.cond_true, Bool.cond_false, orcN1, c105, c131, c132, c133, c134, c135, kRow, zf]
     repeat' with_reducible refine And.intro ?_ ?_
     all_goals try (first | omega | rfl | ((with_reducible refine drawGoal ?_); exact rfl) | (simp only [inR]; omega) | (intro y hy; simp only [List.mem_singleton] at hy; subst hy; rfl) | (intro y hy; cases hy; done) | (simp only [List.length_append, List.length_map, List.length_cons, List.length_nil]; omega) | (intro h; simp only [inR]; omega) | (intro h; simp only [List.length_append, List.length_map, List.length_cons, List.length_nil]; omega) | (intro h; exact h.elim))
     refine hK _ ?_
     clear hK K
     refine PWp.cond (by rfl) (fun hb25 => ?_) (fun hb25 => ?_)
     ·
      try (cases hb25; done)
      all_goals
       refine PWp.seq_dr [2, 3, 6, 8] mixed orcN1_ok (mv := mv) (by decide) fun K hK => ?_
       simp only [pwr, pr1, mv, Int.reduceLT, Int.reduceSub, Int.reduceNeg, Int.reduceToNat, ne_eq, reduceIte, reduceCtorEq, Nat.reduceEqDiff, Nat.reduceAdd, Nat.reduceMul, Nat.reduceSub, Nat.reduceLT, Nat.reduceLeDiff, Nat.reduceBEq, if_true, if_false, implies_true, Bool.cond_true, Bool.cond_false, orcN1, c105, c131, c132, c133, c134, c135, kRow, zf]
       repeat' with_reducible refine And.intro ?_ ?_
       all_goals try (first | omega | rfl | ((with_reducible refine drawGoal ?_); exact rfl) | (simp only [inR]; omega) | (intro y hy; simp only [List.mem_singleton] at hy; subst hy; rfl) | (intro y hy; cases hy; done) | (simp only [List.length_append, List.length_map, List.length_cons, List.length_nil]; omega) | (intro h; simp only [inR]; omega) | (intro h; simp only [List.length_append, List.length_map, List.length_cons, List.length_nil]; omega) | (intro h; exact h.elim))
       refine hK _ ?_
       clear hK K
       refine PWp.seq_dr [2, 3] mixed orcN1_ok (mv := mv) (by decide) fun K hK => ?_
       simp only [pwr, pr1, mv, Int.reduceLT, Int.reduceSub, Int.reduceNeg, Int.reduceToNat, ne_eq, reduceIte, reduceCtorEq, Nat.reduceEqDiff, Nat.reduceAdd, Nat.reduceMul, Nat.reduceSub, Nat.reduceLT, Nat.reduceLeDiff, Nat.reduceBEq, if_true, if_false, implies_true, Bool.cond_true, Bool.cond_false, orcN1, c105, c131, c132, c133, c134, c135, kRow, zf]
       repeat' with_reducible refine And.intro ?_ ?_
       all_goals try (first | omega | rfl | ((with_reducible refine drawGoal ?_); exact rfl) | (simp only [inR]; omega) | (intro y hy; simp only [List.mem_singleton] at hy; subst hy; rfl) | (intro y hy; cases hy; done) | (simp only [List.length_append, List.length_map, List.length_cons, List.length_nil]; omega) | (intro h; simp only [inR]; omega) | (intro h; simp only [List.length_append, List.length_map, List.length_cons, List.length_nil]; omega) | (intro h; exact h.elim))
       refine hK _ ?_
       clear hK K
       refine PWp.ret (hq5r _ (hq2r _ (hQ2 _ ?_)))
       simp only [pwf, pf1, reduceIte, reduceCtorEq, Nat.reduceEqDiff, Nat.reduceAdd, Nat.reduceMul, Nat.reduceSub, Nat.reduceLT, Nat.reduceLeDiff, Nat.reduceBEq, if_true, if_false, implies_true, Bool.cond_true, Bool.cond_false, zf, Tryz.results68]
       repeat simp only [pwf, pf1, reduceIte, reduceCtorEq, Nat.reduceEqDiff, Nat.reduceAdd, Nat.reduceMul, Nat.reduceSub, Nat.reduceLT, Nat.reduceLeDiff, Nat.reduceBEq, if_true, if_false, implies_true, Bool.cond_true, Bool.cond_false, zf]
       have e : lexOne r = a := by rw [hlex, if_pos hb25, ← ha, if_pos hb25]
       rw [e]; exact ⟨⟨rfl, rfl, rfl, rfl⟩, rfl, rfl⟩
     ·
      try (cases hb25; done)
      all_goals
       refine PWp.skip (hq5n _ (hK4 _ ?_))
       refine PWp.rg [0, 2, 3, 9, 10, 11] orcN1_ok (mv := mv) (by decide) ?_
       simp only [pwr, pr1, mv, Int.reduceLT, Int.reduceSub, Int.reduceNeg, Int.reduceToNat, ne_eq, reduceIte, reduceCtorEq, Nat.reduceEqDiff, Nat.reduceAdd, Nat.reduceMul, Nat.reduceSub, Nat.reduceLT, Nat.reduceLeDiff, Nat.reduceBEq, if_true, if_false, implies_true, Bool.cond_true, Bool.cond_false, orcN1, c105, c131, c132, c133, c134, c135, kRow, zf]
       repeat' with_reducible refine And.intro ?_ ?_
       all_goals try (first | omega | rfl | ((with_reducible refine drawGoal ?_); exact rfl) | (simp only [inR]; omega) | (intro y hy; simp only [List.mem_singleton] at hy; subst hy; rfl) | (intro y hy; cases hy; done) | (simp only [List.length_append, List.length_map, List.length_cons, List.length_nil]; omega) | (intro h; simp only [inR]; omega) | (intro h; simp only [List.length_append, List.length_map, List.length_cons, List.length_nil]; omega) | (intro h; exact h.elim))
       refine hJ1 _ (1) ?_ ?_ ?_
       · exact (by simpa using hb25 : letterB x = false)
       · omega
       · repeat simp only [pwf, pf1, reduceIte, reduceCtorEq, Nat.reduceEqDiff, Nat.reduceAdd, Nat.reduceMul, Nat.reduceSub, Nat.reduceLT, Nat.reduceLeDiff, Nat.reduceBEq, if_true, if_false, implies_true, Bool.cond_true, Bool.cond_false, zf]
         exact ⟨rfl, rfl⟩
    ·
     refine PWp.seq_rg [0, 2, 3, 5, 9, 10, 11] orcN1_ok (mv := mv) (by decide) fun K hK => ?_
     simp only [pwr, pr1, mv, Int.reduceLT, Int.reduceSub, Int.reduceNeg, Int.reduceToNat, ne_eq, reduceIte, reduceCtorEq, Nat.reduceEqDiff, Nat.reduceAdd, Nat.reduceMul, Nat.reduceSub, Nat.reduceLT, Nat.reduceLeDiff, Nat.reduceBEq, if_true, if_false, implies_true, Bool.cond_true, Bool.cond_false, orcN1, c105, c131, c132, c133, c134, c135, kRow, zf, List.getD_cons_zero, List.getD_cons_succ, cast2, cast3, cast4, Int.natCast_one, Int.natCast_zero, kRow]
     repeat' with_reducible refine And.intro ?_ ?_
     all_goals try (omega)
     all_goals try (first | omega | rfl | ((with_reducible refine drawGoal ?_); exact rfl) | (simp only [inR]; omega) | (intro y hy; simp only [List.mem_singleton] at hy; subst hy; rfl) | (intro y hy; cases hy; done) | (simp only [List.length_append, List.length_map, List.length_cons, List.length_nil]; omega) | (intro h; simp only [inR]; omega) | (intro h; simp only [List.length_append, List.length_map, List.length_cons, List.length_nil]; omega) | (intro h; exact h.elim))
     refine hK _ ?_
     clear hK K
     obtain ⟨a, ha⟩ : ∃ a, (if digitB x = true then numbers r else ({}, 0, 0)) = a := ⟨_, rfl⟩
     refine PWp.seq_rg [0, 2, 3, 6, 7, 8, 9, 10, 11] orcN1_ok (mv := mv) (by decide) fun K hK => ?_
     simp only [pwr, pr1, mv, Int.reduceLT, Int.reduceSub, Int.reduceNeg, Int.reduceToNat, ne_eq, reduceIte, reduceCtorEq, Nat.reduceEqDiff, Nat.reduceAdd, Nat.reduceMul, Nat.reduceSub, Nat.reduceLT, Nat.reduceLeDiff, Nat.reduceBEq, if_true, if_false, implies_true, Bool.cond_true, Bool.cond_false, orcN1, c105, c131, c132, c133, c134, c135, kRow, zf, hx, ha, List.toList_toArray, decide_eq_true_eq]
     repeat' with_reducible refine And.intro ?_ ?_
     all_goals try (first | exact ⟨h0, hr⟩ | omega)
     all_goals try (first | omega | rfl | ((with_reducible refine drawGoal ?_); exact rfl) | (simp only [inR]; omega) | (intro y hy; simp only [List.mem_singleton] at hy; subst hy; rfl) | (intro y hy; cases hy; done) | (simp only [List.length_append, List.length_map, List.length_cons, List.length_nil]; omega) | (intro h; simp only [inR]; omega) | (intro h; simp only [List.length_append, List.length_map, List.length_cons, List.length_nil]; omega) | (intro h; exact h.elim))
     refine hK _ ?_
     clear hK K
     refine PWp.seq_rg [0, 2, 3, 6, 8, 9, 10, 11, 25] orcN1_ok (mv := mv) (by decide) fun K hK => ?_
     simp only [pwr, pr1, mv, Int.reduceLT, Int.reduceSub, Int.reduceNeg, Int.reduceToNat, ne_eq, reduceIte, reduceCtorEq, Nat.reduceEqDiff, Nat.reduceAdd, Nat.reduceMul, Nat.reduceSub, Nat.reduceLT, Nat.reduceLeDiff, Nat.reduceBEq, if_true, if_false, implies_true, Bool.cond_true, Bool.cond_false, orcN1, c105, c131, c132, c133, c134, c135, kRow, zf]
     repeat' with_reducible refine And.intro ?_ ?_
     all_goals try (first | omega | rfl | ((with_reducible refine drawGoal ?_); exact rfl) | (simp only [inR]; omega) | (intro y hy; simp only [List.mem_singleton] at hy; subst hy; rfl) | (intro y hy; cases hy; done) | (simp only [List.length_append, List.length_map, List.length_cons, List.length_nil]; omega) | (intro h; simp only [inR]; omega) | (intro h; simp only [List.length_append, List.length_map, List.length_cons, List.length_nil]; omega) | (intro h; exact h.elim))
     refine hK _ ?_
     clear hK K
     refine PWp.cond (by rfl) (fun hb25 => ?_) (fun hb25 => ?_)
     ·
      try (cases hb25; done)
      all_goals
       refine PWp.seq_dr [2, 3, 6, 8] mixed orcN1_ok (mv := mv) (by decide) fun K hK => ?_
       simp only [pwr, pr1, mv, Int.reduceLT, Int.reduceSub, Int.reduceNeg, Int.reduceToNat, ne_eq, reduceIte, reduceCtorEq, Nat.reduceEqDiff, Nat.reduceAdd, Nat.reduceMul, Nat.reduceSub, Nat.reduceLT, Nat.reduceLeDiff, Nat.reduceBEq, if_true, if_false, implies_true, Bool.cond_true, Bool.cond_false, orcN1, c105, c131, c132, c133, c134, c135, kRow, zf]
       repeat' with_reducible refine And.intro ?_ ?_
       all_goals try (first | omega | rfl | ((with_reducible refine drawGoal ?_); exact rfl) | (simp only [inR]; omega) | (intro y hy; simp only [List.mem_singleton] at hy; subst hy; rfl) | (intro y hy; cases hy; done) | (simp only [List.length_append, List.length_map, List.length_cons, List.length_nil]; omega) | (intro h; simp only [inR]; omega) | (intro h; simp only [List.length_append, List.length_map, List.length_cons, List.length_nil]; omega) | (intro h; exact h.elim))
       refine hK _ ?_
       clear hK K
       refine PWp.seq_dr [2, 3] mixed orcN1_ok (mv := mv) (by decide) fun K hK => ?_
       simp only [pwr, pr1, mv, Int.reduceLT, Int.reduceSub, Int.reduceNeg, Int.reduceToNat, ne_eq, reduceIte, reduceCtorEq, Nat.reduceEqDiff, Nat.reduceAdd, Nat.reduceMul, Nat.reduceSub, Nat.reduceLT, Nat.reduceLeDiff, Nat.reduceBEq, if_true, if_false, implies_true, Bool.cond_true, Bool.cond_false, orcN1, c105, c131, c132, c133, c134, c135, kRow, zf]
       repeat' with_reducible refine And.intro ?_ ?_
       all_goals try (first | omega | rfl | ((with_reducible refine drawGoal ?_); exact rfl) | (simp only [inR]; omega) | (intro y hy; simp only [List.mem_singleton] at hy; subst hy; rfl) | (intro y hy; cases hy; done) | (simp only [List.length_append, List.length_map, List.length_cons, List.length_nil]; omega) | (intro h; simp only [inR]; omega) | (intro h; simp only [List.length_append, List.length_map, List.length_cons, List.length_nil]; omega) | (intro h; exact h.elim))
       refine hK _ ?_
       clear hK K
       refine PWp.ret (hq5r _ (hq2r _ (hQ2 _ ?_)))
       simp only [pwf, pf1, reduceIte, reduceCtorEq, Nat.reduceEqDiff, Nat.reduceAdd, Nat.reduceMul, Nat.reduceSub, Nat.reduceLT, Nat.reduceLeDiff, Nat.reduceBEq, if_true, if_false, implies_true, Bool.cond_true, Bool.cond_false, zf, Tryz.results68]
       repeat simp only [pwf, pf1, reduceIte, reduceCtorEq, Nat.reduceEqDiff, Nat.reduceAdd, Nat.reduceMul, Nat.reduceSub, Nat.reduceLT, Nat.reduceLeDiff, Nat.reduceBEq, if_true, if_false, implies_true, Bool.cond_true, Bool.cond_false, zf]
       have e : lexOne r = a := by rw [hlex, if_neg (by rw [hov]; decide), if_pos hb25, ← ha, if_pos hb25]
       rw [e]; exact ⟨⟨rfl, rfl, rfl, rfl⟩, rfl, rfl⟩
     ·
      try (cases hb25; done)
      all_goals
       refine PWp.skip (hq5n _ (hK4 _ ?_))
       refine PWp.rg [0, 2, 3, 9, 10, 11] orcN1_ok (mv := mv) (by decide) ?_
       simp only [pwr, pr1, mv, Int.reduceLT, Int.reduceSub, Int.reduceNeg, Int.reduceToNat, ne_eq, reduceIte, reduceCtorEq, Nat.reduceEqDiff, Nat.reduceAdd, Nat.reduceMul, Nat.reduceSub, Nat.reduceLT, Nat.reduceLeDiff, Nat.reduceBEq, if_true, if_false, implies_true, Bool.cond_true, Bool.cond_false, orcN1, c105, c131, c132, c133, c134, c135, kRow, zf]
       repeat' with_reducible refine And.intro ?_ ?_
       all_goals try (first | omega | rfl | ((with_reducible refine drawGoal ?_); exact rfl) | (simp only [inR]; omega) | (intro y hy; simp only [List.mem_singleton] at hy; subst hy; rfl) | (intro y hy; cases hy; done) | (simp only [List.length_append, List.length_map, List.length_cons, List.length_nil]; omega) | (intro h; simp only [inR]; omega) | (intro h; simp only [List.length_append, List.length_map, List.length_cons, List.length_nil]; omega) | (intro h; exact h.elim))
       refine hJ1 _ (2) ?_ ?_ ?_
       · exact ⟨hov, by simpa using hb25⟩
       · omega
       · repeat simp only [pwf, pf1, reduceIte, reduceCtorEq, Nat.reduceEqDiff, Nat.reduceAdd, Nat.reduceMul, Nat.reduceSub, Nat.reduceLT, Nat.reduceLeDiff, Nat.reduceBEq, if_true, if_false, implies_true, Bool.cond_true, Bool.cond_false, zf]
         exact ⟨rfl, rfl⟩
    ·
     refine PWp.seq_rg [0, 2, 3, 5, 9, 10, 11] orcN1_ok (mv := mv) (by decide) fun K hK => ?_
     simp only [pwr, pr1, mv, Int.reduceLT, Int.reduceSub, Int.reduceNeg, Int.reduceToNat, ne_eq, reduceIte, reduceCtorEq, Nat.reduceEqDiff, Nat.reduceAdd, Nat.reduceMul, Nat.reduceSub, Nat.reduceLT, Nat.reduceLeDiff, Nat.reduceBEq, if_true, if_false, implies_true, Bool.cond_true, Bool.cond_false, orcN1, c105, c131, c132, c133, c134, c135, kRow, zf, List.getD_cons_zero, List.getD_cons_succ, cast2, cast3, cast4, Int.natCast_one, Int.natCast_zero, kRow]
     repeat' with_reducible refine And.intro ?_ ?_
     all_goals try (omega)
     all_goals try (first | omega | rfl | ((with_reducible refine drawGoal ?_); exact rfl) | (simp only [inR]; omega) | (intro y hy; simp only [List.mem_singleton] at hy; subst hy; rfl) | (intro y hy; cases hy; done) | (simp only [List.length_append, List.length_map, List.length_cons, List.length_nil]; omega) | (intro h; simp only [inR]; omega) | (intro h; simp only [List.length_append, List.length_map, List.length_cons, List.length_nil]; omega) | (intro h; exact h.elim))
     refine hK _ ?_
     clear hK K
     obtain ⟨a, ha⟩ : ∃ a, (if x = 39 then chars r else ({}, 0, 0)) = a := ⟨_, rfl⟩
     refine PWp.seq_rg [0, 2, 3, 6, 7, 8, 9, 10, 11] orcN1_ok (mv := mv) (by decide) fun K hK => ?_
     simp only [pwr, pr1, mv, Int.reduceLT, Int.reduceSub, Int.reduceNeg, Int.reduceToNat, ne_eq, reduceIte, reduceCtorEq, Nat.reduceEqDiff, Nat.reduceAdd, Nat.reduceMul, Nat.reduceSub, Nat.reduceLT, Nat.reduceLeDiff, Nat.reduceBEq, if_true, if_false, implies_true, Bool.cond_true, Bool.cond_false, orcN1, c105, c131, c132, c133, c134, c135, kRow, zf, hx, ha, List.toList_toArray, decide_eq_true_eq]
     repeat' with_reducible refine And.intro ?_ ?_
     all_goals try (first | exact ⟨h0, hr⟩ | omega)
     all_goals try (first | omega | rfl | ((with_reducible refine drawGoal ?_); exact rfl) | (simp only [inR]; omega) | (intro y hy; simp only [List.mem_singleton] at hy; subst hy; rfl) | (intro y hy; cases hy; done) | (simp only [List.length_append, List.length_map, List.length_cons, List.length_nil]; omega) | (intro h; simp only [inR]; omega) | (intro h; simp only [List.length_append, List.length_map, List.length_cons, List.length_nil]; omega) | (intro h; exact h.elim))
     refine hK _ ?_
     clear hK K
     refine PWp.seq_rg [0, 2, 3, 6, 8, 9, 10, 11, 25] orcN1_ok (mv := mv) (by decide) fun K hK => ?_
     simp only [pwr, pr1, mv, Int.reduceLT, Int.reduceSub, Int.reduceNeg, Int.reduceToNat, ne_eq, reduceIte, reduceCtorEq, Nat.reduceEqDiff, Nat.reduceAdd, Nat.reduceMul, Nat.reduceSub, Nat.reduceLT, Nat.reduceLeDiff, Nat.reduceBEq, if_true, if_false, implies_true, Bool.cond_true, Bool.cond_false, orcN1, c105, c131, c132, c133, c134, c135, kRow, zf]
     repeat' with_reducible refine And.intro ?_ ?_
     all_goals try (first | omega | rfl | ((with_reducible refine drawGoal ?_); exact rfl) | (simp only [inR]; omega) | (intro y hy; simp only [List.mem_singleton] at hy; subst hy; rfl) | (intro y hy; cases hy; done) | (simp only [List.length_append, List.length_map, List.length_cons, List.length_nil]; omega) | (intro h; simp only [inR]; omega) | (intro h; simp only [List.length_append, List.length_map, List.length_cons, List.length_nil]; omega) | (intro h; exact h.elim))
     refine hK _ ?_
     clear hK K
     refine PWp.cond (by rfl) (fun hb25 => ?_) (fun hb25 => ?_)
     ·
      try (cases hb25; done)
      all_goals
       refine PWp.seq_dr [2, 3, 6, 8] mixed orcN1_ok (mv := mv) (by decide) fun K hK => ?_
       simp only [pwr, pr1, mv, Int.reduceLT, Int.reduceSub, Int.reduceNeg, Int.reduceToNat, ne_eq, reduceIte, reduceCtorEq, Nat.reduceEqDiff, Nat.reduceAdd, Nat.reduceMul, Nat.reduceSub, Nat.reduceLT, Nat.reduceLeDiff, Nat.reduceBEq, if_true, if_false, implies_true, Bool.cond_true, Bool.cond_false, orcN1, c105, c131, c132, c133, c134, c135, kRow, zf]
       repeat' with_reducible refine And.intro ?_ ?_
       all_goals try (first | omega | rfl | ((with_reducible refine drawGoal ?_); exact rfl) | (simp only [inR]; omega) | (intro y hy; simp only [List.mem_singleton] at hy; subst hy; rfl) | (intro y hy; cases hy; done) | (simp only [List.length_append, List.length_map, List.length_cons, List.length_nil]; omega) | (intro h; simp only [inR]; omega) | (intro h; simp only [List.length_append, List.length_map, List.length_cons, List.length_nil]; omega) | (intro h; exact h.elim))
       refine hK _ ?_
       clear hK K
       refine PWp.seq_dr [2, 3] mixed orcN1_ok (mv := mv) (by decide) fun K hK => ?_
       simp only [pwr, pr1, mv, Int.reduceLT, Int.reduceSub, Int.reduceNeg, Int.reduceToNat, ne_eq, reduceIte, reduceCtorEq, Nat.reduceEqDiff, Nat.reduceAdd, Nat.reduceMul, Nat.reduceSub, Nat.reduceLT, Nat.reduceLeDiff, Nat.reduceBEq, if_true, if_false, implies_true, Bool.cond_true, Bool.cond_false, orcN1, c105, c131, c132, c133, c134, c135, kRow, zf]
       repeat' with_reducible refine And.intro ?_ ?_
       all_goals try (first | omega | rfl | ((with_reducible refine drawGoal ?_); exact rfl) | (simp only [inR]; omega) | (intro y hy; simp only [List.mem_singleton] at hy; subst hy; rfl) | (intro y hy; cases hy; done) | (simp only [List.length_append, List.length_map, List.length_cons, List.length_nil]; omega) | (intro h; simp only [inR]; omega) | (intro h; simp only [List.length_append, List.length_map, List.length_cons, List.length_nil]; omega) | (intro h; exact h.elim))
       refine hK _ ?_
       clear hK K
       refine PWp.ret (hq5r _ (hq2r _ (hQ2 _ ?_)))
       simp only [pwf, pf1, reduceIte, reduceCtorEq, Nat.reduceEqDiff, Nat.reduceAdd, Nat.reduceMul, Nat.reduceSub, Nat.reduceLT, Nat.reduceLeDiff, Nat.reduceBEq, if_true, if_false, implies_true, Bool.cond_true, Bool.cond_false, zf, Tryz.results68]
       repeat simp only [pwf, pf1, reduceIte, reduceCtorEq, Nat.reduceEqDiff, Nat.reduceAdd, Nat.reduceMul, Nat.reduceSub, Nat.reduceLT, Nat.reduceLeDiff, Nat.reduceBEq, if_true, if_false, implies_true, Bool.cond_true, Bool.cond_false, zf]
       have e : lexOne r = a := by rw [hlex, if_neg (by rw [hov.1]; decide), if_neg (by rw [hov.2]; decide), if_pos (of_decide_eq_true hb25), ← ha, if_pos (of_decide_eq_true hb25)]
       rw [e]; exact ⟨⟨rfl, rfl, rfl, rfl⟩, rfl, rfl⟩
     ·
      try (cases hb25; done)
      all_goals
       refine PWp.skip (hq5n _ (hK4 _ ?_))
       refine PWp.rg [0, 2, 3, 9, 10, 11] orcN1_ok (mv := mv) (by decide) ?_
       simp only [pwr, pr1, mv, Int.reduceLT, Int.reduceSub, Int.reduceNeg, Int.reduceToNat, ne_eq, reduceIte, reduceCtorEq, Nat.reduceEqDiff, Nat.reduceAdd, Nat.reduceMul, Nat.reduceSub, Nat.reduceLT, Nat.reduceLeDiff, Nat.reduceBEq, if_true, if_false, implies_true, Bool.cond_true, Bool.cond_false, orcN1, c105, c131, c132, c133, c134, c135, kRow, zf]
       repeat' with_reducible refine And.intro ?_ ?_
       all_goals try (first | omega | rfl | ((with_reducible refine drawGoal ?_); exact rfl) | (simp only [inR]; omega) | (intro y hy; simp only [List.mem_singleton] at hy; subst hy; rfl) | (intro y hy; cases hy; done) | (simp only [List.length_append, List.length_map, List.length_cons, List.length_nil]; omega) | (intro h; simp only [inR]; omega) | (intro h; simp only [List.length_append, List.length_map, List.length_cons, List.length_nil]; omega) | (intro h; exact h.elim))
       refine hJ1 _ (3) ?_ ?_ ?_
       · exact ⟨hov.1, hov.2, of_decide_eq_false hb25⟩
       · omega
       · repeat simp only [pwf, pf1, reduceIte, reduceCtorEq, Nat.reduceEqDiff, Nat.reduceAdd, Nat.reduceMul, Nat.reduceSub, Nat.reduceLT, Nat.reduceLeDiff, Nat.reduceBEq, if_true, if_false, implies_true, Bool.cond_true, Bool.cond_false, zf]
         exact ⟨rfl, rfl⟩
    ·
     refine PWp.seq_rg [0, 2, 3, 5, 9, 10, 11] orcN1_ok (mv := mv) (by decide) fun K hK => ?_
     simp only [pwr, pr1, mv, Int.reduceLT, Int.reduceSub, Int.reduceNeg, Int.reduceToNat, ne_eq, reduceIte, reduceCtorEq, Nat.reduceEqDiff, Nat.reduceAdd, Nat.reduceMul, Nat.reduceSub, Nat.reduceLT, Nat.reduceLeDiff, Nat.reduceBEq, if_true, if_false, implies_true, Bool.cond_true, Bool.cond_false, orcN1, c105, c131, c132, c133, c134, c135, kRow, zf, List.getD_cons_zero, List.getD_cons_succ, cast2, cast3, cast4, Int.natCast_one, Int.natCast_zero, kRow]
     repeat' with_reducible refine And.intro ?_ ?_
     all_goals try (omega)
     all_goals try (first | omega | rfl | ((with_reducible refine drawGoal ?_); exact rfl) | (simp only [inR]; omega) | (intro y hy; simp only [List.mem_singleton] at hy; subst hy; rfl) | (intro y hy; cases hy; done) | (simp only [List.length_append, List.length_map, List.length_cons, List.length_nil]; omega) | (intro h; simp only [inR]; omega) | (intro h; simp only [List.length_append, List.length_map, List.length_cons, List.length_nil]; omega) | (intro h; exact h.elim))
     refine hK _ ?_
     clear hK K
     obtain ⟨a, ha⟩ : ∃ a, (if x = 34 then quoted r else ({}, 0, 0)) = a := ⟨_, rfl⟩
     refine PWp.seq_rg [0, 2, 3, 6, 7, 8, 9, 10, 11] orcN1_ok (mv := mv) (by decide) fun K hK => ?_
     simp only [pwr, pr1, mv, Int.reduceLT, Int.reduceSub, Int.reduceNeg, Int.reduceToNat, ne_eq, reduceIte, reduceCtorEq, Nat.reduceEqDiff, Nat.reduceAdd, Nat.reduceMul, Nat.reduceSub, Nat.reduceLT, Nat.reduceLeDiff, Nat.reduceBEq, if_true, if_false, implies_true, Bool.cond_true, Bool.cond_false, orcN1, c105, c131, c132, c133, c134, c135, kRow, zf, hx, ha, List.toList_toArray, decide_eq_true_eq]
     repeat' with_reducible refine And.intro ?_ ?_
     all_goals try (first | exact ⟨h0, hr⟩ | omega)
     all_goals try (first | omega | rfl | ((with_reducible refine drawGoal ?_); exact rfl) | (simp only [inR]; omega) | (intro y hy; simp only [List.mem_singleton] at hy; subst hy; rfl) | (intro y hy; cases hy; done) | (simp only [List.length_append, List.length_map, List.length_cons, List.length_nil]; omega) | (intro h; simp only [inR]; omega) | (intro h; simp only [List.length_append, List.length_map, List.length_cons, List.length_nil]; omega) | (intro h; exact h.elim))
     refine hK _ ?_
     clear hK K
     refine PWp.seq_rg [0, 2, 3, 6, 8, 9, 10, 11, 25] orcN1_ok (mv := mv) (by decide) fun K hK => ?_
     simp only [pwr, pr1, mv, Int.reduceLT, Int.reduceSub, Int.reduceNeg, Int.reduceToNat, ne_eq, reduceIte, reduceCtorEq, Nat.reduceEqDiff, Nat.reduceAdd, Nat.reduceMul, Nat.reduceSub, Nat.reduceLT, Nat.reduceLeDiff, Nat.reduceBEq, if_true, if_false, implies_true, Bool.cond_true, Bool.cond_false, orcN1, c105, c131, c132, c133, c134, c135, kRow, zf]
     repeat' with_reducible refine And.intro ?_ ?_
     all_goals try (first | omega | rfl | ((with_reducible refine drawGoal ?_); exact rfl) | (simp only [inR]; omega) | (intro y hy; simp only [List.mem_singleton] at hy; subst hy; rfl) | (intro y hy; cases hy; done) | (simp only [List.length_append, List.length_map, List.length_cons, List.length_nil]; omega) | (intro h; simp only [inR]; omega) | (intro h; simp only [List.length_append, List.length_map, List.length_cons, List.length_nil]; omega) | (intro h; exact h.elim))
     refine hK _ ?_
     clear hK K
     refine PWp.cond (by rfl) (fun hb25 => ?_) (fun hb25 => ?_)
     ·
      try (cases hb25; done)
      all_goals
       refine PWp.seq_dr [2, 3, 6, 8] mixed orcN1_ok (mv := mv) (by decide) fun K hK => ?_
       simp only [pwr, pr1, mv, Int.reduceLT, Int.reduceSub, Int.reduceNeg, Int.reduceToNat, ne_eq, reduceIte, reduceCtorEq, Nat.reduceEqDiff, Nat.reduceAdd, Nat.reduceMul, Nat.reduceSub, Nat.reduceLT, Nat.reduceLeDiff, Nat.reduceBEq, if_true, if_false, implies_true, Bool.cond_true, Bool.cond_false, orcN1, c105, c131, c132, c133, c134, c135, kRow, zf]
       repeat' with_reducible refine And.intro ?_ ?_
       all_goals try (first | omega | rfl | ((with_reducible refine drawGoal ?_); exact rfl) | (simp only [inR]; omega) | (intro y hy; simp only [List.mem_singleton] at hy; subst hy; rfl) | (intro y hy; cases hy; done) | (simp only [List.length_append, List.length_map, List.length_cons, List.length_nil]; omega) | (intro h; simp only [inR]; omega) | (intro h; simp only [List.length_append, List.length_map, List.length_cons, List.length_nil]; omega) | (intro h; exact h.elim))
       refine hK _ ?_
       clear hK K
       refine PWp.seq_dr [2, 3] mixed orcN1_ok (mv := mv) (by decide) fun K hK => ?_
       simp only [pwr, pr1, mv, Int.reduceLT, Int.reduceSub, Int.reduceNeg, Int.reduceToNat, ne_eq, reduceIte, reduceCtorEq, Nat.reduceEqDiff, Nat.reduceAdd, Nat.reduceMul, Nat.reduceSub, Nat.reduceLT, Nat.reduceLeDiff, Nat.reduceBEq, if_true, if_false, implies_true, Bool.cond_true, Bool.cond_false, orcN1, c105, c131, c132, c133, c134, c135, kRow, zf]
       repeat' with_reducible refine And.intro ?_ ?_
       all_goals try (first | omega | rfl | ((with_reducible refine drawGoal ?_); exact rfl) | (simp only [inR]; omega) | (intro y hy; simp only [List.mem_singleton] at hy; subst hy; rfl) | (intro y hy; cases hy; done) | (simp only [List.length_append, List.length_map, List.length_cons, List.length_nil]; omega) | (intro h; simp only [inR]; omega) | (intro h; simp only [List.length_append, List.length_map, List.length_cons, List.length_nil]; omega) | (intro h; exact h.elim))
       refine hK _ ?_
       clear hK K
       refine PWp.ret (hq5r _ (hq2r _ (hQ2 _ ?_)))
       simp only [pwf, pf1, reduceIte, reduceCtorEq, Nat.reduceEqDiff, Nat.reduceAdd, Nat.reduceMul, Nat.reduceSub, Nat.reduceLT, Nat.reduceLeDiff, Nat.reduceBEq, if_true, if_false, implies_true, Bool.cond_true, Bool.cond_false, zf, Tryz.results68]
       repeat simp only [pwf, pf1, reduceIte, reduceCtorEq, Nat.reduceEqDiff, Nat.reduceAdd, Nat.reduceMul, Nat.reduceSub, Nat.reduceLT, Nat.reduceLeDiff, Nat.reduceBEq, if_true, if_false, implies_true, Bool.cond_true, Bool.cond_false, zf]
       have e : lexOne r = a := by rw [hlex, if_neg (by rw [hov.1]; decide), if_neg (by rw [hov.2.1]; decide), if_neg hov.2.2, if_pos (of_decide_eq_true hb25), ← ha, if_pos (of_decide_eq_true hb25)]
       rw [e]; exact ⟨⟨rfl, rfl, rfl, rfl⟩, rfl, rfl⟩
     ·
      try (cases hb25; done)
      all_goals
       refine PWp.skip (hq5n _ (hK4 _ ?_))
       refine PWp.rg [0, 2, 3, 9, 10, 11] orcN1_ok (mv := mv) (by decide) ?_
       simp only [pwr, pr1, mv, Int.reduceLT, Int.reduceSub, Int.reduceNeg, Int.reduceToNat, ne_eq, reduceIte, reduceCtorEq, Nat.reduceEqDiff, Nat.reduceAdd, Nat.reduceMul, Nat.reduceSub, Nat.reduceLT, Nat.reduceLeDiff, Nat.reduceBEq, if_true, if_false, implies_true, Bool.cond_true, Bool.cond_false, orcN1, c105, c131, c132, c133, c134, c135, kRow, zf]
       repeat' with_reducible refine And.intro ?_ ?_
       all_goals try (first | omega | rfl | ((with_reducible refine drawGoal ?_); exact rfl) | (simp only [inR]; omega) | (intro y hy; simp only [List.mem_singleton] at hy; subst hy; rfl) | (intro y hy; cases hy; done) | (simp only [List.length_append, List.length_map, List.length_cons, List.length_nil]; omega) | (intro h; simp only [inR]; omega) | (intro h; simp only [List.length_append, List.length_map, List.length_cons, List.length_nil]; omega) | (intro h; exact h.elim))
       refine hJ1 _ (4) ?_ ?_ ?_
       · exact ⟨hov.1, hov.2.1, hov.2.2, of_decide_eq_false hb25⟩
       · omega
       · repeat simp only [pwf, pf1, reduceIte, reduceCtorEq, Nat.reduceEqDiff, Nat.reduceAdd, Nat.reduceMul, Nat.reduceSub, Nat.reduceLT, Nat.reduceLeDiff, Nat.reduceBEq, if_true, if_false, implies_true, Bool.cond_true, Bool.cond_false, zf]
         exact ⟨rfl, rfl⟩
    ·
     refine PWp.seq_rg [0, 2, 3, 5, 9, 10, 11] orcN1_ok (mv := mv) (by decide) fun K hK => ?_
     simp only [pwr, pr1, mv, Int.reduceLT, Int.reduceSub, Int.reduceNeg, Int.reduceToNat, ne_eq, reduceIte, reduceCtorEq, Nat.reduceEqDiff, Nat.reduceAdd, Nat.reduceMul, Nat.reduceSub, Nat.reduceLT, Nat.reduceLeDiff, Nat.reduceBEq, if_true, if_false, implies_true, Bool.cond_true, Bool.cond_false, orcN1, c105, c131, c132, c133, c134, c135, kRow, zf, List.getD_cons_zero, List.getD_cons_succ, cast2, cast3, cast4, Int.natCast_one, Int.natCast_zero, kRow]
     repeat' with_reducible refine And.intro ?_ ?_
     all_goals try (omega)
     all_goals try (first | omega | rfl | ((with_reducible refine drawGoal ?_); exact rfl) | (simp only [inR]; omega) | (intro y hy; simp only [List.mem_singleton] at hy; subst hy; rfl) | (intro y hy; cases hy; done) | (simp only [List.length_append, List.length_map, List.length_cons, List.length_nil]; omega) | (intro h; simp only [inR]; omega) | (intro h; simp only [List.length_append, List.length_map, List.length_cons, List.length_nil]; omega) | (intro h; exact h.elim))
     refine hK _ ?_
     clear hK K
     obtain ⟨a, ha⟩ : ∃ a, marks r = a := ⟨_, rfl⟩
     refine PWp.seq_rg [0, 2, 3, 6, 7, 8, 9, 10, 11] orcN1_ok (mv := mv) (by decide) fun K hK => ?_
     simp only [pwr, pr1, mv, Int.reduceLT, Int.reduceSub, Int.reduceNeg, Int.reduceToNat, ne_eq, reduceIte, reduceCtorEq, Nat.reduceEqDiff, Nat.reduceAdd, Nat.reduceMul, Nat.reduceSub, Nat.reduceLT, Nat.reduceLeDiff, Nat.reduceBEq, if_true, if_false, implies_true, Bool.cond_true, Bool.cond_false, orcN1, c105, c131, c132, c133, c134, c135, kRow, zf, hx, ha, List.toList_toArray, decide_eq_true_eq]
     repeat' with_reducible refine And.intro ?_ ?_
     all_goals try (first | exact ⟨h0, hr⟩ | omega)
     all_goals try (first | omega | rfl | ((with_reducible refine drawGoal ?_); exact rfl) | (simp only [inR]; omega) | (intro y hy; simp only [List.mem_singleton] at hy; subst hy; rfl) | (intro y hy; cases hy; done) | (simp only [List.length_append, List.length_map, List.length_cons, List.length_nil]; omega) | (intro h; simp only [inR]; omega) | (intro h; simp only [List.length_append, List.length_map, List.length_cons, List.length_nil]; omega) | (intro h; exact h.elim))
     refine hK _ ?_
     clear hK K
     refine PWp.seq_rg [0, 2, 3, 6, 8, 9, 10, 11, 25] orcN1_ok (mv := mv) (by decide) fun K hK => ?_
     simp only [pwr, pr1, mv, Int.reduceLT, Int.reduceSub, Int.reduceNeg, Int.reduceToNat, ne_eq, reduceIte, reduceCtorEq, Nat.reduceEqDiff, Nat.reduceAdd, Nat.reduceMul, Nat.reduceSub, Nat.reduceLT, Nat.reduceLeDiff, Nat.reduceBEq, if_true, if_false, implies_true, Bool.cond_true, Bool.cond_false, orcN1, c105, c131, c132, c133, c134, c135, kRow, zf]
     repeat' with_reducible refine And.intro ?_ ?_
     all_goals try (first | omega | rfl | ((with_reducible refine drawGoal ?_); exact rfl) | (simp only [inR]; omega) | (intro y hy; simp only [List.mem_singleton] at hy; subst hy; rfl) | (intro y hy; cases hy; done) | (simp only [List.length_append, List.length_map, List.length_cons, List.length_nil]; omega) | (intro h; simp only [inR]; omega) | (intro h; simp only [List.length_append, List.length_map, List.length_cons, List.length_nil]; omega) | (intro h; exact h.elim))
     refine hK _ ?_
     clear hK K
     refine PWp.cond (by rfl) (fun hb25 => ?_) (fun hb25 => ?_)
     ·
      try (cases hb25; done)
      all_goals
       refine PWp.seq_dr [2, 3, 6, 8] mixed orcN1_ok (mv := mv) (by decide) fun K hK => ?_
       simp only [pwr, pr1, mv, Int.reduceLT, Int.reduceSub, Int.reduceNeg, Int.reduceToNat, ne_eq, reduceIte, reduceCtorEq, Nat.reduceEqDiff, Nat.reduceAdd, Nat.reduceMul, Nat.reduceSub, Nat.reduceLT, Nat.reduceLeDiff, Nat.reduceBEq, if_true, if_false, implies_true, Bool.cond_true, Bool.cond_false, orcN1, c105, c131, c132, c133, c134, c135, kRow, zf]
       repeat' with_reducible refine And.intro ?_ ?_
       all_goals try (first | omega | rfl | ((with_reducible refine drawGoal ?_); exact rfl) | (simp only [inR]; omega) | (intro y hy; simp only [List.mem_singleton] at hy; subst hy; rfl) | (intro y hy; cases hy; done) | (simp only [List.length_append, List.length_map, List.length_cons, List.length_nil]; omega) | (intro h; simp only [inR]; omega) | (intro h; simp only [List.length_append, List.length_map, List.length_cons, List.length_nil]; omega) | (intro h; exact h.elim))
       refine hK _ ?_
       clear hK K
       refine PWp.seq_dr [2, 3] mixed orcN1_ok (mv := mv) (by decide) fun K hK => ?_
       simp only [pwr, pr1, mv, Int.reduceLT, Int.reduceSub, Int.reduceNeg, Int.reduceToNat, ne_eq, reduceIte, reduceCtorEq, Nat.reduceEqDiff, Nat.reduceAdd, Nat.reduceMul, Nat.reduceSub, Nat.reduceLT, Nat.reduceLeDiff, Nat.reduceBEq, if_true, if_false, implies_true, Bool.cond_true, Bool.cond_false, orcN1, c105, c131, c132, c133, c134, c135, kRow, zf]
       repeat' with_reducible refine And.intro ?_ ?_
       all_goals try (first | omega | rfl | ((with_reducible refine drawGoal ?_); exact rfl) | (simp only [inR]; omega) | (intro y hy; simp only [List.mem_singleton] at hy; subst hy; rfl) | (intro y hy; cases hy; done) | (simp only [List.length_append, List.length_map, List.length_cons, List.length_nil]; omega) | (intro h; simp only [inR]; omega) | (intro h; simp only [List.length_append, List.length_map, List.length_cons, List.length_nil]; omega) | (intro h; exact h.elim))
       refine hK _ ?_
       clear hK K
       refine PWp.ret (hq5r _ (hq2r _ (hQ2 _ ?_)))
       simp only [pwf, pf1, reduceIte, reduceCtorEq, Nat.reduceEqDiff, Nat.reduceAdd, Nat.reduceMul, Nat.reduceSub, Nat.reduceLT, Nat.reduceLeDiff, Nat.reduceBEq, if_true, if_false, implies_true, Bool.cond_true, Bool.cond_false, zf, Tryz.results68]
       repeat simp only [pwf, pf1, reduceIte, reduceCtorEq, Nat.reduceEqDiff, Nat.reduceAdd, Nat.reduceMul, Nat.reduceSub, Nat.reduceLT, Nat.reduceLeDiff, Nat.reduceBEq, if_true, if_false, implies_true, Bool.cond_true, Bool.cond_false, zf]
       have e : lexOne r = a := by rw [hlex, if_neg (by rw [hov.1]; decide), if_neg (by rw [hov.2.1]; decide), if_neg hov.2.2.1, if_neg hov.2.2.2, ha]
       rw [e]; exact ⟨⟨rfl, rfl, rfl, rfl⟩, rfl, rfl⟩
     ·
      try (cases hb25; done)
      all_goals
       refine PWp.skip (hq5n _ (hK4 _ ?_))
       refine PWp.rg [0, 2, 3, 9, 10, 11] orcN1_ok (mv := mv) (by decide) ?_
       simp only [pwr, pr1, mv, Int.reduceLT, Int.reduceSub, Int.reduceNeg, Int.reduceToNat, ne_eq, reduceIte, reduceCtorEq, Nat.reduceEqDiff, Nat.reduceAdd, Nat.reduceMul, Nat.reduceSub, Nat.reduceLT, Nat.reduceLeDiff, Nat.reduceBEq, if_true, if_false, implies_true, Bool.cond_true, Bool.cond_false, orcN1, c105, c131, c132, c133, c134, c135, kRow, zf]
       repeat' with_reducible refine And.intro ?_ ?_
       all_goals try (first | omega | rfl | ((with_reducible refine drawGoal ?_); exact rfl) | (simp only [inR]; omega) | (intro y hy; simp only [List.mem_singleton] at hy; subst hy; rfl) | (intro y hy; cases hy; done) | (simp only [List.length_append, List.length_map, List.length_cons, List.length_nil]; omega) | (intro h; simp only [inR]; omega) | (intro h; simp only [List.length_append, List.length_map, List.length_cons, List.length_nil]; omega) | (intro h; exact h.elim))
       refine hJ1 _ (i + 1) ?_ ?_ ?_
       · first | omega | (show _ ≤ _; omega) | exact ⟨by omega, by assumption⟩
       · omega
       · repeat simp only [pwf, pf1, reduceIte, reduceCtorEq, Nat.reduceEqDiff, Nat.reduceAdd, Nat.reduceMul, Nat.reduceSub, Nat.reduceLT, Nat.reduceLeDiff, Nat.reduceBEq, if_true, if_false, implies_true, Bool.cond_true, Bool.cond_false, zf]
         simp
  ·
   obtain ⟨j, rfl⟩ : ∃ j, i = j + 5 := ⟨i - 5, by have := of_decide_eq_false hb12; omega⟩
   exact hov.elim
end Go.Pw.L21
