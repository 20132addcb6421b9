/- The lexer: identifiers, names, numbers, symbols. -/
import Derived.Test.YtgnedmmecmpnpaaGreatDoorPuSA
set_option linter.unusedSimpArgs false
set_option linter.unusedVariables false
set_option linter.unusedSectionVars false
set_option maxHeartbeats 4000000
set_option maxRecDepth 20000
namespace Go.Pw.L21
open Go.Proofs Go.Pw
def orcD1 : Orc := fun f In => if f = 160 then c160 In else if f = 161 then c161 In else if f = 162 then c162 In else if f = 49 then c49 In else none
theorem orcD1_ok : OrcOk Tryz.prog orcD1 := by
  intro f In pre Ret h hp
  unfold orcD1 at h
  split at h
  · subst f; exact p160 h hp
  split at h
  · subst f; exact p161 h hp
  split at h
  · subst f; exact p162 h hp
  split at h
  · subst f; exact p49 h hp
  cases h
theorem kw_len : keywords.length ≤ 1000000 := by decide
theorem sym_len : symbols.length ≤ 1000000 := by decide
theorem pos_of (s : Bs) : (!s == []) = true ∧ (s.length : Int) ≤ 32 → (0 : Int) ≤ 0 ∧ (0 : Int) < (s.length : Int) := by
  rintro ⟨h1, _⟩
  cases s with
  | nil => simp at h1
  | cons b r => simp only [List.length_cons]; omega
abbrev tA (t : Tok) : AV := .agg [.pv (.int .i64 t.kind), .pv (.str t.text), .pv (.int .i64 t.value), .pv (.str t.bytes), .pv (.int .i64 0), .pv (.int .i64 0)]
abbrev fA (k : Nat) (e : Int) : AV := .agg [.pv (.int .i64 (k : Int)), .pv (.int .i64 e)]
abbrev ansA (is : Bool) (a : Ans) : AV := .tup [tA a.1, .pv (.bool is), fA a.2.1 a.2.2]
theorem t53 (c : UInt8) (s : Bs) (hs : s.length ≤ 100000) : PCalls Tryz.prog 131 [(.S 0, .av (.pv (.str (c :: s))))] [(.S 0, .av (ansA (letterB c) (if letterB c then names (c :: s) else ({}, 0, 0))))] := by
  refine PCalls.of_k Tryz.func131 (by decide) rfl fun Q hQ1 hQ2 => ?_
  refine PWp.seq_rg [0, 2, 4] orcD1_ok (mv := mv) (by decide) fun K hK => ?_
  simp only [pwr, pr1, mv, Int.reduceLT, Int.reduceSub, Int.reduceNeg, Int.reduceToNat, ne_eq, reduceIte, reduceCtorEq, Nat.reduceEqDiff, Nat.reduceAdd, Nat.reduceMul, Nat.reduceSub, Nat.reduceLT, Nat.reduceLeDiff, Nat.reduceBEq, if_true, if_false, implies_true, Bool.cond_true, Bool.cond_false, orcD1, c160, c161, c162, c49, uOf_toNat, sOf_sRows, zf]
  repeat' with_reducible refine And.intro ?_ ?_
  all_goals try (first | omega | rfl | ((with_reducible refine drawGoal ?_); exact rfl) | (simp only [inR]; omega) | (intro y hy; simp only [List.mem_singleton] at hy; subst hy; rfl) | (intro y hy; cases hy; done) | (simp only [List.length_append, List.length_map, List.length_cons, List.length_nil]; omega) | (intro h; simp only [inR]; omega) | (intro h; simp only [List.length_append, List.length_map, List.length_cons, List.length_nil]; omega) | (intro h; exact h.elim))
  refine hK _ ?_
  clear hK K
  refine PWp.seq_k fun K1 hK1 => ?_
  refine PWp.seq_rg [0, 2, 4, 9] orcD1_ok (mv := mv) (by decide) fun K hK => ?_
  simp only [pwr, pr1, mv, Int.reduceLT, Int.reduceSub, Int.reduceNeg, Int.reduceToNat, ne_eq, reduceIte, reduceCtorEq, Nat.reduceEqDiff, Nat.reduceAdd, Nat.reduceMul, Nat.reduceSub, Nat.reduceLT, Nat.reduceLeDiff, Nat.reduceBEq, if_true, if_false, implies_true, Bool.cond_true, Bool.cond_false, orcD1, c160, c161, c162, c49, uOf_toNat, sOf_sRows, zf]
  repeat' with_reducible refine And.intro ?_ ?_
  all_goals try (first | exact (ub_bd _).1 | exact (ub_bd _).2 | exact ub_bd _ | omega)
  all_goals try (first | omega | rfl | ((with_reducible refine drawGoal ?_); exact rfl) | (simp only [inR]; omega) | (intro y hy; simp only [List.mem_singleton] at hy; subst hy; rfl) | (intro y hy; cases hy; done) | (simp only [List.length_append, List.length_map, List.length_cons, List.length_nil]; omega) | (intro h; simp only [inR]; omega) | (intro h; simp only [List.length_append, List.length_map, List.length_cons, List.length_nil]; omega) | (intro h; exact h.elim))
  refine hK _ ?_
  clear hK K
  refine PWp.cond (by rfl) (fun hb9 => ?_) (fun hb9 => ?_)
  ·
   try (cases hb9; done)
   all_goals
    refine PWp.seq_rg [2, 3, 4] orcD1_ok (mv := mv) (by decide) fun K hK => ?_
    simp only [pwr, pr1, mv, Int.reduceLT, Int.reduceSub, Int.reduceNeg, Int.reduceToNat, ne_eq, reduceIte, reduceCtorEq, Nat.reduceEqDiff, Nat.reduceAdd, Nat.reduceMul, Nat.reduceSub, Nat.reduceLT, Nat.reduceLeDiff, Nat.reduceBEq, if_true, if_false, implies_true, Bool.cond_true, Bool.cond_false, orcD1, c160, c161, c162, c49, uOf_toNat, sOf_sRows, zf]
    repeat' with_reducible refine And.intro ?_ ?_
    all_goals try (first | omega | rfl | ((with_reducible refine drawGoal ?_); exact rfl) | (simp only [inR]; omega) | (intro y hy; simp only [List.mem_singleton] at hy; subst hy; rfl) | (intro y hy; cases hy; done) | (simp only [List.length_append, List.length_map, List.length_cons, List.length_nil]; omega) | (intro h; simp only [inR]; omega) | (intro h; simp only [List.length_append, List.length_map, List.length_cons, List.length_nil]; omega) | (intro h; exact h.elim))
    refine hK _ ?_
    clear hK K
    refine PWp.ret (hQ2 _ ?_)
    simp only [pwf, pf1, reduceIte, reduceCtorEq, Nat.reduceEqDiff, Nat.reduceAdd, Nat.reduceMul, Nat.reduceSub, Nat.reduceLT, Nat.reduceLeDiff, Nat.reduceBEq, if_true, if_false, implies_true, Bool.cond_true, Bool.cond_false, zf, Tryz.results131]
    repeat simp only [pwf, pf1, reduceIte, reduceCtorEq, Nat.reduceEqDiff, Nat.reduceAdd, Nat.reduceMul, Nat.reduceSub, Nat.reduceLT, Nat.reduceLeDiff, Nat.reduceBEq, if_true, if_false, implies_true, Bool.cond_true, Bool.cond_false, zf]
    have hc : letterB c = false := by simpa using hb9
    simp [hc]
  ·
   try (cases hb9; done)
   all_goals
    refine PWp.skip (hK1 _ ?_)
    refine PWp.seq_rg [2, 4, 5] orcD1_ok (mv := mv) (by decide) fun K hK => ?_
    simp only [pwr, pr1, mv, Int.reduceLT, Int.reduceSub, Int.reduceNeg, Int.reduceToNat, ne_eq, reduceIte, reduceCtorEq, Nat.reduceEqDiff, Nat.reduceAdd, Nat.reduceMul, Nat.reduceSub, Nat.reduceLT, Nat.reduceLeDiff, Nat.reduceBEq, if_true, if_false, implies_true, Bool.cond_true, Bool.cond_false, orcD1, c160, c161, c162, c49, uOf_toNat, sOf_sRows, zf]
    repeat' with_reducible refine And.intro ?_ ?_
    all_goals try ((simp only [List.length_cons]; omega))
    all_goals try (first | omega | rfl | ((with_reducible refine drawGoal ?_); exact rfl) | (simp only [inR]; omega) | (intro y hy; simp only [List.mem_singleton] at hy; subst hy; rfl) | (intro y hy; cases hy; done) | (simp only [List.length_append, List.length_map, List.length_cons, List.length_nil]; omega) | (intro h; simp only [inR]; omega) | (intro h; simp only [List.length_append, List.length_map, List.length_cons, List.length_nil]; omega) | (intro h; exact h.elim))
    refine hK _ ?_
    clear hK K
    refine PWp.seq_k fun K2 hK2 => ?_
    refine PWp.block_k fun Qq3 hq3n hq3x hq3r hq3e => ?_
    have hc : letterB c = true := by simpa using hb9
    refine PWp.seq_rg [2, 4, 5, 14] orcD1_ok (mv := mv) (by decide) fun K hK => ?_
    simp only [pwr, pr1, mv, Int.reduceLT, Int.reduceSub, Int.reduceNeg, Int.reduceToNat, ne_eq, reduceIte, reduceCtorEq, Nat.reduceEqDiff, Nat.reduceAdd, Nat.reduceMul, Nat.reduceSub, Nat.reduceLT, Nat.reduceLeDiff, Nat.reduceBEq, if_true, if_false, implies_true, Bool.cond_true, Bool.cond_false, orcD1, c160, c161, c162, c49, uOf_toNat, sOf_sRows, zf]
    repeat' with_reducible refine And.intro ?_ ?_
    all_goals try (first | omega | rfl | ((with_reducible refine drawGoal ?_); exact rfl) | (simp only [inR]; omega) | (intro y hy; simp only [List.mem_singleton] at hy; subst hy; rfl) | (intro y hy; cases hy; done) | (simp only [List.length_append, List.length_map, List.length_cons, List.length_nil]; omega) | (intro h; simp only [inR]; omega) | (intro h; simp only [List.length_append, List.length_map, List.length_cons, List.length_nil]; omega) | (intro h; exact h.elim))
    refine hK _ ?_
    clear hK K
    refine PWp.cond (by rfl) (fun hb14 => ?_) (fun hb14 => ?_)
    ·
     try (cases hb14; done)
     all_goals
      refine PWp.seq_rg [2, 3, 4] orcD1_ok (mv := mv) (by decide) fun K hK => ?_
      simp only [pwr, pr1, mv, Int.reduceLT, Int.reduceSub, Int.reduceNeg, Int.reduceToNat, ne_eq, reduceIte, reduceCtorEq, Nat.reduceEqDiff, Nat.reduceAdd, Nat.reduceMul, Nat.reduceSub, Nat.reduceLT, Nat.reduceLeDiff, Nat.reduceBEq, if_true, if_false, implies_true, Bool.cond_true, Bool.cond_false, orcD1, c160, c161, c162, c49, uOf_toNat, sOf_sRows, zf]
      repeat' with_reducible refine And.intro ?_ ?_
      all_goals try (first | omega | rfl | ((with_reducible refine drawGoal ?_); exact rfl) | (simp only [inR]; omega) | (intro y hy; simp only [List.mem_singleton] at hy; subst hy; rfl) | (intro y hy; cases hy; done) | (simp only [List.length_append, List.length_map, List.length_cons, List.length_nil]; omega) | (intro h; simp only [inR]; omega) | (intro h; simp only [List.length_append, List.length_map, List.length_cons, List.length_nil]; omega) | (intro h; exact h.elim))
      refine hK _ ?_
      clear hK K
      refine PWp.ret (hq3r _ (hQ2 _ ?_))
      simp only [pwf, pf1, reduceIte, reduceCtorEq, Nat.reduceEqDiff, Nat.reduceAdd, Nat.reduceMul, Nat.reduceSub, Nat.reduceLT, Nat.reduceLeDiff, Nat.reduceBEq, if_true, if_false, implies_true, Bool.cond_true, Bool.cond_false, zf, Tryz.results131]
      repeat simp only [pwf, pf1, reduceIte, reduceCtorEq, Nat.reduceEqDiff, Nat.reduceAdd, Nat.reduceMul, Nat.reduceSub, Nat.reduceLT, Nat.reduceLeDiff, Nat.reduceBEq, if_true, if_false, implies_true, Bool.cond_true, Bool.cond_false, zf]
      have hl : 32 < (wordB (c :: s)).length := by have := of_decide_eq_true hb14; omega
      simp [hc, names, hl]
    ·
     try (cases hb14; done)
     all_goals
      have hl : ¬ 32 < (wordB (c :: s)).length := by have := of_decide_eq_false hb14; omega
      refine PWp.seq_rg [2, 4, 5, 20] orcD1_ok (mv := mv) (by decide) fun K hK => ?_
      simp only [pwr, pr1, mv, Int.reduceLT, Int.reduceSub, Int.reduceNeg, Int.reduceToNat, ne_eq, reduceIte, reduceCtorEq, Nat.reduceEqDiff, Nat.reduceAdd, Nat.reduceMul, Nat.reduceSub, Nat.reduceLT, Nat.reduceLeDiff, Nat.reduceBEq, if_true, if_false, implies_true, Bool.cond_true, Bool.cond_false, orcD1, c160, c161, c162, c49, uOf_toNat, sOf_sRows, zf]
      repeat' with_reducible refine And.intro ?_ ?_
      all_goals try (exact kw_len)
      all_goals try (first | omega | rfl | ((with_reducible refine drawGoal ?_); exact rfl) | (simp only [inR]; omega) | (intro y hy; simp only [List.mem_singleton] at hy; subst hy; rfl) | (intro y hy; cases hy; done) | (simp only [List.length_append, List.length_map, List.length_cons, List.length_nil]; omega) | (intro h; simp only [inR]; omega) | (intro h; simp only [List.length_append, List.length_map, List.length_cons, List.length_nil]; omega) | (intro h; exact h.elim))
      refine hK _ ?_
      clear hK K
      refine PWp.cond (by rfl) (fun hb20 => ?_) (fun hb20 => ?_)
      ·
       try (cases hb20; done)
       all_goals
        refine PWp.seq_rg [2, 3, 4] orcD1_ok (mv := mv) (by decide) fun K hK => ?_
        simp only [pwr, pr1, mv, Int.reduceLT, Int.reduceSub, Int.reduceNeg, Int.reduceToNat, ne_eq, reduceIte, reduceCtorEq, Nat.reduceEqDiff, Nat.reduceAdd, Nat.reduceMul, Nat.reduceSub, Nat.reduceLT, Nat.reduceLeDiff, Nat.reduceBEq, if_true, if_false, implies_true, Bool.cond_true, Bool.cond_false, orcD1, c160, c161, c162, c49, uOf_toNat, sOf_sRows, zf]
        repeat' with_reducible refine And.intro ?_ ?_
        all_goals try (first | omega | rfl | ((with_reducible refine drawGoal ?_); exact rfl) | (simp only [inR]; omega) | (intro y hy; simp only [List.mem_singleton] at hy; subst hy; rfl) | (intro y hy; cases hy; done) | (simp only [List.length_append, List.length_map, List.length_cons, List.length_nil]; omega) | (intro h; simp only [inR]; omega) | (intro h; simp only [List.length_append, List.length_map, List.length_cons, List.length_nil]; omega) | (intro h; exact h.elim))
        refine hK _ ?_
        clear hK K
        refine PWp.ret (hq3r _ (hQ2 _ ?_))
        simp only [pwf, pf1, reduceIte, reduceCtorEq, Nat.reduceEqDiff, Nat.reduceAdd, Nat.reduceMul, Nat.reduceSub, Nat.reduceLT, Nat.reduceLeDiff, Nat.reduceBEq, if_true, if_false, implies_true, Bool.cond_true, Bool.cond_false, zf, Tryz.results131]
        repeat simp only [pwf, pf1, reduceIte, reduceCtorEq, Nat.reduceEqDiff, Nat.reduceAdd, Nat.reduceMul, Nat.reduceSub, Nat.reduceLT, Nat.reduceLeDiff, Nat.reduceBEq, if_true, if_false, implies_true, Bool.cond_true, Bool.cond_false, zf]
        have hk : wordB (c :: s) ∈ keywords := of_decide_eq_true hb20
        simp [hc, names, hl, hk]
      ·
       try (cases hb20; done)
       all_goals
        refine PWp.skip (hq3n _ (hK2 _ ?_))
        refine PWp.seq_rg [2, 3, 4] orcD1_ok (mv := mv) (by decide) fun K hK => ?_
        simp only [pwr, pr1, mv, Int.reduceLT, Int.reduceSub, Int.reduceNeg, Int.reduceToNat, ne_eq, reduceIte, reduceCtorEq, Nat.reduceEqDiff, Nat.reduceAdd, Nat.reduceMul, Nat.reduceSub, Nat.reduceLT, Nat.reduceLeDiff, Nat.reduceBEq, if_true, if_false, implies_true, Bool.cond_true, Bool.cond_false, orcD1, c160, c161, c162, c49, uOf_toNat, sOf_sRows, zf]
        repeat' with_reducible refine And.intro ?_ ?_
        all_goals try (first | omega | rfl | ((with_reducible refine drawGoal ?_); exact rfl) | (simp only [inR]; omega) | (intro y hy; simp only [List.mem_singleton] at hy; subst hy; rfl) | (intro y hy; cases hy; done) | (simp only [List.length_append, List.length_map, List.length_cons, List.length_nil]; omega) | (intro h; simp only [inR]; omega) | (intro h; simp only [List.length_append, List.length_map, List.length_cons, List.length_nil]; omega) | (intro h; exact h.elim))
        refine hK _ ?_
        clear hK K
        refine PWp.ret (hQ2 _ ?_)
        simp only [pwf, pf1, reduceIte, reduceCtorEq, Nat.reduceEqDiff, Nat.reduceAdd, Nat.reduceMul, Nat.reduceSub, Nat.reduceLT, Nat.reduceLeDiff, Nat.reduceBEq, if_true, if_false, implies_true, Bool.cond_true, Bool.cond_false, zf, Tryz.results131]
        repeat simp only [pwf, pf1, reduceIte, reduceCtorEq, Nat.reduceEqDiff, Nat.reduceAdd, Nat.reduceMul, Nat.reduceSub, Nat.reduceLT, Nat.reduceLeDiff, Nat.reduceBEq, if_true, if_false, implies_true, Bool.cond_true, Bool.cond_false, zf]
        have hk : ¬ wordB (c :: s) ∈ keywords := of_decide_eq_false hb20
        simp [hc, names, hl, hk]
def orcD2 : Orc := fun f In => if f = 166 then c166 In else if f = 49 then c49 In else none
theorem orcD2_ok : OrcOk Tryz.prog orcD2 := by
  intro f In pre Ret h hp
  unfold orcD2 at h
  split at h
  · subst f; exact p166 h hp
  split at h
  · subst f; exact p49 h hp
  cases h
theorem marks_of {s : Bs} {m n : Nat} (hm : min 2 s.length = m) (h1 : 1 ≤ n) (hn : n ≤ m) (hno : ∀ k, n < k → k ≤ m → s.take k ∉ symbols) (hy : s.take n ∈ symbols) : marks s = ({ kind := 5, text := s.take n }, 0, 0) := by
  unfold marks
  rcases Nat.lt_or_ge n 2 with h | h
  · have e : n = 1 := by omega
    subst e
    rw [if_neg, if_pos hy]
    rintro ⟨k1, k2⟩
    exact hno 2 (by omega) (by omega) k2
  · have e : n = 2 := by omega
    subst e
    rw [if_pos ⟨by omega, hy⟩]
theorem marks_none {s : Bs} {m : Nat} (hm : min 2 s.length = m) (h0 : s ≠ []) (hno : ∀ k, 0 < k → k ≤ m → s.take k ∉ symbols) : marks s = ({}, 0, 6) := by
  have := List.length_pos_iff.2 h0
  unfold marks
  rw [if_neg, if_neg]
  · exact hno 1 (by omega) (by omega)
  · rintro ⟨k1, k2⟩
    exact hno 2 (by omega) (by omega) k2
theorem t57 (s : Bs) (h0 : s ≠ []) (hs : s.length ≤ 100000) : PCalls Tryz.prog 135 [(.S 0, .av (.pv (.str s)))] [(.S 0, .av (ansA true (marks s)))] := by
  refine PCalls.of_k Tryz.func135 (by decide) rfl fun Q hQ1 hQ2 => ?_
  refine PWp.seq_rg [0, 2, 4] orcD2_ok (mv := mv) (by decide) fun K hK => ?_
  simp only [pwr, pr1, mv, Int.reduceLT, Int.reduceSub, Int.reduceNeg, Int.reduceToNat, ne_eq, reduceIte, reduceCtorEq, Nat.reduceEqDiff, Nat.reduceAdd, Nat.reduceMul, Nat.reduceSub, Nat.reduceLT, Nat.reduceLeDiff, Nat.reduceBEq, if_true, if_false, implies_true, Bool.cond_true, Bool.cond_false, orcD2, c166, c49, sOf_sRows, zf]
  repeat' with_reducible refine And.intro ?_ ?_
  all_goals try (first | omega | rfl | ((with_reducible refine drawGoal ?_); exact rfl) | (simp only [inR]; omega) | (intro y hy; simp only [List.mem_singleton] at hy; subst hy; rfl) | (intro y hy; cases hy; done) | (simp only [List.length_append, List.length_map, List.length_cons, List.length_nil]; omega) | (intro h; simp only [inR]; omega) | (intro h; simp only [List.length_append, List.length_map, List.length_cons, List.length_nil]; omega) | (intro h; exact h.elim))
  refine hK _ ?_
  clear hK K
  refine PWp.seq_k fun K1 hK1 => ?_
  obtain ⟨m, hm⟩ : ∃ m, min 2 s.length = m := ⟨_, rfl⟩
  have hmi : min 2 (s.length : Int) = (m : Int) := by omega
  refine PWp.seq_rg [0, 2, 4, 5] orcD2_ok (mv := mv) (by decide) fun K hK => ?_
  simp only [pwr, pr1, mv, Int.reduceLT, Int.reduceSub, Int.reduceNeg, Int.reduceToNat, ne_eq, reduceIte, reduceCtorEq, Nat.reduceEqDiff, Nat.reduceAdd, Nat.reduceMul, Nat.reduceSub, Nat.reduceLT, Nat.reduceLeDiff, Nat.reduceBEq, if_true, if_false, implies_true, Bool.cond_true, Bool.cond_false, orcD2, c166, c49, sOf_sRows, zf, hmi]
  repeat' with_reducible refine And.intro ?_ ?_
  all_goals try (first | omega | rfl | ((with_reducible refine drawGoal ?_); exact rfl) | (simp only [inR]; omega) | (intro y hy; simp only [List.mem_singleton] at hy; subst hy; rfl) | (intro y hy; cases hy; done) | (simp only [List.length_append, List.length_map, List.length_cons, List.length_nil]; omega) | (intro h; simp only [inR]; omega) | (intro h; simp only [List.length_append, List.length_map, List.length_cons, List.length_nil]; omega) | (intro h; exact h.elim))
  refine hK _ ?_
  clear hK K
  refine PWp.block_k fun Qq2 hq2n hq2x hq2r hq2e => ?_
  refine PWp.loop_k (fun j : Nat => [(.S 0, .av (.pv (.str s))), (.S 2, .av (.ptr 1002 0 0)), (.S 4, .av (.ptr 1004 0 0)), (.S 5, .av (.pv (.int .i64 ((m : Int) - j)))), (.B 1002, .bx 0 [.pv (.int .i64 0), .pv (.str []), .pv (.int .i64 0), .pv (.str []), .pv (.int .i64 0), .pv (.int .i64 0)]), (.B 1004, .bx 0 [.pv (.int .i64 0), .pv (.int .i64 0)])]) (fun j => j ≤ m ∧ ∀ k, m - j < k → k ≤ m → s.take k ∉ symbols) (fun j => m - j) (0) (⟨Nat.zero_le _, fun k h1 h2 => by omega⟩) ?_ ?_
  · repeat simp only [pwf, pf1, reduceIte, reduceCtorEq, Nat.reduceEqDiff, Nat.reduceAdd, Nat.reduceMul, Nat.reduceSub, Nat.reduceLT, Nat.reduceLeDiff, Nat.reduceBEq, if_true, if_false, implies_true, Bool.cond_true, Bool.cond_false, zf]
    first | done | trivial | rfl | (simp; done)
  rintro j ⟨hj, hjn⟩ J1 hJ1
  refine PWp.seq_k fun K3 hK3 => ?_
  refine PWp.seq_rg [0, 2, 4, 5, 10] orcD2_ok (mv := mv) (by decide) fun K hK => ?_
  simp only [pwr, pr1, mv, Int.reduceLT, Int.reduceSub, Int.reduceNeg, Int.reduceToNat, ne_eq, reduceIte, reduceCtorEq, Nat.reduceEqDiff, Nat.reduceAdd, Nat.reduceMul, Nat.reduceSub, Nat.reduceLT, Nat.reduceLeDiff, Nat.reduceBEq, if_true, if_false, implies_true, Bool.cond_true, Bool.cond_false, orcD2, c166, c49, sOf_sRows, zf]
  repeat' with_reducible refine And.intro ?_ ?_
  all_goals try (first | omega | rfl | ((with_reducible refine drawGoal ?_); exact rfl) | (simp only [inR]; omega) | (intro y hy; simp only [List.mem_singleton] at hy; subst hy; rfl) | (intro y hy; cases hy; done) | (simp only [List.length_append, List.length_map, List.length_cons, List.length_nil]; omega) | (intro h; simp only [inR]; omega) | (intro h; simp only [List.length_append, List.length_map, List.length_cons, List.length_nil]; omega) | (intro h; exact h.elim))
  refine hK _ ?_
  clear hK K
  refine PWp.cond (by rfl) (fun hb10 => ?_) (fun hb10 => ?_)
  ·
   try (cases hb10; done)
   all_goals
    refine PWp.skip (hK3 _ ?_)
    refine PWp.seq_k fun K4 hK4 => ?_
    refine PWp.block_k fun Qq5 hq5n hq5x hq5r hq5e => ?_
    have hjm : j < m := by have := of_decide_eq_true hb10; omega
    have eN : ((m : Int) - j).toNat = m - j := by omega
    refine PWp.seq_dr [0, 2, 4, 5, 17] mixed orcD2_ok (mv := mv) (by decide) fun K hK => ?_
    simp only [pwr, pr1, mv, Int.reduceLT, Int.reduceSub, Int.reduceNeg, Int.reduceToNat, ne_eq, reduceIte, reduceCtorEq, Nat.reduceEqDiff, Nat.reduceAdd, Nat.reduceMul, Nat.reduceSub, Nat.reduceLT, Nat.reduceLeDiff, Nat.reduceBEq, if_true, if_false, implies_true, Bool.cond_true, Bool.cond_false, orcD2, c166, c49, sOf_sRows, zf, eN]
    repeat' with_reducible refine And.intro ?_ ?_
    all_goals try (first | exact sym_len | omega)
    all_goals try (first | omega | rfl | ((with_reducible refine drawGoal ?_); exact rfl) | (simp only [inR]; omega) | (intro y hy; simp only [List.mem_singleton] at hy; subst hy; rfl) | (intro y hy; cases hy; done) | (simp only [List.length_append, List.length_map, List.length_cons, List.length_nil]; omega) | (intro h; simp only [inR]; omega) | (intro h; simp only [List.length_append, List.length_map, List.length_cons, List.length_nil]; omega) | (intro h; exact h.elim))
    refine hK _ ?_
    clear hK K
    refine PWp.cond (by rfl) (fun hb17 => ?_) (fun hb17 => ?_)
    ·
     try (cases hb17; done)
     all_goals
      refine PWp.seq_rg [2, 3, 4] orcD2_ok (mv := mv) (by decide) fun K hK => ?_
      simp only [pwr, pr1, mv, Int.reduceLT, Int.reduceSub, Int.reduceNeg, Int.reduceToNat, ne_eq, reduceIte, reduceCtorEq, Nat.reduceEqDiff, Nat.reduceAdd, Nat.reduceMul, Nat.reduceSub, Nat.reduceLT, Nat.reduceLeDiff, Nat.reduceBEq, if_true, if_false, implies_true, Bool.cond_true, Bool.cond_false, orcD2, c166, c49, sOf_sRows, zf, eN]
      repeat' with_reducible refine And.intro ?_ ?_
      all_goals try (omega)
      all_goals try (first | omega | rfl | ((with_reducible refine drawGoal ?_); exact rfl) | (simp only [inR]; omega) | (intro y hy; simp only [List.mem_singleton] at hy; subst hy; rfl) | (intro y hy; cases hy; done) | (simp only [List.length_append, List.length_map, List.length_cons, List.length_nil]; omega) | (intro h; simp only [inR]; omega) | (intro h; simp only [List.length_append, List.length_map, List.length_cons, List.length_nil]; omega) | (intro h; exact h.elim))
      refine hK _ ?_
      clear hK K
      refine PWp.ret (hq5r _ (hq2r _ (hQ2 _ ?_)))
      simp only [pwf, pf1, reduceIte, reduceCtorEq, Nat.reduceEqDiff, Nat.reduceAdd, Nat.reduceMul, Nat.reduceSub, Nat.reduceLT, Nat.reduceLeDiff, Nat.reduceBEq, if_true, if_false, implies_true, Bool.cond_true, Bool.cond_false, zf, Tryz.results135]
      repeat simp only [pwf, pf1, reduceIte, reduceCtorEq, Nat.reduceEqDiff, Nat.reduceAdd, Nat.reduceMul, Nat.reduceSub, Nat.reduceLT, Nat.reduceLeDiff, Nat.reduceBEq, if_true, if_false, implies_true, Bool.cond_true, Bool.cond_false, zf]
      have e := marks_of hm (n := m - j) (by omega) (by omega) hjn (of_decide_eq_true hb17)
      rw [e]
      exact ⟨⟨rfl, rfl, rfl, rfl⟩, rfl, rfl⟩
    ·
     try (cases hb17; done)
     all_goals
      refine PWp.skip (hq5n _ (hK4 _ ?_))
      refine PWp.rg [0, 2, 4, 5] orcD2_ok (mv := mv) (by decide) ?_
      simp only [pwr, pr1, mv, Int.reduceLT, Int.reduceSub, Int.reduceNeg, Int.reduceToNat, ne_eq, reduceIte, reduceCtorEq, Nat.reduceEqDiff, Nat.reduceAdd, Nat.reduceMul, Nat.reduceSub, Nat.reduceLT, Nat.reduceLeDiff, Nat.reduceBEq, if_true, if_false, implies_true, Bool.cond_true, Bool.cond_false, orcD2, c166, c49, sOf_sRows, zf]
      repeat' with_reducible refine And.intro ?_ ?_
      all_goals try (first | omega | rfl | ((with_reducible refine drawGoal ?_); exact rfl) | (simp only [inR]; omega) | (intro y hy; simp only [List.mem_singleton] at hy; subst hy; rfl) | (intro y hy; cases hy; done) | (simp only [List.length_append, List.length_map, List.length_cons, List.length_nil]; omega) | (intro h; simp only [inR]; omega) | (intro h; simp only [List.length_append, List.length_map, List.length_cons, List.length_nil]; omega) | (intro h; exact h.elim))
      refine hJ1 _ (j + 1) ?_ ?_ ?_
      · refine ⟨by omega, fun k h1 h2 => ?_⟩
        rcases Nat.lt_or_ge (m - j) k with h | h
        · exact hjn k h h2
        · have : k = m - j := by omega
          subst this
          exact of_decide_eq_false hb17
      · omega
      · repeat simp only [pwf, pf1, reduceIte, reduceCtorEq, Nat.reduceEqDiff, Nat.reduceAdd, Nat.reduceMul, Nat.reduceSub, Nat.reduceLT, Nat.reduceLeDiff, Nat.reduceBEq, if_true, if_false, implies_true, Bool.cond_true, Bool.cond_false, zf]
        congr 1
        omega
  ·
   try (cases hb10; done)
   all_goals
    refine PWp.exit (hq2x _ (hK1 _ ?_))
    refine PWp.seq_rg [2, 3, 4] orcD2_ok (mv := mv) (by decide) fun K hK => ?_
    simp only [pwr, pr1, mv, Int.reduceLT, Int.reduceSub, Int.reduceNeg, Int.reduceToNat, ne_eq, reduceIte, reduceCtorEq, Nat.reduceEqDiff, Nat.reduceAdd, Nat.reduceMul, Nat.reduceSub, Nat.reduceLT, Nat.reduceLeDiff, Nat.reduceBEq, if_true, if_false, implies_true, Bool.cond_true, Bool.cond_false, orcD2, c166, c49, sOf_sRows, zf]
    repeat' with_reducible refine And.intro ?_ ?_
    all_goals try (first | omega | rfl | ((with_reducible refine drawGoal ?_); exact rfl) | (simp only [inR]; omega) | (intro y hy; simp only [List.mem_singleton] at hy; subst hy; rfl) | (intro y hy; cases hy; done) | (simp only [List.length_append, List.length_map, List.length_cons, List.length_nil]; omega) | (intro h; simp only [inR]; omega) | (intro h; simp only [List.length_append, List.length_map, List.length_cons, List.length_nil]; omega) | (intro h; exact h.elim))
    refine hK _ ?_
    clear hK K
    refine PWp.ret (hQ2 _ ?_)
    simp only [pwf, pf1, reduceIte, reduceCtorEq, Nat.reduceEqDiff, Nat.reduceAdd, Nat.reduceMul, Nat.reduceSub, Nat.reduceLT, Nat.reduceLeDiff, Nat.reduceBEq, if_true, if_false, implies_true, Bool.cond_true, Bool.cond_false, zf, Tryz.results135]
    repeat simp only [pwf, pf1, reduceIte, reduceCtorEq, Nat.reduceEqDiff, Nat.reduceAdd, Nat.reduceMul, Nat.reduceSub, Nat.reduceLT, Nat.reduceLeDiff, Nat.reduceBEq, if_true, if_false, implies_true, Bool.cond_true, Bool.cond_false, zf]
    have hje : j = m := by have := of_decide_eq_false hb10; omega
    have e := marks_none hm h0 (fun k h1 h2 => hjn k (by omega) h2)
    rw [e]
    exact ⟨⟨rfl, rfl, rfl, rfl⟩, rfl, rfl⟩
end Go.Pw.L21
