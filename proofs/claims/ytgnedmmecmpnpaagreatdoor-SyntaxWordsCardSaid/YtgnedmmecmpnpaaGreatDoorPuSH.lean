/- The lexer: characters and strings. -/
import Derived.Test.YtgnedmmecmpnpaaGreatDoorPuSG
import Derived.Test.YtgnedmmecmpnpaaGreatDoorPvL21S
set_option linter.unusedSimpArgs false
set_option linter.unusedVariables false
set_option linter.unusedSectionVars false
set_option maxHeartbeats 4000000
set_option maxRecDepth 20000
namespace Go.Pw.L21
open Go.Proofs Go.Pw
theorem u39 : uOf 39 = 39 := rfl
theorem u34 : uOf 34 = 34 := rfl
theorem err_of {p : Piece} (h : (pE p != 0) = true) (o : Nat) : (p = .short ∧ pF o p = 0 ∧ pE p = 4) ∨ ∃ k, p = .bad k ∧ pF o p = ((o + k : Nat) : Int) ∧ pE p = 6 := by
  cases p with
  | byte x n => simp [pE] at h
  | short => exact .inl ⟨rfl, rfl, rfl⟩
  | bad k => exact .inr ⟨k, rfl, rfl, rfl⟩
theorem byte_of {p : Piece} (h : (pE p != 0) = false) : ∃ x n, p = .byte x n := by
  cases p with
  | byte x n => exact ⟨x, n, rfl⟩
  | short => simp [pE] at h
  | bad k => simp [pE] at h
section
variable {t : Bs} {x q : UInt8} {n k : Nat} {r : Bs}
theorem ch_short (h : piece (t.drop 1) 39 = .short) : chars t = ({}, 0, 4) := by unfold chars; rw [h]
theorem ch_bad (h : piece (t.drop 1) 39 = .bad k) : chars t = ({}, 1 + k, 6) := by unfold chars; rw [h]
theorem ch_end (h : piece (t.drop 1) 39 = .byte x n) (h2 : t.length ≤ 1 + n) : chars t = ({}, 0, 4) := by unfold chars; rw [h]; simp only; rw [List.drop_eq_nil_of_le h2]
theorem ch_no (h : piece (t.drop 1) 39 = .byte x n) (h2 : t.drop (1 + n) = q :: r) (h3 : q ≠ 39) : chars t = ({}, 1 + n, 6) := by unfold chars; rw [h]; simp only; rw [h2]; simp only; rw [if_pos h3]
theorem ch_ok (h : piece (t.drop 1) 39 = .byte x n) (h2 : t.drop (1 + n) = q :: r) (h3 : q = 39) : chars t = ({ kind := 2, text := t.take (2 + n), value := x.toNat }, 0, 0) := by unfold chars; rw [h]; simp only; rw [h2]; simp only; rw [if_neg (by simp [h3])]
end
def orcH1 : Orc := fun f In => if f = 165 then c165 In else none
theorem orcH1_ok : OrcOk Tryz.prog orcH1 := by
  intro f In pre Ret h hp
  unfold orcH1 at h
  split at h
  · subst f; exact p165 h hp
  cases h
theorem t55 (t : Bs) (c : UInt8) (s : Bs) (ht : t = c :: s) (hs : t.length ≤ 20000) : PCalls Tryz.prog 133 [(.S 0, .av (.pv (.str t)))] [(.S 0, .av (ansA (decide (c = 39)) (if c = 39 then chars t else ({}, 0, 0))))] := by
  have hl : t.length = s.length + 1 := by rw [ht]; rfl
  have hg : t.getD 0 0 = c := by rw [ht]; rfl
  have hd1 : t.drop 1 = s := by rw [ht]; rfl
  refine PCalls.of_k Tryz.func133 (by decide) rfl fun Q hQ1 hQ2 => ?_
  refine PWp.seq_rg [0, 2, 4] orcH1_ok (mv := mv) (by decide) fun K hK => ?_
  simp only [pwr, pr1, mv, Int.reduceLT, Int.reduceSub, Int.reduceNeg, Int.reduceToNat, ne_eq, reduceIte, reduceCtorEq, Nat.reduceEqDiff, Nat.reduceAdd, Nat.reduceMul, Nat.reduceSub, Nat.reduceLT, Nat.reduceLeDiff, Nat.reduceBEq, if_true, if_false, implies_true, Bool.cond_true, Bool.cond_false, orcH1, c165, zf, pieceA, u39, u34, Int.reduceToNat]
  repeat' with_reducible refine And.intro ?_ ?_
  all_goals try (first | omega | rfl | ((with_reducible refine drawGoal ?_); exact rfl) | (simp only [inR]; omega) | (intro y hy; simp only [List.mem_singleton] at hy; subst hy; rfl) | (intro y hy; cases hy; done) | (simp only [List.length_append, List.length_map, List.length_cons, List.length_nil]; omega) | (intro h; simp only [inR]; omega) | (intro h; simp only [List.length_append, List.length_map, List.length_cons, List.length_nil]; omega) | (intro h; exact h.elim))
  refine hK _ ?_
  clear hK K
  refine PWp.seq_k fun K1 hK1 => ?_
  refine PWp.seq_rg [0, 2, 4, 10] orcH1_ok (mv := mv) (by decide) fun K hK => ?_
  simp only [pwr, pr1, mv, Int.reduceLT, Int.reduceSub, Int.reduceNeg, Int.reduceToNat, ne_eq, reduceIte, reduceCtorEq, Nat.reduceEqDiff, Nat.reduceAdd, Nat.reduceMul, Nat.reduceSub, Nat.reduceLT, Nat.reduceLeDiff, Nat.reduceBEq, if_true, if_false, implies_true, Bool.cond_true, Bool.cond_false, orcH1, c165, zf, pieceA, u39, u34, Int.reduceToNat, hg]
  repeat' with_reducible refine And.intro ?_ ?_
  all_goals try (first | exact (ub_bd _).1 | exact (ub_bd _).2 | exact ub_bd _ | omega)
  all_goals try (first | omega | rfl | ((with_reducible refine drawGoal ?_); exact rfl) | (simp only [inR]; omega) | (intro y hy; simp only [List.mem_singleton] at hy; subst hy; rfl) | (intro y hy; cases hy; done) | (simp only [List.length_append, List.length_map, List.length_cons, List.length_nil]; omega) | (intro h; simp only [inR]; omega) | (intro h; simp only [List.length_append, List.length_map, List.length_cons, List.length_nil]; omega) | (intro h; exact h.elim))
  refine hK _ ?_
  clear hK K
  refine PWp.cond (by rfl) (fun hb10 => ?_) (fun hb10 => ?_)
  ·
   try (cases hb10; done)
   all_goals
    refine PWp.seq_rg [2, 3, 4] orcH1_ok (mv := mv) (by decide) fun K hK => ?_
    simp only [pwr, pr1, mv, Int.reduceLT, Int.reduceSub, Int.reduceNeg, Int.reduceToNat, ne_eq, reduceIte, reduceCtorEq, Nat.reduceEqDiff, Nat.reduceAdd, Nat.reduceMul, Nat.reduceSub, Nat.reduceLT, Nat.reduceLeDiff, Nat.reduceBEq, if_true, if_false, implies_true, Bool.cond_true, Bool.cond_false, orcH1, c165, zf, pieceA, u39, u34, Int.reduceToNat]
    repeat' with_reducible refine And.intro ?_ ?_
    all_goals try (first | omega | rfl | ((with_reducible refine drawGoal ?_); exact rfl) | (simp only [inR]; omega) | (intro y hy; simp only [List.mem_singleton] at hy; subst hy; rfl) | (intro y hy; cases hy; done) | (simp only [List.length_append, List.length_map, List.length_cons, List.length_nil]; omega) | (intro h; simp only [inR]; omega) | (intro h; simp only [List.length_append, List.length_map, List.length_cons, List.length_nil]; omega) | (intro h; exact h.elim))
    refine hK _ ?_
    clear hK K
    refine PWp.ret (hQ2 _ ?_)
    simp only [pwf, pf1, reduceIte, reduceCtorEq, Nat.reduceEqDiff, Nat.reduceAdd, Nat.reduceMul, Nat.reduceSub, Nat.reduceLT, Nat.reduceLeDiff, Nat.reduceBEq, if_true, if_false, implies_true, Bool.cond_true, Bool.cond_false, zf, pieceA, u39, u34, Int.reduceToNat, Tryz.results133]
    repeat simp only [pwf, pf1, reduceIte, reduceCtorEq, Nat.reduceEqDiff, Nat.reduceAdd, Nat.reduceMul, Nat.reduceSub, Nat.reduceLT, Nat.reduceLeDiff, Nat.reduceBEq, if_true, if_false, implies_true, Bool.cond_true, Bool.cond_false, zf, pieceA, u39, u34, Int.reduceToNat]
    have hc : c ≠ 39 := (bne_iff c 39).1 hb10
    simp [hc]
  ·
   try (cases hb10; done)
   all_goals
    refine PWp.skip (hK1 _ ?_)
    have hc : c = 39 := by
      rcases Decidable.em (c = 39) with h | h
      · exact h
      · exact absurd (hb10.symm.trans ((bne_iff c 39).2 h)) (by decide)
    obtain ⟨p, hp⟩ : ∃ p, piece s 39 = p := ⟨_, rfl⟩
    have hp1 : piece (t.drop 1) 39 = p := by rw [hd1]; exact hp
    refine PWp.seq_rg [0, 2, 4, 5, 6, 7] orcH1_ok (mv := mv) (by decide) fun K hK => ?_
    simp only [pwr, pr1, mv, Int.reduceLT, Int.reduceSub, Int.reduceNeg, Int.reduceToNat, ne_eq, reduceIte, reduceCtorEq, Nat.reduceEqDiff, Nat.reduceAdd, Nat.reduceMul, Nat.reduceSub, Nat.reduceLT, Nat.reduceLeDiff, Nat.reduceBEq, if_true, if_false, implies_true, Bool.cond_true, Bool.cond_false, orcH1, c165, zf, pieceA, u39, u34, Int.reduceToNat, hp1]
    repeat' with_reducible refine And.intro ?_ ?_
    all_goals try (first | omega | (refine ⟨?_, ?_⟩ <;> omega))
    all_goals try (first | omega | rfl | ((with_reducible refine drawGoal ?_); exact rfl) | (simp only [inR]; omega) | (intro y hy; simp only [List.mem_singleton] at hy; subst hy; rfl) | (intro y hy; cases hy; done) | (simp only [List.length_append, List.length_map, List.length_cons, List.length_nil]; omega) | (intro h; simp only [inR]; omega) | (intro h; simp only [List.length_append, List.length_map, List.length_cons, List.length_nil]; omega) | (intro h; exact h.elim))
    refine hK _ ?_
    clear hK K
    refine PWp.seq_k fun K2 hK2 => ?_
    refine PWp.block_k fun Qq3 hq3n hq3x hq3r hq3e => ?_
    refine PWp.seq_rg [0, 2, 4, 5, 6, 7, 19] orcH1_ok (mv := mv) (by decide) fun K hK => ?_
    simp only [pwr, pr1, mv, Int.reduceLT, Int.reduceSub, Int.reduceNeg, Int.reduceToNat, ne_eq, reduceIte, reduceCtorEq, Nat.reduceEqDiff, Nat.reduceAdd, Nat.reduceMul, Nat.reduceSub, Nat.reduceLT, Nat.reduceLeDiff, Nat.reduceBEq, if_true, if_false, implies_true, Bool.cond_true, Bool.cond_false, orcH1, c165, zf, pieceA, u39, u34, Int.reduceToNat]
    repeat' with_reducible refine And.intro ?_ ?_
    all_goals try (first | omega | rfl | ((with_reducible refine drawGoal ?_); exact rfl) | (simp only [inR]; omega) | (intro y hy; simp only [List.mem_singleton] at hy; subst hy; rfl) | (intro y hy; cases hy; done) | (simp only [List.length_append, List.length_map, List.length_cons, List.length_nil]; omega) | (intro h; simp only [inR]; omega) | (intro h; simp only [List.length_append, List.length_map, List.length_cons, List.length_nil]; omega) | (intro h; exact h.elim))
    refine hK _ ?_
    clear hK K
    refine PWp.cond (by rfl) (fun hb19 => ?_) (fun hb19 => ?_)
    ·
     try (cases hb19; done)
     all_goals
      refine PWp.seq_dr [2, 3, 4] mixed orcH1_ok (mv := mv) (by decide) fun K hK => ?_
      simp only [pwr, pr1, mv, Int.reduceLT, Int.reduceSub, Int.reduceNeg, Int.reduceToNat, ne_eq, reduceIte, reduceCtorEq, Nat.reduceEqDiff, Nat.reduceAdd, Nat.reduceMul, Nat.reduceSub, Nat.reduceLT, Nat.reduceLeDiff, Nat.reduceBEq, if_true, if_false, implies_true, Bool.cond_true, Bool.cond_false, orcH1, c165, zf, pieceA, u39, u34, Int.reduceToNat]
      repeat' with_reducible refine And.intro ?_ ?_
      all_goals try (first | omega | rfl | ((with_reducible refine drawGoal ?_); exact rfl) | (simp only [inR]; omega) | (intro y hy; simp only [List.mem_singleton] at hy; subst hy; rfl) | (intro y hy; cases hy; done) | (simp only [List.length_append, List.length_map, List.length_cons, List.length_nil]; omega) | (intro h; simp only [inR]; omega) | (intro h; simp only [List.length_append, List.length_map, List.length_cons, List.length_nil]; omega) | (intro h; exact h.elim))
      refine hK _ ?_
      clear hK K
      refine PWp.ret (hq3r _ (hQ2 _ ?_))
      simp only [pwf, pf1, reduceIte, reduceCtorEq, Nat.reduceEqDiff, Nat.reduceAdd, Nat.reduceMul, Nat.reduceSub, Nat.reduceLT, Nat.reduceLeDiff, Nat.reduceBEq, if_true, if_false, implies_true, Bool.cond_true, Bool.cond_false, zf, pieceA, u39, u34, Int.reduceToNat, Tryz.results133]
      repeat simp only [pwf, pf1, reduceIte, reduceCtorEq, Nat.reduceEqDiff, Nat.reduceAdd, Nat.reduceMul, Nat.reduceSub, Nat.reduceLT, Nat.reduceLeDiff, Nat.reduceBEq, if_true, if_false, implies_true, Bool.cond_true, Bool.cond_false, zf, pieceA, u39, u34, Int.reduceToNat]
      rcases err_of hb19 1 with ⟨h, e1, e2⟩ | ⟨k, h, e1, e2⟩
      · have e := ch_short (hp1.trans h)
        rw [if_pos hc, e]; subst h; simp [hc, pF, pE]
      · have e := ch_bad (hp1.trans h)
        rw [if_pos hc, e]; subst h; simp [hc, pF, pE]
    ·
     try (cases hb19; done)
     all_goals
      obtain ⟨x, n, hx⟩ := byte_of hb19
      subst hx
      have hpl := (piece_app hp).2.1
      refine PWp.seq_rg [0, 2, 4, 5, 6, 25] orcH1_ok (mv := mv) (by decide) fun K hK => ?_
      simp only [pwr, pr1, mv, Int.reduceLT, Int.reduceSub, Int.reduceNeg, Int.reduceToNat, ne_eq, reduceIte, reduceCtorEq, Nat.reduceEqDiff, Nat.reduceAdd, Nat.reduceMul, Nat.reduceSub, Nat.reduceLT, Nat.reduceLeDiff, Nat.reduceBEq, if_true, if_false, implies_true, Bool.cond_true, Bool.cond_false, orcH1, c165, zf, pieceA, u39, u34, Int.reduceToNat, pN, pC]
      repeat' with_reducible refine And.intro ?_ ?_
      all_goals try (first | omega | rfl | ((with_reducible refine drawGoal ?_); exact rfl) | (simp only [inR]; omega) | (intro y hy; simp only [List.mem_singleton] at hy; subst hy; rfl) | (intro y hy; cases hy; done) | (simp only [List.length_append, List.length_map, List.length_cons, List.length_nil]; omega) | (intro h; simp only [inR]; omega) | (intro h; simp only [List.length_append, List.length_map, List.length_cons, List.length_nil]; omega) | (intro h; exact h.elim))
      refine hK _ ?_
      clear hK K
      refine PWp.cond (by rfl) (fun hb25 => ?_) (fun hb25 => ?_)
      ·
       try (cases hb25; done)
       all_goals
        refine PWp.seq_rg [2, 3, 4] orcH1_ok (mv := mv) (by decide) fun K hK => ?_
        simp only [pwr, pr1, mv, Int.reduceLT, Int.reduceSub, Int.reduceNeg, Int.reduceToNat, ne_eq, reduceIte, reduceCtorEq, Nat.reduceEqDiff, Nat.reduceAdd, Nat.reduceMul, Nat.reduceSub, Nat.reduceLT, Nat.reduceLeDiff, Nat.reduceBEq, if_true, if_false, implies_true, Bool.cond_true, Bool.cond_false, orcH1, c165, zf, pieceA, u39, u34, Int.reduceToNat]
        repeat' with_reducible refine And.intro ?_ ?_
        all_goals try (first | omega | rfl | ((with_reducible refine drawGoal ?_); exact rfl) | (simp only [inR]; omega) | (intro y hy; simp only [List.mem_singleton] at hy; subst hy; rfl) | (intro y hy; cases hy; done) | (simp only [List.length_append, List.length_map, List.length_cons, List.length_nil]; omega) | (intro h; simp only [inR]; omega) | (intro h; simp only [List.length_append, List.length_map, List.length_cons, List.length_nil]; omega) | (intro h; exact h.elim))
        refine hK _ ?_
        clear hK K
        refine PWp.ret (hq3r _ (hQ2 _ ?_))
        simp only [pwf, pf1, reduceIte, reduceCtorEq, Nat.reduceEqDiff, Nat.reduceAdd, Nat.reduceMul, Nat.reduceSub, Nat.reduceLT, Nat.reduceLeDiff, Nat.reduceBEq, if_true, if_false, implies_true, Bool.cond_true, Bool.cond_false, zf, pieceA, u39, u34, Int.reduceToNat, Tryz.results133]
        repeat simp only [pwf, pf1, reduceIte, reduceCtorEq, Nat.reduceEqDiff, Nat.reduceAdd, Nat.reduceMul, Nat.reduceSub, Nat.reduceLT, Nat.reduceLeDiff, Nat.reduceBEq, if_true, if_false, implies_true, Bool.cond_true, Bool.cond_false, zf, pieceA, u39, u34, Int.reduceToNat]
        have e := ch_end hp1 (by have := of_decide_eq_true hb25; omega)
        rw [if_pos hc, e]; simp [hc]
      ·
       try (cases hb25; done)
       all_goals
        have hln : 1 + n < t.length := by have := of_decide_eq_false hb25; omega
        obtain ⟨q, hq⟩ : ∃ q, t.getD (1 + n) 0 = q := ⟨_, rfl⟩
        have hdn := drop_at hln hq
        have e1 : (((1 : Nat) : Int) + (n : Int)).toNat = 1 + n := by omega
        refine PWp.seq_rg [0, 2, 4, 5, 6, 32] orcH1_ok (mv := mv) (by decide) fun K hK => ?_
        simp only [pwr, pr1, mv, Int.reduceLT, Int.reduceSub, Int.reduceNeg, Int.reduceToNat, ne_eq, reduceIte, reduceCtorEq, Nat.reduceEqDiff, Nat.reduceAdd, Nat.reduceMul, Nat.reduceSub, Nat.reduceLT, Nat.reduceLeDiff, Nat.reduceBEq, if_true, if_false, implies_true, Bool.cond_true, Bool.cond_false, orcH1, c165, zf, pieceA, u39, u34, Int.reduceToNat, pN, pC, e1, hq]
        repeat' with_reducible refine And.intro ?_ ?_
        all_goals try (first | omega | exact ub_bd _ | exact (ub_bd _).1 | exact (ub_bd _).2)
        all_goals try (first | omega | rfl | ((with_reducible refine drawGoal ?_); exact rfl) | (simp only [inR]; omega) | (intro y hy; simp only [List.mem_singleton] at hy; subst hy; rfl) | (intro y hy; cases hy; done) | (simp only [List.length_append, List.length_map, List.length_cons, List.length_nil]; omega) | (intro h; simp only [inR]; omega) | (intro h; simp only [List.length_append, List.length_map, List.length_cons, List.length_nil]; omega) | (intro h; exact h.elim))
        refine hK _ ?_
        clear hK K
        refine PWp.cond (by rfl) (fun hb32 => ?_) (fun hb32 => ?_)
        ·
         try (cases hb32; done)
         all_goals
          refine PWp.seq_rg [2, 3, 4] orcH1_ok (mv := mv) (by decide) fun K hK => ?_
          simp only [pwr, pr1, mv, Int.reduceLT, Int.reduceSub, Int.reduceNeg, Int.reduceToNat, ne_eq, reduceIte, reduceCtorEq, Nat.reduceEqDiff, Nat.reduceAdd, Nat.reduceMul, Nat.reduceSub, Nat.reduceLT, Nat.reduceLeDiff, Nat.reduceBEq, if_true, if_false, implies_true, Bool.cond_true, Bool.cond_false, orcH1, c165, zf, pieceA, u39, u34, Int.reduceToNat]
          repeat' with_reducible refine And.intro ?_ ?_
          all_goals try (first | omega | rfl | ((with_reducible refine drawGoal ?_); exact rfl) | (simp only [inR]; omega) | (intro y hy; simp only [List.mem_singleton] at hy; subst hy; rfl) | (intro y hy; cases hy; done) | (simp only [List.length_append, List.length_map, List.length_cons, List.length_nil]; omega) | (intro h; simp only [inR]; omega) | (intro h; simp only [List.length_append, List.length_map, List.length_cons, List.length_nil]; omega) | (intro h; exact h.elim))
          refine hK _ ?_
          clear hK K
          refine PWp.ret (hq3r _ (hQ2 _ ?_))
          simp only [pwf, pf1, reduceIte, reduceCtorEq, Nat.reduceEqDiff, Nat.reduceAdd, Nat.reduceMul, Nat.reduceSub, Nat.reduceLT, Nat.reduceLeDiff, Nat.reduceBEq, if_true, if_false, implies_true, Bool.cond_true, Bool.cond_false, zf, pieceA, u39, u34, Int.reduceToNat, Tryz.results133]
          repeat simp only [pwf, pf1, reduceIte, reduceCtorEq, Nat.reduceEqDiff, Nat.reduceAdd, Nat.reduceMul, Nat.reduceSub, Nat.reduceLT, Nat.reduceLeDiff, Nat.reduceBEq, if_true, if_false, implies_true, Bool.cond_true, Bool.cond_false, zf, pieceA, u39, u34, Int.reduceToNat]
          have e := ch_no hp1 hdn ((bne_iff q 39).1 hb32)
          rw [if_pos hc, e]; simp [hc]
        ·
         try (cases hb32; done)
         all_goals
          refine PWp.skip (hq3n _ (hK2 _ ?_))
          have hq39 : q = 39 := by
            rcases Decidable.em (q = 39) with h | h
            · exact h
            · exact absurd (hb32.symm.trans ((bne_iff q 39).2 h)) (by decide)
          have e2 : (((1 : Nat) : Int) + (n : Int) + 1).toNat = 2 + n := by omega
          refine PWp.seq_rg [2, 3, 4] orcH1_ok (mv := mv) (by decide) fun K hK => ?_
          simp only [pwr, pr1, mv, Int.reduceLT, Int.reduceSub, Int.reduceNeg, Int.reduceToNat, ne_eq, reduceIte, reduceCtorEq, Nat.reduceEqDiff, Nat.reduceAdd, Nat.reduceMul, Nat.reduceSub, Nat.reduceLT, Nat.reduceLeDiff, Nat.reduceBEq, if_true, if_false, implies_true, Bool.cond_true, Bool.cond_false, orcH1, c165, zf, pieceA, u39, u34, Int.reduceToNat, pN, pC, e2]
          repeat' with_reducible refine And.intro ?_ ?_
          all_goals try (first | omega | exact ub_bd _ | exact (ub_bd _).1 | exact (ub_bd _).2 | (simp only [inR]; omega) | (have := ub_bd x; simp only [inR]; omega))
          all_goals try (first | omega | rfl | ((with_reducible refine drawGoal ?_); exact rfl) | (simp only [inR]; omega) | (intro y hy; simp only [List.mem_singleton] at hy; subst hy; rfl) | (intro y hy; cases hy; done) | (simp only [List.length_append, List.length_map, List.length_cons, List.length_nil]; omega) | (intro h; simp only [inR]; omega) | (intro h; simp only [List.length_append, List.length_map, List.length_cons, List.length_nil]; omega) | (intro h; exact h.elim))
          refine hK _ ?_
          clear hK K
          refine PWp.ret (hQ2 _ ?_)
          simp only [pwf, pf1, reduceIte, reduceCtorEq, Nat.reduceEqDiff, Nat.reduceAdd, Nat.reduceMul, Nat.reduceSub, Nat.reduceLT, Nat.reduceLeDiff, Nat.reduceBEq, if_true, if_false, implies_true, Bool.cond_true, Bool.cond_false, zf, pieceA, u39, u34, Int.reduceToNat, Tryz.results133]
          repeat simp only [pwf, pf1, reduceIte, reduceCtorEq, Nat.reduceEqDiff, Nat.reduceAdd, Nat.reduceMul, Nat.reduceSub, Nat.reduceLT, Nat.reduceLeDiff, Nat.reduceBEq, if_true, if_false, implies_true, Bool.cond_true, Bool.cond_false, zf, pieceA, u39, u34, Int.reduceToNat]
          have e := ch_ok hp1 hdn hq39
          rw [if_pos hc, e]; simp [hc]
abbrev bRow (l : Bs) : List (List PV) := l.map fun b => [.int .u8 (b.toNat : Int)]
theorem byteRow_cells (l : Bs) : byteRow (List.map (fun b => [PV.int .u8 (UInt8.toNat b : Int)]) l) = some l := by
  induction l with
  | nil => rfl
  | cons n l ih =>
    simp only [List.map_cons, byteRow, ih, Option.map_some]
    simp
theorem bRow_len (l : Bs) : ∀ y ∈ bRow l, y.length = 1 := by
  intro y hy
  obtain ⟨b, _, rfl⟩ := List.mem_map.1 hy
  rfl
theorem quot_step {t : Bs} {f k : Nat} {b : Bs} (hf : t.length - k < f) (hk : k ≤ t.length) (hc : (decide ((t.length : Int) ≤ (k : Int)) || (((t.getD k 0).toNat : Int) != 34)) = true) :
    quotR f (t.drop k) b k = match piece (t.drop k) 34 with | .short => .fail 0 4 | .bad j => .fail (k + j) 6 | .byte x n => quotR (f - 1) (t.drop (k + n)) (b ++ [x]) (k + n) := by
  obtain ⟨g, rfl⟩ : ∃ g, f = g + 1 := ⟨f - 1, by omega⟩
  rcases Nat.lt_or_ge k t.length with h | h
  · have hd := drop_at h (rfl : t.getD k 0 = t.getD k 0)
    have h34 : t.getD k 0 ≠ 34 := by
      simp only [Bool.or_eq_true, decide_eq_true_eq] at hc
      rcases hc with hc | hc
      · omega
      · exact (bne_iff _ 34).1 hc
    rw [hd, quotR, if_neg h34, ← hd]
    cases piece (t.drop k) 34 with
    | short => rfl
    | bad j => rfl
    | byte x n =>
      simp only [List.drop_drop, Nat.add_sub_cancel]
  · rw [List.drop_eq_nil_of_le h]
    rfl
theorem quot_end {t : Bs} {f k : Nat} {b : Bs} (hf : t.length - k < f) (hc : (decide ((t.length : Int) ≤ (k : Int)) || (((t.getD k 0).toNat : Int) != 34)) = false) :
    quotR f (t.drop k) b k = .done b k ∧ k < t.length := by
  obtain ⟨g, rfl⟩ : ∃ g, f = g + 1 := ⟨f - 1, by omega⟩
  simp only [Bool.or_eq_false_iff, decide_eq_false_iff_not] at hc
  have h : k < t.length := by omega
  have hd := drop_at h (rfl : t.getD k 0 = t.getD k 0)
  have h34 : t.getD k 0 = 34 := by
    rcases Decidable.em (t.getD k 0 = 34) with e | e
    · exact e
    · exact absurd (hc.2.symm.trans ((bne_iff _ 34).2 e)) (by decide)
  rw [hd, quotR, if_pos h34]
  exact ⟨rfl, h⟩
theorem qu_fail {t : Bs} {k : Nat} {e : Int} (h : quotR t.length (t.drop 1) [] 1 = .fail k e) : quoted t = ({}, k, e) := by unfold quoted; rw [h]
theorem qu_long {t b : Bs} {k : Nat} (h : quotR t.length (t.drop 1) [] 1 = .done b k) (h2 : 200 < b.length) : quoted t = ({}, 0, 5) := by unfold quoted; rw [h]; simp only; rw [if_pos h2]
theorem qu_ok {t b : Bs} {k : Nat} (h : quotR t.length (t.drop 1) [] 1 = .done b k) (h2 : ¬ 200 < b.length) : quoted t = ({ kind := 3, text := t.take (k + 1), bytes := b }, 0, 0) := by unfold quoted; rw [h]; simp only; rw [if_neg h2]
theorem t56 (t : Bs) (c : UInt8) (s : Bs) (ht : t = c :: s) (hs : t.length ≤ 20000) : PCalls Tryz.prog 134 [(.S 0, .av (.pv (.str t)))] [(.S 0, .av (ansA (decide (c = 34)) (if c = 34 then quoted t else ({}, 0, 0))))] := by
  have hl : t.length = s.length + 1 := by rw [ht]; rfl
  have hg : t.getD 0 0 = c := by rw [ht]; rfl
  refine PCalls.of_k Tryz.func134 (by decide) rfl fun Q hQ1 hQ2 => ?_
  refine PWp.seq_rg [0, 2, 4] orcH1_ok (mv := mv) (by decide) fun K hK => ?_
  simp only [pwr, pr1, mv, Int.reduceLT, Int.reduceSub, Int.reduceNeg, Int.reduceToNat, ne_eq, reduceIte, reduceCtorEq, Nat.reduceEqDiff, Nat.reduceAdd, Nat.reduceMul, Nat.reduceSub, Nat.reduceLT, Nat.reduceLeDiff, Nat.reduceBEq, if_true, if_false, implies_true, Bool.cond_true, Bool.cond_false, orcH1, c165, zf, pieceA, u39, u34, Int.reduceToNat]
  repeat' with_reducible refine And.intro ?_ ?_
  all_goals try (first | omega | rfl | ((with_reducible refine drawGoal ?_); exact rfl) | (simp only [inR]; omega) | (intro y hy; simp only [List.mem_singleton] at hy; subst hy; rfl) | (intro y hy; cases hy; done) | (simp only [List.length_append, List.length_map, List.length_cons, List.length_nil]; omega) | (intro h; simp only [inR]; omega) | (intro h; simp only [List.length_append, List.length_map, List.length_cons, List.length_nil]; omega) | (intro h; exact h.elim))
  refine hK _ ?_
  clear hK K
  refine PWp.seq_k fun K1 hK1 => ?_
  refine PWp.seq_rg [0, 2, 4, 12] orcH1_ok (mv := mv) (by decide) fun K hK => ?_
  simp only [pwr, pr1, mv, Int.reduceLT, Int.reduceSub, Int.reduceNeg, Int.reduceToNat, ne_eq, reduceIte, reduceCtorEq, Nat.reduceEqDiff, Nat.reduceAdd, Nat.reduceMul, Nat.reduceSub, Nat.reduceLT, Nat.reduceLeDiff, Nat.reduceBEq, if_true, if_false, implies_true, Bool.cond_true, Bool.cond_false, orcH1, c165, zf, pieceA, u39, u34, Int.reduceToNat, hg]
  repeat' with_reducible refine And.intro ?_ ?_
  all_goals try (first | exact (ub_bd _).1 | exact (ub_bd _).2 | exact ub_bd _ | omega)
  all_goals try (first | omega | rfl | ((with_reducible refine drawGoal ?_); exact rfl) | (simp only [inR]; omega) | (intro y hy; simp only [List.mem_singleton] at hy; subst hy; rfl) | (intro y hy; cases hy; done) | (simp only [List.length_append, List.length_map, List.length_cons, List.length_nil]; omega) | (intro h; simp only [inR]; omega) | (intro h; simp only [List.length_append, List.length_map, List.length_cons, List.length_nil]; omega) | (intro h; exact h.elim))
  refine hK _ ?_
  clear hK K
  refine PWp.cond (by rfl) (fun hb12 => ?_) (fun hb12 => ?_)
  ·
   try (cases hb12; done)
   all_goals
    refine PWp.seq_rg [2, 3, 4] orcH1_ok (mv := mv) (by decide) fun K hK => ?_
    simp only [pwr, pr1, mv, Int.reduceLT, Int.reduceSub, Int.reduceNeg, Int.reduceToNat, ne_eq, reduceIte, reduceCtorEq, Nat.reduceEqDiff, Nat.reduceAdd, Nat.reduceMul, Nat.reduceSub, Nat.reduceLT, Nat.reduceLeDiff, Nat.reduceBEq, if_true, if_false, implies_true, Bool.cond_true, Bool.cond_false, orcH1, c165, zf, pieceA, u39, u34, Int.reduceToNat]
    repeat' with_reducible refine And.intro ?_ ?_
    all_goals try (first | omega | rfl | ((with_reducible refine drawGoal ?_); exact rfl) | (simp only [inR]; omega) | (intro y hy; simp only [List.mem_singleton] at hy; subst hy; rfl) | (intro y hy; cases hy; done) | (simp only [List.length_append, List.length_map, List.length_cons, List.length_nil]; omega) | (intro h; simp only [inR]; omega) | (intro h; simp only [List.length_append, List.length_map, List.length_cons, List.length_nil]; omega) | (intro h; exact h.elim))
    refine hK _ ?_
    clear hK K
    refine PWp.ret (hQ2 _ ?_)
    simp only [pwf, pf1, reduceIte, reduceCtorEq, Nat.reduceEqDiff, Nat.reduceAdd, Nat.reduceMul, Nat.reduceSub, Nat.reduceLT, Nat.reduceLeDiff, Nat.reduceBEq, if_true, if_false, implies_true, Bool.cond_true, Bool.cond_false, zf, pieceA, u39, u34, Int.reduceToNat, Tryz.results134]
    repeat simp only [pwf, pf1, reduceIte, reduceCtorEq, Nat.reduceEqDiff, Nat.reduceAdd, Nat.reduceMul, Nat.reduceSub, Nat.reduceLT, Nat.reduceLeDiff, Nat.reduceBEq, if_true, if_false, implies_true, Bool.cond_true, Bool.cond_false, zf, pieceA, u39, u34, Int.reduceToNat]
    have hc : c ≠ 34 := (bne_iff c 34).1 hb12
    simp [hc]
  ·
   try (cases hb12; done)
   all_goals
    refine PWp.skip (hK1 _ ?_)
    have hc : c = 34 := by
      rcases Decidable.em (c = 34) with h | h
      · exact h
      · exact absurd (hb12.symm.trans ((bne_iff c 34).2 h)) (by decide)
    refine PWp.seq_rg [0, 2, 4, 5] orcH1_ok (mv := mv) (by decide) fun K hK => ?_
    simp only [pwr, pr1, mv, Int.reduceLT, Int.reduceSub, Int.reduceNeg, Int.reduceToNat, ne_eq, reduceIte, reduceCtorEq, Nat.reduceEqDiff, Nat.reduceAdd, Nat.reduceMul, Nat.reduceSub, Nat.reduceLT, Nat.reduceLeDiff, Nat.reduceBEq, if_true, if_false, implies_true, Bool.cond_true, Bool.cond_false, orcH1, c165, zf, pieceA, u39, u34, Int.reduceToNat]
    repeat' with_reducible refine And.intro ?_ ?_
    all_goals try (first | omega | rfl | ((with_reducible refine drawGoal ?_); exact rfl) | (simp only [inR]; omega) | (intro y hy; simp only [List.mem_singleton] at hy; subst hy; rfl) | (intro y hy; cases hy; done) | (simp only [List.length_append, List.length_map, List.length_cons, List.length_nil]; omega) | (intro h; simp only [inR]; omega) | (intro h; simp only [List.length_append, List.length_map, List.length_cons, List.length_nil]; omega) | (intro h; exact h.elim))
    refine hK _ ?_
    clear hK K
    refine PWp.seq_rg [0, 2, 4, 5, 6] orcH1_ok (mv := mv) (by decide) fun K hK => ?_
    simp only [pwr, pr1, mv, Int.reduceLT, Int.reduceSub, Int.reduceNeg, Int.reduceToNat, ne_eq, reduceIte, reduceCtorEq, Nat.reduceEqDiff, Nat.reduceAdd, Nat.reduceMul, Nat.reduceSub, Nat.reduceLT, Nat.reduceLeDiff, Nat.reduceBEq, if_true, if_false, implies_true, Bool.cond_true, Bool.cond_false, orcH1, c165, zf, pieceA, u39, u34, Int.reduceToNat]
    repeat' with_reducible refine And.intro ?_ ?_
    all_goals try (first | omega | rfl | ((with_reducible refine drawGoal ?_); exact rfl) | (simp only [inR]; omega) | (intro y hy; simp only [List.mem_singleton] at hy; subst hy; rfl) | (intro y hy; cases hy; done) | (simp only [List.length_append, List.length_map, List.length_cons, List.length_nil]; omega) | (intro h; simp only [inR]; omega) | (intro h; simp only [List.length_append, List.length_map, List.length_cons, List.length_nil]; omega) | (intro h; exact h.elim))
    refine hK _ ?_
    clear hK K
    refine PWp.seq_k fun K2 hK2 => ?_
    refine PWp.block_k fun Qq3 hq3n hq3x hq3r hq3e => ?_
    refine PWp.loop_k (fun x : Bs × Nat => [(.S 0, .av (.pv (.str t))), (.S 2, .av (.ptr 1002 0 0)), (.S 4, .av (.ptr 1004 0 0)), (.S 5, .av (.rf (.RS 5 0) 0)), (.S 6, .av (.pv (.int .i64 (x.2 : Int)))), (.B 1002, .bx 0 [.pv (.int .i64 0), .pv (.str []), .pv (.int .i64 0), .pv (.str []), .pv (.int .i64 0), .pv (.int .i64 0)]), (.B 1004, .bx 0 [.pv (.int .i64 0), .pv (.int .i64 0)]), (.RS 5 0, .rw 0 true 5 (bRow x.1))]) (fun x => 1 ≤ x.2 ∧ x.2 ≤ t.length ∧ x.1.length ≤ x.2 ∧ ∃ f, t.length - x.2 < f ∧ quotR t.length (t.drop 1) [] 1 = quotR f (t.drop x.2) x.1 x.2) (fun x => t.length - x.2) (([], 1)) (⟨Nat.le_refl _, by show 1 ≤ t.length; omega, Nat.zero_le _, t.length, by show t.length - 1 < t.length; omega, rfl⟩) ?_ ?_
    · repeat simp only [pwf, pf1, reduceIte, reduceCtorEq, Nat.reduceEqDiff, Nat.reduceAdd, Nat.reduceMul, Nat.reduceSub, Nat.reduceLT, Nat.reduceLeDiff, Nat.reduceBEq, if_true, if_false, implies_true, Bool.cond_true, Bool.cond_false, zf, pieceA, u39, u34, Int.reduceToNat]
      first | done | trivial | rfl | (simp; done)
    rintro ⟨b, k⟩ ⟨hk1, hkl, hbk, f, hf, hq⟩ J1 hJ1
    change 1 ≤ k at hk1
    change k ≤ t.length at hkl
    change b.length ≤ k at hbk
    change t.length - k < f at hf
    change quotR t.length (t.drop 1) [] 1 = quotR f (t.drop k) b k at hq
    refine PWp.seq_k fun K4 hK4 => ?_
    refine PWp.seq_rg [0, 2, 4, 5, 6, 24] orcH1_ok (mv := mv) (by decide) fun K hK => ?_
    simp only [pwr, pr1, mv, Int.reduceLT, Int.reduceSub, Int.reduceNeg, Int.reduceToNat, ne_eq, reduceIte, reduceCtorEq, Nat.reduceEqDiff, Nat.reduceAdd, Nat.reduceMul, Nat.reduceSub, Nat.reduceLT, Nat.reduceLeDiff, Nat.reduceBEq, if_true, if_false, implies_true, Bool.cond_true, Bool.cond_false, orcH1, c165, zf, pieceA, u39, u34, Int.reduceToNat]
    repeat' with_reducible refine And.intro ?_ ?_
    all_goals try (first | omega | exact (ub_bd _).1 | exact (ub_bd _).2 | exact ub_bd _ | (intro h; simp only [Bool.not_eq_true', decide_eq_false_iff_not] at h; omega))
    all_goals try (first | omega | rfl | ((with_reducible refine drawGoal ?_); exact rfl) | (simp only [inR]; omega) | (intro y hy; simp only [List.mem_singleton] at hy; subst hy; rfl) | (intro y hy; cases hy; done) | (simp only [List.length_append, List.length_map, List.length_cons, List.length_nil]; omega) | (intro h; simp only [inR]; omega) | (intro h; simp only [List.length_append, List.length_map, List.length_cons, List.length_nil]; omega) | (intro h; exact h.elim))
    refine hK _ ?_
    clear hK K
    refine PWp.cond (by rfl) (fun hb24 => ?_) (fun hb24 => ?_)
    ·
     try (cases hb24; done)
     all_goals
      refine PWp.skip (hK4 _ ?_)
      refine PWp.block_k fun Qq5 hq5n hq5x hq5r hq5e => ?_
      obtain ⟨p, hp⟩ : ∃ p, piece (t.drop k) 34 = p := ⟨_, rfl⟩
      have hst := quot_step (b := b) hf hkl hb24
      rw [hp] at hst
      refine PWp.seq_rg [0, 2, 4, 5, 7, 8, 9] orcH1_ok (mv := mv) (by decide) fun K hK => ?_
      simp only [pwr, pr1, mv, Int.reduceLT, Int.reduceSub, Int.reduceNeg, Int.reduceToNat, ne_eq, reduceIte, reduceCtorEq, Nat.reduceEqDiff, Nat.reduceAdd, Nat.reduceMul, Nat.reduceSub, Nat.reduceLT, Nat.reduceLeDiff, Nat.reduceBEq, if_true, if_false, implies_true, Bool.cond_true, Bool.cond_false, orcH1, c165, zf, pieceA, u39, u34, Int.reduceToNat, hp]
      repeat' with_reducible refine And.intro ?_ ?_
      all_goals try (first | omega | (refine ⟨?_, ?_⟩ <;> omega))
      all_goals try (first | omega | rfl | ((with_reducible refine drawGoal ?_); exact rfl) | (simp only [inR]; omega) | (intro y hy; simp only [List.mem_singleton] at hy; subst hy; rfl) | (intro y hy; cases hy; done) | (simp only [List.length_append, List.length_map, List.length_cons, List.length_nil]; omega) | (intro h; simp only [inR]; omega) | (intro h; simp only [List.length_append, List.length_map, List.length_cons, List.length_nil]; omega) | (intro h; exact h.elim))
      refine hK _ ?_
      clear hK K
      refine PWp.seq_k fun K6 hK6 => ?_
      refine PWp.seq_rg [0, 2, 4, 5, 7, 8, 9, 34] orcH1_ok (mv := mv) (by decide) fun K hK => ?_
      simp only [pwr, pr1, mv, Int.reduceLT, Int.reduceSub, Int.reduceNeg, Int.reduceToNat, ne_eq, reduceIte, reduceCtorEq, Nat.reduceEqDiff, Nat.reduceAdd, Nat.reduceMul, Nat.reduceSub, Nat.reduceLT, Nat.reduceLeDiff, Nat.reduceBEq, if_true, if_false, implies_true, Bool.cond_true, Bool.cond_false, orcH1, c165, zf, pieceA, u39, u34, Int.reduceToNat]
      repeat' with_reducible refine And.intro ?_ ?_
      all_goals try (first | omega | rfl | ((with_reducible refine drawGoal ?_); exact rfl) | (simp only [inR]; omega) | (intro y hy; simp only [List.mem_singleton] at hy; subst hy; rfl) | (intro y hy; cases hy; done) | (simp only [List.length_append, List.length_map, List.length_cons, List.length_nil]; omega) | (intro h; simp only [inR]; omega) | (intro h; simp only [List.length_append, List.length_map, List.length_cons, List.length_nil]; omega) | (intro h; exact h.elim))
      refine hK _ ?_
      clear hK K
      refine PWp.cond (by rfl) (fun hb34 => ?_) (fun hb34 => ?_)
      ·
       try (cases hb34; done)
       all_goals
        refine PWp.seq_dr [2, 3, 4] mixed orcH1_ok (mv := mv) (by decide) fun K hK => ?_
        simp only [pwr, pr1, mv, Int.reduceLT, Int.reduceSub, Int.reduceNeg, Int.reduceToNat, ne_eq, reduceIte, reduceCtorEq, Nat.reduceEqDiff, Nat.reduceAdd, Nat.reduceMul, Nat.reduceSub, Nat.reduceLT, Nat.reduceLeDiff, Nat.reduceBEq, if_true, if_false, implies_true, Bool.cond_true, Bool.cond_false, orcH1, c165, zf, pieceA, u39, u34, Int.reduceToNat]
        repeat' with_reducible refine And.intro ?_ ?_
        all_goals try (first | omega | rfl | ((with_reducible refine drawGoal ?_); exact rfl) | (simp only [inR]; omega) | (intro y hy; simp only [List.mem_singleton] at hy; subst hy; rfl) | (intro y hy; cases hy; done) | (simp only [List.length_append, List.length_map, List.length_cons, List.length_nil]; omega) | (intro h; simp only [inR]; omega) | (intro h; simp only [List.length_append, List.length_map, List.length_cons, List.length_nil]; omega) | (intro h; exact h.elim))
        refine hK _ ?_
        clear hK K
        refine PWp.ret (hq5r _ (hq3r _ (hQ2 _ ?_)))
        simp only [pwf, pf1, reduceIte, reduceCtorEq, Nat.reduceEqDiff, Nat.reduceAdd, Nat.reduceMul, Nat.reduceSub, Nat.reduceLT, Nat.reduceLeDiff, Nat.reduceBEq, if_true, if_false, implies_true, Bool.cond_true, Bool.cond_false, zf, pieceA, u39, u34, Int.reduceToNat, Tryz.results134]
        repeat simp only [pwf, pf1, reduceIte, reduceCtorEq, Nat.reduceEqDiff, Nat.reduceAdd, Nat.reduceMul, Nat.reduceSub, Nat.reduceLT, Nat.reduceLeDiff, Nat.reduceBEq, if_true, if_false, implies_true, Bool.cond_true, Bool.cond_false, zf, pieceA, u39, u34, Int.reduceToNat]
        rcases err_of hb34 k with ⟨h, e1, e2⟩ | ⟨j, h, e1, e2⟩
        · subst h
          have e := qu_fail (hq.trans hst)
          rw [if_pos hc, e]; simp [hc, pF, pE]
        · subst h
          have e := qu_fail (hq.trans hst)
          rw [if_pos hc, e]; simp [hc, pF, pE]
      ·
       try (cases hb34; done)
       all_goals
        refine PWp.skip (hK6 _ ?_)
        obtain ⟨x, n, hx⟩ := byte_of hb34
        subst hx
        have hpl := (piece_app hp).2.1
        have hp0 := (piece_app hp).1
        rw [List.length_drop] at hpl
        refine PWp.rg [0, 2, 4, 5, 6] orcH1_ok (mv := mv) (by decide) ?_
        simp only [pwr, pr1, mv, Int.reduceLT, Int.reduceSub, Int.reduceNeg, Int.reduceToNat, ne_eq, reduceIte, reduceCtorEq, Nat.reduceEqDiff, Nat.reduceAdd, Nat.reduceMul, Nat.reduceSub, Nat.reduceLT, Nat.reduceLeDiff, Nat.reduceBEq, if_true, if_false, implies_true, Bool.cond_true, Bool.cond_false, orcH1, c165, zf, pieceA, u39, u34, Int.reduceToNat, pN, pC]
        repeat' with_reducible refine And.intro ?_ ?_
        all_goals try (first | omega | exact bRow_len _ | (simp only [List.length_map]; omega) | (intro y hy; rcases List.mem_append.1 hy with h | h <;> first | exact bRow_len _ y h | (simp only [List.mem_singleton] at h; subst h; rfl)))
        all_goals try (first | omega | rfl | ((with_reducible refine drawGoal ?_); exact rfl) | (simp only [inR]; omega) | (intro y hy; simp only [List.mem_singleton] at hy; subst hy; rfl) | (intro y hy; cases hy; done) | (simp only [List.length_append, List.length_map, List.length_cons, List.length_nil]; omega) | (intro h; simp only [inR]; omega) | (intro h; simp only [List.length_append, List.length_map, List.length_cons, List.length_nil]; omega) | (intro h; exact h.elim))
        refine hq5n _ (hJ1 _ ((b ++ [x], k + n)) ?_ ?_ ?_)
        · exact ⟨by show 1 ≤ k + n; omega, by show k + n ≤ t.length; omega, by show (b ++ [x]).length ≤ k + n; simp only [List.length_append, List.length_singleton]; omega, f - 1, by show t.length - (k + n) < f - 1; omega, hq.trans hst⟩
        · show t.length - (k + n) < t.length - k
          omega
        · repeat simp only [pwf, pf1, reduceIte, reduceCtorEq, Nat.reduceEqDiff, Nat.reduceAdd, Nat.reduceMul, Nat.reduceSub, Nat.reduceLT, Nat.reduceLeDiff, Nat.reduceBEq, if_true, if_false, implies_true, Bool.cond_true, Bool.cond_false, zf, pieceA, u39, u34, Int.reduceToNat]
          simp
    ·
     try (cases hb24; done)
     all_goals
      refine PWp.exit (hq3x _ (hK2 _ ?_))
      refine PWp.seq_k fun K7 hK7 => ?_
      refine PWp.seq_rg [0, 2, 4, 5, 6, 44] orcH1_ok (mv := mv) (by decide) fun K hK => ?_
      simp only [pwr, pr1, mv, Int.reduceLT, Int.reduceSub, Int.reduceNeg, Int.reduceToNat, ne_eq, reduceIte, reduceCtorEq, Nat.reduceEqDiff, Nat.reduceAdd, Nat.reduceMul, Nat.reduceSub, Nat.reduceLT, Nat.reduceLeDiff, Nat.reduceBEq, if_true, if_false, implies_true, Bool.cond_true, Bool.cond_false, orcH1, c165, zf, pieceA, u39, u34, Int.reduceToNat]
      repeat' with_reducible refine And.intro ?_ ?_
      all_goals try (first | omega | rfl | ((with_reducible refine drawGoal ?_); exact rfl) | (simp only [inR]; omega) | (intro y hy; simp only [List.mem_singleton] at hy; subst hy; rfl) | (intro y hy; cases hy; done) | (simp only [List.length_append, List.length_map, List.length_cons, List.length_nil]; omega) | (intro h; simp only [inR]; omega) | (intro h; simp only [List.length_append, List.length_map, List.length_cons, List.length_nil]; omega) | (intro h; exact h.elim))
      refine hK _ ?_
      clear hK K
      refine PWp.cond (by rfl) (fun hb44 => ?_) (fun hb44 => ?_)
      ·
       try (cases hb44; done)
       all_goals
        refine PWp.seq_rg [2, 3, 4] orcH1_ok (mv := mv) (by decide) fun K hK => ?_
        simp only [pwr, pr1, mv, Int.reduceLT, Int.reduceSub, Int.reduceNeg, Int.reduceToNat, ne_eq, reduceIte, reduceCtorEq, Nat.reduceEqDiff, Nat.reduceAdd, Nat.reduceMul, Nat.reduceSub, Nat.reduceLT, Nat.reduceLeDiff, Nat.reduceBEq, if_true, if_false, implies_true, Bool.cond_true, Bool.cond_false, orcH1, c165, zf, pieceA, u39, u34, Int.reduceToNat]
        repeat' with_reducible refine And.intro ?_ ?_
        all_goals try (first | omega | rfl | ((with_reducible refine drawGoal ?_); exact rfl) | (simp only [inR]; omega) | (intro y hy; simp only [List.mem_singleton] at hy; subst hy; rfl) | (intro y hy; cases hy; done) | (simp only [List.length_append, List.length_map, List.length_cons, List.length_nil]; omega) | (intro h; simp only [inR]; omega) | (intro h; simp only [List.length_append, List.length_map, List.length_cons, List.length_nil]; omega) | (intro h; exact h.elim))
        refine hK _ ?_
        clear hK K
        refine PWp.ret (hQ2 _ ?_)
        simp only [pwf, pf1, reduceIte, reduceCtorEq, Nat.reduceEqDiff, Nat.reduceAdd, Nat.reduceMul, Nat.reduceSub, Nat.reduceLT, Nat.reduceLeDiff, Nat.reduceBEq, if_true, if_false, implies_true, Bool.cond_true, Bool.cond_false, zf, pieceA, u39, u34, Int.reduceToNat, Tryz.results134]
        repeat simp only [pwf, pf1, reduceIte, reduceCtorEq, Nat.reduceEqDiff, Nat.reduceAdd, Nat.reduceMul, Nat.reduceSub, Nat.reduceLT, Nat.reduceLeDiff, Nat.reduceBEq, if_true, if_false, implies_true, Bool.cond_true, Bool.cond_false, zf, pieceA, u39, u34, Int.reduceToNat]
        have hqe := quot_end (b := b) hf hb24
        have e := qu_long (hq.trans hqe.1) (by have := of_decide_eq_true hb44; omega)
        rw [if_pos hc, e]; simp [hc]
      ·
       try (cases hb44; done)
       all_goals
        refine PWp.skip (hK7 _ ?_)
        have hqe := quot_end (b := b) hf hb24
        have hkt := hqe.2
        have e := qu_ok (hq.trans hqe.1) (by have := of_decide_eq_false hb44; omega)
        have e2 : ((k : Int) + 1).toNat = k + 1 := by omega
        refine PWp.seq_dr [2, 3, 4] mixed orcH1_ok (mv := mv) (by decide) fun K hK => ?_
        simp only [pwr, pr1, mv, Int.reduceLT, Int.reduceSub, Int.reduceNeg, Int.reduceToNat, ne_eq, reduceIte, reduceCtorEq, Nat.reduceEqDiff, Nat.reduceAdd, Nat.reduceMul, Nat.reduceSub, Nat.reduceLT, Nat.reduceLeDiff, Nat.reduceBEq, if_true, if_false, implies_true, Bool.cond_true, Bool.cond_false, orcH1, c165, zf, pieceA, u39, u34, Int.reduceToNat, e2, byteRow_cells]
        repeat' with_reducible refine And.intro ?_ ?_
        all_goals try (first | omega | (simp only [inR]; omega))
        all_goals try (first | omega | rfl | ((with_reducible refine drawGoal ?_); exact rfl) | (simp only [inR]; omega) | (intro y hy; simp only [List.mem_singleton] at hy; subst hy; rfl) | (intro y hy; cases hy; done) | (simp only [List.length_append, List.length_map, List.length_cons, List.length_nil]; omega) | (intro h; simp only [inR]; omega) | (intro h; simp only [List.length_append, List.length_map, List.length_cons, List.length_nil]; omega) | (intro h; exact h.elim))
        refine hK _ ?_
        clear hK K
        refine PWp.ret (hQ2 _ ?_)
        simp only [pwf, pf1, reduceIte, reduceCtorEq, Nat.reduceEqDiff, Nat.reduceAdd, Nat.reduceMul, Nat.reduceSub, Nat.reduceLT, Nat.reduceLeDiff, Nat.reduceBEq, if_true, if_false, implies_true, Bool.cond_true, Bool.cond_false, zf, pieceA, u39, u34, Int.reduceToNat, Tryz.results134]
        repeat simp only [pwf, pf1, reduceIte, reduceCtorEq, Nat.reduceEqDiff, Nat.reduceAdd, Nat.reduceMul, Nat.reduceSub, Nat.reduceLT, Nat.reduceLeDiff, Nat.reduceBEq, if_true, if_false, implies_true, Bool.cond_true, Bool.cond_false, zf, pieceA, u39, u34, Int.reduceToNat]
        rw [if_pos hc, e]; simp [hc]
end Go.Pw.L21
