/- The syntax: levels in the reference. -/
import Derived.Test.YtgnedmmecmpnpaaGreatDoorPuSLv
import Derived.Test.YtgnedmmecmpnpaaGreatDoorPuSLr
set_option linter.unusedSimpArgs false
set_option linter.unusedVariables false
set_option linter.unusedSectionVars false
set_option maxHeartbeats 4000000
set_option maxRecDepth 20000
namespace Go.Pw.L22
open Go.Proofs Go.Pw Go.Pw.L21
abbrev lvRows (l : List (List Bs)) : List (List PV) := l.map fun x => [.sl (sRows x)]
theorem lv_len : levels.length = 10 := by decide
theorem lv_each : ∀ l ∈ levels, l.length ≤ 4 := by decide
theorem t22 (s : Bs) : PCalls Tryz.prog 22 [(.S 0, .av (.pv (.str s)))] [(.S 0, .av (.pv (.int .i64 (levelB s))))] := by
  refine PCalls.of_k Tryz.func22 (by decide) rfl fun Q hQ1 hQ2 => ?_
  refine PWp.seq_rg [0] orc0_ok (mv := mv) (by decide) fun K hK => ?_
  simp only [pwr, pr1, mv, Int.reduceLT, Int.reduceSub, Int.reduceNeg, Int.reduceToNat, ne_eq, reduceIte, reduceCtorEq, Nat.reduceEqDiff, Nat.reduceAdd, Nat.reduceMul, Nat.reduceSub, Nat.reduceLT, Nat.reduceLeDiff, Nat.reduceBEq, if_true, if_false, implies_true, Bool.cond_true, Bool.cond_false, orc0, zf]
  repeat' with_reducible refine And.intro ?_ ?_
  all_goals try (first | omega | rfl | ((with_reducible refine drawGoal ?_); exact rfl) | (simp only [inR]; omega) | (intro y hy; simp only [List.mem_singleton] at hy; subst hy; rfl) | (intro y hy; cases hy; done) | (simp only [List.length_append, List.length_map, List.length_cons, List.length_nil]; omega) | (intro h; simp only [inR]; omega) | (intro h; simp only [List.length_append, List.length_map, List.length_cons, List.length_nil]; omega) | (intro h; exact h.elim))
  refine hK _ ?_
  clear hK K
  refine PWp.seq_run (mv := mv) ([(.S 0, .av (.pv (.str s))), (.S 3, .av (.pv (.sl (lvRows levels))))]) noB_ok noF_ok ([(.S 0, .av (.pv (.str s))), (.RS 6 0, .rw 0 false 9 [[.str [124, 124]]]), (.S 6, .av (.rf (.RS 6 0) 0)), (.RS 7 0, .rw 0 false 9 [[.str [38, 38]]]), (.S 7, .av (.rf (.RS 7 0) 0)), (.RS 8 0, .rw 0 false 9 [[.str [124]]]), (.S 8, .av (.rf (.RS 8 0) 0)), (.RS 9 0, .rw 0 false 9 [[.str [94]]]), (.S 9, .av (.rf (.RS 9 0) 0)), (.RS 10 0, .rw 0 false 9 [[.str [38]]]), (.S 10, .av (.rf (.RS 10 0) 0)), (.RS 11 0, .rw 0 false 9 [[.str [61, 61]], [.str [33, 61]]]), (.S 11, .av (.rf (.RS 11 0) 0)), (.RS 12 0, .rw 0 false 9 [[.str [60]], [.str [60, 61]], [.str [62]], [.str [62, 61]]]), (.S 12, .av (.rf (.RS 12 0) 0)), (.RS 13 0, .rw 0 false 9 [[.str [60, 60]], [.str [62, 62]]]), (.S 13, .av (.rf (.RS 13 0) 0)), (.RS 14 0, .rw 0 false 9 [[.str [43]], [.str [45]]]), (.S 14, .av (.rf (.RS 14 0) 0)), (.RS 15 0, .rw 0 false 9 [[.str [42]], [.str [47]], [.str [37]]]), (.S 15, .av (.rf (.RS 15 0) 0)), (.RS 16 0, .dead 1), (.S 16, .av (.rf (.RS 16 0) 0)), (.RS 3 0, .rw 0 true 47 [[.sl [[.str [124, 124]]]], [.sl [[.str [38, 38]]]], [.sl [[.str [124]]]], [.sl [[.str [94]]]], [.sl [[.str [38]]]], [.sl [[.str [61, 61]], [.str [33, 61]]]], [.sl [[.str [60]], [.str [60, 61]], [.str [62]], [.str [62, 61]]]], [.sl [[.str [60, 60]], [.str [62, 62]]]], [.sl [[.str [43]], [.str [45]]]], [.sl [[.str [42]], [.str [47]], [.str [37]]]]]), (.S 3, .av (.rf (.RS 3 0) 0))]) (by decide) (by kernel_rfl) ?_ ?_
  · repeat simp only [pwf, pf1, reduceIte, reduceCtorEq, Nat.reduceEqDiff, Nat.reduceAdd, Nat.reduceMul, Nat.reduceSub, Nat.reduceLT, Nat.reduceLeDiff, Nat.reduceBEq, if_true, if_false, implies_true, Bool.cond_true, Bool.cond_false, zf]
    exact rfl
  refine PWp.seq_k fun K1 hK1 => ?_
  refine PWp.seq_rg [0, 3, 4] orc0_ok (mv := mv) (by decide) fun K hK => ?_
  simp only [pwr, pr1, mv, Int.reduceLT, Int.reduceSub, Int.reduceNeg, Int.reduceToNat, ne_eq, reduceIte, reduceCtorEq, Nat.reduceEqDiff, Nat.reduceAdd, Nat.reduceMul, Nat.reduceSub, Nat.reduceLT, Nat.reduceLeDiff, Nat.reduceBEq, if_true, if_false, implies_true, Bool.cond_true, Bool.cond_false, orc0, zf]
  repeat' with_reducible refine And.intro ?_ ?_
  all_goals try (first | omega | rfl | ((with_reducible refine drawGoal ?_); exact rfl) | (simp only [inR]; omega) | (intro y hy; simp only [List.mem_singleton] at hy; subst hy; rfl) | (intro y hy; cases hy; done) | (simp only [List.length_append, List.length_map, List.length_cons, List.length_nil]; omega) | (intro h; simp only [inR]; omega) | (intro h; simp only [List.length_append, List.length_map, List.length_cons, List.length_nil]; omega) | (intro h; exact h.elim))
  refine hK _ ?_
  clear hK K
  refine PWp.block_k fun Qq2 hq2n hq2x hq2r hq2e => ?_
  refine PWp.loop_k (fun i : Nat => [(.S 0, .av (.pv (.str s))), (.S 3, .av (.pv (.sl (lvRows levels)))), (.S 4, .av (.pv (.int .i64 i)))]) (fun i => i ≤ levels.length ∧ levelB s = levelFrom s (levels.drop i) ((i : Int) + 1)) (fun i => levels.length - i) (0) (⟨Nat.zero_le _, rfl⟩) ?_ ?_
  · repeat simp only [pwf, pf1, reduceIte, reduceCtorEq, Nat.reduceEqDiff, Nat.reduceAdd, Nat.reduceMul, Nat.reduceSub, Nat.reduceLT, Nat.reduceLeDiff, Nat.reduceBEq, if_true, if_false, implies_true, Bool.cond_true, Bool.cond_false, zf]
    try exact rfl
  rintro i ⟨hi, hinv⟩ J1 hJ1
  refine PWp.seq_k fun K3 hK3 => ?_
  refine PWp.seq_rg [0, 3, 4, 20] orc0_ok (mv := mv) (by decide) fun K hK => ?_
  simp only [pwr, pr1, mv, Int.reduceLT, Int.reduceSub, Int.reduceNeg, Int.reduceToNat, ne_eq, reduceIte, reduceCtorEq, Nat.reduceEqDiff, Nat.reduceAdd, Nat.reduceMul, Nat.reduceSub, Nat.reduceLT, Nat.reduceLeDiff, Nat.reduceBEq, if_true, if_false, implies_true, Bool.cond_true, Bool.cond_false, orc0, zf, List.length_map]
  repeat' with_reducible refine And.intro ?_ ?_
  all_goals try (first | omega | rfl | ((with_reducible refine drawGoal ?_); exact rfl) | (simp only [inR]; omega) | (intro y hy; simp only [List.mem_singleton] at hy; subst hy; rfl) | (intro y hy; cases hy; done) | (simp only [List.length_append, List.length_map, List.length_cons, List.length_nil]; omega) | (intro h; simp only [inR]; omega) | (intro h; simp only [List.length_append, List.length_map, List.length_cons, List.length_nil]; omega) | (intro h; exact h.elim))
  refine hK _ ?_
  clear hK K
  refine PWp.cond (by rfl) (fun hb20 => ?_) (fun hb20 => ?_)
  ·
   try (cases hb20; done)
   all_goals
    refine PWp.skip (hK3 _ ?_)
    refine PWp.seq_k fun K4 hK4 => ?_
    refine PWp.block_k fun Qq5 hq5n hq5x hq5r hq5e => ?_
    have hil : i < levels.length := by have := of_decide_eq_true hb20; omega
    obtain ⟨L, hL⟩ : ∃ L, levels[i] = L := ⟨_, rfl⟩
    have e1 : (lvRows levels).getD i [] = [.sl (sRows L)] := by rw [← hL]; exact getD_map hil
    have hli := lv_each _ (List.getElem_mem hil)
    have hlv := lv_len
    rw [hL] at hli
    rw [List.drop_eq_getElem_cons hil, hL, levelFrom] at hinv
    refine PWp.seq_rg [0, 3, 4, 5] orc0_ok (mv := mv) (by decide) fun K hK => ?_
    simp only [pwr, pr1, mv, Int.reduceLT, Int.reduceSub, Int.reduceNeg, Int.reduceToNat, ne_eq, reduceIte, reduceCtorEq, Nat.reduceEqDiff, Nat.reduceAdd, Nat.reduceMul, Nat.reduceSub, Nat.reduceLT, Nat.reduceLeDiff, Nat.reduceBEq, if_true, if_false, implies_true, Bool.cond_true, Bool.cond_false, orc0, zf]
    repeat' with_reducible refine And.intro ?_ ?_
    all_goals try (first | omega | rfl | ((with_reducible refine drawGoal ?_); exact rfl) | (simp only [inR]; omega) | (intro y hy; simp only [List.mem_singleton] at hy; subst hy; rfl) | (intro y hy; cases hy; done) | (simp only [List.length_append, List.length_map, List.length_cons, List.length_nil]; omega) | (intro h; simp only [inR]; omega) | (intro h; simp only [List.length_append, List.length_map, List.length_cons, List.length_nil]; omega) | (intro h; exact h.elim))
    refine hK _ ?_
    clear hK K
    refine PWp.block_l fun Qq6 hq6n hq6x hq6r hq6e => ?_
    refine PWp.loop_k (fun j : Nat => [(.S 0, .av (.pv (.str s))), (.S 3, .av (.pv (.sl (lvRows levels)))), (.S 4, .av (.pv (.int .i64 i))), (.S 5, .av (.pv (.int .i64 j)))]) (fun j => j ≤ L.length ∧ s ∉ L.take j) (fun j => L.length - j) (0) (⟨Nat.zero_le _, by simp⟩) ?_ ?_
    · repeat simp only [pwf, pf1, reduceIte, reduceCtorEq, Nat.reduceEqDiff, Nat.reduceAdd, Nat.reduceMul, Nat.reduceSub, Nat.reduceLT, Nat.reduceLeDiff, Nat.reduceBEq, if_true, if_false, implies_true, Bool.cond_true, Bool.cond_false, zf]
      first | done | trivial | rfl | (simp; done)
    rintro j ⟨hj, hjn⟩ J2 hJ2
    refine PWp.seq_k fun K7 hK7 => ?_
    refine PWp.seq_rg [0, 3, 4, 5, 29] orc0_ok (mv := mv) (by decide) fun K hK => ?_
    simp only [pwr, pr1, mv, Int.reduceLT, Int.reduceSub, Int.reduceNeg, Int.reduceToNat, ne_eq, reduceIte, reduceCtorEq, Nat.reduceEqDiff, Nat.reduceAdd, Nat.reduceMul, Nat.reduceSub, Nat.reduceLT, Nat.reduceLeDiff, Nat.reduceBEq, if_true, if_false, implies_true, Bool.cond_true, Bool.cond_false, orc0, zf, e1, List.length_map]
    repeat' with_reducible refine And.intro ?_ ?_
    all_goals try (first | omega | rfl | ((with_reducible refine drawGoal ?_); exact rfl) | (simp only [inR]; omega) | (intro y hy; simp only [List.mem_singleton] at hy; subst hy; rfl) | (intro y hy; cases hy; done) | (simp only [List.length_append, List.length_map, List.length_cons, List.length_nil]; omega) | (intro h; simp only [inR]; omega) | (intro h; simp only [List.length_append, List.length_map, List.length_cons, List.length_nil]; omega) | (intro h; exact h.elim))
    refine hK _ ?_
    clear hK K
    refine PWp.cond (by rfl) (fun hb29 => ?_) (fun hb29 => ?_)
    ·
     try (cases hb29; done)
     all_goals
      refine PWp.skip (hK7 _ ?_)
      refine PWp.seq_k fun K8 hK8 => ?_
      refine PWp.block_k fun Qq9 hq9n hq9x hq9r hq9e => ?_
      have hjl : j < L.length := by have := of_decide_eq_true hb29; omega
      have e2 : (sRows L).getD j [] = [.str L[j]] := getD_map hjl
      refine PWp.seq_rg [0, 3, 4, 5, 40] orc0_ok (mv := mv) (by decide) fun K hK => ?_
      simp only [pwr, pr1, mv, Int.reduceLT, Int.reduceSub, Int.reduceNeg, Int.reduceToNat, ne_eq, reduceIte, reduceCtorEq, Nat.reduceEqDiff, Nat.reduceAdd, Nat.reduceMul, Nat.reduceSub, Nat.reduceLT, Nat.reduceLeDiff, Nat.reduceBEq, if_true, if_false, implies_true, Bool.cond_true, Bool.cond_false, orc0, zf, e1, e2, List.length_map]
      repeat' with_reducible refine And.intro ?_ ?_
      all_goals try (first | omega | rfl | ((with_reducible refine drawGoal ?_); exact rfl) | (simp only [inR]; omega) | (intro y hy; simp only [List.mem_singleton] at hy; subst hy; rfl) | (intro y hy; cases hy; done) | (simp only [List.length_append, List.length_map, List.length_cons, List.length_nil]; omega) | (intro h; simp only [inR]; omega) | (intro h; simp only [List.length_append, List.length_map, List.length_cons, List.length_nil]; omega) | (intro h; exact h.elim))
      refine hK _ ?_
      clear hK K
      refine PWp.cond (by rfl) (fun hb40 => ?_) (fun hb40 => ?_)
      ·
       try (cases hb40; done)
       all_goals
        refine PWp.seq_rg [2] orc0_ok (mv := mv) (by decide) fun K hK => ?_
        simp only [pwr, pr1, mv, Int.reduceLT, Int.reduceSub, Int.reduceNeg, Int.reduceToNat, ne_eq, reduceIte, reduceCtorEq, Nat.reduceEqDiff, Nat.reduceAdd, Nat.reduceMul, Nat.reduceSub, Nat.reduceLT, Nat.reduceLeDiff, Nat.reduceBEq, if_true, if_false, implies_true, Bool.cond_true, Bool.cond_false, orc0, zf]
        repeat' with_reducible refine And.intro ?_ ?_
        all_goals try (first | omega | rfl | ((with_reducible refine drawGoal ?_); exact rfl) | (simp only [inR]; omega) | (intro y hy; simp only [List.mem_singleton] at hy; subst hy; rfl) | (intro y hy; cases hy; done) | (simp only [List.length_append, List.length_map, List.length_cons, List.length_nil]; omega) | (intro h; simp only [inR]; omega) | (intro h; simp only [List.length_append, List.length_map, List.length_cons, List.length_nil]; omega) | (intro h; exact h.elim))
        refine hK _ ?_
        clear hK K
        refine PWp.ret (hq9r _ (hq6r _ (hq5r _ (hq2r _ (hQ2 _ ?_)))))
        simp only [pwf, pf1, reduceIte, reduceCtorEq, Nat.reduceEqDiff, Nat.reduceAdd, Nat.reduceMul, Nat.reduceSub, Nat.reduceLT, Nat.reduceLeDiff, Nat.reduceBEq, if_true, if_false, implies_true, Bool.cond_true, Bool.cond_false, zf, Tryz.results22]
        repeat simp only [pwf, pf1, reduceIte, reduceCtorEq, Nat.reduceEqDiff, Nat.reduceAdd, Nat.reduceMul, Nat.reduceSub, Nat.reduceLT, Nat.reduceLeDiff, Nat.reduceBEq, if_true, if_false, implies_true, Bool.cond_true, Bool.cond_false, zf]
        have he : L[j] = s := by simpa using hb40
        have hm : s ∈ L := by rw [← he]; exact List.getElem_mem hjl
        rw [hinv, if_pos hm]
      ·
       try (cases hb40; done)
       all_goals
        refine PWp.skip (hq9n _ (hK8 _ ?_))
        refine PWp.rg [0, 3, 4, 5] orc0_ok (mv := mv) (by decide) ?_
        simp only [pwr, pr1, mv, Int.reduceLT, Int.reduceSub, Int.reduceNeg, Int.reduceToNat, ne_eq, reduceIte, reduceCtorEq, Nat.reduceEqDiff, Nat.reduceAdd, Nat.reduceMul, Nat.reduceSub, Nat.reduceLT, Nat.reduceLeDiff, Nat.reduceBEq, if_true, if_false, implies_true, Bool.cond_true, Bool.cond_false, orc0, zf]
        repeat' with_reducible refine And.intro ?_ ?_
        all_goals try (first | omega | rfl | ((with_reducible refine drawGoal ?_); exact rfl) | (simp only [inR]; omega) | (intro y hy; simp only [List.mem_singleton] at hy; subst hy; rfl) | (intro y hy; cases hy; done) | (simp only [List.length_append, List.length_map, List.length_cons, List.length_nil]; omega) | (intro h; simp only [inR]; omega) | (intro h; simp only [List.length_append, List.length_map, List.length_cons, List.length_nil]; omega) | (intro h; exact h.elim))
        refine hJ2 _ (j + 1) ?_ ?_ ?_
        · refine ⟨by omega, fun hm => ?_⟩
          rw [List.take_succ_eq_append_getElem hjl] at hm
          rcases List.mem_append.1 hm with h | h
          · exact hjn h
          · simp only [List.mem_singleton] at h
            rw [h] at hb40
            simp at hb40
        · omega
        · repeat simp only [pwf, pf1, reduceIte, reduceCtorEq, Nat.reduceEqDiff, Nat.reduceAdd, Nat.reduceMul, Nat.reduceSub, Nat.reduceLT, Nat.reduceLeDiff, Nat.reduceBEq, if_true, if_false, implies_true, Bool.cond_true, Bool.cond_false, zf]
          simp
    ·
     try (cases hb29; done)
     all_goals
      refine PWp.exit (hq6x _ (hq5n _ (hK4 _ ?_)))
      refine PWp.rg [0, 3, 4] orc0_ok (mv := mv) (by decide) ?_
      simp only [pwr, pr1, mv, Int.reduceLT, Int.reduceSub, Int.reduceNeg, Int.reduceToNat, ne_eq, reduceIte, reduceCtorEq, Nat.reduceEqDiff, Nat.reduceAdd, Nat.reduceMul, Nat.reduceSub, Nat.reduceLT, Nat.reduceLeDiff, Nat.reduceBEq, if_true, if_false, implies_true, Bool.cond_true, Bool.cond_false, orc0, zf]
      repeat' with_reducible refine And.intro ?_ ?_
      all_goals try (first | omega | rfl | ((with_reducible refine drawGoal ?_); exact rfl) | (simp only [inR]; omega) | (intro y hy; simp only [List.mem_singleton] at hy; subst hy; rfl) | (intro y hy; cases hy; done) | (simp only [List.length_append, List.length_map, List.length_cons, List.length_nil]; omega) | (intro h; simp only [inR]; omega) | (intro h; simp only [List.length_append, List.length_map, List.length_cons, List.length_nil]; omega) | (intro h; exact h.elim))
      refine hJ1 _ (i + 1) ?_ ?_ ?_
      · have hje : j = L.length := by have := of_decide_eq_false hb29; omega
        rw [hje, List.take_length] at hjn
        rw [if_neg hjn] at hinv
        refine ⟨by omega, ?_⟩
        rw [hinv]
        congr 1
      · omega
      · repeat simp only [pwf, pf1, reduceIte, reduceCtorEq, Nat.reduceEqDiff, Nat.reduceAdd, Nat.reduceMul, Nat.reduceSub, Nat.reduceLT, Nat.reduceLeDiff, Nat.reduceBEq, if_true, if_false, implies_true, Bool.cond_true, Bool.cond_false, zf]
        simp
  ·
   try (cases hb20; done)
   all_goals
    refine PWp.exit (hq2x _ (hK1 _ ?_))
    refine PWp.seq_rg [2] orc0_ok (mv := mv) (by decide) fun K hK => ?_
    simp only [pwr, pr1, mv, Int.reduceLT, Int.reduceSub, Int.reduceNeg, Int.reduceToNat, ne_eq, reduceIte, reduceCtorEq, Nat.reduceEqDiff, Nat.reduceAdd, Nat.reduceMul, Nat.reduceSub, Nat.reduceLT, Nat.reduceLeDiff, Nat.reduceBEq, if_true, if_false, implies_true, Bool.cond_true, Bool.cond_false, orc0, zf]
    repeat' with_reducible refine And.intro ?_ ?_
    all_goals try (first | omega | rfl | ((with_reducible refine drawGoal ?_); exact rfl) | (simp only [inR]; omega) | (intro y hy; simp only [List.mem_singleton] at hy; subst hy; rfl) | (intro y hy; cases hy; done) | (simp only [List.length_append, List.length_map, List.length_cons, List.length_nil]; omega) | (intro h; simp only [inR]; omega) | (intro h; simp only [List.length_append, List.length_map, List.length_cons, List.length_nil]; omega) | (intro h; exact h.elim))
    refine hK _ ?_
    clear hK K
    refine PWp.ret (hQ2 _ ?_)
    simp only [pwf, pf1, reduceIte, reduceCtorEq, Nat.reduceEqDiff, Nat.reduceAdd, Nat.reduceMul, Nat.reduceSub, Nat.reduceLT, Nat.reduceLeDiff, Nat.reduceBEq, if_true, if_false, implies_true, Bool.cond_true, Bool.cond_false, zf, Tryz.results22]
    repeat simp only [pwf, pf1, reduceIte, reduceCtorEq, Nat.reduceEqDiff, Nat.reduceAdd, Nat.reduceMul, Nat.reduceSub, Nat.reduceLT, Nat.reduceLeDiff, Nat.reduceBEq, if_true, if_false, implies_true, Bool.cond_true, Bool.cond_false, zf]
    have hie : i = levels.length := by have := of_decide_eq_false hb20; omega
    rw [hinv, hie, List.drop_length]
    rfl
end Go.Pw.L22
