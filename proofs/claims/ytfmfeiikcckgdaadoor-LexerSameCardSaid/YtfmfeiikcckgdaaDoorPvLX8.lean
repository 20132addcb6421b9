/- The lexer: the statement on comparing. -/
import Derived.Test.YtfmfeiikcckgdaaDoorPvLX6
set_option linter.unusedSimpArgs false
set_option linter.unusedVariables false
set_option linter.unusedSectionVars false
set_option maxHeartbeats 4000000
set_option maxRecDepth 20000
namespace Go.Pw.L21
open Go.Proofs Go.Pw
theorem T6.same_refl (a : T6) : a.same a = true := by unfold T6.same; simp
theorem sameL_refl : ∀ T : List T6, sameL T T = true
  | [] => rfl
  | a :: T => by rw [sameL, T6.same_refl, sameL_refl T]; rfl
def bump (T : List T6) : List T6 := match T with
  | [] => []
  | x :: r => ⟨x.kind, x.text, x.value + 1, x.bytes, x.line, x.col⟩ :: r
theorem bump_not {T : List T6} (h : T ≠ []) : sameL T (bump T) = false := by
  cases T with
  | nil => exact absurd rfl h
  | cons x r =>
    have hx : (x.value == x.value + 1) = false := by rw [beq_eq_false_iff_ne]; omega
    show (T6.same x ⟨x.kind, x.text, x.value + 1, x.bytes, x.line, x.col⟩ && sameL r r) = false
    unfold T6.same
    rw [hx]
    simp
theorem bump_len (T : List T6) : (bump T).length = T.length := by cases T <;> rfl
theorem bump_row {T : List T6} (h : 0 < T.length) : (List.map T6.row T).set 0 [.int .i64 T[0].kind, .str T[0].text, .int .i64 (T[0].value + 1), .str T[0].bytes, .int .i64 T[0].line, .int .i64 T[0].col] = List.map T6.row (bump T) := by
  cases T with
  | nil => simp at h
  | cons x r => rfl
theorem tail_not {T : List T6} (h : T ≠ []) : sameL T (T.drop 1) = false := by
  cases T with
  | nil => exact absurd rfl h
  | cons x r => exact sameL_len (by simp)
theorem toks_value (u : Bs) {l : List (Tok × Nat)} (h : ∀ p ∈ l, Good p.1) : ∀ t ∈ toks u (.ok l), 0 ≤ t.value ∧ t.value ≤ 4294967296 := by
  intro t ht
  rw [toks_ok] at ht
  rcases List.mem_append.1 ht with h1 | h1
  · obtain ⟨p, hp, rfl⟩ := List.mem_map.1 h1
    have := good_kind (h p hp)
    exact ⟨this.2.1, this.2.2.1⟩
  · simp only [List.mem_singleton] at h1
    subst h1
    exact ⟨Int.le_refl 0, by show (0 : Int) ≤ _; omega⟩
theorem row6_len (T : List T6) : ∀ y ∈ List.map T6.row T, y.length = 6 := by
  intro y hy
  obtain ⟨t, _, rfl⟩ := List.mem_map.1 hy
  rfl
theorem t6' (s t : Bs) (hs : s.length ≤ 9223372036854775807) (ht : t.length ≤ 9223372036854775807) : PCalls Tryd.prog 6 [(.S 0, .av (.pv (.str s))), (.S 1, .av (.pv (.str t)))] [(.S 0, .av (.pv (.bool true)))] := by
  refine PCalls.of_k Tryd.func6 (by decide) rfl fun Q hQ1 hQ2 => ?_
  refine PWp.seq_rg [0, 1] orcY3_ok (mv := mv) (by decide) fun K hK => ?_
  simp only [pwr, pr1, mv, Int.reduceLT, Int.reduceSub, Int.reduceNeg, Int.reduceToNat, ne_eq, reduceIte, reduceCtorEq, Nat.reduceEqDiff, Nat.reduceAdd, Nat.reduceMul, Nat.reduceSub, Nat.reduceLT, Nat.reduceLeDiff, Nat.reduceBEq, if_true, if_false, implies_true, Bool.cond_true, Bool.cond_false, orcY3, c10b, c11, c9, c19, c22, tOf_rows, zf, Int.reduceToNat, beq_self_eq_true, errOf, toks_fail]
  repeat' with_reducible refine And.intro ?_ ?_
  all_goals try (first | omega | rfl | ((with_reducible refine drawGoal ?_); exact rfl) | (simp only [inR]; omega) | (intro y hy; simp only [List.mem_singleton] at hy; subst hy; rfl) | (intro y hy; cases hy; done) | (simp only [List.length_append, List.length_map, List.length_cons, List.length_nil]; omega) | (intro h; simp only [inR]; omega) | (intro h; simp only [List.length_append, List.length_map, List.length_cons, List.length_nil]; omega) | (intro h; exact h.elim))
  refine hK _ ?_
  clear hK K
  have hu : (s.take 1500).length ≤ 1500 := by rw [List.length_take]; omega
  obtain ⟨u, hu2⟩ : ∃ u, s.take 1500 = u := ⟨_, rfl⟩
  rw [hu2] at hu
  obtain ⟨v, hv⟩ : ∃ v, scan u = v := ⟨_, rfl⟩
  have hx : (t.take 1500).length ≤ 1500 := by rw [List.length_take]; omega
  obtain ⟨x, hx2⟩ : ∃ u, t.take 1500 = u := ⟨_, rfl⟩
  rw [hx2] at hx
  obtain ⟨w, hw⟩ : ∃ w, scan x = w := ⟨_, rfl⟩
  refine PWp.seq_rg [1, 5, 8] orcY3_ok (mv := mv) (by decide) fun K hK => ?_
  simp only [pwr, pr1, mv, Int.reduceLT, Int.reduceSub, Int.reduceNeg, Int.reduceToNat, ne_eq, reduceIte, reduceCtorEq, Nat.reduceEqDiff, Nat.reduceAdd, Nat.reduceMul, Nat.reduceSub, Nat.reduceLT, Nat.reduceLeDiff, Nat.reduceBEq, if_true, if_false, implies_true, Bool.cond_true, Bool.cond_false, orcY3, c10b, c11, c9, c19, c22, tOf_rows, zf, Int.reduceToNat, beq_self_eq_true, errOf, toks_fail, hu2, hv]
  repeat' with_reducible refine And.intro ?_ ?_
  all_goals try (omega)
  all_goals try (first | omega | rfl | ((with_reducible refine drawGoal ?_); exact rfl) | (simp only [inR]; omega) | (intro y hy; simp only [List.mem_singleton] at hy; subst hy; rfl) | (intro y hy; cases hy; done) | (simp only [List.length_append, List.length_map, List.length_cons, List.length_nil]; omega) | (intro h; simp only [inR]; omega) | (intro h; simp only [List.length_append, List.length_map, List.length_cons, List.length_nil]; omega) | (intro h; exact h.elim))
  refine hK _ ?_
  clear hK K
  refine PWp.seq_rg [5, 8, 9, 12] orcY3_ok (mv := mv) (by decide) fun K hK => ?_
  simp only [pwr, pr1, mv, Int.reduceLT, Int.reduceSub, Int.reduceNeg, Int.reduceToNat, ne_eq, reduceIte, reduceCtorEq, Nat.reduceEqDiff, Nat.reduceAdd, Nat.reduceMul, Nat.reduceSub, Nat.reduceLT, Nat.reduceLeDiff, Nat.reduceBEq, if_true, if_false, implies_true, Bool.cond_true, Bool.cond_false, orcY3, c10b, c11, c9, c19, c22, tOf_rows, zf, Int.reduceToNat, beq_self_eq_true, errOf, toks_fail, hx2, hw]
  repeat' with_reducible refine And.intro ?_ ?_
  all_goals try (omega)
  all_goals try (first | omega | rfl | ((with_reducible refine drawGoal ?_); exact rfl) | (simp only [inR]; omega) | (intro y hy; simp only [List.mem_singleton] at hy; subst hy; rfl) | (intro y hy; cases hy; done) | (simp only [List.length_append, List.length_map, List.length_cons, List.length_nil]; omega) | (intro h; simp only [inR]; omega) | (intro h; simp only [List.length_append, List.length_map, List.length_cons, List.length_nil]; omega) | (intro h; exact h.elim))
  refine hK _ ?_
  clear hK K
  refine PWp.seq_k fun K1 hK1 => ?_
  rcases v with l | ⟨k, e⟩
  rcases w with m | ⟨k, e⟩
  ·
   refine PWp.seq_rg [5, 9, 41] orcY3_ok (mv := mv) (by decide) fun K hK => ?_
   simp only [pwr, pr1, mv, Int.reduceLT, Int.reduceSub, Int.reduceNeg, Int.reduceToNat, ne_eq, reduceIte, reduceCtorEq, Nat.reduceEqDiff, Nat.reduceAdd, Nat.reduceMul, Nat.reduceSub, Nat.reduceLT, Nat.reduceLeDiff, Nat.reduceBEq, if_true, if_false, implies_true, Bool.cond_true, Bool.cond_false, orcY3, c10b, c11, c9, c19, c22, tOf_rows, zf, Int.reduceToNat, beq_self_eq_true, errOf, toks_fail]
   repeat' with_reducible refine And.intro ?_ ?_
   all_goals try (first | omega | (simp; done))
   all_goals try (first | omega | rfl | ((with_reducible refine drawGoal ?_); exact rfl) | (simp only [inR]; omega) | (intro y hy; simp only [List.mem_singleton] at hy; subst hy; rfl) | (intro y hy; cases hy; done) | (simp only [List.length_append, List.length_map, List.length_cons, List.length_nil]; omega) | (intro h; simp only [inR]; omega) | (intro h; simp only [List.length_append, List.length_map, List.length_cons, List.length_nil]; omega) | (intro h; exact h.elim))
   refine hK _ ?_
   clear hK K
   refine PWp.cond (by rfl) (fun hb41 => ?_) (fun hb41 => ?_)
   ·
    try (cases hb41; done)
    all_goals
     refine PWp.seq_rg [4] orcY3_ok (mv := mv) (by decide) fun K hK => ?_
     simp only [pwr, pr1, mv, Int.reduceLT, Int.reduceSub, Int.reduceNeg, Int.reduceToNat, ne_eq, reduceIte, reduceCtorEq, Nat.reduceEqDiff, Nat.reduceAdd, Nat.reduceMul, Nat.reduceSub, Nat.reduceLT, Nat.reduceLeDiff, Nat.reduceBEq, if_true, if_false, implies_true, Bool.cond_true, Bool.cond_false, orcY3, c10b, c11, c9, c19, c22, tOf_rows, zf, Int.reduceToNat, beq_self_eq_true, errOf, toks_fail]
     repeat' with_reducible refine And.intro ?_ ?_
     all_goals try (first | omega | rfl | ((with_reducible refine drawGoal ?_); exact rfl) | (simp only [inR]; omega) | (intro y hy; simp only [List.mem_singleton] at hy; subst hy; rfl) | (intro y hy; cases hy; done) | (simp only [List.length_append, List.length_map, List.length_cons, List.length_nil]; omega) | (intro h; simp only [inR]; omega) | (intro h; simp only [List.length_append, List.length_map, List.length_cons, List.length_nil]; omega) | (intro h; exact h.elim))
     refine hK _ ?_
     clear hK K
     refine PWp.ret (hQ2 _ ?_)
     simp only [pwf, pf1, reduceIte, reduceCtorEq, Nat.reduceEqDiff, Nat.reduceAdd, Nat.reduceMul, Nat.reduceSub, Nat.reduceLT, Nat.reduceLeDiff, Nat.reduceBEq, if_true, if_false, implies_true, Bool.cond_true, Bool.cond_false, zf, Int.reduceToNat, beq_self_eq_true, errOf, toks_fail, Tryd.results6]
     repeat simp only [pwf, pf1, reduceIte, reduceCtorEq, Nat.reduceEqDiff, Nat.reduceAdd, Nat.reduceMul, Nat.reduceSub, Nat.reduceLT, Nat.reduceLeDiff, Nat.reduceBEq, if_true, if_false, implies_true, Bool.cond_true, Bool.cond_false, zf, Int.reduceToNat, beq_self_eq_true, errOf, toks_fail]
     first | done | rfl | (simp; done) | trace_state
   ·
    try (cases hb41; done)
    all_goals
     refine PWp.skip (hK1 _ ?_)
     have hg := (scan_ok hv).1
     have hTl := toks_len u l
     have hTl2 := toks_len x m
     have hln := (scan_ok hv).2.2
     have hln2 := (scan_ok hw).2.2
     have hval := toks_value u hg
     obtain ⟨T, hT⟩ : ∃ T, toks u (.ok l) = T := ⟨_, rfl⟩
     obtain ⟨T2, hT2⟩ : ∃ T, toks x (.ok m) = T := ⟨_, rfl⟩
     rw [hT] at hTl hval ⊢
     rw [hT2] at hTl2 ⊢
     have hT0 : 0 < T.length := by omega
     have hTne : T ≠ [] := List.length_pos_iff.1 hT0
     refine PWp.seq_rg [5, 9, 13] orcY3_ok (mv := mv) (by decide) fun K hK => ?_
     simp only [pwr, pr1, mv, Int.reduceLT, Int.reduceSub, Int.reduceNeg, Int.reduceToNat, ne_eq, reduceIte, reduceCtorEq, Nat.reduceEqDiff, Nat.reduceAdd, Nat.reduceMul, Nat.reduceSub, Nat.reduceLT, Nat.reduceLeDiff, Nat.reduceBEq, if_true, if_false, implies_true, Bool.cond_true, Bool.cond_false, orcY3, c10b, c11, c9, c19, c22, tOf_rows, zf, Int.reduceToNat, beq_self_eq_true, errOf, toks_fail, List.length_map]
     repeat' with_reducible refine And.intro ?_ ?_
     all_goals try (first | omega | rfl | ((with_reducible refine drawGoal ?_); exact rfl) | (simp only [inR]; omega) | (intro y hy; simp only [List.mem_singleton] at hy; subst hy; rfl) | (intro y hy; cases hy; done) | (simp only [List.length_append, List.length_map, List.length_cons, List.length_nil]; omega) | (intro h; simp only [inR]; omega) | (intro h; simp only [List.length_append, List.length_map, List.length_cons, List.length_nil]; omega) | (intro h; exact h.elim))
     refine hK _ ?_
     clear hK K
     refine PWp.seq_k fun K2 hK2 => ?_
     refine PWp.seq_rg [5, 9, 13, 14] orcY3_ok (mv := mv) (by decide) fun K hK => ?_
     simp only [pwr, pr1, mv, Int.reduceLT, Int.reduceSub, Int.reduceNeg, Int.reduceToNat, ne_eq, reduceIte, reduceCtorEq, Nat.reduceEqDiff, Nat.reduceAdd, Nat.reduceMul, Nat.reduceSub, Nat.reduceLT, Nat.reduceLeDiff, Nat.reduceBEq, if_true, if_false, implies_true, Bool.cond_true, Bool.cond_false, orcY3, c10b, c11, c9, c19, c22, tOf_rows, zf, Int.reduceToNat, beq_self_eq_true, errOf, toks_fail]
     repeat' with_reducible refine And.intro ?_ ?_
     all_goals try (first | omega | rfl | ((with_reducible refine drawGoal ?_); exact rfl) | (simp only [inR]; omega) | (intro y hy; simp only [List.mem_singleton] at hy; subst hy; rfl) | (intro y hy; cases hy; done) | (simp only [List.length_append, List.length_map, List.length_cons, List.length_nil]; omega) | (intro h; simp only [inR]; omega) | (intro h; simp only [List.length_append, List.length_map, List.length_cons, List.length_nil]; omega) | (intro h; exact h.elim))
     refine hK _ ?_
     clear hK K
     refine PWp.block_k fun Qq3 hq3n hq3x hq3r hq3e => ?_
     refine PWp.loop_k (fun x : Nat × Bool => [(.S 5, .av (.pv (.sl (t6Rows T)))), (.S 9, .av (.pv (.sl (t6Rows T2)))), (.S 13, .av (.pv (.bool x.2))), (.S 14, .av (.pv (.int .i64 x.1)))]) (fun x => x.1 ≤ T.length ∧ (x.2 = true → T.length = T2.length ∧ sameL T T2 = sameL (T.drop x.1) (T2.drop x.1)) ∧ (x.2 = false → sameL T T2 = false)) (fun x => T.length - x.1) ((0, ((T.length : Int) == (T2.length : Int)))) (⟨Nat.zero_le _, fun h => ⟨by simp at h; omega, rfl⟩, fun h => sameL_len (by simp at h; omega)⟩) ?_ ?_
     · repeat simp only [pwf, pf1, reduceIte, reduceCtorEq, Nat.reduceEqDiff, Nat.reduceAdd, Nat.reduceMul, Nat.reduceSub, Nat.reduceLT, Nat.reduceLeDiff, Nat.reduceBEq, if_true, if_false, implies_true, Bool.cond_true, Bool.cond_false, zf, Int.reduceToNat, beq_self_eq_true, errOf, toks_fail]
       first | done | trivial | rfl | (simp; done)
     rintro ⟨i, b⟩ ⟨hi, hbt, hbf⟩ J1 hJ1
     change i ≤ T.length at hi
     change b = true → T.length = T2.length ∧ sameL T T2 = sameL (T.drop i) (T2.drop i) at hbt
     change b = false → sameL T T2 = false at hbf
     refine PWp.seq_k fun K4 hK4 => ?_
     refine PWp.seq_rg [5, 9, 13, 14, 54] orcY3_ok (mv := mv) (by decide) fun K hK => ?_
     simp only [pwr, pr1, mv, Int.reduceLT, Int.reduceSub, Int.reduceNeg, Int.reduceToNat, ne_eq, reduceIte, reduceCtorEq, Nat.reduceEqDiff, Nat.reduceAdd, Nat.reduceMul, Nat.reduceSub, Nat.reduceLT, Nat.reduceLeDiff, Nat.reduceBEq, if_true, if_false, implies_true, Bool.cond_true, Bool.cond_false, orcY3, c10b, c11, c9, c19, c22, tOf_rows, zf, Int.reduceToNat, beq_self_eq_true, errOf, toks_fail, List.length_map]
     repeat' with_reducible refine And.intro ?_ ?_
     all_goals try (first | omega | rfl | ((with_reducible refine drawGoal ?_); exact rfl) | (simp only [inR]; omega) | (intro y hy; simp only [List.mem_singleton] at hy; subst hy; rfl) | (intro y hy; cases hy; done) | (simp only [List.length_append, List.length_map, List.length_cons, List.length_nil]; omega) | (intro h; simp only [inR]; omega) | (intro h; simp only [List.length_append, List.length_map, List.length_cons, List.length_nil]; omega) | (intro h; exact h.elim))
     refine hK _ ?_
     clear hK K
     refine PWp.cond (by rfl) (fun hb54 => ?_) (fun hb54 => ?_)
     ·
      try (cases hb54; done)
      all_goals
       refine PWp.skip (hK4 _ ?_)
       refine PWp.seq_k fun K5 hK5 => ?_
       refine PWp.block_k fun Qq6 hq6n hq6x hq6r hq6e => ?_
       have hbb : b = true := by simp only [Bool.and_eq_true] at hb54; exact hb54.2
       have hiT : i < T.length := by simp only [Bool.and_eq_true, decide_eq_true_eq] at hb54; omega
       obtain ⟨hll, hst⟩ := hbt hbb
       have hiT2 : i < T2.length := by omega
       have e1 := row_at hiT
       have e2 := row_at hiT2
       rw [List.drop_eq_getElem_cons hiT, List.drop_eq_getElem_cons hiT2, sameL] at hst
       refine PWp.dr [5, 9, 13, 14] mixed orcY3_ok (mv := mv) (by decide) ?_
       simp only [pwr, pr1, mv, Int.reduceLT, Int.reduceSub, Int.reduceNeg, Int.reduceToNat, ne_eq, reduceIte, reduceCtorEq, Nat.reduceEqDiff, Nat.reduceAdd, Nat.reduceMul, Nat.reduceSub, Nat.reduceLT, Nat.reduceLeDiff, Nat.reduceBEq, if_true, if_false, implies_true, Bool.cond_true, Bool.cond_false, orcY3, c10b, c11, c9, c19, c22, tOf_rows, zf, Int.reduceToNat, beq_self_eq_true, errOf, toks_fail, e1, e2, List.length_map]
       repeat' with_reducible refine And.intro ?_ ?_
       all_goals try (first | omega | (intros; omega))
       all_goals try (first | omega | rfl | ((with_reducible refine drawGoal ?_); exact rfl) | (simp only [inR]; omega) | (intro y hy; simp only [List.mem_singleton] at hy; subst hy; rfl) | (intro y hy; cases hy; done) | (simp only [List.length_append, List.length_map, List.length_cons, List.length_nil]; omega) | (intro h; simp only [inR]; omega) | (intro h; simp only [List.length_append, List.length_map, List.length_cons, List.length_nil]; omega) | (intro h; exact h.elim))
       refine hq6n _ (hK5 _ ?_)
       refine PWp.rg [5, 9, 13, 14] orcY3_ok (mv := mv) (by decide) ?_
       simp only [pwr, pr1, mv, Int.reduceLT, Int.reduceSub, Int.reduceNeg, Int.reduceToNat, ne_eq, reduceIte, reduceCtorEq, Nat.reduceEqDiff, Nat.reduceAdd, Nat.reduceMul, Nat.reduceSub, Nat.reduceLT, Nat.reduceLeDiff, Nat.reduceBEq, if_true, if_false, implies_true, Bool.cond_true, Bool.cond_false, orcY3, c10b, c11, c9, c19, c22, tOf_rows, zf, Int.reduceToNat, beq_self_eq_true, errOf, toks_fail]
       repeat' with_reducible refine And.intro ?_ ?_
       all_goals try (first | omega | rfl | ((with_reducible refine drawGoal ?_); exact rfl) | (simp only [inR]; omega) | (intro y hy; simp only [List.mem_singleton] at hy; subst hy; rfl) | (intro y hy; cases hy; done) | (simp only [List.length_append, List.length_map, List.length_cons, List.length_nil]; omega) | (intro h; simp only [inR]; omega) | (intro h; simp only [List.length_append, List.length_map, List.length_cons, List.length_nil]; omega) | (intro h; exact h.elim))
       refine hJ1 _ ((i + 1, T[i].same T2[i])) ?_ ?_ ?_
       · refine ⟨by show i + 1 ≤ _; omega, fun h => ⟨hll, ?_⟩, fun h => ?_⟩
         · have h' : T[i].same T2[i] = true := h
           show sameL T T2 = sameL (T.drop (i + 1)) (T2.drop (i + 1))
           rw [hst, h', Bool.true_and]
         · have h' : T[i].same T2[i] = false := h
           rw [hst, h', Bool.false_and]
       · show T.length - (i + 1) < T.length - i
         omega
       · repeat simp only [pwf, pf1, reduceIte, reduceCtorEq, Nat.reduceEqDiff, Nat.reduceAdd, Nat.reduceMul, Nat.reduceSub, Nat.reduceLT, Nat.reduceLeDiff, Nat.reduceBEq, if_true, if_false, implies_true, Bool.cond_true, Bool.cond_false, zf, Int.reduceToNat, beq_self_eq_true, errOf, toks_fail]
         exact ⟨rfl, rfl⟩
     ·
      try (cases hb54; done)
      all_goals
       refine PWp.exit (hq3x _ (hK2 _ ?_))
       have hbs : sameL T T2 = b := by
         rcases Bool.eq_false_or_eq_true b with hb | hb
         · obtain ⟨h1, h2⟩ := hbt hb
           have hie : i = T.length := by rw [hb, Bool.and_true] at hb54; have := of_decide_eq_false hb54; omega
           rw [h2, hb, hie, List.drop_eq_nil_of_le (Nat.le_refl _), List.drop_eq_nil_of_le (by omega)]; rfl
         · rw [hb]; exact hbf hb
       have e0 := row_at hT0
       have ebump := bump_row hT0
       have hv0 := hval _ (List.getElem_mem hT0)
       have hbn := bump_not hTne
       have hbl := bump_len T
       have htn := tail_not hTne
       have hrf := sameL_refl T
       have hdl : (T.drop 1).length ≤ 1000000 := by rw [List.length_drop]; omega
       have edr : (List.take T.length (List.map T6.row T)).drop 1 = List.map T6.row (T.drop 1) := by rw [List.take_of_length_le (by simp)]; exact List.map_drop.symm
       refine PWp.seq_rg [5, 9, 13, 15] orcY3_ok (mv := mv) (by decide) fun K hK => ?_
       simp only [pwr, pr1, mv, Int.reduceLT, Int.reduceSub, Int.reduceNeg, Int.reduceToNat, ne_eq, reduceIte, reduceCtorEq, Nat.reduceEqDiff, Nat.reduceAdd, Nat.reduceMul, Nat.reduceSub, Nat.reduceLT, Nat.reduceLeDiff, Nat.reduceBEq, if_true, if_false, implies_true, Bool.cond_true, Bool.cond_false, orcY3, c10b, c11, c9, c19, c22, tOf_rows, zf, Int.reduceToNat, beq_self_eq_true, errOf, toks_fail]
       repeat' with_reducible refine And.intro ?_ ?_
       all_goals try (first | omega | exact row6_len T | (intro y hy; exact row6_len T y hy) | (simp only [List.length_map]; omega))
       all_goals try (first | omega | rfl | ((with_reducible refine drawGoal ?_); exact rfl) | (simp only [inR]; omega) | (intro y hy; simp only [List.mem_singleton] at hy; subst hy; rfl) | (intro y hy; cases hy; done) | (simp only [List.length_append, List.length_map, List.length_cons, List.length_nil]; omega) | (intro h; simp only [inR]; omega) | (intro h; simp only [List.length_append, List.length_map, List.length_cons, List.length_nil]; omega) | (intro h; exact h.elim))
       refine hK _ ?_
       clear hK K
       refine PWp.seq_rg [5, 9, 13, 15] orcY3_ok (mv := mv) (by decide) fun K hK => ?_
       simp only [pwr, pr1, mv, Int.reduceLT, Int.reduceSub, Int.reduceNeg, Int.reduceToNat, ne_eq, reduceIte, reduceCtorEq, Nat.reduceEqDiff, Nat.reduceAdd, Nat.reduceMul, Nat.reduceSub, Nat.reduceLT, Nat.reduceLeDiff, Nat.reduceBEq, if_true, if_false, implies_true, Bool.cond_true, Bool.cond_false, orcY3, c10b, c11, c9, c19, c22, tOf_rows, zf, Int.reduceToNat, beq_self_eq_true, errOf, toks_fail, e0, ebump, List.length_map]
       repeat' with_reducible refine And.intro ?_ ?_
       all_goals try (first | omega | (simp only [inR]; omega))
       all_goals try (first | omega | rfl | ((with_reducible refine drawGoal ?_); exact rfl) | (simp only [inR]; omega) | (intro y hy; simp only [List.mem_singleton] at hy; subst hy; rfl) | (intro y hy; cases hy; done) | (simp only [List.length_append, List.length_map, List.length_cons, List.length_nil]; omega) | (intro h; simp only [inR]; omega) | (intro h; simp only [List.length_append, List.length_map, List.length_cons, List.length_nil]; omega) | (intro h; exact h.elim))
       refine hK _ ?_
       clear hK K
       refine PWp.seq_rg [4] orcY3_ok (mv := mv) (by decide) fun K hK => ?_
       simp only [pwr, pr1, mv, Int.reduceLT, Int.reduceSub, Int.reduceNeg, Int.reduceToNat, ne_eq, reduceIte, reduceCtorEq, Nat.reduceEqDiff, Nat.reduceAdd, Nat.reduceMul, Nat.reduceSub, Nat.reduceLT, Nat.reduceLeDiff, Nat.reduceBEq, if_true, if_false, implies_true, Bool.cond_true, Bool.cond_false, orcY3, c10b, c11, c9, c19, c22, tOf_rows, zf, Int.reduceToNat, beq_self_eq_true, errOf, toks_fail, hbs, hbn, htn, hrf, edr, List.length_map]
       repeat' with_reducible refine And.intro ?_ ?_
       all_goals try (first | exact row6_len T | exact fun _ => row6_len T | exact ⟨rfl, rfl, by omega, by omega⟩ | exact fun _ => ⟨rfl, rfl, by omega, by omega⟩ | omega | trace_state)
       all_goals try (first | omega | rfl | ((with_reducible refine drawGoal ?_); exact rfl) | (simp only [inR]; omega) | (intro y hy; simp only [List.mem_singleton] at hy; subst hy; rfl) | (intro y hy; cases hy; done) | (simp only [List.length_append, List.length_map, List.length_cons, List.length_nil]; omega) | (intro h; simp only [inR]; omega) | (intro h; simp only [List.length_append, List.length_map, List.length_cons, List.length_nil]; omega) | (intro h; exact h.elim))
       refine hK _ ?_
       clear hK K
       refine PWp.ret (hQ2 _ ?_)
       simp only [pwf, pf1, reduceIte, reduceCtorEq, Nat.reduceEqDiff, Nat.reduceAdd, Nat.reduceMul, Nat.reduceSub, Nat.reduceLT, Nat.reduceLeDiff, Nat.reduceBEq, if_true, if_false, implies_true, Bool.cond_true, Bool.cond_false, zf, Int.reduceToNat, beq_self_eq_true, errOf, toks_fail, Tryd.results6]
       repeat simp only [pwf, pf1, reduceIte, reduceCtorEq, Nat.reduceEqDiff, Nat.reduceAdd, Nat.reduceMul, Nat.reduceSub, Nat.reduceLT, Nat.reduceLeDiff, Nat.reduceBEq, if_true, if_false, implies_true, Bool.cond_true, Bool.cond_false, zf, Int.reduceToNat, beq_self_eq_true, errOf, toks_fail]
       first | done | rfl | (simp; done) | trace_state
  ·
   have he := scan_err hw
   refine PWp.seq_rg [5, 9, 41] orcY3_ok (mv := mv) (by decide) fun K hK => ?_
   simp only [pwr, pr1, mv, Int.reduceLT, Int.reduceSub, Int.reduceNeg, Int.reduceToNat, ne_eq, reduceIte, reduceCtorEq, Nat.reduceEqDiff, Nat.reduceAdd, Nat.reduceMul, Nat.reduceSub, Nat.reduceLT, Nat.reduceLeDiff, Nat.reduceBEq, if_true, if_false, implies_true, Bool.cond_true, Bool.cond_false, orcY3, c10b, c11, c9, c19, c22, tOf_rows, zf, Int.reduceToNat, beq_self_eq_true, errOf, toks_fail]
   repeat' with_reducible refine And.intro ?_ ?_
   all_goals try (first | omega | (simp; done))
   all_goals try (first | omega | rfl | ((with_reducible refine drawGoal ?_); exact rfl) | (simp only [inR]; omega) | (intro y hy; simp only [List.mem_singleton] at hy; subst hy; rfl) | (intro y hy; cases hy; done) | (simp only [List.length_append, List.length_map, List.length_cons, List.length_nil]; omega) | (intro h; simp only [inR]; omega) | (intro h; simp only [List.length_append, List.length_map, List.length_cons, List.length_nil]; omega) | (intro h; exact h.elim))
   refine hK _ ?_
   clear hK K
   refine PWp.cond (by rfl) (fun hb41 => ?_) (fun hb41 => ?_)
   ·
    try (cases hb41; done)
    all_goals
     refine PWp.seq_rg [4] orcY3_ok (mv := mv) (by decide) fun K hK => ?_
     simp only [pwr, pr1, mv, Int.reduceLT, Int.reduceSub, Int.reduceNeg, Int.reduceToNat, ne_eq, reduceIte, reduceCtorEq, Nat.reduceEqDiff, Nat.reduceAdd, Nat.reduceMul, Nat.reduceSub, Nat.reduceLT, Nat.reduceLeDiff, Nat.reduceBEq, if_true, if_false, implies_true, Bool.cond_true, Bool.cond_false, orcY3, c10b, c11, c9, c19, c22, tOf_rows, zf, Int.reduceToNat, beq_self_eq_true, errOf, toks_fail]
     repeat' with_reducible refine And.intro ?_ ?_
     all_goals try (first | omega | rfl | ((with_reducible refine drawGoal ?_); exact rfl) | (simp only [inR]; omega) | (intro y hy; simp only [List.mem_singleton] at hy; subst hy; rfl) | (intro y hy; cases hy; done) | (simp only [List.length_append, List.length_map, List.length_cons, List.length_nil]; omega) | (intro h; simp only [inR]; omega) | (intro h; simp only [List.length_append, List.length_map, List.length_cons, List.length_nil]; omega) | (intro h; exact h.elim))
     refine hK _ ?_
     clear hK K
     refine PWp.ret (hQ2 _ ?_)
     simp only [pwf, pf1, reduceIte, reduceCtorEq, Nat.reduceEqDiff, Nat.reduceAdd, Nat.reduceMul, Nat.reduceSub, Nat.reduceLT, Nat.reduceLeDiff, Nat.reduceBEq, if_true, if_false, implies_true, Bool.cond_true, Bool.cond_false, zf, Int.reduceToNat, beq_self_eq_true, errOf, toks_fail, Tryd.results6]
     repeat simp only [pwf, pf1, reduceIte, reduceCtorEq, Nat.reduceEqDiff, Nat.reduceAdd, Nat.reduceMul, Nat.reduceSub, Nat.reduceLT, Nat.reduceLeDiff, Nat.reduceBEq, if_true, if_false, implies_true, Bool.cond_true, Bool.cond_false, zf, Int.reduceToNat, beq_self_eq_true, errOf, toks_fail]
     first | done | rfl | (simp; done) | trace_state
   ·
    exact absurd (by simpa using hb41) he
  ·
   have he := scan_err hv
   refine PWp.seq_rg [5, 9, 41] orcY3_ok (mv := mv) (by decide) fun K hK => ?_
   simp only [pwr, pr1, mv, Int.reduceLT, Int.reduceSub, Int.reduceNeg, Int.reduceToNat, ne_eq, reduceIte, reduceCtorEq, Nat.reduceEqDiff, Nat.reduceAdd, Nat.reduceMul, Nat.reduceSub, Nat.reduceLT, Nat.reduceLeDiff, Nat.reduceBEq, if_true, if_false, implies_true, Bool.cond_true, Bool.cond_false, orcY3, c10b, c11, c9, c19, c22, tOf_rows, zf, Int.reduceToNat, beq_self_eq_true, errOf, toks_fail]
   repeat' with_reducible refine And.intro ?_ ?_
   all_goals try (first | omega | (simp; done))
   all_goals try (first | omega | rfl | ((with_reducible refine drawGoal ?_); exact rfl) | (simp only [inR]; omega) | (intro y hy; simp only [List.mem_singleton] at hy; subst hy; rfl) | (intro y hy; cases hy; done) | (simp only [List.length_append, List.length_map, List.length_cons, List.length_nil]; omega) | (intro h; simp only [inR]; omega) | (intro h; simp only [List.length_append, List.length_map, List.length_cons, List.length_nil]; omega) | (intro h; exact h.elim))
   refine hK _ ?_
   clear hK K
   refine PWp.cond (by rfl) (fun hb41 => ?_) (fun hb41 => ?_)
   ·
    try (cases hb41; done)
    all_goals
     refine PWp.seq_rg [4] orcY3_ok (mv := mv) (by decide) fun K hK => ?_
     simp only [pwr, pr1, mv, Int.reduceLT, Int.reduceSub, Int.reduceNeg, Int.reduceToNat, ne_eq, reduceIte, reduceCtorEq, Nat.reduceEqDiff, Nat.reduceAdd, Nat.reduceMul, Nat.reduceSub, Nat.reduceLT, Nat.reduceLeDiff, Nat.reduceBEq, if_true, if_false, implies_true, Bool.cond_true, Bool.cond_false, orcY3, c10b, c11, c9, c19, c22, tOf_rows, zf, Int.reduceToNat, beq_self_eq_true, errOf, toks_fail]
     repeat' with_reducible refine And.intro ?_ ?_
     all_goals try (first | omega | rfl | ((with_reducible refine drawGoal ?_); exact rfl) | (simp only [inR]; omega) | (intro y hy; simp only [List.mem_singleton] at hy; subst hy; rfl) | (intro y hy; cases hy; done) | (simp only [List.length_append, List.length_map, List.length_cons, List.length_nil]; omega) | (intro h; simp only [inR]; omega) | (intro h; simp only [List.length_append, List.length_map, List.length_cons, List.length_nil]; omega) | (intro h; exact h.elim))
     refine hK _ ?_
     clear hK K
     refine PWp.ret (hQ2 _ ?_)
     simp only [pwf, pf1, reduceIte, reduceCtorEq, Nat.reduceEqDiff, Nat.reduceAdd, Nat.reduceMul, Nat.reduceSub, Nat.reduceLT, Nat.reduceLeDiff, Nat.reduceBEq, if_true, if_false, implies_true, Bool.cond_true, Bool.cond_false, zf, Int.reduceToNat, beq_self_eq_true, errOf, toks_fail, Tryd.results6]
     repeat simp only [pwf, pf1, reduceIte, reduceCtorEq, Nat.reduceEqDiff, Nat.reduceAdd, Nat.reduceMul, Nat.reduceSub, Nat.reduceLT, Nat.reduceLeDiff, Nat.reduceBEq, if_true, if_false, implies_true, Bool.cond_true, Bool.cond_false, zf, Int.reduceToNat, beq_self_eq_true, errOf, toks_fail]
     first | done | rfl | (simp; done) | trace_state
   ·
    simp only [Bool.or_eq_false_iff] at hb41
    exact absurd (by simpa using hb41.1) he
end Go.Pw.L21
