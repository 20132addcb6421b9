/- The lexer: the statement on places. -/
import Derived.Test.YtfmfeiikcckgdaaDoorPvLX6
set_option linter.unusedSimpArgs false
set_option linter.unusedVariables false
set_option linter.unusedSectionVars false
set_option maxHeartbeats 4000000
set_option maxRecDepth 20000
namespace Go.Pw.L21
open Go.Proofs Go.Pw
/-- where the tokens stand -/
structure Pl (S : Bs) (T : List T6) (o : Nat → Nat) : Prop where
  le : ∀ j, j < T.length → o j ≤ S.length
  at_ : ∀ j (h : j < T.length), (T[j].line, T[j].col) = place S (o j)
  text : ∀ j (h : j < T.length), ∃ tl, S.drop (o j) = T[j].text ++ tl
  lt : ∀ j k, j < k → k < T.length → o j < o k
theorem places_of {S : Bs} {l : List (Tok × Nat)} (h : scan S = .ok l) : ∃ o, Pl S (toks S (.ok l)) o := by
  have hst : (∀ p ∈ l, Stands S p) ∧ l.Pairwise (fun p q => q.2 < p.2) := by
    unfold scan at h
    split at h
    · cases h
    · obtain ⟨l', e, h1, h2⟩ := scanF_stands (S := S) _ _ _ _ ⟨[], rfl⟩ h
      rw [List.nil_append] at e
      subst e
      exact ⟨fun p hp => (h1 p hp).1, h2⟩
  obtain ⟨hs, hp⟩ := hst
  have hl := toks_len S l
  refine ⟨fun j => if h : j < l.length then S.length - l[j].2 else S.length, ⟨fun j hj => ?_, fun j hj => ?_, fun j hj => ?_, fun j k hjk hk => ?_⟩⟩
  · split <;> omega
  · rcases Nat.lt_or_ge j l.length with h1 | h1
    · rw [dif_pos h1, toks_at h1]; rfl
    · have e : j = l.length := by omega
      subst e
      rw [dif_neg (by omega)]
      simp only [toks_ok, List.length_map, List.getElem_append_right, List.length_map, Nat.sub_self, List.getElem_cons_zero, Nat.le_refl]
      rfl
  · rcases Nat.lt_or_ge j l.length with h1 | h1
    · rw [dif_pos h1, toks_at h1]
      exact (hs _ (List.getElem_mem h1)).2.2.2
    · have e : j = l.length := by omega
      subst e
      rw [dif_neg (by omega)]
      simp only [toks_ok, List.length_map, List.getElem_append_right, List.length_map, Nat.sub_self, List.getElem_cons_zero, Nat.le_refl]
      exact ⟨[], by rw [List.drop_length]; rfl⟩
  · have hjl : j < l.length := by omega
    have h0 := hs _ (List.getElem_mem hjl)
    rw [dif_pos hjl]
    rcases Nat.lt_or_ge k l.length with h1 | h1
    · rw [dif_pos h1]
      have := List.pairwise_iff_getElem.1 hp j k hjl h1 hjk
      have := h0.2.1
      omega
    · rw [dif_neg (by omega)]
      have := h0.1
      have := h0.2.1
      omega
theorem no_next {S : Bs} {T : List T6} {o : Nat → Nat} (hpl : Pl S T o) {i n : Nat} (hn : n < T.length) (h0 : i ≤ o n) (hne : o n ≠ i) : ∀ j, j < T.length → n ≤ j → i + 1 ≤ o j := by
  intro j hj hnj
  rcases Nat.lt_or_ge n j with h | h
  · have := hpl.lt n j h hj
    omega
  · have : j = n := by omega
    subst this
    omega
theorem no_next' {S : Bs} {T : List T6} {o : Nat → Nat} (hpl : Pl S T o) {i n : Nat} (heq : o n = i) : ∀ j, j < T.length → n + 1 ≤ j → i + 1 ≤ o j := by
  intro j hj hnj
  have := hpl.lt n j hnj hj
  omega
theorem b98t {i l : Nat} {x : UInt8} (h : (decide ((i : Int) < (l : Int)) && ((x.toNat : Int) == 10)) = true) : i < l ∧ x = 10 := by
  simp only [Bool.and_eq_true, decide_eq_true_eq] at h
  exact ⟨by omega, (ueq x 10).1 h.2⟩
theorem b98f {i l : Nat} {x : UInt8} (h : (decide ((i : Int) < (l : Int)) && ((x.toNat : Int) == 10)) = false) (hi : i + 1 ≤ l) : x ≠ 10 := by
  rintro rfl
  have : decide ((i : Int) < (l : Int)) = true := by simp; omega
  rw [this] at h
  cases h
theorem last_row (S : Bs) (l : List (Tok × Nat)) : (List.map T6.row (toks S (.ok l))).getD l.length [] = [.int .i64 0, .str [], .int .i64 0, .str [], .int .i64 (place S S.length).1, .int .i64 (place S S.length).2] := by
  rw [toks_ok, List.map_append, List.map_map]
  rw [List.getD_eq_getElem?_getD, List.getElem?_append_right (by simp)]
  simp
  rfl
theorem t3 (s : Bs) (hs : s.length ≤ 9223372036854775807) : PCalls Tryd.prog 3 [(.S 0, .av (.pv (.str s)))] [(.S 0, .av (.pv (.bool true)))] := by
  refine PCalls.of_k Tryd.func3 (by decide) rfl fun Q hQ1 hQ2 => ?_
  refine PWp.seq_rg [0] orcY3_ok (mv := mv) (by decide) fun K hK => ?_
  simp only [pwr, pr1, mv, Int.reduceLT, Int.reduceSub, Int.reduceNeg, Int.reduceToNat, ne_eq, reduceIte, reduceCtorEq, Nat.reduceEqDiff, Nat.reduceAdd, Nat.reduceMul, Nat.reduceSub, Nat.reduceLT, Nat.reduceLeDiff, Nat.reduceBEq, if_true, if_false, implies_true, Bool.cond_true, Bool.cond_false, orcY3, c10b, c11, c9, c19, c22, tOf_rows, zf, Int.reduceToNat, beq_self_eq_true, errOf, toks_fail]
  repeat' with_reducible refine And.intro ?_ ?_
  all_goals try (first | omega | rfl | ((with_reducible refine drawGoal ?_); exact rfl) | (simp only [inR]; omega) | (intro y hy; simp only [List.mem_singleton] at hy; subst hy; rfl) | (intro y hy; cases hy; done) | (simp only [List.length_append, List.length_map, List.length_cons, List.length_nil]; omega) | (intro h; simp only [inR]; omega) | (intro h; simp only [List.length_append, List.length_map, List.length_cons, List.length_nil]; omega) | (intro h; exact h.elim))
  refine hK _ ?_
  clear hK K
  have hu : (s.take 1500).length ≤ 1500 := by rw [List.length_take]; omega
  obtain ⟨u, hu2⟩ : ∃ u, s.take 1500 = u := ⟨_, rfl⟩
  rw [hu2] at hu
  refine PWp.seq_rg [0] orcY3_ok (mv := mv) (by decide) fun K hK => ?_
  simp only [pwr, pr1, mv, Int.reduceLT, Int.reduceSub, Int.reduceNeg, Int.reduceToNat, ne_eq, reduceIte, reduceCtorEq, Nat.reduceEqDiff, Nat.reduceAdd, Nat.reduceMul, Nat.reduceSub, Nat.reduceLT, Nat.reduceLeDiff, Nat.reduceBEq, if_true, if_false, implies_true, Bool.cond_true, Bool.cond_false, orcY3, c10b, c11, c9, c19, c22, tOf_rows, zf, Int.reduceToNat, beq_self_eq_true, errOf, toks_fail, hu2]
  repeat' with_reducible refine And.intro ?_ ?_
  all_goals try (omega)
  all_goals try (first | omega | rfl | ((with_reducible refine drawGoal ?_); exact rfl) | (simp only [inR]; omega) | (intro y hy; simp only [List.mem_singleton] at hy; subst hy; rfl) | (intro y hy; cases hy; done) | (simp only [List.length_append, List.length_map, List.length_cons, List.length_nil]; omega) | (intro h; simp only [inR]; omega) | (intro h; simp only [List.length_append, List.length_map, List.length_cons, List.length_nil]; omega) | (intro h; exact h.elim))
  refine hK _ ?_
  clear hK K
  obtain ⟨v, hv⟩ : ∃ v, scan u = v := ⟨_, rfl⟩
  refine PWp.seq_rg [0, 3, 6] orcY3_ok (mv := mv) (by decide) fun K hK => ?_
  simp only [pwr, pr1, mv, Int.reduceLT, Int.reduceSub, Int.reduceNeg, Int.reduceToNat, ne_eq, reduceIte, reduceCtorEq, Nat.reduceEqDiff, Nat.reduceAdd, Nat.reduceMul, Nat.reduceSub, Nat.reduceLT, Nat.reduceLeDiff, Nat.reduceBEq, if_true, if_false, implies_true, Bool.cond_true, Bool.cond_false, orcY3, c10b, c11, c9, c19, c22, tOf_rows, zf, Int.reduceToNat, beq_self_eq_true, errOf, toks_fail, hv]
  repeat' with_reducible refine And.intro ?_ ?_
  all_goals try (omega)
  all_goals try (first | omega | rfl | ((with_reducible refine drawGoal ?_); exact rfl) | (simp only [inR]; omega) | (intro y hy; simp only [List.mem_singleton] at hy; subst hy; rfl) | (intro y hy; cases hy; done) | (simp only [List.length_append, List.length_map, List.length_cons, List.length_nil]; omega) | (intro h; simp only [inR]; omega) | (intro h; simp only [List.length_append, List.length_map, List.length_cons, List.length_nil]; omega) | (intro h; exact h.elim))
  refine hK _ ?_
  clear hK K
  refine PWp.seq_k fun K1 hK1 => ?_
  rcases v with l | ⟨k, e⟩
  ·
   refine PWp.seq_rg [0, 3, 25] orcY3_ok (mv := mv) (by decide) fun K hK => ?_
   simp only [pwr, pr1, mv, Int.reduceLT, Int.reduceSub, Int.reduceNeg, Int.reduceToNat, ne_eq, reduceIte, reduceCtorEq, Nat.reduceEqDiff, Nat.reduceAdd, Nat.reduceMul, Nat.reduceSub, Nat.reduceLT, Nat.reduceLeDiff, Nat.reduceBEq, if_true, if_false, implies_true, Bool.cond_true, Bool.cond_false, orcY3, c10b, c11, c9, c19, c22, tOf_rows, zf, Int.reduceToNat, beq_self_eq_true, errOf, toks_fail]
   repeat' with_reducible refine And.intro ?_ ?_
   all_goals try (first | omega | rfl | ((with_reducible refine drawGoal ?_); exact rfl) | (simp only [inR]; omega) | (intro y hy; simp only [List.mem_singleton] at hy; subst hy; rfl) | (intro y hy; cases hy; done) | (simp only [List.length_append, List.length_map, List.length_cons, List.length_nil]; omega) | (intro h; simp only [inR]; omega) | (intro h; simp only [List.length_append, List.length_map, List.length_cons, List.length_nil]; omega) | (intro h; exact h.elim))
   refine hK _ ?_
   clear hK K
   refine PWp.cond (by rfl) (fun hb25 => ?_) (fun hb25 => ?_)
   ·
    try (cases hb25; done)
    all_goals
     refine PWp.seq_rg [2] orcY3_ok (mv := mv) (by decide) fun K hK => ?_
     simp only [pwr, pr1, mv, Int.reduceLT, Int.reduceSub, Int.reduceNeg, Int.reduceToNat, ne_eq, reduceIte, reduceCtorEq, Nat.reduceEqDiff, Nat.reduceAdd, Nat.reduceMul, Nat.reduceSub, Nat.reduceLT, Nat.reduceLeDiff, Nat.reduceBEq, if_true, if_false, implies_true, Bool.cond_true, Bool.cond_false, orcY3, c10b, c11, c9, c19, c22, tOf_rows, zf, Int.reduceToNat, beq_self_eq_true, errOf, toks_fail]
     repeat' with_reducible refine And.intro ?_ ?_
     all_goals try (first | omega | rfl | ((with_reducible refine drawGoal ?_); exact rfl) | (simp only [inR]; omega) | (intro y hy; simp only [List.mem_singleton] at hy; subst hy; rfl) | (intro y hy; cases hy; done) | (simp only [List.length_append, List.length_map, List.length_cons, List.length_nil]; omega) | (intro h; simp only [inR]; omega) | (intro h; simp only [List.length_append, List.length_map, List.length_cons, List.length_nil]; omega) | (intro h; exact h.elim))
     refine hK _ ?_
     clear hK K
     refine PWp.ret (hQ2 _ ?_)
     simp only [pwf, pf1, reduceIte, reduceCtorEq, Nat.reduceEqDiff, Nat.reduceAdd, Nat.reduceMul, Nat.reduceSub, Nat.reduceLT, Nat.reduceLeDiff, Nat.reduceBEq, if_true, if_false, implies_true, Bool.cond_true, Bool.cond_false, zf, Int.reduceToNat, beq_self_eq_true, errOf, toks_fail, Tryd.results3]
     repeat simp only [pwf, pf1, reduceIte, reduceCtorEq, Nat.reduceEqDiff, Nat.reduceAdd, Nat.reduceMul, Nat.reduceSub, Nat.reduceLT, Nat.reduceLeDiff, Nat.reduceBEq, if_true, if_false, implies_true, Bool.cond_true, Bool.cond_false, zf, Int.reduceToNat, beq_self_eq_true, errOf, toks_fail]
     first | done | rfl | (simp; done) | trace_state
   ·
    try (cases hb25; done)
    all_goals
     refine PWp.skip (hK1 _ ?_)
     have hTl := toks_len u l
     have hln := (scan_ok hv).2.2
     obtain ⟨o, hpl⟩ := places_of hv
     have hlr := last_row u l
     obtain ⟨T, hT⟩ : ∃ T, toks u (.ok l) = T := ⟨_, rfl⟩
     rw [hT] at hTl hpl hlr ⊢
     refine PWp.seq_rg [0, 3, 7, 8, 9] orcY3_ok (mv := mv) (by decide) fun K hK => ?_
     simp only [pwr, pr1, mv, Int.reduceLT, Int.reduceSub, Int.reduceNeg, Int.reduceToNat, ne_eq, reduceIte, reduceCtorEq, Nat.reduceEqDiff, Nat.reduceAdd, Nat.reduceMul, Nat.reduceSub, Nat.reduceLT, Nat.reduceLeDiff, Nat.reduceBEq, if_true, if_false, implies_true, Bool.cond_true, Bool.cond_false, orcY3, c10b, c11, c9, c19, c22, tOf_rows, zf, Int.reduceToNat, beq_self_eq_true, errOf, toks_fail]
     repeat' with_reducible refine And.intro ?_ ?_
     all_goals try (first | omega | rfl | ((with_reducible refine drawGoal ?_); exact rfl) | (simp only [inR]; omega) | (intro y hy; simp only [List.mem_singleton] at hy; subst hy; rfl) | (intro y hy; cases hy; done) | (simp only [List.length_append, List.length_map, List.length_cons, List.length_nil]; omega) | (intro h; simp only [inR]; omega) | (intro h; simp only [List.length_append, List.length_map, List.length_cons, List.length_nil]; omega) | (intro h; exact h.elim))
     refine hK _ ?_
     clear hK K
     refine PWp.seq_k fun K2 hK2 => ?_
     refine PWp.seq_rg [0, 3, 7, 8, 9, 10] orcY3_ok (mv := mv) (by decide) fun K hK => ?_
     simp only [pwr, pr1, mv, Int.reduceLT, Int.reduceSub, Int.reduceNeg, Int.reduceToNat, ne_eq, reduceIte, reduceCtorEq, Nat.reduceEqDiff, Nat.reduceAdd, Nat.reduceMul, Nat.reduceSub, Nat.reduceLT, Nat.reduceLeDiff, Nat.reduceBEq, if_true, if_false, implies_true, Bool.cond_true, Bool.cond_false, orcY3, c10b, c11, c9, c19, c22, tOf_rows, zf, Int.reduceToNat, beq_self_eq_true, errOf, toks_fail]
     repeat' with_reducible refine And.intro ?_ ?_
     all_goals try (first | omega | rfl | ((with_reducible refine drawGoal ?_); exact rfl) | (simp only [inR]; omega) | (intro y hy; simp only [List.mem_singleton] at hy; subst hy; rfl) | (intro y hy; cases hy; done) | (simp only [List.length_append, List.length_map, List.length_cons, List.length_nil]; omega) | (intro h; simp only [inR]; omega) | (intro h; simp only [List.length_append, List.length_map, List.length_cons, List.length_nil]; omega) | (intro h; exact h.elim))
     refine hK _ ?_
     clear hK K
     refine PWp.block_k fun Qq3 hq3n hq3x hq3r hq3e => ?_
     refine PWp.loop_k (fun x : Nat × Nat × Int × Int => [(.S 0, .av (.pv (.str u))), (.S 3, .av (.pv (.sl (t6Rows T)))), (.S 7, .av (.pv (.int .i64 x.2.2.1))), (.S 8, .av (.pv (.int .i64 x.2.2.2))), (.S 9, .av (.pv (.int .i64 x.2.1))), (.S 10, .av (.pv (.int .i64 x.1)))]) (fun x => x.1 ≤ u.length + 1 ∧ x.2.1 ≤ T.length ∧ (∀ j, j < T.length → x.2.1 ≤ j → x.1 ≤ o j) ∧ (x.1 ≤ u.length → x.2.2 = place u x.1)) (fun x => u.length + 1 - x.1) ((0, 0, 1, 1)) (⟨Nat.zero_le _, Nat.zero_le _, fun j _ _ => Nat.zero_le _, fun _ => rfl⟩) ?_ ?_
     · repeat simp only [pwf, pf1, reduceIte, reduceCtorEq, Nat.reduceEqDiff, Nat.reduceAdd, Nat.reduceMul, Nat.reduceSub, Nat.reduceLT, Nat.reduceLeDiff, Nat.reduceBEq, if_true, if_false, implies_true, Bool.cond_true, Bool.cond_false, zf, Int.reduceToNat, beq_self_eq_true, errOf, toks_fail]
       first | done | trivial | rfl | (simp; done)
     rintro ⟨i, n, pl, pc⟩ ⟨hi, hn, hno, hpp⟩ J1 hJ1
     change i ≤ u.length + 1 at hi
     change n ≤ T.length at hn
     change ∀ j, j < T.length → n ≤ j → i ≤ o j at hno
     change i ≤ u.length → (pl, pc) = place u i at hpp
     refine PWp.seq_k fun K4 hK4 => ?_
     refine PWp.seq_rg [0, 3, 7, 8, 9, 10, 36] orcY3_ok (mv := mv) (by decide) fun K hK => ?_
     simp only [pwr, pr1, mv, Int.reduceLT, Int.reduceSub, Int.reduceNeg, Int.reduceToNat, ne_eq, reduceIte, reduceCtorEq, Nat.reduceEqDiff, Nat.reduceAdd, Nat.reduceMul, Nat.reduceSub, Nat.reduceLT, Nat.reduceLeDiff, Nat.reduceBEq, if_true, if_false, implies_true, Bool.cond_true, Bool.cond_false, orcY3, c10b, c11, c9, c19, c22, tOf_rows, zf, Int.reduceToNat, beq_self_eq_true, errOf, toks_fail, List.length_map]
     repeat' with_reducible refine And.intro ?_ ?_
     all_goals try (first | omega | (intros; omega))
     all_goals try (first | omega | rfl | ((with_reducible refine drawGoal ?_); exact rfl) | (simp only [inR]; omega) | (intro y hy; simp only [List.mem_singleton] at hy; subst hy; rfl) | (intro y hy; cases hy; done) | (simp only [List.length_append, List.length_map, List.length_cons, List.length_nil]; omega) | (intro h; simp only [inR]; omega) | (intro h; simp only [List.length_append, List.length_map, List.length_cons, List.length_nil]; omega) | (intro h; exact h.elim))
     refine hK _ ?_
     clear hK K
     refine PWp.cond (by rfl) (fun hb36 => ?_) (fun hb36 => ?_)
     ·
      try (cases hb36; done)
      all_goals
       refine PWp.skip (hK4 _ ?_)
       refine PWp.seq_k fun K5 hK5 => ?_
       refine PWp.block_k fun Qq6 hq6n hq6x hq6r hq6e => ?_
       refine PWp.seq_k fun K7 hK7 => ?_
       have hiu : i ≤ u.length := by simp only [Bool.and_eq_true, decide_eq_true_eq] at hb36; omega
       have hnT : n < T.length := by simp only [Bool.and_eq_true, decide_eq_true_eq] at hb36; omega
       have hp := hpp hiu
       have e1 := row_at hnT
       have hat := hpl.at_ n hnT
       have hole := hpl.le n hnT
       have hpb := place_bd u i
       rw [← hp] at hpb
       simp only at hpb
       have hs1 : u.getD i 0 = 10 → i < u.length → place u (i + 1) = (pl + 1, 1) := fun h10 h => by
         rw [place_succ h, ← hp, ← getN h, h10]; rfl
       have hs2 : u.getD i 0 ≠ 10 → i < u.length → place u (i + 1) = (pl, pc + 1) := fun h10 h => by
         rw [place_succ h, ← hp, ← getN h]
         unfold stepP
         rw [if_neg h10]
       refine PWp.seq_rg [0, 3, 7, 8, 9, 10, 54] orcY3_ok (mv := mv) (by decide) fun K hK => ?_
       simp only [pwr, pr1, mv, Int.reduceLT, Int.reduceSub, Int.reduceNeg, Int.reduceToNat, ne_eq, reduceIte, reduceCtorEq, Nat.reduceEqDiff, Nat.reduceAdd, Nat.reduceMul, Nat.reduceSub, Nat.reduceLT, Nat.reduceLeDiff, Nat.reduceBEq, if_true, if_false, implies_true, Bool.cond_true, Bool.cond_false, orcY3, c10b, c11, c9, c19, c22, tOf_rows, zf, Int.reduceToNat, beq_self_eq_true, errOf, toks_fail, e1, List.length_map]
       repeat' with_reducible refine And.intro ?_ ?_
       all_goals try (first | omega | (intros; omega))
       all_goals try (first | omega | rfl | ((with_reducible refine drawGoal ?_); exact rfl) | (simp only [inR]; omega) | (intro y hy; simp only [List.mem_singleton] at hy; subst hy; rfl) | (intro y hy; cases hy; done) | (simp only [List.length_append, List.length_map, List.length_cons, List.length_nil]; omega) | (intro h; simp only [inR]; omega) | (intro h; simp only [List.length_append, List.length_map, List.length_cons, List.length_nil]; omega) | (intro h; exact h.elim))
       refine hK _ ?_
       clear hK K
       refine PWp.cond (by rfl) (fun hb54 => ?_) (fun hb54 => ?_)
       ·
        try (cases hb54; done)
        all_goals
         refine PWp.seq_k fun K8 hK8 => ?_
         have heq : o n = i := by
           have h1 : T[n].line = pl ∧ T[n].col = pc := by simpa using hb54
           rw [h1.1, h1.2, hp] at hat
           exact (place_inj hiu hole hat).symm
         obtain ⟨tl, htl⟩ := hpl.text n hnT
         rw [heq] at htl
         have htlen := congrArg List.length htl
         rw [List.length_drop, List.length_append] at htlen
         have etk : ((i : Int) + (T[n].text.length : Int)).toNat = i + T[n].text.length := by omega
         have ecut : (u.take (i + T[n].text.length)).drop i = T[n].text := by rw [List.drop_take, htl, Nat.add_sub_cancel_left, List.take_left]
         refine PWp.seq_dr [0, 3, 7, 8, 9, 10, 84] mixed orcY3_ok (mv := mv) (by decide) fun K hK => ?_
         simp only [pwr, pr1, mv, Int.reduceLT, Int.reduceSub, Int.reduceNeg, Int.reduceToNat, ne_eq, reduceIte, reduceCtorEq, Nat.reduceEqDiff, Nat.reduceAdd, Nat.reduceMul, Nat.reduceSub, Nat.reduceLT, Nat.reduceLeDiff, Nat.reduceBEq, if_true, if_false, implies_true, Bool.cond_true, Bool.cond_false, orcY3, c10b, c11, c9, c19, c22, tOf_rows, zf, Int.reduceToNat, beq_self_eq_true, errOf, toks_fail, e1, List.length_map, etk, ecut]
         repeat' with_reducible refine And.intro ?_ ?_
         all_goals try (first | omega | (intros; omega) | (simp; omega))
         all_goals try (first | omega | rfl | ((with_reducible refine drawGoal ?_); exact rfl) | (simp only [inR]; omega) | (intro y hy; simp only [List.mem_singleton] at hy; subst hy; rfl) | (intro y hy; cases hy; done) | (simp only [List.length_append, List.length_map, List.length_cons, List.length_nil]; omega) | (intro h; simp only [inR]; omega) | (intro h; simp only [List.length_append, List.length_map, List.length_cons, List.length_nil]; omega) | (intro h; exact h.elim))
         refine hK _ ?_
         clear hK K
         refine PWp.cond (by rfl) (fun hb84 => ?_) (fun hb84 => ?_)
         ·
          exfalso
          simp at hb84
          omega
         ·
          try (cases hb84; done)
          all_goals
           refine PWp.skip (hK8 _ ?_)
           refine PWp.rg [0, 3, 7, 8, 9, 10] orcY3_ok (mv := mv) (by decide) ?_
           simp only [pwr, pr1, mv, Int.reduceLT, Int.reduceSub, Int.reduceNeg, Int.reduceToNat, ne_eq, reduceIte, reduceCtorEq, Nat.reduceEqDiff, Nat.reduceAdd, Nat.reduceMul, Nat.reduceSub, Nat.reduceLT, Nat.reduceLeDiff, Nat.reduceBEq, if_true, if_false, implies_true, Bool.cond_true, Bool.cond_false, orcY3, c10b, c11, c9, c19, c22, tOf_rows, zf, Int.reduceToNat, beq_self_eq_true, errOf, toks_fail]
           repeat' with_reducible refine And.intro ?_ ?_
           all_goals try ((simp only [inR]; omega))
           all_goals try (first | omega | rfl | ((with_reducible refine drawGoal ?_); exact rfl) | (simp only [inR]; omega) | (intro y hy; simp only [List.mem_singleton] at hy; subst hy; rfl) | (intro y hy; cases hy; done) | (simp only [List.length_append, List.length_map, List.length_cons, List.length_nil]; omega) | (intro h; simp only [inR]; omega) | (intro h; simp only [List.length_append, List.length_map, List.length_cons, List.length_nil]; omega) | (intro h; exact h.elim))
           refine hK7 _ ?_
           obtain ⟨x, hx⟩ : ∃ x, u.getD i 0 = x := ⟨_, rfl⟩
           rw [hx] at hs1 hs2
           refine PWp.seq_rg [0, 3, 7, 8, 9, 10] orcY3_ok (mv := mv) (by decide) fun K hK => ?_
           simp only [pwr, pr1, mv, Int.reduceLT, Int.reduceSub, Int.reduceNeg, Int.reduceToNat, ne_eq, reduceIte, reduceCtorEq, Nat.reduceEqDiff, Nat.reduceAdd, Nat.reduceMul, Nat.reduceSub, Nat.reduceLT, Nat.reduceLeDiff, Nat.reduceBEq, if_true, if_false, implies_true, Bool.cond_true, Bool.cond_false, orcY3, c10b, c11, c9, c19, c22, tOf_rows, zf, Int.reduceToNat, beq_self_eq_true, errOf, toks_fail]
           repeat' with_reducible refine And.intro ?_ ?_
           all_goals try ((simp only [inR]; omega))
           all_goals try (first | omega | rfl | ((with_reducible refine drawGoal ?_); exact rfl) | (simp only [inR]; omega) | (intro y hy; simp only [List.mem_singleton] at hy; subst hy; rfl) | (intro y hy; cases hy; done) | (simp only [List.length_append, List.length_map, List.length_cons, List.length_nil]; omega) | (intro h; simp only [inR]; omega) | (intro h; simp only [List.length_append, List.length_map, List.length_cons, List.length_nil]; omega) | (intro h; exact h.elim))
           refine hK _ ?_
           clear hK K
           refine PWp.seq_rg [0, 3, 7, 8, 9, 10, 98] orcY3_ok (mv := mv) (by decide) fun K hK => ?_
           simp only [pwr, pr1, mv, Int.reduceLT, Int.reduceSub, Int.reduceNeg, Int.reduceToNat, ne_eq, reduceIte, reduceCtorEq, Nat.reduceEqDiff, Nat.reduceAdd, Nat.reduceMul, Nat.reduceSub, Nat.reduceLT, Nat.reduceLeDiff, Nat.reduceBEq, if_true, if_false, implies_true, Bool.cond_true, Bool.cond_false, orcY3, c10b, c11, c9, c19, c22, tOf_rows, zf, Int.reduceToNat, beq_self_eq_true, errOf, toks_fail, hx]
           repeat' with_reducible refine And.intro ?_ ?_
           all_goals try (first | omega | (intro h; simp at h; omega) | exact fun _ => ub_bd _ | exact fun _ => (ub_bd _).1 | exact fun _ => (ub_bd _).2 | (intros; omega))
           all_goals try (first | omega | rfl | ((with_reducible refine drawGoal ?_); exact rfl) | (simp only [inR]; omega) | (intro y hy; simp only [List.mem_singleton] at hy; subst hy; rfl) | (intro y hy; cases hy; done) | (simp only [List.length_append, List.length_map, List.length_cons, List.length_nil]; omega) | (intro h; simp only [inR]; omega) | (intro h; simp only [List.length_append, List.length_map, List.length_cons, List.length_nil]; omega) | (intro h; exact h.elim))
           refine hK _ ?_
           clear hK K
           refine PWp.cond (by rfl) (fun hb98 => ?_) (fun hb98 => ?_)
           ·
            try (cases hb98; done)
            all_goals
             refine PWp.rg [0, 3, 7, 8, 9, 10] orcY3_ok (mv := mv) (by decide) ?_
             simp only [pwr, pr1, mv, Int.reduceLT, Int.reduceSub, Int.reduceNeg, Int.reduceToNat, ne_eq, reduceIte, reduceCtorEq, Nat.reduceEqDiff, Nat.reduceAdd, Nat.reduceMul, Nat.reduceSub, Nat.reduceLT, Nat.reduceLeDiff, Nat.reduceBEq, if_true, if_false, implies_true, Bool.cond_true, Bool.cond_false, orcY3, c10b, c11, c9, c19, c22, tOf_rows, zf, Int.reduceToNat, beq_self_eq_true, errOf, toks_fail]
             repeat' with_reducible refine And.intro ?_ ?_
             all_goals try ((simp only [inR]; omega))
             all_goals try (first | omega | rfl | ((with_reducible refine drawGoal ?_); exact rfl) | (simp only [inR]; omega) | (intro y hy; simp only [List.mem_singleton] at hy; subst hy; rfl) | (intro y hy; cases hy; done) | (simp only [List.length_append, List.length_map, List.length_cons, List.length_nil]; omega) | (intro h; simp only [inR]; omega) | (intro h; simp only [List.length_append, List.length_map, List.length_cons, List.length_nil]; omega) | (intro h; exact h.elim))
             refine hq6n _ (hK5 _ ?_)
             refine PWp.rg [0, 3, 7, 8, 9, 10] orcY3_ok (mv := mv) (by decide) ?_
             simp only [pwr, pr1, mv, Int.reduceLT, Int.reduceSub, Int.reduceNeg, Int.reduceToNat, ne_eq, reduceIte, reduceCtorEq, Nat.reduceEqDiff, Nat.reduceAdd, Nat.reduceMul, Nat.reduceSub, Nat.reduceLT, Nat.reduceLeDiff, Nat.reduceBEq, if_true, if_false, implies_true, Bool.cond_true, Bool.cond_false, orcY3, c10b, c11, c9, c19, c22, tOf_rows, zf, Int.reduceToNat, beq_self_eq_true, errOf, toks_fail]
             repeat' with_reducible refine And.intro ?_ ?_
             all_goals try ((simp only [inR]; omega))
             all_goals try (first | omega | rfl | ((with_reducible refine drawGoal ?_); exact rfl) | (simp only [inR]; omega) | (intro y hy; simp only [List.mem_singleton] at hy; subst hy; rfl) | (intro y hy; cases hy; done) | (simp only [List.length_append, List.length_map, List.length_cons, List.length_nil]; omega) | (intro h; simp only [inR]; omega) | (intro h; simp only [List.length_append, List.length_map, List.length_cons, List.length_nil]; omega) | (intro h; exact h.elim))
             refine hJ1 _ ((i + 1, n + 1, pl + 1, 1)) ?_ ?_ ?_
             · exact ⟨by show i + 1 ≤ _; omega, by show n + 1 ≤ _; omega, no_next' hpl heq, fun h => (hs1 (b98t hb98).2 (b98t hb98).1).symm⟩
             · show u.length + 1 - (i + 1) < u.length + 1 - i
               omega
             · repeat simp only [pwf, pf1, reduceIte, reduceCtorEq, Nat.reduceEqDiff, Nat.reduceAdd, Nat.reduceMul, Nat.reduceSub, Nat.reduceLT, Nat.reduceLeDiff, Nat.reduceBEq, if_true, if_false, implies_true, Bool.cond_true, Bool.cond_false, zf, Int.reduceToNat, beq_self_eq_true, errOf, toks_fail]
               simp
           ·
            try (cases hb98; done)
            all_goals
             refine PWp.skip (hq6n _ (hK5 _ ?_))
             refine PWp.rg [0, 3, 7, 8, 9, 10] orcY3_ok (mv := mv) (by decide) ?_
             simp only [pwr, pr1, mv, Int.reduceLT, Int.reduceSub, Int.reduceNeg, Int.reduceToNat, ne_eq, reduceIte, reduceCtorEq, Nat.reduceEqDiff, Nat.reduceAdd, Nat.reduceMul, Nat.reduceSub, Nat.reduceLT, Nat.reduceLeDiff, Nat.reduceBEq, if_true, if_false, implies_true, Bool.cond_true, Bool.cond_false, orcY3, c10b, c11, c9, c19, c22, tOf_rows, zf, Int.reduceToNat, beq_self_eq_true, errOf, toks_fail]
             repeat' with_reducible refine And.intro ?_ ?_
             all_goals try ((simp only [inR]; omega))
             all_goals try (first | omega | rfl | ((with_reducible refine drawGoal ?_); exact rfl) | (simp only [inR]; omega) | (intro y hy; simp only [List.mem_singleton] at hy; subst hy; rfl) | (intro y hy; cases hy; done) | (simp only [List.length_append, List.length_map, List.length_cons, List.length_nil]; omega) | (intro h; simp only [inR]; omega) | (intro h; simp only [List.length_append, List.length_map, List.length_cons, List.length_nil]; omega) | (intro h; exact h.elim))
             refine hJ1 _ ((i + 1, n + 1, pl, pc + 1)) ?_ ?_ ?_
             · exact ⟨by show i + 1 ≤ _; omega, by show n + 1 ≤ _; omega, no_next' hpl heq, fun h => (hs2 (b98f hb98 h) (Nat.lt_of_succ_le h)).symm⟩
             · show u.length + 1 - (i + 1) < u.length + 1 - i
               omega
             · repeat simp only [pwf, pf1, reduceIte, reduceCtorEq, Nat.reduceEqDiff, Nat.reduceAdd, Nat.reduceMul, Nat.reduceSub, Nat.reduceLT, Nat.reduceLeDiff, Nat.reduceBEq, if_true, if_false, implies_true, Bool.cond_true, Bool.cond_false, zf, Int.reduceToNat, beq_self_eq_true, errOf, toks_fail]
               simp
       ·
        try (cases hb54; done)
        all_goals
          have hne : o n ≠ i := fun h => by { rw [h, ← hp] at hat; simp only [Prod.mk.injEq] at hat; rw [hat.1, hat.2] at hb54; simp at hb54 }
        try (cases hb54; done)
        all_goals
         refine PWp.skip (hK7 _ ?_)
         obtain ⟨x, hx⟩ : ∃ x, u.getD i 0 = x := ⟨_, rfl⟩
         rw [hx] at hs1 hs2
         refine PWp.seq_rg [0, 3, 7, 8, 9, 10] orcY3_ok (mv := mv) (by decide) fun K hK => ?_
         simp only [pwr, pr1, mv, Int.reduceLT, Int.reduceSub, Int.reduceNeg, Int.reduceToNat, ne_eq, reduceIte, reduceCtorEq, Nat.reduceEqDiff, Nat.reduceAdd, Nat.reduceMul, Nat.reduceSub, Nat.reduceLT, Nat.reduceLeDiff, Nat.reduceBEq, if_true, if_false, implies_true, Bool.cond_true, Bool.cond_false, orcY3, c10b, c11, c9, c19, c22, tOf_rows, zf, Int.reduceToNat, beq_self_eq_true, errOf, toks_fail]
         repeat' with_reducible refine And.intro ?_ ?_
         all_goals try ((simp only [inR]; omega))
         all_goals try (first | omega | rfl | ((with_reducible refine drawGoal ?_); exact rfl) | (simp only [inR]; omega) | (intro y hy; simp only [List.mem_singleton] at hy; subst hy; rfl) | (intro y hy; cases hy; done) | (simp only [List.length_append, List.length_map, List.length_cons, List.length_nil]; omega) | (intro h; simp only [inR]; omega) | (intro h; simp only [List.length_append, List.length_map, List.length_cons, List.length_nil]; omega) | (intro h; exact h.elim))
         refine hK _ ?_
         clear hK K
         refine PWp.seq_rg [0, 3, 7, 8, 9, 10, 98] orcY3_ok (mv := mv) (by decide) fun K hK => ?_
         simp only [pwr, pr1, mv, Int.reduceLT, Int.reduceSub, Int.reduceNeg, Int.reduceToNat, ne_eq, reduceIte, reduceCtorEq, Nat.reduceEqDiff, Nat.reduceAdd, Nat.reduceMul, Nat.reduceSub, Nat.reduceLT, Nat.reduceLeDiff, Nat.reduceBEq, if_true, if_false, implies_true, Bool.cond_true, Bool.cond_false, orcY3, c10b, c11, c9, c19, c22, tOf_rows, zf, Int.reduceToNat, beq_self_eq_true, errOf, toks_fail, hx]
         repeat' with_reducible refine And.intro ?_ ?_
         all_goals try (first | omega | (intro h; simp at h; omega) | exact fun _ => ub_bd _ | exact fun _ => (ub_bd _).1 | exact fun _ => (ub_bd _).2 | (intros; omega))
         all_goals try (first | omega | rfl | ((with_reducible refine drawGoal ?_); exact rfl) | (simp only [inR]; omega) | (intro y hy; simp only [List.mem_singleton] at hy; subst hy; rfl) | (intro y hy; cases hy; done) | (simp only [List.length_append, List.length_map, List.length_cons, List.length_nil]; omega) | (intro h; simp only [inR]; omega) | (intro h; simp only [List.length_append, List.length_map, List.length_cons, List.length_nil]; omega) | (intro h; exact h.elim))
         refine hK _ ?_
         clear hK K
         refine PWp.cond (by rfl) (fun hb98 => ?_) (fun hb98 => ?_)
         ·
          try (cases hb98; done)
          all_goals
           refine PWp.rg [0, 3, 7, 8, 9, 10] orcY3_ok (mv := mv) (by decide) ?_
           simp only [pwr, pr1, mv, Int.reduceLT, Int.reduceSub, Int.reduceNeg, Int.reduceToNat, ne_eq, reduceIte, reduceCtorEq, Nat.reduceEqDiff, Nat.reduceAdd, Nat.reduceMul, Nat.reduceSub, Nat.reduceLT, Nat.reduceLeDiff, Nat.reduceBEq, if_true, if_false, implies_true, Bool.cond_true, Bool.cond_false, orcY3, c10b, c11, c9, c19, c22, tOf_rows, zf, Int.reduceToNat, beq_self_eq_true, errOf, toks_fail]
           repeat' with_reducible refine And.intro ?_ ?_
           all_goals try ((simp only [inR]; omega))
           all_goals try (first | omega | rfl | ((with_reducible refine drawGoal ?_); exact rfl) | (simp only [inR]; omega) | (intro y hy; simp only [List.mem_singleton] at hy; subst hy; rfl) | (intro y hy; cases hy; done) | (simp only [List.length_append, List.length_map, List.length_cons, List.length_nil]; omega) | (intro h; simp only [inR]; omega) | (intro h; simp only [List.length_append, List.length_map, List.length_cons, List.length_nil]; omega) | (intro h; exact h.elim))
           refine hq6n _ (hK5 _ ?_)
           refine PWp.rg [0, 3, 7, 8, 9, 10] orcY3_ok (mv := mv) (by decide) ?_
           simp only [pwr, pr1, mv, Int.reduceLT, Int.reduceSub, Int.reduceNeg, Int.reduceToNat, ne_eq, reduceIte, reduceCtorEq, Nat.reduceEqDiff, Nat.reduceAdd, Nat.reduceMul, Nat.reduceSub, Nat.reduceLT, Nat.reduceLeDiff, Nat.reduceBEq, if_true, if_false, implies_true, Bool.cond_true, Bool.cond_false, orcY3, c10b, c11, c9, c19, c22, tOf_rows, zf, Int.reduceToNat, beq_self_eq_true, errOf, toks_fail]
           repeat' with_reducible refine And.intro ?_ ?_
           all_goals try ((simp only [inR]; omega))
           all_goals try (first | omega | rfl | ((with_reducible refine drawGoal ?_); exact rfl) | (simp only [inR]; omega) | (intro y hy; simp only [List.mem_singleton] at hy; subst hy; rfl) | (intro y hy; cases hy; done) | (simp only [List.length_append, List.length_map, List.length_cons, List.length_nil]; omega) | (intro h; simp only [inR]; omega) | (intro h; simp only [List.length_append, List.length_map, List.length_cons, List.length_nil]; omega) | (intro h; exact h.elim))
           refine hJ1 _ ((i + 1, n, pl + 1, 1)) ?_ ?_ ?_
           · exact ⟨by show i + 1 ≤ _; omega, hn, no_next hpl hnT (hno n hnT (Nat.le_refl _)) hne, fun h => (hs1 (b98t hb98).2 (b98t hb98).1).symm⟩
           · show u.length + 1 - (i + 1) < u.length + 1 - i
             omega
           · repeat simp only [pwf, pf1, reduceIte, reduceCtorEq, Nat.reduceEqDiff, Nat.reduceAdd, Nat.reduceMul, Nat.reduceSub, Nat.reduceLT, Nat.reduceLeDiff, Nat.reduceBEq, if_true, if_false, implies_true, Bool.cond_true, Bool.cond_false, zf, Int.reduceToNat, beq_self_eq_true, errOf, toks_fail]
             simp
         ·
          try (cases hb98; done)
          all_goals
           refine PWp.skip (hq6n _ (hK5 _ ?_))
           refine PWp.rg [0, 3, 7, 8, 9, 10] orcY3_ok (mv := mv) (by decide) ?_
           simp only [pwr, pr1, mv, Int.reduceLT, Int.reduceSub, Int.reduceNeg, Int.reduceToNat, ne_eq, reduceIte, reduceCtorEq, Nat.reduceEqDiff, Nat.reduceAdd, Nat.reduceMul, Nat.reduceSub, Nat.reduceLT, Nat.reduceLeDiff, Nat.reduceBEq, if_true, if_false, implies_true, Bool.cond_true, Bool.cond_false, orcY3, c10b, c11, c9, c19, c22, tOf_rows, zf, Int.reduceToNat, beq_self_eq_true, errOf, toks_fail]
           repeat' with_reducible refine And.intro ?_ ?_
           all_goals try ((simp only [inR]; omega))
           all_goals try (first | omega | rfl | ((with_reducible refine drawGoal ?_); exact rfl) | (simp only [inR]; omega) | (intro y hy; simp only [List.mem_singleton] at hy; subst hy; rfl) | (intro y hy; cases hy; done) | (simp only [List.length_append, List.length_map, List.length_cons, List.length_nil]; omega) | (intro h; simp only [inR]; omega) | (intro h; simp only [List.length_append, List.length_map, List.length_cons, List.length_nil]; omega) | (intro h; exact h.elim))
           refine hJ1 _ ((i + 1, n, pl, pc + 1)) ?_ ?_ ?_
           · exact ⟨by show i + 1 ≤ _; omega, hn, no_next hpl hnT (hno n hnT (Nat.le_refl _)) hne, fun h => (hs2 (b98f hb98 h) (Nat.lt_of_succ_le h)).symm⟩
           · show u.length + 1 - (i + 1) < u.length + 1 - i
             omega
           · repeat simp only [pwf, pf1, reduceIte, reduceCtorEq, Nat.reduceEqDiff, Nat.reduceAdd, Nat.reduceMul, Nat.reduceSub, Nat.reduceLT, Nat.reduceLeDiff, Nat.reduceBEq, if_true, if_false, implies_true, Bool.cond_true, Bool.cond_false, zf, Int.reduceToNat, beq_self_eq_true, errOf, toks_fail]
             simp
     ·
      try (cases hb36; done)
      all_goals
       refine PWp.exit (hq3x _ (hK2 _ ?_))
       have hnT : n = T.length := by
         rcases Nat.lt_or_ge n T.length with h | h
         · have h1 := hno n h (Nat.le_refl _)
           have h2 := hpl.le n h
           have h3 : (decide ((i : Int) ≤ (u.length : Int)) && decide ((n : Int) < (T.length : Int))) = true := by simp; omega
           rw [h3] at hb36; cases hb36
         · omega
       subst hnT
       have etl : ((T.length : Int) - 1).toNat = l.length := by omega
       have hpos : decide ((0 : Int) < (T.length : Int)) = true := by simp; omega
       refine PWp.seq_rg [2] orcY3_ok (mv := mv) (by decide) fun K hK => ?_
       simp only [pwr, pr1, mv, Int.reduceLT, Int.reduceSub, Int.reduceNeg, Int.reduceToNat, ne_eq, reduceIte, reduceCtorEq, Nat.reduceEqDiff, Nat.reduceAdd, Nat.reduceMul, Nat.reduceSub, Nat.reduceLT, Nat.reduceLeDiff, Nat.reduceBEq, if_true, if_false, implies_true, Bool.cond_true, Bool.cond_false, orcY3, c10b, c11, c9, c19, c22, tOf_rows, zf, Int.reduceToNat, beq_self_eq_true, errOf, toks_fail, hlr, etl, hpos, List.length_map]
       repeat' with_reducible refine And.intro ?_ ?_
       all_goals try (first | omega | (intros; omega))
       all_goals try (first | omega | rfl | ((with_reducible refine drawGoal ?_); exact rfl) | (simp only [inR]; omega) | (intro y hy; simp only [List.mem_singleton] at hy; subst hy; rfl) | (intro y hy; cases hy; done) | (simp only [List.length_append, List.length_map, List.length_cons, List.length_nil]; omega) | (intro h; simp only [inR]; omega) | (intro h; simp only [List.length_append, List.length_map, List.length_cons, List.length_nil]; omega) | (intro h; exact h.elim))
       refine hK _ ?_
       clear hK K
       refine PWp.ret (hQ2 _ ?_)
       simp only [pwf, pf1, reduceIte, reduceCtorEq, Nat.reduceEqDiff, Nat.reduceAdd, Nat.reduceMul, Nat.reduceSub, Nat.reduceLT, Nat.reduceLeDiff, Nat.reduceBEq, if_true, if_false, implies_true, Bool.cond_true, Bool.cond_false, zf, Int.reduceToNat, beq_self_eq_true, errOf, toks_fail, Tryd.results3]
       repeat simp only [pwf, pf1, reduceIte, reduceCtorEq, Nat.reduceEqDiff, Nat.reduceAdd, Nat.reduceMul, Nat.reduceSub, Nat.reduceLT, Nat.reduceLeDiff, Nat.reduceBEq, if_true, if_false, implies_true, Bool.cond_true, Bool.cond_false, zf, Int.reduceToNat, beq_self_eq_true, errOf, toks_fail]
       first | done | rfl | (simp; done) | trace_state
  ·
   have he := scan_err hv
   refine PWp.seq_rg [0, 3, 25] orcY3_ok (mv := mv) (by decide) fun K hK => ?_
   simp only [pwr, pr1, mv, Int.reduceLT, Int.reduceSub, Int.reduceNeg, Int.reduceToNat, ne_eq, reduceIte, reduceCtorEq, Nat.reduceEqDiff, Nat.reduceAdd, Nat.reduceMul, Nat.reduceSub, Nat.reduceLT, Nat.reduceLeDiff, Nat.reduceBEq, if_true, if_false, implies_true, Bool.cond_true, Bool.cond_false, orcY3, c10b, c11, c9, c19, c22, tOf_rows, zf, Int.reduceToNat, beq_self_eq_true, errOf, toks_fail]
   repeat' with_reducible refine And.intro ?_ ?_
   all_goals try (first | omega | rfl | ((with_reducible refine drawGoal ?_); exact rfl) | (simp only [inR]; omega) | (intro y hy; simp only [List.mem_singleton] at hy; subst hy; rfl) | (intro y hy; cases hy; done) | (simp only [List.length_append, List.length_map, List.length_cons, List.length_nil]; omega) | (intro h; simp only [inR]; omega) | (intro h; simp only [List.length_append, List.length_map, List.length_cons, List.length_nil]; omega) | (intro h; exact h.elim))
   refine hK _ ?_
   clear hK K
   refine PWp.cond (by rfl) (fun hb25 => ?_) (fun hb25 => ?_)
   ·
    try (cases hb25; done)
    all_goals
     refine PWp.seq_rg [2] orcY3_ok (mv := mv) (by decide) fun K hK => ?_
     simp only [pwr, pr1, mv, Int.reduceLT, Int.reduceSub, Int.reduceNeg, Int.reduceToNat, ne_eq, reduceIte, reduceCtorEq, Nat.reduceEqDiff, Nat.reduceAdd, Nat.reduceMul, Nat.reduceSub, Nat.reduceLT, Nat.reduceLeDiff, Nat.reduceBEq, if_true, if_false, implies_true, Bool.cond_true, Bool.cond_false, orcY3, c10b, c11, c9, c19, c22, tOf_rows, zf, Int.reduceToNat, beq_self_eq_true, errOf, toks_fail]
     repeat' with_reducible refine And.intro ?_ ?_
     all_goals try (first | omega | rfl | ((with_reducible refine drawGoal ?_); exact rfl) | (simp only [inR]; omega) | (intro y hy; simp only [List.mem_singleton] at hy; subst hy; rfl) | (intro y hy; cases hy; done) | (simp only [List.length_append, List.length_map, List.length_cons, List.length_nil]; omega) | (intro h; simp only [inR]; omega) | (intro h; simp only [List.length_append, List.length_map, List.length_cons, List.length_nil]; omega) | (intro h; exact h.elim))
     refine hK _ ?_
     clear hK K
     refine PWp.ret (hQ2 _ ?_)
     simp only [pwf, pf1, reduceIte, reduceCtorEq, Nat.reduceEqDiff, Nat.reduceAdd, Nat.reduceMul, Nat.reduceSub, Nat.reduceLT, Nat.reduceLeDiff, Nat.reduceBEq, if_true, if_false, implies_true, Bool.cond_true, Bool.cond_false, zf, Int.reduceToNat, beq_self_eq_true, errOf, toks_fail, Tryd.results3]
     repeat simp only [pwf, pf1, reduceIte, reduceCtorEq, Nat.reduceEqDiff, Nat.reduceAdd, Nat.reduceMul, Nat.reduceSub, Nat.reduceLT, Nat.reduceLeDiff, Nat.reduceBEq, if_true, if_false, implies_true, Bool.cond_true, Bool.cond_false, zf, Int.reduceToNat, beq_self_eq_true, errOf, toks_fail]
     first | done | rfl | (simp; done) | trace_state
   ·
    exact absurd (by simpa using hb25) he
end Go.Pw.L21
