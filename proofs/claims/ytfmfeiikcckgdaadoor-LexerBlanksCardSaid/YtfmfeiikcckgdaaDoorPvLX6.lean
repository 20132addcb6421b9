/- The lexer: the statement on printing. -/
import Derived.Test.YtfmfeiikcckgdaaDoorPvLX5
set_option linter.unusedSimpArgs false
set_option linter.unusedVariables false
set_option linter.unusedSectionVars false
set_option maxHeartbeats 4000000
set_option maxRecDepth 20000
namespace Go.Pw.L21
open Go.Proofs Go.Pw
theorem toks_len (u : Bs) (l : List (Tok × Nat)) : (toks u (.ok l)).length = l.length + 1 := by rw [toks_ok]; simp
theorem toks_at {u : Bs} {l : List (Tok × Nat)} {i : Nat} (h : i < l.length) (h2 : i < (toks u (.ok l)).length) : (toks u (.ok l))[i] = t6 u l[i] := by
  simp only [toks_ok]
  rw [List.getElem_append_left (by simpa using h), List.getElem_map]
theorem toks_same (u p : Bs) : ∀ (l m : List (Tok × Nat)), m.map (·.1) = l.map (·.1) → sameL (toks u (.ok l)) (toks p (.ok m)) = true
  | [], [], _ => rfl
  | [], _ :: _, h => by cases h
  | _ :: _, [], h => by cases h
  | a :: l, b :: m, h => by
    simp only [List.map_cons, List.cons.injEq] at h
    have ih := toks_same u p l m h.2
    show ((t6 u a).same (t6 p b) && sameL (toks u (.ok l)) (toks p (.ok m))) = true
    rw [ih, Bool.and_true]
    unfold T6.same t6
    rw [h.1]
    simp
theorem txt_toks (u : Bs) : ∀ (l : List (Tok × Nat)), (∀ p ∈ l, p.1.kind ≠ 0) → txtL (toks u (.ok l)) = (l.map (·.1)).map (·.text)
  | [], _ => rfl
  | a :: l, h => by
    have ih := txt_toks u l fun q hq => h q (by simp [hq])
    have ha : ((t6 u a).kind != 0) = true := by rw [t6_kind]; simpa using h a (by simp)
    unfold txtL at ih ⊢
    show List.map _ (List.filter _ (t6 u a :: toks u (.ok l))) = _
    rw [List.filter_cons_of_pos (p := fun t : T6 => t.kind != 0) ha, List.map_cons, ih]
    rfl
theorem textsLen_take : ∀ (l : List (Tok × Nat)) (i : Nat), textsLen (l.take i) ≤ textsLen l
  | [], i => by simp [textsLen]
  | a :: l, 0 => by simp [textsLen]
  | a :: l, i + 1 => by
    have := textsLen_take l i
    simp only [textsLen, List.take_succ_cons, List.map_cons, List.sum_cons] at this ⊢
    omega
theorem text_le : ∀ {l : List (Tok × Nat)} {p : Tok × Nat}, p ∈ l → p.1.text.length ≤ textsLen l
  | a :: l, p, h => by
    simp only [textsLen, List.map_cons, List.sum_cons]
    rcases List.mem_cons.1 h with rfl | h
    · omega
    · have := text_le h
      simp only [textsLen] at this
      omega
theorem jt_len (l : List (Tok × Nat)) (i : Nat) : (joinT ((l.map (·.1)).take i)).length ≤ textsLen l + l.length := by
  have h1 := join_len (l.take i)
  have h2 := textsLen_take l i
  rw [List.map_take] at h1
  rw [List.length_take] at h1
  omega
def c22 : St → Option (Prop × St)
  | [(.S 0, .av (.pv (.sl xs)))] => some (xs = t6Rows (tOf xs) ∧ (tOf xs).length ≤ 1000000 ∧ (Lib.join (txtL (tOf xs)) [32]).length ≤ 10000000, [(.S 0, .av (.pv (.str (Lib.join (txtL (tOf xs)) [32]))))])
  | _ => none
theorem p22 {In Ret : St} {pre : Prop} (h : c22 In = some (pre, Ret)) (hp : pre) : PCalls Tryd.prog 22 In Ret := by
  unfold c22 at h
  split at h
  · rename_i xs
    cases h
    obtain ⟨h1, h3, h4⟩ := hp
    obtain ⟨a, rfl⟩ : ∃ l, xs = t6Rows l := ⟨_, h1⟩
    simp only [tOf_rows] at h3 h4 ⊢
    exact t22 a h3 h4
  · cases h
def c19 : St → Option (Prop × St)
  | [(.S 0, .av (.pv (.sl xs))), (.S 1, .av (.pv (.sl ys)))] => some (xs = t6Rows (tOf xs) ∧ ys = t6Rows (tOf ys) ∧ (tOf xs).length ≤ 1000000 ∧ (tOf ys).length ≤ 1000000, [(.S 0, .av (.pv (.bool (sameL (tOf xs) (tOf ys)))))])
  | _ => none
theorem p19 {In Ret : St} {pre : Prop} (h : c19 In = some (pre, Ret)) (hp : pre) : PCalls Tryd.prog 19 In Ret := by
  unfold c19 at h
  split at h
  · rename_i xs ys
    cases h
    obtain ⟨h1, h2, h3, h4⟩ := hp
    obtain ⟨a, rfl⟩ : ∃ l, xs = t6Rows l := ⟨_, h1⟩
    obtain ⟨b, rfl⟩ : ∃ l, ys = t6Rows l := ⟨_, h2⟩
    simp only [tOf_rows] at h3 h4 ⊢
    exact t19 a b h3 h4
  · cases h
def c9 : St → Option (Prop × St)
  | [(.S 0, .av (.pv (.str s)))] => some (s.length ≤ 9223372036854775807, [(.S 0, .av (.pv (.str (s.take 1500))))])
  | _ => none
theorem p9 {In Ret : St} {pre : Prop} (h : c9 In = some (pre, Ret)) (hp : pre) : PCalls Tryd.prog 9 In Ret := by
  unfold c9 at h
  split at h
  · cases h; exact t9 _ hp
  · cases h
def orcY3 : Orc := fun f In => if f = 10 then c10b In else if f = 11 then c11 In else if f = 9 then c9 In else if f = 19 then c19 In else if f = 22 then c22 In else none
theorem orcY3_ok : OrcOk Tryd.prog orcY3 := by
  intro f In pre Ret h hp
  unfold orcY3 at h
  split at h
  · subst f; exact p10b h hp
  split at h
  · subst f; exact p11 h hp
  split at h
  · subst f; exact p9 h hp
  split at h
  · subst f; exact p19 h hp
  split at h
  · subst f; exact p22 h hp
  cases h
theorem t8 (s : Bs) (hs : s.length ≤ 9223372036854775807) : PCalls Tryd.prog 8 [(.S 0, .av (.pv (.str s)))] [(.S 0, .av (.pv (.bool true)))] := by
  refine PCalls.of_k Tryd.func8 (by decide) rfl fun Q hQ1 hQ2 => ?_
  refine PWp.seq_rg [0] orcY3_ok (mv := mv) (by decide) fun K hK => ?_
  simp only [pwr, pr1, mv, Int.reduceLT, Int.reduceSub, Int.reduceNeg, Int.reduceToNat, ne_eq, reduceIte, reduceCtorEq, Nat.reduceEqDiff, Nat.reduceAdd, Nat.reduceMul, Nat.reduceSub, Nat.reduceLT, Nat.reduceLeDiff, Nat.reduceBEq, if_true, if_false, implies_true, Bool.cond_true, Bool.cond_false, orcY3, c10b, c11, c9, c19, c22, tOf_rows, zf, Int.reduceToNat, beq_self_eq_true, errOf, toks_fail]
  repeat' with_reducible refine And.intro ?_ ?_
  all_goals try (first | omega | rfl | ((with_reducible refine drawGoal ?_); exact rfl) | (simp only [inR]; omega) | (intro y hy; simp only [List.mem_singleton] at hy; subst hy; rfl) | (intro y hy; cases hy; done) | (simp only [List.length_append, List.length_map, List.length_cons, List.length_nil]; omega) | (intro h; simp only [inR]; omega) | (intro h; simp only [List.length_append, List.length_map, List.length_cons, List.length_nil]; omega) | (intro h; exact h.elim))
  refine hK _ ?_
  clear hK K
  have hu : (s.take 1500).length ≤ 1500 := by rw [List.length_take]; omega
  obtain ⟨u, hu2⟩ : ∃ u, s.take 1500 = u := ⟨_, rfl⟩
  rw [hu2] at hu
  obtain ⟨v, hv⟩ : ∃ v, scan u = v := ⟨_, rfl⟩
  refine PWp.seq_rg [3, 6] orcY3_ok (mv := mv) (by decide) fun K hK => ?_
  simp only [pwr, pr1, mv, Int.reduceLT, Int.reduceSub, Int.reduceNeg, Int.reduceToNat, ne_eq, reduceIte, reduceCtorEq, Nat.reduceEqDiff, Nat.reduceAdd, Nat.reduceMul, Nat.reduceSub, Nat.reduceLT, Nat.reduceLeDiff, Nat.reduceBEq, if_true, if_false, implies_true, Bool.cond_true, Bool.cond_false, orcY3, c10b, c11, c9, c19, c22, tOf_rows, zf, Int.reduceToNat, beq_self_eq_true, errOf, toks_fail, hu2, hv]
  repeat' with_reducible refine And.intro ?_ ?_
  all_goals try (omega)
  all_goals try (first | omega | rfl | ((with_reducible refine drawGoal ?_); exact rfl) | (simp only [inR]; omega) | (intro y hy; simp only [List.mem_singleton] at hy; subst hy; rfl) | (intro y hy; cases hy; done) | (simp only [List.length_append, List.length_map, List.length_cons, List.length_nil]; omega) | (intro h; simp only [inR]; omega) | (intro h; simp only [List.length_append, List.length_map, List.length_cons, List.length_nil]; omega) | (intro h; exact h.elim))
  refine hK _ ?_
  clear hK K
  refine PWp.seq_k fun K1 hK1 => ?_
  rcases v with l | ⟨k, e⟩
  ·
   refine PWp.seq_rg [3, 27] orcY3_ok (mv := mv) (by decide) fun K hK => ?_
   simp only [pwr, pr1, mv, Int.reduceLT, Int.reduceSub, Int.reduceNeg, Int.reduceToNat, ne_eq, reduceIte, reduceCtorEq, Nat.reduceEqDiff, Nat.reduceAdd, Nat.reduceMul, Nat.reduceSub, Nat.reduceLT, Nat.reduceLeDiff, Nat.reduceBEq, if_true, if_false, implies_true, Bool.cond_true, Bool.cond_false, orcY3, c10b, c11, c9, c19, c22, tOf_rows, zf, Int.reduceToNat, beq_self_eq_true, errOf, toks_fail]
   repeat' with_reducible refine And.intro ?_ ?_
   all_goals try (first | omega | rfl | ((with_reducible refine drawGoal ?_); exact rfl) | (simp only [inR]; omega) | (intro y hy; simp only [List.mem_singleton] at hy; subst hy; rfl) | (intro y hy; cases hy; done) | (simp only [List.length_append, List.length_map, List.length_cons, List.length_nil]; omega) | (intro h; simp only [inR]; omega) | (intro h; simp only [List.length_append, List.length_map, List.length_cons, List.length_nil]; omega) | (intro h; exact h.elim))
   refine hK _ ?_
   clear hK K
   refine PWp.cond (by rfl) (fun hb27 => ?_) (fun hb27 => ?_)
   ·
    try (cases hb27; done)
    all_goals
     refine PWp.seq_rg [2] orcY3_ok (mv := mv) (by decide) fun K hK => ?_
     simp only [pwr, pr1, mv, Int.reduceLT, Int.reduceSub, Int.reduceNeg, Int.reduceToNat, ne_eq, reduceIte, reduceCtorEq, Nat.reduceEqDiff, Nat.reduceAdd, Nat.reduceMul, Nat.reduceSub, Nat.reduceLT, Nat.reduceLeDiff, Nat.reduceBEq, if_true, if_false, implies_true, Bool.cond_true, Bool.cond_false, orcY3, c10b, c11, c9, c19, c22, tOf_rows, zf, Int.reduceToNat, beq_self_eq_true, errOf, toks_fail]
     repeat' with_reducible refine And.intro ?_ ?_
     all_goals try (first | omega | rfl | ((with_reducible refine drawGoal ?_); exact rfl) | (simp only [inR]; omega) | (intro y hy; simp only [List.mem_singleton] at hy; subst hy; rfl) | (intro y hy; cases hy; done) | (simp only [List.length_append, List.length_map, List.length_cons, List.length_nil]; omega) | (intro h; simp only [inR]; omega) | (intro h; simp only [List.length_append, List.length_map, List.length_cons, List.length_nil]; omega) | (intro h; exact h.elim))
     refine hK _ ?_
     clear hK K
     refine PWp.ret (hQ2 _ ?_)
     simp only [pwf, pf1, reduceIte, reduceCtorEq, Nat.reduceEqDiff, Nat.reduceAdd, Nat.reduceMul, Nat.reduceSub, Nat.reduceLT, Nat.reduceLeDiff, Nat.reduceBEq, if_true, if_false, implies_true, Bool.cond_true, Bool.cond_false, zf, Int.reduceToNat, beq_self_eq_true, errOf, toks_fail, Tryd.results8]
     repeat simp only [pwf, pf1, reduceIte, reduceCtorEq, Nat.reduceEqDiff, Nat.reduceAdd, Nat.reduceMul, Nat.reduceSub, Nat.reduceLT, Nat.reduceLeDiff, Nat.reduceBEq, if_true, if_false, implies_true, Bool.cond_true, Bool.cond_false, zf, Int.reduceToNat, beq_self_eq_true, errOf, toks_fail]
     first | done | rfl | (simp; done) | trace_state
   ·
    try (cases hb27; done)
    all_goals
     refine PWp.skip (hK1 _ ?_)
     obtain ⟨hgood, htl, hln⟩ := scan_ok hv
     have hcl := count_len l hgood
     have hjl := join_len l
     have hne : ∀ p ∈ l, p.1.kind ≠ 0 := fun p hp => (good_kind (hgood p hp)).1
     obtain ⟨l2, hsc, hl2⟩ := scan_join (ts := l.map (·.1)) (fun t ht => by obtain ⟨p, hp, rfl⟩ := List.mem_map.1 ht; exact hgood p hp) (by simpa using hln) (by omega)
     have htx := txt_toks u l hne
     have hne2 : ∀ p ∈ l2, p.1.kind ≠ 0 := fun p hp => by
       have : p.1 ∈ l.map (·.1) := by rw [← hl2]; exact List.mem_map.2 ⟨p, hp, rfl⟩
       obtain ⟨q, hq, e⟩ := List.mem_map.1 this
       rw [← e]; exact hne q hq
     obtain ⟨P, hP⟩ : ∃ P, joinT (l.map (·.1)) = P := ⟨_, rfl⟩
     rw [hP] at hsc hjl
     have htx2 := txt_toks P l2 hne2
     rw [hl2] at htx2
     have hj : Lib.join ((l.map (·.1)).map (·.text)) [32] = P := by rw [join_eq]; exact hP
     have hsame := toks_same u P l l2 hl2
     have hTl := toks_len u l
     have hTl2 := toks_len P l2
     have hll : l2.length = l.length := by have := congrArg List.length hl2; simpa using this
     obtain ⟨T, hT⟩ : ∃ T, toks u (.ok l) = T := ⟨_, rfl⟩
     obtain ⟨T2, hT2⟩ : ∃ T, toks P (.ok l2) = T := ⟨_, rfl⟩
     rw [hT] at htx hsame hTl ⊢
     rw [hT2] at htx2 hsame hTl2
     refine PWp.seq_rg [3, 7] orcY3_ok (mv := mv) (by decide) fun K hK => ?_
     simp only [pwr, pr1, mv, Int.reduceLT, Int.reduceSub, Int.reduceNeg, Int.reduceToNat, ne_eq, reduceIte, reduceCtorEq, Nat.reduceEqDiff, Nat.reduceAdd, Nat.reduceMul, Nat.reduceSub, Nat.reduceLT, Nat.reduceLeDiff, Nat.reduceBEq, if_true, if_false, implies_true, Bool.cond_true, Bool.cond_false, orcY3, c10b, c11, c9, c19, c22, tOf_rows, zf, Int.reduceToNat, beq_self_eq_true, errOf, toks_fail, htx, hj]
     repeat' with_reducible refine And.intro ?_ ?_
     all_goals try (first | exact ⟨rfl, by omega, by omega⟩ | omega)
     all_goals try (first | omega | rfl | ((with_reducible refine drawGoal ?_); exact rfl) | (simp only [inR]; omega) | (intro y hy; simp only [List.mem_singleton] at hy; subst hy; rfl) | (intro y hy; cases hy; done) | (simp only [List.length_append, List.length_map, List.length_cons, List.length_nil]; omega) | (intro h; simp only [inR]; omega) | (intro h; simp only [List.length_append, List.length_map, List.length_cons, List.length_nil]; omega) | (intro h; exact h.elim))
     refine hK _ ?_
     clear hK K
     refine PWp.seq_rg [3, 7, 8, 11] orcY3_ok (mv := mv) (by decide) fun K hK => ?_
     simp only [pwr, pr1, mv, Int.reduceLT, Int.reduceSub, Int.reduceNeg, Int.reduceToNat, ne_eq, reduceIte, reduceCtorEq, Nat.reduceEqDiff, Nat.reduceAdd, Nat.reduceMul, Nat.reduceSub, Nat.reduceLT, Nat.reduceLeDiff, Nat.reduceBEq, if_true, if_false, implies_true, Bool.cond_true, Bool.cond_false, orcY3, c10b, c11, c9, c19, c22, tOf_rows, zf, Int.reduceToNat, beq_self_eq_true, errOf, toks_fail, hsc, hT2]
     repeat' with_reducible refine And.intro ?_ ?_
     all_goals try (omega)
     all_goals try (first | omega | rfl | ((with_reducible refine drawGoal ?_); exact rfl) | (simp only [inR]; omega) | (intro y hy; simp only [List.mem_singleton] at hy; subst hy; rfl) | (intro y hy; cases hy; done) | (simp only [List.length_append, List.length_map, List.length_cons, List.length_nil]; omega) | (intro h; simp only [inR]; omega) | (intro h; simp only [List.length_append, List.length_map, List.length_cons, List.length_nil]; omega) | (intro h; exact h.elim))
     refine hK _ ?_
     clear hK K
     refine PWp.seq_rg [3, 7, 8, 11, 12] orcY3_ok (mv := mv) (by decide) fun K hK => ?_
     simp only [pwr, pr1, mv, Int.reduceLT, Int.reduceSub, Int.reduceNeg, Int.reduceToNat, ne_eq, reduceIte, reduceCtorEq, Nat.reduceEqDiff, Nat.reduceAdd, Nat.reduceMul, Nat.reduceSub, Nat.reduceLT, Nat.reduceLeDiff, Nat.reduceBEq, if_true, if_false, implies_true, Bool.cond_true, Bool.cond_false, orcY3, c10b, c11, c9, c19, c22, tOf_rows, zf, Int.reduceToNat, beq_self_eq_true, errOf, toks_fail]
     repeat' with_reducible refine And.intro ?_ ?_
     all_goals try (first | omega | rfl | ((with_reducible refine drawGoal ?_); exact rfl) | (simp only [inR]; omega) | (intro y hy; simp only [List.mem_singleton] at hy; subst hy; rfl) | (intro y hy; cases hy; done) | (simp only [List.length_append, List.length_map, List.length_cons, List.length_nil]; omega) | (intro h; simp only [inR]; omega) | (intro h; simp only [List.length_append, List.length_map, List.length_cons, List.length_nil]; omega) | (intro h; exact h.elim))
     refine hK _ ?_
     clear hK K
     refine PWp.seq_k fun K2 hK2 => ?_
     refine PWp.seq_rg [3, 7, 8, 11, 12, 13] orcY3_ok (mv := mv) (by decide) fun K hK => ?_
     simp only [pwr, pr1, mv, Int.reduceLT, Int.reduceSub, Int.reduceNeg, Int.reduceToNat, ne_eq, reduceIte, reduceCtorEq, Nat.reduceEqDiff, Nat.reduceAdd, Nat.reduceMul, Nat.reduceSub, Nat.reduceLT, Nat.reduceLeDiff, Nat.reduceBEq, if_true, if_false, implies_true, Bool.cond_true, Bool.cond_false, orcY3, c10b, c11, c9, c19, c22, tOf_rows, zf, Int.reduceToNat, beq_self_eq_true, errOf, toks_fail]
     repeat' with_reducible refine And.intro ?_ ?_
     all_goals try (first | omega | rfl | ((with_reducible refine drawGoal ?_); exact rfl) | (simp only [inR]; omega) | (intro y hy; simp only [List.mem_singleton] at hy; subst hy; rfl) | (intro y hy; cases hy; done) | (simp only [List.length_append, List.length_map, List.length_cons, List.length_nil]; omega) | (intro h; simp only [inR]; omega) | (intro h; simp only [List.length_append, List.length_map, List.length_cons, List.length_nil]; omega) | (intro h; exact h.elim))
     refine hK _ ?_
     clear hK K
     refine PWp.block_k fun Qq3 hq3n hq3x hq3r hq3e => ?_
     refine PWp.loop_k (fun i : Nat => [(.S 3, .av (.pv (.sl (t6Rows T)))), (.S 7, .av (.pv (.str P))), (.S 8, .av (.pv (.sl (t6Rows T2)))), (.S 11, .av (.pv (.int .i64 0))), (.S 12, .av (.pv (.str (joinT ((l.map (·.1)).take i))))), (.S 13, .av (.pv (.int .i64 i)))]) (fun i => i ≤ l.length) (fun i => l.length - i) (0) (Nat.zero_le _) ?_ ?_
     · repeat simp only [pwf, pf1, reduceIte, reduceCtorEq, Nat.reduceEqDiff, Nat.reduceAdd, Nat.reduceMul, Nat.reduceSub, Nat.reduceLT, Nat.reduceLeDiff, Nat.reduceBEq, if_true, if_false, implies_true, Bool.cond_true, Bool.cond_false, zf, Int.reduceToNat, beq_self_eq_true, errOf, toks_fail]
       exact ⟨rfl, rfl⟩
     rintro i hi J1 hJ1
     refine PWp.seq_k fun K4 hK4 => ?_
     refine PWp.seq_rg [3, 7, 8, 11, 12, 13, 47] orcY3_ok (mv := mv) (by decide) fun K hK => ?_
     simp only [pwr, pr1, mv, Int.reduceLT, Int.reduceSub, Int.reduceNeg, Int.reduceToNat, ne_eq, reduceIte, reduceCtorEq, Nat.reduceEqDiff, Nat.reduceAdd, Nat.reduceMul, Nat.reduceSub, Nat.reduceLT, Nat.reduceLeDiff, Nat.reduceBEq, if_true, if_false, implies_true, Bool.cond_true, Bool.cond_false, orcY3, c10b, c11, c9, c19, c22, tOf_rows, zf, Int.reduceToNat, beq_self_eq_true, errOf, toks_fail, List.length_map, hTl]
     repeat' with_reducible refine And.intro ?_ ?_
     all_goals try (first | omega | rfl | ((with_reducible refine drawGoal ?_); exact rfl) | (simp only [inR]; omega) | (intro y hy; simp only [List.mem_singleton] at hy; subst hy; rfl) | (intro y hy; cases hy; done) | (simp only [List.length_append, List.length_map, List.length_cons, List.length_nil]; omega) | (intro h; simp only [inR]; omega) | (intro h; simp only [List.length_append, List.length_map, List.length_cons, List.length_nil]; omega) | (intro h; exact h.elim))
     refine hK _ ?_
     clear hK K
     refine PWp.cond (by rfl) (fun hb47 => ?_) (fun hb47 => ?_)
     ·
      try (cases hb47; done)
      all_goals
       refine PWp.skip (hK4 _ ?_)
       refine PWp.seq_k fun K5 hK5 => ?_
       refine PWp.block_k fun Qq6 hq6n hq6x hq6r hq6e => ?_
       refine PWp.seq_k fun K7 hK7 => ?_
       have hil : i < l.length := by have := of_decide_eq_true hb47; omega
       have hiT : i < T.length := by omega
       have eT : T[i].text = l[i].1.text := by
         have h1 : i < (toks u (.ok l)).length := by rw [hT]; exact hiT
         have := toks_at hil h1
         simp only [hT] at this
         rw [this]; rfl
       have e1 := row_at hiT
       have ets : (l.map (·.1)).take (i + 1) = (l.map (·.1)).take i ++ [l[i].1] := by rw [List.take_succ_eq_append_getElem (by simpa using hil)]; simp
       have hjt := jt_len l i
       have htl2 := text_le (List.getElem_mem hil)
       have ejs := joinT_snoc ((l.map (·.1)).take i) l[i].1
       rw [← ets] at ejs
       refine PWp.seq_rg [3, 7, 8, 11, 12, 13, 51] orcY3_ok (mv := mv) (by decide) fun K hK => ?_
       simp only [pwr, pr1, mv, Int.reduceLT, Int.reduceSub, Int.reduceNeg, Int.reduceToNat, ne_eq, reduceIte, reduceCtorEq, Nat.reduceEqDiff, Nat.reduceAdd, Nat.reduceMul, Nat.reduceSub, Nat.reduceLT, Nat.reduceLeDiff, Nat.reduceBEq, if_true, if_false, implies_true, Bool.cond_true, Bool.cond_false, orcY3, c10b, c11, c9, c19, c22, tOf_rows, zf, Int.reduceToNat, beq_self_eq_true, errOf, toks_fail]
       repeat' with_reducible refine And.intro ?_ ?_
       all_goals try (first | omega | rfl | ((with_reducible refine drawGoal ?_); exact rfl) | (simp only [inR]; omega) | (intro y hy; simp only [List.mem_singleton] at hy; subst hy; rfl) | (intro y hy; cases hy; done) | (simp only [List.length_append, List.length_map, List.length_cons, List.length_nil]; omega) | (intro h; simp only [inR]; omega) | (intro h; simp only [List.length_append, List.length_map, List.length_cons, List.length_nil]; omega) | (intro h; exact h.elim))
       refine hK _ ?_
       clear hK K
       refine PWp.cond (by rfl) (fun hb51 => ?_) (fun hb51 => ?_)
       ·
        try (cases hb51; done)
        all_goals
         refine PWp.rg [3, 7, 8, 11, 12, 13] orcY3_ok (mv := mv) (by decide) ?_
         simp only [pwr, pr1, mv, Int.reduceLT, Int.reduceSub, Int.reduceNeg, Int.reduceToNat, ne_eq, reduceIte, reduceCtorEq, Nat.reduceEqDiff, Nat.reduceAdd, Nat.reduceMul, Nat.reduceSub, Nat.reduceLT, Nat.reduceLeDiff, Nat.reduceBEq, if_true, if_false, implies_true, Bool.cond_true, Bool.cond_false, orcY3, c10b, c11, c9, c19, c22, tOf_rows, zf, Int.reduceToNat, beq_self_eq_true, errOf, toks_fail]
         repeat' with_reducible refine And.intro ?_ ?_
         all_goals try (omega)
         all_goals try (first | omega | rfl | ((with_reducible refine drawGoal ?_); exact rfl) | (simp only [inR]; omega) | (intro y hy; simp only [List.mem_singleton] at hy; subst hy; rfl) | (intro y hy; cases hy; done) | (simp only [List.length_append, List.length_map, List.length_cons, List.length_nil]; omega) | (intro h; simp only [inR]; omega) | (intro h; simp only [List.length_append, List.length_map, List.length_cons, List.length_nil]; omega) | (intro h; exact h.elim))
         refine hK7 _ ?_
         refine PWp.rg [3, 7, 8, 11, 12, 13] orcY3_ok (mv := mv) (by decide) ?_
         simp only [pwr, pr1, mv, Int.reduceLT, Int.reduceSub, Int.reduceNeg, Int.reduceToNat, ne_eq, reduceIte, reduceCtorEq, Nat.reduceEqDiff, Nat.reduceAdd, Nat.reduceMul, Nat.reduceSub, Nat.reduceLT, Nat.reduceLeDiff, Nat.reduceBEq, if_true, if_false, implies_true, Bool.cond_true, Bool.cond_false, orcY3, c10b, c11, c9, c19, c22, tOf_rows, zf, Int.reduceToNat, beq_self_eq_true, errOf, toks_fail, e1, eT]
         repeat' with_reducible refine And.intro ?_ ?_
         all_goals try (omega)
         all_goals try (first | omega | rfl | ((with_reducible refine drawGoal ?_); exact rfl) | (simp only [inR]; omega) | (intro y hy; simp only [List.mem_singleton] at hy; subst hy; rfl) | (intro y hy; cases hy; done) | (simp only [List.length_append, List.length_map, List.length_cons, List.length_nil]; omega) | (intro h; simp only [inR]; omega) | (intro h; simp only [List.length_append, List.length_map, List.length_cons, List.length_nil]; omega) | (intro h; exact h.elim))
         refine hq6n _ (hK5 _ ?_)
         refine PWp.rg [3, 7, 8, 11, 12, 13] orcY3_ok (mv := mv) (by decide) ?_
         simp only [pwr, pr1, mv, Int.reduceLT, Int.reduceSub, Int.reduceNeg, Int.reduceToNat, ne_eq, reduceIte, reduceCtorEq, Nat.reduceEqDiff, Nat.reduceAdd, Nat.reduceMul, Nat.reduceSub, Nat.reduceLT, Nat.reduceLeDiff, Nat.reduceBEq, if_true, if_false, implies_true, Bool.cond_true, Bool.cond_false, orcY3, c10b, c11, c9, c19, c22, tOf_rows, zf, Int.reduceToNat, beq_self_eq_true, errOf, toks_fail]
         repeat' with_reducible refine And.intro ?_ ?_
         all_goals try (first | omega | rfl | ((with_reducible refine drawGoal ?_); exact rfl) | (simp only [inR]; omega) | (intro y hy; simp only [List.mem_singleton] at hy; subst hy; rfl) | (intro y hy; cases hy; done) | (simp only [List.length_append, List.length_map, List.length_cons, List.length_nil]; omega) | (intro h; simp only [inR]; omega) | (intro h; simp only [List.length_append, List.length_map, List.length_cons, List.length_nil]; omega) | (intro h; exact h.elim))
         refine hJ1 _ (i + 1) ?_ ?_ ?_
         · show i + 1 ≤ l.length
           omega
         · omega
         · repeat simp only [pwf, pf1, reduceIte, reduceCtorEq, Nat.reduceEqDiff, Nat.reduceAdd, Nat.reduceMul, Nat.reduceSub, Nat.reduceLT, Nat.reduceLeDiff, Nat.reduceBEq, if_true, if_false, implies_true, Bool.cond_true, Bool.cond_false, zf, Int.reduceToNat, beq_self_eq_true, errOf, toks_fail]
           rw [ejs, if_neg (by have h0 := of_decide_eq_true hb51; intro h; have := congrArg List.length h; simp only [List.length_take, List.length_map, List.length_nil] at this; omega)]
           simp
       ·
        try (cases hb51; done)
        all_goals
         refine PWp.skip (hK7 _ ?_)
         refine PWp.rg [3, 7, 8, 11, 12, 13] orcY3_ok (mv := mv) (by decide) ?_
         simp only [pwr, pr1, mv, Int.reduceLT, Int.reduceSub, Int.reduceNeg, Int.reduceToNat, ne_eq, reduceIte, reduceCtorEq, Nat.reduceEqDiff, Nat.reduceAdd, Nat.reduceMul, Nat.reduceSub, Nat.reduceLT, Nat.reduceLeDiff, Nat.reduceBEq, if_true, if_false, implies_true, Bool.cond_true, Bool.cond_false, orcY3, c10b, c11, c9, c19, c22, tOf_rows, zf, Int.reduceToNat, beq_self_eq_true, errOf, toks_fail, e1, eT]
         repeat' with_reducible refine And.intro ?_ ?_
         all_goals try (omega)
         all_goals try (first | omega | rfl | ((with_reducible refine drawGoal ?_); exact rfl) | (simp only [inR]; omega) | (intro y hy; simp only [List.mem_singleton] at hy; subst hy; rfl) | (intro y hy; cases hy; done) | (simp only [List.length_append, List.length_map, List.length_cons, List.length_nil]; omega) | (intro h; simp only [inR]; omega) | (intro h; simp only [List.length_append, List.length_map, List.length_cons, List.length_nil]; omega) | (intro h; exact h.elim))
         refine hq6n _ (hK5 _ ?_)
         refine PWp.rg [3, 7, 8, 11, 12, 13] orcY3_ok (mv := mv) (by decide) ?_
         simp only [pwr, pr1, mv, Int.reduceLT, Int.reduceSub, Int.reduceNeg, Int.reduceToNat, ne_eq, reduceIte, reduceCtorEq, Nat.reduceEqDiff, Nat.reduceAdd, Nat.reduceMul, Nat.reduceSub, Nat.reduceLT, Nat.reduceLeDiff, Nat.reduceBEq, if_true, if_false, implies_true, Bool.cond_true, Bool.cond_false, orcY3, c10b, c11, c9, c19, c22, tOf_rows, zf, Int.reduceToNat, beq_self_eq_true, errOf, toks_fail]
         repeat' with_reducible refine And.intro ?_ ?_
         all_goals try (first | omega | rfl | ((with_reducible refine drawGoal ?_); exact rfl) | (simp only [inR]; omega) | (intro y hy; simp only [List.mem_singleton] at hy; subst hy; rfl) | (intro y hy; cases hy; done) | (simp only [List.length_append, List.length_map, List.length_cons, List.length_nil]; omega) | (intro h; simp only [inR]; omega) | (intro h; simp only [List.length_append, List.length_map, List.length_cons, List.length_nil]; omega) | (intro h; exact h.elim))
         refine hJ1 _ (i + 1) ?_ ?_ ?_
         · show i + 1 ≤ l.length
           omega
         · omega
         · repeat simp only [pwf, pf1, reduceIte, reduceCtorEq, Nat.reduceEqDiff, Nat.reduceAdd, Nat.reduceMul, Nat.reduceSub, Nat.reduceLT, Nat.reduceLeDiff, Nat.reduceBEq, if_true, if_false, implies_true, Bool.cond_true, Bool.cond_false, zf, Int.reduceToNat, beq_self_eq_true, errOf, toks_fail]
           have h0 : i = 0 := by have := of_decide_eq_false hb51; omega
           subst h0
           rw [ejs]
           simp [joinT]
     ·
      try (cases hb47; done)
      all_goals
       refine PWp.exit (hq3x _ (hK2 _ ?_))
       have hie : i = l.length := by have := of_decide_eq_false hb47; omega
       have hfin : joinT ((l.map (·.1)).take i) = P := by rw [hie, List.take_of_length_le (by simp)]; exact hP
       refine PWp.seq_rg [2] orcY3_ok (mv := mv) (by decide) fun K hK => ?_
       simp only [pwr, pr1, mv, Int.reduceLT, Int.reduceSub, Int.reduceNeg, Int.reduceToNat, ne_eq, reduceIte, reduceCtorEq, Nat.reduceEqDiff, Nat.reduceAdd, Nat.reduceMul, Nat.reduceSub, Nat.reduceLT, Nat.reduceLeDiff, Nat.reduceBEq, if_true, if_false, implies_true, Bool.cond_true, Bool.cond_false, orcY3, c10b, c11, c9, c19, c22, tOf_rows, zf, Int.reduceToNat, beq_self_eq_true, errOf, toks_fail, hfin, hsame, htx2, hj]
       repeat' with_reducible refine And.intro ?_ ?_
       all_goals try (first | exact ⟨rfl, rfl, by omega, by omega⟩ | exact fun _ => ⟨rfl, rfl, by omega, by omega⟩ | exact ⟨rfl, by omega, by omega⟩ | exact fun _ => ⟨rfl, by omega, by omega⟩ | omega)
       all_goals try (first | omega | rfl | ((with_reducible refine drawGoal ?_); exact rfl) | (simp only [inR]; omega) | (intro y hy; simp only [List.mem_singleton] at hy; subst hy; rfl) | (intro y hy; cases hy; done) | (simp only [List.length_append, List.length_map, List.length_cons, List.length_nil]; omega) | (intro h; simp only [inR]; omega) | (intro h; simp only [List.length_append, List.length_map, List.length_cons, List.length_nil]; omega) | (intro h; exact h.elim))
       refine hK _ ?_
       clear hK K
       refine PWp.ret (hQ2 _ ?_)
       simp only [pwf, pf1, reduceIte, reduceCtorEq, Nat.reduceEqDiff, Nat.reduceAdd, Nat.reduceMul, Nat.reduceSub, Nat.reduceLT, Nat.reduceLeDiff, Nat.reduceBEq, if_true, if_false, implies_true, Bool.cond_true, Bool.cond_false, zf, Int.reduceToNat, beq_self_eq_true, errOf, toks_fail, Tryd.results8]
       repeat simp only [pwf, pf1, reduceIte, reduceCtorEq, Nat.reduceEqDiff, Nat.reduceAdd, Nat.reduceMul, Nat.reduceSub, Nat.reduceLT, Nat.reduceLeDiff, Nat.reduceBEq, if_true, if_false, implies_true, Bool.cond_true, Bool.cond_false, zf, Int.reduceToNat, beq_self_eq_true, errOf, toks_fail]
       first | done | rfl | (simp; done) | trace_state
  ·
   have he := scan_err hv
   refine PWp.seq_rg [3, 27] orcY3_ok (mv := mv) (by decide) fun K hK => ?_
   simp only [pwr, pr1, mv, Int.reduceLT, Int.reduceSub, Int.reduceNeg, Int.reduceToNat, ne_eq, reduceIte, reduceCtorEq, Nat.reduceEqDiff, Nat.reduceAdd, Nat.reduceMul, Nat.reduceSub, Nat.reduceLT, Nat.reduceLeDiff, Nat.reduceBEq, if_true, if_false, implies_true, Bool.cond_true, Bool.cond_false, orcY3, c10b, c11, c9, c19, c22, tOf_rows, zf, Int.reduceToNat, beq_self_eq_true, errOf, toks_fail]
   repeat' with_reducible refine And.intro ?_ ?_
   all_goals try (first | omega | rfl | ((with_reducible refine drawGoal ?_); exact rfl) | (simp only [inR]; omega) | (intro y hy; simp only [List.mem_singleton] at hy; subst hy; rfl) | (intro y hy; cases hy; done) | (simp only [List.length_append, List.length_map, List.length_cons, List.length_nil]; omega) | (intro h; simp only [inR]; omega) | (intro h; simp only [List.length_append, List.length_map, List.length_cons, List.length_nil]; omega) | (intro h; exact h.elim))
   refine hK _ ?_
   clear hK K
   refine PWp.cond (by rfl) (fun hb27 => ?_) (fun hb27 => ?_)
   ·
    try (cases hb27; done)
    all_goals
     refine PWp.seq_rg [2] orcY3_ok (mv := mv) (by decide) fun K hK => ?_
     simp only [pwr, pr1, mv, Int.reduceLT, Int.reduceSub, Int.reduceNeg, Int.reduceToNat, ne_eq, reduceIte, reduceCtorEq, Nat.reduceEqDiff, Nat.reduceAdd, Nat.reduceMul, Nat.reduceSub, Nat.reduceLT, Nat.reduceLeDiff, Nat.reduceBEq, if_true, if_false, implies_true, Bool.cond_true, Bool.cond_false, orcY3, c10b, c11, c9, c19, c22, tOf_rows, zf, Int.reduceToNat, beq_self_eq_true, errOf, toks_fail]
     repeat' with_reducible refine And.intro ?_ ?_
     all_goals try (first | omega | rfl | ((with_reducible refine drawGoal ?_); exact rfl) | (simp only [inR]; omega) | (intro y hy; simp only [List.mem_singleton] at hy; subst hy; rfl) | (intro y hy; cases hy; done) | (simp only [List.length_append, List.length_map, List.length_cons, List.length_nil]; omega) | (intro h; simp only [inR]; omega) | (intro h; simp only [List.length_append, List.length_map, List.length_cons, List.length_nil]; omega) | (intro h; exact h.elim))
     refine hK _ ?_
     clear hK K
     refine PWp.ret (hQ2 _ ?_)
     simp only [pwf, pf1, reduceIte, reduceCtorEq, Nat.reduceEqDiff, Nat.reduceAdd, Nat.reduceMul, Nat.reduceSub, Nat.reduceLT, Nat.reduceLeDiff, Nat.reduceBEq, if_true, if_false, implies_true, Bool.cond_true, Bool.cond_false, zf, Int.reduceToNat, beq_self_eq_true, errOf, toks_fail, Tryd.results8]
     repeat simp only [pwf, pf1, reduceIte, reduceCtorEq, Nat.reduceEqDiff, Nat.reduceAdd, Nat.reduceMul, Nat.reduceSub, Nat.reduceLT, Nat.reduceLeDiff, Nat.reduceBEq, if_true, if_false, implies_true, Bool.cond_true, Bool.cond_false, zf, Int.reduceToNat, beq_self_eq_true, errOf, toks_fail]
     first | done | rfl | (simp; done) | trace_state
   ·
    exact absurd (by simpa using hb27) he
end Go.Pw.L21
