/- The lexer: the statements on words and on quoted texts. -/
import Derived.Test.YtfmfeiikcckgdaaDoorPvLX3
import Derived.Test.YtfmfeiikcckgdaaDoorPvL21M
set_option linter.unusedSimpArgs false
set_option linter.unusedVariables false
set_option linter.unusedSectionVars false
set_option maxHeartbeats 4000000
set_option maxRecDepth 20000
namespace Go.Pw.L21
open Go.Proofs Go.Pw
def c11 : St → Option (Prop × St)
  | [] => some (True, [(.S 0, .av (.pv (.bool true)))])
  | _ => none
theorem p11 {In Ret : St} {pre : Prop} (h : c11 In = some (pre, Ret)) (hp : pre) : PCalls Tryd.prog 11 In Ret := by
  unfold c11 at h
  split at h
  · cases h; exact t11
  · cases h
def c12 : St → Option (Prop × St)
  | [(.S 0, .av (.pv (.sl xs))), (.S 1, .av (.pv (.sl ys)))] => some (xs = sRows (sOf xs) ∧ ys = sRows (sOf ys) ∧ (sOf xs).length ≤ 1000000 ∧ (sOf ys).length ≤ 1000000, [(.S 0, .av (.pv (.bool (decide (sOf xs = sOf ys)))))])
  | _ => none
theorem p12 {In Ret : St} {pre : Prop} (h : c12 In = some (pre, Ret)) (hp : pre) : PCalls Tryd.prog 12 In Ret := by
  unfold c12 at h
  split at h
  · rename_i xs ys
    cases h
    obtain ⟨h1, h2, h3, h4⟩ := hp
    obtain ⟨a, rfl⟩ : ∃ l, xs = sRows l := ⟨_, h1⟩
    obtain ⟨b, rfl⟩ : ∃ l, ys = sRows l := ⟨_, h2⟩
    simp only [sOf_sRows] at h3 h4 ⊢
    exact t12 a b h3 h4
  · cases h
def c16 : St → Option (Prop × St)
  | [] => some (True, [(.S 0, .av (.pv (.sl (sRows symbols))))])
  | _ => none
theorem p16 {In Ret : St} {pre : Prop} (h : c16 In = some (pre, Ret)) (hp : pre) : PCalls Tryd.prog 16 In Ret := by
  unfold c16 at h
  split at h
  · cases h; exact t16
  · cases h
def c17 : St → Option (Prop × St)
  | [(.S 0, .av (.pv (.str s)))] => some (s.length ≤ 1000000, [(.S 0, .av (.pv (.bool (isIdent s))))])
  | _ => none
theorem p17 {In Ret : St} {pre : Prop} (h : c17 In = some (pre, Ret)) (hp : pre) : PCalls Tryd.prog 17 In Ret := by
  unfold c17 at h
  split at h
  · cases h; exact t17 _ hp
  · cases h
theorem p18 {In Ret : St} {pre : Prop} (h : c17 In = some (pre, Ret)) (hp : pre) : PCalls Tryd.prog 18 In Ret := by
  unfold c17 at h
  split at h
  · cases h; exact t18 _ hp
  · cases h
abbrev c18 := c17
theorem row6 (t : T6) : t.row = [.int .i64 t.kind, .str t.text, .int .i64 t.value, .str t.bytes, .int .i64 t.line, .int .i64 t.col] := rfl

/-- Scan's contract under another name, by tokens -/
def orcY1 : Orc := fun f In => if f = 10 then c10b In else if f = 11 then c11 In else if f = 12 then c12 In else if f = 13 then c13 In else if f = 14 then c14 In else if f = 15 then c15 In else if f = 16 then c16 In else if f = 17 then c17 In else if f = 18 then c17 In else none
theorem orcY1_ok : OrcOk Tryd.prog orcY1 := by
  intro f In pre Ret h hp
  unfold orcY1 at h
  split at h
  · subst f; exact p10b h hp
  split at h
  · subst f; exact p11 h hp
  split at h
  · subst f; exact p12 h hp
  split at h
  · subst f; exact p13 h hp
  split at h
  · subst f; exact p14 h hp
  split at h
  · subst f; exact p15 h hp
  split at h
  · subst f; exact p16 h hp
  split at h
  · subst f; exact p17 h hp
  split at h
  · subst f; exact p18 h hp
  cases h
theorem toks_ok (s : Bs) (l : List (Tok × Nat)) : toks s (.ok l) = l.map (t6 s) ++ [end6 s] := rfl
theorem toks_fail (s : Bs) (k : Nat) (e : Int) : toks s (.fail k e) = [] := rfl
theorem t6_kind (s : Bs) (p : Tok × Nat) : (t6 s p).kind = p.1.kind := rfl
theorem t6_text (s : Bs) (p : Tok × Nat) : (t6 s p).text = p.1.text := rfl
theorem min100 (s : Bs) (c : Nat) : (min (s.length : Int) (c : Int)).toNat = min s.length c := by omega
theorem take_min (s : Bs) (c : Nat) : s.take (min s.length c) = s.take c := by
  rcases Nat.le_total s.length c with h | h
  · rw [Nat.min_eq_left h, List.take_of_length_le (Nat.le_refl _), List.take_of_length_le h]
  · rw [Nat.min_eq_right h]
theorem t4 (s : Bs) (hs : s.length ≤ 9223372036854775807) : PCalls Tryd.prog 4 [(.S 0, .av (.pv (.str s)))] [(.S 0, .av (.pv (.bool true)))] := by
  refine PCalls.of_k Tryd.func4 (by decide) rfl fun Q hQ1 hQ2 => ?_
  refine PWp.seq_rg [0] orcY1_ok (mv := mv) (by decide) fun K hK => ?_
  simp only [pwr, pr1, mv, Int.reduceLT, Int.reduceSub, Int.reduceNeg, Int.reduceToNat, ne_eq, reduceIte, reduceCtorEq, Nat.reduceEqDiff, Nat.reduceAdd, Nat.reduceMul, Nat.reduceSub, Nat.reduceLT, Nat.reduceLeDiff, Nat.reduceBEq, if_true, if_false, implies_true, Bool.cond_true, Bool.cond_false, orcY1, c10b, c11, c12, c13, c14, c15, c16, c17, sOf_sRows, zf, Int.reduceToNat]
  repeat' with_reducible refine And.intro ?_ ?_
  all_goals try (first | omega | rfl | ((with_reducible refine drawGoal ?_); exact rfl) | (simp only [inR]; omega) | (intro y hy; simp only [List.mem_singleton] at hy; subst hy; rfl) | (intro y hy; cases hy; done) | (simp only [List.length_append, List.length_map, List.length_cons, List.length_nil]; omega) | (intro h; simp only [inR]; omega) | (intro h; simp only [List.length_append, List.length_map, List.length_cons, List.length_nil]; omega) | (intro h; exact h.elim))
  refine hK _ ?_
  clear hK K
  have em : (min (s.length : Int) 100).toNat = min s.length 100 := by omega
  have et := take_min s 100
  have hu : (s.take 100).length ≤ 100 := by rw [List.length_take]; omega
  obtain ⟨u, hu2⟩ : ∃ u, s.take 100 = u := ⟨_, rfl⟩
  rw [hu2] at hu et
  refine PWp.seq_rg [0] orcY1_ok (mv := mv) (by decide) fun K hK => ?_
  simp only [pwr, pr1, mv, Int.reduceLT, Int.reduceSub, Int.reduceNeg, Int.reduceToNat, ne_eq, reduceIte, reduceCtorEq, Nat.reduceEqDiff, Nat.reduceAdd, Nat.reduceMul, Nat.reduceSub, Nat.reduceLT, Nat.reduceLeDiff, Nat.reduceBEq, if_true, if_false, implies_true, Bool.cond_true, Bool.cond_false, orcY1, c10b, c11, c12, c13, c14, c15, c16, c17, sOf_sRows, zf, Int.reduceToNat, em, et]
  repeat' with_reducible refine And.intro ?_ ?_
  all_goals try (omega)
  all_goals try (first | omega | rfl | ((with_reducible refine drawGoal ?_); exact rfl) | (simp only [inR]; omega) | (intro y hy; simp only [List.mem_singleton] at hy; subst hy; rfl) | (intro y hy; cases hy; done) | (simp only [List.length_append, List.length_map, List.length_cons, List.length_nil]; omega) | (intro h; simp only [inR]; omega) | (intro h; simp only [List.length_append, List.length_map, List.length_cons, List.length_nil]; omega) | (intro h; exact h.elim))
  refine hK _ ?_
  clear hK K
  obtain ⟨v, hv⟩ : ∃ v, scan u = v := ⟨_, rfl⟩
  obtain ⟨b, hb⟩ : ∃ b, isIdent u = b := ⟨_, rfl⟩
  refine PWp.seq_rg [0, 3, 6] orcY1_ok (mv := mv) (by decide) fun K hK => ?_
  simp only [pwr, pr1, mv, Int.reduceLT, Int.reduceSub, Int.reduceNeg, Int.reduceToNat, ne_eq, reduceIte, reduceCtorEq, Nat.reduceEqDiff, Nat.reduceAdd, Nat.reduceMul, Nat.reduceSub, Nat.reduceLT, Nat.reduceLeDiff, Nat.reduceBEq, if_true, if_false, implies_true, Bool.cond_true, Bool.cond_false, orcY1, c10b, c11, c12, c13, c14, c15, c16, c17, sOf_sRows, zf, Int.reduceToNat, hv]
  repeat' with_reducible refine And.intro ?_ ?_
  all_goals try (omega)
  all_goals try (first | omega | rfl | ((with_reducible refine drawGoal ?_); exact rfl) | (simp only [inR]; omega) | (intro y hy; simp only [List.mem_singleton] at hy; subst hy; rfl) | (intro y hy; cases hy; done) | (simp only [List.length_append, List.length_map, List.length_cons, List.length_nil]; omega) | (intro h; simp only [inR]; omega) | (intro h; simp only [List.length_append, List.length_map, List.length_cons, List.length_nil]; omega) | (intro h; exact h.elim))
  refine hK _ ?_
  clear hK K
  rcases v with (_ | ⟨p, _ | ⟨q, l⟩⟩) | ⟨k, e⟩
  ·
   have hb0 : b = false := by rw [← hb]; exact ident_none (by omega) (by rw [hv]; rintro ⟨p, hp⟩; simp at hp)
   refine PWp.seq_rg [0, 7] orcY1_ok (mv := mv) (by decide) fun K hK => ?_
   simp only [pwr, pr1, mv, Int.reduceLT, Int.reduceSub, Int.reduceNeg, Int.reduceToNat, ne_eq, reduceIte, reduceCtorEq, Nat.reduceEqDiff, Nat.reduceAdd, Nat.reduceMul, Nat.reduceSub, Nat.reduceLT, Nat.reduceLeDiff, Nat.reduceBEq, if_true, if_false, implies_true, Bool.cond_true, Bool.cond_false, orcY1, c10b, c11, c12, c13, c14, c15, c16, c17, sOf_sRows, zf, Int.reduceToNat, toks_ok, toks_fail, row6, errOf, List.getD_cons_zero, t6_kind, t6_text]
   repeat' with_reducible refine And.intro ?_ ?_
   all_goals try (first | omega | (simp; done) | (intro h; simp at h; done))
   all_goals try (first | omega | rfl | ((with_reducible refine drawGoal ?_); exact rfl) | (simp only [inR]; omega) | (intro y hy; simp only [List.mem_singleton] at hy; subst hy; rfl) | (intro y hy; cases hy; done) | (simp only [List.length_append, List.length_map, List.length_cons, List.length_nil]; omega) | (intro h; simp only [inR]; omega) | (intro h; simp only [List.length_append, List.length_map, List.length_cons, List.length_nil]; omega) | (intro h; exact h.elim))
   refine hK _ ?_
   clear hK K
   refine PWp.seq_rg [2] orcY1_ok (mv := mv) (by decide) fun K hK => ?_
   simp only [pwr, pr1, mv, Int.reduceLT, Int.reduceSub, Int.reduceNeg, Int.reduceToNat, ne_eq, reduceIte, reduceCtorEq, Nat.reduceEqDiff, Nat.reduceAdd, Nat.reduceMul, Nat.reduceSub, Nat.reduceLT, Nat.reduceLeDiff, Nat.reduceBEq, if_true, if_false, implies_true, Bool.cond_true, Bool.cond_false, orcY1, c10b, c11, c12, c13, c14, c15, c16, c17, sOf_sRows, zf, Int.reduceToNat, hb]
   repeat' with_reducible refine And.intro ?_ ?_
   all_goals try (first | omega | exact fun _ => kw_len | exact fun _ => ⟨rfl, rfl, kw_len, kw_len⟩ | exact ⟨rfl, rfl, kw_len, kw_len⟩ | exact ⟨rfl, rfl, sym_len, sym_len⟩ | exact kw_len | exact sym_len)
   all_goals try (first | omega | rfl | ((with_reducible refine drawGoal ?_); exact rfl) | (simp only [inR]; omega) | (intro y hy; simp only [List.mem_singleton] at hy; subst hy; rfl) | (intro y hy; cases hy; done) | (simp only [List.length_append, List.length_map, List.length_cons, List.length_nil]; omega) | (intro h; simp only [inR]; omega) | (intro h; simp only [List.length_append, List.length_map, List.length_cons, List.length_nil]; omega) | (intro h; exact h.elim))
   refine hK _ ?_
   clear hK K
   refine PWp.ret (hQ2 _ ?_)
   simp only [pwf, pf1, reduceIte, reduceCtorEq, Nat.reduceEqDiff, Nat.reduceAdd, Nat.reduceMul, Nat.reduceSub, Nat.reduceLT, Nat.reduceLeDiff, Nat.reduceBEq, if_true, if_false, implies_true, Bool.cond_true, Bool.cond_false, zf, Int.reduceToNat, Tryd.results4]
   repeat simp only [pwf, pf1, reduceIte, reduceCtorEq, Nat.reduceEqDiff, Nat.reduceAdd, Nat.reduceMul, Nat.reduceSub, Nat.reduceLT, Nat.reduceLeDiff, Nat.reduceBEq, if_true, if_false, implies_true, Bool.cond_true, Bool.cond_false, zf, Int.reduceToNat]
   rw [hb0]; rfl
  ·
   have hb0 := one_ident (by omega) hv
   rw [hb] at hb0
   refine PWp.seq_rg [0, 7] orcY1_ok (mv := mv) (by decide) fun K hK => ?_
   simp only [pwr, pr1, mv, Int.reduceLT, Int.reduceSub, Int.reduceNeg, Int.reduceToNat, ne_eq, reduceIte, reduceCtorEq, Nat.reduceEqDiff, Nat.reduceAdd, Nat.reduceMul, Nat.reduceSub, Nat.reduceLT, Nat.reduceLeDiff, Nat.reduceBEq, if_true, if_false, implies_true, Bool.cond_true, Bool.cond_false, orcY1, c10b, c11, c12, c13, c14, c15, c16, c17, sOf_sRows, zf, Int.reduceToNat, toks_ok, toks_fail, row6, errOf, List.getD_cons_zero, t6_kind, t6_text]
   repeat' with_reducible refine And.intro ?_ ?_
   all_goals try (first | omega | (simp; done) | (intro h; simp at h; done))
   all_goals try (first | omega | rfl | ((with_reducible refine drawGoal ?_); exact rfl) | (simp only [inR]; omega) | (intro y hy; simp only [List.mem_singleton] at hy; subst hy; rfl) | (intro y hy; cases hy; done) | (simp only [List.length_append, List.length_map, List.length_cons, List.length_nil]; omega) | (intro h; simp only [inR]; omega) | (intro h; simp only [List.length_append, List.length_map, List.length_cons, List.length_nil]; omega) | (intro h; exact h.elim))
   refine hK _ ?_
   clear hK K
   refine PWp.seq_rg [2] orcY1_ok (mv := mv) (by decide) fun K hK => ?_
   simp only [pwr, pr1, mv, Int.reduceLT, Int.reduceSub, Int.reduceNeg, Int.reduceToNat, ne_eq, reduceIte, reduceCtorEq, Nat.reduceEqDiff, Nat.reduceAdd, Nat.reduceMul, Nat.reduceSub, Nat.reduceLT, Nat.reduceLeDiff, Nat.reduceBEq, if_true, if_false, implies_true, Bool.cond_true, Bool.cond_false, orcY1, c10b, c11, c12, c13, c14, c15, c16, c17, sOf_sRows, zf, Int.reduceToNat, hb]
   repeat' with_reducible refine And.intro ?_ ?_
   all_goals try (first | omega | exact fun _ => kw_len | exact fun _ => ⟨rfl, rfl, kw_len, kw_len⟩ | exact ⟨rfl, rfl, kw_len, kw_len⟩ | exact ⟨rfl, rfl, sym_len, sym_len⟩ | exact kw_len | exact sym_len)
   all_goals try (first | omega | rfl | ((with_reducible refine drawGoal ?_); exact rfl) | (simp only [inR]; omega) | (intro y hy; simp only [List.mem_singleton] at hy; subst hy; rfl) | (intro y hy; cases hy; done) | (simp only [List.length_append, List.length_map, List.length_cons, List.length_nil]; omega) | (intro h; simp only [inR]; omega) | (intro h; simp only [List.length_append, List.length_map, List.length_cons, List.length_nil]; omega) | (intro h; exact h.elim))
   refine hK _ ?_
   clear hK K
   refine PWp.ret (hQ2 _ ?_)
   simp only [pwf, pf1, reduceIte, reduceCtorEq, Nat.reduceEqDiff, Nat.reduceAdd, Nat.reduceMul, Nat.reduceSub, Nat.reduceLT, Nat.reduceLeDiff, Nat.reduceBEq, if_true, if_false, implies_true, Bool.cond_true, Bool.cond_false, zf, Int.reduceToNat, Tryd.results4]
   repeat simp only [pwf, pf1, reduceIte, reduceCtorEq, Nat.reduceEqDiff, Nat.reduceAdd, Nat.reduceMul, Nat.reduceSub, Nat.reduceLT, Nat.reduceLeDiff, Nat.reduceBEq, if_true, if_false, implies_true, Bool.cond_true, Bool.cond_false, zf, Int.reduceToNat]
   congr 1
   rw [← hb0]
   simp
  ·
   have hb0 : b = false := by rw [← hb]; exact ident_none (by omega) (by rw [hv]; rintro ⟨p, hp⟩; simp at hp)
   refine PWp.seq_rg [0, 7] orcY1_ok (mv := mv) (by decide) fun K hK => ?_
   simp only [pwr, pr1, mv, Int.reduceLT, Int.reduceSub, Int.reduceNeg, Int.reduceToNat, ne_eq, reduceIte, reduceCtorEq, Nat.reduceEqDiff, Nat.reduceAdd, Nat.reduceMul, Nat.reduceSub, Nat.reduceLT, Nat.reduceLeDiff, Nat.reduceBEq, if_true, if_false, implies_true, Bool.cond_true, Bool.cond_false, orcY1, c10b, c11, c12, c13, c14, c15, c16, c17, sOf_sRows, zf, Int.reduceToNat, toks_ok, toks_fail, row6, errOf, List.getD_cons_zero, t6_kind, t6_text]
   repeat' with_reducible refine And.intro ?_ ?_
   all_goals try (first | omega | (simp; done) | (intro h; simp at h; done))
   all_goals try (first | omega | rfl | ((with_reducible refine drawGoal ?_); exact rfl) | (simp only [inR]; omega) | (intro y hy; simp only [List.mem_singleton] at hy; subst hy; rfl) | (intro y hy; cases hy; done) | (simp only [List.length_append, List.length_map, List.length_cons, List.length_nil]; omega) | (intro h; simp only [inR]; omega) | (intro h; simp only [List.length_append, List.length_map, List.length_cons, List.length_nil]; omega) | (intro h; exact h.elim))
   refine hK _ ?_
   clear hK K
   refine PWp.seq_rg [2] orcY1_ok (mv := mv) (by decide) fun K hK => ?_
   simp only [pwr, pr1, mv, Int.reduceLT, Int.reduceSub, Int.reduceNeg, Int.reduceToNat, ne_eq, reduceIte, reduceCtorEq, Nat.reduceEqDiff, Nat.reduceAdd, Nat.reduceMul, Nat.reduceSub, Nat.reduceLT, Nat.reduceLeDiff, Nat.reduceBEq, if_true, if_false, implies_true, Bool.cond_true, Bool.cond_false, orcY1, c10b, c11, c12, c13, c14, c15, c16, c17, sOf_sRows, zf, Int.reduceToNat, hb]
   repeat' with_reducible refine And.intro ?_ ?_
   all_goals try (first | omega | exact fun _ => kw_len | exact fun _ => ⟨rfl, rfl, kw_len, kw_len⟩ | exact ⟨rfl, rfl, kw_len, kw_len⟩ | exact ⟨rfl, rfl, sym_len, sym_len⟩ | exact kw_len | exact sym_len)
   all_goals try (first | omega | rfl | ((with_reducible refine drawGoal ?_); exact rfl) | (simp only [inR]; omega) | (intro y hy; simp only [List.mem_singleton] at hy; subst hy; rfl) | (intro y hy; cases hy; done) | (simp only [List.length_append, List.length_map, List.length_cons, List.length_nil]; omega) | (intro h; simp only [inR]; omega) | (intro h; simp only [List.length_append, List.length_map, List.length_cons, List.length_nil]; omega) | (intro h; exact h.elim))
   refine hK _ ?_
   clear hK K
   refine PWp.ret (hQ2 _ ?_)
   simp only [pwf, pf1, reduceIte, reduceCtorEq, Nat.reduceEqDiff, Nat.reduceAdd, Nat.reduceMul, Nat.reduceSub, Nat.reduceLT, Nat.reduceLeDiff, Nat.reduceBEq, if_true, if_false, implies_true, Bool.cond_true, Bool.cond_false, zf, Int.reduceToNat, Tryd.results4]
   repeat simp only [pwf, pf1, reduceIte, reduceCtorEq, Nat.reduceEqDiff, Nat.reduceAdd, Nat.reduceMul, Nat.reduceSub, Nat.reduceLT, Nat.reduceLeDiff, Nat.reduceBEq, if_true, if_false, implies_true, Bool.cond_true, Bool.cond_false, zf, Int.reduceToNat]
   rw [hb0]
   simp
   omega
  ·
   have hb0 : b = false := by rw [← hb]; exact ident_none (by omega) (by rw [hv]; rintro ⟨p, hp⟩; simp at hp)
   have he := scan_err hv
   refine PWp.seq_rg [0, 7] orcY1_ok (mv := mv) (by decide) fun K hK => ?_
   simp only [pwr, pr1, mv, Int.reduceLT, Int.reduceSub, Int.reduceNeg, Int.reduceToNat, ne_eq, reduceIte, reduceCtorEq, Nat.reduceEqDiff, Nat.reduceAdd, Nat.reduceMul, Nat.reduceSub, Nat.reduceLT, Nat.reduceLeDiff, Nat.reduceBEq, if_true, if_false, implies_true, Bool.cond_true, Bool.cond_false, orcY1, c10b, c11, c12, c13, c14, c15, c16, c17, sOf_sRows, zf, Int.reduceToNat, toks_ok, toks_fail, row6, errOf, List.getD_cons_zero, t6_kind, t6_text]
   repeat' with_reducible refine And.intro ?_ ?_
   all_goals try (first | omega | (simp; done) | (intro h; simp at h; done))
   all_goals try (first | omega | rfl | ((with_reducible refine drawGoal ?_); exact rfl) | (simp only [inR]; omega) | (intro y hy; simp only [List.mem_singleton] at hy; subst hy; rfl) | (intro y hy; cases hy; done) | (simp only [List.length_append, List.length_map, List.length_cons, List.length_nil]; omega) | (intro h; simp only [inR]; omega) | (intro h; simp only [List.length_append, List.length_map, List.length_cons, List.length_nil]; omega) | (intro h; exact h.elim))
   refine hK _ ?_
   clear hK K
   refine PWp.seq_rg [2] orcY1_ok (mv := mv) (by decide) fun K hK => ?_
   simp only [pwr, pr1, mv, Int.reduceLT, Int.reduceSub, Int.reduceNeg, Int.reduceToNat, ne_eq, reduceIte, reduceCtorEq, Nat.reduceEqDiff, Nat.reduceAdd, Nat.reduceMul, Nat.reduceSub, Nat.reduceLT, Nat.reduceLeDiff, Nat.reduceBEq, if_true, if_false, implies_true, Bool.cond_true, Bool.cond_false, orcY1, c10b, c11, c12, c13, c14, c15, c16, c17, sOf_sRows, zf, Int.reduceToNat, hb]
   repeat' with_reducible refine And.intro ?_ ?_
   all_goals try (first | omega | exact fun _ => kw_len | exact fun _ => ⟨rfl, rfl, kw_len, kw_len⟩ | exact ⟨rfl, rfl, kw_len, kw_len⟩ | exact ⟨rfl, rfl, sym_len, sym_len⟩ | exact kw_len | exact sym_len)
   all_goals try (first | omega | rfl | ((with_reducible refine drawGoal ?_); exact rfl) | (simp only [inR]; omega) | (intro y hy; simp only [List.mem_singleton] at hy; subst hy; rfl) | (intro y hy; cases hy; done) | (simp only [List.length_append, List.length_map, List.length_cons, List.length_nil]; omega) | (intro h; simp only [inR]; omega) | (intro h; simp only [List.length_append, List.length_map, List.length_cons, List.length_nil]; omega) | (intro h; exact h.elim))
   refine hK _ ?_
   clear hK K
   refine PWp.ret (hQ2 _ ?_)
   simp only [pwf, pf1, reduceIte, reduceCtorEq, Nat.reduceEqDiff, Nat.reduceAdd, Nat.reduceMul, Nat.reduceSub, Nat.reduceLT, Nat.reduceLeDiff, Nat.reduceBEq, if_true, if_false, implies_true, Bool.cond_true, Bool.cond_false, zf, Int.reduceToNat, Tryd.results4]
   repeat simp only [pwf, pf1, reduceIte, reduceCtorEq, Nat.reduceEqDiff, Nat.reduceAdd, Nat.reduceMul, Nat.reduceSub, Nat.reduceLT, Nat.reduceLeDiff, Nat.reduceBEq, if_true, if_false, implies_true, Bool.cond_true, Bool.cond_false, zf, Int.reduceToNat]
   rw [hb0]
   simp
end Go.Pw.L21
