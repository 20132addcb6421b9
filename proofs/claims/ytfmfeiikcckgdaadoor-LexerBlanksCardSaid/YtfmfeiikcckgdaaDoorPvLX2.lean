/- The lexer: identifiers in the reference; tokens compared. -/
import Derived.Test.YtfmfeiikcckgdaaDoorPvLX
set_option linter.unusedSimpArgs false
set_option linter.unusedVariables false
set_option linter.unusedSectionVars false
set_option maxHeartbeats 4000000
set_option maxRecDepth 20000
namespace Go.Pw.L21
open Go.Proofs Go.Pw
def c31 : St → Option (Prop × St)
  | [(.S 0, .av (.pv (.int .u8 n)))] => some (0 ≤ n ∧ n < 256, [(.S 0, .av (.pv (.bool (letterB (uOf n)))))])
  | _ => none
theorem p31 {In Ret : St} {pre : Prop} (h : c31 In = some (pre, Ret)) (hp : pre) : PCalls Tryd.prog 31 In Ret := by
  unfold c31 at h
  split at h
  · rename_i n
    cases h
    have := t31 (uOf n)
    rw [ub, ← of_uOf hp] at this
    exact this
  · cases h
def c33 : St → Option (Prop × St)
  | [(.S 0, .av (.pv (.int .u8 n)))] => some (0 ≤ n ∧ n < 256, [(.S 0, .av (.pv (.bool (digitB (uOf n)))))])
  | _ => none
theorem p33 {In Ret : St} {pre : Prop} (h : c33 In = some (pre, Ret)) (hp : pre) : PCalls Tryd.prog 33 In Ret := by
  unfold c33 at h
  split at h
  · rename_i n
    cases h
    have := t33 (uOf n)
    rw [ub, ← of_uOf hp] at this
    exact this
  · cases h
def c14 : St → Option (Prop × St)
  | [] => some (True, [(.S 0, .av (.pv (.sl (sRows keywords))))])
  | _ => none
theorem p14 {In Ret : St} {pre : Prop} (h : c14 In = some (pre, Ret)) (hp : pre) : PCalls Tryd.prog 14 In Ret := by
  unfold c14 at h
  split at h
  · cases h; exact t14
  · cases h
def c32 : St → Option (Prop × St)
  | [(.S 0, .av (.pv (.sl xs))), (.S 1, .av (.pv (.str x)))] => some (xs = sRows (sOf xs) ∧ (sOf xs).length ≤ 1000000, [(.S 0, .av (.pv (.bool (decide (x ∈ sOf xs)))))])
  | _ => none
theorem p32 {In Ret : St} {pre : Prop} (h : c32 In = some (pre, Ret)) (hp : pre) : PCalls Tryd.prog 32 In Ret := by
  unfold c32 at h
  split at h
  · rename_i xs x
    cases h
    obtain ⟨h1, h2⟩ := hp
    obtain ⟨l, rfl⟩ : ∃ l, xs = sRows l := ⟨_, h1⟩
    simp only [sOf_sRows] at h2 ⊢
    exact t32 l x h2
  · cases h
theorem wordB_all {s : Bs} : (wordB s == s) = true ↔ ∀ b ∈ s, (letterB b || digitB b) = true := by
  rw [beq_iff_eq]
  unfold wordB
  constructor
  · intro h b hb
    rw [← h] at hb
    induction s with
    | nil => cases hb
    | cons c s ih =>
      rw [List.takeWhile_cons] at h hb
      split at h
      · rename_i hc
        simp only [List.cons.injEq, true_and] at h
        rw [if_pos hc] at hb
        rcases List.mem_cons.1 hb with rfl | hb
        · exact hc
        · exact ih h hb
      · cases h
  · intro h
    induction s with
    | nil => rfl
    | cons c s ih => rw [List.takeWhile_cons, if_pos (h c (by simp)), ih fun b hb => h b (by simp [hb])]
theorem isIdent_eq (s : Bs) : isIdent s = true ↔ ¬ (s == [] || decide (32 < (s.length : Int)) || !letterB (s.getD 0 0) || decide (s ∈ keywords)) = true ∧ ∀ b ∈ s, (letterB b || digitB b) = true := by
  unfold isIdent
  rw [← wordB_all]
  cases s with
  | nil => simp
  | cons c r =>
    have e1 : ((c :: r).head?.any letterB) = letterB ((c :: r).getD 0 0) := rfl
    have e2 : keywords.contains (c :: r) = decide ((c :: r) ∈ keywords) := by rw [Bool.eq_iff_iff, List.contains_iff_mem, decide_eq_true_eq]
    rw [e1, e2]
    simp only [Bool.and_eq_true, Bool.not_eq_true', decide_eq_true_eq, Bool.or_eq_true, decide_eq_false_iff_not, beq_eq_false_iff_ne, ne_eq, beq_iff_eq, not_or, Bool.not_eq_false]
    constructor
    · rintro ⟨⟨⟨⟨h1, h2⟩, h3⟩, h4⟩, h5⟩
      exact ⟨⟨⟨⟨h1, by omega⟩, h3⟩, h5⟩, h4⟩
    · rintro ⟨⟨⟨⟨h1, h2⟩, h3⟩, h5⟩, h4⟩
      exact ⟨⟨⟨⟨h1, by omega⟩, h3⟩, h4⟩, h5⟩
theorem pos_of2 (s : Bs) : (!(s == [] || decide (32 < (s.length : Int)))) = true → (0 : Int) ≤ 0 ∧ (0 : Int) < (s.length : Int) := by
  intro h
  cases s with
  | nil => simp at h
  | cons b r => simp only [List.length_cons]; omega
def orcX2 : Orc := fun f In => if f = 31 then c31 In else if f = 14 then c14 In else if f = 32 then c32 In else if f = 33 then c33 In else none
theorem orcX2_ok : OrcOk Tryd.prog orcX2 := by
  intro f In pre Ret h hp
  unfold orcX2 at h
  split at h
  · subst f; exact p31 h hp
  split at h
  · subst f; exact p14 h hp
  split at h
  · subst f; exact p32 h hp
  split at h
  · subst f; exact p33 h hp
  cases h
theorem t18 (s : Bs) (hs : s.length ≤ 1000000) : PCalls Tryd.prog 18 [(.S 0, .av (.pv (.str s)))] [(.S 0, .av (.pv (.bool (isIdent s))))] := by
  refine PCalls.of_k Tryd.func18 (by decide) rfl fun Q hQ1 hQ2 => ?_
  refine PWp.seq_rg [0] orcX2_ok (mv := mv) (by decide) fun K hK => ?_
  simp only [pwr, pr1, mv, Int.reduceLT, Int.reduceSub, Int.reduceNeg, Int.reduceToNat, ne_eq, reduceIte, reduceCtorEq, Nat.reduceEqDiff, Nat.reduceAdd, Nat.reduceMul, Nat.reduceSub, Nat.reduceLT, Nat.reduceLeDiff, Nat.reduceBEq, if_true, if_false, implies_true, Bool.cond_true, Bool.cond_false, orcX2, c31, c14, c32, c33, uOf_toNat, sOf_sRows, zf]
  repeat' with_reducible refine And.intro ?_ ?_
  all_goals try (first | omega | rfl | ((with_reducible refine drawGoal ?_); exact rfl) | (simp only [inR]; omega) | (intro y hy; simp only [List.mem_singleton] at hy; subst hy; rfl) | (intro y hy; cases hy; done) | (simp only [List.length_append, List.length_map, List.length_cons, List.length_nil]; omega) | (intro h; simp only [inR]; omega) | (intro h; simp only [List.length_append, List.length_map, List.length_cons, List.length_nil]; omega) | (intro h; exact h.elim))
  refine hK _ ?_
  clear hK K
  refine PWp.seq_k fun K1 hK1 => ?_
  refine PWp.seq_rg [0, 21] orcX2_ok (mv := mv) (by decide) fun K hK => ?_
  simp only [pwr, pr1, mv, Int.reduceLT, Int.reduceSub, Int.reduceNeg, Int.reduceToNat, ne_eq, reduceIte, reduceCtorEq, Nat.reduceEqDiff, Nat.reduceAdd, Nat.reduceMul, Nat.reduceSub, Nat.reduceLT, Nat.reduceLeDiff, Nat.reduceBEq, if_true, if_false, implies_true, Bool.cond_true, Bool.cond_false, orcX2, c31, c14, c32, c33, uOf_toNat, sOf_sRows, zf]
  repeat' with_reducible refine And.intro ?_ ?_
  all_goals try (first | exact pos_of2 s | omega | exact kw_len | exact fun _ => ub_bd _ | exact fun _ => kw_len | (intros; omega))
  all_goals try (first | omega | rfl | ((with_reducible refine drawGoal ?_); exact rfl) | (simp only [inR]; omega) | (intro y hy; simp only [List.mem_singleton] at hy; subst hy; rfl) | (intro y hy; cases hy; done) | (simp only [List.length_append, List.length_map, List.length_cons, List.length_nil]; omega) | (intro h; simp only [inR]; omega) | (intro h; simp only [List.length_append, List.length_map, List.length_cons, List.length_nil]; omega) | (intro h; exact h.elim))
  refine hK _ ?_
  clear hK K
  refine PWp.cond (by rfl) (fun hb21 => ?_) (fun hb21 => ?_)
  ·
   try (cases hb21; done)
   all_goals
    refine PWp.seq_rg [2] orcX2_ok (mv := mv) (by decide) fun K hK => ?_
    simp only [pwr, pr1, mv, Int.reduceLT, Int.reduceSub, Int.reduceNeg, Int.reduceToNat, ne_eq, reduceIte, reduceCtorEq, Nat.reduceEqDiff, Nat.reduceAdd, Nat.reduceMul, Nat.reduceSub, Nat.reduceLT, Nat.reduceLeDiff, Nat.reduceBEq, if_true, if_false, implies_true, Bool.cond_true, Bool.cond_false, orcX2, c31, c14, c32, c33, uOf_toNat, sOf_sRows, zf]
    repeat' with_reducible refine And.intro ?_ ?_
    all_goals try (first | omega | rfl | ((with_reducible refine drawGoal ?_); exact rfl) | (simp only [inR]; omega) | (intro y hy; simp only [List.mem_singleton] at hy; subst hy; rfl) | (intro y hy; cases hy; done) | (simp only [List.length_append, List.length_map, List.length_cons, List.length_nil]; omega) | (intro h; simp only [inR]; omega) | (intro h; simp only [List.length_append, List.length_map, List.length_cons, List.length_nil]; omega) | (intro h; exact h.elim))
    refine hK _ ?_
    clear hK K
    refine PWp.ret (hQ2 _ ?_)
    simp only [pwf, pf1, reduceIte, reduceCtorEq, Nat.reduceEqDiff, Nat.reduceAdd, Nat.reduceMul, Nat.reduceSub, Nat.reduceLT, Nat.reduceLeDiff, Nat.reduceBEq, if_true, if_false, implies_true, Bool.cond_true, Bool.cond_false, zf, Tryd.results18]
    repeat simp only [pwf, pf1, reduceIte, reduceCtorEq, Nat.reduceEqDiff, Nat.reduceAdd, Nat.reduceMul, Nat.reduceSub, Nat.reduceLT, Nat.reduceLeDiff, Nat.reduceBEq, if_true, if_false, implies_true, Bool.cond_true, Bool.cond_false, zf]
    have h : ¬ isIdent s = true := fun h => ((isIdent_eq s).1 h).1 hb21
    simp [h]
  ·
   try (cases hb21; done)
   all_goals
    refine PWp.skip (hK1 _ ?_)
    refine PWp.seq_k fun K2 hK2 => ?_
    refine PWp.seq_rg [0, 3] orcX2_ok (mv := mv) (by decide) fun K hK => ?_
    simp only [pwr, pr1, mv, Int.reduceLT, Int.reduceSub, Int.reduceNeg, Int.reduceToNat, ne_eq, reduceIte, reduceCtorEq, Nat.reduceEqDiff, Nat.reduceAdd, Nat.reduceMul, Nat.reduceSub, Nat.reduceLT, Nat.reduceLeDiff, Nat.reduceBEq, if_true, if_false, implies_true, Bool.cond_true, Bool.cond_false, orcX2, c31, c14, c32, c33, uOf_toNat, sOf_sRows, zf]
    repeat' with_reducible refine And.intro ?_ ?_
    all_goals try (first | omega | rfl | ((with_reducible refine drawGoal ?_); exact rfl) | (simp only [inR]; omega) | (intro y hy; simp only [List.mem_singleton] at hy; subst hy; rfl) | (intro y hy; cases hy; done) | (simp only [List.length_append, List.length_map, List.length_cons, List.length_nil]; omega) | (intro h; simp only [inR]; omega) | (intro h; simp only [List.length_append, List.length_map, List.length_cons, List.length_nil]; omega) | (intro h; exact h.elim))
    refine hK _ ?_
    clear hK K
    refine PWp.block_k fun Qq3 hq3n hq3x hq3r hq3e => ?_
    refine PWp.loop_k (fun i : Nat => [(.S 0, .av (.pv (.str s))), (.S 3, .av (.pv (.int .i64 i)))]) (fun i => i ≤ s.length ∧ ∀ b ∈ s.take i, (letterB b || digitB b) = true) (fun i => s.length - i) (0) (by exact ⟨by omega, by simp⟩) ?_ ?_
    · repeat simp only [pwf, pf1, reduceIte, reduceCtorEq, Nat.reduceEqDiff, Nat.reduceAdd, Nat.reduceMul, Nat.reduceSub, Nat.reduceLT, Nat.reduceLeDiff, Nat.reduceBEq, if_true, if_false, implies_true, Bool.cond_true, Bool.cond_false, zf]
      first | done | trivial | rfl | (simp; done)
    rintro i ⟨hi, hinv⟩ J1 hJ1
    refine PWp.seq_k fun K4 hK4 => ?_
    refine PWp.seq_rg [0, 3, 25] orcX2_ok (mv := mv) (by decide) fun K hK => ?_
    simp only [pwr, pr1, mv, Int.reduceLT, Int.reduceSub, Int.reduceNeg, Int.reduceToNat, ne_eq, reduceIte, reduceCtorEq, Nat.reduceEqDiff, Nat.reduceAdd, Nat.reduceMul, Nat.reduceSub, Nat.reduceLT, Nat.reduceLeDiff, Nat.reduceBEq, if_true, if_false, implies_true, Bool.cond_true, Bool.cond_false, orcX2, c31, c14, c32, c33, uOf_toNat, sOf_sRows, zf]
    repeat' with_reducible refine And.intro ?_ ?_
    all_goals try (first | omega | rfl | ((with_reducible refine drawGoal ?_); exact rfl) | (simp only [inR]; omega) | (intro y hy; simp only [List.mem_singleton] at hy; subst hy; rfl) | (intro y hy; cases hy; done) | (simp only [List.length_append, List.length_map, List.length_cons, List.length_nil]; omega) | (intro h; simp only [inR]; omega) | (intro h; simp only [List.length_append, List.length_map, List.length_cons, List.length_nil]; omega) | (intro h; exact h.elim))
    refine hK _ ?_
    clear hK K
    refine PWp.cond (by rfl) (fun hb25 => ?_) (fun hb25 => ?_)
    ·
     try (cases hb25; done)
     all_goals
      refine PWp.skip (hK4 _ ?_)
      refine PWp.seq_k fun K5 hK5 => ?_
      refine PWp.block_k fun Qq6 hq6n hq6x hq6r hq6e => ?_
      have his : i < s.length := by have := of_decide_eq_true hb25; omega
      obtain ⟨x, hx⟩ : ∃ x, s.getD i 0 = x := ⟨_, rfl⟩
      have hxi : s[i] = x := by rw [← hx, getN his]
      refine PWp.seq_rg [0, 3, 39] orcX2_ok (mv := mv) (by decide) fun K hK => ?_
      simp only [pwr, pr1, mv, Int.reduceLT, Int.reduceSub, Int.reduceNeg, Int.reduceToNat, ne_eq, reduceIte, reduceCtorEq, Nat.reduceEqDiff, Nat.reduceAdd, Nat.reduceMul, Nat.reduceSub, Nat.reduceLT, Nat.reduceLeDiff, Nat.reduceBEq, if_true, if_false, implies_true, Bool.cond_true, Bool.cond_false, orcX2, c31, c14, c32, c33, uOf_toNat, sOf_sRows, zf, hx]
      repeat' with_reducible refine And.intro ?_ ?_
      all_goals try (first | omega | exact ub_bd _ | exact (ub_bd _).1 | exact (ub_bd _).2 | exact fun _ => ub_bd _)
      all_goals try (first | omega | rfl | ((with_reducible refine drawGoal ?_); exact rfl) | (simp only [inR]; omega) | (intro y hy; simp only [List.mem_singleton] at hy; subst hy; rfl) | (intro y hy; cases hy; done) | (simp only [List.length_append, List.length_map, List.length_cons, List.length_nil]; omega) | (intro h; simp only [inR]; omega) | (intro h; simp only [List.length_append, List.length_map, List.length_cons, List.length_nil]; omega) | (intro h; exact h.elim))
      refine hK _ ?_
      clear hK K
      refine PWp.cond (by rfl) (fun hb39 => ?_) (fun hb39 => ?_)
      ·
       try (cases hb39; done)
       all_goals
        refine PWp.seq_rg [2] orcX2_ok (mv := mv) (by decide) fun K hK => ?_
        simp only [pwr, pr1, mv, Int.reduceLT, Int.reduceSub, Int.reduceNeg, Int.reduceToNat, ne_eq, reduceIte, reduceCtorEq, Nat.reduceEqDiff, Nat.reduceAdd, Nat.reduceMul, Nat.reduceSub, Nat.reduceLT, Nat.reduceLeDiff, Nat.reduceBEq, if_true, if_false, implies_true, Bool.cond_true, Bool.cond_false, orcX2, c31, c14, c32, c33, uOf_toNat, sOf_sRows, zf]
        repeat' with_reducible refine And.intro ?_ ?_
        all_goals try (first | omega | rfl | ((with_reducible refine drawGoal ?_); exact rfl) | (simp only [inR]; omega) | (intro y hy; simp only [List.mem_singleton] at hy; subst hy; rfl) | (intro y hy; cases hy; done) | (simp only [List.length_append, List.length_map, List.length_cons, List.length_nil]; omega) | (intro h; simp only [inR]; omega) | (intro h; simp only [List.length_append, List.length_map, List.length_cons, List.length_nil]; omega) | (intro h; exact h.elim))
        refine hK _ ?_
        clear hK K
        refine PWp.ret (hq6r _ (hq3r _ (hQ2 _ ?_)))
        simp only [pwf, pf1, reduceIte, reduceCtorEq, Nat.reduceEqDiff, Nat.reduceAdd, Nat.reduceMul, Nat.reduceSub, Nat.reduceLT, Nat.reduceLeDiff, Nat.reduceBEq, if_true, if_false, implies_true, Bool.cond_true, Bool.cond_false, zf, Tryd.results18]
        repeat simp only [pwf, pf1, reduceIte, reduceCtorEq, Nat.reduceEqDiff, Nat.reduceAdd, Nat.reduceMul, Nat.reduceSub, Nat.reduceLT, Nat.reduceLeDiff, Nat.reduceBEq, if_true, if_false, implies_true, Bool.cond_true, Bool.cond_false, zf]
        have h : ¬ isIdent s = true := fun h => by
          have := ((isIdent_eq s).1 h).2 x (by rw [← hxi]; exact List.getElem_mem his)
          revert hb39 this
          cases letterB x <;> cases digitB x <;> decide
        simp [h]
      ·
       try (cases hb39; done)
       all_goals
        refine PWp.skip (hq6n _ (hK5 _ ?_))
        refine PWp.rg [0, 3] orcX2_ok (mv := mv) (by decide) ?_
        simp only [pwr, pr1, mv, Int.reduceLT, Int.reduceSub, Int.reduceNeg, Int.reduceToNat, ne_eq, reduceIte, reduceCtorEq, Nat.reduceEqDiff, Nat.reduceAdd, Nat.reduceMul, Nat.reduceSub, Nat.reduceLT, Nat.reduceLeDiff, Nat.reduceBEq, if_true, if_false, implies_true, Bool.cond_true, Bool.cond_false, orcX2, c31, c14, c32, c33, uOf_toNat, sOf_sRows, zf]
        repeat' with_reducible refine And.intro ?_ ?_
        all_goals try (first | omega | rfl | ((with_reducible refine drawGoal ?_); exact rfl) | (simp only [inR]; omega) | (intro y hy; simp only [List.mem_singleton] at hy; subst hy; rfl) | (intro y hy; cases hy; done) | (simp only [List.length_append, List.length_map, List.length_cons, List.length_nil]; omega) | (intro h; simp only [inR]; omega) | (intro h; simp only [List.length_append, List.length_map, List.length_cons, List.length_nil]; omega) | (intro h; exact h.elim))
        refine hJ1 _ (i + 1) ?_ ?_ ?_
        · refine ⟨by omega, fun b hb => ?_⟩
          rw [List.take_succ_eq_append_getElem his] at hb
          rcases List.mem_append.1 hb with h | h
          · exact hinv b h
          · simp only [List.mem_singleton] at h
            rw [h, hxi]
            revert hb39
            cases letterB x <;> cases digitB x <;> decide
        · omega
        · repeat simp only [pwf, pf1, reduceIte, reduceCtorEq, Nat.reduceEqDiff, Nat.reduceAdd, Nat.reduceMul, Nat.reduceSub, Nat.reduceLT, Nat.reduceLeDiff, Nat.reduceBEq, if_true, if_false, implies_true, Bool.cond_true, Bool.cond_false, zf]
          simp
    ·
     try (cases hb25; done)
     all_goals
      refine PWp.exit (hq3x _ (hK2 _ ?_))
      refine PWp.seq_rg [2] orcX2_ok (mv := mv) (by decide) fun K hK => ?_
      simp only [pwr, pr1, mv, Int.reduceLT, Int.reduceSub, Int.reduceNeg, Int.reduceToNat, ne_eq, reduceIte, reduceCtorEq, Nat.reduceEqDiff, Nat.reduceAdd, Nat.reduceMul, Nat.reduceSub, Nat.reduceLT, Nat.reduceLeDiff, Nat.reduceBEq, if_true, if_false, implies_true, Bool.cond_true, Bool.cond_false, orcX2, c31, c14, c32, c33, uOf_toNat, sOf_sRows, zf]
      repeat' with_reducible refine And.intro ?_ ?_
      all_goals try (first | omega | rfl | ((with_reducible refine drawGoal ?_); exact rfl) | (simp only [inR]; omega) | (intro y hy; simp only [List.mem_singleton] at hy; subst hy; rfl) | (intro y hy; cases hy; done) | (simp only [List.length_append, List.length_map, List.length_cons, List.length_nil]; omega) | (intro h; simp only [inR]; omega) | (intro h; simp only [List.length_append, List.length_map, List.length_cons, List.length_nil]; omega) | (intro h; exact h.elim))
      refine hK _ ?_
      clear hK K
      refine PWp.ret (hQ2 _ ?_)
      simp only [pwf, pf1, reduceIte, reduceCtorEq, Nat.reduceEqDiff, Nat.reduceAdd, Nat.reduceMul, Nat.reduceSub, Nat.reduceLT, Nat.reduceLeDiff, Nat.reduceBEq, if_true, if_false, implies_true, Bool.cond_true, Bool.cond_false, zf, Tryd.results18]
      repeat simp only [pwf, pf1, reduceIte, reduceCtorEq, Nat.reduceEqDiff, Nat.reduceAdd, Nat.reduceMul, Nat.reduceSub, Nat.reduceLT, Nat.reduceLeDiff, Nat.reduceBEq, if_true, if_false, implies_true, Bool.cond_true, Bool.cond_false, zf]
      have hie : i = s.length := by have := of_decide_eq_false hb25; omega
      rw [hie, List.take_length] at hinv
      have h : isIdent s = true := (isIdent_eq s).2 ⟨by rw [hb21]; decide, hinv⟩
      simp [h]
def T6.same (a b : T6) : Bool := a.kind == b.kind && a.text == b.text && a.value == b.value && a.bytes == b.bytes
abbrev tAg (t : T6) : AV := .agg [.pv (.int .i64 t.kind), .pv (.str t.text), .pv (.int .i64 t.value), .pv (.str t.bytes), .pv (.int .i64 t.line), .pv (.int .i64 t.col)]
theorem t35 (a b : T6) : PCalls Tryd.prog 35 [(.S 0, .av (tAg a)), (.S 1, .av (tAg b))] [(.S 0, .av (.pv (.bool (a.same b))))] := by
  refine PCalls.of_k Tryd.func35 (by decide) rfl fun Q hQ1 hQ2 => ?_
  refine PWp.seq_rg [2, 3] orc0_ok (mv := mv) (by decide) fun K hK => ?_
  simp only [pwr, pr1, mv, Int.reduceLT, Int.reduceSub, Int.reduceNeg, Int.reduceToNat, ne_eq, reduceIte, reduceCtorEq, Nat.reduceEqDiff, Nat.reduceAdd, Nat.reduceMul, Nat.reduceSub, Nat.reduceLT, Nat.reduceLeDiff, Nat.reduceBEq, if_true, if_false, implies_true, Bool.cond_true, Bool.cond_false, orc0, zf]
  repeat' with_reducible refine And.intro ?_ ?_
  all_goals try (first | omega | rfl | ((with_reducible refine drawGoal ?_); exact rfl) | (simp only [inR]; omega) | (intro y hy; simp only [List.mem_singleton] at hy; subst hy; rfl) | (intro y hy; cases hy; done) | (simp only [List.length_append, List.length_map, List.length_cons, List.length_nil]; omega) | (intro h; simp only [inR]; omega) | (intro h; simp only [List.length_append, List.length_map, List.length_cons, List.length_nil]; omega) | (intro h; exact h.elim))
  refine hK _ ?_
  clear hK K
  refine PWp.seq_rg [2, 3] orc0_ok (mv := mv) (by decide) fun K hK => ?_
  simp only [pwr, pr1, mv, Int.reduceLT, Int.reduceSub, Int.reduceNeg, Int.reduceToNat, ne_eq, reduceIte, reduceCtorEq, Nat.reduceEqDiff, Nat.reduceAdd, Nat.reduceMul, Nat.reduceSub, Nat.reduceLT, Nat.reduceLeDiff, Nat.reduceBEq, if_true, if_false, implies_true, Bool.cond_true, Bool.cond_false, orc0, zf]
  repeat' with_reducible refine And.intro ?_ ?_
  all_goals try (first | omega | rfl | ((with_reducible refine drawGoal ?_); exact rfl) | (simp only [inR]; omega) | (intro y hy; simp only [List.mem_singleton] at hy; subst hy; rfl) | (intro y hy; cases hy; done) | (simp only [List.length_append, List.length_map, List.length_cons, List.length_nil]; omega) | (intro h; simp only [inR]; omega) | (intro h; simp only [List.length_append, List.length_map, List.length_cons, List.length_nil]; omega) | (intro h; exact h.elim))
  refine hK _ ?_
  clear hK K
  refine PWp.seq_rg [4] orc0_ok (mv := mv) (by decide) fun K hK => ?_
  simp only [pwr, pr1, mv, Int.reduceLT, Int.reduceSub, Int.reduceNeg, Int.reduceToNat, ne_eq, reduceIte, reduceCtorEq, Nat.reduceEqDiff, Nat.reduceAdd, Nat.reduceMul, Nat.reduceSub, Nat.reduceLT, Nat.reduceLeDiff, Nat.reduceBEq, if_true, if_false, implies_true, Bool.cond_true, Bool.cond_false, orc0, zf]
  repeat' with_reducible refine And.intro ?_ ?_
  all_goals try (first | omega | rfl | ((with_reducible refine drawGoal ?_); exact rfl) | (simp only [inR]; omega) | (intro y hy; simp only [List.mem_singleton] at hy; subst hy; rfl) | (intro y hy; cases hy; done) | (simp only [List.length_append, List.length_map, List.length_cons, List.length_nil]; omega) | (intro h; simp only [inR]; omega) | (intro h; simp only [List.length_append, List.length_map, List.length_cons, List.length_nil]; omega) | (intro h; exact h.elim))
  refine hK _ ?_
  clear hK K
  refine PWp.ret (hQ2 _ ?_)
  simp only [pwf, pf1, reduceIte, reduceCtorEq, Nat.reduceEqDiff, Nat.reduceAdd, Nat.reduceMul, Nat.reduceSub, Nat.reduceLT, Nat.reduceLeDiff, Nat.reduceBEq, if_true, if_false, implies_true, Bool.cond_true, Bool.cond_false, zf, Tryd.results35]
  repeat simp only [pwf, pf1, reduceIte, reduceCtorEq, Nat.reduceEqDiff, Nat.reduceAdd, Nat.reduceMul, Nat.reduceSub, Nat.reduceLT, Nat.reduceLeDiff, Nat.reduceBEq, if_true, if_false, implies_true, Bool.cond_true, Bool.cond_false, zf]
  congr 1
  unfold T6.same
  simp [Bool.and_assoc]
def sameL : List T6 → List T6 → Bool
  | [], [] => true
  | x :: a, y :: b => x.same y && sameL a b
  | _, _ => false
theorem sameL_len : ∀ {a b : List T6}, a.length ≠ b.length → sameL a b = false
  | [], [], h => absurd rfl h
  | [], _ :: _, _ => rfl
  | _ :: _, [], _ => rfl
  | x :: a, y :: b, h => by
    rw [sameL, sameL_len (a := a) (b := b) (by simpa using h), Bool.and_false]
def c35 : St → Option (Prop × St)
  | [(.S 0, .av (.agg [.pv (.int .i64 k), .pv (.str t), .pv (.int .i64 v), .pv (.str b), .pv (.int .i64 l), .pv (.int .i64 c)])), (.S 1, .av (.agg [.pv (.int .i64 k'), .pv (.str t'), .pv (.int .i64 v'), .pv (.str b'), .pv (.int .i64 l'), .pv (.int .i64 c')]))] =>
    some (True, [(.S 0, .av (.pv (.bool (T6.same ⟨k, t, v, b, l, c⟩ ⟨k', t', v', b', l', c'⟩))))])
  | _ => none
theorem p35 {In Ret : St} {pre : Prop} (h : c35 In = some (pre, Ret)) (hp : pre) : PCalls Tryd.prog 35 In Ret := by
  unfold c35 at h
  split at h
  · rename_i k t v b l c k' t' v' b' l' c'
    cases h; exact t35 ⟨k, t, v, b, l, c⟩ ⟨k', t', v', b', l', c'⟩
  · cases h
theorem t6eta (x : T6) : (⟨x.kind, x.text, x.value, x.bytes, x.line, x.col⟩ : T6) = x := rfl
theorem row_at {l : List T6} {i : Nat} (h : i < l.length) : (l.map T6.row).getD i [] = [.int .i64 l[i].kind, .str l[i].text, .int .i64 l[i].value, .str l[i].bytes, .int .i64 l[i].line, .int .i64 l[i].col] := (getD_map h).trans rfl
abbrev t6Rows (l : List T6) : List (List PV) := l.map T6.row
def orcX3 : Orc := fun f In => if f = 35 then c35 In else none
theorem orcX3_ok : OrcOk Tryd.prog orcX3 := by
  intro f In pre Ret h hp
  unfold orcX3 at h
  split at h
  · subst f; exact p35 h hp
  cases h
theorem t34 (a b : List T6) (ha : a.length ≤ 1000000) (hb : b.length ≤ 1000000) : PCalls Tryd.prog 34 [(.S 0, .av (.pv (.sl (t6Rows a)))), (.S 1, .av (.pv (.sl (t6Rows b)))), (.S 2, .av (.pv (.raw (.func (.func 35) #[] #[]))))] [(.S 0, .av (.pv (.bool (sameL a b))))] := by
  refine PCalls.of_k Tryd.func34 (by decide) rfl fun Q hQ1 hQ2 => ?_
  refine PWp.seq_rg [0, 1, 2] orcX3_ok (mv := mv) (by decide) fun K hK => ?_
  simp only [pwr, pr1, mv, Int.reduceLT, Int.reduceSub, Int.reduceNeg, Int.reduceToNat, ne_eq, reduceIte, reduceCtorEq, Nat.reduceEqDiff, Nat.reduceAdd, Nat.reduceMul, Nat.reduceSub, Nat.reduceLT, Nat.reduceLeDiff, Nat.reduceBEq, if_true, if_false, implies_true, Bool.cond_true, Bool.cond_false, orcX3, c35, t6eta, zf]
  repeat' with_reducible refine And.intro ?_ ?_
  all_goals try (first | omega | rfl | ((with_reducible refine drawGoal ?_); exact rfl) | (simp only [inR]; omega) | (intro y hy; simp only [List.mem_singleton] at hy; subst hy; rfl) | (intro y hy; cases hy; done) | (simp only [List.length_append, List.length_map, List.length_cons, List.length_nil]; omega) | (intro h; simp only [inR]; omega) | (intro h; simp only [List.length_append, List.length_map, List.length_cons, List.length_nil]; omega) | (intro h; exact h.elim))
  refine hK _ ?_
  clear hK K
  refine PWp.seq_k fun K1 hK1 => ?_
  refine PWp.seq_rg [0, 1, 2, 14] orcX3_ok (mv := mv) (by decide) fun K hK => ?_
  simp only [pwr, pr1, mv, Int.reduceLT, Int.reduceSub, Int.reduceNeg, Int.reduceToNat, ne_eq, reduceIte, reduceCtorEq, Nat.reduceEqDiff, Nat.reduceAdd, Nat.reduceMul, Nat.reduceSub, Nat.reduceLT, Nat.reduceLeDiff, Nat.reduceBEq, if_true, if_false, implies_true, Bool.cond_true, Bool.cond_false, orcX3, c35, t6eta, zf]
  repeat' with_reducible refine And.intro ?_ ?_
  all_goals try (first | omega | rfl | ((with_reducible refine drawGoal ?_); exact rfl) | (simp only [inR]; omega) | (intro y hy; simp only [List.mem_singleton] at hy; subst hy; rfl) | (intro y hy; cases hy; done) | (simp only [List.length_append, List.length_map, List.length_cons, List.length_nil]; omega) | (intro h; simp only [inR]; omega) | (intro h; simp only [List.length_append, List.length_map, List.length_cons, List.length_nil]; omega) | (intro h; exact h.elim))
  refine hK _ ?_
  clear hK K
  refine PWp.cond (by rfl) (fun hb14 => ?_) (fun hb14 => ?_)
  ·
   try (cases hb14; done)
   all_goals
    refine PWp.seq_rg [6] orcX3_ok (mv := mv) (by decide) fun K hK => ?_
    simp only [pwr, pr1, mv, Int.reduceLT, Int.reduceSub, Int.reduceNeg, Int.reduceToNat, ne_eq, reduceIte, reduceCtorEq, Nat.reduceEqDiff, Nat.reduceAdd, Nat.reduceMul, Nat.reduceSub, Nat.reduceLT, Nat.reduceLeDiff, Nat.reduceBEq, if_true, if_false, implies_true, Bool.cond_true, Bool.cond_false, orcX3, c35, t6eta, zf]
    repeat' with_reducible refine And.intro ?_ ?_
    all_goals try (first | omega | rfl | ((with_reducible refine drawGoal ?_); exact rfl) | (simp only [inR]; omega) | (intro y hy; simp only [List.mem_singleton] at hy; subst hy; rfl) | (intro y hy; cases hy; done) | (simp only [List.length_append, List.length_map, List.length_cons, List.length_nil]; omega) | (intro h; simp only [inR]; omega) | (intro h; simp only [List.length_append, List.length_map, List.length_cons, List.length_nil]; omega) | (intro h; exact h.elim))
    refine hK _ ?_
    clear hK K
    refine PWp.ret (hQ2 _ ?_)
    simp only [pwf, pf1, reduceIte, reduceCtorEq, Nat.reduceEqDiff, Nat.reduceAdd, Nat.reduceMul, Nat.reduceSub, Nat.reduceLT, Nat.reduceLeDiff, Nat.reduceBEq, if_true, if_false, implies_true, Bool.cond_true, Bool.cond_false, zf, Tryd.results34]
    repeat simp only [pwf, pf1, reduceIte, reduceCtorEq, Nat.reduceEqDiff, Nat.reduceAdd, Nat.reduceMul, Nat.reduceSub, Nat.reduceLT, Nat.reduceLeDiff, Nat.reduceBEq, if_true, if_false, implies_true, Bool.cond_true, Bool.cond_false, zf]
    have h : ¬ a.length = b.length := fun h => by rw [h] at hb14; simp at hb14
    rw [sameL_len h]
  ·
   try (cases hb14; done)
   all_goals
    refine PWp.skip (hK1 _ ?_)
    refine PWp.seq_k fun K2 hK2 => ?_
    have hlen : a.length = b.length := by simp at hb14; omega
    refine PWp.seq_rg [1, 2, 15, 16, 17] orcX3_ok (mv := mv) (by decide) fun K hK => ?_
    simp only [pwr, pr1, mv, Int.reduceLT, Int.reduceSub, Int.reduceNeg, Int.reduceToNat, ne_eq, reduceIte, reduceCtorEq, Nat.reduceEqDiff, Nat.reduceAdd, Nat.reduceMul, Nat.reduceSub, Nat.reduceLT, Nat.reduceLeDiff, Nat.reduceBEq, if_true, if_false, implies_true, Bool.cond_true, Bool.cond_false, orcX3, c35, t6eta, zf]
    repeat' with_reducible refine And.intro ?_ ?_
    all_goals try (first | omega | rfl | ((with_reducible refine drawGoal ?_); exact rfl) | (simp only [inR]; omega) | (intro y hy; simp only [List.mem_singleton] at hy; subst hy; rfl) | (intro y hy; cases hy; done) | (simp only [List.length_append, List.length_map, List.length_cons, List.length_nil]; omega) | (intro h; simp only [inR]; omega) | (intro h; simp only [List.length_append, List.length_map, List.length_cons, List.length_nil]; omega) | (intro h; exact h.elim))
    refine hK _ ?_
    clear hK K
    refine PWp.block_k fun Qq3 hq3n hq3x hq3r hq3e => ?_
    refine PWp.loop_k (fun i : Nat => [(.S 1, .av (.pv (.sl (t6Rows b)))), (.S 2, .av (.pv (.raw (.func (.func 35) #[] #[])))), (.S 15, .av (.pv (.sl (t6Rows a)))), (.S 16, .av (.pv (.int .i64 a.length))), (.S 17, .av (.pv (.int .i64 i)))]) (fun i => i ≤ a.length ∧ sameL a b = sameL (a.drop i) (b.drop i)) (fun i => a.length - i) (0) (⟨Nat.zero_le _, rfl⟩) ?_ ?_
    · repeat simp only [pwf, pf1, reduceIte, reduceCtorEq, Nat.reduceEqDiff, Nat.reduceAdd, Nat.reduceMul, Nat.reduceSub, Nat.reduceLT, Nat.reduceLeDiff, Nat.reduceBEq, if_true, if_false, implies_true, Bool.cond_true, Bool.cond_false, zf]
      first | done | trivial | rfl | (simp; done)
    rintro i ⟨hi, hinv⟩ J1 hJ1
    refine PWp.seq_rg [1, 2, 15, 16, 17, 18] orcX3_ok (mv := mv) (by decide) fun K hK => ?_
    simp only [pwr, pr1, mv, Int.reduceLT, Int.reduceSub, Int.reduceNeg, Int.reduceToNat, ne_eq, reduceIte, reduceCtorEq, Nat.reduceEqDiff, Nat.reduceAdd, Nat.reduceMul, Nat.reduceSub, Nat.reduceLT, Nat.reduceLeDiff, Nat.reduceBEq, if_true, if_false, implies_true, Bool.cond_true, Bool.cond_false, orcX3, c35, t6eta, zf]
    repeat' with_reducible refine And.intro ?_ ?_
    all_goals try (first | omega | rfl | ((with_reducible refine drawGoal ?_); exact rfl) | (simp only [inR]; omega) | (intro y hy; simp only [List.mem_singleton] at hy; subst hy; rfl) | (intro y hy; cases hy; done) | (simp only [List.length_append, List.length_map, List.length_cons, List.length_nil]; omega) | (intro h; simp only [inR]; omega) | (intro h; simp only [List.length_append, List.length_map, List.length_cons, List.length_nil]; omega) | (intro h; exact h.elim))
    refine hK _ ?_
    clear hK K
    refine PWp.seq_k fun K4 hK4 => ?_
    refine PWp.cond (by rfl) (fun hb18 => ?_) (fun hb18 => ?_)
    ·
     try (cases hb18; done)
     all_goals
      refine PWp.skip (hK4 _ ?_)
      refine PWp.seq_k fun K5 hK5 => ?_
      refine PWp.block_k fun Qq6 hq6n hq6x hq6r hq6e => ?_
      have hia : i < a.length := by simpa using hb18
      have hib : i < b.length := by omega
      have e1 := row_at hia
      have e2 := row_at hib
      rw [List.drop_eq_getElem_cons hia, List.drop_eq_getElem_cons hib, sameL] at hinv
      refine PWp.seq_rg [1, 2, 7, 8, 15, 16, 17] orcX3_ok (mv := mv) (by decide) fun K hK => ?_
      simp only [pwr, pr1, mv, Int.reduceLT, Int.reduceSub, Int.reduceNeg, Int.reduceToNat, ne_eq, reduceIte, reduceCtorEq, Nat.reduceEqDiff, Nat.reduceAdd, Nat.reduceMul, Nat.reduceSub, Nat.reduceLT, Nat.reduceLeDiff, Nat.reduceBEq, if_true, if_false, implies_true, Bool.cond_true, Bool.cond_false, orcX3, c35, t6eta, zf, e1]
      repeat' with_reducible refine And.intro ?_ ?_
      all_goals try (first | omega | rfl | ((with_reducible refine drawGoal ?_); exact rfl) | (simp only [inR]; omega) | (intro y hy; simp only [List.mem_singleton] at hy; subst hy; rfl) | (intro y hy; cases hy; done) | (simp only [List.length_append, List.length_map, List.length_cons, List.length_nil]; omega) | (intro h; simp only [inR]; omega) | (intro h; simp only [List.length_append, List.length_map, List.length_cons, List.length_nil]; omega) | (intro h; exact h.elim))
      refine hK _ ?_
      clear hK K
      refine PWp.seq_rg [1, 2, 8, 9, 15, 16, 17] orcX3_ok (mv := mv) (by decide) fun K hK => ?_
      simp only [pwr, pr1, mv, Int.reduceLT, Int.reduceSub, Int.reduceNeg, Int.reduceToNat, ne_eq, reduceIte, reduceCtorEq, Nat.reduceEqDiff, Nat.reduceAdd, Nat.reduceMul, Nat.reduceSub, Nat.reduceLT, Nat.reduceLeDiff, Nat.reduceBEq, if_true, if_false, implies_true, Bool.cond_true, Bool.cond_false, orcX3, c35, t6eta, zf, e2]
      repeat' with_reducible refine And.intro ?_ ?_
      all_goals try (first | omega | rfl | ((with_reducible refine drawGoal ?_); exact rfl) | (simp only [inR]; omega) | (intro y hy; simp only [List.mem_singleton] at hy; subst hy; rfl) | (intro y hy; cases hy; done) | (simp only [List.length_append, List.length_map, List.length_cons, List.length_nil]; omega) | (intro h; simp only [inR]; omega) | (intro h; simp only [List.length_append, List.length_map, List.length_cons, List.length_nil]; omega) | (intro h; exact h.elim))
      refine hK _ ?_
      clear hK K
      refine PWp.seq_rg [1, 2, 15, 16, 17, 30] orcX3_ok (mv := mv) (by decide) fun K hK => ?_
      simp only [pwr, pr1, mv, Int.reduceLT, Int.reduceSub, Int.reduceNeg, Int.reduceToNat, ne_eq, reduceIte, reduceCtorEq, Nat.reduceEqDiff, Nat.reduceAdd, Nat.reduceMul, Nat.reduceSub, Nat.reduceLT, Nat.reduceLeDiff, Nat.reduceBEq, if_true, if_false, implies_true, Bool.cond_true, Bool.cond_false, orcX3, c35, t6eta, zf, List.toList_toArray]
      repeat' with_reducible refine And.intro ?_ ?_
      all_goals try (first | omega | rfl | ((with_reducible refine drawGoal ?_); exact rfl) | (simp only [inR]; omega) | (intro y hy; simp only [List.mem_singleton] at hy; subst hy; rfl) | (intro y hy; cases hy; done) | (simp only [List.length_append, List.length_map, List.length_cons, List.length_nil]; omega) | (intro h; simp only [inR]; omega) | (intro h; simp only [List.length_append, List.length_map, List.length_cons, List.length_nil]; omega) | (intro h; exact h.elim))
      refine hK _ ?_
      clear hK K
      refine PWp.cond (by rfl) (fun hb30 => ?_) (fun hb30 => ?_)
      ·
       try (cases hb30; done)
       all_goals
        refine PWp.seq_rg [6] orcX3_ok (mv := mv) (by decide) fun K hK => ?_
        simp only [pwr, pr1, mv, Int.reduceLT, Int.reduceSub, Int.reduceNeg, Int.reduceToNat, ne_eq, reduceIte, reduceCtorEq, Nat.reduceEqDiff, Nat.reduceAdd, Nat.reduceMul, Nat.reduceSub, Nat.reduceLT, Nat.reduceLeDiff, Nat.reduceBEq, if_true, if_false, implies_true, Bool.cond_true, Bool.cond_false, orcX3, c35, t6eta, zf]
        repeat' with_reducible refine And.intro ?_ ?_
        all_goals try (first | omega | rfl | ((with_reducible refine drawGoal ?_); exact rfl) | (simp only [inR]; omega) | (intro y hy; simp only [List.mem_singleton] at hy; subst hy; rfl) | (intro y hy; cases hy; done) | (simp only [List.length_append, List.length_map, List.length_cons, List.length_nil]; omega) | (intro h; simp only [inR]; omega) | (intro h; simp only [List.length_append, List.length_map, List.length_cons, List.length_nil]; omega) | (intro h; exact h.elim))
        refine hK _ ?_
        clear hK K
        refine PWp.ret (hq6r _ (hq3r _ (hQ2 _ ?_)))
        simp only [pwf, pf1, reduceIte, reduceCtorEq, Nat.reduceEqDiff, Nat.reduceAdd, Nat.reduceMul, Nat.reduceSub, Nat.reduceLT, Nat.reduceLeDiff, Nat.reduceBEq, if_true, if_false, implies_true, Bool.cond_true, Bool.cond_false, zf, Tryd.results34]
        repeat simp only [pwf, pf1, reduceIte, reduceCtorEq, Nat.reduceEqDiff, Nat.reduceAdd, Nat.reduceMul, Nat.reduceSub, Nat.reduceLT, Nat.reduceLeDiff, Nat.reduceBEq, if_true, if_false, implies_true, Bool.cond_true, Bool.cond_false, zf]
        have h : a[i].same b[i] = false := by simpa using hb30
        rw [hinv, h, Bool.false_and]
      ·
       try (cases hb30; done)
       all_goals
        refine PWp.skip (hq6n _ (hK5 _ ?_))
        refine PWp.rg [1, 2, 15, 16, 17] orcX3_ok (mv := mv) (by decide) ?_
        simp only [pwr, pr1, mv, Int.reduceLT, Int.reduceSub, Int.reduceNeg, Int.reduceToNat, ne_eq, reduceIte, reduceCtorEq, Nat.reduceEqDiff, Nat.reduceAdd, Nat.reduceMul, Nat.reduceSub, Nat.reduceLT, Nat.reduceLeDiff, Nat.reduceBEq, if_true, if_false, implies_true, Bool.cond_true, Bool.cond_false, orcX3, c35, t6eta, zf]
        repeat' with_reducible refine And.intro ?_ ?_
        all_goals try (first | omega | rfl | ((with_reducible refine drawGoal ?_); exact rfl) | (simp only [inR]; omega) | (intro y hy; simp only [List.mem_singleton] at hy; subst hy; rfl) | (intro y hy; cases hy; done) | (simp only [List.length_append, List.length_map, List.length_cons, List.length_nil]; omega) | (intro h; simp only [inR]; omega) | (intro h; simp only [List.length_append, List.length_map, List.length_cons, List.length_nil]; omega) | (intro h; exact h.elim))
        refine hJ1 _ (i + 1) ?_ ?_ ?_
        · have h : a[i].same b[i] = true := by simpa using hb30
          refine ⟨by omega, ?_⟩
          rw [hinv, h, Bool.true_and]
        · omega
        · repeat simp only [pwf, pf1, reduceIte, reduceCtorEq, Nat.reduceEqDiff, Nat.reduceAdd, Nat.reduceMul, Nat.reduceSub, Nat.reduceLT, Nat.reduceLeDiff, Nat.reduceBEq, if_true, if_false, implies_true, Bool.cond_true, Bool.cond_false, zf]
          simp
    ·
     try (cases hb18; done)
     all_goals
      refine PWp.exit (hq3x _ (hK2 _ ?_))
      refine PWp.seq_rg [6] orcX3_ok (mv := mv) (by decide) fun K hK => ?_
      simp only [pwr, pr1, mv, Int.reduceLT, Int.reduceSub, Int.reduceNeg, Int.reduceToNat, ne_eq, reduceIte, reduceCtorEq, Nat.reduceEqDiff, Nat.reduceAdd, Nat.reduceMul, Nat.reduceSub, Nat.reduceLT, Nat.reduceLeDiff, Nat.reduceBEq, if_true, if_false, implies_true, Bool.cond_true, Bool.cond_false, orcX3, c35, t6eta, zf]
      repeat' with_reducible refine And.intro ?_ ?_
      all_goals try (first | omega | rfl | ((with_reducible refine drawGoal ?_); exact rfl) | (simp only [inR]; omega) | (intro y hy; simp only [List.mem_singleton] at hy; subst hy; rfl) | (intro y hy; cases hy; done) | (simp only [List.length_append, List.length_map, List.length_cons, List.length_nil]; omega) | (intro h; simp only [inR]; omega) | (intro h; simp only [List.length_append, List.length_map, List.length_cons, List.length_nil]; omega) | (intro h; exact h.elim))
      refine hK _ ?_
      clear hK K
      refine PWp.ret (hQ2 _ ?_)
      simp only [pwf, pf1, reduceIte, reduceCtorEq, Nat.reduceEqDiff, Nat.reduceAdd, Nat.reduceMul, Nat.reduceSub, Nat.reduceLT, Nat.reduceLeDiff, Nat.reduceBEq, if_true, if_false, implies_true, Bool.cond_true, Bool.cond_false, zf, Tryd.results34]
      repeat simp only [pwf, pf1, reduceIte, reduceCtorEq, Nat.reduceEqDiff, Nat.reduceAdd, Nat.reduceMul, Nat.reduceSub, Nat.reduceLT, Nat.reduceLeDiff, Nat.reduceBEq, if_true, if_false, implies_true, Bool.cond_true, Bool.cond_false, zf]
      have hie : i = a.length := by have := of_decide_eq_false hb18; omega
      rw [hinv, List.drop_eq_nil_of_le (by omega), List.drop_eq_nil_of_le (by omega)]
      rfl
def tOf : List (List PV) → List T6
  | [] => []
  | [.int _ k, .str t, .int _ v, .str b, .int _ l, .int _ c] :: r => ⟨k, t, v, b, l, c⟩ :: tOf r
  | _ :: r => tOf r
theorem tOf_rows (l : List T6) : tOf (List.map T6.row l) = l := by
  induction l with
  | nil => rfl
  | cons x l ih => exact congrArg (x :: ·) ih
def c34 : St → Option (Prop × St)
  | [(.S 0, .av (.pv (.sl xs))), (.S 1, .av (.pv (.sl ys))), (.S 2, .av (.pv (.raw (.func (.func 35) ⟨[]⟩ ⟨[]⟩))))] => some (xs = t6Rows (tOf xs) ∧ ys = t6Rows (tOf ys) ∧ (tOf xs).length ≤ 1000000 ∧ (tOf ys).length ≤ 1000000, [(.S 0, .av (.pv (.bool (sameL (tOf xs) (tOf ys)))))])
  | _ => none
theorem p34 {In Ret : St} {pre : Prop} (h : c34 In = some (pre, Ret)) (hp : pre) : PCalls Tryd.prog 34 In Ret := by
  unfold c34 at h
  split at h
  · rename_i xs ys
    cases h
    obtain ⟨h1, h2, h3, h4⟩ := hp
    obtain ⟨a, rfl⟩ : ∃ l, xs = t6Rows l := ⟨_, h1⟩
    obtain ⟨b, rfl⟩ : ∃ l, ys = t6Rows l := ⟨_, h2⟩
    simp only [tOf_rows] at h3 h4 ⊢
    exact t34 a b h3 h4
  · cases h
def orcX4 : Orc := fun f In => if f = 34 then c34 In else none
theorem orcX4_ok : OrcOk Tryd.prog orcX4 := by
  intro f In pre Ret h hp
  unfold orcX4 at h
  split at h
  · subst f; exact p34 h hp
  cases h
theorem t19 (a b : List T6) (ha : a.length ≤ 1000000) (hb : b.length ≤ 1000000) : PCalls Tryd.prog 19 [(.S 0, .av (.pv (.sl (t6Rows a)))), (.S 1, .av (.pv (.sl (t6Rows b))))] [(.S 0, .av (.pv (.bool (sameL a b))))] := by
  refine PCalls.of_k Tryd.func19 (by decide) rfl fun Q hQ1 hQ2 => ?_
  refine PWp.seq_rg [0, 1] orcX4_ok (mv := mv) (by decide) fun K hK => ?_
  simp only [pwr, pr1, mv, Int.reduceLT, Int.reduceSub, Int.reduceNeg, Int.reduceToNat, ne_eq, reduceIte, reduceCtorEq, Nat.reduceEqDiff, Nat.reduceAdd, Nat.reduceMul, Nat.reduceSub, Nat.reduceLT, Nat.reduceLeDiff, Nat.reduceBEq, if_true, if_false, implies_true, Bool.cond_true, Bool.cond_false, orcX4, c34, tOf_rows, zf]
  repeat' with_reducible refine And.intro ?_ ?_
  all_goals try (first | omega | rfl | ((with_reducible refine drawGoal ?_); exact rfl) | (simp only [inR]; omega) | (intro y hy; simp only [List.mem_singleton] at hy; subst hy; rfl) | (intro y hy; cases hy; done) | (simp only [List.length_append, List.length_map, List.length_cons, List.length_nil]; omega) | (intro h; simp only [inR]; omega) | (intro h; simp only [List.length_append, List.length_map, List.length_cons, List.length_nil]; omega) | (intro h; exact h.elim))
  refine hK _ ?_
  clear hK K
  refine PWp.seq_rg [4] orcX4_ok (mv := mv) (by decide) fun K hK => ?_
  simp only [pwr, pr1, mv, Int.reduceLT, Int.reduceSub, Int.reduceNeg, Int.reduceToNat, ne_eq, reduceIte, reduceCtorEq, Nat.reduceEqDiff, Nat.reduceAdd, Nat.reduceMul, Nat.reduceSub, Nat.reduceLT, Nat.reduceLeDiff, Nat.reduceBEq, if_true, if_false, implies_true, Bool.cond_true, Bool.cond_false, orcX4, c34, tOf_rows, zf]
  repeat' with_reducible refine And.intro ?_ ?_
  all_goals try (exact ⟨rfl, rfl, ha, hb⟩)
  all_goals try (first | omega | rfl | ((with_reducible refine drawGoal ?_); exact rfl) | (simp only [inR]; omega) | (intro y hy; simp only [List.mem_singleton] at hy; subst hy; rfl) | (intro y hy; cases hy; done) | (simp only [List.length_append, List.length_map, List.length_cons, List.length_nil]; omega) | (intro h; simp only [inR]; omega) | (intro h; simp only [List.length_append, List.length_map, List.length_cons, List.length_nil]; omega) | (intro h; exact h.elim))
  refine hK _ ?_
  clear hK K
  refine PWp.ret (hQ2 _ ?_)
  simp only [pwf, pf1, reduceIte, reduceCtorEq, Nat.reduceEqDiff, Nat.reduceAdd, Nat.reduceMul, Nat.reduceSub, Nat.reduceLT, Nat.reduceLeDiff, Nat.reduceBEq, if_true, if_false, implies_true, Bool.cond_true, Bool.cond_false, zf, Tryd.results19]
  repeat simp only [pwf, pf1, reduceIte, reduceCtorEq, Nat.reduceEqDiff, Nat.reduceAdd, Nat.reduceMul, Nat.reduceSub, Nat.reduceLT, Nat.reduceLeDiff, Nat.reduceBEq, if_true, if_false, implies_true, Bool.cond_true, Bool.cond_false, zf]
  first | done | rfl | (simp; done) | trace_state
end Go.Pw.L21
