/- The lexer: the statement on blanks. -/
import Derived.Test.YtfmfeiikcckgdaaDoorPvLX6
set_option linter.unusedSimpArgs false
set_option linter.unusedVariables false
set_option linter.unusedSectionVars false
set_option maxHeartbeats 4000000
set_option maxRecDepth 20000
namespace Go.Pw.L21
open Go.Proofs Go.Pw
def wvL (bs : Nat → Bs) : List T6 → Nat → Bs
  | [], _ => []
  | t :: r, i => bs i ++ (t.text ++ wvL bs r (i + 1))
theorem wvL_app (bs : Nat → Bs) : ∀ (l : List T6) (t : T6) (i : Nat), wvL bs (l ++ [t]) i = wvL bs l i ++ (bs (i + l.length) ++ t.text)
  | [], t, i => by simp [wvL]
  | a :: l, t, i => by
    show bs i ++ (a.text ++ wvL bs (l ++ [t]) (i + 1)) = _
    rw [wvL_app bs l t (i + 1), show i + 1 + l.length = i + (a :: l).length by simp only [List.length_cons]; omega]
    simp [wvL]
theorem wvL_snoc (bs : Nat → Bs) {T : List T6} {i : Nat} (h : i < T.length) : wvL bs (T.take (i + 1)) 0 = wvL bs (T.take i) 0 ++ bs i ++ T[i].text := by
  rw [List.take_succ_eq_append_getElem h, wvL_app, List.length_take, show 0 + min i T.length = i by omega, List.append_assoc]
theorem wvL_split (bs : Nat → Bs) : ∀ (a b : List T6) (i : Nat), wvL bs (a ++ b) i = wvL bs a i ++ wvL bs b (i + a.length)
  | [], b, i => by simp [wvL]
  | t :: a, b, i => by
    show bs i ++ (t.text ++ wvL bs (a ++ b) (i + 1)) = _
    rw [wvL_split bs a b (i + 1), show i + 1 + a.length = i + (t :: a).length by simp only [List.length_cons]; omega]
    simp [wvL]
theorem wvL_le (bs : Nat → Bs) (T : List T6) (i : Nat) : (wvL bs (T.take i) 0).length ≤ (wvL bs T 0).length := by
  have h := wvL_split bs (T.take i) (T.drop i) 0
  rw [List.take_append_drop] at h
  rw [h, List.length_append]
  omega
def psOf (bs : Nat → Bs) : List (Tok × Nat) → Nat → List (Bs × Tok)
  | [], _ => []
  | p :: r, i => (bs i, p.1) :: psOf bs r (i + 1)
theorem wv_weave (bs : Nat → Bs) (u : Bs) : ∀ (l : List (Tok × Nat)) (i : Nat), wvL bs (toks u (.ok l)) i = weave (psOf bs l i) (bs (i + l.length))
  | [], i => by show bs i ++ ([] ++ []) = bs (i + 0); simp
  | a :: l, i => by
    have ih := wv_weave bs u l (i + 1)
    show bs i ++ ((t6 u a).text ++ wvL bs (toks u (.ok l)) (i + 1)) = bs i ++ (a.1.text ++ weave (psOf bs l (i + 1)) (bs (i + (a :: l).length)))
    rw [ih, show i + 1 + l.length = i + (a :: l).length by simp only [List.length_cons]; omega]
    rfl
theorem psOf_snd (bs : Nat → Bs) : ∀ (l : List (Tok × Nat)) (i : Nat), (psOf bs l i).map (·.2) = l.map (·.1)
  | [], _ => rfl
  | a :: l, i => by simp [psOf, psOf_snd bs l]
theorem psOf_mem (bs : Nat → Bs) : ∀ {l : List (Tok × Nat)} {i : Nat} {p : Bs × Tok}, p ∈ psOf bs l i → (∃ j, p.1 = bs j) ∧ ∃ q ∈ l, p.2 = q.1
  | a :: l, i, p, h => by
    rcases List.mem_cons.1 h with rfl | h
    · exact ⟨⟨i, rfl⟩, a, by simp, rfl⟩
    · obtain ⟨h1, q, h2, h3⟩ := psOf_mem bs h
      exact ⟨h1, q, by simp [h2], h3⟩
theorem psOf_len (bs : Nat → Bs) (l : List (Tok × Nat)) (i : Nat) : (psOf bs l i).length = l.length := by
  have := congrArg List.length (psOf_snd bs l i)
  simpa using this
theorem weave_le (bs : Nat → Bs) (hb : ∀ j, (bs j).length ≤ 10) : ∀ (l : List (Tok × Nat)) (i j : Nat), (weave (psOf bs l i) (bs j)).length ≤ textsLen l + 10 * l.length + 10
  | [], i, j => by have := hb j; show (bs j).length ≤ 0 + 10 * 0 + 10; omega
  | a :: l, i, j => by
    have ih := weave_le bs hb l (i + 1) j
    have := hb i
    show (bs i ++ (a.1.text ++ weave (psOf bs l (i + 1)) (bs j))).length ≤ _
    simp only [List.length_append, textsLen, List.map_cons, List.sum_cons, List.length_cons] at ih ⊢
    omega
/-- which of the texts stands before a token -/
def kOf (z : List Int) (i : Nat) : Nat := if i < z.length then (z.getD i 0).toNat % 6 else 0
def bsOf (z : List Int) (i : Nat) : Bs := between.getD (kOf z i) []
theorem kOf_lt (z : List Int) (i : Nat) : kOf z i < 6 := by unfold kOf; split <;> omega
theorem bsOf_mem (z : List Int) (i : Nat) : bsOf z i ∈ between := by
  have h : kOf z i < between.length := kOf_lt z i
  unfold bsOf
  rw [List.getD_eq_getElem?_getD, List.getElem?_eq_getElem h]
  exact List.getElem_mem h
theorem bs_row (z : List Int) (i : Nat) : (sRows between).getD (kOf z i) [] = [.str (bsOf z i)] := by
  have h : kOf z i < between.length := kOf_lt z i
  rw [getD_map h]
  unfold bsOf
  rw [List.getD_eq_getElem?_getD, List.getElem?_eq_getElem h]
  rfl
theorem scan_between {u : Bs} {l : List (Tok × Nat)} (h : scan u = .ok l) (hu : u.length ≤ 1500) (hl : l.length ≤ 40) (z : List Int) :
    ∃ m, scan (wvL (bsOf z) (toks u (.ok l)) 0) = .ok m ∧ m.map (·.1) = l.map (·.1) ∧ (wvL (bsOf z) (toks u (.ok l)) 0).length ≤ 3000 := by
  obtain ⟨hg, htl, _⟩ := scan_ok h
  have hle := weave_le (bsOf z) (fun j => (between_sep _ (bsOf_mem z j)).2.2) l 0 (0 + l.length)
  rw [wv_weave]
  have hlast := between_sep _ (bsOf_mem z (0 + l.length))
  obtain ⟨m, h1, h2⟩ := scan_weave (ps := psOf (bsOf z) l 0) (last := bsOf z (0 + l.length)) (fun p hp => by
      obtain ⟨⟨j, h1⟩, q, h2, h3⟩ := psOf_mem _ hp
      rw [h1, h3]
      exact ⟨(between_sep _ (bsOf_mem z j)).1, hg q h2⟩) (fun p hp x => by
      obtain ⟨⟨j, h1⟩, _⟩ := psOf_mem _ (List.mem_of_mem_tail hp)
      rw [h1]
      exact (between_sep _ (bsOf_mem z j)).2.1 x) (by have := hlast.1 []; rwa [List.append_nil] at this) (by have := hlast.2.1 []; rwa [List.append_nil] at this) (by rw [psOf_len]; omega) (by omega)
  exact ⟨m, h1, by rw [h2, psOf_snd], by omega⟩
abbrev zRow (z : List Int) : List (List PV) := z.map fun n => [.int .u8 n]
theorem t5 (s : Bs) (z : List Int) (hs : s.length ≤ 9223372036854775807) (hz : ∀ n ∈ z, 0 ≤ n ∧ n < 256) : PCalls Tryd.prog 5 [(.S 0, .av (.pv (.str s))), (.S 1, .av (.pv (.sl (zRow z))))] [(.S 0, .av (.pv (.bool true)))] := by
  refine PCalls.of_k Tryd.func5 (by decide) rfl fun Q hQ1 hQ2 => ?_
  refine PWp.seq_rg [0, 1] orcY3_ok (mv := mv) (by decide) fun K hK => ?_
  simp only [pwr, pr1, mv, Int.reduceLT, Int.reduceSub, Int.reduceNeg, Int.reduceToNat, ne_eq, reduceIte, reduceCtorEq, Nat.reduceEqDiff, Nat.reduceAdd, Nat.reduceMul, Nat.reduceSub, Nat.reduceLT, Nat.reduceLeDiff, Nat.reduceBEq, if_true, if_false, implies_true, Bool.cond_true, Bool.cond_false, orcY3, c10b, c11, c9, c19, c22, tOf_rows, zf, Int.reduceToNat, beq_self_eq_true, errOf, toks_fail]
  repeat' with_reducible refine And.intro ?_ ?_
  all_goals try (first | omega | rfl | ((with_reducible refine drawGoal ?_); exact rfl) | (simp only [inR]; omega) | (intro y hy; simp only [List.mem_singleton] at hy; subst hy; rfl) | (intro y hy; cases hy; done) | (simp only [List.length_append, List.length_map, List.length_cons, List.length_nil]; omega) | (intro h; simp only [inR]; omega) | (intro h; simp only [List.length_append, List.length_map, List.length_cons, List.length_nil]; omega) | (intro h; exact h.elim))
  refine hK _ ?_
  clear hK K
  have hu : (s.take 1500).length ≤ 1500 := by rw [List.length_take]; omega
  obtain ⟨u, hu2⟩ : ∃ u, s.take 1500 = u := ⟨_, rfl⟩
  rw [hu2] at hu
  obtain ⟨v, hv⟩ : ∃ v, scan u = v := ⟨_, rfl⟩
  refine PWp.seq_rg [1, 5, 8] orcY3_ok (mv := mv) (by decide) fun K hK => ?_
  simp only [pwr, pr1, mv, Int.reduceLT, Int.reduceSub, Int.reduceNeg, Int.reduceToNat, ne_eq, reduceIte, reduceCtorEq, Nat.reduceEqDiff, Nat.reduceAdd, Nat.reduceMul, Nat.reduceSub, Nat.reduceLT, Nat.reduceLeDiff, Nat.reduceBEq, if_true, if_false, implies_true, Bool.cond_true, Bool.cond_false, orcY3, c10b, c11, c9, c19, c22, tOf_rows, zf, Int.reduceToNat, beq_self_eq_true, errOf, toks_fail, hu2, hv]
  repeat' with_reducible refine And.intro ?_ ?_
  all_goals try (omega)
  all_goals try (first | omega | rfl | ((with_reducible refine drawGoal ?_); exact rfl) | (simp only [inR]; omega) | (intro y hy; simp only [List.mem_singleton] at hy; subst hy; rfl) | (intro y hy; cases hy; done) | (simp only [List.length_append, List.length_map, List.length_cons, List.length_nil]; omega) | (intro h; simp only [inR]; omega) | (intro h; simp only [List.length_append, List.length_map, List.length_cons, List.length_nil]; omega) | (intro h; exact h.elim))
  refine hK _ ?_
  clear hK K
  refine PWp.seq_k fun K1 hK1 => ?_
  rcases v with l | ⟨k, e⟩
  ·
   have hTl := toks_len u l
   obtain ⟨T, hT⟩ : ∃ T, toks u (.ok l) = T := ⟨_, rfl⟩
   rw [hT] at hTl ⊢
   refine PWp.seq_rg [1, 5, 35] orcY3_ok (mv := mv) (by decide) fun K hK => ?_
   simp only [pwr, pr1, mv, Int.reduceLT, Int.reduceSub, Int.reduceNeg, Int.reduceToNat, ne_eq, reduceIte, reduceCtorEq, Nat.reduceEqDiff, Nat.reduceAdd, Nat.reduceMul, Nat.reduceSub, Nat.reduceLT, Nat.reduceLeDiff, Nat.reduceBEq, if_true, if_false, implies_true, Bool.cond_true, Bool.cond_false, orcY3, c10b, c11, c9, c19, c22, tOf_rows, zf, Int.reduceToNat, beq_self_eq_true, errOf, toks_fail, List.length_map, hTl]
   repeat' with_reducible refine And.intro ?_ ?_
   all_goals try (first | omega | (simp; done))
   all_goals try (first | omega | rfl | ((with_reducible refine drawGoal ?_); exact rfl) | (simp only [inR]; omega) | (intro y hy; simp only [List.mem_singleton] at hy; subst hy; rfl) | (intro y hy; cases hy; done) | (simp only [List.length_append, List.length_map, List.length_cons, List.length_nil]; omega) | (intro h; simp only [inR]; omega) | (intro h; simp only [List.length_append, List.length_map, List.length_cons, List.length_nil]; omega) | (intro h; exact h.elim))
   refine hK _ ?_
   clear hK K
   refine PWp.cond (by rfl) (fun hb35 => ?_) (fun hb35 => ?_)
   ·
    try (cases hb35; done)
    all_goals
     refine PWp.seq_rg [4] orcY3_ok (mv := mv) (by decide) fun K hK => ?_
     simp only [pwr, pr1, mv, Int.reduceLT, Int.reduceSub, Int.reduceNeg, Int.reduceToNat, ne_eq, reduceIte, reduceCtorEq, Nat.reduceEqDiff, Nat.reduceAdd, Nat.reduceMul, Nat.reduceSub, Nat.reduceLT, Nat.reduceLeDiff, Nat.reduceBEq, if_true, if_false, implies_true, Bool.cond_true, Bool.cond_false, orcY3, c10b, c11, c9, c19, c22, tOf_rows, zf, Int.reduceToNat, beq_self_eq_true, errOf, toks_fail]
     repeat' with_reducible refine And.intro ?_ ?_
     all_goals try (first | omega | rfl | ((with_reducible refine drawGoal ?_); exact rfl) | (simp only [inR]; omega) | (intro y hy; simp only [List.mem_singleton] at hy; subst hy; rfl) | (intro y hy; cases hy; done) | (simp only [List.length_append, List.length_map, List.length_cons, List.length_nil]; omega) | (intro h; simp only [inR]; omega) | (intro h; simp only [List.length_append, List.length_map, List.length_cons, List.length_nil]; omega) | (intro h; exact h.elim))
     refine hK _ ?_
     clear hK K
     refine PWp.ret (hQ2 _ ?_)
     simp only [pwf, pf1, reduceIte, reduceCtorEq, Nat.reduceEqDiff, Nat.reduceAdd, Nat.reduceMul, Nat.reduceSub, Nat.reduceLT, Nat.reduceLeDiff, Nat.reduceBEq, if_true, if_false, implies_true, Bool.cond_true, Bool.cond_false, zf, Int.reduceToNat, beq_self_eq_true, errOf, toks_fail, Tryd.results5]
     repeat simp only [pwf, pf1, reduceIte, reduceCtorEq, Nat.reduceEqDiff, Nat.reduceAdd, Nat.reduceMul, Nat.reduceSub, Nat.reduceLT, Nat.reduceLeDiff, Nat.reduceBEq, if_true, if_false, implies_true, Bool.cond_true, Bool.cond_false, zf, Int.reduceToNat, beq_self_eq_true, errOf, toks_fail]
     first | done | rfl | (simp; done) | trace_state
   ·
    try (cases hb35; done)
    all_goals
     refine PWp.skip (hK1 _ ?_)
     have hl40 : l.length ≤ 40 := by have h := of_decide_eq_false (by simpa using hb35 : decide (40 < ((l.length + 1 : Nat) : Int)) = false); omega
     obtain ⟨m, hm1, hm2, hm3⟩ := scan_between hv hu hl40 z
     rw [hT] at hm1 hm3
     have hsame := toks_same u (wvL (bsOf z) T 0) l m hm2
     have hTl2 := toks_len (wvL (bsOf z) T 0) m
     have hll : m.length = l.length := by have := congrArg List.length hm2; simpa using this
     rw [hT] at hsame
     refine PWp.seq_rg [1, 5, 9] orcY3_ok (mv := mv) (by decide) fun K hK => ?_
     simp only [pwr, pr1, mv, Int.reduceLT, Int.reduceSub, Int.reduceNeg, Int.reduceToNat, ne_eq, reduceIte, reduceCtorEq, Nat.reduceEqDiff, Nat.reduceAdd, Nat.reduceMul, Nat.reduceSub, Nat.reduceLT, Nat.reduceLeDiff, Nat.reduceBEq, if_true, if_false, implies_true, Bool.cond_true, Bool.cond_false, orcY3, c10b, c11, c9, c19, c22, tOf_rows, zf, Int.reduceToNat, beq_self_eq_true, errOf, toks_fail]
     repeat' with_reducible refine And.intro ?_ ?_
     all_goals try (first | omega | rfl | ((with_reducible refine drawGoal ?_); exact rfl) | (simp only [inR]; omega) | (intro y hy; simp only [List.mem_singleton] at hy; subst hy; rfl) | (intro y hy; cases hy; done) | (simp only [List.length_append, List.length_map, List.length_cons, List.length_nil]; omega) | (intro h; simp only [inR]; omega) | (intro h; simp only [List.length_append, List.length_map, List.length_cons, List.length_nil]; omega) | (intro h; exact h.elim))
     refine hK _ ?_
     clear hK K
     refine PWp.seq_rg [1, 5, 9, 10] orcY3_ok (mv := mv) (by decide) fun K hK => ?_
     simp only [pwr, pr1, mv, Int.reduceLT, Int.reduceSub, Int.reduceNeg, Int.reduceToNat, ne_eq, reduceIte, reduceCtorEq, Nat.reduceEqDiff, Nat.reduceAdd, Nat.reduceMul, Nat.reduceSub, Nat.reduceLT, Nat.reduceLeDiff, Nat.reduceBEq, if_true, if_false, implies_true, Bool.cond_true, Bool.cond_false, orcY3, c10b, c11, c9, c19, c22, tOf_rows, zf, Int.reduceToNat, beq_self_eq_true, errOf, toks_fail]
     repeat' with_reducible refine And.intro ?_ ?_
     all_goals try (first | omega | rfl | ((with_reducible refine drawGoal ?_); exact rfl) | (simp only [inR]; omega) | (intro y hy; simp only [List.mem_singleton] at hy; subst hy; rfl) | (intro y hy; cases hy; done) | (simp only [List.length_append, List.length_map, List.length_cons, List.length_nil]; omega) | (intro h; simp only [inR]; omega) | (intro h; simp only [List.length_append, List.length_map, List.length_cons, List.length_nil]; omega) | (intro h; exact h.elim))
     refine hK _ ?_
     clear hK K
     refine PWp.seq_k fun K2 hK2 => ?_
     refine PWp.seq_rg [1, 5, 9, 10, 11] orcY3_ok (mv := mv) (by decide) fun K hK => ?_
     simp only [pwr, pr1, mv, Int.reduceLT, Int.reduceSub, Int.reduceNeg, Int.reduceToNat, ne_eq, reduceIte, reduceCtorEq, Nat.reduceEqDiff, Nat.reduceAdd, Nat.reduceMul, Nat.reduceSub, Nat.reduceLT, Nat.reduceLeDiff, Nat.reduceBEq, if_true, if_false, implies_true, Bool.cond_true, Bool.cond_false, orcY3, c10b, c11, c9, c19, c22, tOf_rows, zf, Int.reduceToNat, beq_self_eq_true, errOf, toks_fail]
     repeat' with_reducible refine And.intro ?_ ?_
     all_goals try (first | omega | rfl | ((with_reducible refine drawGoal ?_); exact rfl) | (simp only [inR]; omega) | (intro y hy; simp only [List.mem_singleton] at hy; subst hy; rfl) | (intro y hy; cases hy; done) | (simp only [List.length_append, List.length_map, List.length_cons, List.length_nil]; omega) | (intro h; simp only [inR]; omega) | (intro h; simp only [List.length_append, List.length_map, List.length_cons, List.length_nil]; omega) | (intro h; exact h.elim))
     refine hK _ ?_
     clear hK K
     refine PWp.block_k fun Qq3 hq3n hq3x hq3r hq3e => ?_
     refine PWp.loop_k (fun i : Nat => [(.S 1, .av (.pv (.sl (zRow z)))), (.S 5, .av (.pv (.sl (t6Rows T)))), (.S 9, .av (.pv (.sl (sRows between)))), (.S 10, .av (.pv (.str (wvL (bsOf z) (T.take i) 0)))), (.S 11, .av (.pv (.int .i64 i)))]) (fun i => i ≤ T.length) (fun i => T.length - i) (0) (Nat.zero_le _) ?_ ?_
     · repeat simp only [pwf, pf1, reduceIte, reduceCtorEq, Nat.reduceEqDiff, Nat.reduceAdd, Nat.reduceMul, Nat.reduceSub, Nat.reduceLT, Nat.reduceLeDiff, Nat.reduceBEq, if_true, if_false, implies_true, Bool.cond_true, Bool.cond_false, zf, Int.reduceToNat, beq_self_eq_true, errOf, toks_fail]
       exact ⟨rfl, rfl, rfl⟩
     rintro i hi J1 hJ1
     refine PWp.seq_k fun K4 hK4 => ?_
     refine PWp.seq_rg [1, 5, 9, 10, 11, 41] orcY3_ok (mv := mv) (by decide) fun K hK => ?_
     simp only [pwr, pr1, mv, Int.reduceLT, Int.reduceSub, Int.reduceNeg, Int.reduceToNat, ne_eq, reduceIte, reduceCtorEq, Nat.reduceEqDiff, Nat.reduceAdd, Nat.reduceMul, Nat.reduceSub, Nat.reduceLT, Nat.reduceLeDiff, Nat.reduceBEq, if_true, if_false, implies_true, Bool.cond_true, Bool.cond_false, orcY3, c10b, c11, c9, c19, c22, tOf_rows, zf, Int.reduceToNat, beq_self_eq_true, errOf, toks_fail, List.length_map]
     repeat' with_reducible refine And.intro ?_ ?_
     all_goals try (first | omega | rfl | ((with_reducible refine drawGoal ?_); exact rfl) | (simp only [inR]; omega) | (intro y hy; simp only [List.mem_singleton] at hy; subst hy; rfl) | (intro y hy; cases hy; done) | (simp only [List.length_append, List.length_map, List.length_cons, List.length_nil]; omega) | (intro h; simp only [inR]; omega) | (intro h; simp only [List.length_append, List.length_map, List.length_cons, List.length_nil]; omega) | (intro h; exact h.elim))
     refine hK _ ?_
     clear hK K
     refine PWp.cond (by rfl) (fun hb41 => ?_) (fun hb41 => ?_)
     ·
      try (cases hb41; done)
      all_goals
       refine PWp.skip (hK4 _ ?_)
       refine PWp.seq_k fun K5 hK5 => ?_
       refine PWp.block_k fun Qq6 hq6n hq6x hq6r hq6e => ?_
       refine PWp.seq_rg [1, 5, 9, 10, 11, 12] orcY3_ok (mv := mv) (by decide) fun K hK => ?_
       simp only [pwr, pr1, mv, Int.reduceLT, Int.reduceSub, Int.reduceNeg, Int.reduceToNat, ne_eq, reduceIte, reduceCtorEq, Nat.reduceEqDiff, Nat.reduceAdd, Nat.reduceMul, Nat.reduceSub, Nat.reduceLT, Nat.reduceLeDiff, Nat.reduceBEq, if_true, if_false, implies_true, Bool.cond_true, Bool.cond_false, orcY3, c10b, c11, c9, c19, c22, tOf_rows, zf, Int.reduceToNat, beq_self_eq_true, errOf, toks_fail]
       repeat' with_reducible refine And.intro ?_ ?_
       all_goals try (first | omega | rfl | ((with_reducible refine drawGoal ?_); exact rfl) | (simp only [inR]; omega) | (intro y hy; simp only [List.mem_singleton] at hy; subst hy; rfl) | (intro y hy; cases hy; done) | (simp only [List.length_append, List.length_map, List.length_cons, List.length_nil]; omega) | (intro h; simp only [inR]; omega) | (intro h; simp only [List.length_append, List.length_map, List.length_cons, List.length_nil]; omega) | (intro h; exact h.elim))
       refine hK _ ?_
       clear hK K
       refine PWp.seq_k fun K7 hK7 => ?_
       have hiT : i < T.length := by have := of_decide_eq_true hb41; omega
       have e1 := row_at hiT
       have ewv := wvL_snoc (bsOf z) hiT
       have hle := wvL_le (bsOf z) T (i + 1)
       have hlen := congrArg List.length ewv
       simp only [List.length_append] at hlen
       have hb6 : between.length = 6 := rfl
       have hk6 := kOf_lt z i
       have ebs := bs_row z i
       have hb0 : ¬ i < z.length → bsOf z i = [32] := fun h => by unfold bsOf kOf; rw [if_neg h]; rfl
       have hbl : ¬ i < z.length → (bsOf z i).length = 1 := fun h => by rw [hb0 h]; rfl
       have eb0 : (sRows between).getD 0 [] = [.str [32]] := rfl
       refine PWp.seq_rg [1, 5, 9, 10, 11, 12, 47] orcY3_ok (mv := mv) (by decide) fun K hK => ?_
       simp only [pwr, pr1, mv, Int.reduceLT, Int.reduceSub, Int.reduceNeg, Int.reduceToNat, ne_eq, reduceIte, reduceCtorEq, Nat.reduceEqDiff, Nat.reduceAdd, Nat.reduceMul, Nat.reduceSub, Nat.reduceLT, Nat.reduceLeDiff, Nat.reduceBEq, if_true, if_false, implies_true, Bool.cond_true, Bool.cond_false, orcY3, c10b, c11, c9, c19, c22, tOf_rows, zf, Int.reduceToNat, beq_self_eq_true, errOf, toks_fail, List.length_map]
       repeat' with_reducible refine And.intro ?_ ?_
       all_goals try (first | omega | rfl | ((with_reducible refine drawGoal ?_); exact rfl) | (simp only [inR]; omega) | (intro y hy; simp only [List.mem_singleton] at hy; subst hy; rfl) | (intro y hy; cases hy; done) | (simp only [List.length_append, List.length_map, List.length_cons, List.length_nil]; omega) | (intro h; simp only [inR]; omega) | (intro h; simp only [List.length_append, List.length_map, List.length_cons, List.length_nil]; omega) | (intro h; exact h.elim))
       refine hK _ ?_
       clear hK K
       refine PWp.cond (by rfl) (fun hb47 => ?_) (fun hb47 => ?_)
       ·
        try (cases hb47; done)
        all_goals
         have hiz : i < z.length := by have := of_decide_eq_true hb47; omega
         have ez : (zRow z).getD i [] = [.int .u8 z[i]] := getD_map hiz
         obtain ⟨hz0, hz1⟩ := hz _ (List.getElem_mem hiz)
         have ek : z[i] % 6 = ((kOf z i : Nat) : Int) := by
           have eg : z.getD i 0 = z[i] := by simp [hiz]
           unfold kOf
           rw [if_pos hiz, eg]
           omega
         refine PWp.rg [1, 5, 9, 10, 11, 12] orcY3_ok (mv := mv) (by decide) ?_
         simp only [pwr, pr1, mv, Int.reduceLT, Int.reduceSub, Int.reduceNeg, Int.reduceToNat, ne_eq, reduceIte, reduceCtorEq, Nat.reduceEqDiff, Nat.reduceAdd, Nat.reduceMul, Nat.reduceSub, Nat.reduceLT, Nat.reduceLeDiff, Nat.reduceBEq, if_true, if_false, implies_true, Bool.cond_true, Bool.cond_false, orcY3, c10b, c11, c9, c19, c22, tOf_rows, zf, Int.reduceToNat, beq_self_eq_true, errOf, toks_fail, ez, ek]
         repeat' with_reducible refine And.intro ?_ ?_
         all_goals try (first | omega | (simp only [inR]; omega))
         all_goals try (first | omega | rfl | ((with_reducible refine drawGoal ?_); exact rfl) | (simp only [inR]; omega) | (intro y hy; simp only [List.mem_singleton] at hy; subst hy; rfl) | (intro y hy; cases hy; done) | (simp only [List.length_append, List.length_map, List.length_cons, List.length_nil]; omega) | (intro h; simp only [inR]; omega) | (intro h; simp only [List.length_append, List.length_map, List.length_cons, List.length_nil]; omega) | (intro h; exact h.elim))
         refine hK7 _ ?_
         refine PWp.dr [1, 5, 9, 10, 11] mixed orcY3_ok (mv := mv) (by decide) ?_
         simp only [pwr, pr1, mv, Int.reduceLT, Int.reduceSub, Int.reduceNeg, Int.reduceToNat, ne_eq, reduceIte, reduceCtorEq, Nat.reduceEqDiff, Nat.reduceAdd, Nat.reduceMul, Nat.reduceSub, Nat.reduceLT, Nat.reduceLeDiff, Nat.reduceBEq, if_true, if_false, implies_true, Bool.cond_true, Bool.cond_false, orcY3, c10b, c11, c9, c19, c22, tOf_rows, zf, Int.reduceToNat, beq_self_eq_true, errOf, toks_fail, ebs, eb0, e1, hb6, List.length_map, Int.toNat_natCast]
         repeat' with_reducible refine And.intro ?_ ?_
         all_goals try (first | omega | (have h9 := hbl (by have := of_decide_eq_false hb47; omega); simp only [List.length_append, List.length_cons, List.length_nil]; omega) | (simp only [List.length_append, List.length_cons, List.length_nil]; omega))
         all_goals try (first | omega | rfl | ((with_reducible refine drawGoal ?_); exact rfl) | (simp only [inR]; omega) | (intro y hy; simp only [List.mem_singleton] at hy; subst hy; rfl) | (intro y hy; cases hy; done) | (simp only [List.length_append, List.length_map, List.length_cons, List.length_nil]; omega) | (intro h; simp only [inR]; omega) | (intro h; simp only [List.length_append, List.length_map, List.length_cons, List.length_nil]; omega) | (intro h; exact h.elim))
         refine hq6n _ (hK5 _ ?_)
         refine PWp.rg [1, 5, 9, 10, 11] orcY3_ok (mv := mv) (by decide) ?_
         simp only [pwr, pr1, mv, Int.reduceLT, Int.reduceSub, Int.reduceNeg, Int.reduceToNat, ne_eq, reduceIte, reduceCtorEq, Nat.reduceEqDiff, Nat.reduceAdd, Nat.reduceMul, Nat.reduceSub, Nat.reduceLT, Nat.reduceLeDiff, Nat.reduceBEq, if_true, if_false, implies_true, Bool.cond_true, Bool.cond_false, orcY3, c10b, c11, c9, c19, c22, tOf_rows, zf, Int.reduceToNat, beq_self_eq_true, errOf, toks_fail]
         repeat' with_reducible refine And.intro ?_ ?_
         all_goals try (first | omega | rfl | ((with_reducible refine drawGoal ?_); exact rfl) | (simp only [inR]; omega) | (intro y hy; simp only [List.mem_singleton] at hy; subst hy; rfl) | (intro y hy; cases hy; done) | (simp only [List.length_append, List.length_map, List.length_cons, List.length_nil]; omega) | (intro h; simp only [inR]; omega) | (intro h; simp only [List.length_append, List.length_map, List.length_cons, List.length_nil]; omega) | (intro h; exact h.elim))
         refine hJ1 _ (i + 1) ?_ ?_ ?_
         · show i + 1 ≤ T.length
           omega
         · omega
         · repeat simp only [pwf, pf1, reduceIte, reduceCtorEq, Nat.reduceEqDiff, Nat.reduceAdd, Nat.reduceMul, Nat.reduceSub, Nat.reduceLT, Nat.reduceLeDiff, Nat.reduceBEq, if_true, if_false, implies_true, Bool.cond_true, Bool.cond_false, zf, Int.reduceToNat, beq_self_eq_true, errOf, toks_fail]
           rw [ewv]
           simp
       ·
        try (cases hb47; done)
        all_goals
         refine PWp.skip (hK7 _ ?_)
         refine PWp.dr [1, 5, 9, 10, 11] mixed orcY3_ok (mv := mv) (by decide) ?_
         simp only [pwr, pr1, mv, Int.reduceLT, Int.reduceSub, Int.reduceNeg, Int.reduceToNat, ne_eq, reduceIte, reduceCtorEq, Nat.reduceEqDiff, Nat.reduceAdd, Nat.reduceMul, Nat.reduceSub, Nat.reduceLT, Nat.reduceLeDiff, Nat.reduceBEq, if_true, if_false, implies_true, Bool.cond_true, Bool.cond_false, orcY3, c10b, c11, c9, c19, c22, tOf_rows, zf, Int.reduceToNat, beq_self_eq_true, errOf, toks_fail, ebs, eb0, e1, hb6, List.length_map, Int.toNat_natCast]
         repeat' with_reducible refine And.intro ?_ ?_
         all_goals try (first | omega | (have h9 := hbl (by have := of_decide_eq_false hb47; omega); simp only [List.length_append, List.length_cons, List.length_nil]; omega) | (simp only [List.length_append, List.length_cons, List.length_nil]; omega))
         all_goals try (first | omega | rfl | ((with_reducible refine drawGoal ?_); exact rfl) | (simp only [inR]; omega) | (intro y hy; simp only [List.mem_singleton] at hy; subst hy; rfl) | (intro y hy; cases hy; done) | (simp only [List.length_append, List.length_map, List.length_cons, List.length_nil]; omega) | (intro h; simp only [inR]; omega) | (intro h; simp only [List.length_append, List.length_map, List.length_cons, List.length_nil]; omega) | (intro h; exact h.elim))
         refine hq6n _ (hK5 _ ?_)
         refine PWp.rg [1, 5, 9, 10, 11] orcY3_ok (mv := mv) (by decide) ?_
         simp only [pwr, pr1, mv, Int.reduceLT, Int.reduceSub, Int.reduceNeg, Int.reduceToNat, ne_eq, reduceIte, reduceCtorEq, Nat.reduceEqDiff, Nat.reduceAdd, Nat.reduceMul, Nat.reduceSub, Nat.reduceLT, Nat.reduceLeDiff, Nat.reduceBEq, if_true, if_false, implies_true, Bool.cond_true, Bool.cond_false, orcY3, c10b, c11, c9, c19, c22, tOf_rows, zf, Int.reduceToNat, beq_self_eq_true, errOf, toks_fail]
         repeat' with_reducible refine And.intro ?_ ?_
         all_goals try (first | omega | rfl | ((with_reducible refine drawGoal ?_); exact rfl) | (simp only [inR]; omega) | (intro y hy; simp only [List.mem_singleton] at hy; subst hy; rfl) | (intro y hy; cases hy; done) | (simp only [List.length_append, List.length_map, List.length_cons, List.length_nil]; omega) | (intro h; simp only [inR]; omega) | (intro h; simp only [List.length_append, List.length_map, List.length_cons, List.length_nil]; omega) | (intro h; exact h.elim))
         refine hJ1 _ (i + 1) ?_ ?_ ?_
         · show i + 1 ≤ T.length
           omega
         · omega
         · repeat simp only [pwf, pf1, reduceIte, reduceCtorEq, Nat.reduceEqDiff, Nat.reduceAdd, Nat.reduceMul, Nat.reduceSub, Nat.reduceLT, Nat.reduceLeDiff, Nat.reduceBEq, if_true, if_false, implies_true, Bool.cond_true, Bool.cond_false, zf, Int.reduceToNat, beq_self_eq_true, errOf, toks_fail]
           rw [ewv, hb0 (by have := of_decide_eq_false hb47; omega)]
           simp
     ·
      try (cases hb41; done)
      all_goals
       refine PWp.exit (hq3x _ (hK2 _ ?_))
       have hie : i = T.length := by have := of_decide_eq_false hb41; omega
       rw [hie, List.take_length]
       refine PWp.seq_rg [5, 13, 16] orcY3_ok (mv := mv) (by decide) fun K hK => ?_
       simp only [pwr, pr1, mv, Int.reduceLT, Int.reduceSub, Int.reduceNeg, Int.reduceToNat, ne_eq, reduceIte, reduceCtorEq, Nat.reduceEqDiff, Nat.reduceAdd, Nat.reduceMul, Nat.reduceSub, Nat.reduceLT, Nat.reduceLeDiff, Nat.reduceBEq, if_true, if_false, implies_true, Bool.cond_true, Bool.cond_false, orcY3, c10b, c11, c9, c19, c22, tOf_rows, zf, Int.reduceToNat, beq_self_eq_true, errOf, toks_fail, hm1]
       repeat' with_reducible refine And.intro ?_ ?_
       all_goals try (omega)
       all_goals try (first | omega | rfl | ((with_reducible refine drawGoal ?_); exact rfl) | (simp only [inR]; omega) | (intro y hy; simp only [List.mem_singleton] at hy; subst hy; rfl) | (intro y hy; cases hy; done) | (simp only [List.length_append, List.length_map, List.length_cons, List.length_nil]; omega) | (intro h; simp only [inR]; omega) | (intro h; simp only [List.length_append, List.length_map, List.length_cons, List.length_nil]; omega) | (intro h; exact h.elim))
       refine hK _ ?_
       clear hK K
       refine PWp.seq_rg [4] orcY3_ok (mv := mv) (by decide) fun K hK => ?_
       simp only [pwr, pr1, mv, Int.reduceLT, Int.reduceSub, Int.reduceNeg, Int.reduceToNat, ne_eq, reduceIte, reduceCtorEq, Nat.reduceEqDiff, Nat.reduceAdd, Nat.reduceMul, Nat.reduceSub, Nat.reduceLT, Nat.reduceLeDiff, Nat.reduceBEq, if_true, if_false, implies_true, Bool.cond_true, Bool.cond_false, orcY3, c10b, c11, c9, c19, c22, tOf_rows, zf, Int.reduceToNat, beq_self_eq_true, errOf, toks_fail, hsame]
       repeat' with_reducible refine And.intro ?_ ?_
       all_goals try (first | exact ⟨rfl, rfl, by omega, by omega⟩ | exact fun _ => ⟨rfl, rfl, by omega, by omega⟩ | omega)
       all_goals try (first | omega | rfl | ((with_reducible refine drawGoal ?_); exact rfl) | (simp only [inR]; omega) | (intro y hy; simp only [List.mem_singleton] at hy; subst hy; rfl) | (intro y hy; cases hy; done) | (simp only [List.length_append, List.length_map, List.length_cons, List.length_nil]; omega) | (intro h; simp only [inR]; omega) | (intro h; simp only [List.length_append, List.length_map, List.length_cons, List.length_nil]; omega) | (intro h; exact h.elim))
       refine hK _ ?_
       clear hK K
       refine PWp.ret (hQ2 _ ?_)
       simp only [pwf, pf1, reduceIte, reduceCtorEq, Nat.reduceEqDiff, Nat.reduceAdd, Nat.reduceMul, Nat.reduceSub, Nat.reduceLT, Nat.reduceLeDiff, Nat.reduceBEq, if_true, if_false, implies_true, Bool.cond_true, Bool.cond_false, zf, Int.reduceToNat, beq_self_eq_true, errOf, toks_fail, Tryd.results5]
       repeat simp only [pwf, pf1, reduceIte, reduceCtorEq, Nat.reduceEqDiff, Nat.reduceAdd, Nat.reduceMul, Nat.reduceSub, Nat.reduceLT, Nat.reduceLeDiff, Nat.reduceBEq, if_true, if_false, implies_true, Bool.cond_true, Bool.cond_false, zf, Int.reduceToNat, beq_self_eq_true, errOf, toks_fail]
       first | done | rfl | (simp; done) | trace_state
  ·
   have he := scan_err hv
   refine PWp.seq_rg [1, 5, 35] orcY3_ok (mv := mv) (by decide) fun K hK => ?_
   simp only [pwr, pr1, mv, Int.reduceLT, Int.reduceSub, Int.reduceNeg, Int.reduceToNat, ne_eq, reduceIte, reduceCtorEq, Nat.reduceEqDiff, Nat.reduceAdd, Nat.reduceMul, Nat.reduceSub, Nat.reduceLT, Nat.reduceLeDiff, Nat.reduceBEq, if_true, if_false, implies_true, Bool.cond_true, Bool.cond_false, orcY3, c10b, c11, c9, c19, c22, tOf_rows, zf, Int.reduceToNat, beq_self_eq_true, errOf, toks_fail]
   repeat' with_reducible refine And.intro ?_ ?_
   all_goals try (first | omega | (simp; done))
   all_goals try (first | omega | rfl | ((with_reducible refine drawGoal ?_); exact rfl) | (simp only [inR]; omega) | (intro y hy; simp only [List.mem_singleton] at hy; subst hy; rfl) | (intro y hy; cases hy; done) | (simp only [List.length_append, List.length_map, List.length_cons, List.length_nil]; omega) | (intro h; simp only [inR]; omega) | (intro h; simp only [List.length_append, List.length_map, List.length_cons, List.length_nil]; omega) | (intro h; exact h.elim))
   refine hK _ ?_
   clear hK K
   refine PWp.cond (by rfl) (fun hb35 => ?_) (fun hb35 => ?_)
   ·
    try (cases hb35; done)
    all_goals
     refine PWp.seq_rg [4] orcY3_ok (mv := mv) (by decide) fun K hK => ?_
     simp only [pwr, pr1, mv, Int.reduceLT, Int.reduceSub, Int.reduceNeg, Int.reduceToNat, ne_eq, reduceIte, reduceCtorEq, Nat.reduceEqDiff, Nat.reduceAdd, Nat.reduceMul, Nat.reduceSub, Nat.reduceLT, Nat.reduceLeDiff, Nat.reduceBEq, if_true, if_false, implies_true, Bool.cond_true, Bool.cond_false, orcY3, c10b, c11, c9, c19, c22, tOf_rows, zf, Int.reduceToNat, beq_self_eq_true, errOf, toks_fail]
     repeat' with_reducible refine And.intro ?_ ?_
     all_goals try (first | omega | rfl | ((with_reducible refine drawGoal ?_); exact rfl) | (simp only [inR]; omega) | (intro y hy; simp only [List.mem_singleton] at hy; subst hy; rfl) | (intro y hy; cases hy; done) | (simp only [List.length_append, List.length_map, List.length_cons, List.length_nil]; omega) | (intro h; simp only [inR]; omega) | (intro h; simp only [List.length_append, List.length_map, List.length_cons, List.length_nil]; omega) | (intro h; exact h.elim))
     refine hK _ ?_
     clear hK K
     refine PWp.ret (hQ2 _ ?_)
     simp only [pwf, pf1, reduceIte, reduceCtorEq, Nat.reduceEqDiff, Nat.reduceAdd, Nat.reduceMul, Nat.reduceSub, Nat.reduceLT, Nat.reduceLeDiff, Nat.reduceBEq, if_true, if_false, implies_true, Bool.cond_true, Bool.cond_false, zf, Int.reduceToNat, beq_self_eq_true, errOf, toks_fail, Tryd.results5]
     repeat simp only [pwf, pf1, reduceIte, reduceCtorEq, Nat.reduceEqDiff, Nat.reduceAdd, Nat.reduceMul, Nat.reduceSub, Nat.reduceLT, Nat.reduceLeDiff, Nat.reduceBEq, if_true, if_false, implies_true, Bool.cond_true, Bool.cond_false, zf, Int.reduceToNat, beq_self_eq_true, errOf, toks_fail]
     first | done | rfl | (simp; done) | trace_state
   ·
    exact absurd (by simpa using hb35) he
end Go.Pw.L21
