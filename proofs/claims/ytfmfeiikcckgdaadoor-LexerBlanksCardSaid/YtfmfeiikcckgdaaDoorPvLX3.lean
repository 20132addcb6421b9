/- The lexer: Print and Quote. -/
import Derived.Test.YtfmfeiikcckgdaaDoorPvLX2
set_option linter.unusedSimpArgs false
set_option linter.unusedVariables false
set_option linter.unusedSectionVars false
set_option maxHeartbeats 4000000
set_option maxRecDepth 20000
namespace Go.Pw.L21
open Go.Proofs Go.Pw
def txtL (l : List T6) : List Bs := (l.filter fun t => t.kind != 0).map (·.text)
theorem txtL_snoc {l : List T6} {i : Nat} (h : i < l.length) : txtL (l.take (i + 1)) = txtL (l.take i) ++ (if (l[i].kind != 0) = true then [l[i].text] else []) := by
  rw [List.take_succ_eq_append_getElem h]
  unfold txtL
  rw [List.filter_append, List.map_append]
  congr 1
  by_cases hk : (l[i].kind != 0) = true
  · rw [if_pos hk, List.filter_cons_of_pos (p := fun t : T6 => t.kind != 0) hk]; rfl
  · rw [if_neg hk, List.filter_cons_of_neg (p := fun t : T6 => t.kind != 0) hk]; rfl
theorem txtL_len (l : List T6) : (txtL l).length ≤ l.length := by
  unfold txtL
  rw [List.length_map]
  exact List.length_filter_le _ _
theorem sRow_len (l : List Bs) : ∀ y ∈ sRows l, y.length = 1 := by
  intro y hy
  obtain ⟨b, _, rfl⟩ := List.mem_map.1 hy
  rfl
def c37 : St → Option (Prop × St)
  | [(.S 0, .av (.pv (.sl xs))), (.S 1, .av (.pv (.str x)))] => some (xs = sRows (sOf xs) ∧ (sOf xs).length ≤ 140737488355328 ∧ (Lib.join (sOf xs) x).length ≤ 140737488355328, [(.S 0, .av (.pv (.str (Lib.join (sOf xs) x))))])
  | _ => none
theorem p37 {In Ret : St} {pre : Prop} (h : c37 In = some (pre, Ret)) (hp : pre) : PCalls Tryd.prog 37 In Ret := by
  unfold c37 at h
  split at h
  · rename_i xs x
    cases h
    obtain ⟨h1, h2, h3⟩ := hp
    obtain ⟨l, rfl⟩ : ∃ l, xs = sRows l := ⟨_, h1⟩
    simp only [sOf_sRows] at h2 h3 ⊢
    exact t37j l x h2 h3
  · cases h
def orcX5 : Orc := fun f In => if f = 37 then c37 In else none
theorem orcX5_ok : OrcOk Tryd.prog orcX5 := by
  intro f In pre Ret h hp
  unfold orcX5 at h
  split at h
  · subst f; exact p37 h hp
  cases h
theorem t22 (l : List T6) (hl : l.length ≤ 1000000) (hj : (Lib.join (txtL l) [32]).length ≤ 10000000) : PCalls Tryd.prog 22 [(.S 0, .av (.pv (.sl (t6Rows l))))] [(.S 0, .av (.pv (.str (Lib.join (txtL l) [32]))))] := by
  refine PCalls.of_k Tryd.func22 (by decide) rfl fun Q hQ1 hQ2 => ?_
  refine PWp.seq_rg [0] orcX5_ok (mv := mv) (by decide) fun K hK => ?_
  simp only [pwr, pr1, mv, Int.reduceLT, Int.reduceSub, Int.reduceNeg, Int.reduceToNat, ne_eq, reduceIte, reduceCtorEq, Nat.reduceEqDiff, Nat.reduceAdd, Nat.reduceMul, Nat.reduceSub, Nat.reduceLT, Nat.reduceLeDiff, Nat.reduceBEq, if_true, if_false, implies_true, Bool.cond_true, Bool.cond_false, orcX5, c37, sOf_sRows, zf]
  repeat' with_reducible refine And.intro ?_ ?_
  all_goals try (first | omega | rfl | ((with_reducible refine drawGoal ?_); exact rfl) | (simp only [inR]; omega) | (intro y hy; simp only [List.mem_singleton] at hy; subst hy; rfl) | (intro y hy; cases hy; done) | (simp only [List.length_append, List.length_map, List.length_cons, List.length_nil]; omega) | (intro h; simp only [inR]; omega) | (intro h; simp only [List.length_append, List.length_map, List.length_cons, List.length_nil]; omega) | (intro h; exact h.elim))
  refine hK _ ?_
  clear hK K
  refine PWp.seq_rg [0, 3] orcX5_ok (mv := mv) (by decide) fun K hK => ?_
  simp only [pwr, pr1, mv, Int.reduceLT, Int.reduceSub, Int.reduceNeg, Int.reduceToNat, ne_eq, reduceIte, reduceCtorEq, Nat.reduceEqDiff, Nat.reduceAdd, Nat.reduceMul, Nat.reduceSub, Nat.reduceLT, Nat.reduceLeDiff, Nat.reduceBEq, if_true, if_false, implies_true, Bool.cond_true, Bool.cond_false, orcX5, c37, sOf_sRows, zf]
  repeat' with_reducible refine And.intro ?_ ?_
  all_goals try (first | omega | rfl | ((with_reducible refine drawGoal ?_); exact rfl) | (simp only [inR]; omega) | (intro y hy; simp only [List.mem_singleton] at hy; subst hy; rfl) | (intro y hy; cases hy; done) | (simp only [List.length_append, List.length_map, List.length_cons, List.length_nil]; omega) | (intro h; simp only [inR]; omega) | (intro h; simp only [List.length_append, List.length_map, List.length_cons, List.length_nil]; omega) | (intro h; exact h.elim))
  refine hK _ ?_
  clear hK K
  refine PWp.seq_k fun K1 hK1 => ?_
  refine PWp.seq_rg [3, 6, 7, 8] orcX5_ok (mv := mv) (by decide) fun K hK => ?_
  simp only [pwr, pr1, mv, Int.reduceLT, Int.reduceSub, Int.reduceNeg, Int.reduceToNat, ne_eq, reduceIte, reduceCtorEq, Nat.reduceEqDiff, Nat.reduceAdd, Nat.reduceMul, Nat.reduceSub, Nat.reduceLT, Nat.reduceLeDiff, Nat.reduceBEq, if_true, if_false, implies_true, Bool.cond_true, Bool.cond_false, orcX5, c37, sOf_sRows, zf]
  repeat' with_reducible refine And.intro ?_ ?_
  all_goals try (first | omega | rfl | ((with_reducible refine drawGoal ?_); exact rfl) | (simp only [inR]; omega) | (intro y hy; simp only [List.mem_singleton] at hy; subst hy; rfl) | (intro y hy; cases hy; done) | (simp only [List.length_append, List.length_map, List.length_cons, List.length_nil]; omega) | (intro h; simp only [inR]; omega) | (intro h; simp only [List.length_append, List.length_map, List.length_cons, List.length_nil]; omega) | (intro h; exact h.elim))
  refine hK _ ?_
  clear hK K
  refine PWp.block_k fun Qq2 hq2n hq2x hq2r hq2e => ?_
  refine PWp.loop_k (fun i : Nat => [(.S 3, .av (.rf (.RS 3 0) 0)), (.S 6, .av (.pv (.sl (t6Rows l)))), (.S 7, .av (.pv (.int .i64 l.length))), (.S 8, .av (.pv (.int .i64 i))), (.RS 3 0, .rw 0 true 9 (sRows (txtL (l.take i))))]) (fun i => i ≤ l.length) (fun i => l.length - i) (0) (Nat.zero_le _) ?_ ?_
  · repeat simp only [pwf, pf1, reduceIte, reduceCtorEq, Nat.reduceEqDiff, Nat.reduceAdd, Nat.reduceMul, Nat.reduceSub, Nat.reduceLT, Nat.reduceLeDiff, Nat.reduceBEq, if_true, if_false, implies_true, Bool.cond_true, Bool.cond_false, zf]
    exact ⟨⟨_, _, rfl⟩, rfl, rfl⟩
  rintro i hi J1 hJ1
  refine PWp.seq_rg [3, 6, 7, 8, 9] orcX5_ok (mv := mv) (by decide) fun K hK => ?_
  simp only [pwr, pr1, mv, Int.reduceLT, Int.reduceSub, Int.reduceNeg, Int.reduceToNat, ne_eq, reduceIte, reduceCtorEq, Nat.reduceEqDiff, Nat.reduceAdd, Nat.reduceMul, Nat.reduceSub, Nat.reduceLT, Nat.reduceLeDiff, Nat.reduceBEq, if_true, if_false, implies_true, Bool.cond_true, Bool.cond_false, orcX5, c37, sOf_sRows, zf]
  repeat' with_reducible refine And.intro ?_ ?_
  all_goals try (first | omega | rfl | ((with_reducible refine drawGoal ?_); exact rfl) | (simp only [inR]; omega) | (intro y hy; simp only [List.mem_singleton] at hy; subst hy; rfl) | (intro y hy; cases hy; done) | (simp only [List.length_append, List.length_map, List.length_cons, List.length_nil]; omega) | (intro h; simp only [inR]; omega) | (intro h; simp only [List.length_append, List.length_map, List.length_cons, List.length_nil]; omega) | (intro h; exact h.elim))
  refine hK _ ?_
  clear hK K
  refine PWp.seq_k fun K3 hK3 => ?_
  refine PWp.cond (by rfl) (fun hb9 => ?_) (fun hb9 => ?_)
  ·
   try (cases hb9; done)
   all_goals
    refine PWp.skip (hK3 _ ?_)
    refine PWp.seq_k fun K4 hK4 => ?_
    refine PWp.block_k fun Qq5 hq5n hq5x hq5r hq5e => ?_
    have hil : i < l.length := by simpa using hb9
    have e1 := row_at hil
    have es := txtL_snoc hil
    have htl : (txtL (l.take i)).length ≤ i := Nat.le_trans (txtL_len _) (by rw [List.length_take]; omega)
    refine PWp.seq_rg [3, 5, 6, 7, 8] orcX5_ok (mv := mv) (by decide) fun K hK => ?_
    simp only [pwr, pr1, mv, Int.reduceLT, Int.reduceSub, Int.reduceNeg, Int.reduceToNat, ne_eq, reduceIte, reduceCtorEq, Nat.reduceEqDiff, Nat.reduceAdd, Nat.reduceMul, Nat.reduceSub, Nat.reduceLT, Nat.reduceLeDiff, Nat.reduceBEq, if_true, if_false, implies_true, Bool.cond_true, Bool.cond_false, orcX5, c37, sOf_sRows, zf, e1]
    repeat' with_reducible refine And.intro ?_ ?_
    all_goals try (first | omega | rfl | ((with_reducible refine drawGoal ?_); exact rfl) | (simp only [inR]; omega) | (intro y hy; simp only [List.mem_singleton] at hy; subst hy; rfl) | (intro y hy; cases hy; done) | (simp only [List.length_append, List.length_map, List.length_cons, List.length_nil]; omega) | (intro h; simp only [inR]; omega) | (intro h; simp only [List.length_append, List.length_map, List.length_cons, List.length_nil]; omega) | (intro h; exact h.elim))
    refine hK _ ?_
    clear hK K
    refine PWp.seq_rg [3, 5, 6, 7, 8, 14] orcX5_ok (mv := mv) (by decide) fun K hK => ?_
    simp only [pwr, pr1, mv, Int.reduceLT, Int.reduceSub, Int.reduceNeg, Int.reduceToNat, ne_eq, reduceIte, reduceCtorEq, Nat.reduceEqDiff, Nat.reduceAdd, Nat.reduceMul, Nat.reduceSub, Nat.reduceLT, Nat.reduceLeDiff, Nat.reduceBEq, if_true, if_false, implies_true, Bool.cond_true, Bool.cond_false, orcX5, c37, sOf_sRows, zf]
    repeat' with_reducible refine And.intro ?_ ?_
    all_goals try (first | omega | rfl | ((with_reducible refine drawGoal ?_); exact rfl) | (simp only [inR]; omega) | (intro y hy; simp only [List.mem_singleton] at hy; subst hy; rfl) | (intro y hy; cases hy; done) | (simp only [List.length_append, List.length_map, List.length_cons, List.length_nil]; omega) | (intro h; simp only [inR]; omega) | (intro h; simp only [List.length_append, List.length_map, List.length_cons, List.length_nil]; omega) | (intro h; exact h.elim))
    refine hK _ ?_
    clear hK K
    refine PWp.cond (by rfl) (fun hb14 => ?_) (fun hb14 => ?_)
    ·
     try (cases hb14; done)
     all_goals
      refine PWp.rg [3, 6, 7, 8] orcX5_ok (mv := mv) (by decide) ?_
      simp only [pwr, pr1, mv, Int.reduceLT, Int.reduceSub, Int.reduceNeg, Int.reduceToNat, ne_eq, reduceIte, reduceCtorEq, Nat.reduceEqDiff, Nat.reduceAdd, Nat.reduceMul, Nat.reduceSub, Nat.reduceLT, Nat.reduceLeDiff, Nat.reduceBEq, if_true, if_false, implies_true, Bool.cond_true, Bool.cond_false, orcX5, c37, sOf_sRows, zf]
      repeat' with_reducible refine And.intro ?_ ?_
      all_goals try (first | exact sRow_len _ | (simp only [List.length_map]; omega) | (intro y hy; rcases List.mem_append.1 hy with h | h <;> first | exact sRow_len _ y h | (simp only [List.mem_singleton] at h; subst h; rfl)))
      all_goals try (first | omega | rfl | ((with_reducible refine drawGoal ?_); exact rfl) | (simp only [inR]; omega) | (intro y hy; simp only [List.mem_singleton] at hy; subst hy; rfl) | (intro y hy; cases hy; done) | (simp only [List.length_append, List.length_map, List.length_cons, List.length_nil]; omega) | (intro h; simp only [inR]; omega) | (intro h; simp only [List.length_append, List.length_map, List.length_cons, List.length_nil]; omega) | (intro h; exact h.elim))
      refine hq5n _ (hK4 _ ?_)
      refine PWp.rg [3, 6, 7, 8] orcX5_ok (mv := mv) (by decide) ?_
      simp only [pwr, pr1, mv, Int.reduceLT, Int.reduceSub, Int.reduceNeg, Int.reduceToNat, ne_eq, reduceIte, reduceCtorEq, Nat.reduceEqDiff, Nat.reduceAdd, Nat.reduceMul, Nat.reduceSub, Nat.reduceLT, Nat.reduceLeDiff, Nat.reduceBEq, if_true, if_false, implies_true, Bool.cond_true, Bool.cond_false, orcX5, c37, sOf_sRows, zf]
      repeat' with_reducible refine And.intro ?_ ?_
      all_goals try (first | omega | rfl | ((with_reducible refine drawGoal ?_); exact rfl) | (simp only [inR]; omega) | (intro y hy; simp only [List.mem_singleton] at hy; subst hy; rfl) | (intro y hy; cases hy; done) | (simp only [List.length_append, List.length_map, List.length_cons, List.length_nil]; omega) | (intro h; simp only [inR]; omega) | (intro h; simp only [List.length_append, List.length_map, List.length_cons, List.length_nil]; omega) | (intro h; exact h.elim))
      refine hJ1 _ (i + 1) ?_ ?_ ?_
      · show i + 1 ≤ l.length
        omega
      · omega
      · repeat simp only [pwf, pf1, reduceIte, reduceCtorEq, Nat.reduceEqDiff, Nat.reduceAdd, Nat.reduceMul, Nat.reduceSub, Nat.reduceLT, Nat.reduceLeDiff, Nat.reduceBEq, if_true, if_false, implies_true, Bool.cond_true, Bool.cond_false, zf]
        rw [es, if_pos hb14]
        simp
    ·
     try (cases hb14; done)
     all_goals
      refine PWp.skip (hq5n _ (hK4 _ ?_))
      refine PWp.rg [3, 6, 7, 8] orcX5_ok (mv := mv) (by decide) ?_
      simp only [pwr, pr1, mv, Int.reduceLT, Int.reduceSub, Int.reduceNeg, Int.reduceToNat, ne_eq, reduceIte, reduceCtorEq, Nat.reduceEqDiff, Nat.reduceAdd, Nat.reduceMul, Nat.reduceSub, Nat.reduceLT, Nat.reduceLeDiff, Nat.reduceBEq, if_true, if_false, implies_true, Bool.cond_true, Bool.cond_false, orcX5, c37, sOf_sRows, zf]
      repeat' with_reducible refine And.intro ?_ ?_
      all_goals try (first | omega | rfl | ((with_reducible refine drawGoal ?_); exact rfl) | (simp only [inR]; omega) | (intro y hy; simp only [List.mem_singleton] at hy; subst hy; rfl) | (intro y hy; cases hy; done) | (simp only [List.length_append, List.length_map, List.length_cons, List.length_nil]; omega) | (intro h; simp only [inR]; omega) | (intro h; simp only [List.length_append, List.length_map, List.length_cons, List.length_nil]; omega) | (intro h; exact h.elim))
      refine hJ1 _ (i + 1) ?_ ?_ ?_
      · show i + 1 ≤ l.length
        omega
      · omega
      · repeat simp only [pwf, pf1, reduceIte, reduceCtorEq, Nat.reduceEqDiff, Nat.reduceAdd, Nat.reduceMul, Nat.reduceSub, Nat.reduceLT, Nat.reduceLeDiff, Nat.reduceBEq, if_true, if_false, implies_true, Bool.cond_true, Bool.cond_false, zf]
        rw [es, if_neg (by rw [hb14]; decide)]
        simp
  ·
   try (cases hb9; done)
   all_goals
    refine PWp.exit (hq2x _ (hK1 _ ?_))
    have hie : i = l.length := by have := of_decide_eq_false hb9; omega
    have htl : (txtL l).length ≤ l.length := txtL_len l
    rw [hie, List.take_length]
    refine PWp.seq_rg [2] orcX5_ok (mv := mv) (by decide) fun K hK => ?_
    simp only [pwr, pr1, mv, Int.reduceLT, Int.reduceSub, Int.reduceNeg, Int.reduceToNat, ne_eq, reduceIte, reduceCtorEq, Nat.reduceEqDiff, Nat.reduceAdd, Nat.reduceMul, Nat.reduceSub, Nat.reduceLT, Nat.reduceLeDiff, Nat.reduceBEq, if_true, if_false, implies_true, Bool.cond_true, Bool.cond_false, orcX5, c37, sOf_sRows, zf]
    repeat' with_reducible refine And.intro ?_ ?_
    all_goals try (first | exact ⟨rfl, by omega, by omega⟩ | omega)
    all_goals try (first | omega | rfl | ((with_reducible refine drawGoal ?_); exact rfl) | (simp only [inR]; omega) | (intro y hy; simp only [List.mem_singleton] at hy; subst hy; rfl) | (intro y hy; cases hy; done) | (simp only [List.length_append, List.length_map, List.length_cons, List.length_nil]; omega) | (intro h; simp only [inR]; omega) | (intro h; simp only [List.length_append, List.length_map, List.length_cons, List.length_nil]; omega) | (intro h; exact h.elim))
    refine hK _ ?_
    clear hK K
    refine PWp.ret (hQ2 _ ?_)
    simp only [pwf, pf1, reduceIte, reduceCtorEq, Nat.reduceEqDiff, Nat.reduceAdd, Nat.reduceMul, Nat.reduceSub, Nat.reduceLT, Nat.reduceLeDiff, Nat.reduceBEq, if_true, if_false, implies_true, Bool.cond_true, Bool.cond_false, zf, Tryd.results22]
    repeat simp only [pwf, pf1, reduceIte, reduceCtorEq, Nat.reduceEqDiff, Nat.reduceAdd, Nat.reduceMul, Nat.reduceSub, Nat.reduceLT, Nat.reduceLeDiff, Nat.reduceBEq, if_true, if_false, implies_true, Bool.cond_true, Bool.cond_false, zf]
    first | done | rfl | (simp; done) | trace_state
theorem qb1 : ∀ n : Fin 256, 0 ≤ Lib.indexByte [10, 9, 0, 92, 34] (UInt8.ofNat n.val) → [92, ([110, 116, 48, 92, 34] : Bs).getD (Lib.indexByte [10, 9, 0, 92, 34] (UInt8.ofNat n.val)).toNat 0] = escB (UInt8.ofNat n.val) ∧ Lib.indexByte [10, 9, 0, 92, 34] (UInt8.ofNat n.val) < 5 := by decide +kernel
theorem qb2 : ∀ n : Fin 256, ¬ 0 ≤ Lib.indexByte [10, 9, 0, 92, 34] (UInt8.ofNat n.val) → (n.val < 32 ∨ 126 < n.val) → [92, 120, hexs.getD (n.val / 16) 0, hexs.getD (n.val % 16) 0] = escB (UInt8.ofNat n.val) := by decide +kernel
theorem qb3 : ∀ n : Fin 256, ¬ 0 ≤ Lib.indexByte [10, 9, 0, 92, 34] (UInt8.ofNat n.val) → ¬ (n.val < 32 ∨ 126 < n.val) → [UInt8.ofNat n.val] = escB (UInt8.ofNat n.val) := by decide +kernel
theorem escL_app : ∀ a b : Bs, escL (a ++ b) = escL a ++ escL b
  | [], b => rfl
  | c :: a, b => by rw [List.cons_append, escL, escL_app a b, escL, List.append_assoc]
theorem escL_snoc {s : Bs} {i : Nat} (h : i < s.length) : escL (s.take (i + 1)) = escL (s.take i) ++ escB s[i] := by
  rw [List.take_succ_eq_append_getElem h, escL_app]
  simp [escL]
theorem uFin (x : UInt8) : ∃ n : Fin 256, x = UInt8.ofNat n.val ∧ n.val = x.toNat := ⟨⟨x.toNat, x.toNat_lt⟩, by simp, rfl⟩
theorem byteRow_app34 (l : Bs) : byteRow (List.map (fun b => [PV.int .u8 (UInt8.toNat b : Int)]) l ++ [[PV.int .u8 34]]) = some (l ++ [34]) := by
  have := byteRow_cells (l ++ [34])
  rw [List.map_append] at this
  exact this
def orcX6 : Orc := fun f In => if f = 36 then c36 In else none
theorem orcX6_ok : OrcOk Tryd.prog orcX6 := by
  intro f In pre Ret h hp
  unfold orcX6 at h
  split at h
  · subst f; exact p36 h hp
  cases h
theorem t20 (s : Bs) (hs : s.length ≤ 1000000) : PCalls Tryd.prog 20 [(.S 0, .av (.pv (.str s)))] [(.S 0, .av (.tup [.pv (.str (if 200 < s.length then [] else quoteL s)), .pv (.int .i64 (if 200 < s.length then 5 else 0))]))] := by
  refine PCalls.of_k Tryd.func20 (by decide) rfl fun Q hQ1 hQ2 => ?_
  refine PWp.seq_rg [0] orcX6_ok (mv := mv) (by decide) fun K hK => ?_
  simp only [pwr, pr1, mv, Int.reduceLT, Int.reduceSub, Int.reduceNeg, Int.reduceToNat, ne_eq, reduceIte, reduceCtorEq, Nat.reduceEqDiff, Nat.reduceAdd, Nat.reduceMul, Nat.reduceSub, Nat.reduceLT, Nat.reduceLeDiff, Nat.reduceBEq, if_true, if_false, implies_true, Bool.cond_true, Bool.cond_false, orcX6, c36, zf, binShift, Int.reduceToNat, Int.reducePow, Int.toNat_natCast]
  repeat' with_reducible refine And.intro ?_ ?_
  all_goals try (first | omega | rfl | ((with_reducible refine drawGoal ?_); exact rfl) | (simp only [inR]; omega) | (intro y hy; simp only [List.mem_singleton] at hy; subst hy; rfl) | (intro y hy; cases hy; done) | (simp only [List.length_append, List.length_map, List.length_cons, List.length_nil]; omega) | (intro h; simp only [inR]; omega) | (intro h; simp only [List.length_append, List.length_map, List.length_cons, List.length_nil]; omega) | (intro h; exact h.elim))
  refine hK _ ?_
  clear hK K
  refine PWp.seq_k fun K1 hK1 => ?_
  refine PWp.seq_rg [0, 10] orcX6_ok (mv := mv) (by decide) fun K hK => ?_
  simp only [pwr, pr1, mv, Int.reduceLT, Int.reduceSub, Int.reduceNeg, Int.reduceToNat, ne_eq, reduceIte, reduceCtorEq, Nat.reduceEqDiff, Nat.reduceAdd, Nat.reduceMul, Nat.reduceSub, Nat.reduceLT, Nat.reduceLeDiff, Nat.reduceBEq, if_true, if_false, implies_true, Bool.cond_true, Bool.cond_false, orcX6, c36, zf, binShift, Int.reduceToNat, Int.reducePow, Int.toNat_natCast]
  repeat' with_reducible refine And.intro ?_ ?_
  all_goals try (first | omega | rfl | ((with_reducible refine drawGoal ?_); exact rfl) | (simp only [inR]; omega) | (intro y hy; simp only [List.mem_singleton] at hy; subst hy; rfl) | (intro y hy; cases hy; done) | (simp only [List.length_append, List.length_map, List.length_cons, List.length_nil]; omega) | (intro h; simp only [inR]; omega) | (intro h; simp only [List.length_append, List.length_map, List.length_cons, List.length_nil]; omega) | (intro h; exact h.elim))
  refine hK _ ?_
  clear hK K
  refine PWp.cond (by rfl) (fun hb10 => ?_) (fun hb10 => ?_)
  ·
   try (cases hb10; done)
   all_goals
    refine PWp.seq_rg [2, 3] orcX6_ok (mv := mv) (by decide) fun K hK => ?_
    simp only [pwr, pr1, mv, Int.reduceLT, Int.reduceSub, Int.reduceNeg, Int.reduceToNat, ne_eq, reduceIte, reduceCtorEq, Nat.reduceEqDiff, Nat.reduceAdd, Nat.reduceMul, Nat.reduceSub, Nat.reduceLT, Nat.reduceLeDiff, Nat.reduceBEq, if_true, if_false, implies_true, Bool.cond_true, Bool.cond_false, orcX6, c36, zf, binShift, Int.reduceToNat, Int.reducePow, Int.toNat_natCast]
    repeat' with_reducible refine And.intro ?_ ?_
    all_goals try (first | omega | rfl | ((with_reducible refine drawGoal ?_); exact rfl) | (simp only [inR]; omega) | (intro y hy; simp only [List.mem_singleton] at hy; subst hy; rfl) | (intro y hy; cases hy; done) | (simp only [List.length_append, List.length_map, List.length_cons, List.length_nil]; omega) | (intro h; simp only [inR]; omega) | (intro h; simp only [List.length_append, List.length_map, List.length_cons, List.length_nil]; omega) | (intro h; exact h.elim))
    refine hK _ ?_
    clear hK K
    refine PWp.ret (hQ2 _ ?_)
    simp only [pwf, pf1, reduceIte, reduceCtorEq, Nat.reduceEqDiff, Nat.reduceAdd, Nat.reduceMul, Nat.reduceSub, Nat.reduceLT, Nat.reduceLeDiff, Nat.reduceBEq, if_true, if_false, implies_true, Bool.cond_true, Bool.cond_false, zf, binShift, Int.reduceToNat, Int.reducePow, Int.toNat_natCast, Tryd.results20]
    repeat simp only [pwf, pf1, reduceIte, reduceCtorEq, Nat.reduceEqDiff, Nat.reduceAdd, Nat.reduceMul, Nat.reduceSub, Nat.reduceLT, Nat.reduceLeDiff, Nat.reduceBEq, if_true, if_false, implies_true, Bool.cond_true, Bool.cond_false, zf, binShift, Int.reduceToNat, Int.reducePow, Int.toNat_natCast]
    have h : 200 < s.length := by have := of_decide_eq_true hb10; omega
    simp [h]
  ·
   try (cases hb10; done)
   all_goals
    refine PWp.skip (hK1 _ ?_)
    have h2 : ¬ 200 < s.length := by have := of_decide_eq_false hb10; omega
    refine PWp.seq_rg [0, 4] orcX6_ok (mv := mv) (by decide) fun K hK => ?_
    simp only [pwr, pr1, mv, Int.reduceLT, Int.reduceSub, Int.reduceNeg, Int.reduceToNat, ne_eq, reduceIte, reduceCtorEq, Nat.reduceEqDiff, Nat.reduceAdd, Nat.reduceMul, Nat.reduceSub, Nat.reduceLT, Nat.reduceLeDiff, Nat.reduceBEq, if_true, if_false, implies_true, Bool.cond_true, Bool.cond_false, orcX6, c36, zf, binShift, Int.reduceToNat, Int.reducePow, Int.toNat_natCast]
    repeat' with_reducible refine And.intro ?_ ?_
    all_goals try (first | omega | rfl | ((with_reducible refine drawGoal ?_); exact rfl) | (simp only [inR]; omega) | (intro y hy; simp only [List.mem_singleton] at hy; subst hy; rfl) | (intro y hy; cases hy; done) | (simp only [List.length_append, List.length_map, List.length_cons, List.length_nil]; omega) | (intro h; simp only [inR]; omega) | (intro h; simp only [List.length_append, List.length_map, List.length_cons, List.length_nil]; omega) | (intro h; exact h.elim))
    refine hK _ ?_
    clear hK K
    refine PWp.seq_k fun K2 hK2 => ?_
    refine PWp.seq_rg [0, 4, 13, 14] orcX6_ok (mv := mv) (by decide) fun K hK => ?_
    simp only [pwr, pr1, mv, Int.reduceLT, Int.reduceSub, Int.reduceNeg, Int.reduceToNat, ne_eq, reduceIte, reduceCtorEq, Nat.reduceEqDiff, Nat.reduceAdd, Nat.reduceMul, Nat.reduceSub, Nat.reduceLT, Nat.reduceLeDiff, Nat.reduceBEq, if_true, if_false, implies_true, Bool.cond_true, Bool.cond_false, orcX6, c36, zf, binShift, Int.reduceToNat, Int.reducePow, Int.toNat_natCast]
    repeat' with_reducible refine And.intro ?_ ?_
    all_goals try (first | omega | rfl | ((with_reducible refine drawGoal ?_); exact rfl) | (simp only [inR]; omega) | (intro y hy; simp only [List.mem_singleton] at hy; subst hy; rfl) | (intro y hy; cases hy; done) | (simp only [List.length_append, List.length_map, List.length_cons, List.length_nil]; omega) | (intro h; simp only [inR]; omega) | (intro h; simp only [List.length_append, List.length_map, List.length_cons, List.length_nil]; omega) | (intro h; exact h.elim))
    refine hK _ ?_
    clear hK K
    refine PWp.block_k fun Qq3 hq3n hq3x hq3r hq3e => ?_
    refine PWp.loop_k (fun i : Nat => [(.S 0, .av (.pv (.str s))), (.S 4, .av (.rf (.RS 4 0) 0)), (.S 13, .av (.pv (.int .i64 s.length))), (.S 14, .av (.pv (.int .i64 i))), (.RS 4 0, .rw 0 true 5 (bRow (34 :: escL (s.take i))))]) (fun i => i ≤ s.length) (fun i => s.length - i) (0) (Nat.zero_le _) ?_ ?_
    · repeat simp only [pwf, pf1, reduceIte, reduceCtorEq, Nat.reduceEqDiff, Nat.reduceAdd, Nat.reduceMul, Nat.reduceSub, Nat.reduceLT, Nat.reduceLeDiff, Nat.reduceBEq, if_true, if_false, implies_true, Bool.cond_true, Bool.cond_false, zf, binShift, Int.reduceToNat, Int.reducePow, Int.toNat_natCast]
      exact ⟨⟨_, _, rfl⟩, rfl, rfl⟩
    rintro i hi J1 hJ1
    refine PWp.seq_rg [0, 4, 13, 14, 15] orcX6_ok (mv := mv) (by decide) fun K hK => ?_
    simp only [pwr, pr1, mv, Int.reduceLT, Int.reduceSub, Int.reduceNeg, Int.reduceToNat, ne_eq, reduceIte, reduceCtorEq, Nat.reduceEqDiff, Nat.reduceAdd, Nat.reduceMul, Nat.reduceSub, Nat.reduceLT, Nat.reduceLeDiff, Nat.reduceBEq, if_true, if_false, implies_true, Bool.cond_true, Bool.cond_false, orcX6, c36, zf, binShift, Int.reduceToNat, Int.reducePow, Int.toNat_natCast]
    repeat' with_reducible refine And.intro ?_ ?_
    all_goals try (first | omega | rfl | ((with_reducible refine drawGoal ?_); exact rfl) | (simp only [inR]; omega) | (intro y hy; simp only [List.mem_singleton] at hy; subst hy; rfl) | (intro y hy; cases hy; done) | (simp only [List.length_append, List.length_map, List.length_cons, List.length_nil]; omega) | (intro h; simp only [inR]; omega) | (intro h; simp only [List.length_append, List.length_map, List.length_cons, List.length_nil]; omega) | (intro h; exact h.elim))
    refine hK _ ?_
    clear hK K
    refine PWp.seq_k fun K4 hK4 => ?_
    refine PWp.cond (by rfl) (fun hb15 => ?_) (fun hb15 => ?_)
    ·
     try (cases hb15; done)
     all_goals
      refine PWp.skip (hK4 _ ?_)
      refine PWp.seq_k fun K5 hK5 => ?_
      refine PWp.block_k fun Qq6 hq6n hq6x hq6r hq6e => ?_
      refine PWp.seq_rg [0, 4, 5, 13, 14] orcX6_ok (mv := mv) (by decide) fun K hK => ?_
      simp only [pwr, pr1, mv, Int.reduceLT, Int.reduceSub, Int.reduceNeg, Int.reduceToNat, ne_eq, reduceIte, reduceCtorEq, Nat.reduceEqDiff, Nat.reduceAdd, Nat.reduceMul, Nat.reduceSub, Nat.reduceLT, Nat.reduceLeDiff, Nat.reduceBEq, if_true, if_false, implies_true, Bool.cond_true, Bool.cond_false, orcX6, c36, zf, binShift, Int.reduceToNat, Int.reducePow, Int.toNat_natCast]
      repeat' with_reducible refine And.intro ?_ ?_
      all_goals try (first | omega | rfl | ((with_reducible refine drawGoal ?_); exact rfl) | (simp only [inR]; omega) | (intro y hy; simp only [List.mem_singleton] at hy; subst hy; rfl) | (intro y hy; cases hy; done) | (simp only [List.length_append, List.length_map, List.length_cons, List.length_nil]; omega) | (intro h; simp only [inR]; omega) | (intro h; simp only [List.length_append, List.length_map, List.length_cons, List.length_nil]; omega) | (intro h; exact h.elim))
      refine hK _ ?_
      clear hK K
      have his : i < s.length := by have := of_decide_eq_true hb15; omega
      obtain ⟨x, hx⟩ : ∃ x, s.getD i 0 = x := ⟨_, rfl⟩
      have hxi : s[i] = x := by rw [← hx, getN his]
      have es := escL_snoc his
      rw [hxi] at es
      have hxx : x.toNat.toUInt8 = x := by simp
      have hel := esc_len (s.take i)
      rw [List.length_take] at hel
      obtain ⟨n, hn, hnx⟩ := uFin x
      refine PWp.seq_rg [0, 4, 6, 13, 14] orcX6_ok (mv := mv) (by decide) fun K hK => ?_
      simp only [pwr, pr1, mv, Int.reduceLT, Int.reduceSub, Int.reduceNeg, Int.reduceToNat, ne_eq, reduceIte, reduceCtorEq, Nat.reduceEqDiff, Nat.reduceAdd, Nat.reduceMul, Nat.reduceSub, Nat.reduceLT, Nat.reduceLeDiff, Nat.reduceBEq, if_true, if_false, implies_true, Bool.cond_true, Bool.cond_false, orcX6, c36, zf, binShift, Int.reduceToNat, Int.reducePow, Int.toNat_natCast, hx]
      repeat' with_reducible refine And.intro ?_ ?_
      all_goals try (first | omega | exact ub_bd _ | exact (ub_bd _).1 | exact (ub_bd _).2)
      all_goals try (first | omega | rfl | ((with_reducible refine drawGoal ?_); exact rfl) | (simp only [inR]; omega) | (intro y hy; simp only [List.mem_singleton] at hy; subst hy; rfl) | (intro y hy; cases hy; done) | (simp only [List.length_append, List.length_map, List.length_cons, List.length_nil]; omega) | (intro h; simp only [inR]; omega) | (intro h; simp only [List.length_append, List.length_map, List.length_cons, List.length_nil]; omega) | (intro h; exact h.elim))
      refine hK _ ?_
      clear hK K
      refine PWp.seq_rg [0, 4, 6, 7, 13, 14] orcX6_ok (mv := mv) (by decide) fun K hK => ?_
      simp only [pwr, pr1, mv, Int.reduceLT, Int.reduceSub, Int.reduceNeg, Int.reduceToNat, ne_eq, reduceIte, reduceCtorEq, Nat.reduceEqDiff, Nat.reduceAdd, Nat.reduceMul, Nat.reduceSub, Nat.reduceLT, Nat.reduceLeDiff, Nat.reduceBEq, if_true, if_false, implies_true, Bool.cond_true, Bool.cond_false, orcX6, c36, zf, binShift, Int.reduceToNat, Int.reducePow, Int.toNat_natCast, hxx]
      repeat' with_reducible refine And.intro ?_ ?_
      all_goals try (first | omega | rfl | ((with_reducible refine drawGoal ?_); exact rfl) | (simp only [inR]; omega) | (intro y hy; simp only [List.mem_singleton] at hy; subst hy; rfl) | (intro y hy; cases hy; done) | (simp only [List.length_append, List.length_map, List.length_cons, List.length_nil]; omega) | (intro h; simp only [inR]; omega) | (intro h; simp only [List.length_append, List.length_map, List.length_cons, List.length_nil]; omega) | (intro h; exact h.elim))
      refine hK _ ?_
      clear hK K
      refine PWp.block_l fun Qq7 hq7n hq7x hq7r hq7e => ?_
      refine PWp.seq_rg [0, 4, 6, 7, 13, 14, 26] orcX6_ok (mv := mv) (by decide) fun K hK => ?_
      simp only [pwr, pr1, mv, Int.reduceLT, Int.reduceSub, Int.reduceNeg, Int.reduceToNat, ne_eq, reduceIte, reduceCtorEq, Nat.reduceEqDiff, Nat.reduceAdd, Nat.reduceMul, Nat.reduceSub, Nat.reduceLT, Nat.reduceLeDiff, Nat.reduceBEq, if_true, if_false, implies_true, Bool.cond_true, Bool.cond_false, orcX6, c36, zf, binShift, Int.reduceToNat, Int.reducePow, Int.toNat_natCast]
      repeat' with_reducible refine And.intro ?_ ?_
      all_goals try (first | omega | rfl | ((with_reducible refine drawGoal ?_); exact rfl) | (simp only [inR]; omega) | (intro y hy; simp only [List.mem_singleton] at hy; subst hy; rfl) | (intro y hy; cases hy; done) | (simp only [List.length_append, List.length_map, List.length_cons, List.length_nil]; omega) | (intro h; simp only [inR]; omega) | (intro h; simp only [List.length_append, List.length_map, List.length_cons, List.length_nil]; omega) | (intro h; exact h.elim))
      refine hK _ ?_
      clear hK K
      refine PWp.cond (by rfl) (fun hb26 => ?_) (fun hb26 => ?_)
      ·
       try (cases hb26; done)
       all_goals
        have hat : 0 ≤ Lib.indexByte [10, 9, 0, 92, 34] x := of_decide_eq_true hb26
        obtain ⟨q1, q2⟩ := qb1 n (by rw [← hn]; exact hat)
        rw [← hn] at q1 q2
        refine PWp.rg [0, 4, 13, 14] orcX6_ok (mv := mv) (by decide) ?_
        simp only [pwr, pr1, mv, Int.reduceLT, Int.reduceSub, Int.reduceNeg, Int.reduceToNat, ne_eq, reduceIte, reduceCtorEq, Nat.reduceEqDiff, Nat.reduceAdd, Nat.reduceMul, Nat.reduceSub, Nat.reduceLT, Nat.reduceLeDiff, Nat.reduceBEq, if_true, if_false, implies_true, Bool.cond_true, Bool.cond_false, orcX6, c36, zf, binShift, Int.reduceToNat, Int.reducePow, Int.toNat_natCast]
        repeat' with_reducible refine And.intro ?_ ?_
        all_goals try (first | omega | (intro y hy; simp only [List.mem_cons, List.not_mem_nil, or_false] at hy; rcases hy with rfl | rfl <;> rfl) | (simp only [List.length_cons, List.length_nil]; omega))
        all_goals try (first | omega | rfl | ((with_reducible refine drawGoal ?_); exact rfl) | (simp only [inR]; omega) | (intro y hy; simp only [List.mem_singleton] at hy; subst hy; rfl) | (intro y hy; cases hy; done) | (simp only [List.length_append, List.length_map, List.length_cons, List.length_nil]; omega) | (intro h; simp only [inR]; omega) | (intro h; simp only [List.length_append, List.length_map, List.length_cons, List.length_nil]; omega) | (intro h; exact h.elim))
        refine hq7n _ (hq6n _ (hK5 _ ?_))
        refine PWp.rg [0, 4, 13, 14] orcX6_ok (mv := mv) (by decide) ?_
        simp only [pwr, pr1, mv, Int.reduceLT, Int.reduceSub, Int.reduceNeg, Int.reduceToNat, ne_eq, reduceIte, reduceCtorEq, Nat.reduceEqDiff, Nat.reduceAdd, Nat.reduceMul, Nat.reduceSub, Nat.reduceLT, Nat.reduceLeDiff, Nat.reduceBEq, if_true, if_false, implies_true, Bool.cond_true, Bool.cond_false, orcX6, c36, zf, binShift, Int.reduceToNat, Int.reducePow, Int.toNat_natCast]
        repeat' with_reducible refine And.intro ?_ ?_
        all_goals try (first | omega | rfl | ((with_reducible refine drawGoal ?_); exact rfl) | (simp only [inR]; omega) | (intro y hy; simp only [List.mem_singleton] at hy; subst hy; rfl) | (intro y hy; cases hy; done) | (simp only [List.length_append, List.length_map, List.length_cons, List.length_nil]; omega) | (intro h; simp only [inR]; omega) | (intro h; simp only [List.length_append, List.length_map, List.length_cons, List.length_nil]; omega) | (intro h; exact h.elim))
        refine hJ1 _ (i + 1) ?_ ?_ ?_
        · show i + 1 ≤ s.length
          omega
        · omega
        · repeat simp only [pwf, pf1, reduceIte, reduceCtorEq, Nat.reduceEqDiff, Nat.reduceAdd, Nat.reduceMul, Nat.reduceSub, Nat.reduceLT, Nat.reduceLeDiff, Nat.reduceBEq, if_true, if_false, implies_true, Bool.cond_true, Bool.cond_false, zf, binShift, Int.reduceToNat, Int.reducePow, Int.toNat_natCast]
          rw [es, ← q1]
          simp
      ·
       try (cases hb26; done)
       all_goals
        have hat : ¬ 0 ≤ Lib.indexByte [10, 9, 0, 92, 34] x := of_decide_eq_false hb26
        refine PWp.seq_rg [0, 4, 6, 13, 14, 34] orcX6_ok (mv := mv) (by decide) fun K hK => ?_
        simp only [pwr, pr1, mv, Int.reduceLT, Int.reduceSub, Int.reduceNeg, Int.reduceToNat, ne_eq, reduceIte, reduceCtorEq, Nat.reduceEqDiff, Nat.reduceAdd, Nat.reduceMul, Nat.reduceSub, Nat.reduceLT, Nat.reduceLeDiff, Nat.reduceBEq, if_true, if_false, implies_true, Bool.cond_true, Bool.cond_false, orcX6, c36, zf, binShift, Int.reduceToNat, Int.reducePow, Int.toNat_natCast]
        repeat' with_reducible refine And.intro ?_ ?_
        all_goals try (first | omega | exact ub_bd _ | exact (ub_bd _).1 | exact (ub_bd _).2)
        all_goals try (first | omega | rfl | ((with_reducible refine drawGoal ?_); exact rfl) | (simp only [inR]; omega) | (intro y hy; simp only [List.mem_singleton] at hy; subst hy; rfl) | (intro y hy; cases hy; done) | (simp only [List.length_append, List.length_map, List.length_cons, List.length_nil]; omega) | (intro h; simp only [inR]; omega) | (intro h; simp only [List.length_append, List.length_map, List.length_cons, List.length_nil]; omega) | (intro h; exact h.elim))
        refine hK _ ?_
        clear hK K
        refine PWp.cond (by rfl) (fun hb34 => ?_) (fun hb34 => ?_)
        ·
         try (cases hb34; done)
         all_goals
          have ea : x.toNat &&& 15 = x.toNat % 16 := Nat.and_two_pow_sub_one_eq_mod _ 4
          have e16 : ((x.toNat : Int) / 16).toNat = x.toNat / 16 := by omega
          have hyes : n.val < 32 ∨ 126 < n.val := by simp only [Bool.or_eq_true, decide_eq_true_eq] at hb34; omega
          have q2 := qb2 n (by rw [← hn]; exact hat) hyes
          rw [← hn, hnx] at q2
          refine PWp.dr [0, 4, 13, 14] mixed orcX6_ok (mv := mv) (by decide) ?_
          simp only [pwr, pr1, mv, Int.reduceLT, Int.reduceSub, Int.reduceNeg, Int.reduceToNat, ne_eq, reduceIte, reduceCtorEq, Nat.reduceEqDiff, Nat.reduceAdd, Nat.reduceMul, Nat.reduceSub, Nat.reduceLT, Nat.reduceLeDiff, Nat.reduceBEq, if_true, if_false, implies_true, Bool.cond_true, Bool.cond_false, orcX6, c36, zf, binShift, Int.reduceToNat, Int.reducePow, Int.toNat_natCast, ea, e16]
          repeat' with_reducible refine And.intro ?_ ?_
          all_goals try (first | omega | decide | (intro y hy; simp only [List.mem_cons, List.not_mem_nil, or_false] at hy; rcases hy with rfl | rfl | rfl | rfl <;> rfl) | (simp only [List.length_cons, List.length_nil]; omega))
          all_goals try (first | omega | rfl | ((with_reducible refine drawGoal ?_); exact rfl) | (simp only [inR]; omega) | (intro y hy; simp only [List.mem_singleton] at hy; subst hy; rfl) | (intro y hy; cases hy; done) | (simp only [List.length_append, List.length_map, List.length_cons, List.length_nil]; omega) | (intro h; simp only [inR]; omega) | (intro h; simp only [List.length_append, List.length_map, List.length_cons, List.length_nil]; omega) | (intro h; exact h.elim))
          refine hq7n _ (hq6n _ (hK5 _ ?_))
          refine PWp.rg [0, 4, 13, 14] orcX6_ok (mv := mv) (by decide) ?_
          simp only [pwr, pr1, mv, Int.reduceLT, Int.reduceSub, Int.reduceNeg, Int.reduceToNat, ne_eq, reduceIte, reduceCtorEq, Nat.reduceEqDiff, Nat.reduceAdd, Nat.reduceMul, Nat.reduceSub, Nat.reduceLT, Nat.reduceLeDiff, Nat.reduceBEq, if_true, if_false, implies_true, Bool.cond_true, Bool.cond_false, orcX6, c36, zf, binShift, Int.reduceToNat, Int.reducePow, Int.toNat_natCast]
          repeat' with_reducible refine And.intro ?_ ?_
          all_goals try (first | omega | rfl | ((with_reducible refine drawGoal ?_); exact rfl) | (simp only [inR]; omega) | (intro y hy; simp only [List.mem_singleton] at hy; subst hy; rfl) | (intro y hy; cases hy; done) | (simp only [List.length_append, List.length_map, List.length_cons, List.length_nil]; omega) | (intro h; simp only [inR]; omega) | (intro h; simp only [List.length_append, List.length_map, List.length_cons, List.length_nil]; omega) | (intro h; exact h.elim))
          refine hJ1 _ (i + 1) ?_ ?_ ?_
          · show i + 1 ≤ s.length
            omega
          · omega
          · repeat simp only [pwf, pf1, reduceIte, reduceCtorEq, Nat.reduceEqDiff, Nat.reduceAdd, Nat.reduceMul, Nat.reduceSub, Nat.reduceLT, Nat.reduceLeDiff, Nat.reduceBEq, if_true, if_false, implies_true, Bool.cond_true, Bool.cond_false, zf, binShift, Int.reduceToNat, Int.reducePow, Int.toNat_natCast]
            rw [es, ← q2]
            simp [hexs]
        ·
         try (cases hb34; done)
         all_goals
          have hno : ¬ (n.val < 32 ∨ 126 < n.val) := by simp only [Bool.or_eq_false_iff, decide_eq_false_iff_not] at hb34; omega
          have q3 := qb3 n (by rw [← hn]; exact hat) hno
          rw [← hn] at q3
          refine PWp.rg [0, 4, 13, 14] orcX6_ok (mv := mv) (by decide) ?_
          simp only [pwr, pr1, mv, Int.reduceLT, Int.reduceSub, Int.reduceNeg, Int.reduceToNat, ne_eq, reduceIte, reduceCtorEq, Nat.reduceEqDiff, Nat.reduceAdd, Nat.reduceMul, Nat.reduceSub, Nat.reduceLT, Nat.reduceLeDiff, Nat.reduceBEq, if_true, if_false, implies_true, Bool.cond_true, Bool.cond_false, orcX6, c36, zf, binShift, Int.reduceToNat, Int.reducePow, Int.toNat_natCast]
          repeat' with_reducible refine And.intro ?_ ?_
          all_goals try (first | omega | rfl | ((with_reducible refine drawGoal ?_); exact rfl) | (simp only [inR]; omega) | (intro y hy; simp only [List.mem_singleton] at hy; subst hy; rfl) | (intro y hy; cases hy; done) | (simp only [List.length_append, List.length_map, List.length_cons, List.length_nil]; omega) | (intro h; simp only [inR]; omega) | (intro h; simp only [List.length_append, List.length_map, List.length_cons, List.length_nil]; omega) | (intro h; exact h.elim))
          refine hq7n _ (hq6n _ (hK5 _ ?_))
          refine PWp.rg [0, 4, 13, 14] orcX6_ok (mv := mv) (by decide) ?_
          simp only [pwr, pr1, mv, Int.reduceLT, Int.reduceSub, Int.reduceNeg, Int.reduceToNat, ne_eq, reduceIte, reduceCtorEq, Nat.reduceEqDiff, Nat.reduceAdd, Nat.reduceMul, Nat.reduceSub, Nat.reduceLT, Nat.reduceLeDiff, Nat.reduceBEq, if_true, if_false, implies_true, Bool.cond_true, Bool.cond_false, orcX6, c36, zf, binShift, Int.reduceToNat, Int.reducePow, Int.toNat_natCast]
          repeat' with_reducible refine And.intro ?_ ?_
          all_goals try (first | omega | rfl | ((with_reducible refine drawGoal ?_); exact rfl) | (simp only [inR]; omega) | (intro y hy; simp only [List.mem_singleton] at hy; subst hy; rfl) | (intro y hy; cases hy; done) | (simp only [List.length_append, List.length_map, List.length_cons, List.length_nil]; omega) | (intro h; simp only [inR]; omega) | (intro h; simp only [List.length_append, List.length_map, List.length_cons, List.length_nil]; omega) | (intro h; exact h.elim))
          refine hJ1 _ (i + 1) ?_ ?_ ?_
          · show i + 1 ≤ s.length
            omega
          · omega
          · repeat simp only [pwf, pf1, reduceIte, reduceCtorEq, Nat.reduceEqDiff, Nat.reduceAdd, Nat.reduceMul, Nat.reduceSub, Nat.reduceLT, Nat.reduceLeDiff, Nat.reduceBEq, if_true, if_false, implies_true, Bool.cond_true, Bool.cond_false, zf, binShift, Int.reduceToNat, Int.reducePow, Int.toNat_natCast]
            rw [es, ← q3]
            simp
    ·
     try (cases hb15; done)
     all_goals
      refine PWp.exit (hq3x _ (hK2 _ ?_))
      have hie : i = s.length := by have := of_decide_eq_false hb15; omega
      have hel := esc_len s
      rw [hie, List.take_length]
      refine PWp.seq_rg [2, 3] orcX6_ok (mv := mv) (by decide) fun K hK => ?_
      simp only [pwr, pr1, mv, Int.reduceLT, Int.reduceSub, Int.reduceNeg, Int.reduceToNat, ne_eq, reduceIte, reduceCtorEq, Nat.reduceEqDiff, Nat.reduceAdd, Nat.reduceMul, Nat.reduceSub, Nat.reduceLT, Nat.reduceLeDiff, Nat.reduceBEq, if_true, if_false, implies_true, Bool.cond_true, Bool.cond_false, orcX6, c36, zf, binShift, Int.reduceToNat, Int.reducePow, Int.toNat_natCast, byteRow_app34]
      repeat' with_reducible refine And.intro ?_ ?_
      all_goals try (first | omega | (simp only [List.length_map, List.length_cons]; omega))
      all_goals try (first | omega | rfl | ((with_reducible refine drawGoal ?_); exact rfl) | (simp only [inR]; omega) | (intro y hy; simp only [List.mem_singleton] at hy; subst hy; rfl) | (intro y hy; cases hy; done) | (simp only [List.length_append, List.length_map, List.length_cons, List.length_nil]; omega) | (intro h; simp only [inR]; omega) | (intro h; simp only [List.length_append, List.length_map, List.length_cons, List.length_nil]; omega) | (intro h; exact h.elim))
      refine hK _ ?_
      clear hK K
      refine PWp.ret (hQ2 _ ?_)
      simp only [pwf, pf1, reduceIte, reduceCtorEq, Nat.reduceEqDiff, Nat.reduceAdd, Nat.reduceMul, Nat.reduceSub, Nat.reduceLT, Nat.reduceLeDiff, Nat.reduceBEq, if_true, if_false, implies_true, Bool.cond_true, Bool.cond_false, zf, binShift, Int.reduceToNat, Int.reducePow, Int.toNat_natCast, Tryd.results20]
      repeat simp only [pwf, pf1, reduceIte, reduceCtorEq, Nat.reduceEqDiff, Nat.reduceAdd, Nat.reduceMul, Nat.reduceSub, Nat.reduceLT, Nat.reduceLeDiff, Nat.reduceBEq, if_true, if_false, implies_true, Bool.cond_true, Bool.cond_false, zf, binShift, Int.reduceToNat, Int.reducePow, Int.toNat_natCast]
      rw [if_neg h2, if_neg h2]
      exact ⟨rfl, rfl⟩
theorem ueq (x n : UInt8) : ((x.toNat : Int) == (n.toNat : Int)) = true ↔ x = n := by
  rw [beq_iff_eq, ← UInt8.toNat_inj]; omega
theorem ueqf {x n : UInt8} (h : ((x.toNat : Int) == (n.toNat : Int)) = false) : x ≠ n := fun e => absurd (h.symm.trans ((ueq x n).2 e)) (by decide)
theorem eb4 {x : UInt8} (h1 : x ≠ 10) (h2 : x ≠ 9) (h3 : x ≠ 0) (h : ((x.toNat : Int) == 92 || (x.toNat : Int) == 34) = true) : escB x = [92, x] := by
  rw [Bool.or_eq_true] at h
  rcases h with h | h
  · have := (ueq x 92).1 h; subst this; rfl
  · have := (ueq x 34).1 h; subst this; rfl
theorem eb5 {x : UInt8} (h1 : x ≠ 10) (h2 : x ≠ 9) (h3 : x ≠ 0) (h : ((x.toNat : Int) == 92 || (x.toNat : Int) == 34) = false) : escB x = if x < 32 ∨ 126 < x then [92, 120, hexD (x / 16), hexD (x % 16)] else [x] := by
  rw [Bool.or_eq_false_iff] at h
  unfold escB
  rw [if_neg h1, if_neg h2, if_neg h3, if_neg (ueqf (n := 92) h.1), if_neg (ueqf (n := 34) h.2)]
theorem hexD_all : ∀ n : Fin 256, [hexD (UInt8.ofNat n.val / 16)] = (hexs.drop (n.val / 16)).take 1 ∧ [hexD (UInt8.ofNat n.val % 16)] = (hexs.drop (n.val % 16)).take 1 := by decide +kernel
theorem t21 (s : Bs) (hs : s.length ≤ 1000000) : PCalls Tryd.prog 21 [(.S 0, .av (.pv (.str s)))] [(.S 0, .av (.tup [.pv (.str (if 200 < s.length then [] else quoteL s)), .pv (.int .i64 (if 200 < s.length then 5 else 0))]))] := by
  refine PCalls.of_k Tryd.func21 (by decide) rfl fun Q hQ1 hQ2 => ?_
  refine PWp.seq_rg [0] orc0_ok (mv := mv) (by decide) fun K hK => ?_
  simp only [pwr, pr1, mv, Int.reduceLT, Int.reduceSub, Int.reduceNeg, Int.reduceToNat, ne_eq, reduceIte, reduceCtorEq, Nat.reduceEqDiff, Nat.reduceAdd, Nat.reduceMul, Nat.reduceSub, Nat.reduceLT, Nat.reduceLeDiff, Nat.reduceBEq, if_true, if_false, implies_true, Bool.cond_true, Bool.cond_false, orc0, zf, Int.toNat_natCast]
  repeat' with_reducible refine And.intro ?_ ?_
  all_goals try (first | omega | rfl | ((with_reducible refine drawGoal ?_); exact rfl) | (simp only [inR]; omega) | (intro y hy; simp only [List.mem_singleton] at hy; subst hy; rfl) | (intro y hy; cases hy; done) | (simp only [List.length_append, List.length_map, List.length_cons, List.length_nil]; omega) | (intro h; simp only [inR]; omega) | (intro h; simp only [List.length_append, List.length_map, List.length_cons, List.length_nil]; omega) | (intro h; exact h.elim))
  refine hK _ ?_
  clear hK K
  refine PWp.seq_k fun K1 hK1 => ?_
  refine PWp.seq_rg [0, 10] orc0_ok (mv := mv) (by decide) fun K hK => ?_
  simp only [pwr, pr1, mv, Int.reduceLT, Int.reduceSub, Int.reduceNeg, Int.reduceToNat, ne_eq, reduceIte, reduceCtorEq, Nat.reduceEqDiff, Nat.reduceAdd, Nat.reduceMul, Nat.reduceSub, Nat.reduceLT, Nat.reduceLeDiff, Nat.reduceBEq, if_true, if_false, implies_true, Bool.cond_true, Bool.cond_false, orc0, zf, Int.toNat_natCast]
  repeat' with_reducible refine And.intro ?_ ?_
  all_goals try (first | omega | rfl | ((with_reducible refine drawGoal ?_); exact rfl) | (simp only [inR]; omega) | (intro y hy; simp only [List.mem_singleton] at hy; subst hy; rfl) | (intro y hy; cases hy; done) | (simp only [List.length_append, List.length_map, List.length_cons, List.length_nil]; omega) | (intro h; simp only [inR]; omega) | (intro h; simp only [List.length_append, List.length_map, List.length_cons, List.length_nil]; omega) | (intro h; exact h.elim))
  refine hK _ ?_
  clear hK K
  refine PWp.cond (by rfl) (fun hb10 => ?_) (fun hb10 => ?_)
  ·
   try (cases hb10; done)
   all_goals
    refine PWp.seq_rg [2, 3] orc0_ok (mv := mv) (by decide) fun K hK => ?_
    simp only [pwr, pr1, mv, Int.reduceLT, Int.reduceSub, Int.reduceNeg, Int.reduceToNat, ne_eq, reduceIte, reduceCtorEq, Nat.reduceEqDiff, Nat.reduceAdd, Nat.reduceMul, Nat.reduceSub, Nat.reduceLT, Nat.reduceLeDiff, Nat.reduceBEq, if_true, if_false, implies_true, Bool.cond_true, Bool.cond_false, orc0, zf, Int.toNat_natCast]
    repeat' with_reducible refine And.intro ?_ ?_
    all_goals try (first | omega | rfl | ((with_reducible refine drawGoal ?_); exact rfl) | (simp only [inR]; omega) | (intro y hy; simp only [List.mem_singleton] at hy; subst hy; rfl) | (intro y hy; cases hy; done) | (simp only [List.length_append, List.length_map, List.length_cons, List.length_nil]; omega) | (intro h; simp only [inR]; omega) | (intro h; simp only [List.length_append, List.length_map, List.length_cons, List.length_nil]; omega) | (intro h; exact h.elim))
    refine hK _ ?_
    clear hK K
    refine PWp.ret (hQ2 _ ?_)
    simp only [pwf, pf1, reduceIte, reduceCtorEq, Nat.reduceEqDiff, Nat.reduceAdd, Nat.reduceMul, Nat.reduceSub, Nat.reduceLT, Nat.reduceLeDiff, Nat.reduceBEq, if_true, if_false, implies_true, Bool.cond_true, Bool.cond_false, zf, Int.toNat_natCast, Tryd.results21]
    repeat simp only [pwf, pf1, reduceIte, reduceCtorEq, Nat.reduceEqDiff, Nat.reduceAdd, Nat.reduceMul, Nat.reduceSub, Nat.reduceLT, Nat.reduceLeDiff, Nat.reduceBEq, if_true, if_false, implies_true, Bool.cond_true, Bool.cond_false, zf, Int.toNat_natCast]
    have h : 200 < s.length := by have := of_decide_eq_true hb10; omega
    simp [h]
  ·
   try (cases hb10; done)
   all_goals
    refine PWp.skip (hK1 _ ?_)
    have h2 : ¬ 200 < s.length := by have := of_decide_eq_false hb10; omega
    refine PWp.seq_rg [0, 4] orc0_ok (mv := mv) (by decide) fun K hK => ?_
    simp only [pwr, pr1, mv, Int.reduceLT, Int.reduceSub, Int.reduceNeg, Int.reduceToNat, ne_eq, reduceIte, reduceCtorEq, Nat.reduceEqDiff, Nat.reduceAdd, Nat.reduceMul, Nat.reduceSub, Nat.reduceLT, Nat.reduceLeDiff, Nat.reduceBEq, if_true, if_false, implies_true, Bool.cond_true, Bool.cond_false, orc0, zf, Int.toNat_natCast]
    repeat' with_reducible refine And.intro ?_ ?_
    all_goals try (first | omega | rfl | ((with_reducible refine drawGoal ?_); exact rfl) | (simp only [inR]; omega) | (intro y hy; simp only [List.mem_singleton] at hy; subst hy; rfl) | (intro y hy; cases hy; done) | (simp only [List.length_append, List.length_map, List.length_cons, List.length_nil]; omega) | (intro h; simp only [inR]; omega) | (intro h; simp only [List.length_append, List.length_map, List.length_cons, List.length_nil]; omega) | (intro h; exact h.elim))
    refine hK _ ?_
    clear hK K
    refine PWp.seq_rg [0, 4, 5] orc0_ok (mv := mv) (by decide) fun K hK => ?_
    simp only [pwr, pr1, mv, Int.reduceLT, Int.reduceSub, Int.reduceNeg, Int.reduceToNat, ne_eq, reduceIte, reduceCtorEq, Nat.reduceEqDiff, Nat.reduceAdd, Nat.reduceMul, Nat.reduceSub, Nat.reduceLT, Nat.reduceLeDiff, Nat.reduceBEq, if_true, if_false, implies_true, Bool.cond_true, Bool.cond_false, orc0, zf, Int.toNat_natCast]
    repeat' with_reducible refine And.intro ?_ ?_
    all_goals try (first | omega | rfl | ((with_reducible refine drawGoal ?_); exact rfl) | (simp only [inR]; omega) | (intro y hy; simp only [List.mem_singleton] at hy; subst hy; rfl) | (intro y hy; cases hy; done) | (simp only [List.length_append, List.length_map, List.length_cons, List.length_nil]; omega) | (intro h; simp only [inR]; omega) | (intro h; simp only [List.length_append, List.length_map, List.length_cons, List.length_nil]; omega) | (intro h; exact h.elim))
    refine hK _ ?_
    clear hK K
    refine PWp.seq_k fun K2 hK2 => ?_
    refine PWp.seq_rg [0, 4, 5, 6] orc0_ok (mv := mv) (by decide) fun K hK => ?_
    simp only [pwr, pr1, mv, Int.reduceLT, Int.reduceSub, Int.reduceNeg, Int.reduceToNat, ne_eq, reduceIte, reduceCtorEq, Nat.reduceEqDiff, Nat.reduceAdd, Nat.reduceMul, Nat.reduceSub, Nat.reduceLT, Nat.reduceLeDiff, Nat.reduceBEq, if_true, if_false, implies_true, Bool.cond_true, Bool.cond_false, orc0, zf, Int.toNat_natCast]
    repeat' with_reducible refine And.intro ?_ ?_
    all_goals try (first | omega | rfl | ((with_reducible refine drawGoal ?_); exact rfl) | (simp only [inR]; omega) | (intro y hy; simp only [List.mem_singleton] at hy; subst hy; rfl) | (intro y hy; cases hy; done) | (simp only [List.length_append, List.length_map, List.length_cons, List.length_nil]; omega) | (intro h; simp only [inR]; omega) | (intro h; simp only [List.length_append, List.length_map, List.length_cons, List.length_nil]; omega) | (intro h; exact h.elim))
    refine hK _ ?_
    clear hK K
    refine PWp.block_k fun Qq3 hq3n hq3x hq3r hq3e => ?_
    refine PWp.loop_k (fun i : Nat => [(.S 0, .av (.pv (.str s))), (.S 4, .av (.pv (.str hexs))), (.S 5, .av (.pv (.str (34 :: escL (s.take i))))), (.S 6, .av (.pv (.int .i64 i)))]) (fun i => i ≤ s.length) (fun i => s.length - i) (0) (Nat.zero_le _) ?_ ?_
    · repeat simp only [pwf, pf1, reduceIte, reduceCtorEq, Nat.reduceEqDiff, Nat.reduceAdd, Nat.reduceMul, Nat.reduceSub, Nat.reduceLT, Nat.reduceLeDiff, Nat.reduceBEq, if_true, if_false, implies_true, Bool.cond_true, Bool.cond_false, zf, Int.toNat_natCast]
      exact ⟨rfl, rfl, rfl⟩
    rintro i hi J1 hJ1
    refine PWp.seq_k fun K4 hK4 => ?_
    refine PWp.seq_rg [0, 4, 5, 6, 14] orc0_ok (mv := mv) (by decide) fun K hK => ?_
    simp only [pwr, pr1, mv, Int.reduceLT, Int.reduceSub, Int.reduceNeg, Int.reduceToNat, ne_eq, reduceIte, reduceCtorEq, Nat.reduceEqDiff, Nat.reduceAdd, Nat.reduceMul, Nat.reduceSub, Nat.reduceLT, Nat.reduceLeDiff, Nat.reduceBEq, if_true, if_false, implies_true, Bool.cond_true, Bool.cond_false, orc0, zf, Int.toNat_natCast]
    repeat' with_reducible refine And.intro ?_ ?_
    all_goals try (first | omega | rfl | ((with_reducible refine drawGoal ?_); exact rfl) | (simp only [inR]; omega) | (intro y hy; simp only [List.mem_singleton] at hy; subst hy; rfl) | (intro y hy; cases hy; done) | (simp only [List.length_append, List.length_map, List.length_cons, List.length_nil]; omega) | (intro h; simp only [inR]; omega) | (intro h; simp only [List.length_append, List.length_map, List.length_cons, List.length_nil]; omega) | (intro h; exact h.elim))
    refine hK _ ?_
    clear hK K
    refine PWp.cond (by rfl) (fun hb14 => ?_) (fun hb14 => ?_)
    ·
     try (cases hb14; done)
     all_goals
      refine PWp.skip (hK4 _ ?_)
      refine PWp.seq_k fun K5 hK5 => ?_
      refine PWp.block_k fun Qq6 hq6n hq6x hq6r hq6e => ?_
      have his : i < s.length := by have := of_decide_eq_true hb14; omega
      obtain ⟨x, hx⟩ : ∃ x, s.getD i 0 = x := ⟨_, rfl⟩
      have hxi : s[i] = x := by rw [← hx, getN his]
      have es := escL_snoc his
      rw [hxi] at es
      have hel := esc_len (s.take i)
      rw [List.length_take] at hel
      obtain ⟨n, hn, hnx⟩ := uFin x
      refine PWp.seq_rg [0, 4, 5, 6, 7] orc0_ok (mv := mv) (by decide) fun K hK => ?_
      simp only [pwr, pr1, mv, Int.reduceLT, Int.reduceSub, Int.reduceNeg, Int.reduceToNat, ne_eq, reduceIte, reduceCtorEq, Nat.reduceEqDiff, Nat.reduceAdd, Nat.reduceMul, Nat.reduceSub, Nat.reduceLT, Nat.reduceLeDiff, Nat.reduceBEq, if_true, if_false, implies_true, Bool.cond_true, Bool.cond_false, orc0, zf, Int.toNat_natCast, hx]
      repeat' with_reducible refine And.intro ?_ ?_
      all_goals try (first | omega | exact ub_bd _ | exact (ub_bd _).1 | exact (ub_bd _).2)
      all_goals try (first | omega | rfl | ((with_reducible refine drawGoal ?_); exact rfl) | (simp only [inR]; omega) | (intro y hy; simp only [List.mem_singleton] at hy; subst hy; rfl) | (intro y hy; cases hy; done) | (simp only [List.length_append, List.length_map, List.length_cons, List.length_nil]; omega) | (intro h; simp only [inR]; omega) | (intro h; simp only [List.length_append, List.length_map, List.length_cons, List.length_nil]; omega) | (intro h; exact h.elim))
      refine hK _ ?_
      clear hK K
      refine PWp.block_l fun Qq7 hq7n hq7x hq7r hq7e => ?_
      refine PWp.seq_rg [0, 4, 5, 6, 7, 25] orc0_ok (mv := mv) (by decide) fun K hK => ?_
      simp only [pwr, pr1, mv, Int.reduceLT, Int.reduceSub, Int.reduceNeg, Int.reduceToNat, ne_eq, reduceIte, reduceCtorEq, Nat.reduceEqDiff, Nat.reduceAdd, Nat.reduceMul, Nat.reduceSub, Nat.reduceLT, Nat.reduceLeDiff, Nat.reduceBEq, if_true, if_false, implies_true, Bool.cond_true, Bool.cond_false, orc0, zf, Int.toNat_natCast]
      repeat' with_reducible refine And.intro ?_ ?_
      all_goals try (first | omega | rfl | ((with_reducible refine drawGoal ?_); exact rfl) | (simp only [inR]; omega) | (intro y hy; simp only [List.mem_singleton] at hy; subst hy; rfl) | (intro y hy; cases hy; done) | (simp only [List.length_append, List.length_map, List.length_cons, List.length_nil]; omega) | (intro h; simp only [inR]; omega) | (intro h; simp only [List.length_append, List.length_map, List.length_cons, List.length_nil]; omega) | (intro h; exact h.elim))
      refine hK _ ?_
      clear hK K
      refine PWp.cond (by rfl) (fun hb25 => ?_) (fun hb25 => ?_)
      ·
       try (cases hb25; done)
       all_goals
        refine PWp.rg [0, 4, 5, 6] orc0_ok (mv := mv) (by decide) ?_
        simp only [pwr, pr1, mv, Int.reduceLT, Int.reduceSub, Int.reduceNeg, Int.reduceToNat, ne_eq, reduceIte, reduceCtorEq, Nat.reduceEqDiff, Nat.reduceAdd, Nat.reduceMul, Nat.reduceSub, Nat.reduceLT, Nat.reduceLeDiff, Nat.reduceBEq, if_true, if_false, implies_true, Bool.cond_true, Bool.cond_false, orc0, zf, Int.toNat_natCast]
        repeat' with_reducible refine And.intro ?_ ?_
        all_goals try (first | omega | rfl | ((with_reducible refine drawGoal ?_); exact rfl) | (simp only [inR]; omega) | (intro y hy; simp only [List.mem_singleton] at hy; subst hy; rfl) | (intro y hy; cases hy; done) | (simp only [List.length_append, List.length_map, List.length_cons, List.length_nil]; omega) | (intro h; simp only [inR]; omega) | (intro h; simp only [List.length_append, List.length_map, List.length_cons, List.length_nil]; omega) | (intro h; exact h.elim))
        refine hq7n _ (hq6n _ (hK5 _ ?_))
        refine PWp.rg [0, 4, 5, 6] orc0_ok (mv := mv) (by decide) ?_
        simp only [pwr, pr1, mv, Int.reduceLT, Int.reduceSub, Int.reduceNeg, Int.reduceToNat, ne_eq, reduceIte, reduceCtorEq, Nat.reduceEqDiff, Nat.reduceAdd, Nat.reduceMul, Nat.reduceSub, Nat.reduceLT, Nat.reduceLeDiff, Nat.reduceBEq, if_true, if_false, implies_true, Bool.cond_true, Bool.cond_false, orc0, zf, Int.toNat_natCast]
        repeat' with_reducible refine And.intro ?_ ?_
        all_goals try (first | omega | rfl | ((with_reducible refine drawGoal ?_); exact rfl) | (simp only [inR]; omega) | (intro y hy; simp only [List.mem_singleton] at hy; subst hy; rfl) | (intro y hy; cases hy; done) | (simp only [List.length_append, List.length_map, List.length_cons, List.length_nil]; omega) | (intro h; simp only [inR]; omega) | (intro h; simp only [List.length_append, List.length_map, List.length_cons, List.length_nil]; omega) | (intro h; exact h.elim))
        refine hJ1 _ (i + 1) ?_ ?_ ?_
        · show i + 1 ≤ s.length
          omega
        · omega
        · repeat simp only [pwf, pf1, reduceIte, reduceCtorEq, Nat.reduceEqDiff, Nat.reduceAdd, Nat.reduceMul, Nat.reduceSub, Nat.reduceLT, Nat.reduceLeDiff, Nat.reduceBEq, if_true, if_false, implies_true, Bool.cond_true, Bool.cond_false, zf, Int.toNat_natCast]
          have hx10 : x = 10 := (ueq x 10).1 hb25
          have e : escB x = [92, 110] := by rw [hx10]; rfl
          rw [es, e]
          simp
      ·
       try (cases hb25; done)
       all_goals
        have n10 : x ≠ 10 := ueqf (n := 10) hb25
        refine PWp.seq_rg [0, 4, 5, 6, 7, 30] orc0_ok (mv := mv) (by decide) fun K hK => ?_
        simp only [pwr, pr1, mv, Int.reduceLT, Int.reduceSub, Int.reduceNeg, Int.reduceToNat, ne_eq, reduceIte, reduceCtorEq, Nat.reduceEqDiff, Nat.reduceAdd, Nat.reduceMul, Nat.reduceSub, Nat.reduceLT, Nat.reduceLeDiff, Nat.reduceBEq, if_true, if_false, implies_true, Bool.cond_true, Bool.cond_false, orc0, zf, Int.toNat_natCast]
        repeat' with_reducible refine And.intro ?_ ?_
        all_goals try (first | omega | rfl | ((with_reducible refine drawGoal ?_); exact rfl) | (simp only [inR]; omega) | (intro y hy; simp only [List.mem_singleton] at hy; subst hy; rfl) | (intro y hy; cases hy; done) | (simp only [List.length_append, List.length_map, List.length_cons, List.length_nil]; omega) | (intro h; simp only [inR]; omega) | (intro h; simp only [List.length_append, List.length_map, List.length_cons, List.length_nil]; omega) | (intro h; exact h.elim))
        refine hK _ ?_
        clear hK K
        refine PWp.cond (by rfl) (fun hb30 => ?_) (fun hb30 => ?_)
        ·
         try (cases hb30; done)
         all_goals
          refine PWp.rg [0, 4, 5, 6] orc0_ok (mv := mv) (by decide) ?_
          simp only [pwr, pr1, mv, Int.reduceLT, Int.reduceSub, Int.reduceNeg, Int.reduceToNat, ne_eq, reduceIte, reduceCtorEq, Nat.reduceEqDiff, Nat.reduceAdd, Nat.reduceMul, Nat.reduceSub, Nat.reduceLT, Nat.reduceLeDiff, Nat.reduceBEq, if_true, if_false, implies_true, Bool.cond_true, Bool.cond_false, orc0, zf, Int.toNat_natCast]
          repeat' with_reducible refine And.intro ?_ ?_
          all_goals try (first | omega | rfl | ((with_reducible refine drawGoal ?_); exact rfl) | (simp only [inR]; omega) | (intro y hy; simp only [List.mem_singleton] at hy; subst hy; rfl) | (intro y hy; cases hy; done) | (simp only [List.length_append, List.length_map, List.length_cons, List.length_nil]; omega) | (intro h; simp only [inR]; omega) | (intro h; simp only [List.length_append, List.length_map, List.length_cons, List.length_nil]; omega) | (intro h; exact h.elim))
          refine hq7n _ (hq6n _ (hK5 _ ?_))
          refine PWp.rg [0, 4, 5, 6] orc0_ok (mv := mv) (by decide) ?_
          simp only [pwr, pr1, mv, Int.reduceLT, Int.reduceSub, Int.reduceNeg, Int.reduceToNat, ne_eq, reduceIte, reduceCtorEq, Nat.reduceEqDiff, Nat.reduceAdd, Nat.reduceMul, Nat.reduceSub, Nat.reduceLT, Nat.reduceLeDiff, Nat.reduceBEq, if_true, if_false, implies_true, Bool.cond_true, Bool.cond_false, orc0, zf, Int.toNat_natCast]
          repeat' with_reducible refine And.intro ?_ ?_
          all_goals try (first | omega | rfl | ((with_reducible refine drawGoal ?_); exact rfl) | (simp only [inR]; omega) | (intro y hy; simp only [List.mem_singleton] at hy; subst hy; rfl) | (intro y hy; cases hy; done) | (simp only [List.length_append, List.length_map, List.length_cons, List.length_nil]; omega) | (intro h; simp only [inR]; omega) | (intro h; simp only [List.length_append, List.length_map, List.length_cons, List.length_nil]; omega) | (intro h; exact h.elim))
          refine hJ1 _ (i + 1) ?_ ?_ ?_
          · show i + 1 ≤ s.length
            omega
          · omega
          · repeat simp only [pwf, pf1, reduceIte, reduceCtorEq, Nat.reduceEqDiff, Nat.reduceAdd, Nat.reduceMul, Nat.reduceSub, Nat.reduceLT, Nat.reduceLeDiff, Nat.reduceBEq, if_true, if_false, implies_true, Bool.cond_true, Bool.cond_false, zf, Int.toNat_natCast]
            have hx9 : x = 9 := (ueq x 9).1 hb30
            have e : escB x = [92, 116] := by rw [hx9]; rfl
            rw [es, e]
            simp
        ·
         try (cases hb30; done)
         all_goals
          have n9 : x ≠ 9 := ueqf (n := 9) hb30
          refine PWp.seq_rg [0, 4, 5, 6, 7, 35] orc0_ok (mv := mv) (by decide) fun K hK => ?_
          simp only [pwr, pr1, mv, Int.reduceLT, Int.reduceSub, Int.reduceNeg, Int.reduceToNat, ne_eq, reduceIte, reduceCtorEq, Nat.reduceEqDiff, Nat.reduceAdd, Nat.reduceMul, Nat.reduceSub, Nat.reduceLT, Nat.reduceLeDiff, Nat.reduceBEq, if_true, if_false, implies_true, Bool.cond_true, Bool.cond_false, orc0, zf, Int.toNat_natCast]
          repeat' with_reducible refine And.intro ?_ ?_
          all_goals try (first | omega | rfl | ((with_reducible refine drawGoal ?_); exact rfl) | (simp only [inR]; omega) | (intro y hy; simp only [List.mem_singleton] at hy; subst hy; rfl) | (intro y hy; cases hy; done) | (simp only [List.length_append, List.length_map, List.length_cons, List.length_nil]; omega) | (intro h; simp only [inR]; omega) | (intro h; simp only [List.length_append, List.length_map, List.length_cons, List.length_nil]; omega) | (intro h; exact h.elim))
          refine hK _ ?_
          clear hK K
          refine PWp.cond (by rfl) (fun hb35 => ?_) (fun hb35 => ?_)
          ·
           try (cases hb35; done)
           all_goals
            refine PWp.rg [0, 4, 5, 6] orc0_ok (mv := mv) (by decide) ?_
            simp only [pwr, pr1, mv, Int.reduceLT, Int.reduceSub, Int.reduceNeg, Int.reduceToNat, ne_eq, reduceIte, reduceCtorEq, Nat.reduceEqDiff, Nat.reduceAdd, Nat.reduceMul, Nat.reduceSub, Nat.reduceLT, Nat.reduceLeDiff, Nat.reduceBEq, if_true, if_false, implies_true, Bool.cond_true, Bool.cond_false, orc0, zf, Int.toNat_natCast]
            repeat' with_reducible refine And.intro ?_ ?_
            all_goals try (first | omega | rfl | ((with_reducible refine drawGoal ?_); exact rfl) | (simp only [inR]; omega) | (intro y hy; simp only [List.mem_singleton] at hy; subst hy; rfl) | (intro y hy; cases hy; done) | (simp only [List.length_append, List.length_map, List.length_cons, List.length_nil]; omega) | (intro h; simp only [inR]; omega) | (intro h; simp only [List.length_append, List.length_map, List.length_cons, List.length_nil]; omega) | (intro h; exact h.elim))
            refine hq7n _ (hq6n _ (hK5 _ ?_))
            refine PWp.rg [0, 4, 5, 6] orc0_ok (mv := mv) (by decide) ?_
            simp only [pwr, pr1, mv, Int.reduceLT, Int.reduceSub, Int.reduceNeg, Int.reduceToNat, ne_eq, reduceIte, reduceCtorEq, Nat.reduceEqDiff, Nat.reduceAdd, Nat.reduceMul, Nat.reduceSub, Nat.reduceLT, Nat.reduceLeDiff, Nat.reduceBEq, if_true, if_false, implies_true, Bool.cond_true, Bool.cond_false, orc0, zf, Int.toNat_natCast]
            repeat' with_reducible refine And.intro ?_ ?_
            all_goals try (first | omega | rfl | ((with_reducible refine drawGoal ?_); exact rfl) | (simp only [inR]; omega) | (intro y hy; simp only [List.mem_singleton] at hy; subst hy; rfl) | (intro y hy; cases hy; done) | (simp only [List.length_append, List.length_map, List.length_cons, List.length_nil]; omega) | (intro h; simp only [inR]; omega) | (intro h; simp only [List.length_append, List.length_map, List.length_cons, List.length_nil]; omega) | (intro h; exact h.elim))
            refine hJ1 _ (i + 1) ?_ ?_ ?_
            · show i + 1 ≤ s.length
              omega
            · omega
            · repeat simp only [pwf, pf1, reduceIte, reduceCtorEq, Nat.reduceEqDiff, Nat.reduceAdd, Nat.reduceMul, Nat.reduceSub, Nat.reduceLT, Nat.reduceLeDiff, Nat.reduceBEq, if_true, if_false, implies_true, Bool.cond_true, Bool.cond_false, zf, Int.toNat_natCast]
              have hx0 : x = 0 := (ueq x 0).1 hb35
              have e : escB x = [92, 48] := by rw [hx0]; rfl
              rw [es, e]
              simp
          ·
           try (cases hb35; done)
           all_goals
            have n0 : x ≠ 0 := ueqf (n := 0) hb35
            refine PWp.seq_rg [0, 4, 5, 6, 7, 40] orc0_ok (mv := mv) (by decide) fun K hK => ?_
            simp only [pwr, pr1, mv, Int.reduceLT, Int.reduceSub, Int.reduceNeg, Int.reduceToNat, ne_eq, reduceIte, reduceCtorEq, Nat.reduceEqDiff, Nat.reduceAdd, Nat.reduceMul, Nat.reduceSub, Nat.reduceLT, Nat.reduceLeDiff, Nat.reduceBEq, if_true, if_false, implies_true, Bool.cond_true, Bool.cond_false, orc0, zf, Int.toNat_natCast]
            repeat' with_reducible refine And.intro ?_ ?_
            all_goals try (first | omega | rfl | ((with_reducible refine drawGoal ?_); exact rfl) | (simp only [inR]; omega) | (intro y hy; simp only [List.mem_singleton] at hy; subst hy; rfl) | (intro y hy; cases hy; done) | (simp only [List.length_append, List.length_map, List.length_cons, List.length_nil]; omega) | (intro h; simp only [inR]; omega) | (intro h; simp only [List.length_append, List.length_map, List.length_cons, List.length_nil]; omega) | (intro h; exact h.elim))
            refine hK _ ?_
            clear hK K
            refine PWp.cond (by rfl) (fun hb40 => ?_) (fun hb40 => ?_)
            ·
             try (cases hb40; done)
             all_goals
              refine PWp.rg [0, 4, 5, 6] orc0_ok (mv := mv) (by decide) ?_
              simp only [pwr, pr1, mv, Int.reduceLT, Int.reduceSub, Int.reduceNeg, Int.reduceToNat, ne_eq, reduceIte, reduceCtorEq, Nat.reduceEqDiff, Nat.reduceAdd, Nat.reduceMul, Nat.reduceSub, Nat.reduceLT, Nat.reduceLeDiff, Nat.reduceBEq, if_true, if_false, implies_true, Bool.cond_true, Bool.cond_false, orc0, zf, Int.toNat_natCast]
              repeat' with_reducible refine And.intro ?_ ?_
              all_goals try (first | omega | rfl | ((with_reducible refine drawGoal ?_); exact rfl) | (simp only [inR]; omega) | (intro y hy; simp only [List.mem_singleton] at hy; subst hy; rfl) | (intro y hy; cases hy; done) | (simp only [List.length_append, List.length_map, List.length_cons, List.length_nil]; omega) | (intro h; simp only [inR]; omega) | (intro h; simp only [List.length_append, List.length_map, List.length_cons, List.length_nil]; omega) | (intro h; exact h.elim))
              refine hq7n _ (hq6n _ (hK5 _ ?_))
              refine PWp.rg [0, 4, 5, 6] orc0_ok (mv := mv) (by decide) ?_
              simp only [pwr, pr1, mv, Int.reduceLT, Int.reduceSub, Int.reduceNeg, Int.reduceToNat, ne_eq, reduceIte, reduceCtorEq, Nat.reduceEqDiff, Nat.reduceAdd, Nat.reduceMul, Nat.reduceSub, Nat.reduceLT, Nat.reduceLeDiff, Nat.reduceBEq, if_true, if_false, implies_true, Bool.cond_true, Bool.cond_false, orc0, zf, Int.toNat_natCast]
              repeat' with_reducible refine And.intro ?_ ?_
              all_goals try (first | omega | rfl | ((with_reducible refine drawGoal ?_); exact rfl) | (simp only [inR]; omega) | (intro y hy; simp only [List.mem_singleton] at hy; subst hy; rfl) | (intro y hy; cases hy; done) | (simp only [List.length_append, List.length_map, List.length_cons, List.length_nil]; omega) | (intro h; simp only [inR]; omega) | (intro h; simp only [List.length_append, List.length_map, List.length_cons, List.length_nil]; omega) | (intro h; exact h.elim))
              refine hJ1 _ (i + 1) ?_ ?_ ?_
              · show i + 1 ≤ s.length
                omega
              · omega
              · repeat simp only [pwf, pf1, reduceIte, reduceCtorEq, Nat.reduceEqDiff, Nat.reduceAdd, Nat.reduceMul, Nat.reduceSub, Nat.reduceLT, Nat.reduceLeDiff, Nat.reduceBEq, if_true, if_false, implies_true, Bool.cond_true, Bool.cond_false, zf, Int.toNat_natCast]
                rw [es, eb4 n10 n9 n0 hb40]
                simp
            ·
             try (cases hb40; done)
             all_goals
              have e5 := eb5 n10 n9 n0 hb40
              refine PWp.seq_rg [0, 4, 5, 6, 7, 53] orc0_ok (mv := mv) (by decide) fun K hK => ?_
              simp only [pwr, pr1, mv, Int.reduceLT, Int.reduceSub, Int.reduceNeg, Int.reduceToNat, ne_eq, reduceIte, reduceCtorEq, Nat.reduceEqDiff, Nat.reduceAdd, Nat.reduceMul, Nat.reduceSub, Nat.reduceLT, Nat.reduceLeDiff, Nat.reduceBEq, if_true, if_false, implies_true, Bool.cond_true, Bool.cond_false, orc0, zf, Int.toNat_natCast]
              repeat' with_reducible refine And.intro ?_ ?_
              all_goals try (first | omega | rfl | ((with_reducible refine drawGoal ?_); exact rfl) | (simp only [inR]; omega) | (intro y hy; simp only [List.mem_singleton] at hy; subst hy; rfl) | (intro y hy; cases hy; done) | (simp only [List.length_append, List.length_map, List.length_cons, List.length_nil]; omega) | (intro h; simp only [inR]; omega) | (intro h; simp only [List.length_append, List.length_map, List.length_cons, List.length_nil]; omega) | (intro h; exact h.elim))
              refine hK _ ?_
              clear hK K
              refine PWp.cond (by rfl) (fun hb53 => ?_) (fun hb53 => ?_)
              ·
               try (cases hb53; done)
               all_goals
                have hyes : x < 32 ∨ 126 < x := by
                  simp only [UInt8.lt_iff_toNat_lt, UInt8.reduceToNat]
                  simp only [Bool.or_eq_true, decide_eq_true_eq] at hb53
                  omega
                rw [if_pos hyes] at e5
                obtain ⟨d1, d2⟩ := hexD_all n
                rw [← hn, hnx] at d1 d2
                have hu := ub_bd x
                have hh : hexs.length = 16 := rfl
                have e1 : ((x.toNat : Int) / 16).toNat = x.toNat / 16 := by omega
                have e2 : ((x.toNat : Int) / 16 + 1).toNat = x.toNat / 16 + 1 := by omega
                have e3 : ((x.toNat : Int) % 16).toNat = x.toNat % 16 := by omega
                have e4 : ((x.toNat : Int) % 16 + 1).toNat = x.toNat % 16 + 1 := by omega
                have d3 : (hexs.take (x.toNat / 16 + 1)).drop (x.toNat / 16) = [hexD (x / 16)] := by rw [List.drop_take, Nat.add_sub_cancel_left]; exact d1.symm
                have d4 : (hexs.take (x.toNat % 16 + 1)).drop (x.toNat % 16) = [hexD (x % 16)] := by rw [List.drop_take, Nat.add_sub_cancel_left]; exact d2.symm
                refine PWp.dr [0, 4, 5, 6] mixed orc0_ok (mv := mv) (by decide) ?_
                simp only [pwr, pr1, mv, Int.reduceLT, Int.reduceSub, Int.reduceNeg, Int.reduceToNat, ne_eq, reduceIte, reduceCtorEq, Nat.reduceEqDiff, Nat.reduceAdd, Nat.reduceMul, Nat.reduceSub, Nat.reduceLT, Nat.reduceLeDiff, Nat.reduceBEq, if_true, if_false, implies_true, Bool.cond_true, Bool.cond_false, orc0, zf, Int.toNat_natCast, hh, e1, e2, e3, e4, d3, d4]
                repeat' with_reducible refine And.intro ?_ ?_
                all_goals try (first | omega | (simp only [inR]; omega))
                all_goals try (first | omega | rfl | ((with_reducible refine drawGoal ?_); exact rfl) | (simp only [inR]; omega) | (intro y hy; simp only [List.mem_singleton] at hy; subst hy; rfl) | (intro y hy; cases hy; done) | (simp only [List.length_append, List.length_map, List.length_cons, List.length_nil]; omega) | (intro h; simp only [inR]; omega) | (intro h; simp only [List.length_append, List.length_map, List.length_cons, List.length_nil]; omega) | (intro h; exact h.elim))
                refine hq7n _ (hq6n _ (hK5 _ ?_))
                refine PWp.rg [0, 4, 5, 6] orc0_ok (mv := mv) (by decide) ?_
                simp only [pwr, pr1, mv, Int.reduceLT, Int.reduceSub, Int.reduceNeg, Int.reduceToNat, ne_eq, reduceIte, reduceCtorEq, Nat.reduceEqDiff, Nat.reduceAdd, Nat.reduceMul, Nat.reduceSub, Nat.reduceLT, Nat.reduceLeDiff, Nat.reduceBEq, if_true, if_false, implies_true, Bool.cond_true, Bool.cond_false, orc0, zf, Int.toNat_natCast]
                repeat' with_reducible refine And.intro ?_ ?_
                all_goals try (first | omega | rfl | ((with_reducible refine drawGoal ?_); exact rfl) | (simp only [inR]; omega) | (intro y hy; simp only [List.mem_singleton] at hy; subst hy; rfl) | (intro y hy; cases hy; done) | (simp only [List.length_append, List.length_map, List.length_cons, List.length_nil]; omega) | (intro h; simp only [inR]; omega) | (intro h; simp only [List.length_append, List.length_map, List.length_cons, List.length_nil]; omega) | (intro h; exact h.elim))
                refine hJ1 _ (i + 1) ?_ ?_ ?_
                · show i + 1 ≤ s.length
                  omega
                · omega
                · repeat simp only [pwf, pf1, reduceIte, reduceCtorEq, Nat.reduceEqDiff, Nat.reduceAdd, Nat.reduceMul, Nat.reduceSub, Nat.reduceLT, Nat.reduceLeDiff, Nat.reduceBEq, if_true, if_false, implies_true, Bool.cond_true, Bool.cond_false, zf, Int.toNat_natCast]
                  rw [es, e5]
                  simp
              ·
               try (cases hb53; done)
               all_goals
                have hno : ¬ (x < 32 ∨ 126 < x) := by
                  simp only [UInt8.lt_iff_toNat_lt, UInt8.reduceToNat]
                  simp only [Bool.or_eq_false_iff, decide_eq_false_iff_not] at hb53
                  omega
                rw [if_neg hno] at e5
                refine PWp.rg [0, 4, 5, 6] orc0_ok (mv := mv) (by decide) ?_
                simp only [pwr, pr1, mv, Int.reduceLT, Int.reduceSub, Int.reduceNeg, Int.reduceToNat, ne_eq, reduceIte, reduceCtorEq, Nat.reduceEqDiff, Nat.reduceAdd, Nat.reduceMul, Nat.reduceSub, Nat.reduceLT, Nat.reduceLeDiff, Nat.reduceBEq, if_true, if_false, implies_true, Bool.cond_true, Bool.cond_false, orc0, zf, Int.toNat_natCast]
                repeat' with_reducible refine And.intro ?_ ?_
                all_goals try (first | omega | rfl | ((with_reducible refine drawGoal ?_); exact rfl) | (simp only [inR]; omega) | (intro y hy; simp only [List.mem_singleton] at hy; subst hy; rfl) | (intro y hy; cases hy; done) | (simp only [List.length_append, List.length_map, List.length_cons, List.length_nil]; omega) | (intro h; simp only [inR]; omega) | (intro h; simp only [List.length_append, List.length_map, List.length_cons, List.length_nil]; omega) | (intro h; exact h.elim))
                refine hq7n _ (hq6n _ (hK5 _ ?_))
                refine PWp.rg [0, 4, 5, 6] orc0_ok (mv := mv) (by decide) ?_
                simp only [pwr, pr1, mv, Int.reduceLT, Int.reduceSub, Int.reduceNeg, Int.reduceToNat, ne_eq, reduceIte, reduceCtorEq, Nat.reduceEqDiff, Nat.reduceAdd, Nat.reduceMul, Nat.reduceSub, Nat.reduceLT, Nat.reduceLeDiff, Nat.reduceBEq, if_true, if_false, implies_true, Bool.cond_true, Bool.cond_false, orc0, zf, Int.toNat_natCast]
                repeat' with_reducible refine And.intro ?_ ?_
                all_goals try (first | omega | rfl | ((with_reducible refine drawGoal ?_); exact rfl) | (simp only [inR]; omega) | (intro y hy; simp only [List.mem_singleton] at hy; subst hy; rfl) | (intro y hy; cases hy; done) | (simp only [List.length_append, List.length_map, List.length_cons, List.length_nil]; omega) | (intro h; simp only [inR]; omega) | (intro h; simp only [List.length_append, List.length_map, List.length_cons, List.length_nil]; omega) | (intro h; exact h.elim))
                refine hJ1 _ (i + 1) ?_ ?_ ?_
                · show i + 1 ≤ s.length
                  omega
                · omega
                · repeat simp only [pwf, pf1, reduceIte, reduceCtorEq, Nat.reduceEqDiff, Nat.reduceAdd, Nat.reduceMul, Nat.reduceSub, Nat.reduceLT, Nat.reduceLeDiff, Nat.reduceBEq, if_true, if_false, implies_true, Bool.cond_true, Bool.cond_false, zf, Int.toNat_natCast]
                  rw [es, e5]
                  simp
    ·
     try (cases hb14; done)
     all_goals
      refine PWp.exit (hq3x _ (hK2 _ ?_))
      have hie : i = s.length := by have := of_decide_eq_false hb14; omega
      have hel := esc_len s
      rw [hie, List.take_length]
      refine PWp.seq_rg [2, 3] orc0_ok (mv := mv) (by decide) fun K hK => ?_
      simp only [pwr, pr1, mv, Int.reduceLT, Int.reduceSub, Int.reduceNeg, Int.reduceToNat, ne_eq, reduceIte, reduceCtorEq, Nat.reduceEqDiff, Nat.reduceAdd, Nat.reduceMul, Nat.reduceSub, Nat.reduceLT, Nat.reduceLeDiff, Nat.reduceBEq, if_true, if_false, implies_true, Bool.cond_true, Bool.cond_false, orc0, zf, Int.toNat_natCast]
      repeat' with_reducible refine And.intro ?_ ?_
      all_goals try (first | omega | (simp only [List.length_cons]; omega))
      all_goals try (first | omega | rfl | ((with_reducible refine drawGoal ?_); exact rfl) | (simp only [inR]; omega) | (intro y hy; simp only [List.mem_singleton] at hy; subst hy; rfl) | (intro y hy; cases hy; done) | (simp only [List.length_append, List.length_map, List.length_cons, List.length_nil]; omega) | (intro h; simp only [inR]; omega) | (intro h; simp only [List.length_append, List.length_map, List.length_cons, List.length_nil]; omega) | (intro h; exact h.elim))
      refine hK _ ?_
      clear hK K
      refine PWp.ret (hQ2 _ ?_)
      simp only [pwf, pf1, reduceIte, reduceCtorEq, Nat.reduceEqDiff, Nat.reduceAdd, Nat.reduceMul, Nat.reduceSub, Nat.reduceLT, Nat.reduceLeDiff, Nat.reduceBEq, if_true, if_false, implies_true, Bool.cond_true, Bool.cond_false, zf, Int.toNat_natCast, Tryd.results21]
      repeat simp only [pwf, pf1, reduceIte, reduceCtorEq, Nat.reduceEqDiff, Nat.reduceAdd, Nat.reduceMul, Nat.reduceSub, Nat.reduceLT, Nat.reduceLeDiff, Nat.reduceBEq, if_true, if_false, implies_true, Bool.cond_true, Bool.cond_false, zf, Int.toNat_natCast]
      rw [if_neg h2, if_neg h2]
      exact ⟨rfl, rfl⟩
end Go.Pw.L21
