/- The lexer: the value of a number. -/
import Derived.Test.YtgnedmmecmpnpaaGreatDoorPuSD
set_option linter.unusedSimpArgs false
set_option linter.unusedVariables false
set_option linter.unusedSectionVars false
set_option maxHeartbeats 4000000
set_option maxRecDepth 20000
namespace Go.Pw.L21
open Go.Proofs Go.Pw
def c183 : St → Option (Prop × St)
  | [(.S 0, .av (.pv (.int .u8 n)))] => some (0 ≤ n ∧ n < 256, [(.S 0, .av (.pv (.int .i64 (hexV (uOf n)))))])
  | _ => none
theorem p183 {In Ret : St} {pre : Prop} (h : c183 In = some (pre, Ret)) (hp : pre) : PCalls Tryz.prog 183 In Ret := by
  unfold c183 at h
  split at h
  · rename_i n
    cases h
    have := t90 (uOf n)
    rw [ub, ← of_uOf hp] at this
    exact this
  · cases h
def c182 : St → Option (Prop × St)
  | [(.S 0, .av (.pv (.str s))), (.S 1, .av (.pv (.str p)))] => some (s.length ≤ 1000000, [(.S 0, .av (.tup [.pv (.str (if s.take p.length = p then s.drop p.length else s)), .pv (.bool (decide (s.take p.length = p)))]))])
  | _ => none
theorem p182 {In Ret : St} {pre : Prop} (h : c182 In = some (pre, Ret)) (hp : pre) : PCalls Tryz.prog 182 In Ret := by
  unfold c182 at h
  split at h
  · cases h; exact t89 _ _ hp
  · cases h
theorem hexV_lt (c : UInt8) : hexV c ≤ 15 := by
  unfold hexV digitB
  split
  · rename_i h
    simp only [Bool.and_eq_true, decide_eq_true_eq, UInt8.le_iff_toNat_le, UInt8.reduceToNat] at h
    omega
  · split
    · rename_i h
      simp only [Bool.and_eq_true, decide_eq_true_eq, UInt8.le_iff_toNat_le, UInt8.reduceToNat] at h
      omega
    · omega
def hexW (s : Bs) : Int := s.foldl (fun n c => IntKind.i64.wrap (n * 16) + hexV c) 0
theorem hexW_snoc {s : Bs} {i : Nat} (h : i < s.length) : hexW (s.take (i + 1)) = IntKind.i64.wrap (hexW (s.take i) * 16) + hexV s[i] := by
  unfold hexW
  rw [List.take_succ_eq_append_getElem h, List.foldl_append]
  rfl
theorem wrap_eq (x : Int) : IntKind.i64.wrap x = if x % 18446744073709551616 ≥ 9223372036854775808 then x % 18446744073709551616 - 18446744073709551616 else x % 18446744073709551616 := by
  simp [IntKind.wrap, IntKind.signed, IntKind.bits]
theorem wrap16 (x : Int) {d : Int} (h0 : 0 ≤ d) (h1 : d ≤ 15) : inR .i64 (IntKind.i64.wrap (x * 16) + d) := by
  rw [wrap_eq]
  simp only [inR]
  split <;> omega
theorem hexL_none : ∀ {s : Bs} {n : Int}, (∃ b ∈ s, hexV b < 0) → hexL s n = none
  | [], _, h => by obtain ⟨_, h, _⟩ := h; cases h
  | c :: s, n, h => by
    rw [hexL]
    split
    · rfl
    · rename_i hc
      obtain ⟨b, hb, hn⟩ := h
      rcases List.mem_cons.1 hb with rfl | hb
      · exact absurd hn hc
      · exact hexL_none ⟨b, hb, hn⟩
theorem hexL_some : ∀ {s : Bs} {n : Int}, (∀ b ∈ s, ¬ hexV b < 0) → ∃ m, hexL s n = some m
  | [], n, h => ⟨n, rfl⟩
  | c :: s, n, h => by
    rw [hexL, if_neg (h c (by simp))]
    exact hexL_some fun b hb => h b (by simp [hb])
theorem hexL_fold : ∀ {s : Bs} {n : Int} {k : Nat}, (∀ b ∈ s, ¬ hexV b < 0) → 0 ≤ n → n < 16 ^ k → s.length + k ≤ 8 → hexL s n = some (s.foldl (fun n c => IntKind.i64.wrap (n * 16) + hexV c) n)
  | [], n, k, _, _, _, _ => rfl
  | c :: s, n, k, h, h0, h1, h2 => by
    have hc := h c (by simp)
    have hc15 := hexV_lt c
    simp only [List.length_cons] at h2
    have hp : (16 : Int) ^ (k + 1) ≤ 16 ^ 8 := by exact_mod_cast Nat.pow_le_pow_right (n := 16) (by omega) (show k + 1 ≤ 8 by omega)
    have hk : (16 : Int) ^ (k + 1) = 16 ^ k * 16 := Int.pow_succ 16 k
    have e8 : (16 : Int) ^ 8 = 4294967296 := by decide
    have hw : IntKind.i64.wrap (n * 16) = n * 16 := wrap_inR (by simp only [inR]; omega)
    rw [hexL, if_neg hc, List.foldl_cons, hw]
    exact hexL_fold (k := k + 1) (fun b hb => h b (by simp [hb])) (by omega) (by omega) (by omega)
def decW (s : Bs) (n : Int) : Int := s.foldl (fun n c => min (n * 10 + ((c.toNat : Int) - 48)) 4294967296) n
theorem decW_snoc {s : Bs} {i : Nat} (h : i < s.length) (n : Int) : decW (s.take (i + 1)) n = min (decW (s.take i) n * 10 + ((s[i].toNat : Int) - 48)) 4294967296 := by
  unfold decW
  rw [List.take_succ_eq_append_getElem h, List.foldl_append]
  rfl
theorem digitB_bd {c : UInt8} (h : digitB c = true) : 48 ≤ (c.toNat : Int) ∧ (c.toNat : Int) ≤ 57 := by
  unfold digitB at h
  simp only [Bool.and_eq_true, decide_eq_true_eq, UInt8.le_iff_toNat_le, UInt8.reduceToNat] at h
  omega
theorem decW_bd : ∀ {s : Bs} {n : Int}, (∀ b ∈ s, digitB b = true) → 0 ≤ n → n ≤ 4294967296 → 0 ≤ decW s n ∧ decW s n ≤ 4294967296
  | [], n, _, h0, h1 => ⟨h0, h1⟩
  | c :: s, n, h, h0, h1 => by
    have hc := digitB_bd (h c (by simp))
    exact decW_bd (s := s) (n := min (n * 10 + ((c.toNat : Int) - 48)) 4294967296) (fun b hb => h b (by simp [hb])) (by omega) (by omega)
theorem decL_some : ∀ {s : Bs} {n : Int}, (∀ b ∈ s, digitB b = true) → decL s n = some (decW s n)
  | [], n, _ => rfl
  | c :: s, n, h => by
    rw [decL, if_pos (h c (by simp)), decL_some fun b hb => h b (by simp [hb])]
    rfl
theorem decL_none : ∀ {s : Bs} {n : Int}, (∃ b ∈ s, digitB b = false) → decL s n = none
  | [], _, h => by obtain ⟨_, h, _⟩ := h; cases h
  | c :: s, n, h => by
    rw [decL]
    split
    · rename_i hc
      obtain ⟨b, hb, hn⟩ := h
      rcases List.mem_cons.1 hb with rfl | hb
      · rw [hc] at hn; cases hn
      · exact decL_none ⟨b, hb, hn⟩
    · rfl
theorem getN {s : Bs} {i : Nat} (h : i < s.length) : s.getD i 0 = s[i] := getD_at h
theorem zero_head {w : Bs} (hw : w ≠ []) : (((w.getD 0 0).toNat : Int) == 48 && decide (1 < (w.length : Int))) = true ↔ w.head? = some 48 ∧ 1 < w.length := by
  cases w with
  | nil => exact absurd rfl hw
  | cons c w =>
    have e : (c :: w).getD 0 0 = c := rfl
    rw [e]
    simp only [Bool.and_eq_true, beq_iff_eq, decide_eq_true_eq, List.head?_cons, Option.some.injEq, ← UInt8.toNat_inj, UInt8.reduceToNat]
    omega
def orcV1 : Orc := fun f In => if f = 163 then c163 In else if f = 182 then c182 In else if f = 183 then c183 In else none
theorem orcV1_ok : OrcOk Tryz.prog orcV1 := by
  intro f In pre Ret h hp
  unfold orcV1 at h
  split at h
  · subst f; exact p163 h hp
  split at h
  · subst f; exact p182 h hp
  split at h
  · subst f; exact p183 h hp
  cases h
theorem t74 (w : Bs) (hw : w ≠ []) (hs : w.length ≤ 100000) : PCalls Tryz.prog 164 [(.S 0, .av (.pv (.str w)))] [(.S 0, .av (.tup [.pv (.int .i64 (value w).1), .pv (.int .i64 (value w).2)]))] := by
  refine PCalls.of_k Tryz.func164 (by decide) rfl fun Q hQ1 hQ2 => ?_
  refine PWp.seq_rg [0] orcV1_ok (mv := mv) (by decide) fun K hK => ?_
  simp only [pwr, pr1, mv, Int.reduceLT, Int.reduceSub, Int.reduceNeg, Int.reduceToNat, ne_eq, reduceIte, reduceCtorEq, Nat.reduceEqDiff, Nat.reduceAdd, Nat.reduceMul, Nat.reduceSub, Nat.reduceLT, Nat.reduceLeDiff, Nat.reduceBEq, if_true, if_false, implies_true, Bool.cond_true, Bool.cond_false, orcV1, c163, c182, c183, uOf_toNat, zf, binShift, Int.reduceToNat, Int.reducePow]
  repeat' with_reducible refine And.intro ?_ ?_
  all_goals try (first | omega | rfl | ((with_reducible refine drawGoal ?_); exact rfl) | (simp only [inR]; omega) | (intro y hy; simp only [List.mem_singleton] at hy; subst hy; rfl) | (intro y hy; cases hy; done) | (simp only [List.length_append, List.length_map, List.length_cons, List.length_nil]; omega) | (intro h; simp only [inR]; omega) | (intro h; simp only [List.length_append, List.length_map, List.length_cons, List.length_nil]; omega) | (intro h; exact h.elim))
  refine hK _ ?_
  clear hK K
  refine PWp.seq_rg [0, 4] orcV1_ok (mv := mv) (by decide) fun K hK => ?_
  simp only [pwr, pr1, mv, Int.reduceLT, Int.reduceSub, Int.reduceNeg, Int.reduceToNat, ne_eq, reduceIte, reduceCtorEq, Nat.reduceEqDiff, Nat.reduceAdd, Nat.reduceMul, Nat.reduceSub, Nat.reduceLT, Nat.reduceLeDiff, Nat.reduceBEq, if_true, if_false, implies_true, Bool.cond_true, Bool.cond_false, orcV1, c163, c182, c183, uOf_toNat, zf, binShift, Int.reduceToNat, Int.reducePow]
  repeat' with_reducible refine And.intro ?_ ?_
  all_goals try (first | omega | rfl | ((with_reducible refine drawGoal ?_); exact rfl) | (simp only [inR]; omega) | (intro y hy; simp only [List.mem_singleton] at hy; subst hy; rfl) | (intro y hy; cases hy; done) | (simp only [List.length_append, List.length_map, List.length_cons, List.length_nil]; omega) | (intro h; simp only [inR]; omega) | (intro h; simp only [List.length_append, List.length_map, List.length_cons, List.length_nil]; omega) | (intro h; exact h.elim))
  refine hK _ ?_
  clear hK K
  refine PWp.seq_k fun K1 hK1 => ?_
  obtain ⟨h, hh⟩ : ∃ h, (if w.take 2 = [48, 120] then w.drop 2 else w) = h := ⟨_, rfl⟩
  have hhl : h.length ≤ 100000 := by
    rw [← hh]
    split
    · rw [List.length_drop]; omega
    · exact hs
  obtain ⟨is, his⟩ : ∃ is, decide (w.take 2 = [48, 120]) = is := ⟨_, rfl⟩
  refine PWp.seq_rg [0, 4, 5, 6] orcV1_ok (mv := mv) (by decide) fun K hK => ?_
  simp only [pwr, pr1, mv, Int.reduceLT, Int.reduceSub, Int.reduceNeg, Int.reduceToNat, ne_eq, reduceIte, reduceCtorEq, Nat.reduceEqDiff, Nat.reduceAdd, Nat.reduceMul, Nat.reduceSub, Nat.reduceLT, Nat.reduceLeDiff, Nat.reduceBEq, if_true, if_false, implies_true, Bool.cond_true, Bool.cond_false, orcV1, c163, c182, c183, uOf_toNat, zf, binShift, Int.reduceToNat, Int.reducePow, hh, his]
  repeat' with_reducible refine And.intro ?_ ?_
  all_goals try (omega)
  all_goals try (first | omega | rfl | ((with_reducible refine drawGoal ?_); exact rfl) | (simp only [inR]; omega) | (intro y hy; simp only [List.mem_singleton] at hy; subst hy; rfl) | (intro y hy; cases hy; done) | (simp only [List.length_append, List.length_map, List.length_cons, List.length_nil]; omega) | (intro h; simp only [inR]; omega) | (intro h; simp only [List.length_append, List.length_map, List.length_cons, List.length_nil]; omega) | (intro h; exact h.elim))
  refine hK _ ?_
  clear hK K
  refine PWp.seq_rg [0, 4, 5, 14] orcV1_ok (mv := mv) (by decide) fun K hK => ?_
  simp only [pwr, pr1, mv, Int.reduceLT, Int.reduceSub, Int.reduceNeg, Int.reduceToNat, ne_eq, reduceIte, reduceCtorEq, Nat.reduceEqDiff, Nat.reduceAdd, Nat.reduceMul, Nat.reduceSub, Nat.reduceLT, Nat.reduceLeDiff, Nat.reduceBEq, if_true, if_false, implies_true, Bool.cond_true, Bool.cond_false, orcV1, c163, c182, c183, uOf_toNat, zf, binShift, Int.reduceToNat, Int.reducePow]
  repeat' with_reducible refine And.intro ?_ ?_
  all_goals try (first | omega | rfl | ((with_reducible refine drawGoal ?_); exact rfl) | (simp only [inR]; omega) | (intro y hy; simp only [List.mem_singleton] at hy; subst hy; rfl) | (intro y hy; cases hy; done) | (simp only [List.length_append, List.length_map, List.length_cons, List.length_nil]; omega) | (intro h; simp only [inR]; omega) | (intro h; simp only [List.length_append, List.length_map, List.length_cons, List.length_nil]; omega) | (intro h; exact h.elim))
  refine hK _ ?_
  clear hK K
  refine PWp.cond (by rfl) (fun hb14 => ?_) (fun hb14 => ?_)
  ·
   try (cases hb14; done)
   all_goals
    refine PWp.seq_k fun K2 hK2 => ?_
    have hT : w.take 2 = [48, 120] := by rw [hb14] at his; exact of_decide_eq_true his
    have hdr : w.drop 2 = h := by rw [if_pos hT] at hh; exact hh
    refine PWp.seq_rg [4, 5, 16, 17] orcV1_ok (mv := mv) (by decide) fun K hK => ?_
    simp only [pwr, pr1, mv, Int.reduceLT, Int.reduceSub, Int.reduceNeg, Int.reduceToNat, ne_eq, reduceIte, reduceCtorEq, Nat.reduceEqDiff, Nat.reduceAdd, Nat.reduceMul, Nat.reduceSub, Nat.reduceLT, Nat.reduceLeDiff, Nat.reduceBEq, if_true, if_false, implies_true, Bool.cond_true, Bool.cond_false, orcV1, c163, c182, c183, uOf_toNat, zf, binShift, Int.reduceToNat, Int.reducePow]
    repeat' with_reducible refine And.intro ?_ ?_
    all_goals try (first | omega | rfl | ((with_reducible refine drawGoal ?_); exact rfl) | (simp only [inR]; omega) | (intro y hy; simp only [List.mem_singleton] at hy; subst hy; rfl) | (intro y hy; cases hy; done) | (simp only [List.length_append, List.length_map, List.length_cons, List.length_nil]; omega) | (intro h; simp only [inR]; omega) | (intro h; simp only [List.length_append, List.length_map, List.length_cons, List.length_nil]; omega) | (intro h; exact h.elim))
    refine hK _ ?_
    clear hK K
    refine PWp.block_k fun Qq3 hq3n hq3x hq3r hq3e => ?_
    refine PWp.loop_k (fun i : Nat => [(.S 4, .av (.pv (.int .i64 (hexW (h.take i))))), (.S 5, .av (.pv (.str h))), (.S 16, .av (.pv (.int .i64 h.length))), (.S 17, .av (.pv (.int .i64 i)))]) (fun i => i ≤ h.length ∧ ∀ b ∈ h.take i, ¬ hexV b < 0) (fun i => h.length - i) (0) (⟨Nat.zero_le _, by simp⟩) ?_ ?_
    · repeat simp only [pwf, pf1, reduceIte, reduceCtorEq, Nat.reduceEqDiff, Nat.reduceAdd, Nat.reduceMul, Nat.reduceSub, Nat.reduceLT, Nat.reduceLeDiff, Nat.reduceBEq, if_true, if_false, implies_true, Bool.cond_true, Bool.cond_false, zf, binShift, Int.reduceToNat, Int.reducePow]
      first | done | trivial | rfl | (simp; done)
    rintro i ⟨hi, hinv⟩ J1 hJ1
    refine PWp.seq_rg [4, 5, 16, 17, 18] orcV1_ok (mv := mv) (by decide) fun K hK => ?_
    simp only [pwr, pr1, mv, Int.reduceLT, Int.reduceSub, Int.reduceNeg, Int.reduceToNat, ne_eq, reduceIte, reduceCtorEq, Nat.reduceEqDiff, Nat.reduceAdd, Nat.reduceMul, Nat.reduceSub, Nat.reduceLT, Nat.reduceLeDiff, Nat.reduceBEq, if_true, if_false, implies_true, Bool.cond_true, Bool.cond_false, orcV1, c163, c182, c183, uOf_toNat, zf, binShift, Int.reduceToNat, Int.reducePow]
    repeat' with_reducible refine And.intro ?_ ?_
    all_goals try (first | omega | rfl | ((with_reducible refine drawGoal ?_); exact rfl) | (simp only [inR]; omega) | (intro y hy; simp only [List.mem_singleton] at hy; subst hy; rfl) | (intro y hy; cases hy; done) | (simp only [List.length_append, List.length_map, List.length_cons, List.length_nil]; omega) | (intro h; simp only [inR]; omega) | (intro h; simp only [List.length_append, List.length_map, List.length_cons, List.length_nil]; omega) | (intro h; exact h.elim))
    refine hK _ ?_
    clear hK K
    refine PWp.seq_k fun K4 hK4 => ?_
    refine PWp.cond (by rfl) (fun hb18 => ?_) (fun hb18 => ?_)
    ·
     try (cases hb18; done)
     all_goals
      refine PWp.skip (hK4 _ ?_)
      refine PWp.seq_k fun K5 hK5 => ?_
      refine PWp.block_k fun Qq6 hq6n hq6x hq6r hq6e => ?_
      refine PWp.seq_rg [4, 5, 7, 16, 17] orcV1_ok (mv := mv) (by decide) fun K hK => ?_
      simp only [pwr, pr1, mv, Int.reduceLT, Int.reduceSub, Int.reduceNeg, Int.reduceToNat, ne_eq, reduceIte, reduceCtorEq, Nat.reduceEqDiff, Nat.reduceAdd, Nat.reduceMul, Nat.reduceSub, Nat.reduceLT, Nat.reduceLeDiff, Nat.reduceBEq, if_true, if_false, implies_true, Bool.cond_true, Bool.cond_false, orcV1, c163, c182, c183, uOf_toNat, zf, binShift, Int.reduceToNat, Int.reducePow]
      repeat' with_reducible refine And.intro ?_ ?_
      all_goals try (first | omega | rfl | ((with_reducible refine drawGoal ?_); exact rfl) | (simp only [inR]; omega) | (intro y hy; simp only [List.mem_singleton] at hy; subst hy; rfl) | (intro y hy; cases hy; done) | (simp only [List.length_append, List.length_map, List.length_cons, List.length_nil]; omega) | (intro h; simp only [inR]; omega) | (intro h; simp only [List.length_append, List.length_map, List.length_cons, List.length_nil]; omega) | (intro h; exact h.elim))
      refine hK _ ?_
      clear hK K
      refine PWp.seq_k fun K7 hK7 => ?_
      have hil : i < h.length := by have := of_decide_eq_true hb18; omega
      refine PWp.seq_rg [4, 5, 7, 16, 17, 24] orcV1_ok (mv := mv) (by decide) fun K hK => ?_
      simp only [pwr, pr1, mv, Int.reduceLT, Int.reduceSub, Int.reduceNeg, Int.reduceToNat, ne_eq, reduceIte, reduceCtorEq, Nat.reduceEqDiff, Nat.reduceAdd, Nat.reduceMul, Nat.reduceSub, Nat.reduceLT, Nat.reduceLeDiff, Nat.reduceBEq, if_true, if_false, implies_true, Bool.cond_true, Bool.cond_false, orcV1, c163, c182, c183, uOf_toNat, zf, binShift, Int.reduceToNat, Int.reducePow]
      repeat' with_reducible refine And.intro ?_ ?_
      all_goals try (first | omega | exact ub_bd _ | exact (ub_bd _).1 | exact (ub_bd _).2)
      all_goals try (first | omega | rfl | ((with_reducible refine drawGoal ?_); exact rfl) | (simp only [inR]; omega) | (intro y hy; simp only [List.mem_singleton] at hy; subst hy; rfl) | (intro y hy; cases hy; done) | (simp only [List.length_append, List.length_map, List.length_cons, List.length_nil]; omega) | (intro h; simp only [inR]; omega) | (intro h; simp only [List.length_append, List.length_map, List.length_cons, List.length_nil]; omega) | (intro h; exact h.elim))
      refine hK _ ?_
      clear hK K
      refine PWp.cond (by rfl) (fun hb24 => ?_) (fun hb24 => ?_)
      ·
       try (cases hb24; done)
       all_goals
        refine PWp.seq_rg [2, 3] orcV1_ok (mv := mv) (by decide) fun K hK => ?_
        simp only [pwr, pr1, mv, Int.reduceLT, Int.reduceSub, Int.reduceNeg, Int.reduceToNat, ne_eq, reduceIte, reduceCtorEq, Nat.reduceEqDiff, Nat.reduceAdd, Nat.reduceMul, Nat.reduceSub, Nat.reduceLT, Nat.reduceLeDiff, Nat.reduceBEq, if_true, if_false, implies_true, Bool.cond_true, Bool.cond_false, orcV1, c163, c182, c183, uOf_toNat, zf, binShift, Int.reduceToNat, Int.reducePow]
        repeat' with_reducible refine And.intro ?_ ?_
        all_goals try (first | omega | rfl | ((with_reducible refine drawGoal ?_); exact rfl) | (simp only [inR]; omega) | (intro y hy; simp only [List.mem_singleton] at hy; subst hy; rfl) | (intro y hy; cases hy; done) | (simp only [List.length_append, List.length_map, List.length_cons, List.length_nil]; omega) | (intro h; simp only [inR]; omega) | (intro h; simp only [List.length_append, List.length_map, List.length_cons, List.length_nil]; omega) | (intro h; exact h.elim))
        refine hK _ ?_
        clear hK K
        refine PWp.ret (hq6r _ (hq3r _ (hQ2 _ ?_)))
        simp only [pwf, pf1, reduceIte, reduceCtorEq, Nat.reduceEqDiff, Nat.reduceAdd, Nat.reduceMul, Nat.reduceSub, Nat.reduceLT, Nat.reduceLeDiff, Nat.reduceBEq, if_true, if_false, implies_true, Bool.cond_true, Bool.cond_false, zf, binShift, Int.reduceToNat, Int.reducePow, Tryz.results164]
        repeat simp only [pwf, pf1, reduceIte, reduceCtorEq, Nat.reduceEqDiff, Nat.reduceAdd, Nat.reduceMul, Nat.reduceSub, Nat.reduceLT, Nat.reduceLeDiff, Nat.reduceBEq, if_true, if_false, implies_true, Bool.cond_true, Bool.cond_false, zf, binShift, Int.reduceToNat, Int.reducePow]
        have hneg : hexV h[i] < 0 := by rw [getN hil] at hb24; exact of_decide_eq_true hb24
        have hv : value w = (0, 3) := by
          unfold value
          rw [if_pos hT, hdr, hexL_none ⟨h[i], List.getElem_mem hil, hneg⟩]
        rw [hv]
        exact ⟨rfl, rfl⟩
      ·
       try (cases hb24; done)
       all_goals
        refine PWp.skip (hK7 _ ?_)
        have hpos : ¬ hexV h[i] < 0 := by rw [getN hil] at hb24; exact of_decide_eq_false hb24
        have h15 := hexV_lt h[i]
        have hwr := wrap16 (hexW (h.take i)) (d := hexV h[i]) (by omega) h15
        refine PWp.rg [4, 5, 16, 17] orcV1_ok (mv := mv) (by decide) ?_
        simp only [pwr, pr1, mv, Int.reduceLT, Int.reduceSub, Int.reduceNeg, Int.reduceToNat, ne_eq, reduceIte, reduceCtorEq, Nat.reduceEqDiff, Nat.reduceAdd, Nat.reduceMul, Nat.reduceSub, Nat.reduceLT, Nat.reduceLeDiff, Nat.reduceBEq, if_true, if_false, implies_true, Bool.cond_true, Bool.cond_false, orcV1, c163, c182, c183, uOf_toNat, zf, binShift, Int.reduceToNat, Int.reducePow, getN hil]
        repeat' with_reducible refine And.intro ?_ ?_
        all_goals try (first | decide | exact hwr | omega | exact ub_bd _ | exact (ub_bd _).1 | exact (ub_bd _).2 | (rw [getN hil]; exact hwr) | (intros; rw [getN hil]; exact hwr))
        all_goals try (first | omega | rfl | ((with_reducible refine drawGoal ?_); exact rfl) | (simp only [inR]; omega) | (intro y hy; simp only [List.mem_singleton] at hy; subst hy; rfl) | (intro y hy; cases hy; done) | (simp only [List.length_append, List.length_map, List.length_cons, List.length_nil]; omega) | (intro h; simp only [inR]; omega) | (intro h; simp only [List.length_append, List.length_map, List.length_cons, List.length_nil]; omega) | (intro h; exact h.elim))
        refine hq6n _ (hK5 _ ?_)
        refine PWp.rg [4, 5, 16, 17] orcV1_ok (mv := mv) (by decide) ?_
        simp only [pwr, pr1, mv, Int.reduceLT, Int.reduceSub, Int.reduceNeg, Int.reduceToNat, ne_eq, reduceIte, reduceCtorEq, Nat.reduceEqDiff, Nat.reduceAdd, Nat.reduceMul, Nat.reduceSub, Nat.reduceLT, Nat.reduceLeDiff, Nat.reduceBEq, if_true, if_false, implies_true, Bool.cond_true, Bool.cond_false, orcV1, c163, c182, c183, uOf_toNat, zf, binShift, Int.reduceToNat, Int.reducePow]
        repeat' with_reducible refine And.intro ?_ ?_
        all_goals try (first | omega | rfl | ((with_reducible refine drawGoal ?_); exact rfl) | (simp only [inR]; omega) | (intro y hy; simp only [List.mem_singleton] at hy; subst hy; rfl) | (intro y hy; cases hy; done) | (simp only [List.length_append, List.length_map, List.length_cons, List.length_nil]; omega) | (intro h; simp only [inR]; omega) | (intro h; simp only [List.length_append, List.length_map, List.length_cons, List.length_nil]; omega) | (intro h; exact h.elim))
        refine hJ1 _ (i + 1) ?_ ?_ ?_
        · refine ⟨by omega, fun b hb => ?_⟩
          rw [List.take_succ_eq_append_getElem hil] at hb
          rcases List.mem_append.1 hb with hb | hb
          · exact hinv b hb
          · simp only [List.mem_singleton] at hb
            subst hb
            exact hpos
        · omega
        · repeat simp only [pwf, pf1, reduceIte, reduceCtorEq, Nat.reduceEqDiff, Nat.reduceAdd, Nat.reduceMul, Nat.reduceSub, Nat.reduceLT, Nat.reduceLeDiff, Nat.reduceBEq, if_true, if_false, implies_true, Bool.cond_true, Bool.cond_false, zf, binShift, Int.reduceToNat, Int.reducePow]
          rw [hexW_snoc hil]
          exact ⟨rfl, rfl⟩
    ·
     try (cases hb18; done)
     all_goals
      refine PWp.exit (hq3x _ (hK2 _ ?_))
      refine PWp.seq_k fun K8 hK8 => ?_
      have hie : i = h.length := by have := of_decide_eq_false hb18; omega
      rw [hie, List.take_length] at hinv
      obtain ⟨m, hm⟩ := hexL_some (n := 0) hinv
      refine PWp.seq_rg [4, 40] orcV1_ok (mv := mv) (by decide) fun K hK => ?_
      simp only [pwr, pr1, mv, Int.reduceLT, Int.reduceSub, Int.reduceNeg, Int.reduceToNat, ne_eq, reduceIte, reduceCtorEq, Nat.reduceEqDiff, Nat.reduceAdd, Nat.reduceMul, Nat.reduceSub, Nat.reduceLT, Nat.reduceLeDiff, Nat.reduceBEq, if_true, if_false, implies_true, Bool.cond_true, Bool.cond_false, orcV1, c163, c182, c183, uOf_toNat, zf, binShift, Int.reduceToNat, Int.reducePow]
      repeat' with_reducible refine And.intro ?_ ?_
      all_goals try (first | omega | rfl | ((with_reducible refine drawGoal ?_); exact rfl) | (simp only [inR]; omega) | (intro y hy; simp only [List.mem_singleton] at hy; subst hy; rfl) | (intro y hy; cases hy; done) | (simp only [List.length_append, List.length_map, List.length_cons, List.length_nil]; omega) | (intro h; simp only [inR]; omega) | (intro h; simp only [List.length_append, List.length_map, List.length_cons, List.length_nil]; omega) | (intro h; exact h.elim))
      refine hK _ ?_
      clear hK K
      refine PWp.cond (by rfl) (fun hb40 => ?_) (fun hb40 => ?_)
      ·
       try (cases hb40; done)
       all_goals
        refine PWp.seq_rg [2, 3] orcV1_ok (mv := mv) (by decide) fun K hK => ?_
        simp only [pwr, pr1, mv, Int.reduceLT, Int.reduceSub, Int.reduceNeg, Int.reduceToNat, ne_eq, reduceIte, reduceCtorEq, Nat.reduceEqDiff, Nat.reduceAdd, Nat.reduceMul, Nat.reduceSub, Nat.reduceLT, Nat.reduceLeDiff, Nat.reduceBEq, if_true, if_false, implies_true, Bool.cond_true, Bool.cond_false, orcV1, c163, c182, c183, uOf_toNat, zf, binShift, Int.reduceToNat, Int.reducePow]
        repeat' with_reducible refine And.intro ?_ ?_
        all_goals try (first | omega | rfl | ((with_reducible refine drawGoal ?_); exact rfl) | (simp only [inR]; omega) | (intro y hy; simp only [List.mem_singleton] at hy; subst hy; rfl) | (intro y hy; cases hy; done) | (simp only [List.length_append, List.length_map, List.length_cons, List.length_nil]; omega) | (intro h; simp only [inR]; omega) | (intro h; simp only [List.length_append, List.length_map, List.length_cons, List.length_nil]; omega) | (intro h; exact h.elim))
        refine hK _ ?_
        clear hK K
        refine PWp.ret (hQ2 _ ?_)
        simp only [pwf, pf1, reduceIte, reduceCtorEq, Nat.reduceEqDiff, Nat.reduceAdd, Nat.reduceMul, Nat.reduceSub, Nat.reduceLT, Nat.reduceLeDiff, Nat.reduceBEq, if_true, if_false, implies_true, Bool.cond_true, Bool.cond_false, zf, binShift, Int.reduceToNat, Int.reducePow, Tryz.results164]
        repeat simp only [pwf, pf1, reduceIte, reduceCtorEq, Nat.reduceEqDiff, Nat.reduceAdd, Nat.reduceMul, Nat.reduceSub, Nat.reduceLT, Nat.reduceLeDiff, Nat.reduceBEq, if_true, if_false, implies_true, Bool.cond_true, Bool.cond_false, zf, binShift, Int.reduceToNat, Int.reducePow]
        have hl : h.length < 1 ∨ 8 < h.length := by simp only [Bool.or_eq_true, decide_eq_true_eq] at hb40; omega
        have hv : value w = (0, 3) := by
          unfold value
          rw [if_pos hT, hdr, hm]
          simp only
          rw [if_pos hl]
        rw [hv]
        exact ⟨rfl, rfl⟩
      ·
       try (cases hb40; done)
       all_goals
        refine PWp.skip (hK8 _ ?_)
        refine PWp.seq_rg [2, 3] orcV1_ok (mv := mv) (by decide) fun K hK => ?_
        simp only [pwr, pr1, mv, Int.reduceLT, Int.reduceSub, Int.reduceNeg, Int.reduceToNat, ne_eq, reduceIte, reduceCtorEq, Nat.reduceEqDiff, Nat.reduceAdd, Nat.reduceMul, Nat.reduceSub, Nat.reduceLT, Nat.reduceLeDiff, Nat.reduceBEq, if_true, if_false, implies_true, Bool.cond_true, Bool.cond_false, orcV1, c163, c182, c183, uOf_toNat, zf, binShift, Int.reduceToNat, Int.reducePow]
        repeat' with_reducible refine And.intro ?_ ?_
        all_goals try (first | omega | rfl | ((with_reducible refine drawGoal ?_); exact rfl) | (simp only [inR]; omega) | (intro y hy; simp only [List.mem_singleton] at hy; subst hy; rfl) | (intro y hy; cases hy; done) | (simp only [List.length_append, List.length_map, List.length_cons, List.length_nil]; omega) | (intro h; simp only [inR]; omega) | (intro h; simp only [List.length_append, List.length_map, List.length_cons, List.length_nil]; omega) | (intro h; exact h.elim))
        refine hK _ ?_
        clear hK K
        refine PWp.ret (hQ2 _ ?_)
        simp only [pwf, pf1, reduceIte, reduceCtorEq, Nat.reduceEqDiff, Nat.reduceAdd, Nat.reduceMul, Nat.reduceSub, Nat.reduceLT, Nat.reduceLeDiff, Nat.reduceBEq, if_true, if_false, implies_true, Bool.cond_true, Bool.cond_false, zf, binShift, Int.reduceToNat, Int.reducePow, Tryz.results164]
        repeat simp only [pwf, pf1, reduceIte, reduceCtorEq, Nat.reduceEqDiff, Nat.reduceAdd, Nat.reduceMul, Nat.reduceSub, Nat.reduceLT, Nat.reduceLeDiff, Nat.reduceBEq, if_true, if_false, implies_true, Bool.cond_true, Bool.cond_false, zf, binShift, Int.reduceToNat, Int.reducePow]
        have hl : ¬ (h.length < 1 ∨ 8 < h.length) := by simp only [Bool.or_eq_false_iff, decide_eq_false_iff_not] at hb40; omega
        have hf := hexL_fold (n := 0) (k := 0) hinv (by omega) (by omega) (by omega)
        have hv : value w = (hexW h, 0) := by
          unfold value
          rw [if_pos hT, hdr, hf]
          simp only
          rw [if_neg hl]
          rfl
        rw [hv, hie, List.take_length]
        exact ⟨rfl, rfl⟩
  ·
   try (cases hb14; done)
   all_goals
    refine PWp.skip (hK1 _ ?_)
    refine PWp.seq_k fun K9 hK9 => ?_
    have hT : ¬ w.take 2 = [48, 120] := by rw [hb14] at his; exact of_decide_eq_false his
    have hval : value w = match decL w 0 with
        | none => (0, 3)
        | some n => if w.head? = some 48 ∧ 1 < w.length then (0, 3) else if 4294967295 < n then (0, 2) else (n, 0) := by
      unfold value
      rw [if_neg hT]
      cases decL w 0 <;> rfl
    refine PWp.seq_rg [0, 4, 43, 44] orcV1_ok (mv := mv) (by decide) fun K hK => ?_
    simp only [pwr, pr1, mv, Int.reduceLT, Int.reduceSub, Int.reduceNeg, Int.reduceToNat, ne_eq, reduceIte, reduceCtorEq, Nat.reduceEqDiff, Nat.reduceAdd, Nat.reduceMul, Nat.reduceSub, Nat.reduceLT, Nat.reduceLeDiff, Nat.reduceBEq, if_true, if_false, implies_true, Bool.cond_true, Bool.cond_false, orcV1, c163, c182, c183, uOf_toNat, zf, binShift, Int.reduceToNat, Int.reducePow]
    repeat' with_reducible refine And.intro ?_ ?_
    all_goals try (first | omega | rfl | ((with_reducible refine drawGoal ?_); exact rfl) | (simp only [inR]; omega) | (intro y hy; simp only [List.mem_singleton] at hy; subst hy; rfl) | (intro y hy; cases hy; done) | (simp only [List.length_append, List.length_map, List.length_cons, List.length_nil]; omega) | (intro h; simp only [inR]; omega) | (intro h; simp only [List.length_append, List.length_map, List.length_cons, List.length_nil]; omega) | (intro h; exact h.elim))
    refine hK _ ?_
    clear hK K
    refine PWp.block_k fun Qq10 hq10n hq10x hq10r hq10e => ?_
    refine PWp.loop_k (fun i : Nat => [(.S 0, .av (.pv (.str w))), (.S 4, .av (.pv (.int .i64 (decW (w.take i) 0)))), (.S 43, .av (.pv (.int .i64 w.length))), (.S 44, .av (.pv (.int .i64 i)))]) (fun i => i ≤ w.length ∧ ∀ b ∈ w.take i, digitB b = true) (fun i => w.length - i) (0) (⟨Nat.zero_le _, by simp⟩) ?_ ?_
    · repeat simp only [pwf, pf1, reduceIte, reduceCtorEq, Nat.reduceEqDiff, Nat.reduceAdd, Nat.reduceMul, Nat.reduceSub, Nat.reduceLT, Nat.reduceLeDiff, Nat.reduceBEq, if_true, if_false, implies_true, Bool.cond_true, Bool.cond_false, zf, binShift, Int.reduceToNat, Int.reducePow]
      first | done | trivial | rfl | (simp; done)
    rintro i ⟨hi, hinv⟩ J2 hJ2
    refine PWp.seq_rg [0, 4, 43, 44, 45] orcV1_ok (mv := mv) (by decide) fun K hK => ?_
    simp only [pwr, pr1, mv, Int.reduceLT, Int.reduceSub, Int.reduceNeg, Int.reduceToNat, ne_eq, reduceIte, reduceCtorEq, Nat.reduceEqDiff, Nat.reduceAdd, Nat.reduceMul, Nat.reduceSub, Nat.reduceLT, Nat.reduceLeDiff, Nat.reduceBEq, if_true, if_false, implies_true, Bool.cond_true, Bool.cond_false, orcV1, c163, c182, c183, uOf_toNat, zf, binShift, Int.reduceToNat, Int.reducePow]
    repeat' with_reducible refine And.intro ?_ ?_
    all_goals try (first | omega | rfl | ((with_reducible refine drawGoal ?_); exact rfl) | (simp only [inR]; omega) | (intro y hy; simp only [List.mem_singleton] at hy; subst hy; rfl) | (intro y hy; cases hy; done) | (simp only [List.length_append, List.length_map, List.length_cons, List.length_nil]; omega) | (intro h; simp only [inR]; omega) | (intro h; simp only [List.length_append, List.length_map, List.length_cons, List.length_nil]; omega) | (intro h; exact h.elim))
    refine hK _ ?_
    clear hK K
    refine PWp.seq_k fun K11 hK11 => ?_
    refine PWp.cond (by rfl) (fun hb45 => ?_) (fun hb45 => ?_)
    ·
     try (cases hb45; done)
     all_goals
      refine PWp.skip (hK11 _ ?_)
      refine PWp.seq_k fun K12 hK12 => ?_
      refine PWp.block_k fun Qq13 hq13n hq13x hq13r hq13e => ?_
      refine PWp.seq_rg [0, 4, 8, 43, 44] orcV1_ok (mv := mv) (by decide) fun K hK => ?_
      simp only [pwr, pr1, mv, Int.reduceLT, Int.reduceSub, Int.reduceNeg, Int.reduceToNat, ne_eq, reduceIte, reduceCtorEq, Nat.reduceEqDiff, Nat.reduceAdd, Nat.reduceMul, Nat.reduceSub, Nat.reduceLT, Nat.reduceLeDiff, Nat.reduceBEq, if_true, if_false, implies_true, Bool.cond_true, Bool.cond_false, orcV1, c163, c182, c183, uOf_toNat, zf, binShift, Int.reduceToNat, Int.reducePow]
      repeat' with_reducible refine And.intro ?_ ?_
      all_goals try (first | omega | rfl | ((with_reducible refine drawGoal ?_); exact rfl) | (simp only [inR]; omega) | (intro y hy; simp only [List.mem_singleton] at hy; subst hy; rfl) | (intro y hy; cases hy; done) | (simp only [List.length_append, List.length_map, List.length_cons, List.length_nil]; omega) | (intro h; simp only [inR]; omega) | (intro h; simp only [List.length_append, List.length_map, List.length_cons, List.length_nil]; omega) | (intro h; exact h.elim))
      refine hK _ ?_
      clear hK K
      refine PWp.seq_k fun K14 hK14 => ?_
      have hil : i < w.length := by have := of_decide_eq_true hb45; omega
      refine PWp.seq_rg [0, 4, 8, 43, 44, 51] orcV1_ok (mv := mv) (by decide) fun K hK => ?_
      simp only [pwr, pr1, mv, Int.reduceLT, Int.reduceSub, Int.reduceNeg, Int.reduceToNat, ne_eq, reduceIte, reduceCtorEq, Nat.reduceEqDiff, Nat.reduceAdd, Nat.reduceMul, Nat.reduceSub, Nat.reduceLT, Nat.reduceLeDiff, Nat.reduceBEq, if_true, if_false, implies_true, Bool.cond_true, Bool.cond_false, orcV1, c163, c182, c183, uOf_toNat, zf, binShift, Int.reduceToNat, Int.reducePow]
      repeat' with_reducible refine And.intro ?_ ?_
      all_goals try (first | omega | exact ub_bd _ | exact (ub_bd _).1 | exact (ub_bd _).2)
      all_goals try (first | omega | rfl | ((with_reducible refine drawGoal ?_); exact rfl) | (simp only [inR]; omega) | (intro y hy; simp only [List.mem_singleton] at hy; subst hy; rfl) | (intro y hy; cases hy; done) | (simp only [List.length_append, List.length_map, List.length_cons, List.length_nil]; omega) | (intro h; simp only [inR]; omega) | (intro h; simp only [List.length_append, List.length_map, List.length_cons, List.length_nil]; omega) | (intro h; exact h.elim))
      refine hK _ ?_
      clear hK K
      refine PWp.cond (by rfl) (fun hb51 => ?_) (fun hb51 => ?_)
      ·
       try (cases hb51; done)
       all_goals
        refine PWp.seq_rg [2, 3] orcV1_ok (mv := mv) (by decide) fun K hK => ?_
        simp only [pwr, pr1, mv, Int.reduceLT, Int.reduceSub, Int.reduceNeg, Int.reduceToNat, ne_eq, reduceIte, reduceCtorEq, Nat.reduceEqDiff, Nat.reduceAdd, Nat.reduceMul, Nat.reduceSub, Nat.reduceLT, Nat.reduceLeDiff, Nat.reduceBEq, if_true, if_false, implies_true, Bool.cond_true, Bool.cond_false, orcV1, c163, c182, c183, uOf_toNat, zf, binShift, Int.reduceToNat, Int.reducePow]
        repeat' with_reducible refine And.intro ?_ ?_
        all_goals try (first | omega | rfl | ((with_reducible refine drawGoal ?_); exact rfl) | (simp only [inR]; omega) | (intro y hy; simp only [List.mem_singleton] at hy; subst hy; rfl) | (intro y hy; cases hy; done) | (simp only [List.length_append, List.length_map, List.length_cons, List.length_nil]; omega) | (intro h; simp only [inR]; omega) | (intro h; simp only [List.length_append, List.length_map, List.length_cons, List.length_nil]; omega) | (intro h; exact h.elim))
        refine hK _ ?_
        clear hK K
        refine PWp.ret (hq13r _ (hq10r _ (hQ2 _ ?_)))
        simp only [pwf, pf1, reduceIte, reduceCtorEq, Nat.reduceEqDiff, Nat.reduceAdd, Nat.reduceMul, Nat.reduceSub, Nat.reduceLT, Nat.reduceLeDiff, Nat.reduceBEq, if_true, if_false, implies_true, Bool.cond_true, Bool.cond_false, zf, binShift, Int.reduceToNat, Int.reducePow, Tryz.results164]
        repeat simp only [pwf, pf1, reduceIte, reduceCtorEq, Nat.reduceEqDiff, Nat.reduceAdd, Nat.reduceMul, Nat.reduceSub, Nat.reduceLT, Nat.reduceLeDiff, Nat.reduceBEq, if_true, if_false, implies_true, Bool.cond_true, Bool.cond_false, zf, binShift, Int.reduceToNat, Int.reducePow]
        have hneg : digitB w[i] = false := by rw [getN hil] at hb51; simpa using hb51
        rw [hval, decL_none ⟨w[i], List.getElem_mem hil, hneg⟩]
        exact ⟨rfl, rfl⟩
      ·
       try (cases hb51; done)
       all_goals
        refine PWp.skip (hK14 _ ?_)
        have hpos : digitB w[i] = true := by rw [getN hil] at hb51; simpa using hb51
        have hd := digitB_bd hpos
        have hn := decW_bd hinv (show (0 : Int) ≤ 0 by omega) (by omega)
        have eg := getN hil
        refine PWp.rg [0, 4, 43, 44] orcV1_ok (mv := mv) (by decide) ?_
        simp only [pwr, pr1, mv, Int.reduceLT, Int.reduceSub, Int.reduceNeg, Int.reduceToNat, ne_eq, reduceIte, reduceCtorEq, Nat.reduceEqDiff, Nat.reduceAdd, Nat.reduceMul, Nat.reduceSub, Nat.reduceLT, Nat.reduceLeDiff, Nat.reduceBEq, if_true, if_false, implies_true, Bool.cond_true, Bool.cond_false, orcV1, c163, c182, c183, uOf_toNat, zf, binShift, Int.reduceToNat, Int.reducePow, eg]
        repeat' with_reducible refine And.intro ?_ ?_
        all_goals try (first | omega | (simp only [inR]; omega))
        all_goals try (first | omega | rfl | ((with_reducible refine drawGoal ?_); exact rfl) | (simp only [inR]; omega) | (intro y hy; simp only [List.mem_singleton] at hy; subst hy; rfl) | (intro y hy; cases hy; done) | (simp only [List.length_append, List.length_map, List.length_cons, List.length_nil]; omega) | (intro h; simp only [inR]; omega) | (intro h; simp only [List.length_append, List.length_map, List.length_cons, List.length_nil]; omega) | (intro h; exact h.elim))
        refine hq13n _ (hK12 _ ?_)
        refine PWp.rg [0, 4, 43, 44] orcV1_ok (mv := mv) (by decide) ?_
        simp only [pwr, pr1, mv, Int.reduceLT, Int.reduceSub, Int.reduceNeg, Int.reduceToNat, ne_eq, reduceIte, reduceCtorEq, Nat.reduceEqDiff, Nat.reduceAdd, Nat.reduceMul, Nat.reduceSub, Nat.reduceLT, Nat.reduceLeDiff, Nat.reduceBEq, if_true, if_false, implies_true, Bool.cond_true, Bool.cond_false, orcV1, c163, c182, c183, uOf_toNat, zf, binShift, Int.reduceToNat, Int.reducePow]
        repeat' with_reducible refine And.intro ?_ ?_
        all_goals try (first | omega | rfl | ((with_reducible refine drawGoal ?_); exact rfl) | (simp only [inR]; omega) | (intro y hy; simp only [List.mem_singleton] at hy; subst hy; rfl) | (intro y hy; cases hy; done) | (simp only [List.length_append, List.length_map, List.length_cons, List.length_nil]; omega) | (intro h; simp only [inR]; omega) | (intro h; simp only [List.length_append, List.length_map, List.length_cons, List.length_nil]; omega) | (intro h; exact h.elim))
        refine hJ2 _ (i + 1) ?_ ?_ ?_
        · refine ⟨by omega, fun b hb => ?_⟩
          rw [List.take_succ_eq_append_getElem hil] at hb
          rcases List.mem_append.1 hb with hb | hb
          · exact hinv b hb
          · simp only [List.mem_singleton] at hb
            subst hb
            exact hpos
        · omega
        · repeat simp only [pwf, pf1, reduceIte, reduceCtorEq, Nat.reduceEqDiff, Nat.reduceAdd, Nat.reduceMul, Nat.reduceSub, Nat.reduceLT, Nat.reduceLeDiff, Nat.reduceBEq, if_true, if_false, implies_true, Bool.cond_true, Bool.cond_false, zf, binShift, Int.reduceToNat, Int.reducePow]
          exact ⟨congrArg _ (decW_snoc hil 0), rfl⟩
    ·
     try (cases hb45; done)
     all_goals
      refine PWp.exit (hq10x _ (hK9 _ ?_))
      refine PWp.seq_k fun K15 hK15 => ?_
      refine PWp.block_k fun Qq16 hq16n hq16x hq16r hq16e => ?_
      have hie : i = w.length := by have := of_decide_eq_false hb45; omega
      rw [hie, List.take_length] at hinv
      have hlw := List.length_pos_iff.2 hw
      refine PWp.seq_rg [4, 62] orcV1_ok (mv := mv) (by decide) fun K hK => ?_
      simp only [pwr, pr1, mv, Int.reduceLT, Int.reduceSub, Int.reduceNeg, Int.reduceToNat, ne_eq, reduceIte, reduceCtorEq, Nat.reduceEqDiff, Nat.reduceAdd, Nat.reduceMul, Nat.reduceSub, Nat.reduceLT, Nat.reduceLeDiff, Nat.reduceBEq, if_true, if_false, implies_true, Bool.cond_true, Bool.cond_false, orcV1, c163, c182, c183, uOf_toNat, zf, binShift, Int.reduceToNat, Int.reducePow]
      repeat' with_reducible refine And.intro ?_ ?_
      all_goals try (first | omega | exact ub_bd _ | (intros; omega))
      all_goals try (first | omega | rfl | ((with_reducible refine drawGoal ?_); exact rfl) | (simp only [inR]; omega) | (intro y hy; simp only [List.mem_singleton] at hy; subst hy; rfl) | (intro y hy; cases hy; done) | (simp only [List.length_append, List.length_map, List.length_cons, List.length_nil]; omega) | (intro h; simp only [inR]; omega) | (intro h; simp only [List.length_append, List.length_map, List.length_cons, List.length_nil]; omega) | (intro h; exact h.elim))
      refine hK _ ?_
      clear hK K
      refine PWp.cond (by rfl) (fun hb62 => ?_) (fun hb62 => ?_)
      ·
       try (cases hb62; done)
       all_goals
        refine PWp.seq_rg [2, 3] orcV1_ok (mv := mv) (by decide) fun K hK => ?_
        simp only [pwr, pr1, mv, Int.reduceLT, Int.reduceSub, Int.reduceNeg, Int.reduceToNat, ne_eq, reduceIte, reduceCtorEq, Nat.reduceEqDiff, Nat.reduceAdd, Nat.reduceMul, Nat.reduceSub, Nat.reduceLT, Nat.reduceLeDiff, Nat.reduceBEq, if_true, if_false, implies_true, Bool.cond_true, Bool.cond_false, orcV1, c163, c182, c183, uOf_toNat, zf, binShift, Int.reduceToNat, Int.reducePow]
        repeat' with_reducible refine And.intro ?_ ?_
        all_goals try (first | omega | rfl | ((with_reducible refine drawGoal ?_); exact rfl) | (simp only [inR]; omega) | (intro y hy; simp only [List.mem_singleton] at hy; subst hy; rfl) | (intro y hy; cases hy; done) | (simp only [List.length_append, List.length_map, List.length_cons, List.length_nil]; omega) | (intro h; simp only [inR]; omega) | (intro h; simp only [List.length_append, List.length_map, List.length_cons, List.length_nil]; omega) | (intro h; exact h.elim))
        refine hK _ ?_
        clear hK K
        refine PWp.ret (hq16r _ (hQ2 _ ?_))
        simp only [pwf, pf1, reduceIte, reduceCtorEq, Nat.reduceEqDiff, Nat.reduceAdd, Nat.reduceMul, Nat.reduceSub, Nat.reduceLT, Nat.reduceLeDiff, Nat.reduceBEq, if_true, if_false, implies_true, Bool.cond_true, Bool.cond_false, zf, binShift, Int.reduceToNat, Int.reducePow, Tryz.results164]
        repeat simp only [pwf, pf1, reduceIte, reduceCtorEq, Nat.reduceEqDiff, Nat.reduceAdd, Nat.reduceMul, Nat.reduceSub, Nat.reduceLT, Nat.reduceLeDiff, Nat.reduceBEq, if_true, if_false, implies_true, Bool.cond_true, Bool.cond_false, zf, binShift, Int.reduceToNat, Int.reducePow]
        have h0 : w.head? = some 48 ∧ 1 < w.length := (zero_head hw).1 hb62
        rw [hval, decL_some hinv]
        simp only
        rw [if_pos h0]
        exact ⟨rfl, rfl⟩
      ·
       try (cases hb62; done)
       all_goals
        have h0 : ¬ (w.head? = some 48 ∧ 1 < w.length) := fun h => by rw [(zero_head hw).2 h] at hb62; cases hb62
        have eti : w.take i = w := by rw [hie, List.take_length]
        refine PWp.seq_rg [4, 71] orcV1_ok (mv := mv) (by decide) fun K hK => ?_
        simp only [pwr, pr1, mv, Int.reduceLT, Int.reduceSub, Int.reduceNeg, Int.reduceToNat, ne_eq, reduceIte, reduceCtorEq, Nat.reduceEqDiff, Nat.reduceAdd, Nat.reduceMul, Nat.reduceSub, Nat.reduceLT, Nat.reduceLeDiff, Nat.reduceBEq, if_true, if_false, implies_true, Bool.cond_true, Bool.cond_false, orcV1, c163, c182, c183, uOf_toNat, zf, binShift, Int.reduceToNat, Int.reducePow, eti]
        repeat' with_reducible refine And.intro ?_ ?_
        all_goals try (first | omega | rfl | ((with_reducible refine drawGoal ?_); exact rfl) | (simp only [inR]; omega) | (intro y hy; simp only [List.mem_singleton] at hy; subst hy; rfl) | (intro y hy; cases hy; done) | (simp only [List.length_append, List.length_map, List.length_cons, List.length_nil]; omega) | (intro h; simp only [inR]; omega) | (intro h; simp only [List.length_append, List.length_map, List.length_cons, List.length_nil]; omega) | (intro h; exact h.elim))
        refine hK _ ?_
        clear hK K
        refine PWp.cond (by rfl) (fun hb71 => ?_) (fun hb71 => ?_)
        ·
         try (cases hb71; done)
         all_goals
          refine PWp.seq_rg [2, 3] orcV1_ok (mv := mv) (by decide) fun K hK => ?_
          simp only [pwr, pr1, mv, Int.reduceLT, Int.reduceSub, Int.reduceNeg, Int.reduceToNat, ne_eq, reduceIte, reduceCtorEq, Nat.reduceEqDiff, Nat.reduceAdd, Nat.reduceMul, Nat.reduceSub, Nat.reduceLT, Nat.reduceLeDiff, Nat.reduceBEq, if_true, if_false, implies_true, Bool.cond_true, Bool.cond_false, orcV1, c163, c182, c183, uOf_toNat, zf, binShift, Int.reduceToNat, Int.reducePow]
          repeat' with_reducible refine And.intro ?_ ?_
          all_goals try (first | omega | rfl | ((with_reducible refine drawGoal ?_); exact rfl) | (simp only [inR]; omega) | (intro y hy; simp only [List.mem_singleton] at hy; subst hy; rfl) | (intro y hy; cases hy; done) | (simp only [List.length_append, List.length_map, List.length_cons, List.length_nil]; omega) | (intro h; simp only [inR]; omega) | (intro h; simp only [List.length_append, List.length_map, List.length_cons, List.length_nil]; omega) | (intro h; exact h.elim))
          refine hK _ ?_
          clear hK K
          refine PWp.ret (hq16r _ (hQ2 _ ?_))
          simp only [pwf, pf1, reduceIte, reduceCtorEq, Nat.reduceEqDiff, Nat.reduceAdd, Nat.reduceMul, Nat.reduceSub, Nat.reduceLT, Nat.reduceLeDiff, Nat.reduceBEq, if_true, if_false, implies_true, Bool.cond_true, Bool.cond_false, zf, binShift, Int.reduceToNat, Int.reducePow, Tryz.results164]
          repeat simp only [pwf, pf1, reduceIte, reduceCtorEq, Nat.reduceEqDiff, Nat.reduceAdd, Nat.reduceMul, Nat.reduceSub, Nat.reduceLT, Nat.reduceLeDiff, Nat.reduceBEq, if_true, if_false, implies_true, Bool.cond_true, Bool.cond_false, zf, binShift, Int.reduceToNat, Int.reducePow]
          have h1 : 4294967295 < decW w 0 := by simpa using hb71
          rw [hval, decL_some hinv]
          simp only
          rw [if_neg h0, if_pos h1]
          exact ⟨rfl, rfl⟩
        ·
         try (cases hb71; done)
         all_goals
          refine PWp.skip (hq16n _ (hK15 _ ?_))
          refine PWp.seq_rg [2, 3] orcV1_ok (mv := mv) (by decide) fun K hK => ?_
          simp only [pwr, pr1, mv, Int.reduceLT, Int.reduceSub, Int.reduceNeg, Int.reduceToNat, ne_eq, reduceIte, reduceCtorEq, Nat.reduceEqDiff, Nat.reduceAdd, Nat.reduceMul, Nat.reduceSub, Nat.reduceLT, Nat.reduceLeDiff, Nat.reduceBEq, if_true, if_false, implies_true, Bool.cond_true, Bool.cond_false, orcV1, c163, c182, c183, uOf_toNat, zf, binShift, Int.reduceToNat, Int.reducePow]
          repeat' with_reducible refine And.intro ?_ ?_
          all_goals try (first | omega | rfl | ((with_reducible refine drawGoal ?_); exact rfl) | (simp only [inR]; omega) | (intro y hy; simp only [List.mem_singleton] at hy; subst hy; rfl) | (intro y hy; cases hy; done) | (simp only [List.length_append, List.length_map, List.length_cons, List.length_nil]; omega) | (intro h; simp only [inR]; omega) | (intro h; simp only [List.length_append, List.length_map, List.length_cons, List.length_nil]; omega) | (intro h; exact h.elim))
          refine hK _ ?_
          clear hK K
          refine PWp.ret (hQ2 _ ?_)
          simp only [pwf, pf1, reduceIte, reduceCtorEq, Nat.reduceEqDiff, Nat.reduceAdd, Nat.reduceMul, Nat.reduceSub, Nat.reduceLT, Nat.reduceLeDiff, Nat.reduceBEq, if_true, if_false, implies_true, Bool.cond_true, Bool.cond_false, zf, binShift, Int.reduceToNat, Int.reducePow, Tryz.results164]
          repeat simp only [pwf, pf1, reduceIte, reduceCtorEq, Nat.reduceEqDiff, Nat.reduceAdd, Nat.reduceMul, Nat.reduceSub, Nat.reduceLT, Nat.reduceLeDiff, Nat.reduceBEq, if_true, if_false, implies_true, Bool.cond_true, Bool.cond_false, zf, binShift, Int.reduceToNat, Int.reducePow]
          have h1 : ¬ 4294967295 < decW w 0 := by simpa using hb71
          rw [hval, decL_some hinv]
          simp only
          rw [if_neg h0, if_neg h1]
          exact ⟨rfl, rfl⟩
def c164 : St → Option (Prop × St)
  | [(.S 0, .av (.pv (.str w)))] => some (w ≠ [] ∧ w.length ≤ 100000, [(.S 0, .av (.tup [.pv (.int .i64 (value w).1), .pv (.int .i64 (value w).2)]))])
  | _ => none
theorem p164 {In Ret : St} {pre : Prop} (h : c164 In = some (pre, Ret)) (hp : pre) : PCalls Tryz.prog 164 In Ret := by
  unfold c164 at h
  split at h
  · cases h; exact t74 _ hp.1 hp.2
  · cases h
def orcV2 : Orc := fun f In => if f = 163 then c163 In else if f = 161 then c161 In else if f = 164 then c164 In else none
theorem orcV2_ok : OrcOk Tryz.prog orcV2 := by
  intro f In pre Ret h hp
  unfold orcV2 at h
  split at h
  · subst f; exact p163 h hp
  split at h
  · subst f; exact p161 h hp
  split at h
  · subst f; exact p164 h hp
  cases h
theorem t54 (c : UInt8) (s : Bs) (hs : s.length ≤ 20000) : PCalls Tryz.prog 132 [(.S 0, .av (.pv (.str (c :: s))))] [(.S 0, .av (ansA (digitB c) (if digitB c then numbers (c :: s) else ({}, 0, 0))))] := by
  refine PCalls.of_k Tryz.func132 (by decide) rfl fun Q hQ1 hQ2 => ?_
  refine PWp.seq_rg [0, 2, 4] orcV2_ok (mv := mv) (by decide) fun K hK => ?_
  simp only [pwr, pr1, mv, Int.reduceLT, Int.reduceSub, Int.reduceNeg, Int.reduceToNat, ne_eq, reduceIte, reduceCtorEq, Nat.reduceEqDiff, Nat.reduceAdd, Nat.reduceMul, Nat.reduceSub, Nat.reduceLT, Nat.reduceLeDiff, Nat.reduceBEq, if_true, if_false, implies_true, Bool.cond_true, Bool.cond_false, orcV2, c163, c161, c164, uOf_toNat, zf]
  repeat' with_reducible refine And.intro ?_ ?_
  all_goals try (first | omega | rfl | ((with_reducible refine drawGoal ?_); exact rfl) | (simp only [inR]; omega) | (intro y hy; simp only [List.mem_singleton] at hy; subst hy; rfl) | (intro y hy; cases hy; done) | (simp only [List.length_append, List.length_map, List.length_cons, List.length_nil]; omega) | (intro h; simp only [inR]; omega) | (intro h; simp only [List.length_append, List.length_map, List.length_cons, List.length_nil]; omega) | (intro h; exact h.elim))
  refine hK _ ?_
  clear hK K
  refine PWp.seq_k fun K1 hK1 => ?_
  refine PWp.seq_rg [0, 2, 4, 11] orcV2_ok (mv := mv) (by decide) fun K hK => ?_
  simp only [pwr, pr1, mv, Int.reduceLT, Int.reduceSub, Int.reduceNeg, Int.reduceToNat, ne_eq, reduceIte, reduceCtorEq, Nat.reduceEqDiff, Nat.reduceAdd, Nat.reduceMul, Nat.reduceSub, Nat.reduceLT, Nat.reduceLeDiff, Nat.reduceBEq, if_true, if_false, implies_true, Bool.cond_true, Bool.cond_false, orcV2, c163, c161, c164, uOf_toNat, zf]
  repeat' with_reducible refine And.intro ?_ ?_
  all_goals try (first | exact (ub_bd _).1 | exact (ub_bd _).2 | exact ub_bd _ | omega)
  all_goals try (first | omega | rfl | ((with_reducible refine drawGoal ?_); exact rfl) | (simp only [inR]; omega) | (intro y hy; simp only [List.mem_singleton] at hy; subst hy; rfl) | (intro y hy; cases hy; done) | (simp only [List.length_append, List.length_map, List.length_cons, List.length_nil]; omega) | (intro h; simp only [inR]; omega) | (intro h; simp only [List.length_append, List.length_map, List.length_cons, List.length_nil]; omega) | (intro h; exact h.elim))
  refine hK _ ?_
  clear hK K
  refine PWp.cond (by rfl) (fun hb11 => ?_) (fun hb11 => ?_)
  ·
   try (cases hb11; done)
   all_goals
    refine PWp.seq_rg [2, 3, 4] orcV2_ok (mv := mv) (by decide) fun K hK => ?_
    simp only [pwr, pr1, mv, Int.reduceLT, Int.reduceSub, Int.reduceNeg, Int.reduceToNat, ne_eq, reduceIte, reduceCtorEq, Nat.reduceEqDiff, Nat.reduceAdd, Nat.reduceMul, Nat.reduceSub, Nat.reduceLT, Nat.reduceLeDiff, Nat.reduceBEq, if_true, if_false, implies_true, Bool.cond_true, Bool.cond_false, orcV2, c163, c161, c164, uOf_toNat, zf]
    repeat' with_reducible refine And.intro ?_ ?_
    all_goals try (first | omega | rfl | ((with_reducible refine drawGoal ?_); exact rfl) | (simp only [inR]; omega) | (intro y hy; simp only [List.mem_singleton] at hy; subst hy; rfl) | (intro y hy; cases hy; done) | (simp only [List.length_append, List.length_map, List.length_cons, List.length_nil]; omega) | (intro h; simp only [inR]; omega) | (intro h; simp only [List.length_append, List.length_map, List.length_cons, List.length_nil]; omega) | (intro h; exact h.elim))
    refine hK _ ?_
    clear hK K
    refine PWp.ret (hQ2 _ ?_)
    simp only [pwf, pf1, reduceIte, reduceCtorEq, Nat.reduceEqDiff, Nat.reduceAdd, Nat.reduceMul, Nat.reduceSub, Nat.reduceLT, Nat.reduceLeDiff, Nat.reduceBEq, if_true, if_false, implies_true, Bool.cond_true, Bool.cond_false, zf, Tryz.results132]
    repeat simp only [pwf, pf1, reduceIte, reduceCtorEq, Nat.reduceEqDiff, Nat.reduceAdd, Nat.reduceMul, Nat.reduceSub, Nat.reduceLT, Nat.reduceLeDiff, Nat.reduceBEq, if_true, if_false, implies_true, Bool.cond_true, Bool.cond_false, zf]
    have hc : digitB c = false := by simpa using hb11
    simp [hc]
  ·
   try (cases hb11; done)
   all_goals
    refine PWp.skip (hK1 _ ?_)
    refine PWp.seq_rg [2, 4, 5] orcV2_ok (mv := mv) (by decide) fun K hK => ?_
    simp only [pwr, pr1, mv, Int.reduceLT, Int.reduceSub, Int.reduceNeg, Int.reduceToNat, ne_eq, reduceIte, reduceCtorEq, Nat.reduceEqDiff, Nat.reduceAdd, Nat.reduceMul, Nat.reduceSub, Nat.reduceLT, Nat.reduceLeDiff, Nat.reduceBEq, if_true, if_false, implies_true, Bool.cond_true, Bool.cond_false, orcV2, c163, c161, c164, uOf_toNat, zf]
    repeat' with_reducible refine And.intro ?_ ?_
    all_goals try ((simp only [List.length_cons]; omega))
    all_goals try (first | omega | rfl | ((with_reducible refine drawGoal ?_); exact rfl) | (simp only [inR]; omega) | (intro y hy; simp only [List.mem_singleton] at hy; subst hy; rfl) | (intro y hy; cases hy; done) | (simp only [List.length_append, List.length_map, List.length_cons, List.length_nil]; omega) | (intro h; simp only [inR]; omega) | (intro h; simp only [List.length_append, List.length_map, List.length_cons, List.length_nil]; omega) | (intro h; exact h.elim))
    refine hK _ ?_
    clear hK K
    have hc : digitB c = true := by simpa using hb11
    have hwne : wordB (c :: s) ≠ [] := by
      unfold wordB
      rw [List.takeWhile_cons, if_pos (by rw [hc, Bool.or_true])]
      exact List.cons_ne_nil _ _
    have hwl : (wordB (c :: s)).length ≤ (c :: s).length := (List.takeWhile_sublist _).length_le
    simp only [List.length_cons] at hwl
    refine PWp.seq_rg [2, 4, 5, 6, 7] orcV2_ok (mv := mv) (by decide) fun K hK => ?_
    simp only [pwr, pr1, mv, Int.reduceLT, Int.reduceSub, Int.reduceNeg, Int.reduceToNat, ne_eq, reduceIte, reduceCtorEq, Nat.reduceEqDiff, Nat.reduceAdd, Nat.reduceMul, Nat.reduceSub, Nat.reduceLT, Nat.reduceLeDiff, Nat.reduceBEq, if_true, if_false, implies_true, Bool.cond_true, Bool.cond_false, orcV2, c163, c161, c164, uOf_toNat, zf]
    repeat' with_reducible refine And.intro ?_ ?_
    all_goals try (first | omega | rfl | ((with_reducible refine drawGoal ?_); exact rfl) | (simp only [inR]; omega) | (intro y hy; simp only [List.mem_singleton] at hy; subst hy; rfl) | (intro y hy; cases hy; done) | (simp only [List.length_append, List.length_map, List.length_cons, List.length_nil]; omega) | (intro h; simp only [inR]; omega) | (intro h; simp only [List.length_append, List.length_map, List.length_cons, List.length_nil]; omega) | (intro h; exact h.elim))
    refine hK _ ?_
    clear hK K
    refine PWp.seq_rg [2, 3, 4] orcV2_ok (mv := mv) (by decide) fun K hK => ?_
    simp only [pwr, pr1, mv, Int.reduceLT, Int.reduceSub, Int.reduceNeg, Int.reduceToNat, ne_eq, reduceIte, reduceCtorEq, Nat.reduceEqDiff, Nat.reduceAdd, Nat.reduceMul, Nat.reduceSub, Nat.reduceLT, Nat.reduceLeDiff, Nat.reduceBEq, if_true, if_false, implies_true, Bool.cond_true, Bool.cond_false, orcV2, c163, c161, c164, uOf_toNat, zf]
    repeat' with_reducible refine And.intro ?_ ?_
    all_goals try (first | omega | rfl | ((with_reducible refine drawGoal ?_); exact rfl) | (simp only [inR]; omega) | (intro y hy; simp only [List.mem_singleton] at hy; subst hy; rfl) | (intro y hy; cases hy; done) | (simp only [List.length_append, List.length_map, List.length_cons, List.length_nil]; omega) | (intro h; simp only [inR]; omega) | (intro h; simp only [List.length_append, List.length_map, List.length_cons, List.length_nil]; omega) | (intro h; exact h.elim))
    refine hK _ ?_
    clear hK K
    refine PWp.ret (hQ2 _ ?_)
    simp only [pwf, pf1, reduceIte, reduceCtorEq, Nat.reduceEqDiff, Nat.reduceAdd, Nat.reduceMul, Nat.reduceSub, Nat.reduceLT, Nat.reduceLeDiff, Nat.reduceBEq, if_true, if_false, implies_true, Bool.cond_true, Bool.cond_false, zf, Tryz.results132]
    repeat simp only [pwf, pf1, reduceIte, reduceCtorEq, Nat.reduceEqDiff, Nat.reduceAdd, Nat.reduceMul, Nat.reduceSub, Nat.reduceLT, Nat.reduceLeDiff, Nat.reduceBEq, if_true, if_false, implies_true, Bool.cond_true, Bool.cond_false, zf]
    simp [hc, numbers]
end Go.Pw.L21
