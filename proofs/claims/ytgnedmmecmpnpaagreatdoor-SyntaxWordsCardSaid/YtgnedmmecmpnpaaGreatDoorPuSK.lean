/- The lexer: the scanner's steps. -/
import Derived.Test.YtgnedmmecmpnpaaGreatDoorPuSH
import Derived.Lib.IndexAny
set_option linter.unusedSimpArgs false
set_option linter.unusedVariables false
set_option linter.unusedSectionVars false
set_option maxHeartbeats 4000000
set_option maxRecDepth 20000
namespace Go.Pw.L21
open Go.Proofs Go.Pw
abbrev scB (r : Bs) (p : Int × Int) : List AV := [.pv (.str r), .pv (.int .i64 p.1), .pv (.int .i64 p.2)]
theorem t25 (r : Bs) (n : Nat) (l c : Int) (hr : r.length ≤ 100000) (hn : n ≤ r.length) (hl : 1 ≤ l ∧ l ≤ 1000000) (hc : 1 ≤ c ∧ c ≤ 1000000) : PCalls Tryz.prog 69 [(.S 0, .av (.ptr 0 0 0)), (.S 1, .av (.pv (.int .i64 (n : Int)))), (.B 0, .bx 0 (scB r (l, c)))] [(.B 0, .bx 0 (scB (r.drop n) (adv (l, c) (r.take n))))] := by
  refine PCalls.of_k Tryz.func69 (by decide) rfl fun Q hQ1 hQ2 => ?_
  refine PWp.seq_k fun K1 hK1 => ?_
  refine PWp.seq_rg [0, 1, 5, 6] orc0_ok (mv := mv) (by decide) fun K hK => ?_
  simp only [pwr, pr1, mv, Int.reduceLT, Int.reduceSub, Int.reduceNeg, Int.reduceToNat, ne_eq, reduceIte, reduceCtorEq, Nat.reduceEqDiff, Nat.reduceAdd, Nat.reduceMul, Nat.reduceSub, Nat.reduceLT, Nat.reduceLeDiff, Nat.reduceBEq, if_true, if_false, implies_true, Bool.cond_true, Bool.cond_false, orc0, zf]
  repeat' with_reducible refine And.intro ?_ ?_
  all_goals try (first | omega | rfl | ((with_reducible refine drawGoal ?_); exact rfl) | (simp only [inR]; omega) | (intro y hy; simp only [List.mem_singleton] at hy; subst hy; rfl) | (intro y hy; cases hy; done) | (simp only [List.length_append, List.length_map, List.length_cons, List.length_nil]; omega) | (intro h; simp only [inR]; omega) | (intro h; simp only [List.length_append, List.length_map, List.length_cons, List.length_nil]; omega) | (intro h; exact h.elim))
  refine hK _ ?_
  clear hK K
  refine PWp.block_k fun Qq2 hq2n hq2x hq2r hq2e => ?_
  refine PWp.loop_k (fun i : Nat => [(.S 0, .av (.ptr 0 0 0)), (.S 1, .av (.pv (.int .i64 (n : Int)))), (.S 5, .av (.pv (.int .i64 (n : Int)))), (.S 6, .av (.pv (.int .i64 (i : Int)))), (.B 0, .bx 0 (scB r (adv (l, c) (r.take i))))]) (fun i => i ≤ n) (fun i => n - i) (0) (Nat.zero_le _) ?_ ?_
  · repeat simp only [pwf, pf1, reduceIte, reduceCtorEq, Nat.reduceEqDiff, Nat.reduceAdd, Nat.reduceMul, Nat.reduceSub, Nat.reduceLT, Nat.reduceLeDiff, Nat.reduceBEq, if_true, if_false, implies_true, Bool.cond_true, Bool.cond_false, zf]
    first | done | trivial | rfl | (simp; done)
  rintro i hi J1 hJ1
  refine PWp.seq_rg [0, 1, 5, 6, 7] orc0_ok (mv := mv) (by decide) fun K hK => ?_
  simp only [pwr, pr1, mv, Int.reduceLT, Int.reduceSub, Int.reduceNeg, Int.reduceToNat, ne_eq, reduceIte, reduceCtorEq, Nat.reduceEqDiff, Nat.reduceAdd, Nat.reduceMul, Nat.reduceSub, Nat.reduceLT, Nat.reduceLeDiff, Nat.reduceBEq, if_true, if_false, implies_true, Bool.cond_true, Bool.cond_false, orc0, zf]
  repeat' with_reducible refine And.intro ?_ ?_
  all_goals try (first | omega | rfl | ((with_reducible refine drawGoal ?_); exact rfl) | (simp only [inR]; omega) | (intro y hy; simp only [List.mem_singleton] at hy; subst hy; rfl) | (intro y hy; cases hy; done) | (simp only [List.length_append, List.length_map, List.length_cons, List.length_nil]; omega) | (intro h; simp only [inR]; omega) | (intro h; simp only [List.length_append, List.length_map, List.length_cons, List.length_nil]; omega) | (intro h; exact h.elim))
  refine hK _ ?_
  clear hK K
  refine PWp.seq_k fun K3 hK3 => ?_
  refine PWp.cond (by rfl) (fun hb7 => ?_) (fun hb7 => ?_)
  ·
   try (cases hb7; done)
   all_goals
    refine PWp.skip (hK3 _ ?_)
    refine PWp.seq_k fun K4 hK4 => ?_
    refine PWp.block_k fun Qq5 hq5n hq5x hq5r hq5e => ?_
    have hin : i < n := by have := of_decide_eq_true hb7; omega
    have hir : i < r.length := by omega
    have hbd := adv_bd (s := r.take i) (p := (l, c)) hl.1 hc.1
    simp only [List.length_take] at hbd
    have es := adv_snoc (p := (l, c)) hir
    obtain ⟨p1, p2, hp⟩ : ∃ p1 p2, adv (l, c) (r.take i) = (p1, p2) := ⟨_, _, rfl⟩
    rw [hp] at es hbd ⊢
    simp only at hbd
    refine PWp.seq_rg [0, 1, 4, 5, 6] orc0_ok (mv := mv) (by decide) fun K hK => ?_
    simp only [pwr, pr1, mv, Int.reduceLT, Int.reduceSub, Int.reduceNeg, Int.reduceToNat, ne_eq, reduceIte, reduceCtorEq, Nat.reduceEqDiff, Nat.reduceAdd, Nat.reduceMul, Nat.reduceSub, Nat.reduceLT, Nat.reduceLeDiff, Nat.reduceBEq, if_true, if_false, implies_true, Bool.cond_true, Bool.cond_false, orc0, zf]
    repeat' with_reducible refine And.intro ?_ ?_
    all_goals try (first | omega | rfl | ((with_reducible refine drawGoal ?_); exact rfl) | (simp only [inR]; omega) | (intro y hy; simp only [List.mem_singleton] at hy; subst hy; rfl) | (intro y hy; cases hy; done) | (simp only [List.length_append, List.length_map, List.length_cons, List.length_nil]; omega) | (intro h; simp only [inR]; omega) | (intro h; simp only [List.length_append, List.length_map, List.length_cons, List.length_nil]; omega) | (intro h; exact h.elim))
    refine hK _ ?_
    clear hK K
    refine PWp.seq_rg [0, 1, 4, 5, 6] orc0_ok (mv := mv) (by decide) fun K hK => ?_
    simp only [pwr, pr1, mv, Int.reduceLT, Int.reduceSub, Int.reduceNeg, Int.reduceToNat, ne_eq, reduceIte, reduceCtorEq, Nat.reduceEqDiff, Nat.reduceAdd, Nat.reduceMul, Nat.reduceSub, Nat.reduceLT, Nat.reduceLeDiff, Nat.reduceBEq, if_true, if_false, implies_true, Bool.cond_true, Bool.cond_false, orc0, zf]
    repeat' with_reducible refine And.intro ?_ ?_
    all_goals try (first | omega | (simp only [inR]; omega))
    all_goals try (first | omega | rfl | ((with_reducible refine drawGoal ?_); exact rfl) | (simp only [inR]; omega) | (intro y hy; simp only [List.mem_singleton] at hy; subst hy; rfl) | (intro y hy; cases hy; done) | (simp only [List.length_append, List.length_map, List.length_cons, List.length_nil]; omega) | (intro h; simp only [inR]; omega) | (intro h; simp only [List.length_append, List.length_map, List.length_cons, List.length_nil]; omega) | (intro h; exact h.elim))
    refine hK _ ?_
    clear hK K
    obtain ⟨x, hx⟩ : ∃ x, r.getD i 0 = x := ⟨_, rfl⟩
    have hxi : r[i] = x := by rw [← hx, getN hir]
    rw [hxi] at es
    refine PWp.seq_rg [0, 1, 5, 6, 22] orc0_ok (mv := mv) (by decide) fun K hK => ?_
    simp only [pwr, pr1, mv, Int.reduceLT, Int.reduceSub, Int.reduceNeg, Int.reduceToNat, ne_eq, reduceIte, reduceCtorEq, Nat.reduceEqDiff, Nat.reduceAdd, Nat.reduceMul, Nat.reduceSub, Nat.reduceLT, Nat.reduceLeDiff, Nat.reduceBEq, if_true, if_false, implies_true, Bool.cond_true, Bool.cond_false, orc0, zf, hx]
    repeat' with_reducible refine And.intro ?_ ?_
    all_goals try (first | omega | exact ub_bd _ | exact (ub_bd _).1 | exact (ub_bd _).2)
    all_goals try (first | omega | rfl | ((with_reducible refine drawGoal ?_); exact rfl) | (simp only [inR]; omega) | (intro y hy; simp only [List.mem_singleton] at hy; subst hy; rfl) | (intro y hy; cases hy; done) | (simp only [List.length_append, List.length_map, List.length_cons, List.length_nil]; omega) | (intro h; simp only [inR]; omega) | (intro h; simp only [List.length_append, List.length_map, List.length_cons, List.length_nil]; omega) | (intro h; exact h.elim))
    refine hK _ ?_
    clear hK K
    refine PWp.cond (by rfl) (fun hb22 => ?_) (fun hb22 => ?_)
    ·
     try (cases hb22; done)
     all_goals
      refine PWp.rg [0, 1, 5, 6] orc0_ok (mv := mv) (by decide) ?_
      simp only [pwr, pr1, mv, Int.reduceLT, Int.reduceSub, Int.reduceNeg, Int.reduceToNat, ne_eq, reduceIte, reduceCtorEq, Nat.reduceEqDiff, Nat.reduceAdd, Nat.reduceMul, Nat.reduceSub, Nat.reduceLT, Nat.reduceLeDiff, Nat.reduceBEq, if_true, if_false, implies_true, Bool.cond_true, Bool.cond_false, orc0, zf]
      repeat' with_reducible refine And.intro ?_ ?_
      all_goals try (first | omega | (simp only [inR]; omega))
      all_goals try (first | omega | rfl | ((with_reducible refine drawGoal ?_); exact rfl) | (simp only [inR]; omega) | (intro y hy; simp only [List.mem_singleton] at hy; subst hy; rfl) | (intro y hy; cases hy; done) | (simp only [List.length_append, List.length_map, List.length_cons, List.length_nil]; omega) | (intro h; simp only [inR]; omega) | (intro h; simp only [List.length_append, List.length_map, List.length_cons, List.length_nil]; omega) | (intro h; exact h.elim))
      refine hq5n _ (hK4 _ ?_)
      refine PWp.rg [0, 1, 5, 6] orc0_ok (mv := mv) (by decide) ?_
      simp only [pwr, pr1, mv, Int.reduceLT, Int.reduceSub, Int.reduceNeg, Int.reduceToNat, ne_eq, reduceIte, reduceCtorEq, Nat.reduceEqDiff, Nat.reduceAdd, Nat.reduceMul, Nat.reduceSub, Nat.reduceLT, Nat.reduceLeDiff, Nat.reduceBEq, if_true, if_false, implies_true, Bool.cond_true, Bool.cond_false, orc0, zf]
      repeat' with_reducible refine And.intro ?_ ?_
      all_goals try (first | omega | rfl | ((with_reducible refine drawGoal ?_); exact rfl) | (simp only [inR]; omega) | (intro y hy; simp only [List.mem_singleton] at hy; subst hy; rfl) | (intro y hy; cases hy; done) | (simp only [List.length_append, List.length_map, List.length_cons, List.length_nil]; omega) | (intro h; simp only [inR]; omega) | (intro h; simp only [List.length_append, List.length_map, List.length_cons, List.length_nil]; omega) | (intro h; exact h.elim))
      refine hJ1 _ (i + 1) ?_ ?_ ?_
      · show i + 1 ≤ n
        omega
      · omega
      · repeat simp only [pwf, pf1, reduceIte, reduceCtorEq, Nat.reduceEqDiff, Nat.reduceAdd, Nat.reduceMul, Nat.reduceSub, Nat.reduceLT, Nat.reduceLeDiff, Nat.reduceBEq, if_true, if_false, implies_true, Bool.cond_true, Bool.cond_false, zf]
        have h10 : x = 10 := by have h1 : (x.toNat : Int) = 10 := by simpa using hb22
                                exact UInt8.toNat_inj.1 (by simp only [UInt8.reduceToNat]; omega)
        rw [es]
        unfold stepP
        rw [if_pos h10]
        simp
    ·
     try (cases hb22; done)
     all_goals
      refine PWp.skip (hq5n _ (hK4 _ ?_))
      refine PWp.rg [0, 1, 5, 6] orc0_ok (mv := mv) (by decide) ?_
      simp only [pwr, pr1, mv, Int.reduceLT, Int.reduceSub, Int.reduceNeg, Int.reduceToNat, ne_eq, reduceIte, reduceCtorEq, Nat.reduceEqDiff, Nat.reduceAdd, Nat.reduceMul, Nat.reduceSub, Nat.reduceLT, Nat.reduceLeDiff, Nat.reduceBEq, if_true, if_false, implies_true, Bool.cond_true, Bool.cond_false, orc0, zf]
      repeat' with_reducible refine And.intro ?_ ?_
      all_goals try (first | omega | rfl | ((with_reducible refine drawGoal ?_); exact rfl) | (simp only [inR]; omega) | (intro y hy; simp only [List.mem_singleton] at hy; subst hy; rfl) | (intro y hy; cases hy; done) | (simp only [List.length_append, List.length_map, List.length_cons, List.length_nil]; omega) | (intro h; simp only [inR]; omega) | (intro h; simp only [List.length_append, List.length_map, List.length_cons, List.length_nil]; omega) | (intro h; exact h.elim))
      refine hJ1 _ (i + 1) ?_ ?_ ?_
      · show i + 1 ≤ n
        omega
      · omega
      · repeat simp only [pwf, pf1, reduceIte, reduceCtorEq, Nat.reduceEqDiff, Nat.reduceAdd, Nat.reduceMul, Nat.reduceSub, Nat.reduceLT, Nat.reduceLeDiff, Nat.reduceBEq, if_true, if_false, implies_true, Bool.cond_true, Bool.cond_false, zf]
        have h10 : x ≠ 10 := by rintro rfl; cases hb22
        rw [es]
        unfold stepP
        rw [if_neg h10]
        simp
  ·
   try (cases hb7; done)
   all_goals
    refine PWp.exit (hq2x _ (hK1 _ ?_))
    have hin : i = n := by have := of_decide_eq_false hb7; omega
    subst hin
    refine PWp.rg [] orc0_ok (mv := mv) (by decide) ?_
    simp only [pwr, pr1, mv, Int.reduceLT, Int.reduceSub, Int.reduceNeg, Int.reduceToNat, ne_eq, reduceIte, reduceCtorEq, Nat.reduceEqDiff, Nat.reduceAdd, Nat.reduceMul, Nat.reduceSub, Nat.reduceLT, Nat.reduceLeDiff, Nat.reduceBEq, if_true, if_false, implies_true, Bool.cond_true, Bool.cond_false, orc0, zf]
    repeat' with_reducible refine And.intro ?_ ?_
    all_goals try (omega)
    all_goals try (first | omega | rfl | ((with_reducible refine drawGoal ?_); exact rfl) | (simp only [inR]; omega) | (intro y hy; simp only [List.mem_singleton] at hy; subst hy; rfl) | (intro y hy; cases hy; done) | (simp only [List.length_append, List.length_map, List.length_cons, List.length_nil]; omega) | (intro h; simp only [inR]; omega) | (intro h; simp only [List.length_append, List.length_map, List.length_cons, List.length_nil]; omega) | (intro h; exact h.elim))
    refine hQ1 _ ?_
    simp only [pwf, pf1, reduceIte, reduceCtorEq, Nat.reduceEqDiff, Nat.reduceAdd, Nat.reduceMul, Nat.reduceSub, Nat.reduceLT, Nat.reduceLeDiff, Nat.reduceBEq, if_true, if_false, implies_true, Bool.cond_true, Bool.cond_false, zf, Tryz.results69]
    repeat simp only [pwf, pf1, reduceIte, reduceCtorEq, Nat.reduceEqDiff, Nat.reduceAdd, Nat.reduceMul, Nat.reduceSub, Nat.reduceLT, Nat.reduceLeDiff, Nat.reduceBEq, if_true, if_false, implies_true, Bool.cond_true, Bool.cond_false, zf]
    first | done | rfl | (simp; done) | trace_state
def c69 : St → Option (Prop × St)
  | [(.S 0, .av (.ptr 0 0 0)), (.S 1, .av (.pv (.int .i64 n))), (.B 0, .bx 0 [.pv (.str r), .pv (.int .i64 l), .pv (.int .i64 c)])] =>
    some (0 ≤ n ∧ r.length ≤ 100000 ∧ n.toNat ≤ r.length ∧ (1 ≤ l ∧ l ≤ 1000000) ∧ 1 ≤ c ∧ c ≤ 1000000, [(.B 0, .bx 0 (scB (r.drop n.toNat) (adv (l, c) (r.take n.toNat))))])
  | _ => none
theorem p69 {In Ret : St} {pre : Prop} (h : c69 In = some (pre, Ret)) (hp : pre) : PCalls Tryz.prog 69 In Ret := by
  unfold c69 at h
  split at h
  · rename_i n r l c
    cases h
    have := t25 r n.toNat l c hp.2.1 hp.2.2.1 hp.2.2.2.1 hp.2.2.2.2
    rw [Int.toNat_of_nonneg hp.1] at this
    exact this
  · cases h
def c103 : St → Option (Prop × St)
  | [(.S 0, .av (.pv (.str s))), (.S 1, .av (.pv (.str p)))] => some (s.length ≤ 1000000, [(.S 0, .av (.pv (.bool (decide (s.take p.length = p)))))])
  | _ => none
theorem p103 {In Ret : St} {pre : Prop} (h : c103 In = some (pre, Ret)) (hp : pre) : PCalls Tryz.prog 103 In Ret := by
  unfold c103 at h
  split at h
  · cases h; exact t38 _ _ hp
  · cases h
def c104 : St → Option (Prop × St)
  | [(.S 0, .av (.pv (.str s))), (.S 1, .av (.pv (.str sep)))] => some (s.length ≤ 1000000, [(.S 0, .av (.tup [.pv (.str (Lib.cut s sep).1), .pv (.str (Lib.cut s sep).2.1), .pv (.bool (Lib.cut s sep).2.2)]))])
  | _ => none
theorem p104 {In Ret : St} {pre : Prop} (h : c104 In = some (pre, Ret)) (hp : pre) : PCalls Tryz.prog 104 In Ret := by
  unfold c104 at h
  split at h
  · cases h; exact tCut _ _ hp
  · cases h
theorem ib_blank (x : UInt8) : (0 ≤ Lib.indexByte [32, 9, 10] x) ↔ (x = 32 ∨ x = 9 ∨ x = 10) := by
  have := Lib.contains_iff_indexByte [32, 9, 10] x
  rw [← decide_eq_true_iff (p := 0 ≤ _), ← this, List.contains_iff_mem]
  simp
theorem adv_two (p : Int × Int) (r : Bs) (k n : Nat) : adv ((adv p (r.take k)).1, (adv p (r.take k)).2) ((r.drop k).take n) = adv p (r.take (k + n)) := by
  rw [List.take_add, adv_app]
def orcK1 : Orc := fun f In => if f = 69 then c69 In else if f = 84 then c84 In else if f = 103 then c103 In else if f = 104 then c104 In else none
theorem orcK1_ok : OrcOk Tryz.prog orcK1 := by
  intro f In pre Ret h hp
  unfold orcK1 at h
  split at h
  · subst f; exact p69 h hp
  split at h
  · subst f; exact p84 h hp
  split at h
  · subst f; exact p103 h hp
  split at h
  · subst f; exact p104 h hp
  cases h
theorem t23 (r : Bs) (l c : Int) (hr : r.length ≤ 20000) (hl : 1 ≤ l ∧ l ≤ 100000) (hc : 1 ≤ c ∧ c ≤ 100000) : PCalls Tryz.prog 67 [(.S 0, .av (.ptr 0 0 0)), (.B 0, .bx 0 (scB r (l, c)))] [(.B 0, .bx 0 (scB (skipS false r) (adv (l, c) (r.take (r.length - (skipS false r).length)))))] := by
  refine PCalls.of_k Tryz.func67 (by decide) rfl fun Q hQ1 hQ2 => ?_
  refine PWp.block_l fun Qq1 hq1n hq1x hq1r hq1e => ?_
  refine PWp.loop_k (fun k : Nat => [(.S 0, .av (.ptr 0 0 0)), (.B 0, .bx 0 (scB (r.drop k) (adv (l, c) (r.take k))))]) (fun k => k ≤ r.length ∧ skipS false (r.drop k) = skipS false r) (fun k => r.length - k) (0) (⟨Nat.zero_le _, rfl⟩) ?_ ?_
  · repeat simp only [pwf, pf1, reduceIte, reduceCtorEq, Nat.reduceEqDiff, Nat.reduceAdd, Nat.reduceMul, Nat.reduceSub, Nat.reduceLT, Nat.reduceLeDiff, Nat.reduceBEq, if_true, if_false, implies_true, Bool.cond_true, Bool.cond_false, zf, adv_two, List.drop_drop, Int.reduceToNat, Int.toNat_natCast]
    first | done | trivial | rfl | (simp; done)
  rintro k ⟨hk, hsk⟩ J1 hJ1
  refine PWp.seq_k fun K2 hK2 => ?_
  refine PWp.seq_rg [0, 9] orcK1_ok (mv := mv) (by decide) fun K hK => ?_
  simp only [pwr, pr1, mv, Int.reduceLT, Int.reduceSub, Int.reduceNeg, Int.reduceToNat, ne_eq, reduceIte, reduceCtorEq, Nat.reduceEqDiff, Nat.reduceAdd, Nat.reduceMul, Nat.reduceSub, Nat.reduceLT, Nat.reduceLeDiff, Nat.reduceBEq, if_true, if_false, implies_true, Bool.cond_true, Bool.cond_false, orcK1, c69, c84, c103, c104, zf, adv_two, List.drop_drop, Int.reduceToNat, Int.toNat_natCast]
  repeat' with_reducible refine And.intro ?_ ?_
  all_goals try (first | omega | rfl | ((with_reducible refine drawGoal ?_); exact rfl) | (simp only [inR]; omega) | (intro y hy; simp only [List.mem_singleton] at hy; subst hy; rfl) | (intro y hy; cases hy; done) | (simp only [List.length_append, List.length_map, List.length_cons, List.length_nil]; omega) | (intro h; simp only [inR]; omega) | (intro h; simp only [List.length_append, List.length_map, List.length_cons, List.length_nil]; omega) | (intro h; exact h.elim))
  refine hK _ ?_
  clear hK K
  refine PWp.cond (by rfl) (fun hb9 => ?_) (fun hb9 => ?_)
  ·
   try (cases hb9; done)
   all_goals
    refine PWp.skip (hK2 _ ?_)
    refine PWp.block_k fun Qq3 hq3n hq3x hq3r hq3e => ?_
    refine PWp.block_l fun Qq4 hq4n hq4x hq4r hq4e => ?_
    have hne : r.drop k ≠ [] := by simpa using hb9
    obtain ⟨x, d, hd⟩ : ∃ x d, r.drop k = x :: d := by
      cases h : r.drop k with
      | nil => exact absurd h hne
      | cons x d => exact ⟨x, d, rfl⟩
    have hdl : (r.drop k).length = d.length + 1 := by rw [hd]; rfl
    have hdl2 := hdl
    rw [List.length_drop] at hdl2
    have hg : (r.drop k).getD 0 0 = x := by rw [hd]; rfl
    have hxx : x.toNat.toUInt8 = x := by simp
    have hbd := adv_bd (s := r.take k) (p := (l, c)) hl.1 hc.1
    simp only [List.length_take] at hbd
    refine PWp.seq_rg [0, 10] orcK1_ok (mv := mv) (by decide) fun K hK => ?_
    simp only [pwr, pr1, mv, Int.reduceLT, Int.reduceSub, Int.reduceNeg, Int.reduceToNat, ne_eq, reduceIte, reduceCtorEq, Nat.reduceEqDiff, Nat.reduceAdd, Nat.reduceMul, Nat.reduceSub, Nat.reduceLT, Nat.reduceLeDiff, Nat.reduceBEq, if_true, if_false, implies_true, Bool.cond_true, Bool.cond_false, orcK1, c69, c84, c103, c104, zf, adv_two, List.drop_drop, Int.reduceToNat, Int.toNat_natCast, hg, hxx]
    repeat' with_reducible refine And.intro ?_ ?_
    all_goals try (first | omega | exact ub_bd _ | exact (ub_bd _).1 | exact (ub_bd _).2)
    all_goals try (first | omega | rfl | ((with_reducible refine drawGoal ?_); exact rfl) | (simp only [inR]; omega) | (intro y hy; simp only [List.mem_singleton] at hy; subst hy; rfl) | (intro y hy; cases hy; done) | (simp only [List.length_append, List.length_map, List.length_cons, List.length_nil]; omega) | (intro h; simp only [inR]; omega) | (intro h; simp only [List.length_append, List.length_map, List.length_cons, List.length_nil]; omega) | (intro h; exact h.elim))
    refine hK _ ?_
    clear hK K
    refine PWp.cond (by rfl) (fun hb10 => ?_) (fun hb10 => ?_)
    ·
     try (cases hb10; done)
     all_goals
      refine PWp.rg [0] orcK1_ok (mv := mv) (by decide) ?_
      simp only [pwr, pr1, mv, Int.reduceLT, Int.reduceSub, Int.reduceNeg, Int.reduceToNat, ne_eq, reduceIte, reduceCtorEq, Nat.reduceEqDiff, Nat.reduceAdd, Nat.reduceMul, Nat.reduceSub, Nat.reduceLT, Nat.reduceLeDiff, Nat.reduceBEq, if_true, if_false, implies_true, Bool.cond_true, Bool.cond_false, orcK1, c69, c84, c103, c104, zf, adv_two, List.drop_drop, Int.reduceToNat, Int.toNat_natCast]
      repeat' with_reducible refine And.intro ?_ ?_
      all_goals try (first | omega | (refine ⟨?_, ?_, ?_, ?_, ?_⟩ <;> omega))
      all_goals try (first | omega | rfl | ((with_reducible refine drawGoal ?_); exact rfl) | (simp only [inR]; omega) | (intro y hy; simp only [List.mem_singleton] at hy; subst hy; rfl) | (intro y hy; cases hy; done) | (simp only [List.length_append, List.length_map, List.length_cons, List.length_nil]; omega) | (intro h; simp only [inR]; omega) | (intro h; simp only [List.length_append, List.length_map, List.length_cons, List.length_nil]; omega) | (intro h; exact h.elim))
      refine hq4n _ (hq3n _ (hJ1 _ (k + 1) ?_ ?_ ?_))
      · have hx : x = 32 ∨ x = 9 ∨ x = 10 := (ib_blank x).1 (of_decide_eq_true hb10)
        refine ⟨by omega, ?_⟩
        rw [← hsk, hd, skip_blank hx, ← List.drop_drop, hd]
        rfl
      · omega
      · repeat simp only [pwf, pf1, reduceIte, reduceCtorEq, Nat.reduceEqDiff, Nat.reduceAdd, Nat.reduceMul, Nat.reduceSub, Nat.reduceLT, Nat.reduceLeDiff, Nat.reduceBEq, if_true, if_false, implies_true, Bool.cond_true, Bool.cond_false, zf, adv_two, List.drop_drop, Int.reduceToNat, Int.toNat_natCast]
    ·
     try (cases hb10; done)
     all_goals
      have hx : ¬ (x = 32 ∨ x = 9 ∨ x = 10) := fun h => absurd ((ib_blank x).2 h) (of_decide_eq_false hb10)
      refine PWp.seq_rg [0, 20] orcK1_ok (mv := mv) (by decide) fun K hK => ?_
      simp only [pwr, pr1, mv, Int.reduceLT, Int.reduceSub, Int.reduceNeg, Int.reduceToNat, ne_eq, reduceIte, reduceCtorEq, Nat.reduceEqDiff, Nat.reduceAdd, Nat.reduceMul, Nat.reduceSub, Nat.reduceLT, Nat.reduceLeDiff, Nat.reduceBEq, if_true, if_false, implies_true, Bool.cond_true, Bool.cond_false, orcK1, c69, c84, c103, c104, zf, adv_two, List.drop_drop, Int.reduceToNat, Int.toNat_natCast]
      repeat' with_reducible refine And.intro ?_ ?_
      all_goals try (omega)
      all_goals try (first | omega | rfl | ((with_reducible refine drawGoal ?_); exact rfl) | (simp only [inR]; omega) | (intro y hy; simp only [List.mem_singleton] at hy; subst hy; rfl) | (intro y hy; cases hy; done) | (simp only [List.length_append, List.length_map, List.length_cons, List.length_nil]; omega) | (intro h; simp only [inR]; omega) | (intro h; simp only [List.length_append, List.length_map, List.length_cons, List.length_nil]; omega) | (intro h; exact h.elim))
      refine hK _ ?_
      clear hK K
      refine PWp.cond (by rfl) (fun hb20 => ?_) (fun hb20 => ?_)
      ·
       try (cases hb20; done)
       all_goals
        have h47 : (r.drop k).take 2 = [47, 47] := of_decide_eq_true hb20
        obtain ⟨hs1, hs2⟩ := skip_line h47
        have hll := line_len (r.drop k)
        refine PWp.seq_rg [0, 2] orcK1_ok (mv := mv) (by decide) fun K hK => ?_
        simp only [pwr, pr1, mv, Int.reduceLT, Int.reduceSub, Int.reduceNeg, Int.reduceToNat, ne_eq, reduceIte, reduceCtorEq, Nat.reduceEqDiff, Nat.reduceAdd, Nat.reduceMul, Nat.reduceSub, Nat.reduceLT, Nat.reduceLeDiff, Nat.reduceBEq, if_true, if_false, implies_true, Bool.cond_true, Bool.cond_false, orcK1, c69, c84, c103, c104, zf, adv_two, List.drop_drop, Int.reduceToNat, Int.toNat_natCast]
        repeat' with_reducible refine And.intro ?_ ?_
        all_goals try (omega)
        all_goals try (first | omega | rfl | ((with_reducible refine drawGoal ?_); exact rfl) | (simp only [inR]; omega) | (intro y hy; simp only [List.mem_singleton] at hy; subst hy; rfl) | (intro y hy; cases hy; done) | (simp only [List.length_append, List.length_map, List.length_cons, List.length_nil]; omega) | (intro h; simp only [inR]; omega) | (intro h; simp only [List.length_append, List.length_map, List.length_cons, List.length_nil]; omega) | (intro h; exact h.elim))
        refine hK _ ?_
        clear hK K
        refine PWp.rg [0] orcK1_ok (mv := mv) (by decide) ?_
        simp only [pwr, pr1, mv, Int.reduceLT, Int.reduceSub, Int.reduceNeg, Int.reduceToNat, ne_eq, reduceIte, reduceCtorEq, Nat.reduceEqDiff, Nat.reduceAdd, Nat.reduceMul, Nat.reduceSub, Nat.reduceLT, Nat.reduceLeDiff, Nat.reduceBEq, if_true, if_false, implies_true, Bool.cond_true, Bool.cond_false, orcK1, c69, c84, c103, c104, zf, adv_two, List.drop_drop, Int.reduceToNat, Int.toNat_natCast]
        repeat' with_reducible refine And.intro ?_ ?_
        all_goals try (first | omega | (refine ⟨?_, ?_, ?_, ?_, ?_⟩ <;> omega))
        all_goals try (first | omega | rfl | ((with_reducible refine drawGoal ?_); exact rfl) | (simp only [inR]; omega) | (intro y hy; simp only [List.mem_singleton] at hy; subst hy; rfl) | (intro y hy; cases hy; done) | (simp only [List.length_append, List.length_map, List.length_cons, List.length_nil]; omega) | (intro h; simp only [inR]; omega) | (intro h; simp only [List.length_append, List.length_map, List.length_cons, List.length_nil]; omega) | (intro h; exact h.elim))
        refine hq4n _ (hq3n _ (hJ1 _ (k + (Lib.cut (r.drop k) [10]).1.length) ?_ ?_ ?_))
        · refine ⟨by omega, ?_⟩
          rw [← hsk, hs1, List.drop_drop]
        · omega
        · repeat simp only [pwf, pf1, reduceIte, reduceCtorEq, Nat.reduceEqDiff, Nat.reduceAdd, Nat.reduceMul, Nat.reduceSub, Nat.reduceLT, Nat.reduceLeDiff, Nat.reduceBEq, if_true, if_false, implies_true, Bool.cond_true, Bool.cond_false, zf, adv_two, List.drop_drop, Int.reduceToNat, Int.toNat_natCast]
      ·
       try (cases hb20; done)
       all_goals
        refine PWp.ret (hq4r _ (hq3r _ (hq1r _ (hQ2 _ ?_))))
        simp only [pwf, pf1, reduceIte, reduceCtorEq, Nat.reduceEqDiff, Nat.reduceAdd, Nat.reduceMul, Nat.reduceSub, Nat.reduceLT, Nat.reduceLeDiff, Nat.reduceBEq, if_true, if_false, implies_true, Bool.cond_true, Bool.cond_false, zf, adv_two, List.drop_drop, Int.reduceToNat, Int.toNat_natCast, Tryz.results67]
        repeat simp only [pwf, pf1, reduceIte, reduceCtorEq, Nat.reduceEqDiff, Nat.reduceAdd, Nat.reduceMul, Nat.reduceSub, Nat.reduceLT, Nat.reduceLeDiff, Nat.reduceBEq, if_true, if_false, implies_true, Bool.cond_true, Bool.cond_false, zf, adv_two, List.drop_drop, Int.reduceToNat, Int.toNat_natCast]
        have h47 : ¬ (r.drop k).take 2 = [47, 47] := of_decide_eq_false hb20
        have hn := skip_none (c := x) (s := d) hx (by rw [← hd]; exact h47)
        rw [← hd, hsk] at hn
        have ek : r.length - (skipS false r).length = k := by rw [hn, List.length_drop]; omega
        rw [ek, hn]
        simp
  ·
   try (cases hb9; done)
   all_goals
    refine PWp.exit (hq1x _ (hQ1 _ ?_))
    simp only [pwf, pf1, reduceIte, reduceCtorEq, Nat.reduceEqDiff, Nat.reduceAdd, Nat.reduceMul, Nat.reduceSub, Nat.reduceLT, Nat.reduceLeDiff, Nat.reduceBEq, if_true, if_false, implies_true, Bool.cond_true, Bool.cond_false, zf, adv_two, List.drop_drop, Int.reduceToNat, Int.toNat_natCast, Tryz.results67]
    repeat simp only [pwf, pf1, reduceIte, reduceCtorEq, Nat.reduceEqDiff, Nat.reduceAdd, Nat.reduceMul, Nat.reduceSub, Nat.reduceLT, Nat.reduceLeDiff, Nat.reduceBEq, if_true, if_false, implies_true, Bool.cond_true, Bool.cond_false, zf, adv_two, List.drop_drop, Int.reduceToNat, Int.toNat_natCast]
    have hne : r.drop k = [] := by simpa using hb9
    have hn : skipS false r = [] := by rw [← hsk, hne]; rfl
    have hkl := List.drop_eq_nil_iff.1 hne
    have ek : r.length - (skipS false r).length = k := by rw [hn]; simp; omega
    rw [ek, hn, hne]
    simp
def kRow (f : FuncId) : List PV := [.raw (.func (.func f) #[] #[])]
theorem t40 : PCalls Tryz.prog 105 [] [(.S 0, .av (.pv (.sl [kRow 131, kRow 132, kRow 133, kRow 134, kRow 135])))] := by
  refine PCalls.of_k Tryz.func105 (by decide) rfl fun Q hQ1 hQ2 => ?_
  refine PWp.seq_rg [] orc0_ok (mv := mv) (by decide) fun K hK => ?_
  simp only [pwr, pr1, mv, Int.reduceLT, Int.reduceSub, Int.reduceNeg, Int.reduceToNat, ne_eq, reduceIte, reduceCtorEq, Nat.reduceEqDiff, Nat.reduceAdd, Nat.reduceMul, Nat.reduceSub, Nat.reduceLT, Nat.reduceLeDiff, Nat.reduceBEq, if_true, if_false, implies_true, Bool.cond_true, Bool.cond_false, orc0, zf]
  repeat' with_reducible refine And.intro ?_ ?_
  all_goals try (first | omega | rfl | ((with_reducible refine drawGoal ?_); exact rfl) | (simp only [inR]; omega) | (intro y hy; simp only [List.mem_singleton] at hy; subst hy; rfl) | (intro y hy; cases hy; done) | (simp only [List.length_append, List.length_map, List.length_cons, List.length_nil]; omega) | (intro h; simp only [inR]; omega) | (intro h; simp only [List.length_append, List.length_map, List.length_cons, List.length_nil]; omega) | (intro h; exact h.elim))
  refine hK _ ?_
  clear hK K
  refine PWp.seq_rg [0] orc0_ok (mv := mv) (by decide) fun K hK => ?_
  simp only [pwr, pr1, mv, Int.reduceLT, Int.reduceSub, Int.reduceNeg, Int.reduceToNat, ne_eq, reduceIte, reduceCtorEq, Nat.reduceEqDiff, Nat.reduceAdd, Nat.reduceMul, Nat.reduceSub, Nat.reduceLT, Nat.reduceLeDiff, Nat.reduceBEq, if_true, if_false, implies_true, Bool.cond_true, Bool.cond_false, orc0, zf]
  repeat' with_reducible refine And.intro ?_ ?_
  all_goals try (first | omega | rfl | ((with_reducible refine drawGoal ?_); exact rfl) | (simp only [inR]; omega) | (intro y hy; simp only [List.mem_singleton] at hy; subst hy; rfl) | (intro y hy; cases hy; done) | (simp only [List.length_append, List.length_map, List.length_cons, List.length_nil]; omega) | (intro h; simp only [inR]; omega) | (intro h; simp only [List.length_append, List.length_map, List.length_cons, List.length_nil]; omega) | (intro h; exact h.elim))
  refine hK _ ?_
  clear hK K
  refine PWp.ret (hQ2 _ ?_)
  simp only [pwf, pf1, reduceIte, reduceCtorEq, Nat.reduceEqDiff, Nat.reduceAdd, Nat.reduceMul, Nat.reduceSub, Nat.reduceLT, Nat.reduceLeDiff, Nat.reduceBEq, if_true, if_false, implies_true, Bool.cond_true, Bool.cond_false, zf, Tryz.results105]
  repeat simp only [pwf, pf1, reduceIte, reduceCtorEq, Nat.reduceEqDiff, Nat.reduceAdd, Nat.reduceMul, Nat.reduceSub, Nat.reduceLT, Nat.reduceLeDiff, Nat.reduceBEq, if_true, if_false, implies_true, Bool.cond_true, Bool.cond_false, zf]
  first | done | rfl | (simp; done) | trace_state
end Go.Pw.L21
