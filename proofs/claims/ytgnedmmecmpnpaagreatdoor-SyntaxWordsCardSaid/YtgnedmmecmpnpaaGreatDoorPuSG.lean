/- The lexer: a byte of a text. -/
import Derived.Test.YtgnedmmecmpnpaaGreatDoorPuSE
set_option linter.unusedSimpArgs false
set_option linter.unusedVariables false
set_option linter.unusedSectionVars false
set_option maxHeartbeats 4000000
set_option maxRecDepth 20000
namespace Go.Pw.L21
open Go.Proofs Go.Pw
def pC : Piece → Int
  | .byte c _ => c.toNat
  | _ => 0
def pN (at_ : Nat) : Piece → Int
  | .byte _ n => at_ + n
  | _ => 0
def pF (at_ : Nat) : Piece → Int
  | .bad k => at_ + k
  | _ => 0
def pE : Piece → Int
  | .byte _ _ => 0
  | .short => 4
  | .bad _ => 6
abbrev pieceA (at_ : Nat) (p : Piece) : AV := .tup [.pv (.int .u8 (pC p)), .pv (.int .i64 (pN at_ p)), .agg [.pv (.int .i64 (pF at_ p)), .pv (.int .i64 (pE p))]]
theorem bad_iff (c q : UInt8) : (decide ((c.toNat : Int) < 32) || decide (126 < (c.toNat : Int)) || ((c.toNat : Int) == (q.toNat : Int))) = true ↔ (c < 32 ∨ 126 < c ∨ c = q) := by
  simp only [Bool.or_eq_true, decide_eq_true_eq, beq_iff_eq, UInt8.lt_iff_toNat_lt, ← UInt8.toNat_inj, UInt8.reduceToNat]
  omega
theorem bne_iff (c : UInt8) (n : UInt8) : ((c.toNat : Int) != (n.toNat : Int)) = true ↔ c ≠ n := by
  simp only [bne_iff_ne, ne_eq, ← UInt8.toNat_inj]
  omega
theorem drop_at {s : Bs} {o : Nat} {c : UInt8} (h : o < s.length) (hc : s.getD o 0 = c) : s.drop o = c :: s.drop (o + 1) := by
  rw [List.drop_eq_getElem_cons h, ← hc, getN h]
section
variable {c d x y q : UInt8} {r : Bs}
theorem pc0 (h1 : c < 32 ∨ 126 < c ∨ c = q) : piece (c :: r) q = .bad 0 := by simp only [piece, if_pos h1]
theorem pc1 (h1 : ¬ (c < 32 ∨ 126 < c ∨ c = q)) (h2 : c ≠ 92) : piece (c :: r) q = .byte c 1 := by simp only [piece, if_neg h1, if_pos h2]
theorem pc2 (h1 : ¬ (c < 32 ∨ 126 < c ∨ c = q)) (h2 : ¬ c ≠ 92) : piece [c] q = .short := by simp only [piece, if_neg h1, if_neg h2]
theorem pc3 (h1 : ¬ (c < 32 ∨ 126 < c ∨ c = q)) (h2 : ¬ c ≠ 92) (h3 : d ≠ 120) (h4 : escape d < 0) : piece (c :: d :: r) q = .bad 1 := by simp only [piece, if_neg h1, if_neg h2, if_pos h3, if_pos h4]
theorem pc4 (h1 : ¬ (c < 32 ∨ 126 < c ∨ c = q)) (h2 : ¬ c ≠ 92) (h3 : d ≠ 120) (h4 : ¬ escape d < 0) : piece (c :: d :: r) q = .byte (UInt8.ofNat (escape d).toNat) 2 := by simp only [piece, if_neg h1, if_neg h2, if_pos h3, if_neg h4]
theorem pc5 (h1 : ¬ (c < 32 ∨ 126 < c ∨ c = q)) (h2 : ¬ c ≠ 92) (h3 : ¬ d ≠ 120) : piece [c, d] q = .short := by simp only [piece, if_neg h1, if_neg h2, if_neg h3]
theorem pc6 (h1 : ¬ (c < 32 ∨ 126 < c ∨ c = q)) (h2 : ¬ c ≠ 92) (h3 : ¬ d ≠ 120) (h4 : hexV x < 0) : piece (c :: d :: x :: r) q = .bad 2 := by simp only [piece, if_neg h1, if_neg h2, if_neg h3, if_pos h4]
theorem pc7 (h1 : ¬ (c < 32 ∨ 126 < c ∨ c = q)) (h2 : ¬ c ≠ 92) (h3 : ¬ d ≠ 120) (h4 : ¬ hexV x < 0) : piece [c, d, x] q = .short := by simp only [piece, if_neg h1, if_neg h2, if_neg h3, if_neg h4]
theorem pc8 (h1 : ¬ (c < 32 ∨ 126 < c ∨ c = q)) (h2 : ¬ c ≠ 92) (h3 : ¬ d ≠ 120) (h4 : ¬ hexV x < 0) (h5 : hexV y < 0) : piece (c :: d :: x :: y :: r) q = .bad 3 := by simp only [piece, if_neg h1, if_neg h2, if_neg h3, if_neg h4, if_pos h5]
theorem pc9 (h1 : ¬ (c < 32 ∨ 126 < c ∨ c = q)) (h2 : ¬ c ≠ 92) (h3 : ¬ d ≠ 120) (h4 : ¬ hexV x < 0) (h5 : ¬ hexV y < 0) : piece (c :: d :: x :: y :: r) q = .byte (UInt8.ofNat (hexV x * 16 + hexV y).toNat) 4 := by simp only [piece, if_neg h1, if_neg h2, if_neg h3, if_neg h4, if_neg h5]
end
/-- what is read behind the mark of a number of two digits -/
theorem pc_tail {s : Bs} {o : Nat} {c d q : UInt8} {j : Nat} (hd : s.drop o = c :: s.drop (o + 1)) (hd1 : s.drop (o + 1) = d :: s.drop (o + 1 + 1)) (h1 : ¬ (c < 32 ∨ 126 < c ∨ c = q)) (h2 : ¬ c ≠ 92) (h3 : ¬ d ≠ 120) (hj : j < 2) (hno : ∀ b ∈ (s.drop (o + 2)).take j, ¬ hexV b < 0) :
    (o + 2 + j = s.length → piece (s.drop o) q = .short) ∧ ∀ x, o + 2 + j < s.length → s.getD (o + 2 + j) 0 = x → hexV x < 0 → piece (s.drop o) q = .bad (2 + j) := by
  have e2 : o + 1 + 1 = o + 2 := rfl
  rw [hd, hd1, e2]
  match j, hj with
  | 0, _ =>
    refine ⟨fun h => ?_, fun x h hx hn => ?_⟩
    · rw [List.drop_eq_nil_of_le (by omega)]; exact pc5 h1 h2 h3
    · rw [drop_at (c := x) (by omega) hx]; exact pc6 h1 h2 h3 hn
  | 1, _ =>
    refine ⟨fun h => ?_, fun x h hx hn => ?_⟩
    · have hl : o + 2 < s.length := by omega
      have e := drop_at hl rfl
      rw [e] at hno ⊢
      rw [List.drop_eq_nil_of_le (by omega)]
      exact pc7 h1 h2 h3 (hno _ (by simp))
    · have hl : o + 2 < s.length := by omega
      have e := drop_at hl rfl
      rw [e] at hno ⊢
      rw [drop_at (c := x) (o := o + 2 + 1) (by omega) hx]
      exact pc8 h1 h2 h3 (hno _ (by simp)) hn
theorem ofNat_int {n : Int} (h0 : 0 ≤ n) (h1 : n < 256) : ((UInt8.ofNat n.toNat).toNat : Int) = n := by
  rw [UInt8.toNat_ofNat']
  omega
theorem hex2 {a b : UInt8} (ha : ¬ hexV a < 0) (hb : ¬ hexV b < 0) : hexW [a, b] = hexV a * 16 + hexV b := by
  have h1 := hexV_lt a
  have e1 : hexW [a, b] = IntKind.i64.wrap ((IntKind.i64.wrap (0 * 16) + hexV a) * 16) + hexV b := rfl
  rw [e1, wrap_inR (k := .i64) (n := 0 * 16) (by simp only [inR]; omega), wrap_inR (by simp only [inR]; omega)]
  omega
theorem escape_lt (c : UInt8) : escape c ≤ 110 := by
  unfold escape
  repeat' split
  all_goals decide
theorem unL_pv {σ R : Look} {rl : Lk} : ∀ {l : List AV}, (∀ a ∈ l, ∃ p, a = .pv p) → unL σ R rl l = some l
  | [], _ => rfl
  | a :: l, h => by
    obtain ⟨p, rfl⟩ := h a (by simp)
    have e := unL_pv (σ := σ) (R := R) (rl := rl) (l := l) fun a ha => h a (List.mem_cons_of_mem _ ha)
    simp only [unL, unA, e]
theorem arr128 : arrT Tryz.prog 247 = some (256, 3) := by kernel_rfl
theorem cells3 : Tryz.prog.cellsOf 3 = 1 := by kernel_rfl
theorem escR_un (σ R : Look) (rl : Lk) : unL σ R rl escR = some escR := unL_pv fun a ha => by
  obtain ⟨i, _, rfl⟩ := List.mem_map.1 ha
  exact ⟨_, rfl⟩
def orcG1 : Orc := fun f In => if f = 184 then c184 In else if f = 183 then c183 In else none
theorem orcG1_ok : OrcOk Tryz.prog orcG1 := by
  intro f In pre Ret h hp
  unfold orcG1 at h
  split at h
  · subst f; exact p184 h hp
  split at h
  · subst f; exact p183 h hp
  cases h
theorem t75 (s : Bs) (o : Nat) (q : UInt8) (hs : s.length ≤ 20000) (ho : o ≤ s.length) : PCalls Tryz.prog 165 [(.S 0, .av (.pv (.str s))), (.S 1, .av (.pv (.int .i64 o))), (.S 2, .av (ub q))] [(.S 0, .av (pieceA o (piece (s.drop o) q)))] := by
  refine PCalls.of_k Tryz.func165 (by decide) rfl fun Q hQ1 hQ2 => ?_
  refine PWp.seq_rg [0, 1, 2, 8] orcG1_ok (mv := mv) (by decide) fun K hK => ?_
  simp only [pwr, pr1, mv, Int.reduceLT, Int.reduceSub, Int.reduceNeg, Int.reduceToNat, ne_eq, reduceIte, reduceCtorEq, Nat.reduceEqDiff, Nat.reduceAdd, Nat.reduceMul, Nat.reduceSub, Nat.reduceLT, Nat.reduceLeDiff, Nat.reduceBEq, if_true, if_false, implies_true, Bool.cond_true, Bool.cond_false, orcG1, c184, c183, uOf_toNat, zf, binShift, Int.reduceToNat, Int.reducePow]
  repeat' with_reducible refine And.intro ?_ ?_
  all_goals try (first | omega | rfl | ((with_reducible refine drawGoal ?_); exact rfl) | (simp only [inR]; omega) | (intro y hy; simp only [List.mem_singleton] at hy; subst hy; rfl) | (intro y hy; cases hy; done) | (simp only [List.length_append, List.length_map, List.length_cons, List.length_nil]; omega) | (intro h; simp only [inR]; omega) | (intro h; simp only [List.length_append, List.length_map, List.length_cons, List.length_nil]; omega) | (intro h; exact h.elim))
  refine hK _ ?_
  clear hK K
  refine PWp.seq_k fun K1 hK1 => ?_
  refine PWp.seq_rg [0, 1, 2, 8, 15] orcG1_ok (mv := mv) (by decide) fun K hK => ?_
  simp only [pwr, pr1, mv, Int.reduceLT, Int.reduceSub, Int.reduceNeg, Int.reduceToNat, ne_eq, reduceIte, reduceCtorEq, Nat.reduceEqDiff, Nat.reduceAdd, Nat.reduceMul, Nat.reduceSub, Nat.reduceLT, Nat.reduceLeDiff, Nat.reduceBEq, if_true, if_false, implies_true, Bool.cond_true, Bool.cond_false, orcG1, c184, c183, uOf_toNat, zf, binShift, Int.reduceToNat, Int.reducePow]
  repeat' with_reducible refine And.intro ?_ ?_
  all_goals try (first | omega | rfl | ((with_reducible refine drawGoal ?_); exact rfl) | (simp only [inR]; omega) | (intro y hy; simp only [List.mem_singleton] at hy; subst hy; rfl) | (intro y hy; cases hy; done) | (simp only [List.length_append, List.length_map, List.length_cons, List.length_nil]; omega) | (intro h; simp only [inR]; omega) | (intro h; simp only [List.length_append, List.length_map, List.length_cons, List.length_nil]; omega) | (intro h; exact h.elim))
  refine hK _ ?_
  clear hK K
  refine PWp.cond (by rfl) (fun hb15 => ?_) (fun hb15 => ?_)
  ·
   try (cases hb15; done)
   all_goals
    refine PWp.seq_rg [6, 7, 8] orcG1_ok (mv := mv) (by decide) fun K hK => ?_
    simp only [pwr, pr1, mv, Int.reduceLT, Int.reduceSub, Int.reduceNeg, Int.reduceToNat, ne_eq, reduceIte, reduceCtorEq, Nat.reduceEqDiff, Nat.reduceAdd, Nat.reduceMul, Nat.reduceSub, Nat.reduceLT, Nat.reduceLeDiff, Nat.reduceBEq, if_true, if_false, implies_true, Bool.cond_true, Bool.cond_false, orcG1, c184, c183, uOf_toNat, zf, binShift, Int.reduceToNat, Int.reducePow]
    repeat' with_reducible refine And.intro ?_ ?_
    all_goals try (first | omega | rfl | ((with_reducible refine drawGoal ?_); exact rfl) | (simp only [inR]; omega) | (intro y hy; simp only [List.mem_singleton] at hy; subst hy; rfl) | (intro y hy; cases hy; done) | (simp only [List.length_append, List.length_map, List.length_cons, List.length_nil]; omega) | (intro h; simp only [inR]; omega) | (intro h; simp only [List.length_append, List.length_map, List.length_cons, List.length_nil]; omega) | (intro h; exact h.elim))
    refine hK _ ?_
    clear hK K
    refine PWp.ret (hQ2 _ ?_)
    simp only [pwf, pf1, reduceIte, reduceCtorEq, Nat.reduceEqDiff, Nat.reduceAdd, Nat.reduceMul, Nat.reduceSub, Nat.reduceLT, Nat.reduceLeDiff, Nat.reduceBEq, if_true, if_false, implies_true, Bool.cond_true, Bool.cond_false, zf, binShift, Int.reduceToNat, Int.reducePow, Tryz.results165]
    repeat simp only [pwf, pf1, reduceIte, reduceCtorEq, Nat.reduceEqDiff, Nat.reduceAdd, Nat.reduceMul, Nat.reduceSub, Nat.reduceLT, Nat.reduceLeDiff, Nat.reduceBEq, if_true, if_false, implies_true, Bool.cond_true, Bool.cond_false, zf, binShift, Int.reduceToNat, Int.reducePow]
    have hol : s.length ≤ o := by have := of_decide_eq_true hb15; omega
    have hv : piece (s.drop o) q = .short := by rw [List.drop_eq_nil_of_le hol]; rfl
    rw [hv]
    exact ⟨rfl, rfl, rfl, rfl⟩
  ·
   try (cases hb15; done)
   all_goals
    refine PWp.skip (hK1 _ ?_)
    have hol : o < s.length := by have := of_decide_eq_false hb15; omega
    obtain ⟨c, hc⟩ : ∃ c, s.getD o 0 = c := ⟨_, rfl⟩
    have hd := drop_at hol hc
    refine PWp.seq_rg [0, 1, 2, 6, 8] orcG1_ok (mv := mv) (by decide) fun K hK => ?_
    simp only [pwr, pr1, mv, Int.reduceLT, Int.reduceSub, Int.reduceNeg, Int.reduceToNat, ne_eq, reduceIte, reduceCtorEq, Nat.reduceEqDiff, Nat.reduceAdd, Nat.reduceMul, Nat.reduceSub, Nat.reduceLT, Nat.reduceLeDiff, Nat.reduceBEq, if_true, if_false, implies_true, Bool.cond_true, Bool.cond_false, orcG1, c184, c183, uOf_toNat, zf, binShift, Int.reduceToNat, Int.reducePow, hc]
    repeat' with_reducible refine And.intro ?_ ?_
    all_goals try (first | omega | exact ub_bd _ | exact (ub_bd _).1 | exact (ub_bd _).2)
    all_goals try (first | omega | rfl | ((with_reducible refine drawGoal ?_); exact rfl) | (simp only [inR]; omega) | (intro y hy; simp only [List.mem_singleton] at hy; subst hy; rfl) | (intro y hy; cases hy; done) | (simp only [List.length_append, List.length_map, List.length_cons, List.length_nil]; omega) | (intro h; simp only [inR]; omega) | (intro h; simp only [List.length_append, List.length_map, List.length_cons, List.length_nil]; omega) | (intro h; exact h.elim))
    refine hK _ ?_
    clear hK K
    refine PWp.seq_k fun K2 hK2 => ?_
    refine PWp.block_k fun Qq3 hq3n hq3x hq3r hq3e => ?_
    refine PWp.seq_rg [0, 1, 6, 8, 20] orcG1_ok (mv := mv) (by decide) fun K hK => ?_
    simp only [pwr, pr1, mv, Int.reduceLT, Int.reduceSub, Int.reduceNeg, Int.reduceToNat, ne_eq, reduceIte, reduceCtorEq, Nat.reduceEqDiff, Nat.reduceAdd, Nat.reduceMul, Nat.reduceSub, Nat.reduceLT, Nat.reduceLeDiff, Nat.reduceBEq, if_true, if_false, implies_true, Bool.cond_true, Bool.cond_false, orcG1, c184, c183, uOf_toNat, zf, binShift, Int.reduceToNat, Int.reducePow]
    repeat' with_reducible refine And.intro ?_ ?_
    all_goals try (first | omega | rfl | ((with_reducible refine drawGoal ?_); exact rfl) | (simp only [inR]; omega) | (intro y hy; simp only [List.mem_singleton] at hy; subst hy; rfl) | (intro y hy; cases hy; done) | (simp only [List.length_append, List.length_map, List.length_cons, List.length_nil]; omega) | (intro h; simp only [inR]; omega) | (intro h; simp only [List.length_append, List.length_map, List.length_cons, List.length_nil]; omega) | (intro h; exact h.elim))
    refine hK _ ?_
    clear hK K
    refine PWp.cond (by rfl) (fun hb20 => ?_) (fun hb20 => ?_)
    ·
     try (cases hb20; done)
     all_goals
      refine PWp.seq_rg [6, 7, 8] orcG1_ok (mv := mv) (by decide) fun K hK => ?_
      simp only [pwr, pr1, mv, Int.reduceLT, Int.reduceSub, Int.reduceNeg, Int.reduceToNat, ne_eq, reduceIte, reduceCtorEq, Nat.reduceEqDiff, Nat.reduceAdd, Nat.reduceMul, Nat.reduceSub, Nat.reduceLT, Nat.reduceLeDiff, Nat.reduceBEq, if_true, if_false, implies_true, Bool.cond_true, Bool.cond_false, orcG1, c184, c183, uOf_toNat, zf, binShift, Int.reduceToNat, Int.reducePow]
      repeat' with_reducible refine And.intro ?_ ?_
      all_goals try (first | omega | rfl | ((with_reducible refine drawGoal ?_); exact rfl) | (simp only [inR]; omega) | (intro y hy; simp only [List.mem_singleton] at hy; subst hy; rfl) | (intro y hy; cases hy; done) | (simp only [List.length_append, List.length_map, List.length_cons, List.length_nil]; omega) | (intro h; simp only [inR]; omega) | (intro h; simp only [List.length_append, List.length_map, List.length_cons, List.length_nil]; omega) | (intro h; exact h.elim))
      refine hK _ ?_
      clear hK K
      refine PWp.ret (hq3r _ (hQ2 _ ?_))
      simp only [pwf, pf1, reduceIte, reduceCtorEq, Nat.reduceEqDiff, Nat.reduceAdd, Nat.reduceMul, Nat.reduceSub, Nat.reduceLT, Nat.reduceLeDiff, Nat.reduceBEq, if_true, if_false, implies_true, Bool.cond_true, Bool.cond_false, zf, binShift, Int.reduceToNat, Int.reducePow, Tryz.results165]
      repeat simp only [pwf, pf1, reduceIte, reduceCtorEq, Nat.reduceEqDiff, Nat.reduceAdd, Nat.reduceMul, Nat.reduceSub, Nat.reduceLT, Nat.reduceLeDiff, Nat.reduceBEq, if_true, if_false, implies_true, Bool.cond_true, Bool.cond_false, zf, binShift, Int.reduceToNat, Int.reducePow]
      have hv : piece (s.drop o) q = .bad 0 := by rw [hd]; exact pc0 ((bad_iff c q).1 hb20)
      rw [hv]
      exact ⟨rfl, rfl, by show PV.int _ ((o : Int) + 0) = _; rw [Int.add_zero], rfl⟩
    ·
     try (cases hb20; done)
     all_goals
      have h1 : ¬ (c < 32 ∨ 126 < c ∨ c = q) := fun h => by rw [(bad_iff c q).2 h] at hb20; cases hb20
      refine PWp.seq_rg [0, 1, 6, 8, 34] orcG1_ok (mv := mv) (by decide) fun K hK => ?_
      simp only [pwr, pr1, mv, Int.reduceLT, Int.reduceSub, Int.reduceNeg, Int.reduceToNat, ne_eq, reduceIte, reduceCtorEq, Nat.reduceEqDiff, Nat.reduceAdd, Nat.reduceMul, Nat.reduceSub, Nat.reduceLT, Nat.reduceLeDiff, Nat.reduceBEq, if_true, if_false, implies_true, Bool.cond_true, Bool.cond_false, orcG1, c184, c183, uOf_toNat, zf, binShift, Int.reduceToNat, Int.reducePow]
      repeat' with_reducible refine And.intro ?_ ?_
      all_goals try (first | omega | rfl | ((with_reducible refine drawGoal ?_); exact rfl) | (simp only [inR]; omega) | (intro y hy; simp only [List.mem_singleton] at hy; subst hy; rfl) | (intro y hy; cases hy; done) | (simp only [List.length_append, List.length_map, List.length_cons, List.length_nil]; omega) | (intro h; simp only [inR]; omega) | (intro h; simp only [List.length_append, List.length_map, List.length_cons, List.length_nil]; omega) | (intro h; exact h.elim))
      refine hK _ ?_
      clear hK K
      refine PWp.cond (by rfl) (fun hb34 => ?_) (fun hb34 => ?_)
      ·
       try (cases hb34; done)
       all_goals
        refine PWp.seq_rg [6, 7, 8] orcG1_ok (mv := mv) (by decide) fun K hK => ?_
        simp only [pwr, pr1, mv, Int.reduceLT, Int.reduceSub, Int.reduceNeg, Int.reduceToNat, ne_eq, reduceIte, reduceCtorEq, Nat.reduceEqDiff, Nat.reduceAdd, Nat.reduceMul, Nat.reduceSub, Nat.reduceLT, Nat.reduceLeDiff, Nat.reduceBEq, if_true, if_false, implies_true, Bool.cond_true, Bool.cond_false, orcG1, c184, c183, uOf_toNat, zf, binShift, Int.reduceToNat, Int.reducePow]
        repeat' with_reducible refine And.intro ?_ ?_
        all_goals try (first | omega | rfl | ((with_reducible refine drawGoal ?_); exact rfl) | (simp only [inR]; omega) | (intro y hy; simp only [List.mem_singleton] at hy; subst hy; rfl) | (intro y hy; cases hy; done) | (simp only [List.length_append, List.length_map, List.length_cons, List.length_nil]; omega) | (intro h; simp only [inR]; omega) | (intro h; simp only [List.length_append, List.length_map, List.length_cons, List.length_nil]; omega) | (intro h; exact h.elim))
        refine hK _ ?_
        clear hK K
        refine PWp.ret (hq3r _ (hQ2 _ ?_))
        simp only [pwf, pf1, reduceIte, reduceCtorEq, Nat.reduceEqDiff, Nat.reduceAdd, Nat.reduceMul, Nat.reduceSub, Nat.reduceLT, Nat.reduceLeDiff, Nat.reduceBEq, if_true, if_false, implies_true, Bool.cond_true, Bool.cond_false, zf, binShift, Int.reduceToNat, Int.reducePow, Tryz.results165]
        repeat simp only [pwf, pf1, reduceIte, reduceCtorEq, Nat.reduceEqDiff, Nat.reduceAdd, Nat.reduceMul, Nat.reduceSub, Nat.reduceLT, Nat.reduceLeDiff, Nat.reduceBEq, if_true, if_false, implies_true, Bool.cond_true, Bool.cond_false, zf, binShift, Int.reduceToNat, Int.reducePow]
        have h2 : c ≠ 92 := (bne_iff c 92).1 hb34
        have hv : piece (s.drop o) q = .byte c 1 := by rw [hd]; exact pc1 h1 h2
        rw [hv]
        exact ⟨rfl, rfl, rfl, rfl⟩
      ·
       try (cases hb34; done)
       all_goals
        have h2 : ¬ c ≠ 92 := fun h => absurd (hb34.symm.trans ((bne_iff c 92).2 h)) (by decide)
        refine PWp.seq_rg [0, 1, 8, 41] orcG1_ok (mv := mv) (by decide) fun K hK => ?_
        simp only [pwr, pr1, mv, Int.reduceLT, Int.reduceSub, Int.reduceNeg, Int.reduceToNat, ne_eq, reduceIte, reduceCtorEq, Nat.reduceEqDiff, Nat.reduceAdd, Nat.reduceMul, Nat.reduceSub, Nat.reduceLT, Nat.reduceLeDiff, Nat.reduceBEq, if_true, if_false, implies_true, Bool.cond_true, Bool.cond_false, orcG1, c184, c183, uOf_toNat, zf, binShift, Int.reduceToNat, Int.reducePow]
        repeat' with_reducible refine And.intro ?_ ?_
        all_goals try (first | omega | rfl | ((with_reducible refine drawGoal ?_); exact rfl) | (simp only [inR]; omega) | (intro y hy; simp only [List.mem_singleton] at hy; subst hy; rfl) | (intro y hy; cases hy; done) | (simp only [List.length_append, List.length_map, List.length_cons, List.length_nil]; omega) | (intro h; simp only [inR]; omega) | (intro h; simp only [List.length_append, List.length_map, List.length_cons, List.length_nil]; omega) | (intro h; exact h.elim))
        refine hK _ ?_
        clear hK K
        refine PWp.cond (by rfl) (fun hb41 => ?_) (fun hb41 => ?_)
        ·
         try (cases hb41; done)
         all_goals
          refine PWp.seq_rg [6, 7, 8] orcG1_ok (mv := mv) (by decide) fun K hK => ?_
          simp only [pwr, pr1, mv, Int.reduceLT, Int.reduceSub, Int.reduceNeg, Int.reduceToNat, ne_eq, reduceIte, reduceCtorEq, Nat.reduceEqDiff, Nat.reduceAdd, Nat.reduceMul, Nat.reduceSub, Nat.reduceLT, Nat.reduceLeDiff, Nat.reduceBEq, if_true, if_false, implies_true, Bool.cond_true, Bool.cond_false, orcG1, c184, c183, uOf_toNat, zf, binShift, Int.reduceToNat, Int.reducePow]
          repeat' with_reducible refine And.intro ?_ ?_
          all_goals try (first | omega | rfl | ((with_reducible refine drawGoal ?_); exact rfl) | (simp only [inR]; omega) | (intro y hy; simp only [List.mem_singleton] at hy; subst hy; rfl) | (intro y hy; cases hy; done) | (simp only [List.length_append, List.length_map, List.length_cons, List.length_nil]; omega) | (intro h; simp only [inR]; omega) | (intro h; simp only [List.length_append, List.length_map, List.length_cons, List.length_nil]; omega) | (intro h; exact h.elim))
          refine hK _ ?_
          clear hK K
          refine PWp.ret (hq3r _ (hQ2 _ ?_))
          simp only [pwf, pf1, reduceIte, reduceCtorEq, Nat.reduceEqDiff, Nat.reduceAdd, Nat.reduceMul, Nat.reduceSub, Nat.reduceLT, Nat.reduceLeDiff, Nat.reduceBEq, if_true, if_false, implies_true, Bool.cond_true, Bool.cond_false, zf, binShift, Int.reduceToNat, Int.reducePow, Tryz.results165]
          repeat simp only [pwf, pf1, reduceIte, reduceCtorEq, Nat.reduceEqDiff, Nat.reduceAdd, Nat.reduceMul, Nat.reduceSub, Nat.reduceLT, Nat.reduceLeDiff, Nat.reduceBEq, if_true, if_false, implies_true, Bool.cond_true, Bool.cond_false, zf, binShift, Int.reduceToNat, Int.reducePow]
          have hol1 : s.length ≤ o + 1 := by have := of_decide_eq_true hb41; omega
          have hv : piece (s.drop o) q = .short := by rw [hd, List.drop_eq_nil_of_le hol1]; exact pc2 h1 h2
          rw [hv]
          exact ⟨rfl, rfl, rfl, rfl⟩
        ·
         try (cases hb41; done)
         all_goals
          have hol1 : o + 1 < s.length := by have := of_decide_eq_false hb41; omega
          obtain ⟨d, hdd⟩ : ∃ d, s.getD (o + 1) 0 = d := ⟨_, rfl⟩
          have hd1 := drop_at hol1 hdd
          have e1 : ((o : Int) + 1).toNat = o + 1 := by omega
          refine PWp.seq_rg [0, 1, 8, 48] orcG1_ok (mv := mv) (by decide) fun K hK => ?_
          simp only [pwr, pr1, mv, Int.reduceLT, Int.reduceSub, Int.reduceNeg, Int.reduceToNat, ne_eq, reduceIte, reduceCtorEq, Nat.reduceEqDiff, Nat.reduceAdd, Nat.reduceMul, Nat.reduceSub, Nat.reduceLT, Nat.reduceLeDiff, Nat.reduceBEq, if_true, if_false, implies_true, Bool.cond_true, Bool.cond_false, orcG1, c184, c183, uOf_toNat, zf, binShift, Int.reduceToNat, Int.reducePow, e1, hdd]
          repeat' with_reducible refine And.intro ?_ ?_
          all_goals try (first | omega | exact ub_bd _ | exact (ub_bd _).1 | exact (ub_bd _).2)
          all_goals try (first | omega | rfl | ((with_reducible refine drawGoal ?_); exact rfl) | (simp only [inR]; omega) | (intro y hy; simp only [List.mem_singleton] at hy; subst hy; rfl) | (intro y hy; cases hy; done) | (simp only [List.length_append, List.length_map, List.length_cons, List.length_nil]; omega) | (intro h; simp only [inR]; omega) | (intro h; simp only [List.length_append, List.length_map, List.length_cons, List.length_nil]; omega) | (intro h; exact h.elim))
          refine hK _ ?_
          clear hK K
          refine PWp.cond (by rfl) (fun hb48 => ?_) (fun hb48 => ?_)
          ·
           try (cases hb48; done)
           all_goals
            have h3 : d ≠ 120 := (bne_iff d 120).1 hb48
            refine PWp.seq_dr [1, 8, 9] mixed orcG1_ok (mv := mv) (by decide) fun K hK => ?_
            simp only [pwr, pr1, mv, Int.reduceLT, Int.reduceSub, Int.reduceNeg, Int.reduceToNat, ne_eq, reduceIte, reduceCtorEq, Nat.reduceEqDiff, Nat.reduceAdd, Nat.reduceMul, Nat.reduceSub, Nat.reduceLT, Nat.reduceLeDiff, Nat.reduceBEq, if_true, if_false, implies_true, Bool.cond_true, Bool.cond_false, orcG1, c184, c183, uOf_toNat, zf, binShift, Int.reduceToNat, Int.reducePow, e1, hdd, escR_at d, escR_un, arr128, cells3, Nat.mul_one]
            repeat' with_reducible refine And.intro ?_ ?_
            all_goals try (first | omega | exact ub_bd _ | exact (ub_bd _).1 | exact (ub_bd _).2)
            all_goals try (first | omega | rfl | ((with_reducible refine drawGoal ?_); exact rfl) | (simp only [inR]; omega) | (intro y hy; simp only [List.mem_singleton] at hy; subst hy; rfl) | (intro y hy; cases hy; done) | (simp only [List.length_append, List.length_map, List.length_cons, List.length_nil]; omega) | (intro h; simp only [inR]; omega) | (intro h; simp only [List.length_append, List.length_map, List.length_cons, List.length_nil]; omega) | (intro h; exact h.elim))
            refine hK _ ?_
            clear hK K
            refine PWp.seq_k fun K4 hK4 => ?_
            refine PWp.seq_rg [1, 8, 9, 61] orcG1_ok (mv := mv) (by decide) fun K hK => ?_
            simp only [pwr, pr1, mv, Int.reduceLT, Int.reduceSub, Int.reduceNeg, Int.reduceToNat, ne_eq, reduceIte, reduceCtorEq, Nat.reduceEqDiff, Nat.reduceAdd, Nat.reduceMul, Nat.reduceSub, Nat.reduceLT, Nat.reduceLeDiff, Nat.reduceBEq, if_true, if_false, implies_true, Bool.cond_true, Bool.cond_false, orcG1, c184, c183, uOf_toNat, zf, binShift, Int.reduceToNat, Int.reducePow]
            repeat' with_reducible refine And.intro ?_ ?_
            all_goals try (first | omega | rfl | ((with_reducible refine drawGoal ?_); exact rfl) | (simp only [inR]; omega) | (intro y hy; simp only [List.mem_singleton] at hy; subst hy; rfl) | (intro y hy; cases hy; done) | (simp only [List.length_append, List.length_map, List.length_cons, List.length_nil]; omega) | (intro h; simp only [inR]; omega) | (intro h; simp only [List.length_append, List.length_map, List.length_cons, List.length_nil]; omega) | (intro h; exact h.elim))
            refine hK _ ?_
            clear hK K
            refine PWp.cond (by rfl) (fun hb61 => ?_) (fun hb61 => ?_)
            ·
             try (cases hb61; done)
             all_goals
              refine PWp.seq_rg [6, 7, 8] orcG1_ok (mv := mv) (by decide) fun K hK => ?_
              simp only [pwr, pr1, mv, Int.reduceLT, Int.reduceSub, Int.reduceNeg, Int.reduceToNat, ne_eq, reduceIte, reduceCtorEq, Nat.reduceEqDiff, Nat.reduceAdd, Nat.reduceMul, Nat.reduceSub, Nat.reduceLT, Nat.reduceLeDiff, Nat.reduceBEq, if_true, if_false, implies_true, Bool.cond_true, Bool.cond_false, orcG1, c184, c183, uOf_toNat, zf, binShift, Int.reduceToNat, Int.reducePow]
              repeat' with_reducible refine And.intro ?_ ?_
              all_goals try (first | omega | rfl | ((with_reducible refine drawGoal ?_); exact rfl) | (simp only [inR]; omega) | (intro y hy; simp only [List.mem_singleton] at hy; subst hy; rfl) | (intro y hy; cases hy; done) | (simp only [List.length_append, List.length_map, List.length_cons, List.length_nil]; omega) | (intro h; simp only [inR]; omega) | (intro h; simp only [List.length_append, List.length_map, List.length_cons, List.length_nil]; omega) | (intro h; exact h.elim))
              refine hK _ ?_
              clear hK K
              refine PWp.ret (hq3r _ (hQ2 _ ?_))
              simp only [pwf, pf1, reduceIte, reduceCtorEq, Nat.reduceEqDiff, Nat.reduceAdd, Nat.reduceMul, Nat.reduceSub, Nat.reduceLT, Nat.reduceLeDiff, Nat.reduceBEq, if_true, if_false, implies_true, Bool.cond_true, Bool.cond_false, zf, binShift, Int.reduceToNat, Int.reducePow, Tryz.results165]
              repeat simp only [pwf, pf1, reduceIte, reduceCtorEq, Nat.reduceEqDiff, Nat.reduceAdd, Nat.reduceMul, Nat.reduceSub, Nat.reduceLT, Nat.reduceLeDiff, Nat.reduceBEq, if_true, if_false, implies_true, Bool.cond_true, Bool.cond_false, zf, binShift, Int.reduceToNat, Int.reducePow]
              have h4 : escape d < 0 := of_decide_eq_true hb61
              have hv : piece (s.drop o) q = .bad 1 := by rw [hd, hd1]; exact pc3 h1 h2 h3 h4
              rw [hv]
              exact ⟨rfl, rfl, rfl, rfl⟩
            ·
             try (cases hb61; done)
             all_goals
              refine PWp.skip (hK4 _ ?_)
              have h4 : ¬ escape d < 0 := of_decide_eq_false hb61
              have h5 := escape_lt d
              refine PWp.seq_rg [6, 7, 8] orcG1_ok (mv := mv) (by decide) fun K hK => ?_
              simp only [pwr, pr1, mv, Int.reduceLT, Int.reduceSub, Int.reduceNeg, Int.reduceToNat, ne_eq, reduceIte, reduceCtorEq, Nat.reduceEqDiff, Nat.reduceAdd, Nat.reduceMul, Nat.reduceSub, Nat.reduceLT, Nat.reduceLeDiff, Nat.reduceBEq, if_true, if_false, implies_true, Bool.cond_true, Bool.cond_false, orcG1, c184, c183, uOf_toNat, zf, binShift, Int.reduceToNat, Int.reducePow]
              repeat' with_reducible refine And.intro ?_ ?_
              all_goals try (first | omega | (simp only [inR]; omega))
              all_goals try (first | omega | rfl | ((with_reducible refine drawGoal ?_); exact rfl) | (simp only [inR]; omega) | (intro y hy; simp only [List.mem_singleton] at hy; subst hy; rfl) | (intro y hy; cases hy; done) | (simp only [List.length_append, List.length_map, List.length_cons, List.length_nil]; omega) | (intro h; simp only [inR]; omega) | (intro h; simp only [List.length_append, List.length_map, List.length_cons, List.length_nil]; omega) | (intro h; exact h.elim))
              refine hK _ ?_
              clear hK K
              refine PWp.ret (hq3r _ (hQ2 _ ?_))
              simp only [pwf, pf1, reduceIte, reduceCtorEq, Nat.reduceEqDiff, Nat.reduceAdd, Nat.reduceMul, Nat.reduceSub, Nat.reduceLT, Nat.reduceLeDiff, Nat.reduceBEq, if_true, if_false, implies_true, Bool.cond_true, Bool.cond_false, zf, binShift, Int.reduceToNat, Int.reducePow, Tryz.results165]
              repeat simp only [pwf, pf1, reduceIte, reduceCtorEq, Nat.reduceEqDiff, Nat.reduceAdd, Nat.reduceMul, Nat.reduceSub, Nat.reduceLT, Nat.reduceLeDiff, Nat.reduceBEq, if_true, if_false, implies_true, Bool.cond_true, Bool.cond_false, zf, binShift, Int.reduceToNat, Int.reducePow]
              have hv : piece (s.drop o) q = .byte (UInt8.ofNat (escape d).toNat) 2 := by rw [hd, hd1]; exact pc4 h1 h2 h3 h4
              rw [hv]
              exact ⟨congrArg _ (ofNat_int (by omega) (by omega)), rfl, rfl, rfl⟩
          ·
           try (cases hb48; done)
           all_goals
            refine PWp.skip (hq3n _ (hK2 _ ?_))
            have h3 : ¬ d ≠ 120 := fun h => absurd (hb48.symm.trans ((bne_iff d 120).2 h)) (by decide)
            refine PWp.seq_rg [0, 1, 8, 10] orcG1_ok (mv := mv) (by decide) fun K hK => ?_
            simp only [pwr, pr1, mv, Int.reduceLT, Int.reduceSub, Int.reduceNeg, Int.reduceToNat, ne_eq, reduceIte, reduceCtorEq, Nat.reduceEqDiff, Nat.reduceAdd, Nat.reduceMul, Nat.reduceSub, Nat.reduceLT, Nat.reduceLeDiff, Nat.reduceBEq, if_true, if_false, implies_true, Bool.cond_true, Bool.cond_false, orcG1, c184, c183, uOf_toNat, zf, binShift, Int.reduceToNat, Int.reducePow]
            repeat' with_reducible refine And.intro ?_ ?_
            all_goals try (first | omega | rfl | ((with_reducible refine drawGoal ?_); exact rfl) | (simp only [inR]; omega) | (intro y hy; simp only [List.mem_singleton] at hy; subst hy; rfl) | (intro y hy; cases hy; done) | (simp only [List.length_append, List.length_map, List.length_cons, List.length_nil]; omega) | (intro h; simp only [inR]; omega) | (intro h; simp only [List.length_append, List.length_map, List.length_cons, List.length_nil]; omega) | (intro h; exact h.elim))
            refine hK _ ?_
            clear hK K
            refine PWp.seq_k fun K5 hK5 => ?_
            refine PWp.seq_rg [0, 1, 8, 10, 11] orcG1_ok (mv := mv) (by decide) fun K hK => ?_
            simp only [pwr, pr1, mv, Int.reduceLT, Int.reduceSub, Int.reduceNeg, Int.reduceToNat, ne_eq, reduceIte, reduceCtorEq, Nat.reduceEqDiff, Nat.reduceAdd, Nat.reduceMul, Nat.reduceSub, Nat.reduceLT, Nat.reduceLeDiff, Nat.reduceBEq, if_true, if_false, implies_true, Bool.cond_true, Bool.cond_false, orcG1, c184, c183, uOf_toNat, zf, binShift, Int.reduceToNat, Int.reducePow]
            repeat' with_reducible refine And.intro ?_ ?_
            all_goals try (first | omega | rfl | ((with_reducible refine drawGoal ?_); exact rfl) | (simp only [inR]; omega) | (intro y hy; simp only [List.mem_singleton] at hy; subst hy; rfl) | (intro y hy; cases hy; done) | (simp only [List.length_append, List.length_map, List.length_cons, List.length_nil]; omega) | (intro h; simp only [inR]; omega) | (intro h; simp only [List.length_append, List.length_map, List.length_cons, List.length_nil]; omega) | (intro h; exact h.elim))
            refine hK _ ?_
            clear hK K
            refine PWp.block_k fun Qq6 hq6n hq6x hq6r hq6e => ?_
            refine PWp.loop_k (fun j : Nat => [(.S 0, .av (.pv (.str s))), (.S 1, .av (.pv (.int .i64 o))), (.S 8, .av (.ptr 1008 0 0)), (.S 10, .av (.pv (.int .i64 (hexW ((s.drop (o + 2)).take j))))), (.S 11, .av (.pv (.int .i64 (o + 2 + j)))), (.B 1008, .bx 0 [.pv (.int .i64 0), .pv (.int .i64 0)])]) (fun j => j ≤ 2 ∧ o + 2 + j ≤ s.length ∧ ∀ b ∈ (s.drop (o + 2)).take j, ¬ hexV b < 0) (fun j => 2 - j) (0) (⟨Nat.zero_le _, by omega, by simp⟩) ?_ ?_
            · repeat simp only [pwf, pf1, reduceIte, reduceCtorEq, Nat.reduceEqDiff, Nat.reduceAdd, Nat.reduceMul, Nat.reduceSub, Nat.reduceLT, Nat.reduceLeDiff, Nat.reduceBEq, if_true, if_false, implies_true, Bool.cond_true, Bool.cond_false, zf, binShift, Int.reduceToNat, Int.reducePow]
              first | done | trivial | rfl | (simp; done)
            rintro j ⟨hj, hjl, hno⟩ J1 hJ1
            refine PWp.seq_k fun K7 hK7 => ?_
            refine PWp.seq_rg [0, 1, 8, 10, 11, 75] orcG1_ok (mv := mv) (by decide) fun K hK => ?_
            simp only [pwr, pr1, mv, Int.reduceLT, Int.reduceSub, Int.reduceNeg, Int.reduceToNat, ne_eq, reduceIte, reduceCtorEq, Nat.reduceEqDiff, Nat.reduceAdd, Nat.reduceMul, Nat.reduceSub, Nat.reduceLT, Nat.reduceLeDiff, Nat.reduceBEq, if_true, if_false, implies_true, Bool.cond_true, Bool.cond_false, orcG1, c184, c183, uOf_toNat, zf, binShift, Int.reduceToNat, Int.reducePow]
            repeat' with_reducible refine And.intro ?_ ?_
            all_goals try (first | omega | rfl | ((with_reducible refine drawGoal ?_); exact rfl) | (simp only [inR]; omega) | (intro y hy; simp only [List.mem_singleton] at hy; subst hy; rfl) | (intro y hy; cases hy; done) | (simp only [List.length_append, List.length_map, List.length_cons, List.length_nil]; omega) | (intro h; simp only [inR]; omega) | (intro h; simp only [List.length_append, List.length_map, List.length_cons, List.length_nil]; omega) | (intro h; exact h.elim))
            refine hK _ ?_
            clear hK K
            refine PWp.cond (by rfl) (fun hb75 => ?_) (fun hb75 => ?_)
            ·
             try (cases hb75; done)
             all_goals
              refine PWp.skip (hK7 _ ?_)
              refine PWp.seq_k fun K8 hK8 => ?_
              refine PWp.block_k fun Qq9 hq9n hq9x hq9r hq9e => ?_
              refine PWp.seq_k fun K10 hK10 => ?_
              refine PWp.block_k fun Qq11 hq11n hq11x hq11r hq11e => ?_
              have hj2 : j < 2 := by have := of_decide_eq_true hb75; omega
              have hpt := pc_tail hd hd1 h1 h2 h3 hj2 hno
              refine PWp.seq_rg [0, 1, 8, 10, 11, 78] orcG1_ok (mv := mv) (by decide) fun K hK => ?_
              simp only [pwr, pr1, mv, Int.reduceLT, Int.reduceSub, Int.reduceNeg, Int.reduceToNat, ne_eq, reduceIte, reduceCtorEq, Nat.reduceEqDiff, Nat.reduceAdd, Nat.reduceMul, Nat.reduceSub, Nat.reduceLT, Nat.reduceLeDiff, Nat.reduceBEq, if_true, if_false, implies_true, Bool.cond_true, Bool.cond_false, orcG1, c184, c183, uOf_toNat, zf, binShift, Int.reduceToNat, Int.reducePow]
              repeat' with_reducible refine And.intro ?_ ?_
              all_goals try (first | omega | rfl | ((with_reducible refine drawGoal ?_); exact rfl) | (simp only [inR]; omega) | (intro y hy; simp only [List.mem_singleton] at hy; subst hy; rfl) | (intro y hy; cases hy; done) | (simp only [List.length_append, List.length_map, List.length_cons, List.length_nil]; omega) | (intro h; simp only [inR]; omega) | (intro h; simp only [List.length_append, List.length_map, List.length_cons, List.length_nil]; omega) | (intro h; exact h.elim))
              refine hK _ ?_
              clear hK K
              refine PWp.cond (by rfl) (fun hb78 => ?_) (fun hb78 => ?_)
              ·
               try (cases hb78; done)
               all_goals
                refine PWp.seq_rg [6, 7, 8] orcG1_ok (mv := mv) (by decide) fun K hK => ?_
                simp only [pwr, pr1, mv, Int.reduceLT, Int.reduceSub, Int.reduceNeg, Int.reduceToNat, ne_eq, reduceIte, reduceCtorEq, Nat.reduceEqDiff, Nat.reduceAdd, Nat.reduceMul, Nat.reduceSub, Nat.reduceLT, Nat.reduceLeDiff, Nat.reduceBEq, if_true, if_false, implies_true, Bool.cond_true, Bool.cond_false, orcG1, c184, c183, uOf_toNat, zf, binShift, Int.reduceToNat, Int.reducePow]
                repeat' with_reducible refine And.intro ?_ ?_
                all_goals try (first | omega | rfl | ((with_reducible refine drawGoal ?_); exact rfl) | (simp only [inR]; omega) | (intro y hy; simp only [List.mem_singleton] at hy; subst hy; rfl) | (intro y hy; cases hy; done) | (simp only [List.length_append, List.length_map, List.length_cons, List.length_nil]; omega) | (intro h; simp only [inR]; omega) | (intro h; simp only [List.length_append, List.length_map, List.length_cons, List.length_nil]; omega) | (intro h; exact h.elim))
                refine hK _ ?_
                clear hK K
                refine PWp.ret (hq11r _ (hq9r _ (hq6r _ (hQ2 _ ?_))))
                simp only [pwf, pf1, reduceIte, reduceCtorEq, Nat.reduceEqDiff, Nat.reduceAdd, Nat.reduceMul, Nat.reduceSub, Nat.reduceLT, Nat.reduceLeDiff, Nat.reduceBEq, if_true, if_false, implies_true, Bool.cond_true, Bool.cond_false, zf, binShift, Int.reduceToNat, Int.reducePow, Tryz.results165]
                repeat simp only [pwf, pf1, reduceIte, reduceCtorEq, Nat.reduceEqDiff, Nat.reduceAdd, Nat.reduceMul, Nat.reduceSub, Nat.reduceLT, Nat.reduceLeDiff, Nat.reduceBEq, if_true, if_false, implies_true, Bool.cond_true, Bool.cond_false, zf, binShift, Int.reduceToNat, Int.reducePow]
                rw [hpt.1 (by have := of_decide_eq_true hb78; omega)]
                exact ⟨rfl, rfl, rfl, rfl⟩
              ·
               try (cases hb78; done)
               all_goals
                have hjs : o + 2 + j < s.length := by have := of_decide_eq_false hb78; omega
                obtain ⟨x, hx⟩ : ∃ x, s.getD (o + 2 + j) 0 = x := ⟨_, rfl⟩
                have ej : ((o : Int) + 2 + j).toNat = o + 2 + j := by omega
                refine PWp.seq_rg [0, 1, 8, 10, 11, 84] orcG1_ok (mv := mv) (by decide) fun K hK => ?_
                simp only [pwr, pr1, mv, Int.reduceLT, Int.reduceSub, Int.reduceNeg, Int.reduceToNat, ne_eq, reduceIte, reduceCtorEq, Nat.reduceEqDiff, Nat.reduceAdd, Nat.reduceMul, Nat.reduceSub, Nat.reduceLT, Nat.reduceLeDiff, Nat.reduceBEq, if_true, if_false, implies_true, Bool.cond_true, Bool.cond_false, orcG1, c184, c183, uOf_toNat, zf, binShift, Int.reduceToNat, Int.reducePow, ej, hx]
                repeat' with_reducible refine And.intro ?_ ?_
                all_goals try (first | omega | exact ub_bd _ | exact (ub_bd _).1 | exact (ub_bd _).2)
                all_goals try (first | omega | rfl | ((with_reducible refine drawGoal ?_); exact rfl) | (simp only [inR]; omega) | (intro y hy; simp only [List.mem_singleton] at hy; subst hy; rfl) | (intro y hy; cases hy; done) | (simp only [List.length_append, List.length_map, List.length_cons, List.length_nil]; omega) | (intro h; simp only [inR]; omega) | (intro h; simp only [List.length_append, List.length_map, List.length_cons, List.length_nil]; omega) | (intro h; exact h.elim))
                refine hK _ ?_
                clear hK K
                refine PWp.cond (by rfl) (fun hb84 => ?_) (fun hb84 => ?_)
                ·
                 try (cases hb84; done)
                 all_goals
                  refine PWp.seq_rg [6, 7, 8] orcG1_ok (mv := mv) (by decide) fun K hK => ?_
                  simp only [pwr, pr1, mv, Int.reduceLT, Int.reduceSub, Int.reduceNeg, Int.reduceToNat, ne_eq, reduceIte, reduceCtorEq, Nat.reduceEqDiff, Nat.reduceAdd, Nat.reduceMul, Nat.reduceSub, Nat.reduceLT, Nat.reduceLeDiff, Nat.reduceBEq, if_true, if_false, implies_true, Bool.cond_true, Bool.cond_false, orcG1, c184, c183, uOf_toNat, zf, binShift, Int.reduceToNat, Int.reducePow]
                  repeat' with_reducible refine And.intro ?_ ?_
                  all_goals try (first | omega | rfl | ((with_reducible refine drawGoal ?_); exact rfl) | (simp only [inR]; omega) | (intro y hy; simp only [List.mem_singleton] at hy; subst hy; rfl) | (intro y hy; cases hy; done) | (simp only [List.length_append, List.length_map, List.length_cons, List.length_nil]; omega) | (intro h; simp only [inR]; omega) | (intro h; simp only [List.length_append, List.length_map, List.length_cons, List.length_nil]; omega) | (intro h; exact h.elim))
                  refine hK _ ?_
                  clear hK K
                  refine PWp.ret (hq11r _ (hq9r _ (hq6r _ (hQ2 _ ?_))))
                  simp only [pwf, pf1, reduceIte, reduceCtorEq, Nat.reduceEqDiff, Nat.reduceAdd, Nat.reduceMul, Nat.reduceSub, Nat.reduceLT, Nat.reduceLeDiff, Nat.reduceBEq, if_true, if_false, implies_true, Bool.cond_true, Bool.cond_false, zf, binShift, Int.reduceToNat, Int.reducePow, Tryz.results165]
                  repeat simp only [pwf, pf1, reduceIte, reduceCtorEq, Nat.reduceEqDiff, Nat.reduceAdd, Nat.reduceMul, Nat.reduceSub, Nat.reduceLT, Nat.reduceLeDiff, Nat.reduceBEq, if_true, if_false, implies_true, Bool.cond_true, Bool.cond_false, zf, binShift, Int.reduceToNat, Int.reducePow]
                  rw [hpt.2 x hjs hx (of_decide_eq_true hb84)]
                  exact ⟨rfl, rfl, by show PV.int _ ((o : Int) + ((2 + j : Nat) : Int)) = _; congr 1; omega, rfl⟩
                ·
                 try (cases hb84; done)
                 all_goals
                  refine PWp.skip (hq11n _ (hK10 _ ?_))
                  have hno1 : ¬ hexV x < 0 := of_decide_eq_false hb84
                  have h15 := hexV_lt x
                  have hwr := wrap16 (hexW ((s.drop (o + 2)).take j)) (d := hexV x) (by omega) h15
                  have hjd : j < (s.drop (o + 2)).length := by rw [List.length_drop]; omega
                  have hxj : (s.drop (o + 2))[j] = x := by rw [List.getElem_drop, ← getN hjs]; exact hx
                  refine PWp.rg [0, 1, 8, 10, 11] orcG1_ok (mv := mv) (by decide) ?_
                  simp only [pwr, pr1, mv, Int.reduceLT, Int.reduceSub, Int.reduceNeg, Int.reduceToNat, ne_eq, reduceIte, reduceCtorEq, Nat.reduceEqDiff, Nat.reduceAdd, Nat.reduceMul, Nat.reduceSub, Nat.reduceLT, Nat.reduceLeDiff, Nat.reduceBEq, if_true, if_false, implies_true, Bool.cond_true, Bool.cond_false, orcG1, c184, c183, uOf_toNat, zf, binShift, Int.reduceToNat, Int.reducePow, ej, hx]
                  repeat' with_reducible refine And.intro ?_ ?_
                  all_goals try (first | omega | exact ub_bd _ | exact (ub_bd _).1 | exact (ub_bd _).2 | decide | exact hwr | (simp only [inR]; omega))
                  all_goals try (first | omega | rfl | ((with_reducible refine drawGoal ?_); exact rfl) | (simp only [inR]; omega) | (intro y hy; simp only [List.mem_singleton] at hy; subst hy; rfl) | (intro y hy; cases hy; done) | (simp only [List.length_append, List.length_map, List.length_cons, List.length_nil]; omega) | (intro h; simp only [inR]; omega) | (intro h; simp only [List.length_append, List.length_map, List.length_cons, List.length_nil]; omega) | (intro h; exact h.elim))
                  refine hq9n _ (hK8 _ ?_)
                  refine PWp.rg [0, 1, 8, 10, 11] orcG1_ok (mv := mv) (by decide) ?_
                  simp only [pwr, pr1, mv, Int.reduceLT, Int.reduceSub, Int.reduceNeg, Int.reduceToNat, ne_eq, reduceIte, reduceCtorEq, Nat.reduceEqDiff, Nat.reduceAdd, Nat.reduceMul, Nat.reduceSub, Nat.reduceLT, Nat.reduceLeDiff, Nat.reduceBEq, if_true, if_false, implies_true, Bool.cond_true, Bool.cond_false, orcG1, c184, c183, uOf_toNat, zf, binShift, Int.reduceToNat, Int.reducePow]
                  repeat' with_reducible refine And.intro ?_ ?_
                  all_goals try (first | omega | rfl | ((with_reducible refine drawGoal ?_); exact rfl) | (simp only [inR]; omega) | (intro y hy; simp only [List.mem_singleton] at hy; subst hy; rfl) | (intro y hy; cases hy; done) | (simp only [List.length_append, List.length_map, List.length_cons, List.length_nil]; omega) | (intro h; simp only [inR]; omega) | (intro h; simp only [List.length_append, List.length_map, List.length_cons, List.length_nil]; omega) | (intro h; exact h.elim))
                  refine hJ1 _ (j + 1) ?_ ?_ ?_
                  · refine ⟨by omega, by omega, fun b hb => ?_⟩
                    rw [List.take_succ_eq_append_getElem hjd] at hb
                    rcases List.mem_append.1 hb with hb | hb
                    · exact hno b hb
                    · simp only [List.mem_singleton] at hb
                      rw [hb, hxj]
                      exact hno1
                  · omega
                  · repeat simp only [pwf, pf1, reduceIte, reduceCtorEq, Nat.reduceEqDiff, Nat.reduceAdd, Nat.reduceMul, Nat.reduceSub, Nat.reduceLT, Nat.reduceLeDiff, Nat.reduceBEq, if_true, if_false, implies_true, Bool.cond_true, Bool.cond_false, zf, binShift, Int.reduceToNat, Int.reducePow]
                    rw [hexW_snoc hjd, hxj]
                    exact ⟨rfl, by congr 1⟩
            ·
             try (cases hb75; done)
             all_goals
              refine PWp.exit (hq6x _ (hK5 _ ?_))
              have hj2 : j = 2 := by have := of_decide_eq_false hb75; omega
              obtain ⟨x, hx⟩ : ∃ x, s.getD (o + 2) 0 = x := ⟨_, rfl⟩
              obtain ⟨y, hy⟩ : ∃ y, s.getD (o + 2 + 1) 0 = y := ⟨_, rfl⟩
              have d2 := drop_at (by omega) hx
              have d3 := drop_at (by omega) hy
              have et : (s.drop (o + 2)).take 2 = [x, y] := by rw [d2, d3]; rfl
              rw [hj2, et] at hno
              have hx0 := hno x (by simp)
              have hy0 := hno y (by simp)
              have hx15 := hexV_lt x
              have hy15 := hexV_lt y
              have ehw : hexW ((s.drop (o + 2)).take j) = hexV x * 16 + hexV y := by rw [hj2, et]; exact hex2 hx0 hy0
              refine PWp.seq_rg [6, 7, 8] orcG1_ok (mv := mv) (by decide) fun K hK => ?_
              simp only [pwr, pr1, mv, Int.reduceLT, Int.reduceSub, Int.reduceNeg, Int.reduceToNat, ne_eq, reduceIte, reduceCtorEq, Nat.reduceEqDiff, Nat.reduceAdd, Nat.reduceMul, Nat.reduceSub, Nat.reduceLT, Nat.reduceLeDiff, Nat.reduceBEq, if_true, if_false, implies_true, Bool.cond_true, Bool.cond_false, orcG1, c184, c183, uOf_toNat, zf, binShift, Int.reduceToNat, Int.reducePow, ehw]
              repeat' with_reducible refine And.intro ?_ ?_
              all_goals try (first | omega | (simp only [inR]; omega))
              all_goals try (first | omega | rfl | ((with_reducible refine drawGoal ?_); exact rfl) | (simp only [inR]; omega) | (intro y hy; simp only [List.mem_singleton] at hy; subst hy; rfl) | (intro y hy; cases hy; done) | (simp only [List.length_append, List.length_map, List.length_cons, List.length_nil]; omega) | (intro h; simp only [inR]; omega) | (intro h; simp only [List.length_append, List.length_map, List.length_cons, List.length_nil]; omega) | (intro h; exact h.elim))
              refine hK _ ?_
              clear hK K
              refine PWp.ret (hQ2 _ ?_)
              simp only [pwf, pf1, reduceIte, reduceCtorEq, Nat.reduceEqDiff, Nat.reduceAdd, Nat.reduceMul, Nat.reduceSub, Nat.reduceLT, Nat.reduceLeDiff, Nat.reduceBEq, if_true, if_false, implies_true, Bool.cond_true, Bool.cond_false, zf, binShift, Int.reduceToNat, Int.reducePow, Tryz.results165]
              repeat simp only [pwf, pf1, reduceIte, reduceCtorEq, Nat.reduceEqDiff, Nat.reduceAdd, Nat.reduceMul, Nat.reduceSub, Nat.reduceLT, Nat.reduceLeDiff, Nat.reduceBEq, if_true, if_false, implies_true, Bool.cond_true, Bool.cond_false, zf, binShift, Int.reduceToNat, Int.reducePow]
              rw [hd, hd1, show o + 1 + 1 = o + 2 from rfl, d2, d3, pc9 h1 h2 h3 hx0 hy0]
              exact ⟨congrArg _ (ofNat_int (by omega) (by omega)), rfl, rfl, rfl⟩
def c165 : St → Option (Prop × St)
  | [(.S 0, .av (.pv (.str s))), (.S 1, .av (.pv (.int .i64 n))), (.S 2, .av (.pv (.int .u8 q)))] => some (s.length ≤ 20000 ∧ 0 ≤ n ∧ n.toNat ≤ s.length ∧ 0 ≤ q ∧ q < 256, [(.S 0, .av (pieceA n.toNat (piece (s.drop n.toNat) (uOf q))))])
  | _ => none
theorem p165 {In Ret : St} {pre : Prop} (h : c165 In = some (pre, Ret)) (hp : pre) : PCalls Tryz.prog 165 In Ret := by
  unfold c165 at h
  split at h
  · rename_i s n q
    cases h
    have := t75 s n.toNat (uOf q) hp.1 hp.2.2.1
    rw [ub, ← of_uOf hp.2.2.2, Int.toNat_of_nonneg hp.2.1] at this
    exact this
  · cases h
end Go.Pw.L21
