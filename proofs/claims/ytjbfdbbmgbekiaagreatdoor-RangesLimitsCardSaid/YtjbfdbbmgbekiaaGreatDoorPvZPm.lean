/- Ranges: parsing. -/
import Derived.Test.YtjbfdbbmgbekiaaGreatDoorPvZRm
import Derived.Lib.SlTrimSet
set_option linter.unusedSimpArgs false
set_option linter.unusedVariables false
set_option linter.unusedSectionVars false
set_option maxHeartbeats 4000000
set_option maxRecDepth 20000
namespace Go.Pw.G7
open Go.Proofs Go.Pw
theorem tens_iff (b : UInt8) : tens.contains b = isDig b := by
  rw [Bool.eq_iff_iff]
  unfold tens isDig
  simp only [List.contains_iff_mem, List.mem_cons, List.not_mem_nil, or_false, Bool.and_eq_true, decide_eq_true_eq, UInt8.le_iff_toNat_le, ← UInt8.toNat_inj]
  have : b.toNat < 256 := b.toNat_lt
  simp only [UInt8.reduceToNat]
  omega
theorem dropWhile_none {α : Type} {p : α → Bool} : ∀ {l : List α}, l.dropWhile p = [] ↔ ∀ x ∈ l, p x = true
  | [] => by simp
  | a :: l => by
    rw [List.dropWhile_cons]
    split
    · rename_i h
      rw [dropWhile_none (l := l)]
      simp [h]
    · rename_i h
      simp [h]
theorem trim_nil (s : Bs) : Lib.trimS s tens = [] ↔ s.all isDig = true := by
  rw [List.all_eq_true]
  unfold Lib.trimS Lib.trimLeftS Lib.trimRightS
  constructor
  · intro h b hb
    have h1 : ∀ x ∈ (s.reverse.dropWhile (tens.contains ·)).reverse, isDig x = true := by
      intro x hx
      have := dropWhile_none.1 h x hx
      rwa [tens_iff] at this
    have h2 : b ∈ s.reverse := by simpa using hb
    rw [← List.takeWhile_append_dropWhile (p := (tens.contains ·)) (l := s.reverse)] at h2
    rcases List.mem_append.1 h2 with k | k
    · have := takeWhile_true k
      rwa [tens_iff] at this
    · exact h1 b (by simpa using k)
  · intro h
    have h1 : s.reverse.dropWhile (tens.contains ·) = [] := dropWhile_none.2 fun x hx => by
      rw [tens_iff]; exact h x (by simpa using hx)
    rw [h1]; rfl
theorem trim_digits (s : Bs) : (Lib.trimS s tens != []) = !(s.all isDig) := by
  have := trim_nil s
  by_cases h : Lib.trimS s tens = []
  · rw [this.1 h, h]; rfl
  · cases hd : s.all isDig
    · simpa using h
    · exact absurd (this.2 hd) h
theorem dec_val : ∀ (s : Bs) (acc : Nat), s.all isDig = true → ∃ n : Nat, Lib.decFrom acc s = some n ∧ (n : Int) = s.foldl (fun n b => n * 10 + ((b.toNat : Int) - 48)) (acc : Int)
  | [], acc, _ => ⟨acc, rfl, rfl⟩
  | b :: s, acc, h => by
    simp only [List.all_cons, Bool.and_eq_true] at h
    have hb := h.1
    unfold isDig at hb
    simp only [Bool.and_eq_true, decide_eq_true_eq, UInt8.le_iff_toNat_le, UInt8.reduceToNat] at hb
    obtain ⟨n, h1, h2⟩ := dec_val s (acc * 10 + (b.toNat - 48)) h.2
    refine ⟨n, ?_, ?_⟩
    · simp only [Lib.decFrom, Lib.digitVal]
      rw [if_pos ⟨hb.1, hb.2⟩]
      exact h1
    · rw [h2, List.foldl_cons]
      congr 1
      omega
theorem atoi_val {s : Bs} (hne : s ≠ []) (h : s.all isDig = true) : Lib.atoi s = some (valD s) := by
  cases s with
  | nil => exact absurd rfl hne
  | cons b r =>
    have hb := (List.all_eq_true.1 h) b (by simp)
    unfold isDig at hb
    simp only [Bool.and_eq_true, decide_eq_true_eq, UInt8.le_iff_toNat_le, UInt8.reduceToNat] at hb
    obtain ⟨n, h1, h2⟩ := dec_val (b :: r) 0 h
    have n1 : (b == 45) = false := by rw [beq_eq_false_iff_ne]; rintro rfl; simp at hb
    have n2 : (b == 43) = false := by rw [beq_eq_false_iff_ne]; rintro rfl; simp at hb
    simp only [Lib.atoi, n1, n2, Lib.decNat]
    rw [show (b :: r).isEmpty = false from rfl]
    simp only [Bool.false_eq_true, if_false, h1, Option.map_some]
    unfold valD
    rw [h2]; rfl
theorem val_bound : ∀ (k : Nat) (s : Bs) (a : Int), 0 ≤ a → s.all isDig = true → s.length ≤ k → 0 ≤ s.foldl (fun n b => n * 10 + ((b.toNat : Int) - 48)) a ∧ s.foldl (fun n b => n * 10 + ((b.toNat : Int) - 48)) a < (a + 1) * 10 ^ k
  | k, [], a, ha, _, _ => by
    refine ⟨ha, ?_⟩
    have : (1 : Int) ≤ 10 ^ k := by exact_mod_cast Nat.one_le_pow k 10 (by decide)
    show a < _
    calc a < a + 1 := by omega
      _ = (a + 1) * 1 := by omega
      _ ≤ (a + 1) * 10 ^ k := Int.mul_le_mul_of_nonneg_left this (by omega)
  | 0, b :: s, a, _, _, hl => by simp at hl
  | k + 1, b :: s, a, ha, h, hl => by
    simp only [List.all_cons, Bool.and_eq_true] at h
    have hb := h.1
    unfold isDig at hb
    simp only [Bool.and_eq_true, decide_eq_true_eq, UInt8.le_iff_toNat_le, UInt8.reduceToNat] at hb
    obtain ⟨h1, h2⟩ := val_bound k s (a * 10 + ((b.toNat : Int) - 48)) (by omega) h.2 (by simpa using hl)
    refine ⟨h1, Int.lt_of_lt_of_le h2 ?_⟩
    rw [Int.pow_succ, ← Int.mul_assoc, Int.mul_right_comm]
    refine Int.mul_le_mul_of_nonneg_right (by omega) ?_
    exact_mod_cast Nat.zero_le _
theorem numL_bound {s : Bs} {n : Int} (h : numL s = some n) : 0 ≤ n ∧ n < 10000000000000 := by
  unfold numL at h
  split at h
  · cases h
  · rename_i hn
    cases h
    have hd : s.all isDig = true := by
      cases hh : s.all isDig
      · exact absurd (.inr (.inr (.inr (by simp [hh])))) hn
      · rfl
    have := val_bound 13 s 0 (by decide) hd (by omega)
    unfold valD
    simpa using this
def c61 : St → Option (Prop × St)
  | [(.S 0, .av (.pv (.str s))), (.S 1, .av (.pv (.str cs)))] => some (s.length ≤ 1000000 ∧ cs = tens, [(.S 0, .av (.pv (.str (Lib.trimS s tens))))])
  | _ => none
theorem p61 {In Ret : St} {pre : Prop} (h : c61 In = some (pre, Ret)) (hp : pre) : PCalls Tryz.prog 61 In Ret := by
  unfold c61 at h
  split at h
  · cases h
    obtain ⟨h1, rfl⟩ := hp
    exact tTrim _ _ h1 (by decide) (by decide)
  · cases h
def c62 : St → Option (Prop × St)
  | [(.S 0, .av (.pv (.str s)))] => some (s.length ≤ 18 ∧ s ≠ [] ∧ s.all isDig = true, [(.S 0, .av (.tup [.pv (.int .i64 (valD s)), .pv (.raw .nilIface)]))])
  | _ => none
theorem p62 {In Ret : St} {pre : Prop} (h : c62 In = some (pre, Ret)) (hp : pre) : PCalls Tryz.prog 62 In Ret := by
  unfold c62 at h
  split at h
  · cases h
    exact tAtoi _ _ hp.1 (atoi_val hp.2.1 hp.2.2)
  · cases h
def orcP1 : Orc := fun f In => if f = 61 then c61 In else if f = 62 then c62 In else none
theorem orcP1_ok : OrcOk Tryz.prog orcP1 := by
  intro f In pre Ret h hp
  unfold orcP1 at h
  split at h
  · subst f; exact p61 h hp
  split at h
  · subst f; exact p62 h hp
  cases h
theorem num_none {b : UInt8} {s : Bs} (h : (decide (((s.length + 1 : Nat) : Int) < 1) || decide (13 < ((s.length + 1 : Nat) : Int)) || decide (1 < ((s.length + 1 : Nat) : Int)) && ((((b :: s).getD 0 0).toNat : Int) == 48) || !(Lib.trimS (b :: s) tens == [])) = true) : numL (b :: s) = none := by
  have ht := trim_nil (b :: s)
  simp only [Bool.or_eq_true, Bool.and_eq_true, decide_eq_true_eq, Bool.not_eq_true', beq_eq_false_iff_ne, beq_iff_eq] at h
  unfold numL
  rw [if_pos]
  rcases h with ((h | h) | ⟨h1, h2⟩) | h
  · omega
  · exact .inr (.inl (by simp only [List.length_cons]; omega))
  · refine .inr (.inr (.inl ⟨by simp only [List.length_cons]; omega, ?_⟩))
    have : b = 48 := by
      rw [← UInt8.toNat_inj]
      have h3 : (b.toNat : Int) = 48 := h2
      show b.toNat = 48
      omega
    rw [this]; rfl
  · exact .inr (.inr (.inr fun hh => h (ht.2 hh)))
theorem num_some {b : UInt8} {s : Bs} (h : (decide (((s.length + 1 : Nat) : Int) < 1) || decide (13 < ((s.length + 1 : Nat) : Int)) || decide (1 < ((s.length + 1 : Nat) : Int)) && ((((b :: s).getD 0 0).toNat : Int) == 48) || !(Lib.trimS (b :: s) tens == [])) = false) : numL (b :: s) = some (valD (b :: s)) ∧ s.length + 1 ≤ 13 ∧ (b :: s).all isDig = true := by
  have ht := trim_nil (b :: s)
  simp only [Bool.or_eq_false_iff, Bool.and_eq_false_iff, decide_eq_false_iff_not, Bool.not_eq_false', beq_eq_false_iff_ne, beq_iff_eq] at h
  obtain ⟨⟨⟨h1, h2⟩, h3⟩, h4⟩ := h
  have hd := ht.1 h4
  refine ⟨?_, by omega, hd⟩
  unfold numL
  rw [if_neg]
  rintro (k | k | ⟨k1, k2⟩ | k)
  · simp at k
  · simp only [List.length_cons] at k; omega
  · simp only [List.length_cons] at k1
    have : b = 48 := by simpa using k2
    subst this
    rcases h3 with h3 | h3
    · omega
    · exact h3 rfl
  · exact k hd
theorem iface88 : ifaceT Tryz.prog 88 = true := by kernel_rfl
theorem t44p (s : Bs) (hs : s.length ≤ 1000000) : PCalls Tryz.prog 44 [(.S 0, .av (.pv (.str s)))] [(.S 0, .av (.tup [.pv (.int .i64 ((numL s).getD 0)), .pv (.bool (numL s).isSome)]))] := by
  refine PCalls.of_k Tryz.func44 (by decide) rfl fun Q hQ1 hQ2 => ?_
  refine PWp.seq_rg [0] orcP1_ok (mv := mv) (by decide) fun K hK => ?_
  simp only [pwr, mv, List.getD_nil, List.drop_nil, List.head?_nil, Int.natCast_zero, Int.reduceLT, Int.reduceSub, Int.reduceNeg, Int.reduceToNat, decide_false, decide_true, gt_iff_lt, Int.lt_irrefl, ne_eq, not_false_eq_true, not_true_eq_false, reduceIte, reduceCtorEq, Nat.reduceEqDiff, Nat.reduceAdd, Nat.reduceMul, Nat.reduceSub, Nat.reduceLT, Nat.reduceLeDiff, Nat.reduceBEq, if_true, if_false, implies_true, Option.isSome_none, Option.isSome_some, List.nil_append, List.cons_append, List.append_nil, List.map_cons, List.map_nil, List.toList_toArray, Option.getD_some, Option.getD_none, Option.map_some, Option.map_none, Option.bind_some, Option.bind_none, List.length_cons, List.length_nil, Bool.cond_true, Bool.cond_false, Array.toList_append, List.filterMap_cons, List.filterMap_nil, List.all_nil, List.all_cons, List.any_cons, List.any_nil, List.map_append, List.getElem?_toArray, List.getElem?_cons_zero, List.getElem?_cons_succ, Option.toArray_some, Option.toArray_none, List.contains_cons, List.contains_nil, List.head?_cons, List.drop_zero, List.drop_succ_cons, List.take_succ_cons, List.take_zero, List.set_cons_zero, List.set_cons_succ, List.length_map, List.getElem?_nil, orcP1, c61, c62, zf, plainL, plainCell]
  refine hK _ ?_
  clear hK K
  refine PWp.seq_k fun K1 hK1 => ?_
  rcases s with _ | ⟨b, s⟩
  ·
   refine PWp.seq_rg [0, 28] orcP1_ok (mv := mv) (by decide) fun K hK => ?_
   simp only [pwr, mv, List.getD_nil, List.drop_nil, List.head?_nil, Int.natCast_zero, Int.reduceLT, Int.reduceSub, Int.reduceNeg, Int.reduceToNat, decide_false, decide_true, gt_iff_lt, Int.lt_irrefl, ne_eq, not_false_eq_true, not_true_eq_false, reduceIte, reduceCtorEq, Nat.reduceEqDiff, Nat.reduceAdd, Nat.reduceMul, Nat.reduceSub, Nat.reduceLT, Nat.reduceLeDiff, Nat.reduceBEq, if_true, if_false, implies_true, Option.isSome_none, Option.isSome_some, List.nil_append, List.cons_append, List.append_nil, List.map_cons, List.map_nil, List.toList_toArray, Option.getD_some, Option.getD_none, Option.map_some, Option.map_none, Option.bind_some, Option.bind_none, List.length_cons, List.length_nil, Bool.cond_true, Bool.cond_false, Array.toList_append, List.filterMap_cons, List.filterMap_nil, List.all_nil, List.all_cons, List.any_cons, List.any_nil, List.map_append, List.getElem?_toArray, List.getElem?_cons_zero, List.getElem?_cons_succ, Option.toArray_some, Option.toArray_none, List.contains_cons, List.contains_nil, List.head?_cons, List.drop_zero, List.drop_succ_cons, List.take_succ_cons, List.take_zero, List.set_cons_zero, List.set_cons_succ, List.length_map, List.getElem?_nil, orcP1, c61, c62, zf, plainL, plainCell, trim_digits]
   repeat' with_reducible refine And.intro ?_ ?_
   all_goals try (exact fun _ => ⟨by simpa using hs, rfl⟩)
   all_goals try (first | omega | rfl | ((with_reducible refine drawGoal ?_); exact rfl) | (simp only [inR]; omega) | (intro y hy; simp only [List.mem_singleton] at hy; subst hy; rfl) | (intro y hy; cases hy; done) | (simp only [List.length_append, List.length_map, List.length_cons, List.length_nil]; omega) | (intro h; simp only [inR]; omega) | (intro h; simp only [List.length_append, List.length_map, List.length_cons, List.length_nil]; omega) | (intro h; exact h.elim))
   refine hK _ ?_
   clear hK K
   refine PWp.cond (by rfl) (fun hb28 => ?_) (fun hb28 => ?_)
   ·
    try (cases hb28; done)
    all_goals
     refine PWp.seq_rg [2, 3] orcP1_ok (mv := mv) (by decide) fun K hK => ?_
     simp only [pwr, mv, List.getD_nil, List.drop_nil, List.head?_nil, Int.natCast_zero, Int.reduceLT, Int.reduceSub, Int.reduceNeg, Int.reduceToNat, decide_false, decide_true, gt_iff_lt, Int.lt_irrefl, ne_eq, not_false_eq_true, not_true_eq_false, reduceIte, reduceCtorEq, Nat.reduceEqDiff, Nat.reduceAdd, Nat.reduceMul, Nat.reduceSub, Nat.reduceLT, Nat.reduceLeDiff, Nat.reduceBEq, if_true, if_false, implies_true, Option.isSome_none, Option.isSome_some, List.nil_append, List.cons_append, List.append_nil, List.map_cons, List.map_nil, List.toList_toArray, Option.getD_some, Option.getD_none, Option.map_some, Option.map_none, Option.bind_some, Option.bind_none, List.length_cons, List.length_nil, Bool.cond_true, Bool.cond_false, Array.toList_append, List.filterMap_cons, List.filterMap_nil, List.all_nil, List.all_cons, List.any_cons, List.any_nil, List.map_append, List.getElem?_toArray, List.getElem?_cons_zero, List.getElem?_cons_succ, Option.toArray_some, Option.toArray_none, List.contains_cons, List.contains_nil, List.head?_cons, List.drop_zero, List.drop_succ_cons, List.take_succ_cons, List.take_zero, List.set_cons_zero, List.set_cons_succ, List.length_map, List.getElem?_nil, orcP1, c61, c62, zf, plainL, plainCell]
     refine hK _ ?_
     clear hK K
     refine PWp.ret (hQ2 _ ?_)
     simp only [pwf, List.drop_zero, List.drop_succ_cons, List.take_succ_cons, List.take_zero, List.getElem?_cons_zero, List.getElem?_cons_succ, List.getElem?_nil, Nat.sub_self, reduceIte, reduceCtorEq, Nat.reduceEqDiff, Nat.reduceAdd, Nat.reduceMul, Nat.reduceSub, Nat.reduceLT, Nat.reduceLeDiff, Nat.reduceBEq, if_true, if_false, implies_true, Option.isSome_none, Option.isSome_some, List.nil_append, List.cons_append, List.append_nil, List.map_cons, List.map_nil, List.toList_toArray, Option.getD_some, Option.getD_none, Option.map_some, Option.map_none, Option.bind_some, Option.bind_none, List.length_cons, List.length_nil, Bool.cond_true, Bool.cond_false, Array.toList_append, List.contains_cons, List.contains_nil, zf, plainL, plainCell, Tryz.results44]
     repeat simp only [pwf, List.drop_zero, List.drop_succ_cons, List.take_succ_cons, List.take_zero, List.getElem?_cons_zero, List.getElem?_cons_succ, List.getElem?_nil, Nat.sub_self, reduceIte, reduceCtorEq, Nat.reduceEqDiff, Nat.reduceAdd, Nat.reduceMul, Nat.reduceSub, Nat.reduceLT, Nat.reduceLeDiff, Nat.reduceBEq, if_true, if_false, implies_true, Option.isSome_none, Option.isSome_some, List.nil_append, List.cons_append, List.append_nil, List.map_cons, List.map_nil, List.toList_toArray, Option.getD_some, Option.getD_none, Option.map_some, Option.map_none, Option.bind_some, Option.bind_none, List.length_cons, List.length_nil, Bool.cond_true, Bool.cond_false, Array.toList_append, List.contains_cons, List.contains_nil, zf, plainL, plainCell]
     have e : numL [] = none := by simp [numL]
     rw [e]; exact ⟨rfl, rfl⟩
   ·
    cases hb28
  ·
   refine PWp.seq_rg [0, 28] orcP1_ok (mv := mv) (by decide) fun K hK => ?_
   simp only [pwr, mv, List.getD_nil, List.drop_nil, List.head?_nil, Int.natCast_zero, Int.reduceLT, Int.reduceSub, Int.reduceNeg, Int.reduceToNat, decide_false, decide_true, gt_iff_lt, Int.lt_irrefl, ne_eq, not_false_eq_true, not_true_eq_false, reduceIte, reduceCtorEq, Nat.reduceEqDiff, Nat.reduceAdd, Nat.reduceMul, Nat.reduceSub, Nat.reduceLT, Nat.reduceLeDiff, Nat.reduceBEq, if_true, if_false, implies_true, Option.isSome_none, Option.isSome_some, List.nil_append, List.cons_append, List.append_nil, List.map_cons, List.map_nil, List.toList_toArray, Option.getD_some, Option.getD_none, Option.map_some, Option.map_none, Option.bind_some, Option.bind_none, List.length_cons, List.length_nil, Bool.cond_true, Bool.cond_false, Array.toList_append, List.filterMap_cons, List.filterMap_nil, List.all_nil, List.all_cons, List.any_cons, List.any_nil, List.map_append, List.getElem?_toArray, List.getElem?_cons_zero, List.getElem?_cons_succ, Option.toArray_some, Option.toArray_none, List.contains_cons, List.contains_nil, List.head?_cons, List.drop_zero, List.drop_succ_cons, List.take_succ_cons, List.take_zero, List.set_cons_zero, List.set_cons_succ, List.length_map, List.getElem?_nil, orcP1, c61, c62, zf, plainL, plainCell, trim_digits]
   repeat' with_reducible refine And.intro ?_ ?_
   all_goals try (exact fun _ => ⟨by simpa using hs, rfl⟩)
   all_goals try (first | omega | rfl | ((with_reducible refine drawGoal ?_); exact rfl) | (simp only [inR]; omega) | (intro y hy; simp only [List.mem_singleton] at hy; subst hy; rfl) | (intro y hy; cases hy; done) | (simp only [List.length_append, List.length_map, List.length_cons, List.length_nil]; omega) | (intro h; simp only [inR]; omega) | (intro h; simp only [List.length_append, List.length_map, List.length_cons, List.length_nil]; omega) | (intro h; exact h.elim))
   refine hK _ ?_
   clear hK K
   refine PWp.cond (by rfl) (fun hb28 => ?_) (fun hb28 => ?_)
   ·
    try (cases hb28; done)
    all_goals
     refine PWp.seq_rg [2, 3] orcP1_ok (mv := mv) (by decide) fun K hK => ?_
     simp only [pwr, mv, List.getD_nil, List.drop_nil, List.head?_nil, Int.natCast_zero, Int.reduceLT, Int.reduceSub, Int.reduceNeg, Int.reduceToNat, decide_false, decide_true, gt_iff_lt, Int.lt_irrefl, ne_eq, not_false_eq_true, not_true_eq_false, reduceIte, reduceCtorEq, Nat.reduceEqDiff, Nat.reduceAdd, Nat.reduceMul, Nat.reduceSub, Nat.reduceLT, Nat.reduceLeDiff, Nat.reduceBEq, if_true, if_false, implies_true, Option.isSome_none, Option.isSome_some, List.nil_append, List.cons_append, List.append_nil, List.map_cons, List.map_nil, List.toList_toArray, Option.getD_some, Option.getD_none, Option.map_some, Option.map_none, Option.bind_some, Option.bind_none, List.length_cons, List.length_nil, Bool.cond_true, Bool.cond_false, Array.toList_append, List.filterMap_cons, List.filterMap_nil, List.all_nil, List.all_cons, List.any_cons, List.any_nil, List.map_append, List.getElem?_toArray, List.getElem?_cons_zero, List.getElem?_cons_succ, Option.toArray_some, Option.toArray_none, List.contains_cons, List.contains_nil, List.head?_cons, List.drop_zero, List.drop_succ_cons, List.take_succ_cons, List.take_zero, List.set_cons_zero, List.set_cons_succ, List.length_map, List.getElem?_nil, orcP1, c61, c62, zf, plainL, plainCell]
     refine hK _ ?_
     clear hK K
     refine PWp.ret (hQ2 _ ?_)
     simp only [pwf, List.drop_zero, List.drop_succ_cons, List.take_succ_cons, List.take_zero, List.getElem?_cons_zero, List.getElem?_cons_succ, List.getElem?_nil, Nat.sub_self, reduceIte, reduceCtorEq, Nat.reduceEqDiff, Nat.reduceAdd, Nat.reduceMul, Nat.reduceSub, Nat.reduceLT, Nat.reduceLeDiff, Nat.reduceBEq, if_true, if_false, implies_true, Option.isSome_none, Option.isSome_some, List.nil_append, List.cons_append, List.append_nil, List.map_cons, List.map_nil, List.toList_toArray, Option.getD_some, Option.getD_none, Option.map_some, Option.map_none, Option.bind_some, Option.bind_none, List.length_cons, List.length_nil, Bool.cond_true, Bool.cond_false, Array.toList_append, List.contains_cons, List.contains_nil, zf, plainL, plainCell, Tryz.results44]
     repeat simp only [pwf, List.drop_zero, List.drop_succ_cons, List.take_succ_cons, List.take_zero, List.getElem?_cons_zero, List.getElem?_cons_succ, List.getElem?_nil, Nat.sub_self, reduceIte, reduceCtorEq, Nat.reduceEqDiff, Nat.reduceAdd, Nat.reduceMul, Nat.reduceSub, Nat.reduceLT, Nat.reduceLeDiff, Nat.reduceBEq, if_true, if_false, implies_true, Option.isSome_none, Option.isSome_some, List.nil_append, List.cons_append, List.append_nil, List.map_cons, List.map_nil, List.toList_toArray, Option.getD_some, Option.getD_none, Option.map_some, Option.map_none, Option.bind_some, Option.bind_none, List.length_cons, List.length_nil, Bool.cond_true, Bool.cond_false, Array.toList_append, List.contains_cons, List.contains_nil, zf, plainL, plainCell]
     rw [num_none hb28]; exact ⟨rfl, rfl⟩
   ·
    try (cases hb28; done)
    all_goals
     refine PWp.skip (hK1 _ ?_)
     obtain ⟨hn1, hn2, hn3⟩ := num_some hb28
     have hn4 := hn3
     simp only [List.all_cons, Bool.and_eq_true] at hn4
     refine PWp.seq_rg [4, 5] orcP1_ok (mv := mv) (by decide) fun K hK => ?_
     simp only [pwr, mv, List.getD_nil, List.drop_nil, List.head?_nil, Int.natCast_zero, Int.reduceLT, Int.reduceSub, Int.reduceNeg, Int.reduceToNat, decide_false, decide_true, gt_iff_lt, Int.lt_irrefl, ne_eq, not_false_eq_true, not_true_eq_false, reduceIte, reduceCtorEq, Nat.reduceEqDiff, Nat.reduceAdd, Nat.reduceMul, Nat.reduceSub, Nat.reduceLT, Nat.reduceLeDiff, Nat.reduceBEq, if_true, if_false, implies_true, Option.isSome_none, Option.isSome_some, List.nil_append, List.cons_append, List.append_nil, List.map_cons, List.map_nil, List.toList_toArray, Option.getD_some, Option.getD_none, Option.map_some, Option.map_none, Option.bind_some, Option.bind_none, List.length_cons, List.length_nil, Bool.cond_true, Bool.cond_false, Array.toList_append, List.filterMap_cons, List.filterMap_nil, List.all_nil, List.all_cons, List.any_cons, List.any_nil, List.map_append, List.getElem?_toArray, List.getElem?_cons_zero, List.getElem?_cons_succ, Option.toArray_some, Option.toArray_none, List.contains_cons, List.contains_nil, List.head?_cons, List.drop_zero, List.drop_succ_cons, List.take_succ_cons, List.take_zero, List.set_cons_zero, List.set_cons_succ, List.length_map, List.getElem?_nil, orcP1, c61, c62, zf, plainL, plainCell]
     repeat' with_reducible refine And.intro ?_ ?_
     all_goals try (first | omega | exact hn3 | exact hn4.1 | exact hn4.2 | (exact List.cons_ne_nil _ _))
     all_goals try (first | omega | rfl | ((with_reducible refine drawGoal ?_); exact rfl) | (simp only [inR]; omega) | (intro y hy; simp only [List.mem_singleton] at hy; subst hy; rfl) | (intro y hy; cases hy; done) | (simp only [List.length_append, List.length_map, List.length_cons, List.length_nil]; omega) | (intro h; simp only [inR]; omega) | (intro h; simp only [List.length_append, List.length_map, List.length_cons, List.length_nil]; omega) | (intro h; exact h.elim))
     refine hK _ ?_
     clear hK K
     refine PWp.seq_dr [2, 3] mixed orcP1_ok (mv := mv) (by decide) fun K hK => ?_
     simp only [pwr, mv, List.getD_nil, List.drop_nil, List.head?_nil, Int.natCast_zero, Int.reduceLT, Int.reduceSub, Int.reduceNeg, Int.reduceToNat, decide_false, decide_true, gt_iff_lt, Int.lt_irrefl, ne_eq, not_false_eq_true, not_true_eq_false, reduceIte, reduceCtorEq, Nat.reduceEqDiff, Nat.reduceAdd, Nat.reduceMul, Nat.reduceSub, Nat.reduceLT, Nat.reduceLeDiff, Nat.reduceBEq, if_true, if_false, implies_true, Option.isSome_none, Option.isSome_some, List.nil_append, List.cons_append, List.append_nil, List.map_cons, List.map_nil, List.toList_toArray, Option.getD_some, Option.getD_none, Option.map_some, Option.map_none, Option.bind_some, Option.bind_none, List.length_cons, List.length_nil, Bool.cond_true, Bool.cond_false, Array.toList_append, List.filterMap_cons, List.filterMap_nil, List.all_nil, List.all_cons, List.any_cons, List.any_nil, List.map_append, List.getElem?_toArray, List.getElem?_cons_zero, List.getElem?_cons_succ, Option.toArray_some, Option.toArray_none, List.contains_cons, List.contains_nil, List.head?_cons, List.drop_zero, List.drop_succ_cons, List.take_succ_cons, List.take_zero, List.set_cons_zero, List.set_cons_succ, List.length_map, List.getElem?_nil, orcP1, c61, c62, zf, plainL, plainCell, iface88]
     repeat' with_reducible refine And.intro ?_ ?_
     all_goals try (first | omega | rfl | ((with_reducible refine drawGoal ?_); exact rfl) | (simp only [inR]; omega) | (intro y hy; simp only [List.mem_singleton] at hy; subst hy; rfl) | (intro y hy; cases hy; done) | (simp only [List.length_append, List.length_map, List.length_cons, List.length_nil]; omega) | (intro h; simp only [inR]; omega) | (intro h; simp only [List.length_append, List.length_map, List.length_cons, List.length_nil]; omega) | (intro h; exact h.elim))
     refine hK _ ?_
     clear hK K
     refine PWp.ret (hQ2 _ ?_)
     simp only [pwf, List.drop_zero, List.drop_succ_cons, List.take_succ_cons, List.take_zero, List.getElem?_cons_zero, List.getElem?_cons_succ, List.getElem?_nil, Nat.sub_self, reduceIte, reduceCtorEq, Nat.reduceEqDiff, Nat.reduceAdd, Nat.reduceMul, Nat.reduceSub, Nat.reduceLT, Nat.reduceLeDiff, Nat.reduceBEq, if_true, if_false, implies_true, Option.isSome_none, Option.isSome_some, List.nil_append, List.cons_append, List.append_nil, List.map_cons, List.map_nil, List.toList_toArray, Option.getD_some, Option.getD_none, Option.map_some, Option.map_none, Option.bind_some, Option.bind_none, List.length_cons, List.length_nil, Bool.cond_true, Bool.cond_false, Array.toList_append, List.contains_cons, List.contains_nil, zf, plainL, plainCell, Tryz.results44]
     repeat simp only [pwf, List.drop_zero, List.drop_succ_cons, List.take_succ_cons, List.take_zero, List.getElem?_cons_zero, List.getElem?_cons_succ, List.getElem?_nil, Nat.sub_self, reduceIte, reduceCtorEq, Nat.reduceEqDiff, Nat.reduceAdd, Nat.reduceMul, Nat.reduceSub, Nat.reduceLT, Nat.reduceLeDiff, Nat.reduceBEq, if_true, if_false, implies_true, Option.isSome_none, Option.isSome_some, List.nil_append, List.cons_append, List.append_nil, List.map_cons, List.map_nil, List.toList_toArray, Option.getD_some, Option.getD_none, Option.map_some, Option.map_none, Option.bind_some, Option.bind_none, List.length_cons, List.length_nil, Bool.cond_true, Bool.cond_false, Array.toList_append, List.contains_cons, List.contains_nil, zf, plainL, plainCell]
     rw [hn1]; exact ⟨rfl, rfl⟩
theorem index_cut (c : UInt8) : ∀ s : Bs, (Lib.index s [c] = -1 ∧ s.takeWhile (fun b => b != c) = s ∧ s.dropWhile (fun b => b != c) = []) ∨ ∃ r, s = s.takeWhile (fun b => b != c) ++ c :: r ∧ s.dropWhile (fun b => b != c) = c :: r ∧ Lib.index s [c] = (s.takeWhile (fun b => b != c)).length
  | [] => .inl ⟨rfl, rfl, rfl⟩
  | b :: l => by
    by_cases h : b = c
    · subst h
      exact .inr ⟨l, by simp [List.takeWhile_cons], by simp [List.dropWhile_cons], by simp [Lib.index, List.takeWhile_cons, List.isPrefixOf]⟩
    · have hp : ([c] : Bs).isPrefixOf (b :: l) = false := by simp [List.isPrefixOf]; exact fun e => h e.symm
      have hb : (b != c) = true := by simpa using h
      rcases index_cut c l with ⟨h1, h2, h3⟩ | ⟨r, h1, h2, h3⟩
      · left
        rw [Lib.index, hp]
        simp [h1, List.takeWhile_cons, List.dropWhile_cons, hb, h2, h3]
      · right
        refine ⟨r, ?_, ?_, ?_⟩
        · rw [List.takeWhile_cons, if_pos hb, List.cons_append, ← h1]
        · rw [List.dropWhile_cons, if_pos hb, h2]
        · rw [Lib.index, hp, List.takeWhile_cons, if_pos hb]
          have hne : ¬ (Lib.index l [c] == -1) = true := by rw [h3]; simp
          rw [if_neg Bool.false_ne_true, if_neg hne, h3, List.length_cons]
          omega
theorem cut_eq (s : Bs) : (Lib.cut s [43]).1 = leftL s ∧ (Lib.cut s [43]).2.1 = rightL s := by
  unfold Lib.cut leftL rightL
  rcases index_cut 43 s with ⟨h1, h2, h3⟩ | ⟨r, h1, h2, h3⟩
  · rw [h1, h2, h3]; exact ⟨rfl, rfl⟩
  · rw [if_pos (by rw [h3]; omega), h3, h2]
    generalize hl : s.takeWhile (fun b => b != 43) = l at *
    subst h1
    refine ⟨by simp, ?_⟩
    simp
def c43 : St → Option (Prop × St)
  | [(.S 0, .av (.pv (.str s))), (.S 1, .av (.pv (.str cs)))] => some (s.length ≤ 1000000 ∧ cs = [43], [(.S 0, .av (.tup [.pv (.str (leftL s)), .pv (.str (rightL s)), .pv (.bool (Lib.cut s [43]).2.2)]))])
  | _ => none
theorem p43 {In Ret : St} {pre : Prop} (h : c43 In = some (pre, Ret)) (hp : pre) : PCalls Tryz.prog 43 In Ret := by
  unfold c43 at h
  split at h
  · rename_i s cs
    cases h
    obtain ⟨h1, rfl⟩ := hp
    have := tCut s [43] h1
    rwa [(cut_eq s).1, (cut_eq s).2] at this
  · cases h
def c44 : St → Option (Prop × St)
  | [(.S 0, .av (.pv (.str s)))] => some (s.length ≤ 1000000, [(.S 0, .av (.tup [.pv (.int .i64 ((numL s).getD 0)), .pv (.bool (numL s).isSome)]))])
  | _ => none
theorem p44 {In Ret : St} {pre : Prop} (h : c44 In = some (pre, Ret)) (hp : pre) : PCalls Tryz.prog 44 In Ret := by
  unfold c44 at h
  split at h
  · cases h; exact t44p _ hp
  · cases h
def orcP2 : Orc := fun f In => if f = 43 then c43 In else if f = 44 then c44 In else none
theorem orcP2_ok : OrcOk Tryz.prog orcP2 := by
  intro f In pre Ret h hp
  unfold orcP2 at h
  split at h
  · subst f; exact p43 h hp
  split at h
  · subst f; exact p44 h hp
  cases h
theorem num_bd (s : Bs) : 0 ≤ (numL s).getD 0 ∧ (numL s).getD 0 < 10000000000000 := by
  cases h : numL s with
  | none => exact ⟨by decide, by decide⟩
  | some n => exact numL_bound h
theorem left_len (w : Bs) : (leftL w).length ≤ w.length := by
  have := congrArg List.length (List.takeWhile_append_dropWhile (p := fun b : UInt8 => b != 43) (l := w))
  rw [List.length_append] at this
  unfold leftL
  omega
theorem right_len (w : Bs) : (rightL w).length ≤ w.length := by
  have := congrArg List.length (List.takeWhile_append_dropWhile (p := fun b : UInt8 => b != 43) (l := w))
  rw [List.length_append] at this
  unfold rightL
  rw [List.length_tail]
  omega
theorem t20p (w : Bs) (after : Int) (hw : w.length ≤ 1000000) : PCalls Tryz.prog 20 [(.S 0, .av (.pv (.str w))), (.S 1, .av (.pv (.int .i64 after)))] [(.S 0, .av (.tup [gA (itemL w after).1, .pv (.int .i64 (itemL w after).2)]))] := by
  refine PCalls.of_k Tryz.func20 (by decide) rfl fun Q hQ1 hQ2 => ?_
  refine PWp.seq_rg [0, 1, 4] orcP2_ok (mv := mv) (by decide) fun K hK => ?_
  simp only [pwr, mv, List.getD_nil, List.drop_nil, List.head?_nil, Int.natCast_zero, Int.reduceLT, Int.reduceSub, Int.reduceNeg, Int.reduceToNat, decide_false, decide_true, gt_iff_lt, Int.lt_irrefl, ne_eq, not_false_eq_true, not_true_eq_false, reduceIte, reduceCtorEq, Nat.reduceEqDiff, Nat.reduceAdd, Nat.reduceMul, Nat.reduceSub, Nat.reduceLT, Nat.reduceLeDiff, Nat.reduceBEq, if_true, if_false, implies_true, Option.isSome_none, Option.isSome_some, List.nil_append, List.cons_append, List.append_nil, List.map_cons, List.map_nil, List.toList_toArray, Option.getD_some, Option.getD_none, Option.map_some, Option.map_none, Option.bind_some, Option.bind_none, List.length_cons, List.length_nil, Bool.cond_true, Bool.cond_false, Array.toList_append, List.filterMap_cons, List.filterMap_nil, List.all_nil, List.all_cons, List.any_cons, List.any_nil, List.map_append, List.getElem?_toArray, List.getElem?_cons_zero, List.getElem?_cons_succ, Option.toArray_some, Option.toArray_none, List.contains_cons, List.contains_nil, List.head?_cons, List.drop_zero, List.drop_succ_cons, List.take_succ_cons, List.take_zero, List.set_cons_zero, List.set_cons_succ, List.length_map, List.getElem?_nil, orcP2, c43, c44, zf, plainL, plainCell]
  refine hK _ ?_
  clear hK K
  refine PWp.seq_rg [1, 4, 6, 7] orcP2_ok (mv := mv) (by decide) fun K hK => ?_
  simp only [pwr, mv, List.getD_nil, List.drop_nil, List.head?_nil, Int.natCast_zero, Int.reduceLT, Int.reduceSub, Int.reduceNeg, Int.reduceToNat, decide_false, decide_true, gt_iff_lt, Int.lt_irrefl, ne_eq, not_false_eq_true, not_true_eq_false, reduceIte, reduceCtorEq, Nat.reduceEqDiff, Nat.reduceAdd, Nat.reduceMul, Nat.reduceSub, Nat.reduceLT, Nat.reduceLeDiff, Nat.reduceBEq, if_true, if_false, implies_true, Option.isSome_none, Option.isSome_some, List.nil_append, List.cons_append, List.append_nil, List.map_cons, List.map_nil, List.toList_toArray, Option.getD_some, Option.getD_none, Option.map_some, Option.map_none, Option.bind_some, Option.bind_none, List.length_cons, List.length_nil, Bool.cond_true, Bool.cond_false, Array.toList_append, List.filterMap_cons, List.filterMap_nil, List.all_nil, List.all_cons, List.any_cons, List.any_nil, List.map_append, List.getElem?_toArray, List.getElem?_cons_zero, List.getElem?_cons_succ, Option.toArray_some, Option.toArray_none, List.contains_cons, List.contains_nil, List.head?_cons, List.drop_zero, List.drop_succ_cons, List.take_succ_cons, List.take_zero, List.set_cons_zero, List.set_cons_succ, List.length_map, List.getElem?_nil, orcP2, c43, c44, zf, plainL, plainCell]
  repeat' with_reducible refine And.intro ?_ ?_
  all_goals try (omega)
  all_goals try (first | omega | rfl | ((with_reducible refine drawGoal ?_); exact rfl) | (simp only [inR]; omega) | (intro y hy; simp only [List.mem_singleton] at hy; subst hy; rfl) | (intro y hy; cases hy; done) | (simp only [List.length_append, List.length_map, List.length_cons, List.length_nil]; omega) | (intro h; simp only [inR]; omega) | (intro h; simp only [List.length_append, List.length_map, List.length_cons, List.length_nil]; omega) | (intro h; exact h.elim))
  refine hK _ ?_
  clear hK K
  have hll := left_len w
  have hrl := right_len w
  refine PWp.seq_rg [1, 4, 7, 9, 10] orcP2_ok (mv := mv) (by decide) fun K hK => ?_
  simp only [pwr, mv, List.getD_nil, List.drop_nil, List.head?_nil, Int.natCast_zero, Int.reduceLT, Int.reduceSub, Int.reduceNeg, Int.reduceToNat, decide_false, decide_true, gt_iff_lt, Int.lt_irrefl, ne_eq, not_false_eq_true, not_true_eq_false, reduceIte, reduceCtorEq, Nat.reduceEqDiff, Nat.reduceAdd, Nat.reduceMul, Nat.reduceSub, Nat.reduceLT, Nat.reduceLeDiff, Nat.reduceBEq, if_true, if_false, implies_true, Option.isSome_none, Option.isSome_some, List.nil_append, List.cons_append, List.append_nil, List.map_cons, List.map_nil, List.toList_toArray, Option.getD_some, Option.getD_none, Option.map_some, Option.map_none, Option.bind_some, Option.bind_none, List.length_cons, List.length_nil, Bool.cond_true, Bool.cond_false, Array.toList_append, List.filterMap_cons, List.filterMap_nil, List.all_nil, List.all_cons, List.any_cons, List.any_nil, List.map_append, List.getElem?_toArray, List.getElem?_cons_zero, List.getElem?_cons_succ, Option.toArray_some, Option.toArray_none, List.contains_cons, List.contains_nil, List.head?_cons, List.drop_zero, List.drop_succ_cons, List.take_succ_cons, List.take_zero, List.set_cons_zero, List.set_cons_succ, List.length_map, List.getElem?_nil, orcP2, c43, c44, zf, plainL, plainCell]
  repeat' with_reducible refine And.intro ?_ ?_
  all_goals try (omega)
  all_goals try (first | omega | rfl | ((with_reducible refine drawGoal ?_); exact rfl) | (simp only [inR]; omega) | (intro y hy; simp only [List.mem_singleton] at hy; subst hy; rfl) | (intro y hy; cases hy; done) | (simp only [List.length_append, List.length_map, List.length_cons, List.length_nil]; omega) | (intro h; simp only [inR]; omega) | (intro h; simp only [List.length_append, List.length_map, List.length_cons, List.length_nil]; omega) | (intro h; exact h.elim))
  refine hK _ ?_
  clear hK K
  refine PWp.seq_rg [1, 4, 9, 10, 11, 12] orcP2_ok (mv := mv) (by decide) fun K hK => ?_
  simp only [pwr, mv, List.getD_nil, List.drop_nil, List.head?_nil, Int.natCast_zero, Int.reduceLT, Int.reduceSub, Int.reduceNeg, Int.reduceToNat, decide_false, decide_true, gt_iff_lt, Int.lt_irrefl, ne_eq, not_false_eq_true, not_true_eq_false, reduceIte, reduceCtorEq, Nat.reduceEqDiff, Nat.reduceAdd, Nat.reduceMul, Nat.reduceSub, Nat.reduceLT, Nat.reduceLeDiff, Nat.reduceBEq, if_true, if_false, implies_true, Option.isSome_none, Option.isSome_some, List.nil_append, List.cons_append, List.append_nil, List.map_cons, List.map_nil, List.toList_toArray, Option.getD_some, Option.getD_none, Option.map_some, Option.map_none, Option.bind_some, Option.bind_none, List.length_cons, List.length_nil, Bool.cond_true, Bool.cond_false, Array.toList_append, List.filterMap_cons, List.filterMap_nil, List.all_nil, List.all_cons, List.any_cons, List.any_nil, List.map_append, List.getElem?_toArray, List.getElem?_cons_zero, List.getElem?_cons_succ, Option.toArray_some, Option.toArray_none, List.contains_cons, List.contains_nil, List.head?_cons, List.drop_zero, List.drop_succ_cons, List.take_succ_cons, List.take_zero, List.set_cons_zero, List.set_cons_succ, List.length_map, List.getElem?_nil, orcP2, c43, c44, zf, plainL, plainCell]
  repeat' with_reducible refine And.intro ?_ ?_
  all_goals try (omega)
  all_goals try (first | omega | rfl | ((with_reducible refine drawGoal ?_); exact rfl) | (simp only [inR]; omega) | (intro y hy; simp only [List.mem_singleton] at hy; subst hy; rfl) | (intro y hy; cases hy; done) | (simp only [List.length_append, List.length_map, List.length_cons, List.length_nil]; omega) | (intro h; simp only [inR]; omega) | (intro h; simp only [List.length_append, List.length_map, List.length_cons, List.length_nil]; omega) | (intro h; exact h.elim))
  refine hK _ ?_
  clear hK K
  refine PWp.seq_k fun K1 hK1 => ?_
  refine PWp.block_k fun Qq2 hq2n hq2x hq2r hq2e => ?_
  have hbA := num_bd (leftL w)
  have hbB := num_bd (rightL w)
  refine PWp.seq_rg [1, 4, 9, 11, 29] orcP2_ok (mv := mv) (by decide) fun K hK => ?_
  simp only [pwr, mv, List.getD_nil, List.drop_nil, List.head?_nil, Int.natCast_zero, Int.reduceLT, Int.reduceSub, Int.reduceNeg, Int.reduceToNat, decide_false, decide_true, gt_iff_lt, Int.lt_irrefl, ne_eq, not_false_eq_true, not_true_eq_false, reduceIte, reduceCtorEq, Nat.reduceEqDiff, Nat.reduceAdd, Nat.reduceMul, Nat.reduceSub, Nat.reduceLT, Nat.reduceLeDiff, Nat.reduceBEq, if_true, if_false, implies_true, Option.isSome_none, Option.isSome_some, List.nil_append, List.cons_append, List.append_nil, List.map_cons, List.map_nil, List.toList_toArray, Option.getD_some, Option.getD_none, Option.map_some, Option.map_none, Option.bind_some, Option.bind_none, List.length_cons, List.length_nil, Bool.cond_true, Bool.cond_false, Array.toList_append, List.filterMap_cons, List.filterMap_nil, List.all_nil, List.all_cons, List.any_cons, List.any_nil, List.map_append, List.getElem?_toArray, List.getElem?_cons_zero, List.getElem?_cons_succ, Option.toArray_some, Option.toArray_none, List.contains_cons, List.contains_nil, List.head?_cons, List.drop_zero, List.drop_succ_cons, List.take_succ_cons, List.take_zero, List.set_cons_zero, List.set_cons_succ, List.length_map, List.getElem?_nil, orcP2, c43, c44, zf, plainL, plainCell]
  refine hK _ ?_
  clear hK K
  refine PWp.cond (by rfl) (fun hb29 => ?_) (fun hb29 => ?_)
  ·
   try (cases hb29; done)
   all_goals
    refine PWp.seq_rg [4, 5] orcP2_ok (mv := mv) (by decide) fun K hK => ?_
    simp only [pwr, mv, List.getD_nil, List.drop_nil, List.head?_nil, Int.natCast_zero, Int.reduceLT, Int.reduceSub, Int.reduceNeg, Int.reduceToNat, decide_false, decide_true, gt_iff_lt, Int.lt_irrefl, ne_eq, not_false_eq_true, not_true_eq_false, reduceIte, reduceCtorEq, Nat.reduceEqDiff, Nat.reduceAdd, Nat.reduceMul, Nat.reduceSub, Nat.reduceLT, Nat.reduceLeDiff, Nat.reduceBEq, if_true, if_false, implies_true, Option.isSome_none, Option.isSome_some, List.nil_append, List.cons_append, List.append_nil, List.map_cons, List.map_nil, List.toList_toArray, Option.getD_some, Option.getD_none, Option.map_some, Option.map_none, Option.bind_some, Option.bind_none, List.length_cons, List.length_nil, Bool.cond_true, Bool.cond_false, Array.toList_append, List.filterMap_cons, List.filterMap_nil, List.all_nil, List.all_cons, List.any_cons, List.any_nil, List.map_append, List.getElem?_toArray, List.getElem?_cons_zero, List.getElem?_cons_succ, Option.toArray_some, Option.toArray_none, List.contains_cons, List.contains_nil, List.head?_cons, List.drop_zero, List.drop_succ_cons, List.take_succ_cons, List.take_zero, List.set_cons_zero, List.set_cons_succ, List.length_map, List.getElem?_nil, orcP2, c43, c44, zf, plainL, plainCell]
    refine hK _ ?_
    clear hK K
    refine PWp.ret (hq2r _ (hQ2 _ ?_))
    simp only [pwf, List.drop_zero, List.drop_succ_cons, List.take_succ_cons, List.take_zero, List.getElem?_cons_zero, List.getElem?_cons_succ, List.getElem?_nil, Nat.sub_self, reduceIte, reduceCtorEq, Nat.reduceEqDiff, Nat.reduceAdd, Nat.reduceMul, Nat.reduceSub, Nat.reduceLT, Nat.reduceLeDiff, Nat.reduceBEq, if_true, if_false, implies_true, Option.isSome_none, Option.isSome_some, List.nil_append, List.cons_append, List.append_nil, List.map_cons, List.map_nil, List.toList_toArray, Option.getD_some, Option.getD_none, Option.map_some, Option.map_none, Option.bind_some, Option.bind_none, List.length_cons, List.length_nil, Bool.cond_true, Bool.cond_false, Array.toList_append, List.contains_cons, List.contains_nil, zf, plainL, plainCell, Tryz.results20]
    repeat simp only [pwf, List.drop_zero, List.drop_succ_cons, List.take_succ_cons, List.take_zero, List.getElem?_cons_zero, List.getElem?_cons_succ, List.getElem?_nil, Nat.sub_self, reduceIte, reduceCtorEq, Nat.reduceEqDiff, Nat.reduceAdd, Nat.reduceMul, Nat.reduceSub, Nat.reduceLT, Nat.reduceLeDiff, Nat.reduceBEq, if_true, if_false, implies_true, Option.isSome_none, Option.isSome_some, List.nil_append, List.cons_append, List.append_nil, List.map_cons, List.map_nil, List.toList_toArray, Option.getD_some, Option.getD_none, Option.map_some, Option.map_none, Option.bind_some, Option.bind_none, List.length_cons, List.length_nil, Bool.cond_true, Bool.cond_false, Array.toList_append, List.contains_cons, List.contains_nil, zf, plainL, plainCell]
    have e : itemL w after = ((0, 0), 3) := by
      unfold itemL
      cases hA : numL (leftL w) <;> cases hB : numL (rightL w) <;> simp [hA, hB] at hb29 ⊢
    rw [e]; exact ⟨⟨rfl, rfl⟩, rfl⟩
  ·
   try (cases hb29; done)
   all_goals
    obtain ⟨f, hA⟩ : ∃ f, numL (leftL w) = some f := by
      cases h : numL (leftL w)
      · simp [h] at hb29
      · exact ⟨_, rfl⟩
    obtain ⟨c, hB⟩ : ∃ c, numL (rightL w) = some c := by
      cases h : numL (rightL w)
      · simp [h] at hb29
      · exact ⟨_, rfl⟩
    have hit : itemL w after = if c = 0 ∨ 1099511627776 < f + c then ((0, 0), 2) else if f ≤ after then ((0, 0), 32) else ((f, f + c), 0) := by
      unfold itemL
      rw [hA, hB]
    rw [hA] at hbA
    rw [hB] at hbB
    change 0 ≤ f ∧ f < _ at hbA
    change 0 ≤ c ∧ c < _ at hbB
    rw [hA, hB]
    refine PWp.seq_rg [1, 4, 9, 11, 37] orcP2_ok (mv := mv) (by decide) fun K hK => ?_
    simp only [pwr, mv, List.getD_nil, List.drop_nil, List.head?_nil, Int.natCast_zero, Int.reduceLT, Int.reduceSub, Int.reduceNeg, Int.reduceToNat, decide_false, decide_true, gt_iff_lt, Int.lt_irrefl, ne_eq, not_false_eq_true, not_true_eq_false, reduceIte, reduceCtorEq, Nat.reduceEqDiff, Nat.reduceAdd, Nat.reduceMul, Nat.reduceSub, Nat.reduceLT, Nat.reduceLeDiff, Nat.reduceBEq, if_true, if_false, implies_true, Option.isSome_none, Option.isSome_some, List.nil_append, List.cons_append, List.append_nil, List.map_cons, List.map_nil, List.toList_toArray, Option.getD_some, Option.getD_none, Option.map_some, Option.map_none, Option.bind_some, Option.bind_none, List.length_cons, List.length_nil, Bool.cond_true, Bool.cond_false, Array.toList_append, List.filterMap_cons, List.filterMap_nil, List.all_nil, List.all_cons, List.any_cons, List.any_nil, List.map_append, List.getElem?_toArray, List.getElem?_cons_zero, List.getElem?_cons_succ, Option.toArray_some, Option.toArray_none, List.contains_cons, List.contains_nil, List.head?_cons, List.drop_zero, List.drop_succ_cons, List.take_succ_cons, List.take_zero, List.set_cons_zero, List.set_cons_succ, List.length_map, List.getElem?_nil, orcP2, c43, c44, zf, plainL, plainCell]
    repeat' with_reducible refine And.intro ?_ ?_
    all_goals try (first | omega | (intro _; simp only [inR]; omega) | (simp only [inR]; omega))
    all_goals try (first | omega | rfl | ((with_reducible refine drawGoal ?_); exact rfl) | (simp only [inR]; omega) | (intro y hy; simp only [List.mem_singleton] at hy; subst hy; rfl) | (intro y hy; cases hy; done) | (simp only [List.length_append, List.length_map, List.length_cons, List.length_nil]; omega) | (intro h; simp only [inR]; omega) | (intro h; simp only [List.length_append, List.length_map, List.length_cons, List.length_nil]; omega) | (intro h; exact h.elim))
    refine hK _ ?_
    clear hK K
    refine PWp.cond (by rfl) (fun hb37 => ?_) (fun hb37 => ?_)
    ·
     try (cases hb37; done)
     all_goals
      refine PWp.seq_rg [4, 5] orcP2_ok (mv := mv) (by decide) fun K hK => ?_
      simp only [pwr, mv, List.getD_nil, List.drop_nil, List.head?_nil, Int.natCast_zero, Int.reduceLT, Int.reduceSub, Int.reduceNeg, Int.reduceToNat, decide_false, decide_true, gt_iff_lt, Int.lt_irrefl, ne_eq, not_false_eq_true, not_true_eq_false, reduceIte, reduceCtorEq, Nat.reduceEqDiff, Nat.reduceAdd, Nat.reduceMul, Nat.reduceSub, Nat.reduceLT, Nat.reduceLeDiff, Nat.reduceBEq, if_true, if_false, implies_true, Option.isSome_none, Option.isSome_some, List.nil_append, List.cons_append, List.append_nil, List.map_cons, List.map_nil, List.toList_toArray, Option.getD_some, Option.getD_none, Option.map_some, Option.map_none, Option.bind_some, Option.bind_none, List.length_cons, List.length_nil, Bool.cond_true, Bool.cond_false, Array.toList_append, List.filterMap_cons, List.filterMap_nil, List.all_nil, List.all_cons, List.any_cons, List.any_nil, List.map_append, List.getElem?_toArray, List.getElem?_cons_zero, List.getElem?_cons_succ, Option.toArray_some, Option.toArray_none, List.contains_cons, List.contains_nil, List.head?_cons, List.drop_zero, List.drop_succ_cons, List.take_succ_cons, List.take_zero, List.set_cons_zero, List.set_cons_succ, List.length_map, List.getElem?_nil, orcP2, c43, c44, zf, plainL, plainCell]
      refine hK _ ?_
      clear hK K
      refine PWp.ret (hq2r _ (hQ2 _ ?_))
      simp only [pwf, List.drop_zero, List.drop_succ_cons, List.take_succ_cons, List.take_zero, List.getElem?_cons_zero, List.getElem?_cons_succ, List.getElem?_nil, Nat.sub_self, reduceIte, reduceCtorEq, Nat.reduceEqDiff, Nat.reduceAdd, Nat.reduceMul, Nat.reduceSub, Nat.reduceLT, Nat.reduceLeDiff, Nat.reduceBEq, if_true, if_false, implies_true, Option.isSome_none, Option.isSome_some, List.nil_append, List.cons_append, List.append_nil, List.map_cons, List.map_nil, List.toList_toArray, Option.getD_some, Option.getD_none, Option.map_some, Option.map_none, Option.bind_some, Option.bind_none, List.length_cons, List.length_nil, Bool.cond_true, Bool.cond_false, Array.toList_append, List.contains_cons, List.contains_nil, zf, plainL, plainCell, Tryz.results20]
      repeat simp only [pwf, List.drop_zero, List.drop_succ_cons, List.take_succ_cons, List.take_zero, List.getElem?_cons_zero, List.getElem?_cons_succ, List.getElem?_nil, Nat.sub_self, reduceIte, reduceCtorEq, Nat.reduceEqDiff, Nat.reduceAdd, Nat.reduceMul, Nat.reduceSub, Nat.reduceLT, Nat.reduceLeDiff, Nat.reduceBEq, if_true, if_false, implies_true, Option.isSome_none, Option.isSome_some, List.nil_append, List.cons_append, List.append_nil, List.map_cons, List.map_nil, List.toList_toArray, Option.getD_some, Option.getD_none, Option.map_some, Option.map_none, Option.bind_some, Option.bind_none, List.length_cons, List.length_nil, Bool.cond_true, Bool.cond_false, Array.toList_append, List.contains_cons, List.contains_nil, zf, plainL, plainCell]
      rw [hit, if_pos (by simpa using hb37)]; exact ⟨⟨rfl, rfl⟩, rfl⟩
    ·
     try (cases hb37; done)
     all_goals
      refine PWp.seq_rg [4, 9, 11, 47] orcP2_ok (mv := mv) (by decide) fun K hK => ?_
      simp only [pwr, mv, List.getD_nil, List.drop_nil, List.head?_nil, Int.natCast_zero, Int.reduceLT, Int.reduceSub, Int.reduceNeg, Int.reduceToNat, decide_false, decide_true, gt_iff_lt, Int.lt_irrefl, ne_eq, not_false_eq_true, not_true_eq_false, reduceIte, reduceCtorEq, Nat.reduceEqDiff, Nat.reduceAdd, Nat.reduceMul, Nat.reduceSub, Nat.reduceLT, Nat.reduceLeDiff, Nat.reduceBEq, if_true, if_false, implies_true, Option.isSome_none, Option.isSome_some, List.nil_append, List.cons_append, List.append_nil, List.map_cons, List.map_nil, List.toList_toArray, Option.getD_some, Option.getD_none, Option.map_some, Option.map_none, Option.bind_some, Option.bind_none, List.length_cons, List.length_nil, Bool.cond_true, Bool.cond_false, Array.toList_append, List.filterMap_cons, List.filterMap_nil, List.all_nil, List.all_cons, List.any_cons, List.any_nil, List.map_append, List.getElem?_toArray, List.getElem?_cons_zero, List.getElem?_cons_succ, Option.toArray_some, Option.toArray_none, List.contains_cons, List.contains_nil, List.head?_cons, List.drop_zero, List.drop_succ_cons, List.take_succ_cons, List.take_zero, List.set_cons_zero, List.set_cons_succ, List.length_map, List.getElem?_nil, orcP2, c43, c44, zf, plainL, plainCell]
      refine hK _ ?_
      clear hK K
      refine PWp.cond (by rfl) (fun hb47 => ?_) (fun hb47 => ?_)
      ·
       try (cases hb47; done)
       all_goals
        refine PWp.seq_rg [4, 5] orcP2_ok (mv := mv) (by decide) fun K hK => ?_
        simp only [pwr, mv, List.getD_nil, List.drop_nil, List.head?_nil, Int.natCast_zero, Int.reduceLT, Int.reduceSub, Int.reduceNeg, Int.reduceToNat, decide_false, decide_true, gt_iff_lt, Int.lt_irrefl, ne_eq, not_false_eq_true, not_true_eq_false, reduceIte, reduceCtorEq, Nat.reduceEqDiff, Nat.reduceAdd, Nat.reduceMul, Nat.reduceSub, Nat.reduceLT, Nat.reduceLeDiff, Nat.reduceBEq, if_true, if_false, implies_true, Option.isSome_none, Option.isSome_some, List.nil_append, List.cons_append, List.append_nil, List.map_cons, List.map_nil, List.toList_toArray, Option.getD_some, Option.getD_none, Option.map_some, Option.map_none, Option.bind_some, Option.bind_none, List.length_cons, List.length_nil, Bool.cond_true, Bool.cond_false, Array.toList_append, List.filterMap_cons, List.filterMap_nil, List.all_nil, List.all_cons, List.any_cons, List.any_nil, List.map_append, List.getElem?_toArray, List.getElem?_cons_zero, List.getElem?_cons_succ, Option.toArray_some, Option.toArray_none, List.contains_cons, List.contains_nil, List.head?_cons, List.drop_zero, List.drop_succ_cons, List.take_succ_cons, List.take_zero, List.set_cons_zero, List.set_cons_succ, List.length_map, List.getElem?_nil, orcP2, c43, c44, zf, plainL, plainCell]
        refine hK _ ?_
        clear hK K
        refine PWp.ret (hq2r _ (hQ2 _ ?_))
        simp only [pwf, List.drop_zero, List.drop_succ_cons, List.take_succ_cons, List.take_zero, List.getElem?_cons_zero, List.getElem?_cons_succ, List.getElem?_nil, Nat.sub_self, reduceIte, reduceCtorEq, Nat.reduceEqDiff, Nat.reduceAdd, Nat.reduceMul, Nat.reduceSub, Nat.reduceLT, Nat.reduceLeDiff, Nat.reduceBEq, if_true, if_false, implies_true, Option.isSome_none, Option.isSome_some, List.nil_append, List.cons_append, List.append_nil, List.map_cons, List.map_nil, List.toList_toArray, Option.getD_some, Option.getD_none, Option.map_some, Option.map_none, Option.bind_some, Option.bind_none, List.length_cons, List.length_nil, Bool.cond_true, Bool.cond_false, Array.toList_append, List.contains_cons, List.contains_nil, zf, plainL, plainCell, Tryz.results20]
        repeat simp only [pwf, List.drop_zero, List.drop_succ_cons, List.take_succ_cons, List.take_zero, List.getElem?_cons_zero, List.getElem?_cons_succ, List.getElem?_nil, Nat.sub_self, reduceIte, reduceCtorEq, Nat.reduceEqDiff, Nat.reduceAdd, Nat.reduceMul, Nat.reduceSub, Nat.reduceLT, Nat.reduceLeDiff, Nat.reduceBEq, if_true, if_false, implies_true, Option.isSome_none, Option.isSome_some, List.nil_append, List.cons_append, List.append_nil, List.map_cons, List.map_nil, List.toList_toArray, Option.getD_some, Option.getD_none, Option.map_some, Option.map_none, Option.bind_some, Option.bind_none, List.length_cons, List.length_nil, Bool.cond_true, Bool.cond_false, Array.toList_append, List.contains_cons, List.contains_nil, zf, plainL, plainCell]
        rw [hit, if_neg (by simpa using hb37), if_pos (by simpa using hb47)]; exact ⟨⟨rfl, rfl⟩, rfl⟩
      ·
       try (cases hb47; done)
       all_goals
        refine PWp.skip (hq2n _ (hK1 _ ?_))
        refine PWp.seq_rg [4, 5] orcP2_ok (mv := mv) (by decide) fun K hK => ?_
        simp only [pwr, mv, List.getD_nil, List.drop_nil, List.head?_nil, Int.natCast_zero, Int.reduceLT, Int.reduceSub, Int.reduceNeg, Int.reduceToNat, decide_false, decide_true, gt_iff_lt, Int.lt_irrefl, ne_eq, not_false_eq_true, not_true_eq_false, reduceIte, reduceCtorEq, Nat.reduceEqDiff, Nat.reduceAdd, Nat.reduceMul, Nat.reduceSub, Nat.reduceLT, Nat.reduceLeDiff, Nat.reduceBEq, if_true, if_false, implies_true, Option.isSome_none, Option.isSome_some, List.nil_append, List.cons_append, List.append_nil, List.map_cons, List.map_nil, List.toList_toArray, Option.getD_some, Option.getD_none, Option.map_some, Option.map_none, Option.bind_some, Option.bind_none, List.length_cons, List.length_nil, Bool.cond_true, Bool.cond_false, Array.toList_append, List.filterMap_cons, List.filterMap_nil, List.all_nil, List.all_cons, List.any_cons, List.any_nil, List.map_append, List.getElem?_toArray, List.getElem?_cons_zero, List.getElem?_cons_succ, Option.toArray_some, Option.toArray_none, List.contains_cons, List.contains_nil, List.head?_cons, List.drop_zero, List.drop_succ_cons, List.take_succ_cons, List.take_zero, List.set_cons_zero, List.set_cons_succ, List.length_map, List.getElem?_nil, orcP2, c43, c44, zf, plainL, plainCell]
        repeat' with_reducible refine And.intro ?_ ?_
        all_goals try (first | omega | (simp only [inR]; omega))
        all_goals try (first | omega | rfl | ((with_reducible refine drawGoal ?_); exact rfl) | (simp only [inR]; omega) | (intro y hy; simp only [List.mem_singleton] at hy; subst hy; rfl) | (intro y hy; cases hy; done) | (simp only [List.length_append, List.length_map, List.length_cons, List.length_nil]; omega) | (intro h; simp only [inR]; omega) | (intro h; simp only [List.length_append, List.length_map, List.length_cons, List.length_nil]; omega) | (intro h; exact h.elim))
        refine hK _ ?_
        clear hK K
        refine PWp.ret (hQ2 _ ?_)
        simp only [pwf, List.drop_zero, List.drop_succ_cons, List.take_succ_cons, List.take_zero, List.getElem?_cons_zero, List.getElem?_cons_succ, List.getElem?_nil, Nat.sub_self, reduceIte, reduceCtorEq, Nat.reduceEqDiff, Nat.reduceAdd, Nat.reduceMul, Nat.reduceSub, Nat.reduceLT, Nat.reduceLeDiff, Nat.reduceBEq, if_true, if_false, implies_true, Option.isSome_none, Option.isSome_some, List.nil_append, List.cons_append, List.append_nil, List.map_cons, List.map_nil, List.toList_toArray, Option.getD_some, Option.getD_none, Option.map_some, Option.map_none, Option.bind_some, Option.bind_none, List.length_cons, List.length_nil, Bool.cond_true, Bool.cond_false, Array.toList_append, List.contains_cons, List.contains_nil, zf, plainL, plainCell, Tryz.results20]
        repeat simp only [pwf, List.drop_zero, List.drop_succ_cons, List.take_succ_cons, List.take_zero, List.getElem?_cons_zero, List.getElem?_cons_succ, List.getElem?_nil, Nat.sub_self, reduceIte, reduceCtorEq, Nat.reduceEqDiff, Nat.reduceAdd, Nat.reduceMul, Nat.reduceSub, Nat.reduceLT, Nat.reduceLeDiff, Nat.reduceBEq, if_true, if_false, implies_true, Option.isSome_none, Option.isSome_some, List.nil_append, List.cons_append, List.append_nil, List.map_cons, List.map_nil, List.toList_toArray, Option.getD_some, Option.getD_none, Option.map_some, Option.map_none, Option.bind_some, Option.bind_none, List.length_cons, List.length_nil, Bool.cond_true, Bool.cond_false, Array.toList_append, List.contains_cons, List.contains_nil, zf, plainL, plainCell]
        rw [hit, if_neg (by simpa using hb37), if_neg (by simpa using hb47)]; exact ⟨⟨rfl, rfl⟩, rfl⟩
end Go.Pw.G7
