/- The lexer: Scan. -/
import Derived.Test.YtgnedmmecmpnpaaGreatDoorPuSN
set_option linter.unusedSimpArgs false
set_option linter.unusedVariables false
set_option linter.unusedSectionVars false
set_option maxHeartbeats 4000000
set_option maxRecDepth 20000
namespace Go.Pw.L21
open Go.Proofs Go.Pw
def tokRow (s : Bs) (p : Tok × Nat) : List PV := [.int .i64 p.1.kind, .str p.1.text, .int .i64 p.1.value, .str p.1.bytes, .int .i64 (place s (s.length - p.2)).1, .int .i64 (place s (s.length - p.2)).2]
def endRow (s : Bs) : List PV := [.int .i64 0, .str [], .int .i64 0, .str [], .int .i64 (place s s.length).1, .int .i64 (place s s.length).2]
abbrev tokRows (s : Bs) (l : List (Tok × Nat)) : List (List PV) := l.map (tokRow s)
def rowsOf (s : Bs) : Scan → List (List PV)
  | .ok l => tokRows s l ++ [endRow s]
  | .fail _ _ => []
def lineOf (s : Bs) : Scan → Int
  | .ok _ => 0
  | .fail k _ => (place s (s.length - k)).1
def colOf (s : Bs) : Scan → Int
  | .ok _ => 0
  | .fail k _ => (place s (s.length - k)).2
def errOf : Scan → Int
  | .ok _ => 0
  | .fail _ e => e
abbrev scanA (s : Bs) (v : Scan) : AV := .tup [.pv (.sl (rowsOf s v)), .pv (.int .i64 (lineOf s v)), .pv (.int .i64 (colOf s v)), .pv (.int .i64 (errOf v))]
theorem tokRow_len (s : Bs) : ∀ l : List (Tok × Nat), ∀ y ∈ tokRows s l, y.length = 6 := by
  intro l y hy
  obtain ⟨p, _, rfl⟩ := List.mem_map.1 hy
  rfl
theorem suffix_len {s r : Bs} (h : ∃ a, s = a ++ r) : r.length ≤ s.length ∧ s.drop (s.length - r.length) = r := by
  obtain ⟨a, rfl⟩ := h
  refine ⟨by rw [List.length_append]; omega, ?_⟩
  rw [show (a ++ r).length - r.length = a.length by rw [List.length_append]; omega, List.drop_left]
theorem suffix_drop {s r : Bs} (n : Nat) (h : ∃ a, s = a ++ r) : ∃ a, s = a ++ r.drop n := by
  obtain ⟨a, rfl⟩ := h
  exact ⟨a ++ r.take n, by rw [List.append_assoc, List.take_append_drop]⟩
theorem suffix_skip {s r : Bs} (h : ∃ a, s = a ++ r) : ∃ a, s = a ++ skipS false r := by
  obtain ⟨a, rfl⟩ := h
  obtain ⟨p, hp⟩ := skip_suffix false r
  exact ⟨a ++ p, by rw [List.append_assoc, ← hp]⟩
theorem place_step {s r : Bs} (h : ∃ a, s = a ++ r) {n : Nat} (hn : n ≤ r.length) : adv (place s (s.length - r.length)) (r.take n) = place s (s.length - (r.drop n).length) := by
  obtain ⟨h1, h2⟩ := suffix_len h
  have e : s.length - (r.drop n).length = s.length - r.length + n := by rw [List.length_drop]; omega
  rw [e, place_add, h2]
theorem place_skip {s r : Bs} (h : ∃ a, s = a ++ r) : adv (place s (s.length - r.length)) (r.take (r.length - (skipS false r).length)) = place s (s.length - (skipS false r).length) := by
  rw [place_step h (by omega)]
  obtain ⟨p, hp⟩ := skip_suffix false r
  have : (r.drop (r.length - (skipS false r).length)).length = (skipS false r).length := by
    have := skip_len false r
    rw [List.length_drop]; omega
  rw [this]
theorem place_bd (s : Bs) (n : Nat) : 1 ≤ (place s n).1 ∧ (place s n).1 ≤ s.length + 1 ∧ 1 ≤ (place s n).2 ∧ (place s n).2 ≤ s.length + 1 := by
  have h := adv_bd (s := s.take n) (p := (1, 1)) (Int.le_refl _) (Int.le_refl _)
  have hl : (s.take n).length ≤ s.length := by rw [List.length_take]; omega
  rw [place_adv]
  simp only at h
  omega
def c67 : St → Option (Prop × St)
  | [(.S 0, .av (.ptr 0 0 0)), (.B 0, .bx 0 [.pv (.str r), .pv (.int .i64 l), .pv (.int .i64 c)])] =>
    some (r.length ≤ 20000 ∧ (1 ≤ l ∧ l ≤ 100000) ∧ 1 ≤ c ∧ c ≤ 100000, [(.B 0, .bx 0 (scB (skipS false r) (adv (l, c) (r.take (r.length - (skipS false r).length)))))])
  | _ => none
theorem p67 {In Ret : St} {pre : Prop} (h : c67 In = some (pre, Ret)) (hp : pre) : PCalls Tryz.prog 67 In Ret := by
  unfold c67 at h
  split at h
  · cases h
    exact t23 _ _ _ hp.1 hp.2.1 hp.2.2
  · cases h
def c68 : St → Option (Prop × St)
  | [(.S 0, .av (.ptr 0 0 0)), (.B 0, .bx 0 [.pv (.str r), .pv (.int .i64 l), .pv (.int .i64 c)])] =>
    some (r ≠ [] ∧ r.length ≤ 20000, [(.S 0, .av (tokA (lexOne r) l c)), (.B 0, .bx 0 (scB r (l, c)))])
  | _ => none
theorem p68 {In Ret : St} {pre : Prop} (h : c68 In = some (pre, Ret)) (hp : pre) : PCalls Tryz.prog 68 In Ret := by
  unfold c68 at h
  split at h
  · cases h
    exact t24 _ _ _ hp.1 hp.2
  · cases h
theorem scan_step {f : Nat} {r0 : Bs} {acc : List (Tok × Nat)} (hf : r0.length < f) : ∃ g, f = g + 1 ∧ scanF f r0 acc = (if skipS false r0 = [] then .ok acc
    else if acc.length = 4096 then .fail (skipS false r0).length 9
    else if (lexOne (skipS false r0)).2.2 ≠ 0 then .fail ((skipS false r0).length - (lexOne (skipS false r0)).2.1) (lexOne (skipS false r0)).2.2
    else scanF g ((skipS false r0).drop (lexOne (skipS false r0)).1.text.length) (acc ++ [((lexOne (skipS false r0)).1, (skipS false r0).length)])) := by
  obtain ⟨g, rfl⟩ : ∃ g, f = g + 1 := ⟨f - 1, by omega⟩
  exact ⟨g, rfl, rfl⟩
theorem peta (p : Int × Int) : (p.1, p.2) = p := rfl
def orcW1 : Orc := fun f In => if f = 67 then c67 In else if f = 68 then c68 In else if f = 69 then c69 In else none
theorem orcW1_ok : OrcOk Tryz.prog orcW1 := by
  intro f In pre Ret h hp
  unfold orcW1 at h
  split at h
  · subst f; exact p67 h hp
  split at h
  · subst f; exact p68 h hp
  split at h
  · subst f; exact p69 h hp
  cases h
theorem t10 (s : Bs) (hs : s.length ≤ 20000) : PCalls Tryz.prog 29 [(.S 0, .av (.pv (.str s)))] [(.S 0, .av (scanA s (scan s)))] := by
  refine PCalls.of_k Tryz.func29 (by decide) rfl fun Q hQ1 hQ2 => ?_
  refine PWp.seq_rg [0, 2] orcW1_ok (mv := mv) (by decide) fun K hK => ?_
  simp only [pwr, pr1, mv, Int.reduceLT, Int.reduceSub, Int.reduceNeg, Int.reduceToNat, ne_eq, reduceIte, reduceCtorEq, Nat.reduceEqDiff, Nat.reduceAdd, Nat.reduceMul, Nat.reduceSub, Nat.reduceLT, Nat.reduceLeDiff, Nat.reduceBEq, if_true, if_false, implies_true, Bool.cond_true, Bool.cond_false, orcW1, c67, c68, c69, zf, Int.toNat_natCast, peta]
  repeat' with_reducible refine And.intro ?_ ?_
  all_goals try (first | omega | rfl | ((with_reducible refine drawGoal ?_); exact rfl) | (simp only [inR]; omega) | (intro y hy; simp only [List.mem_singleton] at hy; subst hy; rfl) | (intro y hy; cases hy; done) | (simp only [List.length_append, List.length_map, List.length_cons, List.length_nil]; omega) | (intro h; simp only [inR]; omega) | (intro h; simp only [List.length_append, List.length_map, List.length_cons, List.length_nil]; omega) | (intro h; exact h.elim))
  refine hK _ ?_
  clear hK K
  refine PWp.seq_k fun K1 hK1 => ?_
  refine PWp.seq_rg [0, 2, 11] orcW1_ok (mv := mv) (by decide) fun K hK => ?_
  simp only [pwr, pr1, mv, Int.reduceLT, Int.reduceSub, Int.reduceNeg, Int.reduceToNat, ne_eq, reduceIte, reduceCtorEq, Nat.reduceEqDiff, Nat.reduceAdd, Nat.reduceMul, Nat.reduceSub, Nat.reduceLT, Nat.reduceLeDiff, Nat.reduceBEq, if_true, if_false, implies_true, Bool.cond_true, Bool.cond_false, orcW1, c67, c68, c69, zf, Int.toNat_natCast, peta]
  repeat' with_reducible refine And.intro ?_ ?_
  all_goals try (first | omega | rfl | ((with_reducible refine drawGoal ?_); exact rfl) | (simp only [inR]; omega) | (intro y hy; simp only [List.mem_singleton] at hy; subst hy; rfl) | (intro y hy; cases hy; done) | (simp only [List.length_append, List.length_map, List.length_cons, List.length_nil]; omega) | (intro h; simp only [inR]; omega) | (intro h; simp only [List.length_append, List.length_map, List.length_cons, List.length_nil]; omega) | (intro h; exact h.elim))
  refine hK _ ?_
  clear hK K
  refine PWp.cond (by rfl) (fun hb11 => ?_) (fun hb11 => ?_)
  ·
   try (cases hb11; done)
   all_goals
    refine PWp.seq_rg [2, 3, 4, 5] orcW1_ok (mv := mv) (by decide) fun K hK => ?_
    simp only [pwr, pr1, mv, Int.reduceLT, Int.reduceSub, Int.reduceNeg, Int.reduceToNat, ne_eq, reduceIte, reduceCtorEq, Nat.reduceEqDiff, Nat.reduceAdd, Nat.reduceMul, Nat.reduceSub, Nat.reduceLT, Nat.reduceLeDiff, Nat.reduceBEq, if_true, if_false, implies_true, Bool.cond_true, Bool.cond_false, orcW1, c67, c68, c69, zf, Int.toNat_natCast, peta]
    repeat' with_reducible refine And.intro ?_ ?_
    all_goals try (first | omega | rfl | ((with_reducible refine drawGoal ?_); exact rfl) | (simp only [inR]; omega) | (intro y hy; simp only [List.mem_singleton] at hy; subst hy; rfl) | (intro y hy; cases hy; done) | (simp only [List.length_append, List.length_map, List.length_cons, List.length_nil]; omega) | (intro h; simp only [inR]; omega) | (intro h; simp only [List.length_append, List.length_map, List.length_cons, List.length_nil]; omega) | (intro h; exact h.elim))
    refine hK _ ?_
    clear hK K
    refine PWp.ret (hQ2 _ ?_)
    simp only [pwf, pf1, reduceIte, reduceCtorEq, Nat.reduceEqDiff, Nat.reduceAdd, Nat.reduceMul, Nat.reduceSub, Nat.reduceLT, Nat.reduceLeDiff, Nat.reduceBEq, if_true, if_false, implies_true, Bool.cond_true, Bool.cond_false, zf, Int.toNat_natCast, peta, Tryz.results29]
    repeat simp only [pwf, pf1, reduceIte, reduceCtorEq, Nat.reduceEqDiff, Nat.reduceAdd, Nat.reduceMul, Nat.reduceSub, Nat.reduceLT, Nat.reduceLeDiff, Nat.reduceBEq, if_true, if_false, implies_true, Bool.cond_true, Bool.cond_false, zf, Int.toNat_natCast, peta]
    have h : 16384 < s.length := by have := of_decide_eq_true hb11; omega
    have e : scan s = .fail s.length 5 := by unfold scan; rw [if_pos h]
    have e0 : place s 0 = (1, 1) := rfl
    rw [e]; simp [rowsOf, lineOf, colOf, errOf, e0]
  ·
   try (cases hb11; done)
   all_goals
    refine PWp.skip (hK1 _ ?_)
    have hsc : scan s = scanF (s.length + 1) s [] := by unfold scan; rw [if_neg]; have := of_decide_eq_false hb11; omega
    refine PWp.seq_rg [2, 6] orcW1_ok (mv := mv) (by decide) fun K hK => ?_
    simp only [pwr, pr1, mv, Int.reduceLT, Int.reduceSub, Int.reduceNeg, Int.reduceToNat, ne_eq, reduceIte, reduceCtorEq, Nat.reduceEqDiff, Nat.reduceAdd, Nat.reduceMul, Nat.reduceSub, Nat.reduceLT, Nat.reduceLeDiff, Nat.reduceBEq, if_true, if_false, implies_true, Bool.cond_true, Bool.cond_false, orcW1, c67, c68, c69, zf, Int.toNat_natCast, peta]
    repeat' with_reducible refine And.intro ?_ ?_
    all_goals try (first | omega | rfl | ((with_reducible refine drawGoal ?_); exact rfl) | (simp only [inR]; omega) | (intro y hy; simp only [List.mem_singleton] at hy; subst hy; rfl) | (intro y hy; cases hy; done) | (simp only [List.length_append, List.length_map, List.length_cons, List.length_nil]; omega) | (intro h; simp only [inR]; omega) | (intro h; simp only [List.length_append, List.length_map, List.length_cons, List.length_nil]; omega) | (intro h; exact h.elim))
    refine hK _ ?_
    clear hK K
    refine PWp.seq_k fun K2 hK2 => ?_
    refine PWp.seq_rg [2, 6] orcW1_ok (mv := mv) (by decide) fun K hK => ?_
    simp only [pwr, pr1, mv, Int.reduceLT, Int.reduceSub, Int.reduceNeg, Int.reduceToNat, ne_eq, reduceIte, reduceCtorEq, Nat.reduceEqDiff, Nat.reduceAdd, Nat.reduceMul, Nat.reduceSub, Nat.reduceLT, Nat.reduceLeDiff, Nat.reduceBEq, if_true, if_false, implies_true, Bool.cond_true, Bool.cond_false, orcW1, c67, c68, c69, zf, Int.toNat_natCast, peta]
    repeat' with_reducible refine And.intro ?_ ?_
    all_goals try (first | omega | (refine ⟨?_, ?_, ?_⟩ <;> omega))
    all_goals try (first | omega | rfl | ((with_reducible refine drawGoal ?_); exact rfl) | (simp only [inR]; omega) | (intro y hy; simp only [List.mem_singleton] at hy; subst hy; rfl) | (intro y hy; cases hy; done) | (simp only [List.length_append, List.length_map, List.length_cons, List.length_nil]; omega) | (intro h; simp only [inR]; omega) | (intro h; simp only [List.length_append, List.length_map, List.length_cons, List.length_nil]; omega) | (intro h; exact h.elim))
    refine hK _ ?_
    clear hK K
    refine PWp.block_k fun Qq3 hq3n hq3x hq3r hq3e => ?_
    refine PWp.loop_k (fun x : Bs × List (Tok × Nat) => [(.S 2, .av (.rf (.RS 2 0) 0)), (.S 6, .av (.ptr 1014 0 0)), (.B 1014, .bx 0 (scB (skipS false x.1) (place s (s.length - (skipS false x.1).length)))), (.RS 2 0, .rw 0 true 77 (tokRows s x.2))]) (fun x => (∃ a, s = a ++ x.1) ∧ x.2.length ≤ 4096 ∧ ∃ f, x.1.length < f ∧ scan s = scanF f x.1 x.2) (fun x => x.1.length) ((s, [])) (⟨⟨[], rfl⟩, Nat.zero_le _, s.length + 1, Nat.lt_succ_self _, hsc⟩) ?_ ?_
    · repeat simp only [pwf, pf1, reduceIte, reduceCtorEq, Nat.reduceEqDiff, Nat.reduceAdd, Nat.reduceMul, Nat.reduceSub, Nat.reduceLT, Nat.reduceLeDiff, Nat.reduceBEq, if_true, if_false, implies_true, Bool.cond_true, Bool.cond_false, zf, Int.toNat_natCast, peta]
      exact ⟨⟨_, _, rfl⟩, rfl, rfl⟩
    rintro ⟨r0, acc⟩ ⟨hsuf, hacc, f, hf, hsf⟩ J1 hJ1
    change ∃ a, s = a ++ r0 at hsuf
    change acc.length ≤ 4096 at hacc
    change r0.length < f at hf
    change scan s = scanF f r0 acc at hsf
    obtain ⟨g, hg, hst⟩ := scan_step (acc := acc) hf
    have hsr := suffix_skip hsuf
    have hskl := skip_len false r0
    obtain ⟨r, hr⟩ : ∃ r, skipS false r0 = r := ⟨_, rfl⟩
    rw [hr] at hst hsr hskl
    have hrl := (suffix_len hsr).1
    have hpb := place_bd s (s.length - r.length)
    have hla := lex_at r
    obtain ⟨a, ha⟩ : ∃ a, lexOne r = a := ⟨_, rfl⟩
    rw [ha] at hst hla
    obtain ⟨p1, p2, hp⟩ : ∃ p1 p2, place s (s.length - r.length) = (p1, p2) := ⟨_, _, rfl⟩
    rw [hp] at hpb
    refine PWp.seq_k fun K4 hK4 => ?_
    refine PWp.seq_rg [2, 6, 21] orcW1_ok (mv := mv) (by decide) fun K hK => ?_
    simp only [pwr, pr1, mv, Int.reduceLT, Int.reduceSub, Int.reduceNeg, Int.reduceToNat, ne_eq, reduceIte, reduceCtorEq, Nat.reduceEqDiff, Nat.reduceAdd, Nat.reduceMul, Nat.reduceSub, Nat.reduceLT, Nat.reduceLeDiff, Nat.reduceBEq, if_true, if_false, implies_true, Bool.cond_true, Bool.cond_false, orcW1, c67, c68, c69, zf, Int.toNat_natCast, peta, hr, hp]
    repeat' with_reducible refine And.intro ?_ ?_
    all_goals try (first | omega | rfl | ((with_reducible refine drawGoal ?_); exact rfl) | (simp only [inR]; omega) | (intro y hy; simp only [List.mem_singleton] at hy; subst hy; rfl) | (intro y hy; cases hy; done) | (simp only [List.length_append, List.length_map, List.length_cons, List.length_nil]; omega) | (intro h; simp only [inR]; omega) | (intro h; simp only [List.length_append, List.length_map, List.length_cons, List.length_nil]; omega) | (intro h; exact h.elim))
    refine hK _ ?_
    clear hK K
    refine PWp.cond (by rfl) (fun hb21 => ?_) (fun hb21 => ?_)
    ·
     try (cases hb21; done)
     all_goals
      refine PWp.skip (hK4 _ ?_)
      refine PWp.seq_k fun K5 hK5 => ?_
      refine PWp.block_k fun Qq6 hq6n hq6x hq6r hq6e => ?_
      refine PWp.seq_k fun K7 hK7 => ?_
      have hr0 : r ≠ [] := by simpa using hb21
      rw [if_neg hr0] at hst
      refine PWp.seq_rg [2, 6, 26] orcW1_ok (mv := mv) (by decide) fun K hK => ?_
      simp only [pwr, pr1, mv, Int.reduceLT, Int.reduceSub, Int.reduceNeg, Int.reduceToNat, ne_eq, reduceIte, reduceCtorEq, Nat.reduceEqDiff, Nat.reduceAdd, Nat.reduceMul, Nat.reduceSub, Nat.reduceLT, Nat.reduceLeDiff, Nat.reduceBEq, if_true, if_false, implies_true, Bool.cond_true, Bool.cond_false, orcW1, c67, c68, c69, zf, Int.toNat_natCast, peta, List.length_map]
      repeat' with_reducible refine And.intro ?_ ?_
      all_goals try (omega)
      all_goals try (first | omega | rfl | ((with_reducible refine drawGoal ?_); exact rfl) | (simp only [inR]; omega) | (intro y hy; simp only [List.mem_singleton] at hy; subst hy; rfl) | (intro y hy; cases hy; done) | (simp only [List.length_append, List.length_map, List.length_cons, List.length_nil]; omega) | (intro h; simp only [inR]; omega) | (intro h; simp only [List.length_append, List.length_map, List.length_cons, List.length_nil]; omega) | (intro h; exact h.elim))
      refine hK _ ?_
      clear hK K
      refine PWp.cond (by rfl) (fun hb26 => ?_) (fun hb26 => ?_)
      ·
       try (cases hb26; done)
       all_goals
        refine PWp.seq_dr [2, 3, 4, 5] mixed orcW1_ok (mv := mv) (by decide) fun K hK => ?_
        simp only [pwr, pr1, mv, Int.reduceLT, Int.reduceSub, Int.reduceNeg, Int.reduceToNat, ne_eq, reduceIte, reduceCtorEq, Nat.reduceEqDiff, Nat.reduceAdd, Nat.reduceMul, Nat.reduceSub, Nat.reduceLT, Nat.reduceLeDiff, Nat.reduceBEq, if_true, if_false, implies_true, Bool.cond_true, Bool.cond_false, orcW1, c67, c68, c69, zf, Int.toNat_natCast, peta]
        repeat' with_reducible refine And.intro ?_ ?_
        all_goals try (first | omega | rfl | ((with_reducible refine drawGoal ?_); exact rfl) | (simp only [inR]; omega) | (intro y hy; simp only [List.mem_singleton] at hy; subst hy; rfl) | (intro y hy; cases hy; done) | (simp only [List.length_append, List.length_map, List.length_cons, List.length_nil]; omega) | (intro h; simp only [inR]; omega) | (intro h; simp only [List.length_append, List.length_map, List.length_cons, List.length_nil]; omega) | (intro h; exact h.elim))
        refine hK _ ?_
        clear hK K
        refine PWp.ret (hq6r _ (hq3r _ (hQ2 _ ?_)))
        simp only [pwf, pf1, reduceIte, reduceCtorEq, Nat.reduceEqDiff, Nat.reduceAdd, Nat.reduceMul, Nat.reduceSub, Nat.reduceLT, Nat.reduceLeDiff, Nat.reduceBEq, if_true, if_false, implies_true, Bool.cond_true, Bool.cond_false, zf, Int.toNat_natCast, peta, Tryz.results29]
        repeat simp only [pwf, pf1, reduceIte, reduceCtorEq, Nat.reduceEqDiff, Nat.reduceAdd, Nat.reduceMul, Nat.reduceSub, Nat.reduceLT, Nat.reduceLeDiff, Nat.reduceBEq, if_true, if_false, implies_true, Bool.cond_true, Bool.cond_false, zf, Int.toNat_natCast, peta]
        have h : acc.length = 4096 := by simp only [beq_iff_eq] at hb26; omega
        rw [if_pos h] at hst
        rw [hsf, hst]; simp [rowsOf, lineOf, colOf, errOf, hp]
      ·
       try (cases hb26; done)
       all_goals
        refine PWp.skip (hK7 _ ?_)
        have h : ¬ acc.length = 4096 := by simp only [beq_eq_false_iff_ne, ne_eq] at hb26; omega
        rw [if_neg h] at hst
        refine PWp.seq_rg [2, 6, 7, 8] orcW1_ok (mv := mv) (by decide) fun K hK => ?_
        simp only [pwr, pr1, mv, Int.reduceLT, Int.reduceSub, Int.reduceNeg, Int.reduceToNat, ne_eq, reduceIte, reduceCtorEq, Nat.reduceEqDiff, Nat.reduceAdd, Nat.reduceMul, Nat.reduceSub, Nat.reduceLT, Nat.reduceLeDiff, Nat.reduceBEq, if_true, if_false, implies_true, Bool.cond_true, Bool.cond_false, orcW1, c67, c68, c69, zf, Int.toNat_natCast, peta, ha]
        repeat' with_reducible refine And.intro ?_ ?_
        all_goals try (first | exact ⟨hr0, by omega⟩ | omega)
        all_goals try (first | omega | rfl | ((with_reducible refine drawGoal ?_); exact rfl) | (simp only [inR]; omega) | (intro y hy; simp only [List.mem_singleton] at hy; subst hy; rfl) | (intro y hy; cases hy; done) | (simp only [List.length_append, List.length_map, List.length_cons, List.length_nil]; omega) | (intro h; simp only [inR]; omega) | (intro h; simp only [List.length_append, List.length_map, List.length_cons, List.length_nil]; omega) | (intro h; exact h.elim))
        refine hK _ ?_
        clear hK K
        refine PWp.seq_k fun K8 hK8 => ?_
        refine PWp.seq_rg [2, 6, 7, 8, 42] orcW1_ok (mv := mv) (by decide) fun K hK => ?_
        simp only [pwr, pr1, mv, Int.reduceLT, Int.reduceSub, Int.reduceNeg, Int.reduceToNat, ne_eq, reduceIte, reduceCtorEq, Nat.reduceEqDiff, Nat.reduceAdd, Nat.reduceMul, Nat.reduceSub, Nat.reduceLT, Nat.reduceLeDiff, Nat.reduceBEq, if_true, if_false, implies_true, Bool.cond_true, Bool.cond_false, orcW1, c67, c68, c69, zf, Int.toNat_natCast, peta]
        repeat' with_reducible refine And.intro ?_ ?_
        all_goals try (first | omega | rfl | ((with_reducible refine drawGoal ?_); exact rfl) | (simp only [inR]; omega) | (intro y hy; simp only [List.mem_singleton] at hy; subst hy; rfl) | (intro y hy; cases hy; done) | (simp only [List.length_append, List.length_map, List.length_cons, List.length_nil]; omega) | (intro h; simp only [inR]; omega) | (intro h; simp only [List.length_append, List.length_map, List.length_cons, List.length_nil]; omega) | (intro h; exact h.elim))
        refine hK _ ?_
        clear hK K
        refine PWp.cond (by rfl) (fun hb42 => ?_) (fun hb42 => ?_)
        ·
         try (cases hb42; done)
         all_goals
          have h2 : a.2.2 ≠ 0 := by simpa using hb42
          rw [if_pos h2] at hst
          have hps := place_step hsr hla
          rw [hp, List.length_drop] at hps
          refine PWp.seq_rg [6, 8] orcW1_ok (mv := mv) (by decide) fun K hK => ?_
          simp only [pwr, pr1, mv, Int.reduceLT, Int.reduceSub, Int.reduceNeg, Int.reduceToNat, ne_eq, reduceIte, reduceCtorEq, Nat.reduceEqDiff, Nat.reduceAdd, Nat.reduceMul, Nat.reduceSub, Nat.reduceLT, Nat.reduceLeDiff, Nat.reduceBEq, if_true, if_false, implies_true, Bool.cond_true, Bool.cond_false, orcW1, c67, c68, c69, zf, Int.toNat_natCast, peta, hps]
          repeat' with_reducible refine And.intro ?_ ?_
          all_goals try (first | omega | (refine ⟨?_, ?_, ?_, ?_, ?_, ?_⟩ <;> omega))
          all_goals try (first | omega | rfl | ((with_reducible refine drawGoal ?_); exact rfl) | (simp only [inR]; omega) | (intro y hy; simp only [List.mem_singleton] at hy; subst hy; rfl) | (intro y hy; cases hy; done) | (simp only [List.length_append, List.length_map, List.length_cons, List.length_nil]; omega) | (intro h; simp only [inR]; omega) | (intro h; simp only [List.length_append, List.length_map, List.length_cons, List.length_nil]; omega) | (intro h; exact h.elim))
          refine hK _ ?_
          clear hK K
          refine PWp.seq_dr [2, 3, 4, 5] mixed orcW1_ok (mv := mv) (by decide) fun K hK => ?_
          simp only [pwr, pr1, mv, Int.reduceLT, Int.reduceSub, Int.reduceNeg, Int.reduceToNat, ne_eq, reduceIte, reduceCtorEq, Nat.reduceEqDiff, Nat.reduceAdd, Nat.reduceMul, Nat.reduceSub, Nat.reduceLT, Nat.reduceLeDiff, Nat.reduceBEq, if_true, if_false, implies_true, Bool.cond_true, Bool.cond_false, orcW1, c67, c68, c69, zf, Int.toNat_natCast, peta]
          repeat' with_reducible refine And.intro ?_ ?_
          all_goals try (first | omega | rfl | ((with_reducible refine drawGoal ?_); exact rfl) | (simp only [inR]; omega) | (intro y hy; simp only [List.mem_singleton] at hy; subst hy; rfl) | (intro y hy; cases hy; done) | (simp only [List.length_append, List.length_map, List.length_cons, List.length_nil]; omega) | (intro h; simp only [inR]; omega) | (intro h; simp only [List.length_append, List.length_map, List.length_cons, List.length_nil]; omega) | (intro h; exact h.elim))
          refine hK _ ?_
          clear hK K
          refine PWp.ret (hq6r _ (hq3r _ (hQ2 _ ?_)))
          simp only [pwf, pf1, reduceIte, reduceCtorEq, Nat.reduceEqDiff, Nat.reduceAdd, Nat.reduceMul, Nat.reduceSub, Nat.reduceLT, Nat.reduceLeDiff, Nat.reduceBEq, if_true, if_false, implies_true, Bool.cond_true, Bool.cond_false, zf, Int.toNat_natCast, peta, Tryz.results29]
          repeat simp only [pwf, pf1, reduceIte, reduceCtorEq, Nat.reduceEqDiff, Nat.reduceAdd, Nat.reduceMul, Nat.reduceSub, Nat.reduceLT, Nat.reduceLeDiff, Nat.reduceBEq, if_true, if_false, implies_true, Bool.cond_true, Bool.cond_false, zf, Int.toNat_natCast, peta]
          have e : s.length - (r.length - a.2.1) = s.length - (r.length - a.2.1) := rfl
          rw [hsf, hst]; simp [rowsOf, lineOf, colOf, errOf]
        ·
         try (cases hb42; done)
         all_goals
          refine PWp.skip (hK8 _ ?_)
          have h2 : a.2.2 = 0 := by simpa using hb42
          rw [if_neg (by simp [h2])] at hst
          obtain ⟨hne, ⟨tl, htl⟩, _⟩ := lex_local hr0 (show lexOne r = (a.1, a.2.1, 0) by rw [ha, ← h2])
          have hpos := List.length_pos_iff.2 hne
          have htr : a.1.text.length ≤ r.length := by rw [htl, List.length_append]; omega
          have hps := place_step hsr htr
          have hsd := suffix_drop a.1.text.length hsr
          have hpk := place_skip hsd
          have hdl : (r.drop a.1.text.length).length ≤ 20000 := by rw [List.length_drop]; omega
          have hpb2 := place_bd s (s.length - (r.drop a.1.text.length).length)
          rw [hp] at hps
          refine PWp.seq_rg [2, 6, 7] orcW1_ok (mv := mv) (by decide) fun K hK => ?_
          simp only [pwr, pr1, mv, Int.reduceLT, Int.reduceSub, Int.reduceNeg, Int.reduceToNat, ne_eq, reduceIte, reduceCtorEq, Nat.reduceEqDiff, Nat.reduceAdd, Nat.reduceMul, Nat.reduceSub, Nat.reduceLT, Nat.reduceLeDiff, Nat.reduceBEq, if_true, if_false, implies_true, Bool.cond_true, Bool.cond_false, orcW1, c67, c68, c69, zf, Int.toNat_natCast, peta]
          repeat' with_reducible refine And.intro ?_ ?_
          all_goals try (first | exact tokRow_len s acc | (simp only [List.length_map]; omega) | (intro y hy; rcases List.mem_append.1 hy with h | h <;> first | exact tokRow_len s acc y h | (simp only [List.mem_singleton] at h; subst h; rfl)))
          all_goals try (first | omega | rfl | ((with_reducible refine drawGoal ?_); exact rfl) | (simp only [inR]; omega) | (intro y hy; simp only [List.mem_singleton] at hy; subst hy; rfl) | (intro y hy; cases hy; done) | (simp only [List.length_append, List.length_map, List.length_cons, List.length_nil]; omega) | (intro h; simp only [inR]; omega) | (intro h; simp only [List.length_append, List.length_map, List.length_cons, List.length_nil]; omega) | (intro h; exact h.elim))
          refine hK _ ?_
          clear hK K
          refine PWp.rg [2, 6] orcW1_ok (mv := mv) (by decide) ?_
          simp only [pwr, pr1, mv, Int.reduceLT, Int.reduceSub, Int.reduceNeg, Int.reduceToNat, ne_eq, reduceIte, reduceCtorEq, Nat.reduceEqDiff, Nat.reduceAdd, Nat.reduceMul, Nat.reduceSub, Nat.reduceLT, Nat.reduceLeDiff, Nat.reduceBEq, if_true, if_false, implies_true, Bool.cond_true, Bool.cond_false, orcW1, c67, c68, c69, zf, Int.toNat_natCast, peta, hps]
          repeat' with_reducible refine And.intro ?_ ?_
          all_goals try (first | omega | (refine ⟨?_, ?_, ?_, ?_, ?_, ?_⟩ <;> omega))
          all_goals try (first | omega | rfl | ((with_reducible refine drawGoal ?_); exact rfl) | (simp only [inR]; omega) | (intro y hy; simp only [List.mem_singleton] at hy; subst hy; rfl) | (intro y hy; cases hy; done) | (simp only [List.length_append, List.length_map, List.length_cons, List.length_nil]; omega) | (intro h; simp only [inR]; omega) | (intro h; simp only [List.length_append, List.length_map, List.length_cons, List.length_nil]; omega) | (intro h; exact h.elim))
          refine hq6n _ (hK5 _ ?_)
          refine PWp.rg [2, 6] orcW1_ok (mv := mv) (by decide) ?_
          simp only [pwr, pr1, mv, Int.reduceLT, Int.reduceSub, Int.reduceNeg, Int.reduceToNat, ne_eq, reduceIte, reduceCtorEq, Nat.reduceEqDiff, Nat.reduceAdd, Nat.reduceMul, Nat.reduceSub, Nat.reduceLT, Nat.reduceLeDiff, Nat.reduceBEq, if_true, if_false, implies_true, Bool.cond_true, Bool.cond_false, orcW1, c67, c68, c69, zf, Int.toNat_natCast, peta, hpk, peta]
          repeat' with_reducible refine And.intro ?_ ?_
          all_goals try (first | omega | (refine ⟨?_, ?_, ?_, ?_, ?_⟩ <;> omega))
          all_goals try (first | omega | rfl | ((with_reducible refine drawGoal ?_); exact rfl) | (simp only [inR]; omega) | (intro y hy; simp only [List.mem_singleton] at hy; subst hy; rfl) | (intro y hy; cases hy; done) | (simp only [List.length_append, List.length_map, List.length_cons, List.length_nil]; omega) | (intro h; simp only [inR]; omega) | (intro h; simp only [List.length_append, List.length_map, List.length_cons, List.length_nil]; omega) | (intro h; exact h.elim))
          refine hJ1 _ ((r.drop a.1.text.length, acc ++ [(a.1, r.length)])) ?_ ?_ ?_
          · refine ⟨hsd, ?_, g, ?_, hsf.trans hst⟩
            · show (acc ++ [(a.1, r.length)]).length ≤ 4096
              simp only [List.length_append, List.length_singleton]; omega
            · show (r.drop a.1.text.length).length < g
              rw [List.length_drop]; omega
          · show (r.drop a.1.text.length).length < r0.length
            rw [List.length_drop]; omega
          · repeat simp only [pwf, pf1, reduceIte, reduceCtorEq, Nat.reduceEqDiff, Nat.reduceAdd, Nat.reduceMul, Nat.reduceSub, Nat.reduceLT, Nat.reduceLeDiff, Nat.reduceBEq, if_true, if_false, implies_true, Bool.cond_true, Bool.cond_false, zf, Int.toNat_natCast, peta]
            simp [tokRow, hp]
    ·
     try (cases hb21; done)
     all_goals
      refine PWp.exit (hq3x _ (hK2 _ ?_))
      refine PWp.seq_dr [2, 3, 4, 5] mixed orcW1_ok (mv := mv) (by decide) fun K hK => ?_
      simp only [pwr, pr1, mv, Int.reduceLT, Int.reduceSub, Int.reduceNeg, Int.reduceToNat, ne_eq, reduceIte, reduceCtorEq, Nat.reduceEqDiff, Nat.reduceAdd, Nat.reduceMul, Nat.reduceSub, Nat.reduceLT, Nat.reduceLeDiff, Nat.reduceBEq, if_true, if_false, implies_true, Bool.cond_true, Bool.cond_false, orcW1, c67, c68, c69, zf, Int.toNat_natCast, peta]
      repeat' with_reducible refine And.intro ?_ ?_
      all_goals try (first | omega | rfl | ((with_reducible refine drawGoal ?_); exact rfl) | (simp only [inR]; omega) | (intro y hy; simp only [List.mem_singleton] at hy; subst hy; rfl) | (intro y hy; cases hy; done) | (simp only [List.length_append, List.length_map, List.length_cons, List.length_nil]; omega) | (intro h; simp only [inR]; omega) | (intro h; simp only [List.length_append, List.length_map, List.length_cons, List.length_nil]; omega) | (intro h; exact h.elim))
      refine hK _ ?_
      clear hK K
      refine PWp.ret (hQ2 _ ?_)
      simp only [pwf, pf1, reduceIte, reduceCtorEq, Nat.reduceEqDiff, Nat.reduceAdd, Nat.reduceMul, Nat.reduceSub, Nat.reduceLT, Nat.reduceLeDiff, Nat.reduceBEq, if_true, if_false, implies_true, Bool.cond_true, Bool.cond_false, zf, Int.toNat_natCast, peta, Tryz.results29]
      repeat simp only [pwf, pf1, reduceIte, reduceCtorEq, Nat.reduceEqDiff, Nat.reduceAdd, Nat.reduceMul, Nat.reduceSub, Nat.reduceLT, Nat.reduceLeDiff, Nat.reduceBEq, if_true, if_false, implies_true, Bool.cond_true, Bool.cond_false, zf, Int.toNat_natCast, peta]
      have hr0 : r = [] := by simpa using hb21
      rw [if_pos hr0] at hst
      have hp0 : place s s.length = (p1, p2) := by rw [← hp, hr0]; rfl
      rw [hsf, hst]
      simp [rowsOf, lineOf, colOf, errOf, endRow, hp0]
def c29 : St → Option (Prop × St)
  | [(.S 0, .av (.pv (.str s)))] => some (s.length ≤ 20000, [(.S 0, .av (scanA s (scan s)))])
  | _ => none
theorem p29 {In Ret : St} {pre : Prop} (h : c29 In = some (pre, Ret)) (hp : pre) : PCalls Tryz.prog 29 In Ret := by
  unfold c29 at h
  split at h
  · cases h; exact t10 _ hp
  · cases h
end Go.Pw.L21
