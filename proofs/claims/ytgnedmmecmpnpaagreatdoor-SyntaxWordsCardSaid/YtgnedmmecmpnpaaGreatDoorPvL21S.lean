/- The lexer: places step by step, and what the steps of the scanner leave. Plain: no program in sight. -/
import Derived.Test.YtgnedmmecmpnpaaGreatDoorPvL21P
import Derived.Test.YtgnedmmecmpnpaaGreatDoorPvL21J
import Derived.Lib.IndexMore
set_option linter.unusedSimpArgs false
set_option linter.unusedVariables false
set_option linter.unusedSectionVars false
namespace Go.Pw.L21
def adv (p : Int × Int) (s : Bs) : Int × Int := s.foldl stepP p
theorem place_adv (s : Bs) (n : Nat) : place s n = adv (1, 1) (s.take n) := rfl
theorem adv_app (p : Int × Int) (a b : Bs) : adv p (a ++ b) = adv (adv p a) b := List.foldl_append
theorem adv_snoc {p : Int × Int} {s : Bs} {i : Nat} (h : i < s.length) : adv p (s.take (i + 1)) = stepP (adv p (s.take i)) s[i] := by
  rw [List.take_succ_eq_append_getElem h, adv_app]; rfl
theorem place_add (s : Bs) (n k : Nat) : place s (n + k) = adv (place s n) ((s.drop n).take k) := by
  rw [place_adv, place_adv, List.take_add, adv_app]
theorem adv_bd : ∀ {s : Bs} {p : Int × Int}, 1 ≤ p.1 → 1 ≤ p.2 → 1 ≤ (adv p s).1 ∧ (adv p s).1 ≤ p.1 + s.length ∧ 1 ≤ (adv p s).2 ∧ (adv p s).2 ≤ p.2 + s.length
  | [], p, h1, h2 => by
    show 1 ≤ p.1 ∧ p.1 ≤ p.1 + ((0 : Nat) : Int) ∧ 1 ≤ p.2 ∧ p.2 ≤ p.2 + ((0 : Nat) : Int)
    omega
  | c :: s, p, h1, h2 => by
    have e : adv p (c :: s) = adv (stepP p c) s := rfl
    have hl : (c :: s).length = s.length + 1 := rfl
    rw [e, hl]
    have h : (stepP p c = (p.1 + 1, 1)) ∨ stepP p c = (p.1, p.2 + 1) := by
      unfold stepP
      split
      · exact .inl rfl
      · exact .inr rfl
    rcases h with h | h <;> rw [h]
    · have := adv_bd (s := s) (p := (p.1 + 1, 1)) (by simp only; omega) (by simp only; omega)
      simp only at this
      omega
    · have := adv_bd (s := s) (p := (p.1, p.2 + 1)) (by simp only; omega) (by simp only; omega)
      simp only at this
      omega
theorem skip_true : ∀ s : Bs, skipS true s = skipS false (s.dropWhile fun c => c != 10)
  | [] => rfl
  | c :: s => by
    rw [skipS, List.dropWhile_cons]
    by_cases h : c = 10
    · rw [if_pos h, if_neg (by simp [h])]
      rw [skipS, if_pos (.inr (.inr h))]
    · rw [if_neg h, if_pos (by simpa using h), skip_true s]
theorem line_eq : ∀ s : Bs, (if 0 ≤ Lib.indexByte s 10 then s.take (Lib.indexByte s 10).toNat else s) = s.takeWhile fun c => c != 10
  | [] => rfl
  | b :: s => by
    have ih := line_eq s
    have hge := Lib.indexByte_ge s 10
    unfold Lib.indexByte
    rw [List.takeWhile_cons]
    by_cases h : b = 10
    · subst h; rfl
    · have h1 : (b == 10) = false := by simpa using h
      have h2 : (b != 10) = true := by simpa using h
      rw [h1, h2]
      simp only [Bool.false_eq_true, if_false, if_true]
      by_cases h3 : Lib.indexByte s 10 = -1
      · rw [h3] at ih ⊢
        simp only [BEq.rfl, if_true] at ih ⊢
        rw [← ih]
        rfl
      · have h4 : (Lib.indexByte s 10 == -1) = false := by simpa using h3
        rw [h4]
        simp only [Bool.false_eq_true, if_false]
        rw [if_pos (by omega)] at ih ⊢
        rw [← ih, show (Lib.indexByte s 10 + 1).toNat = (Lib.indexByte s 10).toNat + 1 by omega]
        rfl
theorem cut_line (s : Bs) : (Lib.cut s [10]).1 = s.takeWhile fun c => c != 10 := by
  rw [← line_eq, ← Lib.index_one]
  unfold Lib.cut
  split <;> rfl
theorem drop_line (s : Bs) : s.drop (Lib.cut s [10]).1.length = s.dropWhile fun c => c != 10 := by
  rw [cut_line]
  have h : s = s.takeWhile (fun c => c != 10) ++ s.dropWhile fun c => c != 10 := List.takeWhile_append_dropWhile.symm
  have h2 : s.drop (s.takeWhile fun c => c != 10).length = (s.takeWhile (fun c => c != 10) ++ s.dropWhile fun c => c != 10).drop (s.takeWhile fun c => c != 10).length := by rw [← h]
  rw [h2, List.drop_left]
theorem line_len (s : Bs) : (Lib.cut s [10]).1.length ≤ s.length := by
  rw [cut_line]; exact (List.takeWhile_sublist _).length_le
theorem skip_blank {c : UInt8} {s : Bs} (h : c = 32 ∨ c = 9 ∨ c = 10) : skipS false (c :: s) = skipS false s := by rw [skipS, if_pos h]
theorem skip_line {s : Bs} (h : s.take 2 = [47, 47]) : skipS false s = skipS false (s.drop (Lib.cut s [10]).1.length) ∧ 0 < (Lib.cut s [10]).1.length := by
  obtain ⟨r, rfl⟩ : ∃ r, s = 47 :: 47 :: r := by
    cases s with
    | nil => cases h
    | cons a s => cases s with
      | nil => cases h
      | cons b s =>
        simp only [List.take_succ_cons, List.take_zero, List.cons.injEq, and_true] at h
        obtain ⟨rfl, rfl⟩ := h
        exact ⟨s, rfl⟩
  constructor
  · rw [drop_line, skipS, if_neg (by decide), if_pos ⟨rfl, rfl⟩, skip_true]
    rfl
  · rw [cut_line]; simp
theorem skip_none {c : UInt8} {s : Bs} (h : ¬ (c = 32 ∨ c = 9 ∨ c = 10)) (h2 : ¬ (c :: s).take 2 = [47, 47]) : skipS false (c :: s) = c :: s := by
  rw [skipS, if_neg h, if_neg]
  rintro ⟨rfl, k⟩
  apply h2
  cases s with
  | nil => cases k
  | cons d s =>
    simp only [List.head?_cons, Option.some.injEq] at k
    subst k; rfl
theorem piece_bad {s : Bs} {q : UInt8} {k : Nat} (h : piece s q = .bad k) : k < s.length := by
  unfold piece at h
  repeat' split at h
  all_goals first
    | (cases h; done)
    | (cases h; simp only [List.length_cons]; omega)
theorem quot_fail_le : ∀ (f : Nat) (r b : Bs) (k j : Nat) (e : Int), quotR f r b k = .fail j e → j ≤ k + r.length
  | 0, r, b, k, j, e, h => by rw [quotR] at h; cases h; omega
  | f + 1, [], b, k, j, e, h => by rw [quotR] at h; cases h; omega
  | f + 1, c :: r, b, k, j, e, h => by
    rw [quotR] at h
    split at h
    · cases h
    · split at h
      · cases h; omega
      · rename_i i hp
        cases h
        have := piece_bad hp
        omega
      · rename_i x n hp
        have h1 := quot_fail_le f _ _ _ _ _ h
        have h2 := (piece_app hp).2.1
        rw [List.length_drop] at h1
        omega
theorem lex_at (s : Bs) : (lexOne s).2.1 ≤ s.length := by
  unfold lexOne
  split
  · exact Nat.zero_le _
  · rename_i c r
    split
    · unfold names; simp only; repeat' split
      all_goals exact Nat.zero_le _
    · split
      · exact Nat.zero_le _
      · split
        · unfold chars
          split
          · exact Nat.zero_le _
          · rename_i k hp
            have := piece_bad hp
            simp only [List.length_drop, List.length_cons] at this ⊢
            omega
          · rename_i x n hp
            have := (piece_app hp).2.1
            simp only [List.length_drop, List.length_cons] at this
            split
            · exact Nat.zero_le _
            · split
              · simp only [List.length_cons]; omega
              · exact Nat.zero_le _
        · split
          · unfold quoted
            split
            · rename_i k e hq
              have := quot_fail_le _ _ _ _ _ _ hq
              simp only [List.length_drop, List.length_cons] at this ⊢
              omega
            · split <;> exact Nat.zero_le _
          · unfold marks
            repeat' split
            all_goals exact Nat.zero_le _
end Go.Pw.L21
