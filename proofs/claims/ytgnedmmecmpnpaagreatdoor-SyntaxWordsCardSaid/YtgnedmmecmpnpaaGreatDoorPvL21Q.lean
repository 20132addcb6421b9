/- The lexer as a function: a quoted text is scanned as one string. Plain. -/
import Derived.Test.YtgnedmmecmpnpaaGreatDoorPvL21L
set_option linter.unusedSimpArgs false
set_option linter.unusedVariables false
set_option linter.unusedSectionVars false
namespace Go.Pw.L21
def hexD (n : UInt8) : UInt8 := if n < 10 then 48 + n else 87 + n
def escB (c : UInt8) : Bs :=
  if c = 10 then [92, 110] else if c = 9 then [92, 116] else if c = 0 then [92, 48] else if c = 92 then [92, 92] else if c = 34 then [92, 34]
  else if c < 32 ∨ 126 < c then [92, 120, hexD (c / 16), hexD (c % 16)] else [c]
def escL : Bs → Bs
  | [] => []
  | c :: s => escB c ++ escL s
def quoteL (s : Bs) : Bs := 34 :: (escL s ++ [34])
theorem esc_all : ∀ n : Fin 256, piece (escB (UInt8.ofNat n.val)) 34 = .byte (UInt8.ofNat n.val) (escB (UInt8.ofNat n.val)).length ∧ (escB (UInt8.ofNat n.val)).head? ≠ some 34 ∧ escB (UInt8.ofNat n.val) ≠ [] ∧ (escB (UInt8.ofNat n.val)).length ≤ 4 := by decide +kernel
theorem esc_one (c : UInt8) : piece (escB c) 34 = .byte c (escB c).length ∧ (escB c).head? ≠ some 34 ∧ escB c ≠ [] ∧ (escB c).length ≤ 4 := by
  have := esc_all ⟨c.toNat, c.toNat_lt⟩
  simpa using this
theorem esc_piece (c : UInt8) (r : Bs) : piece (escB c ++ r) 34 = .byte c (escB c).length := by
  obtain ⟨_, _, h⟩ := piece_app (esc_one c).1
  have := h r
  rwa [List.take_of_length_le (Nat.le_refl _)] at this
theorem quot_esc : ∀ (s : Bs) (f : Nat) (b r : Bs) (k : Nat), s.length < f → quotR f (escL s ++ 34 :: r) b k = .done (b ++ s) (k + (escL s).length)
  | [], f, b, r, k, hf => by
    obtain ⟨g, rfl⟩ : ∃ g, f = g + 1 := ⟨f - 1, by simp at hf; omega⟩
    simp [escL, quotR]
  | c :: s, f, b, r, k, hf => by
    obtain ⟨g, rfl⟩ : ∃ g, f = g + 1 := ⟨f - 1, by simp at hf; omega⟩
    obtain ⟨h1, h2, h3, h4⟩ := esc_one c
    have hp := esc_piece c (escL s ++ 34 :: r)
    have e : escL (c :: s) ++ 34 :: r = escB c ++ (escL s ++ 34 :: r) := by simp [escL]
    rw [e]
    have hd : (escB c ++ (escL s ++ 34 :: r)).drop (escB c).length = escL s ++ 34 :: r := by simp
    obtain ⟨d, w, hw⟩ : ∃ d w, escB c = d :: w := by
      cases hh : escB c with
      | nil => exact absurd hh h3
      | cons d w => exact ⟨d, w, rfl⟩
    have hne : ¬ d = 34 := by
      intro hd; apply h2; rw [hw, hd]; rfl
    rw [hw, List.cons_append] at hp hd ⊢
    rw [quotR, if_neg hne, hp]
    simp only
    rw [hd, quot_esc s g _ r _ (by simp at hf; omega)]
    have el : (escL (c :: s)).length = (d :: w).length + (escL s).length := by
      show (escB c ++ escL s).length = _
      rw [List.length_append, hw]
    rw [el]
    simp [Nat.add_assoc]
theorem esc_len : ∀ s : Bs, s.length ≤ (escL s).length ∧ (escL s).length ≤ 4 * s.length
  | [] => by simp [escL]
  | c :: s => by
    obtain ⟨h1, h2⟩ := esc_len s
    obtain ⟨_, _, h3, h4⟩ := esc_one c
    have : 1 ≤ (escB c).length := List.length_pos_iff.2 h3
    simp only [escL, List.length_append, List.length_cons]
    omega
theorem lex_quote {s : Bs} (hs : s.length ≤ 200) : lexOne (quoteL s) = ({ kind := 3, text := quoteL s, bytes := s }, 0, 0) := by
  have hl := esc_len s
  unfold quoteL lexOne
  simp only
  rw [if_neg (by decide), if_neg (by decide), if_neg (by decide), if_pos trivial]
  unfold quoted
  simp only [List.drop_succ_cons, List.drop_zero]
  rw [quot_esc s _ [] [] 1 (by simp only [List.length_cons, List.length_append]; omega)]
  simp only [List.nil_append]
  rw [if_neg (by omega), show 1 + (escL s).length + 1 = (escL s).length + 1 + 1 by omega, List.take_succ_cons, List.take_of_length_le (by simp)]
theorem scan_quote {s : Bs} (hs : s.length ≤ 200) : ∃ n, scan (quoteL s) = .ok [({ kind := 3, text := quoteL s, bytes := s }, n)] := by
  have hl := esc_len s
  have hq : (quoteL s).length ≤ 802 := by unfold quoteL; simp only [List.length_cons, List.length_append, List.length_nil]; omega
  have hlx := lex_quote hs
  have hsk : skipS false (quoteL s) = quoteL s := by
    unfold quoteL
    rw [skipS, if_neg (by decide), if_neg]
    rintro ⟨h, _⟩; cases h
  refine ⟨(quoteL s).length, ?_⟩
  unfold scan
  obtain ⟨g, hg⟩ : ∃ g, (quoteL s).length = g + 1 := ⟨(quoteL s).length - 1, by unfold quoteL; simp⟩
  rw [if_neg (by omega), scanF, hsk, if_neg (by unfold quoteL; simp), if_neg (by simp), hlx]
  simp only [ne_eq, not_true_eq_false, if_false, List.drop_length, List.nil_append]
  rw [hg]
  rfl
end Go.Pw.L21
