/- The lexer as a function: where the tokens stand. Plain. -/
import Derived.Test.YtgnedmmecmpnpaaGreatDoorPvL21L
set_option linter.unusedSimpArgs false
set_option linter.unusedVariables false
set_option linter.unusedSectionVars false
namespace Go.Pw.L21
def before (p q : Int × Int) : Prop := p.1 < q.1 ∨ (p.1 = q.1 ∧ p.2 < q.2)
theorem before_trans {p q r : Int × Int} (h : before p q) (k : before q r) : before p r := by
  unfold before at *
  omega
def stepP (p : Int × Int) (c : UInt8) : Int × Int := if c = 10 then (p.1 + 1, 1) else (p.1, p.2 + 1)
theorem step_before (p : Int × Int) (c : UInt8) : before p (stepP p c) := by
  unfold before stepP
  split
  · left; show p.1 < p.1 + 1; omega
  · right; exact ⟨rfl, by show p.2 < p.2 + 1; omega⟩
theorem place_succ {s : Bs} {n : Nat} (h : n < s.length) : place s (n + 1) = stepP (place s n) s[n] := by
  unfold place
  rw [List.take_succ_eq_append_getElem h, List.foldl_append]
  rfl
theorem place_before {s : Bs} {n : Nat} : ∀ {m : Nat}, n < m → m ≤ s.length → before (place s n) (place s m)
  | 0, h, _ => absurd h (Nat.not_lt_zero _)
  | m + 1, h, hm => by
    have h1 := place_succ (s := s) (n := m) (by omega)
    have h2 : before (place s m) (place s (m + 1)) := by rw [h1]; exact step_before _ _
    rcases Nat.lt_or_ge n m with k | k
    · exact before_trans (place_before k (by omega)) h2
    · have : n = m := by omega
      rw [this]; exact h2
theorem place_inj {s : Bs} {n m : Nat} (hn : n ≤ s.length) (hm : m ≤ s.length) (h : place s n = place s m) : n = m := by
  rcases Nat.lt_trichotomy n m with k | k | k
  · have := place_before k hm
    rw [h] at this
    unfold before at this
    omega
  · exact k
  · have := place_before k hn
    rw [h] at this
    unfold before at this
    omega
theorem skip_suffix : ∀ (c : Bool) (s : Bs), ∃ p, s = p ++ skipS c s
  | _, [] => ⟨[], by simp [skipS]⟩
  | true, c :: s => by
    rw [skipS]
    obtain ⟨p1, h1⟩ := skip_suffix false s
    obtain ⟨p2, h2⟩ := skip_suffix true s
    split
    · exact ⟨c :: p1, by rw [List.cons_append, ← h1]⟩
    · exact ⟨c :: p2, by rw [List.cons_append, ← h2]⟩
  | false, c :: s => by
    rw [skipS]
    obtain ⟨p1, h1⟩ := skip_suffix false s
    obtain ⟨p2, h2⟩ := skip_suffix true s
    split
    · exact ⟨c :: p1, by rw [List.cons_append, ← h1]⟩
    · split
      · exact ⟨c :: p2, by rw [List.cons_append, ← h2]⟩
      · exact ⟨[], rfl⟩
/-- a token stands in S where the rest is as long as it says -/
def Stands (S : Bs) (p : Tok × Nat) : Prop := 0 < p.2 ∧ p.2 ≤ S.length ∧ p.1.text ≠ [] ∧ ∃ tl, S.drop (S.length - p.2) = p.1.text ++ tl
theorem drop_suffix {S a b : Bs} (h : S = a ++ b) : S.drop (S.length - b.length) = b := by
  subst h
  simp
theorem scanF_stands {S : Bs} : ∀ (f : Nat) (s : Bs) (acc l : List (Tok × Nat)), (∃ a, S = a ++ s) → scanF f s acc = .ok l → ∃ l', l = acc ++ l' ∧ (∀ p ∈ l', Stands S p ∧ p.2 ≤ s.length) ∧ l'.Pairwise (fun p q => q.2 < p.2)
  | 0, s, acc, l, _, h => by
    simp only [scanF] at h
    cases h
    exact ⟨[], by simp, by simp, .nil⟩
  | f + 1, s, acc, l, hS, h => by
    rw [scanF] at h
    have hsl := skip_len false s
    obtain ⟨pre, hpre⟩ := skip_suffix false s
    generalize skipS false s = r at *
    split at h
    · cases h
      exact ⟨[], by simp, by simp, .nil⟩
    · rename_i hr
      split at h
      · cases h
      · split at h
        · cases h
        · rename_i h3
          have h3 := Decidable.not_not.1 h3
          have hlx : lexOne r = ((lexOne r).1, (lexOne r).2.1, 0) := by rw [← h3]
          obtain ⟨g1, ⟨tl, g2⟩, g3⟩ := lex_local hr hlx
          obtain ⟨a, hS⟩ := hS
          have hSr : S = (a ++ pre) ++ r := by rw [hS, hpre, List.append_assoc]
          have hd : r = (lexOne r).1.text ++ r.drop (lexOne r).1.text.length := by
            have : r.take (lexOne r).1.text.length = (lexOne r).1.text := by
              generalize (lexOne r).1.text = x at *
              rw [g2]; simp
            have h := List.take_append_drop (lexOne r).1.text.length r
            rw [this] at h
            exact h.symm
          obtain ⟨l', e1, e2, e3⟩ := scanF_stands (S := S) f _ _ _ ⟨a ++ pre ++ (lexOne r).1.text, by rw [List.append_assoc, ← hd]; exact hSr⟩ h
          have hrl : 0 < r.length := List.length_pos_iff.2 hr
          have htl : 0 < (lexOne r).1.text.length := List.length_pos_iff.2 g1
          have hSl := congrArg List.length hSr
          rw [List.length_append] at hSl
          refine ⟨((lexOne r).1, r.length) :: l', by rw [e1]; simp, fun p hp => ?_, ?_⟩
          · rcases List.mem_cons.1 hp with rfl | hp
            · exact ⟨⟨hrl, by show r.length ≤ S.length; omega, g1, tl, by show S.drop (S.length - r.length) = _; rw [drop_suffix hSr]; exact g2⟩, hsl⟩
            · obtain ⟨k1, k2⟩ := e2 p hp
              rw [List.length_drop] at k2
              exact ⟨k1, by omega⟩
          · refine List.pairwise_cons.2 ⟨fun q hq => ?_, e3⟩
            obtain ⟨_, k2⟩ := e2 q hq
            rw [List.length_drop] at k2
            show q.2 < r.length
            omega
end Go.Pw.L21
