/- The lexer as a function: texts put together again are scanned as the same tokens; identifiers; quoted texts. Plain. -/
import Derived.Test.YtgnedmmecmpnpaaGreatDoorPvL21T
set_option linter.unusedSimpArgs false
set_option linter.unusedVariables false
set_option linter.unusedSectionVars false
namespace Go.Pw.L21
def Good (t : Tok) : Prop := t.text ≠ [] ∧ ∃ k, ∀ r, stop r → lexOne (t.text ++ r) = (t, k, 0)
theorem stop_nil : stop [] := .inl rfl
theorem skip_len : ∀ (c : Bool) (s : Bs), (skipS c s).length ≤ s.length
  | _, [] => by simp [skipS]
  | true, c :: s => by
    rw [skipS]
    have h1 := skip_len false s
    have h2 := skip_len true s
    split <;> simp only [List.length_cons] <;> omega
  | false, c :: s => by
    rw [skipS]
    have h1 := skip_len false s
    have h2 := skip_len true s
    split
    · simp only [List.length_cons]; omega
    · split <;> simp only [List.length_cons] <;> omega
/-- a token's text is no blank and begins no comment -/
theorem good_skip {t : Tok} (h : Good t) {r : Bs} (hr : stop r) : skipS false (t.text ++ r) = t.text ++ r := by
  obtain ⟨hne, k, hl⟩ := h
  have h1 := hl r hr
  obtain ⟨c, w, hw⟩ : ∃ c w, t.text = c :: w := by
    cases ht : t.text with
    | nil => exact absurd ht hne
    | cons c w => exact ⟨c, w, rfl⟩
  rw [hw] at h1 ⊢
  rw [List.cons_append] at h1 ⊢
  have blank : ∀ b : UInt8, (b = 32 ∨ b = 9 ∨ b = 10) → (lexOne (b :: (w ++ r))).2.2 ≠ 0 := by
    rintro b hb
    have e1 : letterB b = false := by rcases hb with rfl | rfl | rfl <;> rfl
    have e2 : digitB b = false := by rcases hb with rfl | rfl | rfl <;> rfl
    have e3 : ¬ b = 39 := by rcases hb with rfl | rfl | rfl <;> decide
    have e4 : ¬ b = 34 := by rcases hb with rfl | rfl | rfl <;> decide
    unfold lexOne
    simp only [e1, e2, Bool.false_eq_true, if_false, if_neg e3, if_neg e4]
    unfold marks
    have no : ∀ x ∈ symbols, b ∉ x := fun x hx hbx => by
      have := sym_no_blank x hx b hbx
      rcases hb with rfl | rfl | rfl
      · exact this.1 rfl
      · exact this.2.1 rfl
      · exact this.2.2 rfl
    rw [if_neg, if_neg]
    · decide
    · intro k; exact no _ k (by simp)
    · rintro ⟨_, k⟩; exact no _ k (by simp)
  rw [skipS]
  split
  · rename_i hb
    have := blank c hb
    rw [h1] at this
    exact absurd rfl this
  · split
    · rename_i hb hc
      exfalso
      obtain ⟨rfl, hh⟩ := hc
      have e : lexOne (47 :: (w ++ r)) = ({ kind := 5, text := [47] }, 0, 0) := by
        unfold lexOne
        simp only
        rw [if_neg (by decide), if_neg (by decide), if_neg (by decide), if_neg (by decide)]
        unfold marks
        obtain ⟨x, hx⟩ : ∃ x, w ++ r = 47 :: x := by
          cases hwr : w ++ r with
          | nil => rw [hwr] at hh; cases hh
          | cons a x => rw [hwr] at hh; exact ⟨x, by simp at hh; rw [hh]⟩
        rw [hx, if_neg, if_pos]
        · rfl
        · show [47] ∈ symbols; decide
        · rintro ⟨_, k⟩
          revert k
          show ¬ [47, 47] ∈ symbols
          decide
      rw [e] at h1
      have ht : t = { kind := 5, text := [47] } := (congrArg Prod.fst h1).symm
      have hw0 : w = [] := by
        have := congrArg Tok.text ht
        rw [hw] at this
        simpa using this
      rw [hw0, List.nil_append] at hh
      rcases hr with rfl | h | h | h
      · cases hh
      · rw [hh] at h; cases h
      · rw [hh] at h; cases h
      · rw [hh] at h; cases h
    · rfl
def textsLen (l : List (Tok × Nat)) : Nat := (l.map fun p => p.1.text.length).sum
/-- what a scan gives -/
theorem scanF_ok : ∀ (f : Nat) (s : Bs) (acc l : List (Tok × Nat)), scanF f s acc = .ok l → ∃ l', l = acc ++ l' ∧ (∀ p ∈ l', Good p.1) ∧ textsLen l' ≤ s.length ∧ (acc.length ≤ 4096 → l.length ≤ 4096)
  | 0, s, acc, l, h => by
    simp only [scanF] at h
    cases h
    exact ⟨[], by simp, by simp, by simp [textsLen], id⟩
  | f + 1, s, acc, l, h => by
    rw [scanF] at h
    have hsl := skip_len false s
    generalize skipS false s = r at *
    split at h
    · cases h
      exact ⟨[], by simp, by simp, by simp [textsLen], id⟩
    · rename_i hr
      split at h
      · cases h
      · rename_i h2
        split at h
        · cases h
        · rename_i h3
          have h3 := Decidable.not_not.1 h3
          have hlx : lexOne r = ((lexOne r).1, (lexOne r).2.1, 0) := by rw [← h3]
          obtain ⟨g1, ⟨tl, g2⟩, g3⟩ := lex_local hr hlx
          obtain ⟨l', e1, e2, e3, e4⟩ := scanF_ok f _ _ _ h
          refine ⟨((lexOne r).1, r.length) :: l', by rw [e1]; simp, fun p hp => ?_, ?_, fun ha => e4 (by simp; omega)⟩
          · rcases List.mem_cons.1 hp with rfl | hp
            · exact ⟨g1, _, g3⟩
            · exact e2 p hp
          · have hrl := congrArg List.length g2
            rw [List.length_append] at hrl
            rw [List.length_drop] at e3
            show (lexOne r).1.text.length + textsLen l' ≤ _
            omega
def Sep (b : Bs) : Prop := ∀ x, skipS false (b ++ x) = skipS false x
def weave : List (Bs × Tok) → Bs → Bs
  | [], last => last
  | (b, t) :: ps, last => b ++ (t.text ++ weave ps last)
/-- texts with blanks between them are scanned as the tokens -/
theorem scanF_seq : ∀ (ps : List (Bs × Tok)) (last : Bs) (f : Nat) (acc : List (Tok × Nat)), (∀ p ∈ ps, Sep p.1 ∧ Good p.2) → (∀ p ∈ ps.tail, ∀ x, stop (p.1 ++ x)) → skipS false last = [] → stop last →
    ps.length < f → acc.length + ps.length ≤ 4096 → ∃ l', scanF f (weave ps last) acc = .ok (acc ++ l') ∧ l'.map (·.1) = ps.map (·.2)
  | [], last, f, acc, _, _, hl, _, hf, _ => by
    obtain ⟨g, rfl⟩ : ∃ g, f = g + 1 := ⟨f - 1, by omega⟩
    refine ⟨[], ?_, rfl⟩
    rw [weave, scanF, hl, if_pos rfl, List.append_nil]
  | (b, t) :: ps, last, f, acc, hp, ht, hl, hs, hf, ha => by
    obtain ⟨g, rfl⟩ : ∃ g, f = g + 1 := ⟨f - 1, by omega⟩
    obtain ⟨h1, h2⟩ := hp (b, t) (by simp)
    have hst : stop (weave ps last) := by
      cases ps with
      | nil => exact hs
      | cons q ps => obtain ⟨b2, t2⟩ := q; exact ht (b2, t2) (by simp) _
    have hsk : skipS false (weave ((b, t) :: ps) last) = t.text ++ weave ps last := by
      rw [weave, h1, good_skip h2 hst]
    obtain ⟨hne, k, hlx⟩ := h2
    have hlx := hlx _ hst
    rw [scanF, hsk, if_neg (by simp [hne]), if_neg (by simp at ha; omega), hlx]
    simp only [ne_eq, not_true_eq_false, if_false]
    have hd : (t.text ++ weave ps last).drop t.text.length = weave ps last := by simp
    rw [hd]
    obtain ⟨l', e1, e2⟩ := scanF_seq ps last g (acc ++ [(t, (t.text ++ weave ps last).length)]) (fun p h => hp p (by simp [h])) (fun p h => ht p (List.mem_of_mem_tail h)) hl hs (by simp at hf; omega) (by simp at ha ⊢; omega)
    refine ⟨(t, (t.text ++ weave ps last).length) :: l', by rw [e1]; simp, by simp [e2]⟩
theorem sep_nil : Sep [] := fun x => rfl
theorem sep_blank {b : UInt8} (h : b = 32 ∨ b = 9 ∨ b = 10) {r : Bs} (hr : Sep r) : Sep (b :: r) := fun x => by
  rw [List.cons_append, skipS, if_pos h]
  exact hr x
/-- identifiers -/
def isIdent (s : Bs) : Bool := !(s == []) && decide (s.length ≤ 32) && (s.head?.any letterB) && wordB s == s && !(keywords.contains s)
theorem scan_ident {s : Bs} (hl : s.length ≤ 16384) : (isIdent s = true) ↔ ∃ n, scan s = .ok [({ kind := 1, text := s }, n)] := by
  have h0 : ¬ 16384 < s.length := by omega
  constructor
  · intro h
    unfold isIdent at h
    simp only [Bool.and_eq_true, Bool.not_eq_true', beq_eq_false_iff_ne, decide_eq_true_eq, beq_iff_eq] at h
    obtain ⟨⟨⟨⟨h1, h2⟩, h3⟩, h4⟩, h5⟩ := h
    cases s with
    | nil => exact absurd rfl h1
    | cons c s =>
      have hc : letterB c = true := by simpa using h3
      have hk : ¬ (c :: s) ∈ keywords := by
        intro hm
        rw [List.contains_iff_mem.2 hm] at h5; cases h5
      have hb : ¬ (c = 32 ∨ c = 9 ∨ c = 10) := by
        intro h
        rcases h with rfl | rfl | rfl <;> cases hc
      have hs : ¬ (c = 47 ∧ s.head? = some 47) := by
        rintro ⟨rfl, _⟩; cases hc
      have hlx : lexOne (c :: s) = ({ kind := 1, text := c :: s }, 0, 0) := by
        unfold lexOne
        simp only [hc, if_true]
        unfold names
        simp only [h4]
        rw [if_neg (by omega), if_neg hk]
      refine ⟨(c :: s).length, ?_⟩
      unfold scan
      rw [if_neg h0, scanF, skipS, if_neg hb, if_neg hs, if_neg (by simp), if_neg (by simp), hlx]
      simp only [ne_eq, not_true_eq_false, if_false, List.drop_length, List.nil_append]
      rfl
  · rintro ⟨n, h⟩
    unfold scan at h
    rw [if_neg h0, scanF] at h
    have hsl := skip_len false s
    generalize skipS false s = r at *
    split at h
    · cases h
    · rename_i hr
      split at h
      · cases h
      · split at h
        · cases h
        · rename_i h3
          have h3 := Decidable.not_not.1 h3
          obtain ⟨l', e1, _, _, _⟩ := scanF_ok _ _ _ _ h
          have hp : (lexOne r).1 = { kind := 1, text := s } := by
            have := congrArg List.head? e1
            simp at this
            exact this.1.symm
          have hlx : lexOne r = ({ kind := 1, text := s }, (lexOne r).2.1, 0) := by rw [← hp, ← h3]
          obtain ⟨g1, ⟨tl, g2⟩, _⟩ := lex_local hr hlx
          simp only at g1 g2
          have htl : tl = [] := by
            have := congrArg List.length g2
            rw [List.length_append] at this
            exact List.length_eq_zero_iff.1 (by omega)
          rw [htl, List.append_nil] at g2
          subst g2
          obtain ⟨c, s', rfl⟩ : ∃ c s', r = c :: s' := by
            cases r with
            | nil => exact absurd rfl hr
            | cons c s' => exact ⟨c, s', rfl⟩
          unfold lexOne at hlx
          simp only at hlx
          split at hlx
          · rename_i hc
            unfold names at hlx
            simp only at hlx
            split at hlx
            · have := congrArg (fun a : Ans => a.2.2) hlx; cases this
            · rename_i hw
              split at hlx
              · have := congrArg (fun a : Ans => a.1.kind) hlx; cases this
              · rename_i hk
                have hword : wordB (c :: s') = c :: s' := congrArg (fun a : Ans => a.1.text) hlx
                rw [hword] at hw hk
                unfold isIdent
                simp only [Bool.and_eq_true, Bool.not_eq_true', beq_eq_false_iff_ne, decide_eq_true_eq, beq_iff_eq]
                refine ⟨⟨⟨⟨by simp, by omega⟩, by simpa using hc⟩, hword⟩, ?_⟩
                cases hcc : keywords.contains (c :: s')
                · rfl
                · exact absurd (List.contains_iff_mem.1 hcc) hk
          · exfalso
            split at hlx
            · have := congrArg (fun a : Ans => a.1.kind) hlx; cases this
            · split at hlx
              · unfold chars at hlx
                split at hlx
                · have := congrArg (fun a : Ans => a.1.kind) hlx; cases this
                · have := congrArg (fun a : Ans => a.1.kind) hlx; cases this
                · split at hlx
                  · have := congrArg (fun a : Ans => a.1.kind) hlx; cases this
                  · split at hlx <;> (have := congrArg (fun a : Ans => a.1.kind) hlx; cases this)
              · split at hlx
                · unfold quoted at hlx
                  split at hlx
                  · have := congrArg (fun a : Ans => a.1.kind) hlx; cases this
                  · split at hlx <;> (have := congrArg (fun a : Ans => a.1.kind) hlx; cases this)
                · unfold marks at hlx
                  split at hlx
                  · have := congrArg (fun a : Ans => a.1.kind) hlx; cases this
                  · split at hlx <;> (have := congrArg (fun a : Ans => a.1.kind) hlx; cases this)
end Go.Pw.L21
