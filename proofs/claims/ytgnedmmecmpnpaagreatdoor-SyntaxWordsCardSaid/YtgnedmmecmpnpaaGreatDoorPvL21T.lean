/- The lexer as a function on bytes: what the walk is to show and what the laws are to use. Plain: no program in sight. -/
set_option linter.unusedSimpArgs false
set_option linter.unusedVariables false
set_option linter.unusedSectionVars false
namespace Go.Pw.L21
abbrev Bs := List UInt8
structure Tok where
  kind : Int := 0
  text : Bs := []
  value : Int := 0
  bytes : Bs := []
deriving DecidableEq
def letterB (c : UInt8) : Bool := c == 95 || (97 ≤ c && c ≤ 122) || (65 ≤ c && c ≤ 90)
def digitB (c : UInt8) : Bool := 48 ≤ c && c ≤ 57
def hexV (c : UInt8) : Int := if digitB c then (c.toNat : Int) - 48 else if 97 ≤ c && c ≤ 102 then (c.toNat : Int) - 87 else -1
def wordB (s : Bs) : Bs := s.takeWhile fun c => letterB c || digitB c
def keywords : List Bs := [[98, 114, 101, 97, 107], [99, 111, 110, 116, 105, 110, 117, 101], [101, 108, 115, 101], [102, 117, 110, 99], [105, 102], [114, 101, 116, 117, 114, 110], [118, 97, 114], [119, 104, 105, 108, 101]]
def symbols : List Bs := [[33], [33, 61], [37], [38], [38, 38], [40], [41], [42], [43], [44], [45], [47], [59], [60], [60, 60], [60, 61], [61], [61, 61], [62], [62, 61], [62, 62], [91], [93], [94], [123], [124], [124, 124], [125], [126]]
/-- what a kind of token answers: the token, the place of the failure in the rest, the failure -/
abbrev Ans := Tok × Nat × Int
def names (s : Bs) : Ans :=
  let w := wordB s
  if 32 < w.length then ({}, 0, 5) else if w ∈ keywords then ({ kind := 4, text := w }, 0, 0) else ({ kind := 1, text := w }, 0, 0)
def hexL : Bs → Int → Option Int
  | [], n => some n
  | c :: s, n => if hexV c < 0 then none else hexL s (n * 16 + hexV c)
def decL : Bs → Int → Option Int
  | [], n => some n
  | c :: s, n => if digitB c then decL s (min (n * 10 + ((c.toNat : Int) - 48)) 4294967296) else none
def value (w : Bs) : Int × Int :=
  if w.take 2 = [48, 120] then
    match hexL (w.drop 2) 0 with
    | none => (0, 3)
    | some n => if (w.drop 2).length < 1 ∨ 8 < (w.drop 2).length then (0, 3) else (n, 0)
  else match decL w 0 with
    | none => (0, 3)
    | some n => if w.head? = some 48 ∧ 1 < w.length then (0, 3) else if 4294967295 < n then (0, 2) else (n, 0)
def numbers (s : Bs) : Ans := ({ kind := 2, text := wordB s, value := (value (wordB s)).1 }, 0, (value (wordB s)).2)
/-- a byte behind a stroke -/
def escape (c : UInt8) : Int :=
  if c = 110 then 10 else if c = 116 then 9 else if c = 48 then 0 else if c = 92 then 92 else if c = 39 then 39 else if c = 34 then 34 else -1
/-- the byte at the head of the rest, the bytes that it takes; or the failure's place from there (none: the whole token is too short) -/
inductive Piece where
  | byte (c : UInt8) (n : Nat)
  | short
  | bad (k : Nat)
deriving DecidableEq
def piece (s : Bs) (quote : UInt8) : Piece :=
  match s with
  | [] => .short
  | c :: s =>
    if c < 32 ∨ 126 < c ∨ c = quote then .bad 0
    else if c ≠ 92 then .byte c 1
    else match s with
      | [] => .short
      | d :: s =>
        if d ≠ 120 then (if escape d < 0 then .bad 1 else .byte (UInt8.ofNat (escape d).toNat) 2)
        else match s with
          | [] => .short
          | x :: s => if hexV x < 0 then .bad 2 else match s with
            | [] => .short
            | y :: _ => if hexV y < 0 then .bad 3 else .byte (UInt8.ofNat (hexV x * 16 + hexV y).toNat) 4
def chars (s : Bs) : Ans :=
  match piece (s.drop 1) 39 with
  | .short => ({}, 0, 4)
  | .bad k => ({}, 1 + k, 6)
  | .byte c n => match s.drop (1 + n) with
    | [] => ({}, 0, 4)
    | q :: _ => if q ≠ 39 then ({}, 1 + n, 6) else ({ kind := 2, text := s.take (2 + n), value := c.toNat }, 0, 0)
/-- the rest of a string: the bytes so far, the bytes taken so far -/
inductive Quot where
  | fail (k : Nat) (e : Int)
  | done (b : Bs) (k : Nat)
deriving DecidableEq
def quotR : Nat → Bs → Bs → Nat → Quot
  | 0, _, _, _ => .fail 0 4
  | _ + 1, [], _, _ => .fail 0 4
  | f + 1, c :: r, b, k =>
    if c = 34 then .done b k
    else match piece (c :: r) 34 with
      | .short => .fail 0 4
      | .bad j => .fail (k + j) 6
      | .byte x n => quotR f ((c :: r).drop n) (b ++ [x]) (k + n)
def quoted (s : Bs) : Ans :=
  match quotR s.length (s.drop 1) [] 1 with
  | .fail k e => ({}, k, e)
  | .done b k => if 200 < b.length then ({}, 0, 5) else ({ kind := 3, text := s.take (k + 1), bytes := b }, 0, 0)
def marks (s : Bs) : Ans :=
  if 2 ≤ s.length ∧ s.take 2 ∈ symbols then ({ kind := 5, text := s.take 2 }, 0, 0)
  else if s.take 1 ∈ symbols then ({ kind := 5, text := s.take 1 }, 0, 0) else ({}, 0, 6)
/-- one token of a rest that is not empty -/
def lexOne (s : Bs) : Ans :=
  match s with
  | [] => ({}, 0, 6)
  | c :: _ => if letterB c then names s else if digitB c then numbers s else if c = 39 then chars s else if c = 34 then quoted s else marks s
/-- blanks and comments left out; 'true': within a comment -/
def skipS : Bool → Bs → Bs
  | _, [] => []
  | true, c :: s => if c = 10 then skipS false s else skipS true s
  | false, c :: s => if c = 32 ∨ c = 9 ∨ c = 10 then skipS false s else if c = 47 ∧ s.head? = some 47 then skipS true s else c :: s
/-- the tokens, each with the length of the rest at which it begins; or the length of the rest at the failure, and the failure -/
inductive Scan where
  | ok (l : List (Tok × Nat))
  | fail (rest : Nat) (e : Int)
deriving DecidableEq
def scanF : Nat → Bs → List (Tok × Nat) → Scan
  | 0, _, acc => .ok acc
  | f + 1, s, acc =>
    let r := skipS false s
    if r = [] then .ok acc
    else if acc.length = 4096 then .fail r.length 9
    else if (lexOne r).2.2 ≠ 0 then .fail (r.length - (lexOne r).2.1) (lexOne r).2.2
    else scanF f (r.drop (lexOne r).1.text.length) (acc ++ [((lexOne r).1, r.length)])
def scan (s : Bs) : Scan := if 16384 < s.length then .fail s.length 5 else scanF (s.length + 1) s []
/-- line and column of an offset -/
def place (s : Bs) (n : Nat) : Int × Int := (s.take n).foldl (fun p c => if c = 10 then (p.1 + 1, 1) else (p.1, p.2 + 1)) (1, 1)
theorem ex1 : scan [120, 32, 61, 32, 48, 120, 49, 102, 59, 32, 47, 47, 32, 101, 110, 100] = .ok [({ kind := 1, text := [120] }, 16), ({ kind := 5, text := [61] }, 14), ({ kind := 2, text := [48, 120, 49, 102], value := 31 }, 12), ({ kind := 5, text := [59] }, 8)] := by decide +kernel
theorem ex2 : scan [48, 49] = .fail 2 3 := by decide +kernel
theorem ex3 : scan [39, 97, 98, 39] = .fail 2 6 := by decide +kernel
/-- what may follow a token's text -/
def stop (r : Bs) : Prop := r = [] ∨ r.head? = some 32 ∨ r.head? = some 9 ∨ r.head? = some 10
theorem stop_cons {r : Bs} (h : stop r) : r = [] ∨ ∃ c r', r = c :: r' ∧ (c = 32 ∨ c = 9 ∨ c = 10) := by
  cases r with
  | nil => exact .inl rfl
  | cons c r' =>
    right
    refine ⟨c, r', rfl, ?_⟩
    rcases h with h | h | h | h
    · cases h
    · exact .inl (by simpa using h)
    · exact .inr (.inl (by simpa using h))
    · exact .inr (.inr (by simpa using h))
theorem word_app {s : Bs} (r : Bs) (h : stop r) : wordB (wordB s ++ r) = wordB s := by
  unfold wordB
  have h1 : ∀ x ∈ s.takeWhile (fun c => letterB c || digitB c), (letterB x || digitB x) = true := by
    induction s with
    | nil => intro x hx; cases hx
    | cons c s ih =>
      intro x hx
      rw [List.takeWhile_cons] at hx
      split at hx
      · rename_i hc
        rcases List.mem_cons.1 hx with rfl | hx
        · exact hc
        · exact ih x hx
      · cases hx
  generalize s.takeWhile (fun c => letterB c || digitB c) = w at *
  induction w with
  | nil =>
    rcases stop_cons h with rfl | ⟨c, r', rfl, hc⟩
    · rfl
    · rw [List.nil_append, List.takeWhile_cons]
      rcases hc with rfl | rfl | rfl <;> rfl
  | cons c w ih =>
    rw [List.cons_append, List.takeWhile_cons, if_pos (h1 c (by simp)), ih fun x hx => h1 x (by simp [hx])]
theorem word_prefix (s : Bs) : ∃ r, s = wordB s ++ r := ⟨s.dropWhile fun c => letterB c || digitB c, List.takeWhile_append_dropWhile.symm⟩
theorem piece_app {s : Bs} {q c : UInt8} {n : Nat} (h : piece s q = .byte c n) : 0 < n ∧ n ≤ s.length ∧ ∀ r, piece (s.take n ++ r) q = .byte c n := by
  unfold piece at h
  split at h
  · cases h
  · rename_i a s1
    split at h
    · cases h
    · rename_i h1
      split at h
      · rename_i h2
        cases h
        refine ⟨by omega, by simp, fun r => ?_⟩
        simp only [List.take_succ_cons, List.take_zero, List.cons_append, List.nil_append, piece]
        rw [if_neg h1, if_pos h2]
      · rename_i h2
        split at h
        · cases h
        · rename_i d s2
          split at h
          · rename_i h3
            split at h
            · cases h
            · rename_i h4
              cases h
              refine ⟨by omega, by simp, fun r => ?_⟩
              simp only [List.take_succ_cons, List.take_zero, List.cons_append, List.nil_append, piece]
              rw [if_neg h1, if_neg h2, if_pos h3, if_neg h4]
          · rename_i h3
            split at h
            · cases h
            · rename_i x s3
              split at h
              · cases h
              · rename_i h4
                split at h
                · cases h
                · rename_i y s4
                  split at h
                  · cases h
                  · rename_i h5
                    cases h
                    refine ⟨by omega, by simp, fun r => ?_⟩
                    simp only [List.take_succ_cons, List.take_zero, List.cons_append, List.nil_append, piece]
                    rw [if_neg h1, if_neg h2, if_neg h3, if_neg h4, if_neg h5]
theorem quot_app : ∀ (f : Nat) (r b : Bs) (k : Nat) (b' : Bs) (k' : Nat), quotR f r b k = .done b' k' → k ≤ k' ∧ k' - k < r.length ∧ ∀ f' r2, k' - k < f' → quotR f' (r.take (k' - k + 1) ++ r2) b k = .done b' k'
  | 0, r, b, k, b', k', h => by simp [quotR] at h
  | f + 1, [], b, k, b', k', h => by simp [quotR] at h
  | f + 1, c :: r, b, k, b', k', h => by
    rw [quotR] at h
    split at h
    · rename_i hc
      cases h
      refine ⟨Nat.le_refl _, by simp, fun f' r2 hf => ?_⟩
      obtain ⟨g, rfl⟩ : ∃ g, f' = g + 1 := ⟨f' - 1, by omega⟩
      rw [Nat.sub_self]
      show quotR (g + 1) (c :: r2) b k = _
      rw [quotR, if_pos hc]
    · rename_i hc
      split at h
      · cases h
      · cases h
      · rename_i x n hp
        obtain ⟨p1, p2, p3⟩ := piece_app hp
        obtain ⟨i1, i2, i3⟩ := quot_app f _ _ _ _ _ h
        rw [List.length_drop] at i2
        refine ⟨by omega, by omega, fun f' r2 hf => ?_⟩
        obtain ⟨g, rfl⟩ : ∃ g, f' = g + 1 := ⟨f' - 1, by omega⟩
        have e : (c :: r).take (k' - k + 1) ++ r2 = c :: (r.take (k' - k) ++ r2) := rfl
        have e2 : c :: (r.take (k' - k) ++ r2) = (c :: r).take n ++ (((c :: r).drop n).take (k' - (k + n) + 1) ++ r2) := by
          rw [← e, ← List.append_assoc]
          congr 1
          rw [show k' - k + 1 = n + (k' - (k + n) + 1) by omega, List.take_add]
        have hp2 : piece (c :: (r.take (k' - k) ++ r2)) 34 = .byte x n := by rw [e2]; exact p3 _
        rw [e, quotR, if_neg hc, hp2]
        simp only
        have e3 : (c :: (r.take (k' - k) ++ r2)).drop n = ((c :: r).drop n).take (k' - (k + n) + 1) ++ r2 := by
          rw [e2, List.drop_append_of_le_length (by rw [List.length_take]; omega), List.drop_eq_nil_of_le (by rw [List.length_take]; omega), List.nil_append]
        rw [e3]
        exact i3 g r2 (by omega)
theorem quot_fail : ∀ (f : Nat) (r b : Bs) (k j : Nat) (e : Int), quotR f r b k = .fail j e → e = 4 ∨ e = 6
  | 0, _, _, _, _, _, h => by simp [quotR] at h; omega
  | _ + 1, [], _, _, _, _, h => by simp [quotR] at h; omega
  | f + 1, c :: r, b, k, j, e, h => by
    rw [quotR] at h
    split at h
    · cases h
    · split at h
      · cases h; exact .inl rfl
      · cases h; exact .inr rfl
      · exact quot_fail f _ _ _ _ _ h
theorem sym_no_blank : ∀ w ∈ symbols, ∀ x ∈ w, x ≠ 32 ∧ x ≠ 9 ∧ x ≠ 10 := by decide
/-- a token hangs on its text alone, if a blank follows or nothing -/
theorem lex_local {s : Bs} {t : Tok} {k : Nat} (hs : s ≠ []) (h : lexOne s = (t, k, 0)) : t.text ≠ [] ∧ (∃ r, s = t.text ++ r) ∧ ∀ r, stop r → lexOne (t.text ++ r) = (t, k, 0) := by
  obtain ⟨c, s', rfl⟩ : ∃ c s', s = c :: s' := by
    cases s with
    | nil => exact absurd rfl hs
    | cons c s' => exact ⟨c, s', rfl⟩
  have hw : letterB c = true ∨ digitB c = true → ∃ w, wordB (c :: s') = c :: w := by
    intro hc
    refine ⟨wordB s', ?_⟩
    unfold wordB
    rw [List.takeWhile_cons, if_pos (by rcases hc with h | h <;> simp [h])]
  have hwa : ∀ r, stop r → wordB (wordB (c :: s') ++ r) = wordB (c :: s') := fun r hr => word_app r hr
  obtain ⟨rest, hrest⟩ := word_prefix (c :: s')
  unfold lexOne at h
  simp only at h
  split at h
  · rename_i h1
    obtain ⟨w, ew⟩ := hw (.inl h1)
    have key : t.text = wordB (c :: s') := by
      unfold names at h
      simp only at h
      split at h
      · cases h
      · split at h <;> cases h <;> rfl
    refine ⟨by rw [key, ew]; simp, ⟨rest, by rw [key]; exact hrest⟩, fun r hr => ?_⟩
    have e2 := hwa r hr
    have e3 : wordB (c :: (w ++ r)) = wordB (c :: s') := by rw [ew] at e2 ⊢; exact e2
    rw [key, ew]
    unfold lexOne
    simp only [List.cons_append]
    rw [if_pos h1]
    unfold names at h ⊢
    rw [e3]
    exact h
  · rename_i h1
    split at h
    · rename_i h2
      obtain ⟨w, ew⟩ := hw (.inr h2)
      have key : t.text = wordB (c :: s') := by
        unfold numbers at h
        exact (congrArg (fun a : Ans => a.1.text) h).symm
      refine ⟨by rw [key, ew]; simp, ⟨rest, by rw [key]; exact hrest⟩, fun r hr => ?_⟩
      have e2 := hwa r hr
      have e3 : wordB (c :: (w ++ r)) = wordB (c :: s') := by rw [ew] at e2 ⊢; exact e2
      rw [key, ew]
      unfold lexOne
      simp only [List.cons_append]
      rw [if_neg h1, if_pos h2]
      unfold numbers at h ⊢
      rw [e3]
      exact h
    · rename_i h2
      split at h
      · rename_i h3
        unfold chars at h
        split at h
        · cases h
        · cases h
        · rename_i x n hp
          split at h
          · cases h
          · rename_i q tl hq
            split at h
            · cases h
            · rename_i h4
              have h4 : q = 39 := Decidable.not_not.1 h4
              cases h
              obtain ⟨p1, p2, p3⟩ := piece_app hp
              have et : (c :: s').take (2 + n) = c :: (s'.take n ++ [39]) := by
                have e1 : s'.drop n = 39 :: tl := by
                  have := hq
                  rw [show 1 + n = n + 1 by omega, List.drop_succ_cons] at this
                  rw [this, h4]
                rw [show 2 + n = (n + 1) + 1 by omega, List.take_succ_cons, List.take_add, e1]
                rfl
              refine ⟨by show (c :: s').take (2 + n) ≠ []; rw [et]; simp, ⟨(c :: s').drop (2 + n), (List.take_append_drop _ _).symm⟩, fun r hr => ?_⟩
              show lexOne ((c :: s').take (2 + n) ++ r) = _
              rw [et]
              unfold lexOne
              simp only [List.cons_append]
              rw [if_neg h1, if_neg h2, if_pos h3]
              unfold chars
              have hp' : piece (s'.take n ++ ([39] ++ r)) 39 = .byte x n := p3 _
              have hlen : (s'.take n).length = n := by
                rw [List.length_take]
                have : n ≤ s'.length := by simpa using p2
                omega
              simp only [List.drop_succ_cons, List.drop_zero, List.append_assoc]
              rw [hp']
              simp only
              have ed : (c :: (s'.take n ++ ([39] ++ r))).drop (1 + n) = 39 :: r := by
                rw [show 1 + n = n + 1 by omega, List.drop_succ_cons, List.drop_append_of_le_length (by omega), List.drop_eq_nil_of_le (by omega)]
                rfl
              rw [ed]
              simp only [ne_eq, not_true_eq_false, if_false]
              have et2 : (c :: (s'.take n ++ ([39] ++ r))).take (2 + n) = c :: (s'.take n ++ [39]) := by
                rw [show 2 + n = (n + 1) + 1 by omega, List.take_succ_cons, ← List.append_assoc, List.take_append_of_le_length (by simp [hlen]), List.take_of_length_le (by simp [hlen])]
              rw [et2]
      · rename_i h3
        split at h
        · rename_i h4
          unfold quoted at h
          split at h
          · rename_i k e hq
            have he := quot_fail _ _ _ _ _ _ hq
            have : e = 0 := congrArg (fun a : Ans => a.2.2) h
            omega
          · rename_i b k hq
            split at h
            · cases h
            · rename_i h5
              cases h
              simp only [List.drop_succ_cons, List.drop_zero] at hq
              obtain ⟨q1, q2, q3⟩ := quot_app _ _ _ _ _ _ hq
              have ek : k - 1 + 1 = k := by omega
              refine ⟨by show (c :: s').take (k + 1) ≠ []; simp, ⟨(c :: s').drop (k + 1), (List.take_append_drop _ _).symm⟩, fun r hr => ?_⟩
              show lexOne ((c :: s').take (k + 1) ++ r) = _
              rw [List.take_succ_cons]
              unfold lexOne
              simp only [List.cons_append]
              rw [if_neg h1, if_neg h2, if_neg h3, if_pos h4]
              unfold quoted
              simp only [List.drop_succ_cons, List.drop_zero]
              have hlen : (s'.take k).length = k := by rw [List.length_take]; omega
              have := q3 (c :: (s'.take k ++ r)).length r (by rw [List.length_cons, List.length_append, hlen]; omega)
              rw [ek] at this
              rw [this]
              simp only
              rw [if_neg h5, List.take_succ_cons, List.take_append_of_le_length (by omega), List.take_of_length_le (by omega)]
        · rename_i h4
          unfold marks at h
          split at h
          · rename_i h5
            cases h
            refine ⟨?_, ⟨(c :: s').drop 2, (List.take_append_drop _ _).symm⟩, fun r hr => ?_⟩
            · show (c :: s').take 2 ≠ []
              simp
            · obtain ⟨h5a, h5b⟩ := h5
              obtain ⟨d, s2, rfl⟩ : ∃ d s2, s' = d :: s2 := by
                cases s' with
                | nil => simp at h5a
                | cons d s2 => exact ⟨d, s2, rfl⟩
              show lexOne (c :: d :: r) = _
              unfold lexOne
              simp only
              rw [if_neg h1, if_neg h2, if_neg h3, if_neg h4]
              unfold marks
              rw [if_pos ⟨by simp, h5b⟩]
              rfl
          · rename_i h5
            split at h
            · rename_i h6
              cases h
              refine ⟨by show [c] ≠ []; simp, ⟨s', rfl⟩, fun r hr => ?_⟩
              show lexOne (c :: r) = _
              unfold lexOne
              simp only
              rw [if_neg h1, if_neg h2, if_neg h3, if_neg h4]
              unfold marks
              rw [if_neg, if_pos (show (c :: r).take 1 ∈ symbols from h6)]
              · rfl
              · rintro ⟨k1, k2⟩
                rcases stop_cons hr with rfl | ⟨x, r', rfl, hx⟩
                · simp at k1
                · have := sym_no_blank _ k2 x (by simp)
                  rcases hx with rfl | rfl | rfl
                  · exact this.1 rfl
                  · exact this.2.1 rfl
                  · exact this.2.2 rfl
            · cases h
end Go.Pw.L21
