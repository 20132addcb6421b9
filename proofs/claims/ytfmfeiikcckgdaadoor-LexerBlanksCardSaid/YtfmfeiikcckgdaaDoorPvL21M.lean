/- The lexer: what the laws use of tokens. Plain: no program in sight. -/
import Derived.Test.YtfmfeiikcckgdaaDoorPvL21S
import Derived.Test.YtfmfeiikcckgdaaDoorPvL21Q
import Derived.Lib.Join
set_option linter.unusedSimpArgs false
set_option linter.unusedVariables false
set_option linter.unusedSectionVars false
namespace Go.Pw.L21
theorem hexV_bd (c : UInt8) : hexV c ≤ 15 := by
  unfold hexV digitB
  split
  · rename_i h
    simp only [Bool.and_eq_true, decide_eq_true_eq, UInt8.le_iff_toNat_le, UInt8.reduceToNat] at h
    omega
  · split
    · rename_i h
      simp only [Bool.and_eq_true, decide_eq_true_eq, UInt8.le_iff_toNat_le, UInt8.reduceToNat] at h
      omega
    · omega
theorem hexL_bd : ∀ (s : Bs) (n m : Int) (k : Nat), 0 ≤ n → n < 16 ^ k → hexL s n = some m → 0 ≤ m ∧ m < 16 ^ (k + s.length)
  | [], n, m, k, h0, h1, h => by cases h; exact ⟨h0, h1⟩
  | c :: s, n, m, k, h0, h1, h => by
    rw [hexL] at h
    split at h
    · cases h
    · rename_i hc
      have h15 := hexV_bd c
      have e : (16 : Int) ^ (k + 1) = 16 ^ k * 16 := Int.pow_succ ..
      have := hexL_bd s (n * 16 + hexV c) m (k + 1) (by omega) (by omega) h
      rw [show k + 1 + s.length = k + (c :: s).length by simp only [List.length_cons]; omega] at this
      exact this
theorem decL_bd : ∀ (s : Bs) (n m : Int), 0 ≤ n → n ≤ 4294967296 → decL s n = some m → 0 ≤ m ∧ m ≤ 4294967296
  | [], n, m, h0, h1, h => by cases h; exact ⟨h0, h1⟩
  | c :: s, n, m, h0, h1, h => by
    rw [decL] at h
    split at h
    · rename_i hc
      unfold digitB at hc
      simp only [Bool.and_eq_true, decide_eq_true_eq, UInt8.le_iff_toNat_le, UInt8.reduceToNat] at hc
      exact decL_bd s _ m (by omega) (by omega) h
    · cases h
theorem value_bd (w : Bs) : 0 ≤ (value w).1 ∧ (value w).1 ≤ 4294967296 := by
  unfold value
  split
  · split
    · decide
    · rename_i n hn
      split
      · decide
      · rename_i hl
        have h := hexL_bd _ 0 n 0 (by omega) (by decide) hn
        have hp : (16 : Int) ^ (0 + (w.drop 2).length) ≤ 16 ^ 8 := by exact_mod_cast Nat.pow_le_pow_right (n := 16) (by omega) (show 0 + (w.drop 2).length ≤ 8 by omega)
        have e8 : (16 : Int) ^ 8 = 4294967296 := by decide
        show 0 ≤ n ∧ n ≤ 4294967296
        omega
  · split
    · decide
    · rename_i n hn
      have h := decL_bd _ _ _ (by omega) (by omega) hn
      split
      · decide
      · split
        · decide
        · exact h
theorem lk_ok {t : Tok} (k : Int) (h : t.kind = k) (hv : t.value = 0) (h0 : k ≠ 0) (h1 : k ≠ 1) : t.kind ≠ 0 ∧ 0 ≤ t.value ∧ t.value ≤ 4294967296 ∧ (t.kind = 1 → t = { kind := 1, text := t.text }) := by
  subst h
  exact ⟨h0, by omega, by omega, fun e => absurd e h1⟩
/-- what a token is like -/
theorem lex_kind (s : Bs) : let t := (lexOne s).1; (t = {} ∧ (s = [] ∨ (lexOne s).2.2 ≠ 0)) ∨ (t.kind ≠ 0 ∧ 0 ≤ t.value ∧ t.value ≤ 4294967296 ∧ (t.kind = 1 → t = { kind := 1, text := t.text })) := by
  intro t
  have e : t = (lexOne s).1 := rfl
  revert e
  generalize t = u
  intro e
  rw [e]
  unfold lexOne
  split
  · exact .inl ⟨rfl, .inl rfl⟩
  · rename_i c r
    split
    · unfold names
      simp only
      split
      · exact .inl ⟨rfl, .inr (by simp)⟩
      · split
        · exact .inr (lk_ok 4 rfl rfl (by decide) (by decide))
        · exact .inr ⟨show (1 : Int) ≠ 0 by decide, show (0 : Int) ≤ 0 by decide, show (0 : Int) ≤ 4294967296 by decide, fun _ => rfl⟩
    · split
      · have := value_bd (wordB (c :: r))
        exact .inr ⟨by show (2 : Int) ≠ 0; decide, this.1, this.2, fun h => absurd (show (2 : Int) = 1 from h) (by decide)⟩
      · split
        · unfold chars
          split
          · exact .inl ⟨rfl, .inr (by simp)⟩
          · exact .inl ⟨rfl, .inr (by simp)⟩
          · rename_i x n hp
            split
            · exact .inl ⟨rfl, .inr (by simp)⟩
            · split
              · exact .inl ⟨rfl, .inr (by simp)⟩
              · have := x.toNat_lt
                exact .inr ⟨by show (2 : Int) ≠ 0; decide, by show (0 : Int) ≤ (x.toNat : Int); omega, by show (x.toNat : Int) ≤ 4294967296; omega, fun h => absurd (show (2 : Int) = 1 from h) (by decide)⟩
        · split
          · unfold quoted
            split
            · rename_i k er hq
              have := quot_fail _ _ _ _ _ _ hq
              exact .inl ⟨rfl, .inr (by show er ≠ 0; omega)⟩
            · split
              · exact .inl ⟨rfl, .inr (by simp)⟩
              · exact .inr (lk_ok 3 rfl rfl (by decide) (by decide))
          · unfold marks
            repeat' split
            · exact .inr (lk_ok 5 rfl rfl (by decide) (by decide))
            · exact .inr (lk_ok 5 rfl rfl (by decide) (by decide))
            · exact .inl ⟨rfl, .inr (by simp)⟩
theorem good_kind {t : Tok} (h : Good t) : t.kind ≠ 0 ∧ 0 ≤ t.value ∧ t.value ≤ 4294967296 ∧ (t.kind = 1 → t = { kind := 1, text := t.text }) := by
  obtain ⟨hne, k, hk⟩ := h
  have h1 := hk [] stop_nil
  rw [List.append_nil] at h1
  have := lex_kind t.text
  rw [h1] at this
  rcases this with ⟨h2, h3 | h3⟩ | h2
  · exact absurd h3 hne
  · exact absurd rfl h3
  · exact h2
theorem scanF_err : ∀ (f : Nat) (s : Bs) (acc : List (Tok × Nat)) (k : Nat) (e : Int), scanF f s acc = .fail k e → e ≠ 0
  | 0, s, acc, k, e, h => by cases h
  | f + 1, s, acc, k, e, h => by
    rw [scanF] at h
    split at h
    · cases h
    · split at h
      · cases h; decide
      · split at h
        · rename_i h2
          cases h; exact h2
        · exact scanF_err f _ _ _ _ h
theorem scan_err {s : Bs} {k : Nat} {e : Int} (h : scan s = .fail k e) : e ≠ 0 := by
  unfold scan at h
  split at h
  · cases h; decide
  · exact scanF_err _ _ _ _ _ h
theorem one_ident {s : Bs} (hs : s.length ≤ 16384) {p : Tok × Nat} (h : scan s = .ok [p]) : (p.1.kind == 1 && p.1.text == s) = isIdent s := by
  have hg := good_kind ((scan_ok h).1 p (by simp))
  rw [Bool.eq_iff_iff, scan_ident hs, h]
  simp only [Bool.and_eq_true, beq_iff_eq]
  constructor
  · rintro ⟨h1, h2⟩
    refine ⟨p.2, ?_⟩
    have := hg.2.2.2 h1
    rw [h2] at this
    rw [← this]
  · rintro ⟨n, hn⟩
    cases hn
    exact ⟨rfl, rfl⟩
theorem ident_none {s : Bs} (hs : s.length ≤ 16384) (h : ¬ ∃ p, scan s = .ok [p]) : isIdent s = false := by
  rcases hb : isIdent s with _ | _
  · rfl
  · obtain ⟨n, hn⟩ := (scan_ident hs).1 hb
    exact absurd ⟨_, hn⟩ h
theorem join_eq : ∀ ts : List Tok, Lib.join (ts.map (·.text)) [32] = joinT ts
  | [] => rfl
  | [t] => by rw [List.map_cons, List.map_nil, Lib.join_one]; rfl
  | t :: u :: ts => by
    have ih := join_eq (u :: ts)
    rw [List.map_cons, Lib.join_cons] at ih ⊢
    rw [List.map_cons]
    show t.text ++ ((([32] ++ u.text) :: (ts.map (·.text)).map ([32] ++ ·)).flatten) = t.text ++ 32 :: joinT (u :: ts)
    rw [← ih]
    rfl
theorem join_len : ∀ l : List (Tok × Nat), (joinT (l.map (·.1))).length ≤ textsLen l + l.length
  | [] => Nat.le_refl _
  | [p] => by simp [joinT, textsLen]
  | p :: q :: l => by
    have ih := join_len (q :: l)
    simp only [List.map_cons, joinT, List.length_append, List.length_cons, textsLen, List.sum_cons] at ih ⊢
    omega
theorem count_len : ∀ l : List (Tok × Nat), (∀ p ∈ l, Good p.1) → l.length ≤ textsLen l
  | [], _ => Nat.le_refl _
  | p :: l, h => by
    have ih := count_len l fun q hq => h q (by simp [hq])
    have := List.length_pos_iff.2 (h p (by simp)).1
    simp only [List.length_cons, textsLen, List.map_cons, List.sum_cons] at ih ⊢
    omega
theorem joinT_snoc : ∀ (ts : List Tok) (t : Tok), joinT (ts ++ [t]) = if ts = [] then t.text else joinT ts ++ 32 :: t.text
  | [], t => rfl
  | [u], t => rfl
  | u :: v :: ts, t => by
    have ih := joinT_snoc (v :: ts) t
    rw [if_neg (by simp)] at ih ⊢
    show u.text ++ 32 :: joinT (v :: ts ++ [t]) = (u.text ++ 32 :: joinT (v :: ts)) ++ 32 :: t.text
    rw [ih]
    simp
end Go.Pw.L21
