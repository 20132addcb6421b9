/- Texts of ranges: what is printed is read as the set that it is the text of. -/
import Derived.Test.YtjbfdbbmgbekiaaGreatDoorPvZP6m
set_option linter.unusedSimpArgs false
set_option linter.unusedVariables false
set_option linter.unusedSectionVars false
namespace Go.Pw.G7
open Go.Proofs Go.Pw
theorem dig_of {k : Nat} (h : k < 10) : isDig (UInt8.ofNat (48 + k)) = true ∧ (UInt8.ofNat (48 + k)).toNat = 48 + k := by
  have e : (UInt8.ofNat (48 + k)).toNat = 48 + k := by
    rw [UInt8.toNat_ofNat']
    omega
  refine ⟨?_, e⟩
  unfold isDig
  simp only [Bool.and_eq_true, decide_eq_true_eq, UInt8.le_iff_toNat_le, e, UInt8.reduceToNat]
  omega
theorem valD_snoc (s : Bs) (b : UInt8) : valD (s ++ [b]) = valD s * 10 + ((b.toNat : Int) - 48) := by
  unfold valD
  rw [List.foldl_append]; rfl
theorem digs : ∀ (n : Nat), (Lib.decDigits n).all isDig = true ∧ valD (Lib.decDigits n) = n ∧ Lib.decDigits n ≠ [] ∧ (10 ≤ n → (Lib.decDigits n).head? ≠ some 48) ∧ (1 ≤ n → (Lib.decDigits n).head? ≠ some 48) := by
  intro n
  induction n using Nat.strongRecOn with
  | ind n ih =>
    by_cases h : n < 10
    · rw [Lib.decDigits, dif_pos h]
      obtain ⟨h1, h2⟩ := dig_of h
      refine ⟨by simp only [List.all_cons, List.all_nil, h1]; rfl, ?_, by simp, fun k => by omega, fun k => ?_⟩
      · unfold valD
        simp only [List.foldl_cons, List.foldl_nil, h2]
        omega
      · intro e
        have e : UInt8.ofNat (48 + n) = 48 := by simpa using e
        have := congrArg UInt8.toNat e
        rw [h2] at this
        change 48 + n = 48 at this
        omega
    · rw [Lib.decDigits, dif_neg h]
      obtain ⟨i1, i2, i3, i4, i5⟩ := ih (n / 10) (by omega)
      obtain ⟨h1, h2⟩ := dig_of (k := n % 10) (by omega)
      have hh : (Lib.decDigits (n / 10) ++ [UInt8.ofNat (48 + n % 10)]).head? ≠ some 48 := by
        cases hd : Lib.decDigits (n / 10) with
        | nil => exact absurd hd i3
        | cons b r =>
          have := i5 (by omega)
          rw [hd] at this
          simpa using this
      refine ⟨by rw [List.all_append, i1]; simp only [List.all_cons, List.all_nil, h1]; rfl, ?_, by simp, fun _ => hh, fun _ => hh⟩
      rw [valD_snoc, i2, h2]
      omega
theorem num_itoa {n : Int} (h0 : 0 ≤ n) (h1 : n < 10000000000000) : numL (Lib.itoa n) = some n := by
  have e : Lib.itoa n = Lib.decDigits n.toNat := by unfold Lib.itoa; rw [if_neg (by omega)]
  obtain ⟨i1, i2, i3, i4, _⟩ := digs n.toNat
  have hl := digits_len 12 n.toNat (by omega)
  have hl1 : 1 ≤ (Lib.decDigits n.toNat).length := List.length_pos_iff.2 i3
  rw [e]
  unfold numL
  rw [if_neg, i2]
  · congr 1; omega
  · rintro (k | k | ⟨k1, k2⟩ | k)
    · omega
    · omega
    · refine i4 ?_ k2
      refine Nat.not_lt.1 fun hlt => ?_
      rw [Lib.decDigits, dif_pos hlt] at k1
      simp at k1
    · exact k i1
theorem itoa_dig {n : Int} (h0 : 0 ≤ n) : ∀ b ∈ Lib.itoa n, isDig b = true := by
  have e : Lib.itoa n = Lib.decDigits n.toNat := by unfold Lib.itoa; rw [if_neg (by omega)]
  rw [e]
  exact List.all_eq_true.1 (digs n.toNat).1
theorem dig_ne {b : UInt8} (h : isDig b = true) : b ≠ 43 ∧ b ≠ 32 := by
  unfold isDig at h
  simp only [Bool.and_eq_true, decide_eq_true_eq, UInt8.le_iff_toNat_le, UInt8.reduceToNat] at h
  constructor <;> rintro rfl <;> simp at h
theorem takeWhile_app {l : Bs} (r : Bs) (h : ∀ b ∈ l, b ≠ 43) : (l ++ 43 :: r).takeWhile (fun b => b != 43) = l ∧ (l ++ 43 :: r).dropWhile (fun b => b != 43) = 43 :: r := by
  induction l with
  | nil => simp [List.takeWhile_cons, List.dropWhile_cons]
  | cons b l ih =>
    obtain ⟨h1, h2⟩ := ih fun x hx => h x (by simp [hx])
    have hb : (b != 43) = true := by simpa using h b (by simp)
    rw [List.cons_append, List.takeWhile_cons, List.dropWhile_cons, if_pos hb, if_pos hb, h1, h2]
    exact ⟨rfl, rfl⟩
theorem word_parts {g : G} (h0 : 0 ≤ g.1) : leftL (wordL g) = Lib.itoa g.1 ∧ rightL (wordL g) = Lib.itoa (g.2 - g.1) := by
  obtain ⟨h1, h2⟩ := takeWhile_app (l := Lib.itoa g.1) (Lib.itoa (g.2 - g.1)) fun b hb => (dig_ne (itoa_dig h0 b hb)).1
  refine ⟨h1, ?_⟩
  unfold rightL wordL
  rw [h2]; rfl
theorem item_word {g : G} {after : Int} (h0 : 0 ≤ g.1) (h1 : g.1 < g.2) (h2 : g.2 ≤ 1099511627776) (h3 : after < g.1) : itemL (wordL g) after = (g, 0) := by
  obtain ⟨e1, e2⟩ := word_parts h0
  unfold itemL
  rw [e1, e2, num_itoa h0 (by omega), num_itoa (by omega) (by omega)]
  simp only
  rw [if_neg (by omega), if_neg (by omega), show g.1 + (g.2 - g.1) = g.2 by omega]
theorem word_blank {g : G} (h0 : 0 ≤ g.1) (h1 : g.1 ≤ g.2) : ∀ b ∈ wordL g, b ≠ 32 := by
  intro b hb
  unfold wordL at hb
  rcases List.mem_append.1 hb with k | k
  · exact (dig_ne (itoa_dig h0 b k)).2
  · rcases List.mem_cons.1 k with rfl | k
    · decide
    · exact (dig_ne (itoa_dig (by omega) b k)).2
theorem split_join : ∀ (ws : List Bs), ws ≠ [] → (∀ w ∈ ws, ∀ b ∈ w, b ≠ 32) → splitC (Lib.join ws [32]) = ws
  | [], h, _ => absurd rfl h
  | [v], _, h => by rw [Lib.join_one]; exact splitC_none (h v (by simp))
  | v :: u :: ws, _, h => by
    rw [join_cons, splitC_app _ (h v (by simp)), split_join (u :: ws) (by simp) fun w hw => h w (by simp [hw])]
theorem parse_words : ∀ (l acc : List G) (after at_ : Int), Canon l → (∀ g ∈ l, 0 ≤ g.1 ∧ g.2 ≤ 1099511627776 ∧ after < g.1) → acc.length + l.length ≤ 1024 → parseW (l.map wordL) acc after at_ = (acc ++ l, 0, 0)
  | [], acc, after, at_, _, _, _ => by simp [parseW]
  | g :: l, acc, after, at_, hc, h, hl => by
    have hg := h g (by simp)
    have hlt := hc.2 g (by simp)
    have e := item_word hg.1 hlt hg.2.1 hg.2.2
    rw [List.map_cons, parseW, e]
    simp only [List.length_cons] at hl
    rw [if_neg (by omega), if_neg (by simp)]
    rw [parse_words l (acc ++ [g]) g.2 _ hc.tail (fun r hr => ?_) (by simp only [List.length_append, List.length_singleton]; omega)]
    · simp
    · have h1 := h r (by simp [hr])
      exact ⟨h1.1, h1.2.1, (List.pairwise_cons.1 hc.1).1 r hr⟩
theorem parse_text {c : List G} (hc : Canon c) (hk : okL c) (hl : c.length ≤ 1024) : parseL (textL c) = (c, 0, 0) := by
  unfold parseL
  cases c with
  | nil => rw [if_pos (show textL [] = [] from rfl)]
  | cons g l =>
    have hne : ¬ textL (g :: l) = [] := by
      intro h
      have h1 : textL (g :: l) = Lib.join ((g :: l).map wordL) [32] := rfl
      rw [h1] at h
      have := congrArg splitC h
      rw [split_join _ (by simp) fun w hw => ?_] at this
      · have h2 : wordL g = [] := by
          rw [List.map_cons] at this
          exact (List.cons.inj this).1
        unfold wordL at h2
        simp at h2
      · obtain ⟨r, hr, rfl⟩ := List.mem_map.1 hw
        exact word_blank (hk.2 r hr).1 (Int.le_of_lt (hc.2 r hr))
    rw [if_neg hne]
    unfold textL
    rw [split_join _ (by simp) fun w hw => ?_]
    · rw [parse_words _ _ _ _ hc (fun r hr => ⟨(hk.2 r hr).1, (hk.2 r hr).2.2.2, by have := (hk.2 r hr).1; omega⟩) (by simpa using hl)]
      rfl
    · obtain ⟨r, hr, rfl⟩ := List.mem_map.1 hw
      exact word_blank (hk.2 r hr).1 (Int.le_of_lt (hc.2 r hr))
end Go.Pw.G7
