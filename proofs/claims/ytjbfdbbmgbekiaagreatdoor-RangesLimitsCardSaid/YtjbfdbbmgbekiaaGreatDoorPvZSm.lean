/- Ranges: the law of combining two sets: the cuts in order, and which of the ranges between them are taken. -/
import Derived.Test.YtjbfdbbmgbekiaaGreatDoorPvZHm
import Derived.Lib.SlicesCompact
set_option linter.unusedSimpArgs false
set_option linter.unusedVariables false
set_option linter.unusedSectionVars false
namespace Go.Pw.G7
open Go.Proofs Go.Pw
abbrev Ord (l : List Int) : Prop := l.Pairwise (· < ·)
def insI (n : Int) (l : List Int) : List Int :=
  if (l.dropWhile fun x => decide (x < n)).head? = some n then l else (l.takeWhile fun x => decide (x < n)) ++ n :: l.dropWhile fun x => decide (x < n)
theorem insI_spec {n : Int} {l : List Int} (h : Ord l) : Ord (insI n l) ∧ ∀ x, x ∈ insI n l ↔ x = n ∨ x ∈ l := by
  have hp : (l.takeWhile fun x => decide (x < n)) ++ (l.dropWhile fun x => decide (x < n)) = l := List.takeWhile_append_dropWhile
  have ht : ∀ x ∈ l.takeWhile (fun x => decide (x < n)), x < n := fun x hx => by simpa using takeWhile_true hx
  have hd : ∀ y q, l.dropWhile (fun x => decide (x < n)) = y :: q → n ≤ y := by
    intro y q hq
    have := List.head_dropWhile_not (p := fun x : Int => decide (x < n)) (l := l) (by rw [hq]; simp)
    simp only [hq, List.head_cons] at this
    simpa using this
  unfold insI
  generalize l.takeWhile (fun x => decide (x < n)) = t at *
  generalize l.dropWhile (fun x => decide (x < n)) = d at *
  have h' := h
  rw [← hp] at h'
  obtain ⟨h1, h2, h3⟩ := List.pairwise_append.1 h'
  split
  · rename_i he
    refine ⟨h, fun x => ⟨.inr, ?_⟩⟩
    rintro (rfl | k)
    · rw [← hp]
      exact List.mem_append_right _ (List.mem_of_mem_head? he)
    · exact k
  · rename_i hne
    have hlt : ∀ y ∈ d, n < y := by
      intro y hy
      cases d with
      | nil => cases hy
      | cons z q =>
        have hz := hd z q rfl
        have hzn : z ≠ n := fun e => hne (by rw [e]; rfl)
        rcases List.mem_cons.1 hy with rfl | hy
        · omega
        · have := (List.pairwise_cons.1 h2).1 y hy; omega
    refine ⟨List.pairwise_append.2 ⟨h1, List.pairwise_cons.2 ⟨hlt, h2⟩, fun a ha b hb => ?_⟩, fun x => ?_⟩
    · have := ht a ha
      rcases List.mem_cons.1 hb with rfl | hb
      · exact this
      · have := hlt b hb; omega
    · rw [← hp]
      simp only [List.mem_append, List.mem_cons]
      constructor
      · rintro (k | k | k)
        · exact .inr (.inl k)
        · exact .inl k
        · exact .inr (.inr k)
      · rintro (k | k | k)
        · exact .inr (.inl k)
        · exact .inl k
        · exact .inr (.inr k)
theorem insI_len (n : Int) (l : List Int) : (insI n l).length ≤ l.length + 1 := by
  unfold insI
  split
  · omega
  · have hp := congrArg List.length (List.takeWhile_append_dropWhile (p := fun x => decide (x < n)) (l := l))
    rw [List.length_append] at hp
    simp only [List.length_append, List.length_cons]
    omega
theorem insI_fold : ∀ (l s : List Int), Ord s → Ord (l.foldl (fun s n => insI n s) s) ∧ (∀ x, x ∈ l.foldl (fun s n => insI n s) s ↔ x ∈ s ∨ x ∈ l) ∧ (l.foldl (fun s n => insI n s) s).length ≤ s.length + l.length
  | [], s, h => ⟨h, by simp, by simp⟩
  | n :: l, s, h => by
    obtain ⟨h1, h2⟩ := insI_spec (n := n) h
    obtain ⟨k1, k2, k3⟩ := insI_fold l _ h1
    have := insI_len n s
    refine ⟨k1, fun x => ?_, by simp only [List.foldl_cons, List.length_cons]; omega⟩
    rw [List.foldl_cons, k2 x, h2 x, List.mem_cons, or_assoc, or_left_comm]
/-- the ends of ranges -/
def endsL : List G → List Int
  | [] => []
  | r :: l => r.1 :: r.2 :: endsL l
theorem endsL_append (a b : List G) : endsL (a ++ b) = endsL a ++ endsL b := by
  induction a with
  | nil => rfl
  | cons r a ih => simp [endsL, ih]
theorem endsL_len (a : List G) : (endsL a).length = 2 * a.length := by
  induction a with
  | nil => rfl
  | cons r a ih => simp [endsL, ih]; omega
theorem endsL_mem {a : List G} {r : G} (h : r ∈ a) : r.1 ∈ endsL a ∧ r.2 ∈ endsL a := by
  induction a with
  | nil => cases h
  | cons s a ih =>
    rcases List.mem_cons.1 h with rfl | h
    · simp [endsL]
    · simp [endsL, ih h]
def cutF (s : List Int) (l : List Int) : List Int := l.foldl (fun s n => insI n s) s
theorem cutF_append (s a b : List Int) : cutF s (a ++ b) = cutF (cutF s a) b := List.foldl_append
def cutsL (a b : List G) : List Int := cutF [] (endsL a ++ endsL b)
theorem cutsL_spec (a b : List G) : Ord (cutsL a b) ∧ (∀ x, x ∈ cutsL a b ↔ x ∈ endsL a ++ endsL b) ∧ (cutsL a b).length ≤ 2 * (a.length + b.length) := by
  obtain ⟨h1, h2, h3⟩ := insI_fold (endsL a ++ endsL b) [] .nil
  refine ⟨h1, fun x => by unfold cutsL cutF; rw [h2 x]; simp, ?_⟩
  have := endsL_len a
  have := endsL_len b
  simp only [List.length_append, List.length_nil] at h3
  unfold cutsL cutF
  omega
theorem ord_ext : ∀ {a b : List Int}, Ord a → Ord b → (∀ x, x ∈ a ↔ x ∈ b) → a = b
  | [], [], _, _, _ => rfl
  | [], y :: b, _, _, h => absurd ((h y).2 (by simp)) (by simp)
  | x :: a, [], _, _, h => absurd ((h x).1 (by simp)) (by simp)
  | x :: a, y :: b, ha, hb, h => by
    obtain ⟨a1, a2⟩ := List.pairwise_cons.1 ha
    obtain ⟨b1, b2⟩ := List.pairwise_cons.1 hb
    have e : x = y := by
      rcases List.mem_cons.1 ((h x).1 (by simp)) with k | k
      · exact k
      · rcases List.mem_cons.1 ((h y).2 (by simp)) with q | q
        · exact q.symm
        · have := a1 y q; have := b1 x k; omega
    subst e
    rw [ord_ext a2 b2 fun z => ?_]
    constructor
    · intro hz
      have := a1 z hz
      rcases List.mem_cons.1 ((h z).1 (by simp [hz])) with k | k
      · omega
      · exact k
    · intro hz
      have := b1 z hz
      rcases List.mem_cons.1 ((h z).2 (by simp [hz])) with k | k
      · omega
      · exact k
/-- what the library's Compact leaves of numbers in order -/
theorem compact_ord {l : List Int} (h : l.Pairwise (· ≤ ·)) : Ord (Lib.compact l) ∧ ∀ x, x ∈ Lib.compact l ↔ x ∈ l := by
  have hk : ∀ j, Lib.keeps l.toArray j = true ↔ (j = 0 ∨ l.toArray[j]! ≠ l.toArray[j - 1]!) := by
    intro j
    unfold Lib.keeps
    simp
  have gen : ∀ m, m ≤ l.length → Ord (Lib.compactUpTo l.toArray m) ∧ (∀ x, x ∈ Lib.compactUpTo l.toArray m ↔ x ∈ l.take m) := by
    intro m
    induction m with
    | zero => intro _; exact ⟨.nil, by simp [Lib.compactUpTo]⟩
    | succ m ih =>
      intro hm
      obtain ⟨i1, i2⟩ := ih (by omega)
      have hml : m < l.length := by omega
      have eg : l.toArray[m]! = l[m] := by simp [hml]
      rw [Lib.compactUpTo_succ, List.take_succ_eq_append_getElem hml, eg]
      by_cases hd : Lib.keeps l.toArray m = true
      · rw [if_pos hd]
        refine ⟨List.pairwise_append.2 ⟨i1, by simp, fun a ha b hb => ?_⟩, fun x => by simp only [List.mem_append, i2 x]⟩
        simp at hb
        subst hb
        obtain ⟨j, hj, rfl⟩ := List.mem_take_iff_getElem.1 ((i2 a).1 ha)
        have hj : j < m := by omega
        have e2 : l.toArray[m - 1]! = l[m - 1] := by simp [show m - 1 < l.length by omega]
        have hne : l[m] ≠ l[m - 1] := by
          rcases (hk m).1 hd with k | k
          · omega
          · rw [eg, e2] at k; exact k
        have h1 : l[m - 1] ≤ l[m] := List.pairwise_iff_getElem.1 h (m - 1) m (by omega) hml (by omega)
        have h2 : l[j] ≤ l[m - 1] := by
          rcases Nat.lt_or_ge j (m - 1) with k | k
          · exact List.pairwise_iff_getElem.1 h j (m - 1) (by omega) (by omega) k
          · have : j = m - 1 := by omega
            subst this; exact Int.le_refl _
        omega
      · rw [if_neg hd, List.append_nil]
        refine ⟨i1, fun x => ?_⟩
        rw [i2 x, List.mem_append]
        have hm0 : m ≠ 0 := fun e => hd ((hk m).2 (.inl e))
        have e2 : l.toArray[m - 1]! = l[m - 1] := by simp [show m - 1 < l.length by omega]
        have he : l[m] = l[m - 1] := by
          have := fun q => hd ((hk m).2 (.inr q))
          rw [eg, e2] at this
          exact Decidable.not_not.1 this
        constructor
        · exact .inl
        · rintro (k | k)
          · exact k
          · simp at k
            rw [k, he]
            exact List.mem_take_iff_getElem.2 ⟨m - 1, by omega, rfl⟩
  obtain ⟨h1, h2⟩ := gen l.length (Nat.le_refl _)
  refine ⟨?_, fun x => ?_⟩
  · unfold Lib.compact; exact h1
  · unfold Lib.compact; rw [h2 x, List.take_length]
theorem sorted_cuts (a b : List G) : Lib.compact ((endsL a ++ endsL b).mergeSort fun x y => decide (x ≤ y)) = cutsL a b := by
  have hs : ((endsL a ++ endsL b).mergeSort fun x y => decide (x ≤ y)).Pairwise (· ≤ ·) := by
    have := List.pairwise_mergeSort (le := fun x y : Int => decide (x ≤ y)) (fun a b c h1 h2 => by simp at *; omega) (fun a b => by simp; omega) (endsL a ++ endsL b)
    exact this.imp fun {x y} h => by simpa using h
  obtain ⟨h1, h2⟩ := compact_ord hs
  refine ord_ext h1 (cutsL_spec a b).1 fun x => ?_
  rw [h2 x, (cutsL_spec a b).2.1 x, (List.mergeSort_perm _ _).mem_iff]
/-- neighbours -/
def pairsL (c : List Int) : List G := c.zip c.tail
theorem pairsL_len (c : List Int) : (pairsL c).length = c.length - 1 := by simp [pairsL]
theorem pairsL_get {c : List Int} {i : Nat} (h : i + 1 < c.length) : (pairsL c)[i]'(by rw [pairsL_len]; omega) = (c[i], c[i + 1]) := by simp [pairsL]
theorem pairsL_cons (x y : Int) (c : List Int) : pairsL (x :: y :: c) = (x, y) :: pairsL (y :: c) := rfl
theorem pairs_gap : ∀ {c : List Int} {p : G}, Ord c → p ∈ pairsL c → p.1 < p.2 ∧ p.1 ∈ c ∧ ∀ y ∈ c, y ≤ p.1 ∨ p.2 ≤ y
  | [], p, _, h => absurd h (by simp [pairsL])
  | [x], p, _, h => absurd h (by simp [pairsL])
  | x :: y :: c, p, hc, h => by
    obtain ⟨c1, c2⟩ := List.pairwise_cons.1 hc
    obtain ⟨c3, c4⟩ := List.pairwise_cons.1 c2
    rw [pairsL_cons] at h
    rcases List.mem_cons.1 h with rfl | h
    · refine ⟨c1 y (by simp), by simp, fun z hz => ?_⟩
      rcases List.mem_cons.1 hz with rfl | hz
      · left; exact Int.le_refl _
      · rcases List.mem_cons.1 hz with rfl | hz
        · right; exact Int.le_refl _
        · right; have := c3 z hz; show y ≤ z; omega
    · obtain ⟨h1, h2, h3⟩ := pairs_gap c2 h
      refine ⟨h1, List.mem_cons_of_mem _ h2, fun z hz => ?_⟩
      rcases List.mem_cons.1 hz with rfl | hz
      · left; have := c1 p.1 h2; omega
      · exact h3 z hz
theorem pairs_cover : ∀ {c : List Int} {u v x : Int}, Ord c → u ∈ c → v ∈ c → u ≤ x → x < v → ∃ p ∈ pairsL c, p.1 ≤ x ∧ x < p.2
  | [], _, _, _, _, h, _, _, _ => absurd h (by simp)
  | [y], u, v, x, _, hu, hv, h1, h2 => by simp at hu hv; omega
  | y :: z :: c, u, v, x, hc, hu, hv, h1, h2 => by
    obtain ⟨c1, c2⟩ := List.pairwise_cons.1 hc
    rw [pairsL_cons]
    by_cases hx : x < z
    · refine ⟨(y, z), by simp, ?_, hx⟩
      show y ≤ x
      rcases List.mem_cons.1 hu with rfl | hu
      · exact h1
      · have := c1 u hu; omega
    · have hv' : v ∈ z :: c := by
        rcases List.mem_cons.1 hv with rfl | hv
        · have := c1 z (by simp); omega
        · exact hv
      obtain ⟨p, hp, k⟩ := pairs_cover c2 (u := z) (by simp) hv' (by omega) h2
      exact ⟨p, List.mem_cons_of_mem _ hp, k⟩
theorem pairs_sorted : ∀ {c : List Int}, Ord c → (pairsL c).Pairwise fun a b => a.1 ≤ b.1
  | [], _ => .nil
  | [x], _ => .nil
  | x :: y :: c, hc => by
    obtain ⟨c1, c2⟩ := List.pairwise_cons.1 hc
    rw [pairsL_cons, List.pairwise_cons]
    refine ⟨fun p hp => ?_, pairs_sorted c2⟩
    have := c1 p.1 (pairs_gap c2 hp).2.1
    show x ≤ p.1
    omega
def combL (f : Bool → Bool → Bool) (a b : List G) : List G := (pairsL (cutsL a b)).filter fun p => f (hasL a p.1) (hasL b p.1)
theorem combL_len (f : Bool → Bool → Bool) (a b : List G) : (combL f a b).length ≤ 2 * (a.length + b.length) := by
  have h1 := List.length_filter_le (fun p : G => f (hasL a p.1) (hasL b p.1)) (pairsL (cutsL a b))
  rw [pairsL_len] at h1
  have h2 := (cutsL_spec a b).2.2
  unfold combL
  omega
theorem hasL_iff (l : List G) (x : Int) : hasL l x = true ↔ inS l x := by
  unfold hasL inS
  rw [List.any_eq_true]
  simp only [Bool.and_eq_true, decide_eq_true_eq]
theorem has_gap {a : List G} {c : List Int} {p : G} {x : Int} (hc : Ord c) (hp : p ∈ pairsL c) (he : ∀ y ∈ endsL a, y ∈ c) (h1 : p.1 ≤ x) (h2 : x < p.2) : hasL a x = hasL a p.1 := by
  obtain ⟨g1, g2, g3⟩ := pairs_gap hc hp
  rw [Bool.eq_iff_iff, hasL_iff, hasL_iff]
  constructor
  · rintro ⟨r, hr, k1, k2⟩
    have q1 := g3 r.1 (he _ (endsL_mem hr).1)
    exact ⟨r, hr, by omega, by omega⟩
  · rintro ⟨r, hr, k1, k2⟩
    have q2 := g3 r.2 (he _ (endsL_mem hr).2)
    exact ⟨r, hr, by omega, by omega⟩
theorem combL_in {f : Bool → Bool → Bool} (hf : f false false = false) (a b : List G) (x : Int) : inS (combL f a b) x ↔ f (hasL a x) (hasL b x) = true := by
  obtain ⟨c1, c2, _⟩ := cutsL_spec a b
  have ea : ∀ y ∈ endsL a, y ∈ cutsL a b := fun y hy => (c2 y).2 (List.mem_append_left _ hy)
  have eb : ∀ y ∈ endsL b, y ∈ cutsL a b := fun y hy => (c2 y).2 (List.mem_append_right _ hy)
  constructor
  · rintro ⟨p, hp, k1, k2⟩
    obtain ⟨p1, p2⟩ := List.mem_filter.1 hp
    rw [has_gap c1 p1 ea k1 k2, has_gap c1 p1 eb k1 k2]
    exact p2
  · intro h
    have : hasL a x = true ∨ hasL b x = true := by
      cases ha : hasL a x
      · cases hb : hasL b x
        · rw [ha, hb, hf] at h; cases h
        · exact .inr rfl
      · exact .inl rfl
    have hp : ∃ p ∈ pairsL (cutsL a b), p.1 ≤ x ∧ x < p.2 := by
      rcases this with k | k
      · obtain ⟨r, hr, q1, q2⟩ := (hasL_iff _ _).1 k
        exact pairs_cover c1 (ea _ (endsL_mem hr).1) (ea _ (endsL_mem hr).2) q1 q2
      · obtain ⟨r, hr, q1, q2⟩ := (hasL_iff _ _).1 k
        exact pairs_cover c1 (eb _ (endsL_mem hr).1) (eb _ (endsL_mem hr).2) q1 q2
    obtain ⟨p, p1, k1, k2⟩ := hp
    refine ⟨p, List.mem_filter.2 ⟨p1, ?_⟩, k1, k2⟩
    rw [← has_gap c1 p1 ea k1 k2, ← has_gap c1 p1 eb k1 k2]
    exact h
/-- the set -/
def opS (f : Bool → Bool → Bool) (a b : List G) : List G := mjoin (combL f a b)
theorem combL_sorted (f : Bool → Bool → Bool) (a b : List G) : (combL f a b).Pairwise fun a b => a.1 ≤ b.1 := (pairs_sorted (cutsL_spec a b).1).filter _
theorem opS_canon (f : Bool → Bool → Bool) (a b : List G) : Canon (opS f a b) := (mjoin_canon (combL_sorted f a b)).1
theorem opS_in {f : Bool → Bool → Bool} (hf : f false false = false) (a b : List G) (x : Int) : hasL (opS f a b) x = f (hasL a x) (hasL b x) := by
  rw [Bool.eq_iff_iff, hasL_iff]
  exact ((mjoin_canon (combL_sorted f a b)).2 x).trans (combL_in hf a b x)
theorem tidy_comb (f : Bool → Bool → Bool) (a b : List G) : tidyL (combL f a b) = opS f a b :=
  (tidyL_canon _).1.ext (opS_canon f a b) fun x => ((tidyL_canon _).2 x).trans ((mjoin_canon (combL_sorted f a b)).2 x).symm
theorem opS_len (f : Bool → Bool → Bool) (a b : List G) : (opS f a b).length ≤ 2 * (a.length + b.length) := by
  have := mjoin_len (combL f a b)
  have := combL_len f a b
  unfold opS
  omega
theorem made_comb (f : Bool → Bool → Bool) {a b : List G} (h : a.length + b.length ≤ 512) : made (combL f a b) = (opS f a b, 0) := by
  have := opS_len f a b
  unfold opS at this
  unfold made
  rw [if_neg (by omega)]
  rfl
theorem combL_lt {f : Bool → Bool → Bool} {a b : List G} {p : G} (h : p ∈ combL f a b) : p.1 < p.2 := (pairs_gap (cutsL_spec a b).1 (List.mem_filter.1 h).1).1
theorem comb_none {f : Bool → Bool → Bool} {a b : List G} : combL f a b = [] ↔ opS f a b = [] := by
  constructor
  · intro h; unfold opS; rw [h]; rfl
  · intro h
    have := (mjoin_canon (combL_sorted f a b)).2
    unfold opS at h
    rw [h] at this
    refine List.eq_nil_iff_forall_not_mem.2 fun p hp => ?_
    have h1 := combL_lt hp
    exact absurd ((this p.1).2 ⟨p, hp, by omega, h1⟩) (by simp [inS])
theorem canon_ext {a b : List G} (ha : Canon a) (hb : Canon b) (h : ∀ x, hasL a x = hasL b x) : a = b :=
  ha.ext hb fun x => by rw [← hasL_iff, ← hasL_iff, h x]
theorem has_ok {c : List G} (h : okL c) (x : Int) (hx : hasL c x = true) : 0 ≤ x ∧ x < 1099511627776 := by
  obtain ⟨r, hr, k1, k2⟩ := (hasL_iff _ _).1 hx
  have := h.2 r hr
  omega
theorem opS_ok {f : Bool → Bool → Bool} (hf : f false false = false) {a b : List G} (ha : okL a) (hb : okL b) (h : a.length + b.length ≤ 512) : okL (opS f a b) := by
  have := opS_len f a b
  refine ok_of (opS_canon f a b) (by omega) fun x hx => ?_
  have h1 := (hasL_iff _ _).2 hx
  rw [opS_in hf] at h1
  cases h2 : hasL a x
  · cases h3 : hasL b x
    · rw [h2, h3, hf] at h1; cases h1
    · exact has_ok hb x h3
  · exact has_ok ha x h2
/-- where a set is looked up while the positions grow -/
theorem has_at {a : List G} (hc : Canon a) {i : Nat} {x : Int} (h1 : ∀ r ∈ a.take i, r.2 ≤ x) (h2 : ∀ h : i < a.length, x < a[i].2) : hasL a x = if h : i < a.length then decide (a[i].1 ≤ x) else false := by
  have ht : hasL (a.take i) x = false := by
    rw [← Bool.not_eq_true, hasL_iff]
    rintro ⟨r, hr, k1, k2⟩
    have := h1 r hr
    omega
  have hs : hasL a x = (hasL (a.take i) x || hasL (a.drop i) x) := by
    unfold hasL
    rw [← List.any_append, List.take_append_drop]
  rw [hs, ht, Bool.false_or]
  split
  · rename_i h
    have hx := h2 h
    rw [List.drop_eq_getElem_cons h]
    rw [Bool.eq_iff_iff, hasL_iff, decide_eq_true_eq]
    constructor
    · rintro ⟨r, hr, k1, k2⟩
      rcases List.mem_cons.1 hr with rfl | hr
      · exact k1
      · obtain ⟨j, hj, rfl⟩ := List.mem_iff_getElem.1 hr
        have hj' : i + 1 + j < a.length := by simp at hj; omega
        have := List.pairwise_iff_getElem.1 hc.1 i (i + 1 + j) h hj' (by omega)
        simp only [List.getElem_drop] at k1
        omega
    · intro k
      exact ⟨a[i], List.mem_cons_self, k, hx⟩
  · rename_i h
    rw [List.drop_eq_nil_of_le (by omega)]
    rfl
end Go.Pw.G7
