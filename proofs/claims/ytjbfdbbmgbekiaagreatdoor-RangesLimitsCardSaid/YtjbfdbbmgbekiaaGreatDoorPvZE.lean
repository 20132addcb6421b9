/- Sets of positions as lists of ranges: a list in order without neighbours that touch is told by its elements alone. -/
import Derived.Test.YtjbfdbbmgbekiaaGreatDoorPvZK
set_option linter.unusedSimpArgs false
set_option linter.unusedVariables false
set_option linter.unusedSectionVars false
namespace Go.Pw
def inS (l : List G) (x : Int) : Prop := ∃ r ∈ l, r.1 ≤ x ∧ x < r.2
def Canon (l : List G) : Prop := l.Pairwise (fun a b => a.2 < b.1) ∧ ∀ r ∈ l, r.1 < r.2
theorem inS_nil (x : Int) : inS [] x ↔ False := by simp [inS]
theorem inS_cons (r : G) (l : List G) (x : Int) : inS (r :: l) x ↔ (r.1 ≤ x ∧ x < r.2) ∨ inS l x := by simp [inS]
theorem inS_append (a b : List G) (x : Int) : inS (a ++ b) x ↔ inS a x ∨ inS b x := by
  simp only [inS, List.mem_append]
  constructor
  · rintro ⟨r, h | h, k⟩
    · exact .inl ⟨r, h, k⟩
    · exact .inr ⟨r, h, k⟩
  · rintro (⟨r, h, k⟩ | ⟨r, h, k⟩)
    · exact ⟨r, .inl h, k⟩
    · exact ⟨r, .inr h, k⟩
theorem inS_perm {a b : List G} (h : a.Perm b) (x : Int) : inS a x ↔ inS b x := by
  unfold inS
  constructor
  · rintro ⟨r, k, q⟩; exact ⟨r, h.mem_iff.1 k, q⟩
  · rintro ⟨r, k, q⟩; exact ⟨r, h.mem_iff.2 k, q⟩
theorem Canon.tail {r : G} {l : List G} (h : Canon (r :: l)) : Canon l := ⟨(List.pairwise_cons.1 h.1).2, fun s hs => h.2 s (List.mem_cons_of_mem _ hs)⟩
theorem Canon.after {r : G} {l : List G} (h : Canon (r :: l)) {x : Int} (hx : inS l x) : r.2 < x := by
  obtain ⟨s, hs, h1, _⟩ := hx
  have := (List.pairwise_cons.1 h.1).1 s hs
  omega
theorem Canon.ext : ∀ {a b : List G}, Canon a → Canon b → (∀ x, inS a x ↔ inS b x) → a = b
  | [], [], _, _, _ => rfl
  | [], s :: b, _, hb, h => by
    have := hb.2 s (by simp)
    exact absurd ((h s.1).2 ((inS_cons _ _ _).2 (.inl ⟨by omega, by omega⟩))) (by simp [inS])
  | r :: a, [], ha, _, h => by
    have := ha.2 r (by simp)
    exact absurd ((h r.1).1 ((inS_cons _ _ _).2 (.inl ⟨by omega, by omega⟩))) (by simp [inS])
  | r :: a, s :: b, ha, hb, h => by
    have hr := ha.2 r (by simp)
    have hs := hb.2 s (by simp)
    have low : ∀ {r : G} {l : List G} {x : Int}, Canon (r :: l) → inS (r :: l) x → r.1 ≤ x := by
      intro r l x hc hx
      have := hc.2 r (by simp)
      rcases (inS_cons _ _ _).1 hx with k | k
      · exact k.1
      · have := hc.after k; omega
    have e1 : r.1 = s.1 := by
      have k1 := low hb ((h r.1).1 ((inS_cons _ _ _).2 (.inl ⟨by omega, by omega⟩)))
      have k2 := low ha ((h s.1).2 ((inS_cons _ _ _).2 (.inl ⟨by omega, by omega⟩)))
      omega
    have up : ∀ {r s : G} {a b : List G}, Canon (r :: a) → r.1 = s.1 → r.1 < r.2 → (∀ x, inS (s :: b) x → inS (r :: a) x) → s.2 ≤ r.2 := by
      intro r s a b hc e hr k
      refine Int.not_lt.1 fun hlt => ?_
      rcases (inS_cons _ _ _).1 (k r.2 ((inS_cons _ _ _).2 (.inl ⟨by omega, by omega⟩))) with q | q
      · omega
      · have := hc.after q; omega
    have e2 : r.2 = s.2 := by
      have k1 := up ha e1 hr fun x hx => (h x).2 hx
      have k2 := up hb e1.symm hs fun x hx => (h x).1 hx
      omega
    have e : r = s := Prod.ext e1 e2
    subst e
    rw [Canon.ext ha.tail hb.tail fun x => ?_]
    constructor
    · intro hx
      have := ha.after hx
      rcases (inS_cons _ _ _).1 ((h x).1 ((inS_cons _ _ _).2 (.inr hx))) with q | q
      · omega
      · exact q
    · intro hx
      have := hb.after hx
      rcases (inS_cons _ _ _).1 ((h x).2 ((inS_cons _ _ _).2 (.inr hx))) with q | q
      · omega
      · exact q
/-- one step of joining -/
theorem mstep_canon {out : List G} {r : G} (h : Canon out) (hl : ∀ g ∈ out, g.1 ≤ r.1) : Canon (mstep out r) ∧ (∀ x, inS (mstep out r) x ↔ inS out x ∨ (r.1 ≤ x ∧ x < r.2)) ∧ ∀ g ∈ mstep out r, g.1 ≤ r.1 := by
  unfold mstep
  split
  · rename_i he
    refine ⟨h, fun x => ⟨.inl, fun k => k.elim id fun q => by omega⟩, hl⟩
  · rename_i hne
    rcases List.eq_nil_or_concat out with rfl | ⟨o, g, rfl⟩
    · refine ⟨⟨by simp, by simp; omega⟩, fun x => by simp [inS], by simp⟩
    · rw [List.concat_eq_append] at h hl ⊢
      simp only [List.getLast?_append, List.getLast?_singleton, Option.some_or]
      have hg := h.2 g (by simp)
      have hgr := hl g (by simp)
      have ho : ∀ a ∈ o, a.2 < g.1 := fun a ha => (List.pairwise_append.1 h.1).2.2 a ha g (by simp)
      have hoo := (List.pairwise_append.1 h.1).1
      split
      · rename_i hle
        rw [List.dropLast_concat]
        refine ⟨⟨List.pairwise_append.2 ⟨hoo, by simp, fun a ha b hb => by simp at hb; subst hb; exact ho a ha⟩, fun s hs => ?_⟩, fun x => ?_, fun s hs => ?_⟩
        · rcases List.mem_append.1 hs with k | k
          · exact h.2 s (by simp [k])
          · simp at k; subst k; simp; omega
        · rw [inS_append, inS_append, inS_cons, inS_cons, inS_nil]
          have : (g.1 ≤ x ∧ x < max g.2 r.2) ↔ ((g.1 ≤ x ∧ x < g.2) ∨ (r.1 ≤ x ∧ x < r.2)) := by omega
          simp only [this]
          constructor
          · rintro (k | k | k)
            · exact .inl (.inl k)
            · exact k.elim (fun k => .inl (.inr (.inl k))) .inr
            · exact k.elim
          · rintro ((k | k | k) | k)
            · exact .inl k
            · exact .inr (.inl (.inl k))
            · exact k.elim
            · exact .inr (.inl (.inr k))
        · rcases List.mem_append.1 hs with k | k
          · exact hl s (by simp [k])
          · simp at k; subst k; exact hgr
      · rename_i hle
        refine ⟨⟨List.pairwise_append.2 ⟨h.1, by simp, fun a ha b hb => ?_⟩, fun s hs => ?_⟩, fun x => by rw [inS_append, inS_cons, inS_nil]; simp, fun s hs => ?_⟩
        · simp at hb; subst hb
          rcases List.mem_append.1 ha with k | k
          · have := ho a k; omega
          · simp at k; subst k; omega
        · rcases List.mem_append.1 hs with k | k
          · exact h.2 s k
          · simp at k; subst k; omega
        · rcases List.mem_append.1 hs with k | k
          · exact hl s k
          · simp at k; subst k; omega
theorem mfold_canon : ∀ {l out : List G}, Canon out → (∀ g ∈ out, ∀ r ∈ l, g.1 ≤ r.1) → l.Pairwise (fun a b => a.1 ≤ b.1) → Canon (l.foldl mstep out) ∧ ∀ x, inS (l.foldl mstep out) x ↔ inS out x ∨ inS l x
  | [], out, h, _, _ => ⟨h, fun x => by simp [inS_nil]⟩
  | r :: l, out, h, hl, hs => by
    obtain ⟨h1, h2, h3⟩ := mstep_canon h fun g hg => hl g hg r (by simp)
    obtain ⟨k1, k2⟩ := List.pairwise_cons.1 hs
    obtain ⟨q1, q2⟩ := mfold_canon h1 (fun g hg s hs' => Int.le_trans (h3 g hg) (k1 s hs')) k2
    refine ⟨q1, fun x => ?_⟩
    rw [List.foldl_cons, q2 x, h2 x, inS_cons, or_assoc]
theorem mjoin_canon {l : List G} (hs : l.Pairwise (fun a b => a.1 ≤ b.1)) : Canon (mjoin l) ∧ ∀ x, inS (mjoin l) x ↔ inS l x := by
  obtain ⟨h1, h2⟩ := mfold_canon (l := l) (out := []) ⟨.nil, by simp⟩ (by simp) hs
  exact ⟨h1, fun x => by rw [mjoin, h2 x, inS_nil, false_or]⟩
/-- the reference's sort: by the first position alone -/
def insF (r : G) (s : List G) : List G := s.takeWhile (fun g => decide (g.1 < r.1)) ++ r :: s.dropWhile fun g => decide (g.1 < r.1)
def sortF (l : List G) : List G := l.foldl (fun s r => if r.1 = r.2 then s else insF r s) []
def tidyL (l : List G) : List G := mjoin (sortF l)
theorem takeWhile_true {α : Type} {p : α → Bool} : ∀ {l : List α} {x : α}, x ∈ l.takeWhile p → p x = true
  | [], _, h => by cases h
  | y :: l, x, h => by
    rw [List.takeWhile_cons] at h
    split at h
    · rename_i hy
      rcases List.mem_cons.1 h with rfl | h
      · exact hy
      · exact takeWhile_true h
    · cases h
theorem insF_sorted {r : G} {s : List G} (h : s.Pairwise fun a b => a.1 ≤ b.1) : (insF r s).Pairwise fun a b => a.1 ≤ b.1 := by
  have hp : (s.takeWhile fun g => decide (g.1 < r.1)) ++ (s.dropWhile fun g => decide (g.1 < r.1)) = s := List.takeWhile_append_dropWhile
  have h' := h
  rw [← hp] at h'
  obtain ⟨h1, h2, h3⟩ := List.pairwise_append.1 h'
  have hd : ∀ b ∈ s.dropWhile (fun g => decide (g.1 < r.1)), r.1 ≤ b.1 := by
    intro b hb
    cases hq : s.dropWhile (fun g => decide (g.1 < r.1)) with
    | nil => rw [hq] at hb; cases hb
    | cons c q =>
      have hc : ¬ c.1 < r.1 := by
        have := List.head_dropWhile_not (p := fun g : G => decide (g.1 < r.1)) (l := s) (by rw [hq]; simp)
        simp only [hq, List.head_cons] at this
        simpa using this
      rw [hq] at hb h2
      rcases List.mem_cons.1 hb with rfl | hb
      · omega
      · have := (List.pairwise_cons.1 h2).1 b hb; omega
  unfold insF
  refine List.pairwise_append.2 ⟨h1, List.pairwise_cons.2 ⟨hd, h2⟩, fun a ha b hb => ?_⟩
  have h4 : a.1 < r.1 := by simpa using takeWhile_true ha
  rcases List.mem_cons.1 hb with rfl | hb
  · omega
  · have := hd b hb; omega
theorem insF_perm (r : G) (s : List G) : (insF r s).Perm (r :: s) := by
  unfold insF
  refine List.perm_middle.trans ?_
  rw [List.takeWhile_append_dropWhile]
theorem sortF_spec : ∀ (l s : List G), s.Pairwise (fun a b => a.1 ≤ b.1) → (l.foldl (fun s r => if r.1 = r.2 then s else insF r s) s).Pairwise (fun a b => a.1 ≤ b.1) ∧ ∀ x, inS (l.foldl (fun s r => if r.1 = r.2 then s else insF r s) s) x ↔ inS s x ∨ inS l x
  | [], s, h => ⟨h, fun x => by simp [inS_nil]⟩
  | r :: l, s, h => by
    rw [List.foldl_cons]
    split
    · rename_i he
      obtain ⟨h1, h2⟩ := sortF_spec l s h
      refine ⟨h1, fun x => ?_⟩
      rw [h2 x, inS_cons]
      have : ¬ (r.1 ≤ x ∧ x < r.2) := by omega
      simp [this]
    · obtain ⟨h1, h2⟩ := sortF_spec l (insF r s) (insF_sorted h)
      refine ⟨h1, fun x => ?_⟩
      rw [h2 x, inS_perm (insF_perm r s), inS_cons, inS_cons, or_comm (a := r.1 ≤ x ∧ x < r.2), or_assoc]
theorem tidyL_canon (l : List G) : Canon (tidyL l) ∧ ∀ x, inS (tidyL l) x ↔ inS l x := by
  obtain ⟨h1, h2⟩ := sortF_spec l [] .nil
  obtain ⟨h3, h4⟩ := mjoin_canon h1
  exact ⟨h3, fun x => (h4 x).trans (by simpa [inS_nil] using h2 x)⟩
theorem insS_first (l : List G) : (insS l).Pairwise fun a b => a.1 ≤ b.1 := (insS_sorted l).imp fun {a b} h => by rw [leR_iff] at h; omega
theorem ofL_canon (l : List G) : Canon (mjoin (insS l)) ∧ ∀ x, inS (mjoin (insS l)) x ↔ inS l x := by
  obtain ⟨h3, h4⟩ := mjoin_canon (insS_first l)
  exact ⟨h3, fun x => by rw [h4 x, inS_perm (insS_perm l)]⟩
theorem tidyL_eq (l : List G) : tidyL l = mjoin (insS l) := (tidyL_canon l).1.ext (ofL_canon l).1 fun x => by rw [(tidyL_canon l).2 x, (ofL_canon l).2 x]
#print axioms tidyL_eq
end Go.Pw
