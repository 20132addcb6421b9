/- The blocks that a set of positions meets. -/
import Derived.Test.YtjbfdbbmgbekiaaDoorPwDE
import Derived.Test.YtjbfdbbmgbekiaaDoorPwDC
set_option linter.unusedSimpArgs false
set_option linter.unusedVariables false
set_option linter.unusedSectionVars false
namespace Go.Pw.G7
open Go.Pw
def lastB (out : List Int) : Int := out.getLast?.getD (-1)
def runI (f : Int) (n : Nat) : List Int := (List.range n).map fun j : Nat => f + j
def bFrom (size : Int) (out : List Int) (r : G) : Int := max (lastB out + 1) (r.1 / size)
def bTo (size : Int) (r : G) : Int := (r.2 - 1) / size
def bLen (size : Int) (out : List Int) (r : G) : Nat := (bTo size r - bFrom size out r + 1).toNat
def bstep (size : Int) (o : Option (List Int)) (r : G) : Option (List Int) := o.bind fun out => if 100000 < out.length + bLen size out r then none else some (out ++ runI (bFrom size out r) (bLen size out r))
def blkO (size : Int) (l : List G) : Option (List Int) := l.foldl (bstep size) (some [])
def blocks (l : List G) (size : Int) : List Int × Int := if size < 1 ∨ 1099511627776 < size then ([], 2) else match blkO size l with
  | none => ([], 9)
  | some o => (o, 0)
theorem runI_succ (f : Int) (n : Nat) : runI f (n + 1) = runI f n ++ [f + n] := by simp [runI, List.range_succ]
theorem runI_len (f : Int) (n : Nat) : (runI f n).length = n := by simp [runI]
theorem mem_runI {f x : Int} {n : Nat} : x ∈ runI f n ↔ f ≤ x ∧ x < f + n := by
  simp only [runI, List.mem_map, List.mem_range]
  constructor
  · rintro ⟨j, h, rfl⟩; omega
  · rintro ⟨h1, h2⟩; exact ⟨(x - f).toNat, by omega, by omega⟩
theorem blkO_snoc (size : Int) (l : List G) (r : G) : blkO size (l ++ [r]) = bstep size (blkO size l) r := by simp [blkO]
theorem bfold_none (size : Int) (l : List G) : l.foldl (bstep size) none = none := by
  induction l with
  | nil => rfl
  | cons r l ih => rw [List.foldl_cons]; exact ih
theorem blkO_none {size : Int} {l : List G} {i : Nat} (h : blkO size (l.take i) = none) : blkO size l = none := by
  have e : blkO size l = (l.drop i).foldl (bstep size) (blkO size (l.take i)) := by
    conv => lhs; rw [← List.take_append_drop i l]
    rw [blkO, List.foldl_append]; rfl
  rw [e, h, bfold_none]
/-- what may be said of the numbers that have been laid down -/
theorem blk_inv {size : Int} (hs : 1 ≤ size) : ∀ (l : List G) (out : List Int), (∀ r ∈ l, 0 ≤ r.1) → (∀ x ∈ out, 0 ≤ x) → out.length ≤ 100000 → ∀ o, l.foldl (bstep size) (some out) = some o →
    o.length ≤ 100000 ∧ ∀ x ∈ o, 0 ≤ x ∧ (x ∈ out ∨ ∃ r ∈ l, x ≤ bTo size r)
  | [], out, _, h1, h2, o, h => by
    simp only [List.foldl_nil, Option.some.injEq] at h
    subst h
    exact ⟨h2, fun x hx => ⟨h1 x hx, .inl hx⟩⟩
  | r :: l, out, h0, h1, h2, o, h => by
    rw [List.foldl_cons] at h
    by_cases hl : 100000 < out.length + bLen size out r
    · have : bstep size (some out) r = none := by simp only [bstep, Option.bind_some]; rw [if_pos hl]
      rw [this, bfold_none] at h; cases h
    · have e : bstep size (some out) r = some (out ++ runI (bFrom size out r) (bLen size out r)) := by simp only [bstep, Option.bind_some]; rw [if_neg hl]
      rw [e] at h
      have hr := h0 r (by simp)
      have hq : 0 ≤ r.1 / size := Int.ediv_nonneg hr (by omega)
      have hx : ∀ x ∈ runI (bFrom size out r) (bLen size out r), 0 ≤ x ∧ x ≤ bTo size r := by
        intro x hx
        obtain ⟨k1, k2⟩ := mem_runI.1 hx
        have : r.1 / size ≤ bFrom size out r := by unfold bFrom; omega
        unfold bLen at k2
        omega
      obtain ⟨q1, q2⟩ := blk_inv hs l _ (fun s hs => h0 s (by simp [hs])) (fun x hx' => by
        rcases List.mem_append.1 hx' with k | k
        · exact h1 x k
        · exact (hx x k).1) (by rw [List.length_append, runI_len]; omega) o h
      refine ⟨q1, fun x hx' => ?_⟩
      obtain ⟨k1, k2⟩ := q2 x hx'
      refine ⟨k1, ?_⟩
      rcases k2 with k | ⟨s, k3, k4⟩
      · rcases List.mem_append.1 k with k | k
        · exact .inl k
        · exact .inr ⟨r, by simp, (hx x k).2⟩
      · exact .inr ⟨s, by simp [k3], k4⟩
theorem blk_spec {size : Int} (hs : 1 ≤ size) {l : List G} (h0 : ∀ r ∈ l, 0 ≤ r.1) {o : List Int} (h : blkO size l = some o) : o.length ≤ 100000 ∧ ∀ x ∈ o, 0 ≤ x ∧ ∃ r ∈ l, x ≤ bTo size r := by
  obtain ⟨h1, h2⟩ := blk_inv hs l [] h0 (by simp) (by simp) o h
  exact ⟨h1, fun x hx => ⟨(h2 x hx).1, (h2 x hx).2.resolve_left (by simp)⟩⟩
theorem last_mem {out : List Int} : lastB out = -1 ∨ lastB out ∈ out := by
  unfold lastB
  cases h : out.getLast? with
  | none => exact .inl rfl
  | some x => exact .inr (List.mem_of_getLast? h)
theorem last_le {size : Int} (hs : 1 ≤ size) {l : List G} (hc : Canon l) (h0 : ∀ r ∈ l, 0 ≤ r.1) {i : Nat} (hi : i < l.length) {o : List Int} (h : blkO size (l.take i) = some o) : lastB o ≤ l[i].1 / size := by
  have hq : 0 ≤ l[i].1 / size := Int.ediv_nonneg (h0 _ (List.getElem_mem hi)) (by omega)
  rcases last_mem (out := o) with k | k
  · omega
  · obtain ⟨_, r, hr, k2⟩ := (blk_spec hs (fun r hr => h0 r (List.mem_of_mem_take hr)) h).2 _ k
    obtain ⟨j, hj, rfl⟩ := List.mem_take_iff_getElem.1 hr
    have := List.pairwise_iff_getElem.1 hc.1 j i (by omega) hi (by omega)
    have : bTo size l[j] ≤ l[i].1 / size := Int.ediv_le_ediv (by omega) (by omega)
    omega
theorem blk_mem {size : Int} (hs : 1 ≤ size) {l : List G} (hc : Canon l) (h0 : ∀ r ∈ l, 0 ≤ r.1) {p : Int} : ∀ (i : Nat), i ≤ l.length → ∀ o, blkO size (l.take i) = some o → (∃ r ∈ l.take i, r.1 ≤ p ∧ p < r.2) → p / size ∈ o
  | 0, _, o, _, ⟨r, hr, _⟩ => by simp at hr
  | i + 1, hi, o, h, ⟨r, hr, k1, k2⟩ => by
    have hil : i < l.length := hi
    rw [List.take_succ_eq_append_getElem hil, blkO_snoc] at h
    rw [List.take_succ_eq_append_getElem hil] at hr
    cases hb : blkO size (l.take i) with
    | none => rw [hb] at h; cases h
    | some out =>
      rw [hb] at h
      simp only [bstep, Option.bind_some] at h
      split at h
      · cases h
      · cases h
        rcases List.mem_append.1 hr with k | k
        · exact List.mem_append_left _ (blk_mem hs hc h0 i (by omega) out hb ⟨r, k, k1, k2⟩)
        · simp at k; subst k
          have hl := last_le hs hc h0 hil hb
          have q1 : l[i].1 / size ≤ p / size := Int.ediv_le_ediv (by omega) k1
          have q2 : p / size ≤ bTo size l[i] := Int.ediv_le_ediv (by omega) (by omega)
          have q3 : 0 ≤ l[i].1 / size := Int.ediv_nonneg (h0 _ (List.getElem_mem hil)) (by omega)
          by_cases hlt : p / size < bFrom size out l[i]
          · refine List.mem_append_left _ ?_
            have : p / size = lastB out := by unfold bFrom at hlt; omega
            rcases last_mem (out := out) with k | k
            · omega
            · rw [this]; exact k
          · refine List.mem_append_right _ (mem_runI.2 ⟨by omega, ?_⟩)
            unfold bLen
            omega
theorem blocks_has {l : List G} {size : Int} (hs : ¬ (size < 1 ∨ 1099511627776 < size)) (hc : Canon l) (h0 : ∀ r ∈ l, 0 ≤ r.1) {o : List Int} (h : blkO size l = some o) {p : Int} (hp : hasL l p = true) : p / size ∈ o := by
  refine blk_mem (by omega) hc h0 l.length (Nat.le_refl _) o (by rw [List.take_length]; exact h) ?_
  obtain ⟨r, hr, k⟩ := List.any_eq_true.1 hp
  simp at k
  exact ⟨r, by rw [List.take_length]; exact hr, k⟩
#print axioms blocks_has
end Go.Pw.G7
