/- The lexer as a function: printing and scanning again; other blanks. Plain. -/
import Derived.Test.YtgnedmmecmpnpaaGreatDoorPvL21L
set_option linter.unusedSimpArgs false
set_option linter.unusedVariables false
set_option linter.unusedSectionVars false
namespace Go.Pw.L21
theorem weave_len : ∀ (ps : List (Bs × Tok)) (last : Bs), (∀ p ∈ ps, p.2.text ≠ []) → ps.length ≤ (weave ps last).length
  | [], _, _ => by simp
  | (b, t) :: ps, last, h => by
    have h1 := weave_len ps last fun p hp => h p (by simp [hp])
    have h2 : 0 < t.text.length := List.length_pos_iff.2 (h (b, t) (by simp))
    simp only [weave, List.length_append, List.length_cons]
    omega
/-- texts with blanks between them are scanned as the tokens -/
theorem scan_weave {ps : List (Bs × Tok)} {last : Bs} (hp : ∀ p ∈ ps, Sep p.1 ∧ Good p.2) (ht : ∀ p ∈ ps.tail, ∀ x, stop (p.1 ++ x)) (hl : skipS false last = []) (hs : stop last) (hn : ps.length ≤ 4096) (hlen : (weave ps last).length ≤ 16384) :
    ∃ l, scan (weave ps last) = .ok l ∧ l.map (·.1) = ps.map (·.2) := by
  have hw := weave_len ps last fun p h => (hp p h).2.1
  unfold scan
  rw [if_neg (by omega)]
  obtain ⟨l, h1, h2⟩ := scanF_seq ps last _ [] hp ht hl hs (Nat.lt_succ_of_le hw) (by simpa using hn)
  exact ⟨l, by simpa using h1, h2⟩
/-- the texts with one blank between them -/
def joinT : List Tok → Bs
  | [] => []
  | [t] => t.text
  | t :: u :: ts => t.text ++ 32 :: joinT (u :: ts)
def spaced : List Tok → List (Bs × Tok)
  | [] => []
  | t :: ts => ([], t) :: ts.map fun u => ([32], u)
theorem weave_spaced : ∀ (ts : List Tok), weave (ts.map fun u => (([32] : Bs), u)) [] = (match ts with | [] => [] | ts => 32 :: joinT ts)
  | [] => rfl
  | [t] => by simp [weave, joinT]
  | t :: u :: ts => by
    have := weave_spaced (u :: ts)
    simp only at this
    simp only [List.map_cons] at this ⊢
    rw [weave, this]
    simp [joinT]
theorem weave_join (ts : List Tok) : weave (spaced ts) [] = joinT ts := by
  cases ts with
  | nil => rfl
  | cons t ts =>
    show [] ++ (t.text ++ weave (ts.map fun u => (([32] : Bs), u)) []) = _
    rw [weave_spaced]
    cases ts with
    | nil => simp [joinT]
    | cons u ts => simp [joinT]
theorem scan_join {ts : List Tok} (hg : ∀ t ∈ ts, Good t) (hn : ts.length ≤ 4096) (hlen : (joinT ts).length ≤ 16384) : ∃ l, scan (joinT ts) = .ok l ∧ l.map (·.1) = ts := by
  have hsep : Sep [32] := sep_blank (.inl rfl) sep_nil
  have hw := weave_join ts
  have hln : (spaced ts).length = ts.length := by cases ts <;> simp [spaced]
  have hsn : (spaced ts).map (·.2) = ts := by
    cases ts with
    | nil => rfl
    | cons t ts => simp [spaced, Function.comp_def]
  obtain ⟨l, h1, h2⟩ := scan_weave (ps := spaced ts) (last := []) (fun p hp => by
      cases ts with
      | nil => cases hp
      | cons t ts =>
        rcases List.mem_cons.1 hp with rfl | hp
        · exact ⟨sep_nil, hg t (by simp)⟩
        · obtain ⟨u, hu, rfl⟩ := List.mem_map.1 hp
          exact ⟨hsep, hg u (by simp [hu])⟩) (fun p hp x => by
      cases ts with
      | nil => cases hp
      | cons t ts =>
        obtain ⟨u, hu, rfl⟩ := List.mem_map.1 hp
        exact .inr (.inl rfl)) rfl stop_nil (by omega) (by rw [hw]; exact hlen)
  exact ⟨l, by rw [← hw]; exact h1, by rw [h2, hsn]⟩
theorem scan_ok {s : Bs} {l : List (Tok × Nat)} (h : scan s = .ok l) : (∀ p ∈ l, Good p.1) ∧ textsLen l ≤ s.length ∧ l.length ≤ 4096 := by
  unfold scan at h
  split at h
  · cases h
  · obtain ⟨l', e, h1, h2, h3⟩ := scanF_ok _ _ _ _ h
    rw [List.nil_append] at e
    subst e
    exact ⟨h1, h2, h3 (by simp)⟩
def between : List Bs := [[32], [9], [10], [32, 47, 47, 32, 120, 32, 61, 32, 34, 10], [32, 32, 10, 10], [9, 47, 47, 10]]
theorem between_sep : ∀ b ∈ between, Sep b ∧ (∀ x, stop (b ++ x)) ∧ b.length ≤ 10 := by
  intro b hb
  simp only [between, List.mem_cons, List.not_mem_nil, or_false] at hb
  rcases hb with rfl | rfl | rfl | rfl | rfl | rfl
  · exact ⟨fun x => by simp [skipS], fun x => .inr (.inl rfl), by simp⟩
  · exact ⟨fun x => by simp [skipS], fun x => .inr (.inr (.inl rfl)), by simp⟩
  · exact ⟨fun x => by simp [skipS], fun x => .inr (.inr (.inr rfl)), by simp⟩
  · exact ⟨fun x => by simp [skipS], fun x => .inr (.inl rfl), by simp⟩
  · exact ⟨fun x => by simp [skipS], fun x => .inr (.inl rfl), by simp⟩
  · exact ⟨fun x => by simp [skipS], fun x => .inr (.inr (.inl rfl)), by simp⟩
end Go.Pw.L21
