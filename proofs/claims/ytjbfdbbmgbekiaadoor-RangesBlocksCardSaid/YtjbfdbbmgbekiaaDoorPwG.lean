/- Operations that read or write memory of our own. -/
import Derived.Test.YtjbfdbbmgbekiaaDoorPwF
import Derived.Great.BuildSlice
namespace Go.Pw
variable [Mode]
set_option linter.unusedSimpArgs false
set_option linter.unusedVariables false
set_option linter.unusedSectionVars false

structure Eff where
  cond : Prop
  rd : List Key
  wr : St

def put (tm : Array Value) (d : Option Nat) (v : Value) : Array Value :=
  match d with
  | some d => tm.setIfInBounds d v
  | none => tm

/-- A cell that is about to lie in a box's cell: an own row goes with it. -/
def mv1 (σ : Look) (d j : Nat) (a : AV) : Option (AV × St) :=
  match a with
  | .rf k st => match σ k with
    | .rw st' true e xs => if st = st' then (if k = .RC d j then some (.rf k st, []) else some (.rf (.RC d j) (nst (σ (.RC d j))), [(.RC d j, .rw (nst (σ (.RC d j))) true e xs), (k, .dead (st' + 1))])) else none
    | .rw st' false _ xs => if st = st' then some (.pv (.sl xs), []) else none
    | _ => none
  | .pv p => some (.pv p, [])
  | .emp => some (.emp, [])
  | .ptr d' off st => some (.ptr d' off st, [])
  | .clo f a b => some (.clo f a b, [])
  | _ => none

def mvCells (σ : Look) (d : Nat) : Nat → List AV → Option (List AV × St)
  | _, [] => some ([], [])
  | j, a :: as => match mv1 σ d j a with
    | some (a', w1) => match mvCells (updL σ w1) d (j + 1) as with
      | some (as', w2) => some (a' :: as', w2 ++ w1)
      | none => none
    | none => none

theorem updL_append (σ : Look) (w2 w1 : St) : updL σ (w2 ++ w1) = updL (updL σ w1) w2 := by
  induction w2 with
  | nil => rfl
  | cons x xs ih => obtain ⟨k, v⟩ := x; simp only [List.cons_append, updL, ih]

section
variable {P : Program} {E E' : Env} {σ σ' : Look} {tm tm' : Array Value} {w w' : World} {ow ow' : Ow}

theorem Ren.refl (h : View) (E : Env) (σ : Look) : Ren h h E E σ σ :=
  ⟨fun _ _ _ h => h, fun _ st h => ⟨st, h, Nat.le_refl _, fun _ => rfl⟩, fun _ st h => ⟨st, h, Nat.le_refl _, fun _ => rfl⟩⟩
theorem Ren.trans {h1 h2 h3 : View} {E1 E2 E3 : Env} {s1 s2 s3 : Look} (a : Ren h1 h2 E1 E2 s1 s2) (b : Ren h2 h3 E2 E3 s2 s3) : Ren h1 h3 E1 E3 s1 s3 := by
  refine ⟨fun x y z h => b.view x y z (a.view x y z h), fun d st h => ?_, fun k st h => ?_⟩
  · obtain ⟨s', h1, h2, h3⟩ := a.box d st h
    obtain ⟨s'', k1, k2, k3⟩ := b.box d s' h1
    exact ⟨s'', k1, Nat.le_trans h2 k2, fun e => (k3 (by omega)).trans (h3 (by omega))⟩
  · obtain ⟨s', h1, h2, h3⟩ := a.row k st h
    obtain ⟨s'', k1, k2, k3⟩ := b.row k s' h1
    exact ⟨s'', k1, Nat.le_trans h2 k2, fun e => (k3 (by omega)).trans (h3 (by omega))⟩

/-- a reference that is up to date denotes its row's value -/
theorem rf_hdr {h : View} {k : Key} {st : Nat} {v : Value} (hv : (AV.rf k st).rep h E σ v) (hk : (σ k).stamp = some st) : v = E.hdr k := by
  simp only [AV.rep] at hv
  obtain ⟨_, s, h1, h2, h3⟩ := hv
  rw [hk] at h1
  simp at h1
  exact h3 h1

theorem row_form {h : View} {lab : Nat → Option Key} {k : Key} {e : TypeId} {xs : List (List PV)} {v : Value} (hr : rowOk P h w ow lab k e xs v) : ∃ a n c, v = .slice a n c := by
  rcases hr with ⟨_, a, rfl⟩ | ⟨g, cap, cur, rfl, _⟩
  · exact ⟨_, _, _, rfl⟩
  · exact ⟨_, _, _, rfl⟩

theorem mv1_sound {d j : Nat} {a a' : AV} {wr : St} (hR : RE P E σ tm w ow) (h : mv1 σ d j a = some (a', wr)) {v : Value} (hv : a.rep (view w ow) E σ v) :
    ∃ E', RE P E' (updL σ wr) tm w ow ∧ Ren (view w ow) (view w ow) E E' σ (updL σ wr) ∧ a'.rep (view w ow) E' (updL σ wr) v ∧ v.oneCell' = true ∧ E'.β = E.β ∧ (∀ d, updL σ wr (.B d) = σ (.B d)) := by
  unfold mv1 at h
  split at h
  · rename_i k st
    split at h
    · rename_i st' e xs hk
      split at h
      · rename_i hst
        subst hst
        have hvk := rf_hdr hv (by rw [hk]; rfl)
        obtain ⟨a0, n0, c0, hf⟩ := row_form (hR.own k st e xs hk)
        split at h
        · simp only [Option.some.injEq, Prod.mk.injEq] at h
          obtain ⟨rfl, rfl⟩ := h
          exact ⟨E, hR, Ren.refl _ _ _, hv, cell_ok (by rfl) hv, rfl, fun _ => rfl⟩
        · rename_i hne
          simp only [Option.some.injEq, Prod.mk.injEq] at h
          obtain ⟨rfl, rfl⟩ := h
          obtain ⟨E', h1, h2, h3, h4, h5⟩ := RE.move (K := .RC d j) hR hk hne (by simp) (by simp)
          refine ⟨E', h1, h2, ?_, by rw [hvk, hf]; rfl, h4, h5⟩
          simp only [AV.rep]
          exact ⟨⟨a0, n0, c0, by rw [hvk, hf]⟩, _, by simp [updL, KV.stamp], Nat.le_refl _, fun _ => by rw [h3, hvk]⟩
      · cases h
    · rename_i st' e xs hk
      split at h
      · rename_i hst
        subst hst
        simp only [Option.some.injEq, Prod.mk.injEq] at h
        obtain ⟨rfl, rfl⟩ := h
        have hvk := rf_hdr hv (by rw [hk]; rfl)
        have hs := (hR.shared k st e xs hk).1
        exact ⟨E, hR, Ren.refl _ _ _, by simp only [AV.rep]; rw [hvk]; exact hs, cell_ok (by rfl) hv, rfl, fun _ => rfl⟩
      · cases h
    · cases h
  · rename_i p
    simp only [Option.some.injEq, Prod.mk.injEq] at h
    obtain ⟨rfl, rfl⟩ := h
    exact ⟨E, hR, Ren.refl _ _ _, hv, cell_ok (by rfl) hv, rfl, fun _ => rfl⟩
  all_goals first
    | (simp only [Option.some.injEq, Prod.mk.injEq] at h; obtain ⟨rfl, rfl⟩ := h; exact ⟨E, hR, Ren.refl _ _ _, hv, cell_ok (by rfl) hv, rfl, fun _ => rfl⟩)
    | cases h

theorem mvCells_sound {d : Nat} : ∀ {as as' : List AV} {j : Nat} {wr : St} {E : Env} {σ : Look}, RE P E σ tm w ow → mvCells σ d j as = some (as', wr) → ∀ {l : List Value}, AV.repL (view w ow) E σ as l →
    ∃ E', RE P E' (updL σ wr) tm w ow ∧ Ren (view w ow) (view w ow) E E' σ (updL σ wr) ∧ AV.repL (view w ow) E' (updL σ wr) as' l ∧ (∀ v ∈ l, v.oneCell' = true) ∧ E'.β = E.β ∧ (∀ d, updL σ wr (.B d) = σ (.B d))
  | [], as', j, wr, E, σ, hR, h, l, hl => by
    simp only [mvCells, Option.some.injEq, Prod.mk.injEq] at h
    obtain ⟨rfl, rfl⟩ := h
    simp only [AV.repL] at hl
    subst hl
    exact ⟨E, hR, Ren.refl _ _ _, by simp [AV.repL], by simp, rfl, fun _ => rfl⟩
  | a :: as, as', j, wr, E, σ, hR, h, l, hl => by
    simp only [mvCells] at h
    simp only [AV.repL] at hl
    obtain ⟨v, vs, rfl, hv, hvs⟩ := hl
    split at h
    · rename_i a' w1 h1
      split at h
      · rename_i as2 w2 h2
        simp only [Option.some.injEq, Prod.mk.injEq] at h
        obtain ⟨rfl, rfl⟩ := h
        obtain ⟨E1, r1, n1, v1, c1, b1, k1⟩ := mv1_sound hR h1 hv
        obtain ⟨E2, r2, n2, v2, c2, b2, k2⟩ := mvCells_sound r1 h2 (AV.repL_ren n1 _ _ hvs)
        rw [updL_append]
        refine ⟨E2, r2, n1.trans n2, ?_, ?_, b2.trans b1, fun d => (k2 d).trans (k1 d)⟩
        · simp only [AV.repL]
          exact ⟨v, vs, rfl, AV.rep_ren n2 _ _ v1, v2⟩
        · intro u hu
          rcases List.mem_cons.1 hu with rfl | hu
          · exact c1
          · exact c2 u hu
      · cases h
    · cases h

end
end Go.Pw
