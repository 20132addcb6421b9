/- Operations that read or write memory of our own: the model does what stoR says. -/
import Derived.Test.YtjbfdbbmgbekiaaDoorPwI
namespace Go.Pw
variable [Mode]
set_option linter.unusedSimpArgs false
set_option linter.unusedVariables false
set_option linter.unusedSectionVars false

section
variable {P : Program} {ρ : Operand → AV} {ev : Operand → Value} {E : Env} {σ : Look} {tm : Array Value} {w : World} {ow : Ow}

theorem rowAt_spec {k : Key} {st : Nat} {own : Bool} {e : TypeId} {xs : List (List PV)} (h : rowAt σ k st = some (own, e, xs)) : σ k = .rw st own e xs := by
  unfold rowAt at h
  split at h
  · rename_i st' own' e' xs' hk
    split at h
    · rename_i hst
      simp only [Option.some.injEq, Prod.mk.injEq] at h
      obtain ⟨rfl, rfl, rfl⟩ := h
      rw [hk, hst]
    · cases h
  · cases h
theorem boxAt_spec {d st : Nat} {cs : List AV} (h : boxAt σ d st = some cs) : σ (.B d) = .bx st cs := by
  unfold boxAt at h
  split at h
  · rename_i st' cs' hk
    split at h
    · rename_i hst
      simp only [Option.some.injEq] at h
      rw [hk, hst, h]
    · cases h
  · cases h
theorem ptr_val {h : View} {d off st : Nat} {v : Value} (hv : (AV.ptr d off st).rep h E σ v) (hs : (σ (.B d)).stamp = some st) : v = .pointer (some ⟨E.β d, off, none⟩) := by
  simp only [AV.rep] at hv
  obtain ⟨b, rfl, s, h1, _, h3⟩ := hv
  rw [hs] at h1
  simp only [Option.some.injEq] at h1
  rw [h3 h1]

/-- What a row of ours, or one that stays, says of memory. -/
theorem row_cells {k : Key} {st : Nat} {own : Bool} {e : TypeId} {xs : List (List PV)} (hR : RE P E σ tm w ow) (hk : σ k = .rw st own e xs) :
    (∀ x ∈ xs, x.length = P.cellsOf e) ∧ ∃ a n c, E.hdr k = .slice a n c ∧ n = xs.length ∧ n ≤ c ∧
      (xs = [] ∨ ∃ b o, a = some ⟨b, o, none⟩ ∧ (own = true → o = 0) ∧ ∀ (i : Nat) (x : List PV), xs[i]? = some x → ∀ (j : Nat) (p : PV), x[j]? = some p → ∃ u, w.cell? ⟨b, o + i * P.cellsOf e + j, none⟩ = some u ∧ p.rep (view w ow) u) := by
  cases own with
  | true =>
    rcases hR.own k st e xs hk with ⟨rfl, a, ha⟩ | ⟨g, cap, cur, h1, h2, h3, h4, h5, h6, h7, h8⟩
    · exact ⟨by simp, a, 0, 0, ha, rfl, Nat.le_refl _, .inl rfl⟩
    · refine ⟨fun x hx => ?_, some ⟨g, 0, none⟩, _, cap, h1, rfl, h5, .inr ⟨g, 0, rfl, fun _ => rfl, fun i x hx j p hp => ?_⟩⟩
      · obtain ⟨i, hi⟩ := List.getElem?_of_mem hx
        exact (h8 i x hi).1
      · obtain ⟨u, k1, _, k3⟩ := (h8 i x hx).2 j p hp
        exact ⟨u, by rw [cell_of_row w g _ cur _ _ h4]; simpa using k1, k3⟩
  | false =>
    obtain ⟨h1, h2⟩ := hR.shared k st e xs hk
    simp only [PV.rep] at h1
    obtain ⟨a, n, c, h3, h4, h5, h6⟩ := h1
    refine ⟨h2, a, n, c, h3, h4, h5, ?_⟩
    rcases h6 with h6 | ⟨b, o, s, h6, h7⟩
    · exact .inl h6
    · refine .inr ⟨b, o, h6, (fun hh => by cases hh), fun i x hx j p hp => ?_⟩
      obtain ⟨hs, hc⟩ := repEs_get h7 hx
      have hs' : s = P.cellsOf e := by rw [← hs]; exact h2 x (List.mem_of_getElem? hx)
      subst hs'
      obtain ⟨u, k1, k2⟩ := repCs_get hc hp
      exact ⟨u, (view_lt k1).2.2, k2⟩

/-- what a row's value is as a value that stays, once it is frozen (or if it is shared) -/
theorem row_shared_rep {k : Key} {st : Nat} {e : TypeId} {xs : List (List PV)} (hR : RE P E σ tm w ow) (hk : σ k = .rw st false e xs) : (PV.sl xs).rep (view w ow) (E.hdr k) := (hR.shared k st e xs hk).1

def EffOk (P : Program) (E : Env) (σ : Look) (tm : Array Value) (w : World) (ow : Ow) (ev : Operand → Value) (o : Oper) (wr : St) : Prop :=
  ∃ nx v w' E' ow', (execOp ev o).run P w = .ok nx w' ∧ (nx = .value v ∨ (nx = .skip ∧ v = Go.undef)) ∧ Evo w ow w' ow' ∧ RE P E' (updL σ wr) (put tm o.dst v) w' ow' ∧ ∀ b, b < 1000 → E'.β b = E.β b

/-- a value into a slot, behind steps that have turned the state to σ1 -/
theorem EffOk.val {o : Oper} {d : Nat} {v : Value} {w1 : World} {E1 : Env} {ow1 : Ow} {wr : St} {a : AV} (hd : o.dst = some d) (hlt : d < tm.size) (hrun : (execOp ev o).run P w = .ok (.value v) w1) (hevo : Evo w ow w1 ow1)
    (hR : RE P E1 (updL σ wr) tm w1 ow1) (ha : a.rep (view w1 ow1) E1 (updL σ wr) v) (hβ : ∀ b, b < 1000 → E1.β b = E.β b) : EffOk P E σ tm w ow ev o ((.S d, .av a) :: wr) := by
  obtain ⟨h1, _⟩ := RE.put hR hlt ha
  exact ⟨_, v, w1, E1, ow1, hrun, .inl rfl, hevo, by rw [hd]; exact h1, hβ⟩

theorem fz1_sound {a : AV} {p : PV} {wr : St} (hR : RE P E σ tm w ow) (h : fz1 σ a = some (p, wr)) {v : Value} (hv : a.rep (view w ow) E σ v) :
    ∃ ow', RE P E (updL σ wr) tm w ow' ∧ Ren (view w ow) (view w ow') E E σ (updL σ wr) ∧ Evo w ow w ow' ∧ p.rep (view w ow') v := by
  unfold fz1 at h
  split at h
  · simp only [Option.some.injEq, Prod.mk.injEq] at h
    obtain ⟨rfl, rfl⟩ := h
    exact ⟨ow, hR, Ren.refl _ _ _, Evo.refl _ _, by simpa only [AV.rep] using hv⟩
  · simp only [Option.some.injEq, Prod.mk.injEq] at h
    obtain ⟨rfl, rfl⟩ := h
    simp only [AV.rep] at hv
    obtain ⟨a, rfl⟩ := hv
    exact ⟨ow, hR, Ren.refl _ _ _, Evo.refl _ _, by simp only [PV.rep]; exact ⟨_, _, _, rfl, rfl, Nat.le_refl _, .inl trivial⟩⟩
  · rename_i k st
    split at h
    · rename_i e xs hk
      simp only [Option.some.injEq, Prod.mk.injEq] at h
      obtain ⟨rfl, rfl⟩ := h
      have hk := rowAt_spec hk
      obtain ⟨ow', h1, h2, h3⟩ := RE.freeze hR hk
      refine ⟨ow', h1, h2, h3, ?_⟩
      rw [rf_hdr hv (by rw [hk]; rfl)]
      exact row_shared_rep (k := k) (st := st) (e := e) h1 (by simp [updL])
    · rename_i e xs hk
      simp only [Option.some.injEq, Prod.mk.injEq] at h
      obtain ⟨rfl, rfl⟩ := h
      have hk := rowAt_spec hk
      refine ⟨ow, hR, Ren.refl _ _ _, Evo.refl _ _, ?_⟩
      rw [rf_hdr hv (by rw [hk]; rfl)]
      exact row_shared_rep hR hk
    · cases h
  · cases h

theorem fzCells_sound : ∀ {as : List AV} {ps : List PV} {wr : St} {σ : Look} {ow : Ow}, RE P E σ tm w ow → fzCells σ as = some (ps, wr) → ∀ {l : List Value}, AV.repL (view w ow) E σ as l →
    ∃ ow', RE P E (updL σ wr) tm w ow' ∧ Ren (view w ow) (view w ow') E E σ (updL σ wr) ∧ Evo w ow w ow' ∧ ps.length = l.length ∧ as.length = l.length ∧ ∀ (i : Nat) (p : PV) (v : Value), ps[i]? = some p → l[i]? = some v → p.rep (view w ow') v
  | [], ps, wr, σ, ow, hR, h, l, hl => by
    simp only [fzCells, Option.some.injEq, Prod.mk.injEq] at h
    obtain ⟨rfl, rfl⟩ := h
    simp only [AV.repL] at hl
    subst hl
    exact ⟨ow, hR, Ren.refl _ _ _, Evo.refl _ _, rfl, rfl, by simp⟩
  | a :: as, ps, wr, σ, ow, hR, h, l, hl => by
    simp only [fzCells] at h
    simp only [AV.repL] at hl
    obtain ⟨v, vs, rfl, hv, hvs⟩ := hl
    split at h
    · rename_i p w1 h1
      split at h
      · rename_i qs w2 h2
        simp only [Option.some.injEq, Prod.mk.injEq] at h
        obtain ⟨rfl, rfl⟩ := h
        obtain ⟨o1, r1, n1, e1, v1⟩ := fz1_sound hR h1 hv
        obtain ⟨o2, r2, n2, e2, l2, l3, v2⟩ := fzCells_sound r1 h2 (AV.repL_ren n1 _ _ hvs)
        rw [updL_append]
        refine ⟨o2, r2, n1.trans n2, e1.trans e2, by simp [l2], by simp [l3], fun i q u hq hu => ?_⟩
        cases i with
        | zero => simp at hq hu; subst hq hu; exact PV.rep_mono e2.view _ _ v1
        | succ i => exact v2 i q u (by simpa using hq) (by simpa using hu)
      · cases h
    · cases h

theorem fzParts_sound {s : Nat} : ∀ {as : List AV} {xs : List (List PV)} {wr : St} {σ : Look} {ow : Ow}, RE P E σ tm w ow → fzParts σ s as = some (xs, wr) → ∀ {vs : List Value}, as.length = vs.length → (∀ (i : Nat) (a : AV) (v : Value), as[i]? = some a → vs[i]? = some v → a.rep (view w ow) E σ v) →
    ∃ ow', RE P E (updL σ wr) tm w ow' ∧ Ren (view w ow) (view w ow') E E σ (updL σ wr) ∧ Evo w ow w ow' ∧ xs.length = vs.length ∧
      ∀ (i : Nat) (x : List PV) (v : Value), xs[i]? = some x → vs[i]? = some v → x.length = s ∧ v.cells.toList.length = s ∧ ∀ (j : Nat) (p : PV) (u : Value), x[j]? = some p → v.cells.toList[j]? = some u → p.rep (view w ow') u
  | [], xs, wr, σ, ow, hR, h, vs, hl, _ => by
    simp only [fzParts, Option.some.injEq, Prod.mk.injEq] at h
    obtain ⟨rfl, rfl⟩ := h
    exact ⟨ow, hR, Ren.refl _ _ _, Evo.refl _ _, by simpa using hl, by simp⟩
  | a :: as, xs, wr, σ, ow, hR, h, [], hl, _ => by simp at hl
  | a :: as, xs, wr, σ, ow, hR, h, v :: vs, hl, hv => by
    simp only [fzParts] at h
    split at h
    · rename_i hc
      split at h
      · rename_i x w1 h1
        split at h
        · rename_i ys w2 h2
          simp only [Option.some.injEq, Prod.mk.injEq] at h
          obtain ⟨rfl, rfl⟩ := h
          have h0 := cells_rep hc.1 (hv 0 a v (by simp) (by simp))
          obtain ⟨o1, r1, n1, e1, l1, l1', v1⟩ := fzCells_sound hR h1 h0
          obtain ⟨o2, r2, n2, e2, l2, v2⟩ := fzParts_sound r1 h2 (vs := vs) (by simpa using hl) (fun i a u ha hu => AV.rep_ren n1 _ _ (hv (i + 1) a u (by simpa using ha) (by simpa using hu)))
          rw [updL_append]
          refine ⟨o2, r2, n1.trans n2, e1.trans e2, by simp [l2], fun i y u hy hu => ?_⟩
          cases i with
          | zero =>
            simp at hy hu
            subst hy hu
            refine ⟨by omega, by omega, fun j p z hp hz => PV.rep_mono e2.view _ _ (v1 j p z hp hz)⟩
          | succ i => exact v2 i y u (by simpa using hy) (by simpa using hu)
        · cases h
      · cases h
    · cases h

end
end Go.Pw
