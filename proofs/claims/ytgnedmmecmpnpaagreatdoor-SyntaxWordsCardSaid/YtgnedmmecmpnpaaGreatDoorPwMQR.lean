/- A call: that what is computed is sound. -/
import Derived.Test.YtgnedmmecmpnpaaGreatDoorPwMOP
namespace Go.Pw
variable [Mode]
set_option linter.unusedSimpArgs false
set_option linter.unusedVariables false
set_option linter.unusedSectionVars false

section
variable {P : Program} {E : Env} {σ : Look} {tm : Array Value} {w : World} {ow : Ow}

theorem preArg_sound {j : Nat} {mv : Option TypeId} {x x' : AV} {wr : St} (hR : RE P E σ tm w ow) (h : preArg σ j mv x = some (x', wr)) {v : Value} (hv : x.rep (view w ow) E σ v) :
    ∃ E' ow', RE P E' (updL σ wr) tm w ow' ∧ Ren (view w ow) (view w ow') E E' σ (updL σ wr) ∧ Evo w ow w ow' ∧ x'.rep (view w ow') E' (updL σ wr) v ∧ E'.β = E.β := by
  unfold preArg at h
  split at h
  · rename_i k st
    split at h
    · rename_i e xs hk
      split at h
      · simp only [Option.some.injEq, Prod.mk.injEq] at h
        obtain ⟨rfl, rfl⟩ := h
        exact ⟨E, ow, hR, Ren.refl _ _ _, Evo.refl _ _, hv, rfl⟩
      · simp only [Option.some.injEq, Prod.mk.injEq] at h
        obtain ⟨rfl, rfl⟩ := h
        have hk := rowAt_spec hk
        obtain ⟨ow', h1, h2, h3⟩ := RE.freeze hR hk
        have hsl : (PV.sl xs).rep (view w ow') (E.hdr k) := row_shared_rep (k := k) (st := st) (e := e) h1 (by simp [updL])
        refine ⟨E, ow', h1, h2, h3, ?_, rfl⟩
        simp only [AV.rep]
        rw [rf_hdr hv (by rw [hk]; rfl)]
        exact hsl
    · rename_i e xs hk
      simp only [Option.some.injEq, Prod.mk.injEq] at h
      obtain ⟨rfl, rfl⟩ := h
      have hk := rowAt_spec hk
      refine ⟨E, ow, hR, Ren.refl _ _ _, Evo.refl _ _, ?_, rfl⟩
      simp only [AV.rep]
      rw [rf_hdr hv (by rw [hk]; rfl)]
      exact row_shared_rep hR hk
    · cases h
  · split at h
    · rename_i e
      simp only [Option.some.injEq, Prod.mk.injEq] at h
      obtain ⟨rfl, rfl⟩ := h
      have hv' := hv
      simp only [AV.rep] at hv'
      obtain ⟨a, ha⟩ := hv'
      obtain ⟨E', r1, r2, r3, r4⟩ := RE.newNil (K := .RS (2000 + j) 0) e hR rfl ha
      refine ⟨E', ow, r1, r2, Evo.refl _ _, ?_, r4⟩
      simp only [AV.rep]
      exact ⟨⟨_, _, _, ha⟩, _, by simp [updL, KV.stamp], Nat.le_refl _, fun _ => r3.symm⟩
    · simp only [Option.some.injEq, Prod.mk.injEq] at h
      obtain ⟨rfl, rfl⟩ := h
      exact ⟨E, ow, hR, Ren.refl _ _ _, Evo.refl _ _, hv, rfl⟩
  · rename_i cs
    split at h
    · rename_i ps w1 hf
      simp only [Option.some.injEq, Prod.mk.injEq] at h
      obtain ⟨rfl, rfl⟩ := h
      simp only [AV.rep] at hv
      obtain ⟨l, rfl, hl⟩ := hv
      obtain ⟨ow', r1, r2, r3, r4, r5, r6⟩ := fzCells_sound hR hf hl
      refine ⟨E, ow', r1, r2, r3, ?_, rfl⟩
      simp only [AV.rep]
      refine ⟨l, rfl, repL_iff.2 ⟨by simp [r4], fun i a u ha hu => ?_⟩⟩
      rw [List.getElem?_map] at ha
      cases hp : ps[i]? with
      | none => simp [hp] at ha
      | some p =>
        simp [hp] at ha
        subst ha
        simp only [AV.rep]
        exact r6 i p u hp hu
    · cases h
  · cases h
  · simp only [Option.some.injEq, Prod.mk.injEq] at h
    obtain ⟨rfl, rfl⟩ := h
    exact ⟨E, ow, hR, Ren.refl _ _ _, Evo.refl _ _, hv, rfl⟩

theorem preArgs_sound {mv : Nat → Option TypeId} : ∀ {as as' : List AV} {j : Nat} {wr : St} {E : Env} {σ : Look} {ow : Ow}, RE P E σ tm w ow → preArgs σ mv j as = some (as', wr) → ∀ {l : List Value}, AV.repL (view w ow) E σ as l →
    ∃ E' ow', RE P E' (updL σ wr) tm w ow' ∧ Ren (view w ow) (view w ow') E E' σ (updL σ wr) ∧ Evo w ow w ow' ∧ AV.repL (view w ow') E' (updL σ wr) as' l ∧ E'.β = E.β
  | [], as', j, wr, E, σ, ow, hR, h, l, hl => by
    simp only [preArgs, Option.some.injEq, Prod.mk.injEq] at h
    obtain ⟨rfl, rfl⟩ := h
    exact ⟨E, ow, hR, Ren.refl _ _ _, Evo.refl _ _, hl, rfl⟩
  | a :: as, as', j, wr, E, σ, ow, hR, h, l, hl => by
    simp only [preArgs] at h
    simp only [AV.repL] at hl
    obtain ⟨v, vs, rfl, hv, hvs⟩ := hl
    split at h
    · rename_i a' w1 h1
      split at h
      · rename_i as2 w2 h2
        simp only [Option.some.injEq, Prod.mk.injEq] at h
        obtain ⟨rfl, rfl⟩ := h
        obtain ⟨E1, o1, r1, n1, e1, v1, b1⟩ := preArg_sound hR h1 hv
        obtain ⟨E2, o2, r2, n2, e2, v2, b2⟩ := preArgs_sound r1 h2 (AV.repL_ren n1 _ _ hvs)
        rw [updL_append]
        refine ⟨E2, o2, r2, n1.trans n2, e1.trans e2, ?_, b2.trans b1⟩
        simp only [AV.repL]
        exact ⟨v, vs, rfl, AV.rep_ren n2 _ _ v1, v2⟩
      · cases h
    · cases h

theorem XL_plain {σ T : Look} {lk : Key → Option Key} : ∀ {l : List AV}, plainL l = true → XL σ T lk l l
  | [], _ => trivial
  | a :: l, h => by
    simp only [plainL, List.all_cons, Bool.and_eq_true] at h
    simp only [XL]
    refine ⟨?_, XL_plain h.2⟩
    have := h.1
    cases a <;> simp only [plainCell, Bool.false_eq_true] at this <;> simp [XA]

/-- everything that packing makes is of this kind -/
def PkOk (σ : Look) (en : St) (lk : Lk) : Prop :=
  ∀ K kv, (K, kv) ∈ en → (∃ k st e xs, kv = .rw 0 true e xs ∧ (K, k) ∈ lk ∧ σ k = .rw st true e xs ∧ isRowKey K = true ∧ (∀ d, k ≠ .B d)) ∨
    ∃ j d st cs cs', K = .B j ∧ kv = .bx 0 cs ∧ (Key.B j, Key.B d) ∈ lk ∧ σ (.B d) = .bx st cs'

theorem pkCell_XA {d j c : Nat} {a a' : AV} {en : St} {lk : Lk} (h : pkCell σ d j c a = some (a', en, lk)) (T : St) (L : Lk) (hT : ndK (T.map (·.1)) = true) (hL : ndK (L.map (·.1)) = true)
    (h1 : ∀ x ∈ en, x ∈ T) (h2 : ∀ x ∈ lk, x ∈ L) (h3 : (Key.B j, Key.B d) ∈ L) (h4 : ∃ cs, (Key.B j, KV.bx 0 cs) ∈ T) : XA σ (look T) (lookL L) a' a := by
  unfold pkCell at h
  split at h
  · simp only [Option.some.injEq, Prod.mk.injEq] at h
    obtain ⟨rfl, rfl, rfl⟩ := h
    simp [XA]
  · simp only [Option.some.injEq, Prod.mk.injEq] at h
    obtain ⟨rfl, rfl, rfl⟩ := h
    simp [XA]
  · split at h
    · rename_i e xs hk
      simp only [Option.some.injEq, Prod.mk.injEq] at h
      obtain ⟨rfl, rfl, rfl⟩ := h
      have hk := rowAt_spec hk
      simp only [XA]
      exact ⟨lookL_of hL (h2 _ (by simp)), ⟨e, xs, hk⟩, by rw [look_of hT (h1 (.RC j c, .rw 0 true e xs) (by simp))]; rfl⟩
    · rename_i e xs hk
      simp only [Option.some.injEq, Prod.mk.injEq] at h
      obtain ⟨rfl, rfl, rfl⟩ := h
      have hk := rowAt_spec hk
      simp only [XA]
      exact ⟨e, xs, rfl, hk⟩
    · cases h
  · split at h
    · rename_i hc
      simp only [Option.some.injEq, Prod.mk.injEq] at h
      obtain ⟨rfl, rfl, rfl⟩ := h
      obtain ⟨rfl, hs⟩ := hc
      obtain ⟨cs, hcs⟩ := h4
      simp only [XA]
      exact ⟨trivial, lookL_of hL h3, hs, by rw [look_of hT hcs]; rfl⟩
    · cases h
  · split at h
    · rename_i hc
      simp only [Option.some.injEq, Prod.mk.injEq] at h
      obtain ⟨rfl, rfl, rfl⟩ := h
      simp only [Bool.and_eq_true] at hc
      simp only [XA]
      exact ⟨trivial, XL_plain hc.1, XL_plain hc.2⟩
    · cases h
  · cases h

theorem pkCell_ok (hR : RE P E σ tm w ow) {d j c : Nat} {a a' : AV} {en : St} {lk : Lk} (h : pkCell σ d j c a = some (a', en, lk)) : PkOk σ en lk := by
  unfold pkCell at h
  split at h
  all_goals try (simp only [Option.some.injEq, Prod.mk.injEq] at h; obtain ⟨rfl, rfl, rfl⟩ := h; intro K kv hm; cases hm)
  all_goals try (split at h <;> (try (cases h; done)))
  all_goals try (simp only [Option.some.injEq, Prod.mk.injEq] at h; obtain ⟨rfl, rfl, rfl⟩ := h)
  · rename_i e xs hk
    have hk := rowAt_spec hk
    intro K kv hm
    simp only [List.mem_singleton, Prod.mk.injEq] at hm
    obtain ⟨rfl, rfl⟩ := hm
    exact .inl ⟨_, _, e, xs, rfl, by simp, hk, rfl, fun d => hR.rowNotB hk d⟩
  all_goals first
    | (cases h; done)
    | (intro K kv hm; cases hm)

theorem pkCells_XL {d j : Nat} : ∀ {as as' : List AV} {c : Nat} {en : St} {lk : Lk}, pkCells σ d j c as = some (as', en, lk) → ∀ (T : St) (L : Lk), ndK (T.map (·.1)) = true → ndK (L.map (·.1)) = true →
    (∀ x ∈ en, x ∈ T) → (∀ x ∈ lk, x ∈ L) → (Key.B j, Key.B d) ∈ L → (∃ cs, (Key.B j, KV.bx 0 cs) ∈ T) → XL σ (look T) (lookL L) as' as
  | [], as', c, en, lk, h, T, L, _, _, _, _, _, _ => by
    simp only [pkCells, Option.some.injEq, Prod.mk.injEq] at h
    obtain ⟨rfl, rfl, rfl⟩ := h
    trivial
  | a :: as, as', c, en, lk, h, T, L, hT, hL, h1, h2, h3, h4 => by
    simp only [pkCells] at h
    split at h
    · rename_i a' e1 l1 ha
      split at h
      · rename_i as2 e2 l2 has
        simp only [Option.some.injEq, Prod.mk.injEq] at h
        obtain ⟨rfl, rfl, rfl⟩ := h
        simp only [XL]
        exact ⟨pkCell_XA ha T L hT hL (fun x hx => h1 x (List.mem_append_left _ hx)) (fun x hx => h2 x (List.mem_append_left _ hx)) h3 h4,
          pkCells_XL has T L hT hL (fun x hx => h1 x (List.mem_append_right _ hx)) (fun x hx => h2 x (List.mem_append_right _ hx)) h3 h4⟩
      · cases h
    · cases h

theorem PkOk.append {en en' : St} {lk lk' : Lk} (h : PkOk σ en lk) (h' : PkOk σ en' lk') : PkOk σ (en ++ en') (lk ++ lk') := by
  intro K kv hm
  rcases List.mem_append.1 hm with hm | hm
  · rcases h K kv hm with ⟨k, st, e, xs, q1, q2, q3⟩ | ⟨j, d, st, cs, cs', q1, q2, q3, q4⟩
    · exact .inl ⟨k, st, e, xs, q1, List.mem_append_left _ q2, q3⟩
    · exact .inr ⟨j, d, st, cs, cs', q1, q2, List.mem_append_left _ q3, q4⟩
  · rcases h' K kv hm with ⟨k, st, e, xs, q1, q2, q3⟩ | ⟨j, d, st, cs, cs', q1, q2, q3, q4⟩
    · exact .inl ⟨k, st, e, xs, q1, List.mem_append_right _ q2, q3⟩
    · exact .inr ⟨j, d, st, cs, cs', q1, q2, List.mem_append_right _ q3, q4⟩

theorem pkCells_ok (hR : RE P E σ tm w ow) {d j : Nat} : ∀ {as as' : List AV} {c : Nat} {en : St} {lk : Lk}, pkCells σ d j c as = some (as', en, lk) → PkOk σ en lk
  | [], as', c, en, lk, h => by
    simp only [pkCells, Option.some.injEq, Prod.mk.injEq] at h
    obtain ⟨rfl, rfl, rfl⟩ := h
    intro K kv hm; cases hm
  | a :: as, as', c, en, lk, h => by
    simp only [pkCells] at h
    split at h
    · rename_i a' e1 l1 ha
      split at h
      · rename_i as2 e2 l2 has
        simp only [Option.some.injEq, Prod.mk.injEq] at h
        obtain ⟨rfl, rfl, rfl⟩ := h
        exact (pkCell_ok hR ha).append (pkCells_ok hR has)
      · cases h
    · cases h

/-- a box that is handed over, with its cells -/
def BoxX (σ : Look) (T : St) (L : Lk) (en : St) : Prop :=
  ∀ j cs, (Key.B j, KV.bx 0 cs) ∈ en → ∃ d st cs', (Key.B j, Key.B d) ∈ L ∧ σ (.B d) = .bx st cs' ∧ XL σ (look T) (lookL L) cs cs'

theorem pkCell_noB {d j c : Nat} {a a' : AV} {en : St} {lk : Lk} (h : pkCell σ d j c a = some (a', en, lk)) : ∀ i kv, (Key.B i, kv) ∉ en := by
  intro i kv hm
  unfold pkCell at h
  split at h
  all_goals try (simp only [Option.some.injEq, Prod.mk.injEq] at h; obtain ⟨rfl, rfl, rfl⟩ := h; cases hm)
  all_goals try (split at h <;> (try (cases h; done)))
  all_goals try (simp only [Option.some.injEq, Prod.mk.injEq] at h; obtain ⟨rfl, rfl, rfl⟩ := h)
  · simp at hm
  all_goals first
    | (cases h; done)
    | cases hm
theorem pkCells_noB {d j : Nat} : ∀ {as as' : List AV} {c : Nat} {en : St} {lk : Lk}, pkCells σ d j c as = some (as', en, lk) → ∀ i kv, (Key.B i, kv) ∉ en
  | [], as', c, en, lk, h => by
    simp only [pkCells, Option.some.injEq, Prod.mk.injEq] at h
    obtain ⟨rfl, rfl, rfl⟩ := h
    intro i kv hm; cases hm
  | a :: as, as', c, en, lk, h => by
    simp only [pkCells] at h
    split at h
    · rename_i a' e1 l1 ha
      split at h
      · rename_i as2 e2 l2 has
        simp only [Option.some.injEq, Prod.mk.injEq] at h
        obtain ⟨rfl, rfl, rfl⟩ := h
        intro i kv hm
        rcases List.mem_append.1 hm with hm | hm
        · exact pkCell_noB ha i kv hm
        · exact pkCells_noB has i kv hm
      · cases h
    · cases h

theorem pkArg_spec (hR : RE P E σ tm w ow) {j : Nat} {x x' : AV} {en : St} {lk : Lk} (h : pkArg σ j x = some (x', en, lk)) :
    PkOk σ en lk ∧ ∀ (T : St) (L : Lk), ndK (T.map (·.1)) = true → ndK (L.map (·.1)) = true → (∀ y ∈ en, y ∈ T) → (∀ y ∈ lk, y ∈ L) → XA σ (look T) (lookL L) x' x ∧ BoxX σ T L en := by
  unfold pkArg at h
  split at h
  · simp only [Option.some.injEq, Prod.mk.injEq] at h
    obtain ⟨rfl, rfl, rfl⟩ := h
    exact ⟨fun K kv hm => (by cases hm), fun T L _ _ _ _ => ⟨by simp [XA], fun j cs hm => by cases hm⟩⟩
  · simp only [Option.some.injEq, Prod.mk.injEq] at h
    obtain ⟨rfl, rfl, rfl⟩ := h
    exact ⟨fun K kv hm => (by cases hm), fun T L _ _ _ _ => ⟨by simp [XA], fun j cs hm => by cases hm⟩⟩
  · split at h
    · rename_i e xs hk
      simp only [Option.some.injEq, Prod.mk.injEq] at h
      obtain ⟨rfl, rfl, rfl⟩ := h
      have hk := rowAt_spec hk
      refine ⟨fun K kv hm => ?_, fun T L hT hL h1 h2 => ⟨?_, fun j cs hm => by simp at hm⟩⟩
      · simp only [List.mem_singleton, Prod.mk.injEq] at hm
        obtain ⟨rfl, rfl⟩ := hm
        exact .inl ⟨_, _, e, xs, rfl, by simp, hk, rfl, fun d => hR.rowNotB hk d⟩
      · simp only [XA]
        exact ⟨lookL_of hL (h2 _ (by simp)), ⟨e, xs, hk⟩, by rw [look_of hT (h1 (.RS j 0, .rw 0 true e xs) (by simp))]; rfl⟩
    · cases h
  · rename_i d st
    split at h
    · rename_i cs hb
      have hb := boxAt_spec hb
      split at h
      · rename_i cs' en' l' hpk
        simp only [Option.some.injEq, Prod.mk.injEq] at h
        obtain ⟨rfl, rfl, rfl⟩ := h
        refine ⟨fun K kv hm => ?_, fun T L hT hL h1 h2 => ?_⟩
        · rcases List.mem_cons.1 hm with e | hm
          · cases e
            exact .inr ⟨j, d, st, cs', cs, rfl, rfl, by simp, hb⟩
          · rcases pkCells_ok hR hpk K kv hm with ⟨k, st', e, xs, q1, q2, q3⟩ | ⟨j', d', st', c1, c2, q1, q2, q3, q4⟩
            · exact .inl ⟨k, st', e, xs, q1, List.mem_cons_of_mem _ q2, q3⟩
            · exact .inr ⟨j', d', st', c1, c2, q1, q2, List.mem_cons_of_mem _ q3, q4⟩
        · have hxl := pkCells_XL hpk T L hT hL (fun x hx => h1 x (List.mem_cons_of_mem _ hx)) (fun x hx => h2 x (List.mem_cons_of_mem _ hx)) (h2 _ (by simp)) ⟨cs', h1 _ (by simp)⟩
          refine ⟨?_, fun i c hm => ?_⟩
          · simp only [XA]
            exact ⟨trivial, lookL_of hL (h2 _ (by simp)), by rw [hb]; rfl, by rw [look_of hT (h1 (.B j, .bx 0 cs') (by simp))]; rfl⟩
          · rcases List.mem_cons.1 hm with e | hm
            · cases e
              exact ⟨d, st, cs, h2 _ (by simp), hb, hxl⟩
            · exact absurd hm (pkCells_noB hpk i _)
      · cases h
    · cases h
  · split at h
    · rename_i hc
      simp only [Option.some.injEq, Prod.mk.injEq] at h
      obtain ⟨rfl, rfl, rfl⟩ := h
      exact ⟨fun K kv hm => (by cases hm), fun T L _ _ _ _ => ⟨by simp only [XA]; exact XL_plain hc, fun j cs hm => by cases hm⟩⟩
    · cases h
  · rename_i f a d st
    split at h
    · rename_i cs hb
      have hb := boxAt_spec hb
      split at h
      · rename_i cs' en' l' hpk
        split at h
        · rename_i hpl
          simp only [Option.some.injEq, Prod.mk.injEq] at h
          obtain ⟨rfl, rfl, rfl⟩ := h
          refine ⟨fun K kv hm => ?_, fun T L hT hL h1 h2 => ?_⟩
          · rcases List.mem_cons.1 hm with e | hm
            · cases e
              exact .inr ⟨500 + j, d, st, cs', cs, rfl, rfl, by simp, hb⟩
            · rcases pkCells_ok hR hpk K kv hm with ⟨k, st', e, xs, q1, q2, q3⟩ | ⟨j', d', st', c1, c2, q1, q2, q3, q4⟩
              · exact .inl ⟨k, st', e, xs, q1, List.mem_cons_of_mem _ q2, q3⟩
              · exact .inr ⟨j', d', st', c1, c2, q1, q2, List.mem_cons_of_mem _ q3, q4⟩
          · have hxl := pkCells_XL hpk T L hT hL (fun x hx => h1 x (List.mem_cons_of_mem _ hx)) (fun x hx => h2 x (List.mem_cons_of_mem _ hx)) (h2 _ (by simp)) ⟨cs', h1 _ (by simp)⟩
            refine ⟨?_, fun i c hm => ?_⟩
            · simp only [XA, XL]
              exact ⟨trivial, XL_plain hpl, ⟨trivial, lookL_of hL (h2 _ (by simp)), by rw [hb]; rfl, by rw [look_of hT (h1 (.B (500 + j), .bx 0 cs') (by simp))]; rfl⟩, trivial⟩
            · rcases List.mem_cons.1 hm with e | hm
              · cases e
                exact ⟨d, st, cs, h2 _ (by simp), hb, hxl⟩
              · exact absurd hm (pkCells_noB hpk i _)
        · cases h
      · cases h
    · cases h
  · split at h
    · rename_i hc
      simp only [Option.some.injEq, Prod.mk.injEq] at h
      obtain ⟨rfl, rfl, rfl⟩ := h
      simp only [Bool.and_eq_true] at hc
      exact ⟨fun K kv hm => (by cases hm), fun T L _ _ _ _ => ⟨by simp only [XA]; exact ⟨trivial, XL_plain hc.1, XL_plain hc.2⟩, fun j cs hm => by cases hm⟩⟩
    · cases h
  · cases h

theorem pkArgs_spec (hR : RE P E σ tm w ow) : ∀ {as : List AV} {j : Nat} {sl en : St} {lk : Lk}, pkArgs σ j as = some (sl, en, lk) →
    PkOk σ en lk ∧ (∀ K kv, (K, kv) ∈ sl → ∃ t a, K = .S t ∧ kv = .av a ∧ j ≤ t) ∧
    ∀ (T : St) (L : Lk), ndK (T.map (·.1)) = true → ndK (L.map (·.1)) = true → (∀ y ∈ en, y ∈ T) → (∀ y ∈ lk, y ∈ L) → BoxX σ T L en ∧ ∀ t a', (Key.S t, KV.av a') ∈ sl → ∃ a, as[t - j]? = some a ∧ XA σ (look T) (lookL L) a' a
  | [], j, sl, en, lk, h => by
    simp only [pkArgs, Option.some.injEq, Prod.mk.injEq] at h
    obtain ⟨rfl, rfl, rfl⟩ := h
    exact ⟨fun K kv hm => (by cases hm), fun K kv hm => (by cases hm), fun T L _ _ _ _ => ⟨fun j cs hm => (by cases hm), fun t a' hm => by cases hm⟩⟩
  | a :: as, j, sl, en, lk, h => by
    simp only [pkArgs] at h
    split at h
    · rename_i a' e1 l1 ha
      split at h
      · rename_i s2 e2 l2 has
        simp only [Option.some.injEq, Prod.mk.injEq] at h
        obtain ⟨rfl, rfl, rfl⟩ := h
        obtain ⟨p1, p2⟩ := pkArg_spec hR ha
        obtain ⟨q1, q2, q3⟩ := pkArgs_spec hR has
        refine ⟨p1.append q1, fun K kv hm => ?_, fun T L hT hL h1 h2 => ?_⟩
        · rcases List.mem_cons.1 hm with e | hm
          · cases e; exact ⟨j, a', rfl, rfl, Nat.le_refl _⟩
          · obtain ⟨t, b, r1, r2, r3⟩ := q2 K kv hm
            exact ⟨t, b, r1, r2, by omega⟩
        · obtain ⟨x1, x2⟩ := p2 T L hT hL (fun y hy => h1 y (List.mem_append_left _ hy)) (fun y hy => h2 y (List.mem_append_left _ hy))
          obtain ⟨y1, y2⟩ := q3 T L hT hL (fun y hy => h1 y (List.mem_append_right _ hy)) (fun y hy => h2 y (List.mem_append_right _ hy))
          refine ⟨fun i cs hm => ?_, fun t b hm => ?_⟩
          · rcases List.mem_append.1 hm with hm | hm
            · exact x2 i cs hm
            · exact y1 i cs hm
          · rcases List.mem_cons.1 hm with e | hm
            · cases e
              exact ⟨a, by simp, x1⟩
            · obtain ⟨t', b', r1, r2, r3⟩ := q2 _ _ hm
              cases r1
              obtain ⟨c, c1, c2⟩ := y2 t b hm
              refine ⟨c, ?_, c2⟩
              rw [show t - j = (t - (j + 1)) + 1 by omega]
              simpa using c1
      · cases h
    · cases h

theorem hand_gen {as : List AV} {sl en : St} {lk : Lk} (p1 : PkOk σ en lk) (p2 : ∀ K kv, (K, kv) ∈ sl → ∃ t a, K = .S t ∧ kv = .av a)
    (x1 : BoxX σ (sl ++ en) lk en) (x2 : ∀ (t : Nat) a', (Key.S t, KV.av a') ∈ sl → ∃ a, as[t]? = some a ∧ XA σ (look (sl ++ en)) (lookL lk) a' a)
    (hL1 : ndK (lk.map (·.1)) = true) (hL2 : ndK (lk.map (·.2)) = true) : Hand σ (look (sl ++ en)) (lookL lk) (lookL lk.swap) as := by
  have hmem : ∀ K kv, look (sl ++ en) K = kv → kv = .none ∨ (K, kv) ∈ sl ∨ (K, kv) ∈ en := fun K kv hk => by
    rcases look_mem hk with h | h
    · exact .inl h
    · exact .inr (List.mem_append.1 h)
  have hen : ∀ K kv, (K, kv) ∈ en → ∀ t, K ≠ .S t := fun K kv hm t e => by
    subst e
    rcases p1 _ _ hm with ⟨k, st, e, xs, q1, q2, q3, q4, q5⟩ | ⟨j, d, st, cs, cs', q1, _⟩
    · cases q4
    · cases q1
  refine ⟨lookL_bij hL1 hL2, fun t => ?_, fun t a' ht => ?_, fun j => ?_, fun K st own e xs hK => ?_⟩
  · rcases hmem (.S t) _ rfl with h | h | h
    · exact .inr h
    · obtain ⟨t', a, e1, e2⟩ := p2 _ _ h
      exact .inl ⟨a, e2⟩
    · exact absurd rfl (hen _ _ h t)
  · rcases hmem (.S t) _ ht with h | h | h
    · cases h
    · exact x2 t a' h
    · exact absurd rfl (hen _ _ h t)
  · rcases hmem (.B j) _ rfl with h | h | h
    · exact .inl h
    · obtain ⟨t', a, e1, _⟩ := p2 _ _ h
      cases e1
    · rcases p1 _ _ h with ⟨k, st, e, xs, q1, q2, q3, q4, q5⟩ | ⟨j', d, st, cs, cs', q1, q2, q3, q4⟩
      · cases q4
      · cases q1
        rw [q2] at h
        obtain ⟨d', st', c2, r1, r2, r3⟩ := x1 j cs h
        exact .inr ⟨0, cs, d', st', c2, q2, lookL_of hL1 r1, r2, r3⟩
  · rcases hmem K _ hK with h | h | h
    · cases h
    · obtain ⟨t', a, e1, e2⟩ := p2 _ _ h
      cases e2
    · rcases p1 _ _ h with ⟨k, st', e', xs', q1, q2, q3, q4, q5⟩ | ⟨j', d, st, cs, cs', q1, q2, q3, q4⟩
      · simp only [KV.rw.injEq] at q1
        obtain ⟨rfl, rfl, rfl, rfl⟩ := q1
        exact ⟨rfl, k, st', lookL_of hL1 q2, q3⟩
      · cases q2

theorem hand_of_pk (hR : RE P E σ tm w ow) {as : List AV} {sl en : St} {lk : Lk} (h : pkArgs σ 0 as = some (sl, en, lk)) (hT : ndK ((sl ++ en).map (·.1)) = true) (hL1 : ndK (lk.map (·.1)) = true) (hL2 : ndK (lk.map (·.2)) = true) :
    Hand σ (look (sl ++ en)) (lookL lk) (lookL lk.swap) as := by
  obtain ⟨p1, p2, p3⟩ := pkArgs_spec hR h
  obtain ⟨x1, x2⟩ := p3 (sl ++ en) lk hT hL1 (fun y hy => List.mem_append_right _ hy) (fun y hy => hy)
  refine hand_gen p1 (fun K kv hm => ?_) x1 (fun t a' hm => ?_) hL1 hL2
  · obtain ⟨t, a, e1, e2, _⟩ := p2 K kv hm
    exact ⟨t, a, e1, e2⟩
  · obtain ⟨a, c1, c2⟩ := x2 t a' hm
    exact ⟨a, by simpa using c1, c2⟩

end
end Go.Pw
namespace Go.Pw
variable [Mode]
set_option linter.unusedSimpArgs false
set_option linter.unusedVariables false
set_option linter.unusedSectionVars false

section
variable {P : Program} {E : Env} {σ : Look} {tm : Array Value} {w : World} {ow : Ow}

theorem rl_mem {lk : Lk} {dst : Option Nat} {ret : St} {K k : Key} (h : (K, k) ∈ rlOf lk dst ret) : bkK lk dst K = some k := by
  unfold rlOf at h
  obtain ⟨x, hx, e⟩ := List.mem_filterMap.1 h
  cases hb : bkK lk dst x.1 with
  | none => simp [hb] at e
  | some k' => simp [hb] at e; rw [← e.1, hb, e.2]

theorem bkK_B {lk : Lk} {dst : Option Nat} {K : Key} {d : Nat} (h : bkK lk dst K = some (.B d)) : ∃ j, K = .B j ∧ lookL lk (.B j) = some (.B d) := by
  unfold bkK at h
  split at h
  · rename_i j; exact ⟨j, rfl, h⟩
  · split at h
    · cases h
    · cases h
  · cases dst <;> simp at h
  · cases h

theorem unE_key {R : Look} {rl : Lk} : ∀ {l r : St}, unE σ R rl l = some r → ∀ k v, (k, v) ∈ r → isRowKey k = true ∨ ∃ d, k = .B d
  | [], r, h, k, v, hm => by
    simp only [unE, Option.some.injEq] at h
    subst h; cases hm
  | (K, kv) :: l, r, h, k, v, hm => by
    simp only [unE] at h
    split at h
    · cases h
    · rename_i r0 h0
      split at h
      · split at h
        · simp only [Option.some.injEq] at h
          subst h
          rcases List.mem_cons.1 hm with e | hm
          · cases e; exact .inr ⟨_, rfl⟩
          · exact unE_key h0 k v hm
        · cases h
      · split at h
        · rename_i hk
          simp only [Option.some.injEq] at h
          subst h
          rcases List.mem_cons.1 hm with e | hm
          · cases e; exact .inl hk
          · exact unE_key h0 k v hm
        · cases h
      · cases h
      · cases h
      · simp only [Option.some.injEq] at h
        subst h
        exact unE_key h0 k v hm

theorem unE_row {R : Look} {rl : Lk} : ∀ {l r : St}, unE σ R rl l = some r → ∀ K s e xs, (K, KV.rw s true e xs) ∈ l → ∃ k, lookL rl K = some k ∧ isRowKey k = true ∧ (k, KV.rw (nst (σ k)) true e xs) ∈ r
  | [], r, h, K, s, e, xs, hm => by cases hm
  | (K0, kv) :: l, r, h, K, s, e, xs, hm => by
    simp only [unE] at h
    split at h
    · cases h
    · rename_i r0 h0
      rcases List.mem_cons.1 hm with e1 | hm
      · cases e1
        cases hl : lookL rl K0 with
        | none => rw [hl] at h; simp at h
        | some k =>
          rw [hl] at h
          simp only at h
          split at h
          · rename_i hk
            simp only [Option.some.injEq] at h
            subst h
            exact ⟨k, rfl, hk, by simp⟩
          · cases h
      · obtain ⟨k, k1, k2, k3⟩ := unE_row h0 K s e xs hm
        refine ⟨k, k1, k2, ?_⟩
        split at h
        · split at h
          · simp only [Option.some.injEq] at h
            subst h
            exact List.mem_cons_of_mem _ k3
          · cases h
        · split at h
          · simp only [Option.some.injEq] at h
            subst h
            exact List.mem_cons_of_mem _ k3
          · cases h
        · cases h
        · cases h
        · simp only [Option.some.injEq] at h
          subst h
          exact k3

theorem unE_box {R : Look} {rl : Lk} : ∀ {l r : St}, unE σ R rl l = some r → ∀ K s cs, (K, KV.bx s cs) ∈ l → ∃ d cs' st, lookL rl K = some (.B d) ∧ unL σ R rl cs = some cs' ∧ (σ (.B d)).stamp = some st ∧ (Key.B d, KV.bx st cs') ∈ r
  | [], r, h, K, s, cs, hm => by cases hm
  | (K0, kv) :: l, r, h, K, s, cs, hm => by
    simp only [unE] at h
    split at h
    · cases h
    · rename_i r0 h0
      rcases List.mem_cons.1 hm with e1 | hm
      · cases e1
        cases hl : lookL rl K0 with
        | none => rw [hl] at h; simp at h
        | some k =>
          rw [hl] at h
          cases k <;> simp only at h <;> (try (cases h; done))
          rename_i d
          split at h
          · rename_i cs' st h1 h2
            simp only [Option.some.injEq] at h
            subst h
            exact ⟨d, cs', st, rfl, h1, h2, by simp⟩
          · cases h
      · obtain ⟨d, cs', st, k1, k2, k3, k4⟩ := unE_box h0 K s cs hm
        refine ⟨d, cs', st, k1, k2, k3, ?_⟩
        split at h
        · split at h
          · simp only [Option.some.injEq] at h
            subst h
            exact List.mem_cons_of_mem _ k4
          · cases h
        · split at h
          · simp only [Option.some.injEq] at h
            subst h
            exact List.mem_cons_of_mem _ k4
          · cases h
        · cases h
        · cases h
        · simp only [Option.some.injEq] at h
          subst h
          exact k4

/-- from what is written back to what the callee returned -/
theorem unE_inv {R : Look} {rl : Lk} : ∀ {l r : St}, unE σ R rl l = some r → ∀ k v, (k, v) ∈ r →
    (∃ K s cs cs' st d, k = .B d ∧ v = .bx st cs' ∧ (K, KV.bx s cs) ∈ l ∧ lookL rl K = some (.B d) ∧ unL σ R rl cs = some cs' ∧ (σ (.B d)).stamp = some st) ∨
    (∃ K s e xs, v = .rw (nst (σ k)) true e xs ∧ isRowKey k = true ∧ (K, KV.rw s true e xs) ∈ l ∧ lookL rl K = some k)
  | [], r, h, k, v, hm => by
    simp only [unE, Option.some.injEq] at h
    subst h; cases hm
  | (K0, kv) :: l, r, h, k, v, hm => by
    simp only [unE] at h
    have lift : (∃ K s cs cs' st d, k = .B d ∧ v = .bx st cs' ∧ (K, KV.bx s cs) ∈ l ∧ lookL rl K = some (.B d) ∧ unL σ R rl cs = some cs' ∧ (σ (.B d)).stamp = some st) ∨
        (∃ K s e xs, v = .rw (nst (σ k)) true e xs ∧ isRowKey k = true ∧ (K, KV.rw s true e xs) ∈ l ∧ lookL rl K = some k) →
        (∃ K s cs cs' st d, k = .B d ∧ v = .bx st cs' ∧ (K, KV.bx s cs) ∈ (K0, kv) :: l ∧ lookL rl K = some (.B d) ∧ unL σ R rl cs = some cs' ∧ (σ (.B d)).stamp = some st) ∨
        (∃ K s e xs, v = .rw (nst (σ k)) true e xs ∧ isRowKey k = true ∧ (K, KV.rw s true e xs) ∈ (K0, kv) :: l ∧ lookL rl K = some k) := by
      rintro (⟨K, s, cs, cs', st, d, q1, q2, q3, q4⟩ | ⟨K, s, e, xs, q1, q2, q3, q4⟩)
      · exact .inl ⟨K, s, cs, cs', st, d, q1, q2, List.mem_cons_of_mem _ q3, q4⟩
      · exact .inr ⟨K, s, e, xs, q1, q2, List.mem_cons_of_mem _ q3, q4⟩
    split at h
    · cases h
    · rename_i r0 h0
      split at h
      · rename_i s cs d hl
        split at h
        · rename_i cs' st h1 h2
          simp only [Option.some.injEq] at h
          subst h
          rcases List.mem_cons.1 hm with e | hm
          · cases e
            exact .inl ⟨K0, s, cs, cs', st, d, rfl, rfl, by simp, hl, h1, h2⟩
          · exact lift (unE_inv h0 k v hm)
        · cases h
      · rename_i s e xs k' hl
        split at h
        · rename_i hk
          simp only [Option.some.injEq] at h
          subst h
          rcases List.mem_cons.1 hm with e1 | hm
          · cases e1
            exact .inr ⟨K0, s, e, xs, rfl, hk, by simp, hl⟩
          · exact lift (unE_inv h0 k v hm)
        · cases h
      · cases h
      · cases h
      · simp only [Option.some.injEq] at h
        subst h
        exact lift (unE_inv h0 k v hm)

theorem deads_key {lk : Lk} : ∀ k v, (k, v) ∈ deads σ lk → isRowKey k = true ∧ v = .dead (nst (σ k)) := by
  induction lk with
  | nil => intro k v h; cases h
  | cons x lk ih =>
    obtain ⟨a, b⟩ := x
    intro k v h
    cases b <;> simp only [deads] at h
    case S => exact ih k v h
    case B => exact ih k v h
    case RS =>
      rcases List.mem_cons.1 h with e | h
      · cases e; exact ⟨rfl, rfl⟩
      · exact ih k v h
    case RC =>
      rcases List.mem_cons.1 h with e | h
      · cases e; exact ⟨rfl, rfl⟩
      · exact ih k v h
theorem deads_mem {lk : Lk} {K k : Key} (h : (K, k) ∈ lk) (hk : isRowKey k = true) : ∃ v, (k, v) ∈ deads σ lk := by
  induction lk with
  | nil => cases h
  | cons x lk ih =>
    obtain ⟨a, b⟩ := x
    rcases List.mem_cons.1 h with e | h
    · cases e
      cases k with
      | S t => cases hk
      | B d => cases hk
      | RS t c => exact ⟨.dead (nst (σ (.RS t c))), by simp [deads]⟩
      | RC t c => exact ⟨.dead (nst (σ (.RC t c))), by simp [deads]⟩
    · obtain ⟨v, hv⟩ := ih h
      refine ⟨v, ?_⟩
      cases b <;> simp only [deads] <;> first
        | exact hv
        | exact List.mem_cons_of_mem _ hv

mutual
theorem unA_XA {R σf : Look} {rl : Lk} {kb : Key → Option Key} (h1 : ∀ K k s e xs, lookL rl K = some k → R K = .rw s true e xs → kb k = some K ∧ (σf k).stamp = some (nst (σ k)))
    (h2 : ∀ j d s cs, lookL rl (.B j) = some (.B d) → R (.B j) = .bx s cs → kb (.B d) = some (.B j) ∧ (σf (.B d)).stamp = (σ (.B d)).stamp) : ∀ (a a' : AV), unA σ R rl a = some a' → XA R σf kb a' a
  | .undef, a', h => by simp only [unA, Option.some.injEq] at h; subst h; simp [XA, AV.isMk]
  | .pv p, a', h => by simp only [unA, Option.some.injEq] at h; subst h; simp [XA]
  | .emp, a', h => by simp only [unA, Option.some.injEq] at h; subst h; simp [XA]
  | .rf K s, a', h => by
    simp only [unA] at h
    split at h
    · rename_i s' e xs hK
      split at h
      · rename_i hs
        subst hs
        cases hl : lookL rl K with
        | none => simp [hl] at h
        | some k =>
          simp only [hl, Option.map_some, Option.some.injEq] at h
          subst h
          simp only [XA]
          obtain ⟨q1, q2⟩ := h1 K k s e xs hl hK
          exact ⟨q1, ⟨e, xs, hK⟩, q2⟩
      · cases h
    · rename_i s' e xs hK
      split at h
      · rename_i hs
        subst hs
        simp only [Option.some.injEq] at h
        subst h
        simp only [XA]
        exact ⟨e, xs, rfl, hK⟩
      · cases h
    · cases h
  | .ptr j off s, a', h => by
    simp only [unA] at h
    split at h
    · rename_i s' cs d hR hl
      split at h
      · rename_i hs
        subst hs
        cases hst : (σ (.B d)).stamp with
        | none => simp [hst] at h
        | some st =>
          simp only [hst, Option.map_some, Option.some.injEq] at h
          subst h
          simp only [XA]
          obtain ⟨q1, q2⟩ := h2 j d s cs hl hR
          exact ⟨trivial, q1, by rw [hR]; rfl, by rw [q2, hst]⟩
      · cases h
    · cases h
  | .agg cs, a', h => by
    simp only [unA] at h
    cases hu : unL σ R rl cs with
    | none => simp [hu] at h
    | some cs' =>
      simp only [hu, Option.map_some, Option.some.injEq] at h
      subst h
      simp only [XA]
      exact unL_XL h1 h2 cs cs' hu
  | .tup cs, a', h => by
    simp only [unA] at h
    cases hu : unL σ R rl cs with
    | none => simp [hu] at h
    | some cs' =>
      simp only [hu, Option.map_some, Option.some.injEq] at h
      subst h
      simp only [XA]
      exact unL_XL h1 h2 cs cs' hu
  | .clo f a b, a', h => by
    simp only [unA] at h
    split at h
    · rename_i x y hx hy
      simp only [Option.some.injEq] at h
      subst h
      simp only [XA]
      exact ⟨trivial, unL_XL h1 h2 a x hx, unL_XL h1 h2 b y hy⟩
    · cases h
  | .rptr .., a', h => by simp [unA] at h
  | .when .., a', h => by simp [unA] at h
theorem unL_XL {R σf : Look} {rl : Lk} {kb : Key → Option Key} (h1 : ∀ K k s e xs, lookL rl K = some k → R K = .rw s true e xs → kb k = some K ∧ (σf k).stamp = some (nst (σ k)))
    (h2 : ∀ j d s cs, lookL rl (.B j) = some (.B d) → R (.B j) = .bx s cs → kb (.B d) = some (.B j) ∧ (σf (.B d)).stamp = (σ (.B d)).stamp) : ∀ (as as' : List AV), unL σ R rl as = some as' → XL R σf kb as' as
  | [], as', h => by simp only [unL, Option.some.injEq] at h; subst h; trivial
  | a :: as, as', h => by
    simp only [unL] at h
    split at h
    · rename_i x y hx hy
      simp only [Option.some.injEq] at h
      subst h
      simp only [XL]
      exact ⟨unA_XA h1 h2 a x hx, unL_XL h1 h2 as y hy⟩
    · cases h
end

theorem back_of {lk : Lk} {dst : Option Nat} {ret wr : St} (h : callBack σ lk dst ret = some wr) :
    Back σ (look ret) (lookL lk) (lookL lk.swap) (lookL (rlOf lk dst ret)) (lookL (rlOf lk dst ret).swap) dst wr ∧ ndK (lk.map (·.1)) = true ∧ ndK (lk.map (·.2)) = true := by
  unfold callBack at h
  simp only at h
  generalize hrl : rlOf lk dst ret = rl at h
  split at h
  · rename_i r1 hE
    have hex : ∃ hd : St, wr = hd ++ r1 ++ deads σ lk ∧ okBack lk rl ret r1 = true ∧ ((dst = none ∧ hd = []) ∨ ∃ d a, dst = some d ∧ hd = [(.S d, .av a)] ∧ unA σ (look ret) rl (look ret (.S 0)).slot = some a) := by
      cases dst with
      | none =>
        simp only at h
        obtain ⟨hok, h⟩ := ite_some h
        simp only [Option.some.injEq] at h
        exact ⟨[], by simp [h.symm], hok, .inl ⟨rfl, rfl⟩⟩
      | some d =>
        simp only at h
        split at h
        · rename_i a ha
          obtain ⟨hok, h⟩ := ite_some h
          simp only [Option.some.injEq] at h
          exact ⟨[(.S d, .av a)], by simp [h.symm], hok, .inr ⟨d, a, rfl, rfl, ha⟩⟩
        · cases h
    obtain ⟨hd, hwr, hok, hhd⟩ := hex
    simp only [okBack, Bool.and_eq_true, List.all_eq_true] at hok
    obtain ⟨⟨⟨⟨⟨⟨o1, o2⟩, o3⟩, o4⟩, o5⟩, o6⟩, o7⟩ := hok
    have hhdk : ∀ k v, (k, v) ∈ hd → ∃ d, k = .S d ∧ dst = some d := by
      intro k v hm
      rcases hhd with ⟨_, rfl⟩ | ⟨d, a, e1, rfl, _⟩
      · cases hm
      · simp at hm; exact ⟨d, hm.1, e1⟩
    have hr1k : ∀ k v, (k, v) ∈ r1 → isRowKey k = true ∨ ∃ d, k = .B d := fun k v hm => unE_key hE k v hm
    have hr1S : ∀ t v, (Key.S t, v) ∉ r1 := fun t v hm => by rcases hr1k _ _ hm with h | ⟨d, h⟩ <;> cases h
    have nd1 : ndK ((hd ++ r1).map (·.1)) = true := by
      rcases hhd with ⟨_, rfl⟩ | ⟨d, a, _, rfl, _⟩
      · simpa using o6
      · simp only [List.singleton_append, List.map_cons, ndK, Bool.and_eq_true, Bool.not_eq_true']
        refine ⟨?_, o6⟩
        simp only [List.contains_eq_mem, List.mem_map, decide_eq_false_iff_not, not_exists, not_and]
        rintro ⟨k, v⟩ hm rfl
        exact hr1S d v hm
    have hfirst : ∀ k v, (k, v) ∈ r1 → updL σ wr k = v := fun k v hm => by
      rw [hwr]; exact updL_first nd1 (List.mem_append_right _ hm)
    have hmemwr : ∀ k v, (k, v) ∈ wr → (k, v) ∈ hd ∨ (k, v) ∈ r1 ∨ (k, v) ∈ deads σ lk := fun k v hm => by
      rw [hwr] at hm
      rcases List.mem_append.1 hm with hm | hm
      · rcases List.mem_append.1 hm with hm | hm
        · exact .inl hm
        · exact .inr (.inl hm)
      · exact .inr (.inr hm)
    have hkb : ∀ K k, lookL rl K = some k → lookL rl.swap k = some K := fun K k hl => (lookL_bij o3 o4 K k).1 hl
    have hbk : ∀ K k, lookL rl.swap k = some K → lookL rl K = some k := fun K k hl => (lookL_bij o3 o4 K k).2 hl
    have hret : ∀ K kv, look ret K = kv → kv = .none ∨ (K, kv) ∈ ret := fun K kv hk => look_mem hk
    have hx1 : ∀ K k s e xs, lookL rl K = some k → look ret K = .rw s true e xs → lookL rl.swap k = some K ∧ (updL σ wr k).stamp = some (nst (σ k)) := by
      intro K k s e xs hl hK
      refine ⟨hkb K k hl, ?_⟩
      rcases hret K _ hK with h | h
      · cases h
      · obtain ⟨k', q1, q2, q3⟩ := unE_row hE K s e xs h
        rw [hl] at q1
        cases q1
        rw [hfirst _ _ q3]; rfl
    have hx2 : ∀ j d s cs, lookL rl (.B j) = some (.B d) → look ret (.B j) = .bx s cs → lookL rl.swap (.B d) = some (.B j) ∧ (updL σ wr (.B d)).stamp = (σ (.B d)).stamp := by
      intro j d s cs hl hK
      refine ⟨hkb _ _ hl, ?_⟩
      rcases hret _ _ hK with h | h
      · cases h
      · obtain ⟨d', cs', st, q1, q2, q3, q4⟩ := unE_box hE _ s cs h
        rw [hl] at q1
        cases q1
        rw [hfirst _ _ q4, q3]; rfl
    have hlt : ∀ j d, lookL lk (.B j) = some (.B d) → j < 1000 ∧ ∃ v, (Key.B d, v) ∈ r1 := by
      intro j d hl
      have := o7 _ (lookL_mem hl)
      simp only [Bool.and_eq_true, decide_eq_true_eq, List.any_eq_true, beq_iff_eq] at this
      obtain ⟨q1, ⟨x, hx⟩, q2, q3⟩ := this
      refine ⟨q1, hx, ?_⟩
      simp only at q3
      rw [← q3]; exact q2
    refine ⟨⟨lookL_bij o3 o4, fun d hd' => ?_, fun t v hm => ?_, fun k hk => ?_, fun k K s e xs hk hK => ?_, fun d hd' => ?_, fun t ht => ?_, fun d v hm => ?_, fun d K hk => ?_, fun k v hm hS hB => ?_⟩, o1, o2⟩
    · rcases hhd with ⟨e, _⟩ | ⟨d', a, e1, rfl, _⟩
      · rw [hd'] at e; cases e
      · rw [hd'] at e1
        cases e1
        exact ⟨.av a, by rw [hwr]; simp⟩
    · rcases hmemwr _ _ hm with h | h | h
      · obtain ⟨d, e1, e2⟩ := hhdk _ _ h
        cases e1; exact e2.symm
      · exact absurd h (hr1S t v)
      · have := (deads_key _ _ h).1
        cases this
    · obtain ⟨K, hK⟩ := hk
      have hl := (lookL_bij o1 o2 K k).2 hK
      have hmem := lookL_mem hl
      have hall := o7 _ hmem
      cases k with
      | S t => cases K <;> simp [isRowKey] at hall
      | B d =>
        cases K with
        | B j => obtain ⟨_, v, hv⟩ := hlt j d hl; exact ⟨v, by rw [hwr]; simp [hv]⟩
        | _ => simp [isRowKey] at hall
      | RS t c =>
        obtain ⟨v, hv⟩ := deads_mem (σ := σ) hmem rfl
        exact ⟨v, by rw [hwr]; simp [hv]⟩
      | RC t c =>
        obtain ⟨v, hv⟩ := deads_mem (σ := σ) hmem rfl
        exact ⟨v, by rw [hwr]; simp [hv]⟩
    · have hl := hbk K k hk
      rcases hret K _ hK with h | h
      · cases h
      · obtain ⟨k', q1, q2, q3⟩ := unE_row hE K s e xs h
        rw [hl] at q1
        cases q1
        exact ⟨_, by rw [hwr]; exact List.mem_append_left _ (List.mem_append_right _ q3)⟩
    · rcases hhd with ⟨e, _⟩ | ⟨d', a, e1, rfl, e3⟩
      · rw [hd'] at e; cases e
      · rw [hd'] at e1
        cases e1
        refine ⟨a, by rw [hwr]; simp [updL], ?_⟩
        exact unA_XA hx1 hx2 _ _ e3
    · refine updL_not_mem fun v hm => ?_
      rcases hmemwr _ _ hm with h | h | h
      · obtain ⟨d, e1, e2⟩ := hhdk _ _ h
        cases e1; exact ht e2.symm
      · exact absurd h (hr1S t v)
      · have := (deads_key _ _ h).1
        cases this
    · have hmr : (Key.B d, v) ∈ r1 := by
        rcases hmemwr _ _ hm with h | h | h
        · obtain ⟨d', e1, _⟩ := hhdk _ _ h; cases e1
        · exact h
        · have := (deads_key _ _ h).1
          cases this
      rcases unE_inv hE _ _ hmr with ⟨K, s, cs, cs', st, d', q1, q2, q3, q4, q5, q6⟩ | ⟨K, s, e, xs, q1, q2, _⟩
      · cases q1
        subst q2
        have hb := rl_mem (hrl ▸ lookL_mem q4)
        obtain ⟨j, rfl, hl⟩ := bkK_B hb
        refine ⟨j, st, cs', cs, s, hl, q4, (hlt j d hl).1, q6, hfirst _ _ hmr, look_of o5 q3, unL_XL hx1 hx2 _ _ q5⟩
      · cases q2
    · have hl := hbk K _ hk
      have hb := rl_mem (hrl ▸ lookL_mem hl)
      obtain ⟨j, rfl, hl'⟩ := bkK_B hb
      exact ⟨j, rfl, hl', (hlt j d hl').1⟩
    · by_cases hr : ∃ v', (k, v') ∈ r1
      · obtain ⟨v', hv'⟩ := hr
        rcases unE_inv hE _ _ hv' with ⟨K, s, cs, cs', st, d', q1, _⟩ | ⟨K, s, e, xs, q1, q2, q3, q4⟩
        · exact absurd q1 (hB d')
        · refine .inr ⟨nst (σ k), K, s, e, xs, by rw [hfirst _ _ hv', q1], hkb _ _ q4, look_of o5 q3, fun s' hs' => nst_lt hs'⟩
      · have hdm : (k, v) ∈ deads σ lk := by
          rcases hmemwr _ _ hm with h | h | h
          · obtain ⟨d', e1, _⟩ := hhdk _ _ h; exact absurd e1 (hS d')
          · exact absurd ⟨v, h⟩ hr
          · exact h
        have hne : ∀ v', (k, v') ∉ hd ++ r1 := fun v' hv' => by
          rcases List.mem_append.1 hv' with h | h
          · obtain ⟨d', e1, _⟩ := hhdk _ _ h; exact absurd e1 (hS d')
          · exact hr ⟨v', h⟩
        have e1 : updL σ wr k = updL σ (deads σ lk) k := by
          rw [hwr, updL_append, updL_not_mem hne]
        have e2 := (deads_key _ _ (updL_mem (σ := σ) ⟨v, hdm⟩)).2
        exact .inl ⟨nst (σ k), by rw [e1, e2], fun s hs => nst_lt hs⟩
  · cases h

end
end Go.Pw
