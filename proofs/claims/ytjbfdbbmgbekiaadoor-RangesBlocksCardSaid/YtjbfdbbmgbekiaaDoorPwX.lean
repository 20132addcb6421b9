/- An operation hangs on its foot only. -/
import Derived.Test.YtjbfdbbmgbekiaaDoorPwU
namespace Go.Pw
variable [Mode]
set_option linter.unusedSimpArgs false
set_option linter.unusedVariables false
set_option linter.unusedSectionVars false

section
variable {P : Program} {σ σ' : Look}

theorem updL_ag {w : St} {k : Key} (h : σ' k = σ k) : updL σ' w k = updL σ w k := by
  induction w with
  | nil => exact h
  | cons x l ih => obtain ⟨a, b⟩ := x; simp only [updL]; split <;> first | rfl | exact ih

theorem rowAt_ag {k : Key} {st : Nat} (h : σ' k = σ k) : rowAt σ' k st = rowAt σ k st := by unfold rowAt; rw [h]
theorem boxAt_ag {d st : Nat} (h : σ' (.B d) = σ (.B d)) : boxAt σ' d st = boxAt σ d st := by unfold boxAt; rw [h]

theorem fz1_ag {a : AV} (h : ∀ k ∈ cellKeys [a], σ' k = σ k) : fz1 σ' a = fz1 σ a := by
  cases a with
  | rf k st => simp only [fz1]; rw [rowAt_ag (h k (by simp [cellKeys, cellKey1]))]
  | _ => rfl

theorem cellKeys_cons {a : AV} {l : List AV} : cellKeys (a :: l) = cellKeys [a] ++ cellKeys l := by
  cases a <;> simp [cellKeys, cellKey1]

theorem fzCells_ag : ∀ {as : List AV} {σ σ' : Look}, (∀ k ∈ cellKeys as, σ' k = σ k) → fzCells σ' as = fzCells σ as
  | [], σ, σ', h => rfl
  | a :: as, σ, σ', h => by
    simp only [fzCells]
    rw [fz1_ag (fun k hk => h k (by rw [cellKeys_cons]; exact List.mem_append_left _ hk))]
    split
    · rename_i p w1 _
      rw [fzCells_ag (σ := updL σ w1) (σ' := updL σ' w1) (fun k hk => updL_ag (h k (by rw [cellKeys_cons]; exact List.mem_append_right _ hk)))]
    · rfl

theorem cells_reach {a : AV} {k : Key} (h : k ∈ cellKeys a.cells) : k ∈ reachA σ a := by
  cases a <;> simp_all [AV.cells, cellKeys, cellKey1, reachA]

theorem fzParts_ag {s : Nat} : ∀ {as : List AV} {σ σ' : Look}, (∀ a ∈ as, ∀ k ∈ cellKeys a.cells, σ' k = σ k) → fzParts σ' s as = fzParts σ s as
  | [], σ, σ', h => rfl
  | a :: as, σ, σ', h => by
    simp only [fzParts]
    rw [fzCells_ag (fun k hk => h a (by simp) k hk)]
    split
    · split
      · rename_i p w1 _
        rw [fzParts_ag (σ := updL σ w1) (σ' := updL σ' w1) (fun b hb k hk => updL_ag (h b (by simp [hb]) k hk))]
      · rfl
    · rfl

theorem mv1_ag {d j : Nat} {a a' : AV} {w : St} (h : mv1 σ d j a = some (a', w)) (hc : ∀ k ∈ cellKeys [a], σ' k = σ k) (hw : ∀ k v, (k, v) ∈ w → σ' k = σ k) : mv1 σ' d j a = some (a', w) := by
  cases a with
  | rf k st =>
    have hk := hc k (by simp [cellKeys, cellKey1])
    simp only [mv1] at h ⊢
    rw [hk]
    split at h
    · split at h
      · rename_i h1
        rw [if_pos h1]
        split at h
        · rename_i h2; rw [if_pos h2]; exact h
        · rename_i h2
          rw [if_neg h2]
          simp only [Option.some.injEq, Prod.mk.injEq] at h
          obtain ⟨rfl, rfl⟩ := h
          rw [hw (.RC d j) _ (List.mem_cons_self ..)]
      · cases h
    · exact h
    · cases h
  | _ => exact h

theorem mvCells_ag {d : Nat} : ∀ {as as' : List AV} {j : Nat} {w : St} {σ σ' : Look}, mvCells σ d j as = some (as', w) → (∀ k ∈ cellKeys as, σ' k = σ k) → (∀ k v, (k, v) ∈ w → σ' k = σ k) → mvCells σ' d j as = some (as', w)
  | [], as', j, w, σ, σ', h, hc, hw => h
  | a :: as, as', j, w, σ, σ', h, hc, hw => by
    simp only [mvCells] at h ⊢
    split at h
    · rename_i a1 w1 h1
      split at h
      · rename_i as1 w2 h2
        simp only [Option.some.injEq, Prod.mk.injEq] at h
        obtain ⟨rfl, rfl⟩ := h
        rw [mv1_ag h1 (fun k hk => hc k (by rw [cellKeys_cons]; exact List.mem_append_left _ hk)) (fun k v hv => hw k v (List.mem_append_right _ hv))]
        simp only
        rw [mvCells_ag (σ' := updL σ' w1) h2 (fun k hk => updL_ag (hc k (by rw [cellKeys_cons]; exact List.mem_append_right _ hk))) (fun k v hv => updL_ag (hw k v (List.mem_append_left _ hv)))]
      · cases h
    · cases h

theorem nst_ag {k : Key} (h : σ' k = σ k) : nst (σ' k) = nst (σ k) := by rw [h]

theorem stoR_ag {ρ : Operand → AV} {dst : Option Nat} {op : Op} {e : Eff} (h : stoR P σ ρ dst op = some e)
    (ha : ∀ x ∈ op.operands.toList, ∀ k ∈ reachA σ (ρ x), σ' k = σ k) (hw : ∀ k v, (k, v) ∈ e.wr → σ' k = σ k) : stoR P σ' ρ dst op = some e := by
  unfold stoR at h
  split at h
  · -- assign
    rename_i x d
    have hx := ha x (by simp [Op.operands])
    simp only [stoR]
    split at h
    · rename_i k st he
      have hk : σ' k = σ k := hx k (by rw [he]; simp [reachA])
      try simp only [he]
      rw [rowAt_ag hk]
      split at h
      · rename_i e' xs hr
        split at h
        · rename_i hc; simp only [if_pos hc]; exact h
        · rename_i hc
          simp only [if_neg hc]
          simp only [Option.some.injEq] at h
          subst h
          rw [hw (.RS d 0) _ (List.mem_cons_of_mem _ (List.mem_cons_self ..))]
      · exact h
      · cases h
    · rename_i cs he
      try simp only [he]
      exact h
    · cases h
  · rename_i T d
    simp only [stoR]
    split at h
    · rename_i z hz
      simp only [Option.some.injEq] at h
      subst h
      try simp only [hz]
      rw [hw (.B (d + 1000)) _ (List.mem_cons_of_mem _ (List.mem_cons_self ..))]
    · cases h
  · rename_i T x d
    have hx := ha x (by simp [Op.operands])
    simp only [stoR]
    split at h
    · rename_i hok
      rw [if_pos hok]
      split at h
      · rename_i cs w1 hm
        simp only [Option.some.injEq] at h
        subst h
        rw [mvCells_ag (σ' := σ') hm (fun k hk => hx k (cells_reach hk)) (fun k v hv => hw k v (List.mem_append_right _ hv))]
        simp only
        rw [hw (.B (d + 1000)) (.bx (nst (σ (.B (d + 1000)))) cs) (by simp)]
      · cases h
    · cases h
  · rename_i T x d
    have hx := ha x (by simp [Op.operands])
    simp only [stoR]
    split at h
    · rename_i b off st he
      try simp only [he]
      rw [boxAt_ag (hx (.B b) (by rw [he]; simp [reachA]))]
      exact h
    · rename_i k st i s off he
      try simp only [he]
      rw [rowAt_ag (hx k (by rw [he]; simp [reachA]))]
      exact h
    · cases h
  · rename_i T x v
    have hx := ha x (by simp [Op.operands])
    have hv := ha v (by simp [Op.operands])
    simp only [stoR]
    split at h
    · rename_i b off st he
      try simp only [he]
      rw [boxAt_ag (hx (.B b) (by rw [he]; simp [reachA]))]
      split at h
      · rename_i cs hb
        split at h
        · rename_i hc
          simp only [if_pos hc]
          split at h
          · rename_i as w1 hm
            simp only [Option.some.injEq] at h
            subst h
            rw [mvCells_ag (σ' := σ') hm (fun k hk => hv k (cells_reach hk)) (fun k v hv => hw k v (List.mem_cons_of_mem _ hv))]
          · cases h
        · cases h
      · cases h
    · rename_i k st i s off he
      try simp only [he]
      rw [rowAt_ag (hx k (by rw [he]; simp [reachA]))]
      exact h
    · cases h
  · rename_i t len parts d
    simp only [stoR]
    have hp : ∀ a ∈ parts.toList.map (fun (_, x) => ρ x), ∀ k ∈ cellKeys a.cells, σ' k = σ k := by
      intro a hm k hk
      obtain ⟨y, hy, rfl⟩ := List.mem_map.1 hm
      exact ha y.2 (by simp only [Op.operands]; simpa using ⟨y.1, by simpa using hy⟩) k (cells_reach hk)
    split at h
    · rename_i e' he
      split at h
      · rename_i hc
        simp only [if_pos hc]
        rw [fzParts_ag hp]
        split at h
        · rename_i xs w1 hm
          simp only [Option.some.injEq] at h
          subst h
          have hst : nst (updL σ' w1 (.RS d 0)) = nst (updL σ w1 (.RS d 0)) := nst_ag (updL_ag (hw (.RS d 0) (.rw (nst (updL σ w1 (.RS d 0))) true e' xs) (by simp)))
          simp only [hm]
          rw [hst]
        · cases h
      · cases h
    · cases h
  · rename_i c d
    simp only [stoR]
    split at h
    · rename_i s x t tx hc1 hc2 hc3
      have hargs : ∀ y ∈ c.args.toList, y ∈ (Op.call c).operands.toList := fun y hy => by
        simp only [Op.operands, Call.operands, Array.toList_append]; exact List.mem_append_right _ hy
      have hs := ha s (hargs s (by rw [hc2]; simp))
      have hx := ha x (hargs x (by rw [hc2]; simp))
      have hsrc : ∀ e', srcOf P σ' e' tx (ρ x) = srcOf P σ e' tx (ρ x) := by
        intro e'
        unfold srcOf
        split <;> try rfl
        rename_i k st he
        rw [rowAt_ag (hx k (by rw [he]; simp [reachA]))]
      try simp only [hc1, hc2, hc3]
      split at h
      · rename_i e' he'
        rw [hsrc]
        split at h
        · rename_i ys rd hys
          split at h
          · rename_i hc
            simp only [if_pos hc]
            split at h
            · rename_i he
              try simp only [he]
              simp only [Option.some.injEq] at h
              subst h
              rw [hw (.RS d 0) _ (List.mem_cons_of_mem _ (List.mem_cons_self ..))]
            · rename_i k st he
              try simp only [he]
              rw [rowAt_ag (hs k (by rw [he]; simp [reachA]))]
              split at h
              · rename_i e2 xs hr
                split at h
                · rename_i hc'
                  simp only [if_pos hc']
                  simp only [Option.some.injEq] at h
                  subst h
                  rw [hw (.RS d 0) _ (List.mem_cons_of_mem _ (List.mem_cons_self ..))]
                · cases h
              · cases h
            · cases h
          · cases h
        · cases h
      · cases h
    · rename_i x t hc1 hc2 hc3
      have hargs : ∀ y ∈ c.args.toList, y ∈ (Op.call c).operands.toList := fun y hy => by
        simp only [Op.operands, Call.operands, Array.toList_append]; exact List.mem_append_right _ hy
      have hx := ha x (hargs x (by rw [hc2]; simp))
      try simp only [hc1, hc2, hc3]
      split at h
      · rename_i k st he
        try simp only [he]
        rw [rowAt_ag (hx k (by rw [he]; simp [reachA]))]
        exact h
      · cases h
    · cases h
  · rename_i t x i d
    have hx := ha x (by simp [Op.operands])
    simp only [stoR]
    split at h
    · rename_i k st kk n he hi
      try simp only [he, hi]
      rw [rowAt_ag (hx k (by rw [he]; simp [reachA]))]
      exact h
    · cases h
  · rename_i t x lo hi mx d
    have hx := ha x (by simp [Op.operands])
    simp only [stoR]
    split at h
    · rename_i k st he
      try simp only [he]
      rw [rowAt_ag (hx k (by rw [he]; simp [reachA]))]
      exact h
    · cases h
  · rename_i src dst x d
    have hx := ha x (by simp [Op.operands])
    simp only [stoR]
    split at h
    · rename_i l he
      try simp only [he]
      exact h
    · rename_i k st he
      try simp only [he]
      rw [rowAt_ag (hx k (by rw [he]; simp [reachA]))]
      exact h
    · cases h
  · rename_i op t x y yt d
    have hx := ha x (by simp [Op.operands])
    simp only [stoR]
    split at h
    · rename_i hn
      rw [if_pos hn]
      split at h
      · rename_i k st he
        try simp only [he]
        rw [rowAt_ag (hx k (by rw [he]; simp [reachA]))]
        exact h
      · cases h
    · cases h
  · rename_i t len cap d
    simp only [stoR]
    split at h
    · rename_i k1 n k2 m e' h1 h2 h3
      try simp only [h1, h2, h3]
      split at h
      · rename_i z hz
        try simp only [hz]
        split at h
        · rename_i hc
          rw [if_pos hc]
          simp only [Option.some.injEq] at h
          subst h
          rw [hw (.RS d 0) _ (List.mem_cons_of_mem _ (List.mem_cons_self ..))]
        · cases h
      · cases h
    · cases h
  · cases h

theorem pureR_ag {ρ ρ' : Operand → AV} {op : Op} (h : ∀ x ∈ op.operands.toList, ρ' x = ρ x) : pureR P ρ' op = pureR P ρ op := by
  cases op with
  | build t parts =>
    simp only [pureR]
    congr 1
    refine List.map_congr_left fun y hy => ?_
    have := h y.2 (by simp only [Op.operands]; simpa using ⟨y.1, by simpa using hy⟩)
    simp only [this]
  | slice t x lo hi mx =>
    simp only [pureR]
    rw [h x (by simp [Op.operands])]
    have h1 : lo.map ρ' = lo.map ρ := by cases lo with
      | none => rfl
      | some y => simp only [Option.map_some]; rw [h y (by simp [Op.operands])]
    have h2 : hi.map ρ' = hi.map ρ := by cases hi with
      | none => rfl
      | some y => simp only [Option.map_some]; rw [h y (by simp [Op.operands])]
    have h3 : mx.map ρ' = mx.map ρ := by cases mx with
      | none => rfl
      | some y => simp only [Option.map_some]; rw [h y (by simp [Op.operands])]
    rw [h1, h2, h3]
  | call c =>
    simp only [pureR]
    split
    · rename_i b _
      have hargs : ∀ y ∈ c.args.toList, ρ' y = ρ y := fun y hy => h y (by
        simp only [Op.operands, Call.operands, Array.toList_append]; exact List.mem_append_right _ hy)
      generalize c.args.toList = args at *
      unfold binArgs
      split <;> first
        | rfl
        | (rw [hargs _ (by simp)]; done)
        | (rw [hargs _ (by simp), hargs _ (by simp)])
    · rfl
  | makeFunc fn first caps =>
    simp only [pureR]
    have h1 : first.toList.map ρ' = first.toList.map ρ := List.map_congr_left fun y hy => h y (by simp only [Op.operands, Array.toList_append]; exact List.mem_append_left _ hy)
    have h2 : caps.toList.map ρ' = caps.toList.map ρ := List.map_congr_left fun y hy => h y (by simp only [Op.operands, Array.toList_append]; exact List.mem_append_right _ hy)
    rw [h1, h2]
  | _ => first
    | rfl
    | (simp only [pureR]; rw [h _ (by simp [Op.operands])]; done)
    | (simp only [pureR]; rw [h _ (by simp [Op.operands]), h _ (by simp [Op.operands])])

theorem stoR_rho {ρ ρ' : Operand → AV} {dst : Option Nat} {op : Op} (h : ∀ x ∈ op.operands.toList, ρ' x = ρ x) : stoR P σ ρ' dst op = stoR P σ ρ dst op := by
  cases op with
  | buildSlice t len parts =>
    have : parts.toList.map (fun (_, x) => ρ' x) = parts.toList.map (fun (_, x) => ρ x) := List.map_congr_left fun y hy => by
      have := h y.2 (by simp only [Op.operands]; simpa using ⟨y.1, by simpa using hy⟩)
      simp only [this]
    cases dst <;> simp only [stoR]
    rw [this]
  | slice t x lo hi mx =>
    have h1 : lo.map ρ' = lo.map ρ := by cases lo with
      | none => rfl
      | some y => simp only [Option.map_some]; rw [h y (by simp [Op.operands])]
    have h2 : hi.map ρ' = hi.map ρ := by cases hi with
      | none => rfl
      | some y => simp only [Option.map_some]; rw [h y (by simp [Op.operands])]
    have h3 : mx.map ρ' = mx.map ρ := by cases mx with
      | none => rfl
      | some y => simp only [Option.map_some]; rw [h y (by simp [Op.operands])]
    cases dst <;> simp only [stoR]
    rw [h x (by simp [Op.operands]), h1, h2, h3]
  | call c =>
    have hargs : ∀ y ∈ c.args.toList, ρ' y = ρ y := fun y hy => h y (by
      simp only [Op.operands, Call.operands, Array.toList_append]; exact List.mem_append_right _ hy)
    cases dst <;> simp only [stoR]
    generalize c.args.toList = args at *
    split <;> first
      | rfl
      | (rw [hargs _ (by simp)]; done)
      | (rw [hargs _ (by simp), hargs _ (by simp)])
  | _ => cases dst <;> first
    | rfl
    | (simp only [stoR]; rw [h _ (by simp [Op.operands])]; done)
    | (simp only [stoR]; rw [h _ (by simp [Op.operands]), h _ (by simp [Op.operands])])

theorem guardOf_ag {ops : Array Oper} {o : Oper} (h : ∀ k ∈ guardKeys ops o, σ' k = σ k) : guardOf ops σ' o = guardOf ops σ o := by
  unfold guardOf
  split
  · rfl
  · rename_i j want hg
    unfold guardKeys at h
    rw [hg] at h
    simp only at h
    split
    · rfl
    · rename_i g hj
      rw [hj] at h
      rw [h (.S g) (by simp)]

theorem evA_ag {op : Op} (h : ∀ k ∈ opTmps op, σ' k = σ k) : ∀ x ∈ op.operands.toList, evA σ' x = evA σ x := by
  intro x hx
  cases x with
  | tmp t =>
    simp only [evA]
    rw [h (.S t) (List.mem_filterMap.2 ⟨_, hx, rfl⟩)]
  | _ => rfl

theorem reach_sv {a : AV} {k : Key} (h : k ∈ reachA σ a.sv) : k ∈ reachA σ a := by
  cases a <;> simp_all [AV.sv, reachA]

theorem mem_reachL {l : List AV} {a : AV} {k : Key} (ha : a ∈ l) (hk : k ∈ reachA σ a) : k ∈ reachL σ l := by
  induction l with
  | nil => cases ha
  | cons b l ih =>
    simp only [reachL]
    rcases List.mem_cons.1 ha with rfl | ha
    · exact List.mem_append_left _ hk
    · exact List.mem_append_right _ (ih ha)

theorem onlyS_key {d : Nat} {wr : St} {kv : KV} (h : onlyS d wr = some kv) {k : Key} {v : KV} (hv : (k, v) ∈ wr) : ∃ u : Unit, k = .S d := by
  unfold onlyS at h
  split at h
  · split at h
    · rename_i e
      subst e
      simp only [List.mem_singleton, Prod.mk.injEq] at hv
      exact ⟨(), hv.1⟩
    · cases h
  · cases h

theorem stepA_ag {ops : Array Oper} {o : Oper} {e : Eff} (h : stepA P ops σ o = some e) (ha : ∀ k ∈ footK ops σ o e.wr, σ' k = σ k) : stepA P ops σ' o = some e := by
  have hg : guardOf ops σ' o = guardOf ops σ o := guardOf_ag fun k hk => ha k (by simp [footK, hk])
  have hev := evA_ag (σ := σ) (σ' := σ') (op := o.op) fun k hk => ha k (by simp [footK, hk])
  have hr : ∀ x ∈ o.op.operands.toList, ∀ k ∈ reachA σ (evA σ x).sv, σ' k = σ k := fun x hx k hk => ha k (by
    simp only [footK, List.mem_append]
    exact .inl (.inr (mem_reachL (List.mem_map.2 ⟨x, hx, rfl⟩) (reach_sv hk))))
  have hw : ∀ k v, (k, v) ∈ e.wr → σ' k = σ k := fun k v hv => ha k (by
    simp only [footK, List.mem_append]
    exact .inr (List.mem_map.2 ⟨_, hv, rfl⟩))
  have hmap : o.op.operands.toList.map (evA σ') = o.op.operands.toList.map (evA σ) := List.map_congr_left hev
  have hpure : pureR P (fun x => (evA σ' x).sv) o.op = pureR P (fun x => (evA σ x).sv) o.op := pureR_ag fun x hx => by rw [hev x hx]
  obtain ⟨dst, op, ty, pos, after, guard⟩ := o
  simp only at hev hr hmap hpure
  unfold stepA at h ⊢
  rw [hg]
  split at h
  · cases h
  · rename_i g hgg
    simp only at h ⊢
    split at h
    · rename_i x a b d
      rw [hev x (by simp [Op.operands]), hev a (by simp [Op.operands]), hev b (by simp [Op.operands])]
      exact h
    · rw [hpure, hmap]
      split at h
      · exact h
      · exact h
      · rename_i hpn
        split at h
        · rename_i e' he'
          have hst : ∀ dst : Option Nat, stoR P σ' (fun x => (evA σ' x).sv) dst op = stoR P σ' (fun x => (evA σ x).sv) dst op := fun dst => stoR_rho fun x hx => by rw [hev x hx]
          rw [hst]
          split at h
          · simp only [Option.some.injEq] at h
            subst h
            rw [stoR_ag he' hr hw]
          · split at h
            · rename_i d
              split at h
              · rename_i kv hkv
                simp only [Option.some.injEq] at h
                subst h
                rw [stoR_ag he' hr (fun k v hv => ?_)]
                · simp only [hkv]
                · obtain ⟨v', hv'⟩ := onlyS_key hkv hv
                  subst hv'
                  exact hw _ _ (List.mem_cons_self ..)
              · cases h
            · cases h
        · cases h

end
end Go.Pw
