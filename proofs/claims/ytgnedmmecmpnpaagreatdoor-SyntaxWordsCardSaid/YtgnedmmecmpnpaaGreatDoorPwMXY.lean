/- An operation hangs on its foot only. -/
import Derived.Test.YtgnedmmecmpnpaaGreatDoorPuU
namespace Go.Pw
variable [Mode]
set_option linter.unusedSimpArgs false
set_option linter.unusedVariables false
set_option linter.unusedSectionVars false

section
variable {P : Program} {σ σ' : Look}

theorem updL_ag {w : St} {k : Key} (h : σ' k = σ k) : updL σ' w k = updL σ w k := by
  induction w with
  | nil => exact h
  | cons x l ih => obtain ⟨a, b⟩ := x; simp only [updL]; split <;> first | rfl | exact ih

theorem rowAt_ag {k : Key} {st : Nat} (h : σ' k = σ k) : rowAt σ' k st = rowAt σ k st := by unfold rowAt; rw [h]
theorem boxAt_ag {d st : Nat} (h : σ' (.B d) = σ (.B d)) : boxAt σ' d st = boxAt σ d st := by unfold boxAt; rw [h]

theorem fz1_ag {a : AV} (h : ∀ k ∈ cellKeys [a], σ' k = σ k) : fz1 σ' a = fz1 σ a := by
  cases a with
  | rf k st => simp only [fz1]; rw [rowAt_ag (h k (by simp [cellKeys, cellKey1]))]
  | _ => rfl

theorem cellKeys_cons {a : AV} {l : List AV} : cellKeys (a :: l) = cellKeys [a] ++ cellKeys l := by
  cases a <;> simp [cellKeys, cellKey1]

theorem fzCells_ag : ∀ {as : List AV} {σ σ' : Look}, (∀ k ∈ cellKeys as, σ' k = σ k) → fzCells σ' as = fzCells σ as
  | [], σ, σ', h => rfl
  | a :: as, σ, σ', h => by
    simp only [fzCells]
    rw [fz1_ag (fun k hk => h k (by rw [cellKeys_cons]; exact List.mem_append_left _ hk))]
    split
    · rename_i p w1 _
      rw [fzCells_ag (σ := updL σ w1) (σ' := updL σ' w1) (fun k hk => updL_ag (h k (by rw [cellKeys_cons]; exact List.mem_append_right _ hk)))]
    · rfl

theorem cells_reach {a : AV} {k : Key} (h : k ∈ cellKeys a.cells) : k ∈ reachA σ a := by
  cases a <;> simp_all [AV.cells, cellKeys, cellKey1, reachA]

theorem fzParts_ag {s : Nat} : ∀ {as : List AV} {σ σ' : Look}, (∀ a ∈ as, ∀ k ∈ cellKeys a.cells, σ' k = σ k) → fzParts σ' s as = fzParts σ s as
  | [], σ, σ', h => rfl
  | a :: as, σ, σ', h => by
    simp only [fzParts]
    rw [fzCells_ag (fun k hk => h a (by simp) k hk)]
    split
    · split
      · rename_i p w1 _
        rw [fzParts_ag (σ := updL σ w1) (σ' := updL σ' w1) (fun b hb k hk => updL_ag (h b (by simp [hb]) k hk))]
      · rfl
    · rfl

theorem mv1_ag {d j : Nat} (a : AV) : mv1 σ' d j a = mv1 σ d j a := by cases a <;> rfl
theorem mvCells_ag {d : Nat} : ∀ {as as' : List AV} {j : Nat} {w : St} {σ σ' : Look}, mvCells σ d j as = some (as', w) → mvCells σ' d j as = some (as', w)
  | [], as', j, w, σ, σ', h => h
  | a :: as, as', j, w, σ, σ', h => by
    simp only [mvCells] at h ⊢
    rw [mv1_ag (σ := σ) (σ' := σ') a]
    split at h
    · rename_i a1 w1 h1
      split at h
      · rename_i as1 w2 h2
        rw [mvCells_ag (σ' := updL σ' w1) h2]
        exact h
      · cases h
    · cases h

theorem nst_ag {k : Key} (h : σ' k = σ k) : nst (σ' k) = nst (σ k) := by rw [h]

theorem mapAt_ag {b st : Nat} (h : σ' (.B b) = σ (.B b)) : mapAt σ' b st = mapAt σ b st := by unfold mapAt; rw [h]
theorem stoR_ag {ρ : Operand → AV} {dst : Option Nat} {op : Op} {e : Eff} (h : stoR P σ ρ dst op = some e)
    (ha : ∀ x ∈ footOps op, ∀ k ∈ reachA σ (ρ x), σ' k = σ k) (hw : ∀ k v, (k, v) ∈ e.wr → σ' k = σ k) : stoR P σ' ρ dst op = some e := by
  unfold stoR at h
  split at h
  · -- assign
    rename_i x d
    have hx := ha x (by simp [footOps, Op.operands])
    simp only [stoR]
    split at h
    · rename_i k st he
      have hk : σ' k = σ k := hx k (by rw [he]; simp [reachA])
      try simp only [he]
      rw [rowAt_ag hk]
      split at h
      · rename_i e' xs hr
        split at h
        · rename_i hc; simp only [if_pos hc]; exact h
        · rename_i hc
          simp only [if_neg hc]
          simp only [Option.some.injEq] at h
          subst h
          rw [hw (.RS d 0) _ (List.mem_cons_of_mem _ (List.mem_cons_self ..))]
      · exact h
      · cases h
    · rename_i cs he
      try simp only [he]
      exact h
    · cases h
  · rename_i T d
    simp only [stoR]
    split at h
    · rename_i z hz
      simp only [Option.some.injEq] at h
      subst h
      try simp only [hz]
      rw [hw (.B (d + 1000)) _ (List.mem_cons_of_mem _ (List.mem_cons_self ..))]
    · cases h
  · rename_i T x d
    have hx := ha x (by simp [footOps, Op.operands])
    simp only [stoR]
    split at h
    · rename_i hok
      rw [if_pos hok]
      split at h
      · rename_i cs w1 hm
        simp only [Option.some.injEq] at h
        subst h
        rw [mvCells_ag (σ' := σ') hm]
        simp only
        rw [hw (.B (d + 1000)) (.bx (nst (σ (.B (d + 1000)))) cs) (by simp)]
      · cases h
    · cases h
  · rename_i T x d
    have hx := ha x (by simp [footOps, Op.operands])
    simp only [stoR]
    split at h
    · rename_i b off st he
      try simp only [he]
      rw [boxAt_ag (hx (.B b) (by rw [he]; simp [reachA]))]
      exact h
    · rename_i k st i s off he
      try simp only [he]
      rw [rowAt_ag (hx k (by rw [he]; simp [reachA]))]
      exact h
    · cases h
  · rename_i T x v
    have hx := ha x (by simp [footOps, Op.operands])
    simp only [stoR]
    split at h
    · rename_i b off st he
      try simp only [he]
      rw [boxAt_ag (hx (.B b) (by rw [he]; simp [reachA]))]
      split at h
      · rename_i cs hb
        split at h
        · rename_i hc
          simp only [if_pos hc]
          split at h
          · rename_i as w1 hm
            simp only [Option.some.injEq] at h
            subst h
            rw [mvCells_ag (σ' := σ') hm]
          · cases h
        · cases h
      · cases h
    · rename_i k st i s off he
      try simp only [he]
      rw [rowAt_ag (hx k (by rw [he]; simp [reachA]))]
      exact h
    · cases h
  · rename_i t len parts d
    simp only [stoR]
    have hp : ∀ a ∈ parts.toList.map (fun (_, x) => ρ x), ∀ k ∈ cellKeys a.cells, σ' k = σ k := by
      intro a hm k hk
      obtain ⟨y, hy, rfl⟩ := List.mem_map.1 hm
      exact ha y.2 (by simp only [footOps, Op.operands]; simpa using ⟨y.1, by simpa using hy⟩) k (cells_reach hk)
    split at h
    · rename_i e' he
      split at h
      · rename_i hc
        simp only [if_pos hc]
        rw [fzParts_ag hp]
        split at h
        · rename_i xs w1 hm
          simp only [Option.some.injEq] at h
          subst h
          have hst : nst (updL σ' w1 (.RS d 0)) = nst (updL σ w1 (.RS d 0)) := nst_ag (updL_ag (hw (.RS d 0) (.rw (nst (updL σ w1 (.RS d 0))) true e' xs) (by simp)))
          simp only [hm]
          rw [hst]
        · cases h
      · cases h
    · cases h
  · rename_i c d
    simp only [stoR]
    split at h
    · rename_i s x t tx hc1 hc2 hc3
      have hargs : ∀ y ∈ c.args.toList, y ∈ (Op.call c).operands.toList := fun y hy => by
        simp only [Op.operands, Call.operands, Array.toList_append]; exact List.mem_append_right _ hy
      have hs := ha s (hargs s (by rw [hc2]; simp))
      have hx := ha x (hargs x (by rw [hc2]; simp))
      have hsrc : ∀ e', srcOf P σ' e' tx (ρ x) = srcOf P σ e' tx (ρ x) := by
        intro e'
        unfold srcOf
        split <;> try rfl
        rename_i k st he
        rw [rowAt_ag (hx k (by rw [he]; simp [reachA]))]
      try simp only [hc1, hc2, hc3]
      split at h
      · rename_i e' he'
        rw [hsrc]
        split at h
        · rename_i ys rd hys
          split at h
          · rename_i hc
            simp only [if_pos hc]
            split at h
            · rename_i he
              try simp only [he]
              simp only [Option.some.injEq] at h
              subst h
              rw [hw (.RS d 0) _ (List.mem_cons_of_mem _ (List.mem_cons_self ..))]
            · rename_i k st he
              try simp only [he]
              rw [rowAt_ag (hs k (by rw [he]; simp [reachA]))]
              split at h
              · rename_i e2 xs hr
                split at h
                · rename_i hc'
                  simp only [if_pos hc']
                  simp only [Option.some.injEq] at h
                  subst h
                  rw [hw (.RS d 0) _ (List.mem_cons_of_mem _ (List.mem_cons_self ..))]
                · cases h
              · cases h
            · cases h
          · cases h
        · cases h
      · cases h
    · rename_i x t hc1 hc2 hc3
      have hargs : ∀ y ∈ c.args.toList, y ∈ (Op.call c).operands.toList := fun y hy => by
        simp only [Op.operands, Call.operands, Array.toList_append]; exact List.mem_append_right _ hy
      have hx := ha x (hargs x (by rw [hc2]; simp))
      try simp only [hc1, hc2, hc3]
      split at h
      · rename_i k st he
        try simp only [he]
        rw [rowAt_ag (hx k (by rw [he]; simp [reachA]))]
        exact h
      · cases h
    · cases h
  · rename_i t x i d
    have hx := ha x (by simp [footOps, Op.operands])
    simp only [stoR]
    split at h
    · rename_i k st kk n he hi
      try simp only [he, hi]
      rw [rowAt_ag (hx k (by rw [he]; simp [reachA]))]
      exact h
    · cases h
  · rename_i t x lo hi mx d
    have hx := ha x (by simp [footOps, Op.operands])
    simp only [stoR]
    split at h
    · rename_i k st he
      try simp only [he]
      rw [rowAt_ag (hx k (by rw [he]; simp [reachA]))]
      exact h
    · cases h
  · rename_i src dst x d
    have hx := ha x (by simp [footOps, Op.operands])
    simp only [stoR]
    split at h
    · rename_i l he
      try simp only [he]
      exact h
    · rename_i k st he
      try simp only [he]
      rw [rowAt_ag (hx k (by rw [he]; simp [reachA]))]
      exact h
    · cases h
  · rename_i op t x y yt d
    have hx := ha x (by simp [footOps, Op.operands])
    simp only [stoR]
    split at h
    · rename_i hn
      rw [if_pos hn]
      split at h
      · rename_i k st he
        try simp only [he]
        rw [rowAt_ag (hx k (by rw [he]; simp [reachA]))]
        exact h
      · cases h
    · cases h
  · rename_i t len cap d
    simp only [stoR]
    split at h
    · rename_i k1 n k2 m e' h1 h2 h3
      try simp only [h1, h2, h3]
      split at h
      · rename_i z hz
        try simp only [hz]
        split at h
        · rename_i hc
          rw [if_pos hc]
          simp only [Option.some.injEq] at h
          subst h
          rw [hw (.RS d 0) _ (List.mem_cons_of_mem _ (List.mem_cons_self ..))]
        · cases h
      · cases h
    · cases h
  · rename_i T d
    simp only [stoR]
    split at h
    · rename_i e' he
      simp only [Option.some.injEq] at h
      subst h
      try simp only [he]
      rw [hw (.B (d + 1000)) _ (List.mem_cons_of_mem _ (List.mem_cons_self ..))]
    · cases h
  · rename_i T m k v
    have hm := ha m (by simp [footOps, Op.operands])
    simp only [stoR]
    split at h
    · rename_i b st s el e1 e2 e3
      try simp only [e1, e2, e3]
      rw [mapAt_ag (hm (.B b) (by rw [e1]; simp [reachA]))]
      exact h
    · cases h
  · rename_i T m k ok d
    have hm := ha m (by simp [footOps, Op.operands])
    simp only [stoR]
    split at h
    · rename_i b st s el e1 e2 e3
      try simp only [e1, e2, e3]
      rw [mapAt_ag (hm (.B b) (by rw [e1]; simp [reachA]))]
      exact h
    · cases h
  · cases h

theorem pureR_ag {ρ ρ' : Operand → AV} {op : Op} (h : ∀ x ∈ op.operands.toList, ρ' x = ρ x) : pureR P ρ' op = pureR P ρ op := by
  cases op with
  | build t parts =>
    simp only [pureR]
    congr 1
    refine List.map_congr_left fun y hy => ?_
    have := h y.2 (by simp only [Op.operands]; simpa using ⟨y.1, by simpa using hy⟩)
    simp only [this]
  | slice t x lo hi mx =>
    simp only [pureR]
    rw [h x (by simp [Op.operands])]
    have h1 : lo.map ρ' = lo.map ρ := by cases lo with
      | none => rfl
      | some y => simp only [Option.map_some]; rw [h y (by simp [Op.operands])]
    have h2 : hi.map ρ' = hi.map ρ := by cases hi with
      | none => rfl
      | some y => simp only [Option.map_some]; rw [h y (by simp [Op.operands])]
    have h3 : mx.map ρ' = mx.map ρ := by cases mx with
      | none => rfl
      | some y => simp only [Option.map_some]; rw [h y (by simp [Op.operands])]
    rw [h1, h2, h3]
  | call c =>
    simp only [pureR]
    split
    · rename_i b _
      have hargs : ∀ y ∈ c.args.toList, ρ' y = ρ y := fun y hy => h y (by
        simp only [Op.operands, Call.operands, Array.toList_append]; exact List.mem_append_right _ hy)
      generalize c.args.toList = args at *
      unfold binArgs
      split <;> first
        | rfl
        | (rw [hargs _ (by simp)]; done)
        | (rw [hargs _ (by simp), hargs _ (by simp)])
    · rfl
  | makeFunc fn first caps =>
    simp only [pureR]
    have h1 : first.toList.map ρ' = first.toList.map ρ := List.map_congr_left fun y hy => h y (by simp only [Op.operands, Array.toList_append]; exact List.mem_append_left _ hy)
    have h2 : caps.toList.map ρ' = caps.toList.map ρ := List.map_congr_left fun y hy => h y (by simp only [Op.operands, Array.toList_append]; exact List.mem_append_right _ hy)
    rw [h1, h2]
  | _ => first
    | rfl
    | (simp only [pureR]; rw [h _ (by simp [Op.operands])]; done)
    | (simp only [pureR]; rw [h _ (by simp [Op.operands]), h _ (by simp [Op.operands])])

theorem stoR_rho {ρ ρ' : Operand → AV} {dst : Option Nat} {op : Op} (h : ∀ x ∈ op.operands.toList, ρ' x = ρ x) : stoR P σ ρ' dst op = stoR P σ ρ dst op := by
  cases op with
  | buildSlice t len parts =>
    have : parts.toList.map (fun (_, x) => ρ' x) = parts.toList.map (fun (_, x) => ρ x) := List.map_congr_left fun y hy => by
      have := h y.2 (by simp only [Op.operands]; simpa using ⟨y.1, by simpa using hy⟩)
      simp only [this]
    cases dst <;> simp only [stoR]
    rw [this]
  | slice t x lo hi mx =>
    have h1 : lo.map ρ' = lo.map ρ := by cases lo with
      | none => rfl
      | some y => simp only [Option.map_some]; rw [h y (by simp [Op.operands])]
    have h2 : hi.map ρ' = hi.map ρ := by cases hi with
      | none => rfl
      | some y => simp only [Option.map_some]; rw [h y (by simp [Op.operands])]
    have h3 : mx.map ρ' = mx.map ρ := by cases mx with
      | none => rfl
      | some y => simp only [Option.map_some]; rw [h y (by simp [Op.operands])]
    cases dst <;> simp only [stoR]
    rw [h x (by simp [Op.operands]), h1, h2, h3]
  | call c =>
    have hargs : ∀ y ∈ c.args.toList, ρ' y = ρ y := fun y hy => h y (by
      simp only [Op.operands, Call.operands, Array.toList_append]; exact List.mem_append_right _ hy)
    cases dst <;> simp only [stoR]
    generalize c.args.toList = args at *
    split <;> first
      | rfl
      | (rw [hargs _ (by simp)]; done)
      | (rw [hargs _ (by simp), hargs _ (by simp)])
  | makeMap t r => cases dst <;> cases r <;> rfl
  | _ => cases dst <;> first
    | rfl
    | (simp only [stoR]; rw [h _ (by simp [Op.operands])]; done)
    | (simp only [stoR]; rw [h _ (by simp [Op.operands]), h _ (by simp [Op.operands])]; done)
    | (simp only [stoR]; rw [h _ (by simp [Op.operands]), h _ (by simp [Op.operands]), h _ (by simp [Op.operands])])

theorem guardOf_ag {ops : Array Oper} {o : Oper} (h : ∀ k ∈ guardKeys ops o, σ' k = σ k) : guardOf ops σ' o = guardOf ops σ o := by
  unfold guardOf
  split
  · rfl
  · rename_i j want hg
    unfold guardKeys at h
    rw [hg] at h
    simp only at h
    split
    · rfl
    · rename_i g hj
      rw [hj] at h
      rw [h (.S g) (by simp)]

theorem evA_ag {op : Op} (h : ∀ k ∈ opTmps op, σ' k = σ k) : ∀ x ∈ op.operands.toList, evA σ' x = evA σ x := by
  intro x hx
  cases x with
  | tmp t =>
    simp only [evA]
    rw [h (.S t) (List.mem_filterMap.2 ⟨_, hx, rfl⟩)]
  | _ => rfl

theorem reach_sv {a : AV} {k : Key} (h : k ∈ reachA σ a.sv) : k ∈ reachA σ a := by
  cases a <;> simp_all [AV.sv, reachA]

theorem mem_reachL {l : List AV} {a : AV} {k : Key} (ha : a ∈ l) (hk : k ∈ reachA σ a) : k ∈ reachL σ l := by
  induction l with
  | nil => cases ha
  | cons b l ih =>
    simp only [reachL]
    rcases List.mem_cons.1 ha with rfl | ha
    · exact List.mem_append_left _ hk
    · exact List.mem_append_right _ (ih ha)

theorem onlyS_key {d : Nat} {wr : St} {kv : KV} (h : onlyS d wr = some kv) {k : Key} {v : KV} (hv : (k, v) ∈ wr) : ∃ u : Unit, k = .S d := by
  unfold onlyS at h
  split at h
  · split at h
    · rename_i e
      subst e
      simp only [List.mem_singleton, Prod.mk.injEq] at hv
      exact ⟨(), hv.1⟩
    · cases h
  · cases h

theorem stepA_ag {ops : Array Oper} {o : Oper} {e : Eff} (h : stepA P ops σ o = some e) (ha : ∀ k ∈ footK ops σ o e.wr, σ' k = σ k) : stepA P ops σ' o = some e := by
  have hg : guardOf ops σ' o = guardOf ops σ o := guardOf_ag fun k hk => ha k (by simp [footK, hk])
  have hev := evA_ag (σ := σ) (σ' := σ') (op := o.op) fun k hk => ha k (by simp [footK, hk])
  have hr : ∀ x ∈ footOps o.op, ∀ k ∈ reachA σ (evA σ x).sv, σ' k = σ k := fun x hx k hk => ha k (by
    simp only [footK, List.mem_append]
    exact .inl (.inr (mem_reachL (List.mem_map.2 ⟨x, hx, rfl⟩) (reach_sv hk))))
  have hw : ∀ k v, (k, v) ∈ e.wr → σ' k = σ k := fun k v hv => ha k (by
    simp only [footK, List.mem_append]
    exact .inr (List.mem_map.2 ⟨_, hv, rfl⟩))
  have hmap : o.op.operands.toList.map (evA σ') = o.op.operands.toList.map (evA σ) := List.map_congr_left hev
  have hpure : pureR P (fun x => (evA σ' x).sv) o.op = pureR P (fun x => (evA σ x).sv) o.op := pureR_ag fun x hx => by rw [hev x hx]
  obtain ⟨dst, op, ty, pos, after, guard⟩ := o
  simp only at hev hr hmap hpure
  unfold stepA at h ⊢
  rw [hg]
  split at h
  · cases h
  · rename_i g hgg
    simp only at h ⊢
    split at h
    · rename_i x a b d
      rw [hev x (by simp [Op.operands]), hev a (by simp [Op.operands]), hev b (by simp [Op.operands])]
      exact h
    · rw [hpure, hmap]
      split at h
      · exact h
      · exact h
      · rename_i hpn
        split at h
        · rename_i e' he'
          have hst : ∀ dst : Option Nat, stoR P σ' (fun x => (evA σ' x).sv) dst op = stoR P σ' (fun x => (evA σ x).sv) dst op := fun dst => stoR_rho fun x hx => by rw [hev x hx]
          rw [hst]
          split at h
          · simp only [Option.some.injEq] at h
            subst h
            rw [stoR_ag he' hr hw]
          · split at h
            · rename_i d
              split at h
              · rename_i kv hkv
                simp only [Option.some.injEq] at h
                subst h
                rw [stoR_ag he' hr (fun k v hv => ?_)]
                · simp only [hkv]
                · obtain ⟨v', hv'⟩ := onlyS_key hkv hv
                  subst hv'
                  exact hw _ _ (List.mem_cons_self ..)
              · cases h
            · cases h
        · cases h

end
end Go.Pw
namespace Go.Pw
variable [Mode]
set_option linter.unusedSimpArgs false
set_option linter.unusedVariables false
set_option linter.unusedSectionVars false

section
variable {P : Program} {σ σ' : Look}

theorem preArg_ag {j : Nat} {mv : Option TypeId} {x x' : AV} {w : St} (h : preArg σ j mv x = some (x', w)) (ha : ∀ k ∈ cellKeys x.cells, σ' k = σ k) (hw : ∀ k v, (k, v) ∈ w → σ' k = σ k) : preArg σ' j mv x = some (x', w) := by
  cases x with
  | rf k st =>
    simp only [preArg] at h ⊢
    rw [rowAt_ag (ha k (by simp [AV.cells, cellKeys, cellKey1]))]
    exact h
  | emp =>
    simp only [preArg] at h ⊢
    split at h
    · rename_i e
      simp only [Option.some.injEq, Prod.mk.injEq] at h
      obtain ⟨rfl, rfl⟩ := h
      rw [hw (.RS (2000 + j) 0) _ (List.mem_cons_self ..)]
    · exact h
  | agg cs =>
    simp only [preArg] at h ⊢
    rw [fzCells_ag (σ := σ) (σ' := σ') (fun k hk => ha k (by simpa [AV.cells] using hk))]
    exact h
  | _ => exact h

theorem preArgs_ag {mv : Nat → Option TypeId} : ∀ {as as' : List AV} {j : Nat} {w : St} {σ σ' : Look}, preArgs σ mv j as = some (as', w) → (∀ a ∈ as, ∀ k ∈ cellKeys a.cells, σ' k = σ k) → (∀ k v, (k, v) ∈ w → σ' k = σ k) → preArgs σ' mv j as = some (as', w)
  | [], as', j, w, σ, σ', h, ha, hw => h
  | a :: as, as', j, w, σ, σ', h, ha, hw => by
    simp only [preArgs] at h ⊢
    split at h
    · rename_i a1 w1 h1
      split at h
      · rename_i as1 w2 h2
        simp only [Option.some.injEq, Prod.mk.injEq] at h
        obtain ⟨rfl, rfl⟩ := h
        rw [preArg_ag h1 (ha a (by simp)) (fun k v hv => hw k v (List.mem_append_right _ hv))]
        simp only
        rw [preArgs_ag (σ' := updL σ' w1) h2 (fun b hb k hk => updL_ag (ha b (by simp [hb]) k hk)) (fun k v hv => updL_ag (hw k v (List.mem_append_left _ hv)))]
      · cases h
    · cases h

theorem fz1_rw {a : AV} {p : PV} {w : St} (h : fz1 σ a = some (p, w)) : ∀ k v, (k, v) ∈ w → ∃ st o e xs, v = .rw st o e xs := by
  intro k v hv
  cases a <;> simp only [fz1] at h <;> try (cases h; done)
  all_goals try (simp only [Option.some.injEq, Prod.mk.injEq] at h; obtain ⟨rfl, rfl⟩ := h; cases hv)
  split at h
  · simp only [Option.some.injEq, Prod.mk.injEq] at h
    obtain ⟨rfl, rfl⟩ := h
    simp only [List.mem_singleton, Prod.mk.injEq] at hv
    exact ⟨_, _, _, _, hv.2⟩
  · simp only [Option.some.injEq, Prod.mk.injEq] at h
    obtain ⟨rfl, rfl⟩ := h
    cases hv
  · cases h

theorem fzCells_rw : ∀ {as : List AV} {ps : List PV} {w : St} {σ : Look}, fzCells σ as = some (ps, w) → ∀ k v, (k, v) ∈ w → ∃ st o e xs, v = .rw st o e xs
  | [], ps, w, σ, h, k, v, hv => by
    simp only [fzCells, Option.some.injEq, Prod.mk.injEq] at h
    obtain ⟨rfl, rfl⟩ := h
    cases hv
  | a :: as, ps, w, σ, h, k, v, hv => by
    simp only [fzCells] at h
    split at h
    · rename_i p w1 h1
      split at h
      · rename_i ps1 w2 h2
        simp only [Option.some.injEq, Prod.mk.injEq] at h
        obtain ⟨rfl, rfl⟩ := h
        rcases List.mem_append.1 hv with hv | hv
        · exact fzCells_rw h2 k v hv
        · exact fz1_rw h1 k v hv
      · cases h
    · cases h

theorem preArg_rw {j : Nat} {mv : Option TypeId} {x x' : AV} {w : St} (h : preArg σ j mv x = some (x', w)) : ∀ k v, (k, v) ∈ w → ∃ st o e xs, v = .rw st o e xs := by
  intro k v hv
  unfold preArg at h
  split at h
  · split at h
    · split at h <;> (simp only [Option.some.injEq, Prod.mk.injEq] at h; obtain ⟨rfl, rfl⟩ := h)
      · cases hv
      · simp only [List.mem_singleton, Prod.mk.injEq] at hv
        exact ⟨_, _, _, _, hv.2⟩
    · simp only [Option.some.injEq, Prod.mk.injEq] at h; obtain ⟨rfl, rfl⟩ := h; cases hv
    · cases h
  · split at h <;> (simp only [Option.some.injEq, Prod.mk.injEq] at h; obtain ⟨rfl, rfl⟩ := h)
    · simp only [List.mem_singleton, Prod.mk.injEq] at hv
      exact ⟨_, _, _, _, hv.2⟩
    · cases hv
  · split at h
    · rename_i ps w1 h1
      simp only [Option.some.injEq, Prod.mk.injEq] at h; obtain ⟨rfl, rfl⟩ := h
      exact fzCells_rw h1 k v hv
    · cases h
  · cases h
  · simp only [Option.some.injEq, Prod.mk.injEq] at h; obtain ⟨rfl, rfl⟩ := h; cases hv

theorem preArgs_rw {mv : Nat → Option TypeId} : ∀ {as as' : List AV} {j : Nat} {w : St} {σ : Look}, preArgs σ mv j as = some (as', w) → ∀ k v, (k, v) ∈ w → ∃ st o e xs, v = .rw st o e xs
  | [], as', j, w, σ, h, k, v, hv => by
    simp only [preArgs, Option.some.injEq, Prod.mk.injEq] at h
    obtain ⟨rfl, rfl⟩ := h
    cases hv
  | a :: as, as', j, w, σ, h, k, v, hv => by
    simp only [preArgs] at h
    split at h
    · rename_i p w1 h1
      split at h
      · rename_i ps1 w2 h2
        simp only [Option.some.injEq, Prod.mk.injEq] at h
        obtain ⟨rfl, rfl⟩ := h
        rcases List.mem_append.1 hv with hv | hv
        · exact preArgs_rw h2 k v hv
        · exact preArg_rw h1 k v hv
      · cases h
    · cases h

theorem updL_bx {w : St} (hw : ∀ k v, (k, v) ∈ w → ∃ st o e xs, v = .rw st o e xs) {k : Key} {st : Nat} {cs : List AV} (h : updL σ w k = .bx st cs) : σ k = .bx st cs := by
  induction w with
  | nil => exact h
  | cons x l ih =>
    obtain ⟨a, b⟩ := x
    simp only [updL] at h
    split at h
    · obtain ⟨_, _, _, _, rfl⟩ := hw a b (List.mem_cons_self ..)
      cases h
    · exact ih (fun k v hv => hw k v (List.mem_cons_of_mem _ hv)) h

/-- what an argument, made ready, is -/
theorem preArg_is {j : Nat} {mv : Option TypeId} {x x' : AV} {w : St} (h : preArg σ j mv x = some (x', w)) : x' = x ∨ (∃ k st v, x' = .rf k st ∧ (k, v) ∈ w) ∨ (∃ p, x' = .pv p) ∨ ∃ cs, x' = .agg cs := by
  unfold preArg at h
  split at h
  · split at h
    · split at h <;> (simp only [Option.some.injEq, Prod.mk.injEq] at h; obtain ⟨rfl, rfl⟩ := h)
      · exact .inl rfl
      · exact .inr (.inr (.inl ⟨_, rfl⟩))
    · simp only [Option.some.injEq, Prod.mk.injEq] at h; obtain ⟨rfl, rfl⟩ := h; exact .inr (.inr (.inl ⟨_, rfl⟩))
    · cases h
  · split at h <;> (simp only [Option.some.injEq, Prod.mk.injEq] at h; obtain ⟨rfl, rfl⟩ := h)
    · exact .inr (.inl ⟨_, _, _, rfl, List.mem_cons_self ..⟩)
    · exact .inl rfl
  · split at h
    · simp only [Option.some.injEq, Prod.mk.injEq] at h; obtain ⟨rfl, rfl⟩ := h
      exact .inr (.inr (.inr ⟨_, rfl⟩))
    · cases h
  · cases h
  · simp only [Option.some.injEq, Prod.mk.injEq] at h; obtain ⟨rfl, rfl⟩ := h; exact .inl rfl

theorem preArgs_is {mv : Nat → Option TypeId} : ∀ {as as' : List AV} {j : Nat} {w : St} {σ : Look}, preArgs σ mv j as = some (as', w) → ∀ x' ∈ as', x' ∈ as ∨ (∃ k st v, x' = .rf k st ∧ (k, v) ∈ w) ∨ (∃ p, x' = .pv p) ∨ ∃ cs, x' = .agg cs
  | [], as', j, w, σ, h, x', hx => by
    simp only [preArgs, Option.some.injEq, Prod.mk.injEq] at h
    obtain ⟨rfl, rfl⟩ := h
    cases hx
  | a :: as, as', j, w, σ, h, x', hx => by
    simp only [preArgs] at h
    split at h
    · rename_i p w1 h1
      split at h
      · rename_i ps1 w2 h2
        simp only [Option.some.injEq, Prod.mk.injEq] at h
        obtain ⟨rfl, rfl⟩ := h
        rcases List.mem_cons.1 hx with rfl | hx
        · rcases preArg_is h1 with rfl | ⟨k, st, v, h3, h4⟩ | h3 | h3
          · exact .inl (by simp)
          · exact .inr (.inl ⟨k, st, v, h3, List.mem_append_right _ h4⟩)
          · exact .inr (.inr (.inl h3))
          · exact .inr (.inr (.inr h3))
        · rcases preArgs_is h2 x' hx with h3 | ⟨k, st, v, h3, h4⟩ | h3 | h3
          · exact .inl (by simp [h3])
          · exact .inr (.inl ⟨k, st, v, h3, List.mem_append_left _ h4⟩)
          · exact .inr (.inr (.inl h3))
          · exact .inr (.inr (.inr h3))
      · cases h
    · cases h

theorem pkCell_ag {d j c : Nat} {a : AV} (ha : ∀ k ∈ cellKeys [a], σ' k = σ k) (hd : σ' (.B d) = σ (.B d)) : pkCell σ' d j c a = pkCell σ d j c a := by
  cases a with
  | rf k st => simp only [pkCell]; rw [rowAt_ag (ha k (by simp [cellKeys, cellKey1]))]
  | ptr d' off st => simp only [pkCell]; rw [hd]
  | _ => rfl

theorem pkCells_ag {d j : Nat} : ∀ {as : List AV} {c : Nat}, (∀ k ∈ cellKeys as, σ' k = σ k) → σ' (.B d) = σ (.B d) → pkCells σ' d j c as = pkCells σ d j c as
  | [], c, ha, hd => rfl
  | a :: as, c, ha, hd => by
    simp only [pkCells]
    rw [pkCell_ag (fun k hk => ha k (by rw [cellKeys_cons]; exact List.mem_append_left _ hk)) hd, pkCells_ag (fun k hk => ha k (by rw [cellKeys_cons]; exact List.mem_append_right _ hk)) hd]

def argKeys (σ : Look) : AV → List Key
  | .rf k _ => [k]
  | .ptr d _ _ => .B d :: (match σ (.B d) with
    | .bx _ cs => cellKeys cs
    | _ => [])
  | .clo _ _ [.ptr d _ _] => .B d :: (match σ (.B d) with
    | .bx _ cs => cellKeys cs
    | _ => [])
  | _ => []

theorem pkArg_ag {j : Nat} {x : AV} (ha : ∀ k ∈ argKeys σ x, σ' k = σ k) : pkArg σ' j x = pkArg σ j x := by
  cases x with
  | rf k st => simp only [pkArg]; rw [rowAt_ag (ha k (by simp [argKeys]))]
  | ptr d off st =>
    cases off with
    | zero =>
      simp only [pkArg]
      have hd := ha (.B d) (by simp [argKeys])
      rw [boxAt_ag hd]
      split
      · rename_i cs hb
        have hb := boxAt_spec hb
        rw [pkCells_ag (fun k hk => ha k (by simp only [argKeys, hb]; exact List.mem_cons_of_mem _ hk)) hd]
      · rfl
    | succ n => rfl
  | clo f a b =>
    unfold pkArg
    split
    all_goals first
      | rfl
      | (rename_i heq; cases heq; done)
      | skip
    · rename_i f' a' d st heq
      cases heq
      have hd := ha (.B d) (by simp [argKeys])
      rw [boxAt_ag hd]
      split
      · rename_i cs hb
        have hb := boxAt_spec hb
        rw [pkCells_ag (fun k hk => ha k (by simp only [argKeys, hb]; exact List.mem_cons_of_mem _ hk)) hd]
      · rfl
  | _ => rfl

theorem pkArgs_ag : ∀ {as : List AV} {j : Nat}, (∀ x ∈ as, ∀ k ∈ argKeys σ x, σ' k = σ k) → pkArgs σ' j as = pkArgs σ j as
  | [], j, ha => rfl
  | a :: as, j, ha => by
    simp only [pkArgs]
    rw [pkArg_ag (ha a (by simp)), pkArgs_ag (fun x hx => ha x (by simp [hx]))]

theorem callIn_ag {mv : Nat → Option TypeId} {as : List AV} {In w0 : St} {lk : Lk} {as' : List AV} (h : callIn σ mv as = some (In, w0, lk, as')) (ha : ∀ k ∈ reachL σ as, σ' k = σ k) (hw : ∀ k v, (k, v) ∈ w0 → σ' k = σ k) :
    callIn σ' mv as = some (In, w0, lk, as') := by
  unfold callIn at h ⊢
  split at h
  · rename_i a1 w1 h1
    split at h
    · rename_i sl en l1 h2
      split at h
      · rename_i hnd
        simp only [Option.some.injEq, Prod.mk.injEq] at h
        obtain ⟨rfl, rfl, rfl, rfl⟩ := h
        rw [preArgs_ag h1 (fun a hm k hk => ha k (mem_reachL hm (cells_reach hk))) hw]
        simp only
        rw [pkArgs_ag (σ := updL σ w1) (σ' := updL σ' w1) (fun x hx k hk => ?_), h2]
        · simp only
          rw [if_pos hnd]
        · refine updL_ag ?_
          rcases preArgs_is h1 x hx with hm | ⟨k', st, v, rfl, hv⟩ | ⟨p, rfl⟩ | ⟨cs, rfl⟩
          · refine ha k (mem_reachL hm ?_)
            cases x with
            | rf k' st => simpa [argKeys, reachA] using hk
            | ptr d off st =>
              simp only [argKeys, List.mem_cons] at hk
              simp only [reachA, List.mem_cons]
              rcases hk with hk | hk
              · exact .inl hk
              · split at hk
                · rename_i s cs hb
                  rw [updL_bx (preArgs_rw h1) hb]
                  exact .inr hk
                · cases hk
            | clo f a b =>
              unfold argKeys at hk
              split at hk
              · rename_i heq; cases heq
              · rename_i heq; cases heq
              · rename_i fn first d off st heq
                cases heq
                simp only [List.mem_cons] at hk
                simp only [reachA, reachL, List.append_nil, List.mem_append, List.mem_cons]
                rcases hk with hk | hk
                · exact .inr (.inl hk)
                · split at hk
                  · rename_i s cs hb
                    rw [updL_bx (preArgs_rw h1) hb]
                    exact .inr (.inr hk)
                  · cases hk
              · cases hk
            | _ => simp [argKeys] at hk
          · simp only [argKeys, List.mem_singleton] at hk
            subst hk
            exact hw _ _ hv
          · simp [argKeys] at hk
          · simp [argKeys] at hk
      · cases h
    · cases h
  · cases h

mutual
theorem unA_ag {R : Look} {rl : Lk} (H : ∀ K k, lookL rl K = some k → (∃ s e xs, R K = .rw s true e xs) ∨ (∃ s cs, R K = .bx s cs) → σ' k = σ k) : ∀ a, unA σ' R rl a = unA σ R rl a
  | .undef => rfl
  | .pv _ => rfl
  | .emp => rfl
  | .rf K s => by
    simp only [unA]
    split
    · rename_i s' e xs hR
      split
      · cases hl : lookL rl K with
        | none => rfl
        | some k => simp only [Option.map_some]; rw [H K k hl (.inl ⟨_, _, _, hR⟩)]
      · rfl
    · rfl
    · rfl
  | .ptr j off s => by
    simp only [unA]
    split
    · rename_i s' cs d hR hl
      rw [H _ _ hl (.inr ⟨_, _, hR⟩)]
    · rfl
  | .agg cs => by simp only [unA]; rw [unL_ag H cs]
  | .tup cs => by simp only [unA]; rw [unL_ag H cs]
  | .clo f a b => by simp only [unA]; rw [unL_ag H a, unL_ag H b]
  | .rptr _ _ _ _ _ => rfl
  | .when _ _ => rfl
  | .mref _ _ => rfl
  | .mk _ => rfl
theorem unL_ag {R : Look} {rl : Lk} (H : ∀ K k, lookL rl K = some k → (∃ s e xs, R K = .rw s true e xs) ∨ (∃ s cs, R K = .bx s cs) → σ' k = σ k) : ∀ l, unL σ' R rl l = unL σ R rl l
  | [] => rfl
  | a :: as => by simp only [unL]; rw [unA_ag H a, unL_ag H as]
end

theorem unE_ag {R : Look} {rl : Lk} (H : ∀ K k, lookL rl K = some k → (∃ s e xs, R K = .rw s true e xs) ∨ (∃ s cs, R K = .bx s cs) → σ' k = σ k) : ∀ {l r : St}, unE σ R rl l = some r → (∀ k v, (k, v) ∈ r → σ' k = σ k) → unE σ' R rl l = some r
  | [], r, h, hr => h
  | (K, kv) :: l, r, h, hr => by
    simp only [unE] at h ⊢
    split at h
    · cases h
    · rename_i r0 h0
      split at h
      · rename_i s cs d hl
        split at h
        · rename_i cs' st h1 h2
          simp only [Option.some.injEq] at h
          subst h
          rw [unE_ag H h0 (fun k v hv => hr k v (List.mem_cons_of_mem _ hv))]
          simp only [hl]
          rw [unL_ag H, h1, hr (.B d) _ (List.mem_cons_self ..), h2]
        · cases h
      · rename_i s e xs k hl
        split at h
        · rename_i hk
          simp only [Option.some.injEq] at h
          subst h
          rw [unE_ag H h0 (fun k v hv => hr k v (List.mem_cons_of_mem _ hv))]
          simp only [hl, if_pos hk]
          rw [hr k _ (List.mem_cons_self ..)]
        · cases h
      · cases h
      · cases h
      · rename_i n1 n2 n3 n4
        simp only [Option.some.injEq] at h
        subst h
        rw [unE_ag H h0 hr]

theorem deads_ag : ∀ {lk : Lk}, (∀ k v, (k, v) ∈ deads σ lk → σ' k = σ k) → deads σ' lk = deads σ lk
  | [], h => rfl
  | (K, k) :: l, h => by
    unfold deads at h ⊢
    split
    · exact deads_ag h
    · exact deads_ag h
    · rw [h k _ (by simp only [List.mem_cons]; exact .inl rfl)]
      rw [deads_ag (fun k' v hv => h k' v (by simp only [List.mem_cons]; exact .inr hv))]

theorem callBack_ag {lk : Lk} {dst : Option Nat} {ret wr : St} (h : callBack σ lk dst ret = some wr) (hw : ∀ k v, (k, v) ∈ wr → σ' k = σ k) : callBack σ' lk dst ret = some wr := by
  unfold callBack at h ⊢
  simp only at h ⊢
  split at h
  · rename_i r1 hr1
    have hsub : (∀ k v, (k, v) ∈ r1 → (k, v) ∈ wr) ∧ ∀ k v, (k, v) ∈ deads σ lk → (k, v) ∈ wr := by
      split at h
      · split at h
        · split at h
          · simp only [Option.some.injEq] at h
            subst h
            exact ⟨fun k v hv => by simp [hv], fun k v hv => by simp [hv]⟩
          · cases h
        · cases h
      · split at h
        · simp only [Option.some.injEq] at h
          subst h
          exact ⟨fun k v hv => by simp [hv], fun k v hv => by simp [hv]⟩
        · cases h
    have H : ∀ K k, lookL (rlOf lk dst ret) K = some k → (∃ s e xs, look ret K = .rw s true e xs) ∨ (∃ s cs, look ret K = .bx s cs) → σ' k = σ k := by
      intro K k hl hK
      rcases hK with ⟨s, e, xs, hK⟩ | ⟨s, cs, hK⟩
      · rcases look_mem hK with hm | hm
        · cases hm
        · obtain ⟨k', h1, _, h3⟩ := unE_row hr1 K s e xs hm
          rw [hl] at h1
          cases h1
          exact hw _ _ (hsub.1 _ _ h3)
      · rcases look_mem hK with hm | hm
        · cases hm
        · obtain ⟨d, cs', st, h1, _, _, h3⟩ := unE_box hr1 K s cs hm
          rw [hl] at h1
          cases h1
          exact hw _ _ (hsub.1 _ _ h3)
    rw [unE_ag H hr1 (fun k v hv => hw k v (hsub.1 k v hv)), deads_ag (fun k v hv => hw k v (hsub.2 k v hv))]
    simp only [unA_ag H]
    exact h
  · cases h

theorem gw_ag {d : Option Nat} {c : Bool} : ∀ {l : St}, (∀ k v, (k, v) ∈ l → σ' k = σ k) → gw σ' d c l = gw σ d c l
  | [], h => rfl
  | (k, v) :: l, h => by
    unfold gw
    rw [h k v (List.mem_cons_self ..), gw_ag (fun k v hv => h k v (List.mem_cons_of_mem _ hv))]

theorem gwrap_keys {d : Option Nat} {g : Option Bool} {l : St} {k : Key} {v : KV} (h : (k, v) ∈ l) : k ∈ (gwrap σ d g l).map (·.1) := by
  cases g with
  | none => exact List.mem_map.2 ⟨_, h, rfl⟩
  | some c =>
    simp only [gwrap]
    induction l with
    | nil => cases h
    | cons x l ih =>
      obtain ⟨a, b⟩ := x
      unfold gw
      rcases List.mem_cons.1 h with e | h
      · cases e
        simp only [List.map_cons, List.mem_cons]
        left
        split
        · split <;> rfl
        · rfl
      · simp only [List.map_cons, List.mem_cons]
        exact .inr (ih h)

theorem stepE_ag {mv : FuncId → Nat → Option TypeId} {ops : Array Oper} {o : Oper} {wr : St} (h : StepE P mv ops σ o wr) (ha : ∀ k ∈ footK ops σ o wr, σ' k = σ k) : StepE P mv ops σ' o wr := by
  rcases h.run with ⟨e, h1, h2, rfl⟩ | ⟨h2, rfl⟩ | ⟨fx, args, ts, g, f, a, b, In, w0, lk, as', Ret, wr', h1, h2, h3, h4, h5, h6, h7, rfl⟩ | ⟨e, h1, h2, h3, rfl⟩
  · exact ⟨.inl ⟨e, stepA_ag h1 ha, h2, rfl⟩⟩
  · exact ⟨.inr (.inl ⟨by rw [guardOf_ag fun k hk => ha k (by simp [footK, hk])]; exact h2, rfl⟩)⟩
  · have hg : guardOf ops σ' o = guardOf ops σ o := guardOf_ag fun k hk => ha k (by simp [footK, hk])
    have hev := evA_ag (σ := σ) (σ' := σ') (op := o.op) fun k hk => ha k (by simp [footK, hk])
    have hops : o.op.operands.toList = fx :: args.toList := by rw [h1]; simp [Op.operands, Call.operands]
    have hfops : footOps o.op = fx :: args.toList := by rw [h1]; simp [footOps, Op.operands, Call.operands]
    rw [hops] at hev
    have hfx := hev fx (by simp)
    have hargs : ∀ x ∈ args.toList, evA σ' x = evA σ x := fun x hx => hev x (by simp [hx])
    have hm1 : args.toList.map (evA σ') = args.toList.map (evA σ) := List.map_congr_left hargs
    have hm2 : (args.toList.map fun x => (evA σ' x).sv) = args.toList.map fun x => (evA σ x).sv := List.map_congr_left fun x hx => by rw [hargs x hx]
    have hwr : ∀ k v, (k, v) ∈ wr' ++ w0 → σ' k = σ k := fun k v hv => ha k (by
      simp only [footK, List.mem_append]
      exact .inr (gwrap_keys hv))
    have hreach : ∀ k ∈ reachL σ (a ++ (args.toList.map fun x => (evA σ x).sv) ++ b), σ' k = σ k := by
      intro k hk
      refine ha k ?_
      simp only [footK, List.mem_append, hfops]
      refine .inl (.inr ?_)
      have happ : ∀ l1 l2 : List AV, reachL σ (l1 ++ l2) = reachL σ l1 ++ reachL σ l2 := by
        intro l1 l2
        induction l1 with
        | nil => rfl
        | cons x l ih => simp only [List.cons_append, reachL, ih, List.append_assoc]
      rw [happ, happ, List.mem_append, List.mem_append] at hk
      have hab : ∀ k, k ∈ reachL σ a ∨ k ∈ reachL σ b → k ∈ reachA σ (evA σ fx) := by
        intro k hk
        unfold calleeOf at h3
        split at h3
        · split at h3
          · simp only [Option.some.injEq, Prod.mk.injEq] at h3
            obtain ⟨_, rfl, rfl⟩ := h3
            rcases hk with hk | hk <;> simp [reachL] at hk
          · cases h3
        · rename_i f' a' b' hsv
          simp only [Option.some.injEq, Prod.mk.injEq] at h3
          obtain ⟨_, rfl, rfl⟩ := h3
          refine reach_sv ?_
          rw [hsv]
          simp only [reachA, List.mem_append]
          exact hk
        · cases h3
      simp only [List.map_cons, reachL, List.mem_append]
      rcases hk with (hk | hk) | hk
      · exact .inl (hab k (.inl hk))
      · refine .inr ?_
        have : ∀ l : List Operand, k ∈ reachL σ (l.map fun x => (evA σ x).sv) → k ∈ reachL σ (l.map (evA σ)) := by
          intro l
          induction l with
          | nil => exact fun h => h
          | cons x l ih =>
            simp only [List.map_cons, reachL, List.mem_append]
            exact fun h => h.imp reach_sv ih
        exact this _ hk
      · exact .inl (hab k (.inr hk))
    refine ⟨.inr (.inr (.inl ⟨fx, args, ts, g, f, a, b, In, w0, lk, as', Ret, wr', h1, by rw [hg]; exact h2, by rw [hfx]; exact h3, by rw [hfx, hm1]; exact h4, ?_, h6, ?_, ?_⟩))⟩
    · rw [hm2]
      exact callIn_ag h5 hreach (fun k v hv => hwr k v (List.mem_append_right _ hv))
    · exact callBack_ag h7 (fun k v hv => updL_ag (hwr k v (List.mem_append_left _ hv)))
    · cases g with
      | none => rfl
      | some c => simp only [gwrap]; rw [gw_ag hwr]
  · refine ⟨.inr (.inr (.inr ⟨e, by rw [guardOf_ag fun k hk => ha k (by simp [footK, hk])]; exact h1, stepA_ag h2 fun k hk => ha k ?_, h3, rfl⟩))⟩
    simp only [footK, bare, guardKeys, List.nil_append, List.mem_append] at hk ⊢
    rcases hk with (hk | hk) | hk
    · exact .inl (.inl (.inr hk))
    · exact .inl (.inr hk)
    · exact .inr hk

end
end Go.Pw
