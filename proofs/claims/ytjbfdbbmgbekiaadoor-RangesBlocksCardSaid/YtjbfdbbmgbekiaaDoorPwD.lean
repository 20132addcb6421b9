/- The pure operations: memory that stays, structs, and the theorem over all of them. -/
import Derived.Test.YtjbfdbbmgbekiaaDoorPwC
namespace Go.Pw
variable [Mode]
set_option linter.unusedSimpArgs false
set_option linter.unusedVariables false
set_option linter.unusedSectionVars false

section
variable {P : Program} {ρ : Operand → AV} {ev : Operand → Value} {E : Env} {σ : Look} {w : World} {ow : Ow}

theorem run_isAgg {t : TypeId} (h : aggT P t = true) : (isAgg t).run P w = .ok true w := by
  unfold aggT at h
  unfold isAgg
  cases hu : P.underlying t with
  | none => simp [hu] at h
  | some d => cases d <;> simp [hu] at h <;> simp [run_underlying hu]
theorem run_isAgg_not {t : TypeId} (h : aggT P t = false) (hh : hasT P t = true) : (isAgg t).run P w = .ok false w := by
  unfold aggT at h
  unfold hasT at hh
  unfold isAgg
  cases hu : P.underlying t with
  | none => simp [hu] at hh
  | some d => cases d <;> simp [hu] at h <;> simp [run_underlying hu]
theorem run_sizeT {t : TypeId} (h : hasT P t = true) : (sizeOf t).run P w = .ok (P.cellsOf t) w := by
  unfold hasT at h
  cases hu : P.underlying t with
  | none => simp [hu] at h
  | some d =>
    obtain ⟨i, hi, hs⟩ := info_of_underlying hu
    simp [sizeOf, typeInfo, hi, hs]
theorem hasT_agg {t : TypeId} (h : aggT P t = true) : hasT P t = true := by
  unfold aggT at h
  unfold hasT
  cases hu : P.underlying t with
  | none => simp [hu] at h
  | some d => simp
theorem run_sizeE {t : TypeId} (h : P.cellsOf t ≠ 0) : (sizeOf t).run P w = .ok (P.cellsOf t) w := by
  obtain ⟨i, hi, hs⟩ := info_of_cells h
  simp [sizeOf, typeInfo, hi, hs]

/-- loading a variable whose cells are known, one by one -/
theorem run_loadVar_cells {t : TypeId} {b o : Nat} (vs : List Value) (hh : hasT P t = true) (hv : ∀ j v, vs[j]? = some v → w.cell? ⟨b, o + j, none⟩ = some v) :
    (aggT P t = true → vs.length = P.cellsOf t → (loadVar t ⟨b, o, none⟩).run P w = .ok (.agg ⟨vs⟩) w) ∧
    (aggT P t = false → ∀ v, vs[0]? = some v → (loadVar t ⟨b, o, none⟩).run P w = .ok v w) := by
  constructor
  · intro ha hl
    have h2 : (loadCells ⟨b, o, none⟩ (P.cellsOf t)).run P w = .ok ⟨vs⟩ w := by
      rw [← hl, run_loadCells_list (P := P) w ⟨b, o, none⟩ vs (fun j v e => by rw [Addr.add_lit]; exact hv j v e)]
    simp only [loadVar, Sem.run_bind, run_isAgg ha, Result.andThen_ok, if_true, run_sizeT (hasT_agg ha), Sem.run_map, h2, Sem.run_pure]
  · intro ha v e
    have := hv 0 v e
    simp only [Nat.add_zero] at this
    simp [loadVar, run_isAgg_not ha hh, this]

theorem list_of_cells {h : View} {b o : Nat} : ∀ {cs : List PV}, PV.repCs h b o cs → ∃ vs : List Value, vs.length = cs.length ∧ (∀ j v, vs[j]? = some v → h b (o + j) = some v) ∧ AV.repL h E σ (cs.map .pv) vs
  | [], _ => ⟨[], rfl, by simp, by simp [AV.repL]⟩
  | p :: ps, hr => by
    simp only [PV.repCs] at hr
    obtain ⟨⟨v, e, hv⟩, h2⟩ := hr
    obtain ⟨vs, hl, hc, hrep⟩ := list_of_cells h2
    refine ⟨v :: vs, by simp [hl], fun j u hu => ?_, ⟨v, vs, rfl, by simpa [AV.rep] using hv, hrep⟩⟩
    cases j with
    | zero => simp at hu; subst hu; simpa using e
    | succ j => have := hc j u (by simpa using hu); rwa [show o + 1 + j = o + (j + 1) by omega] at this

theorem repCs_take {h : View} {b : Nat} : ∀ {ps : List PV} {o : Nat} (n : Nat), PV.repCs h b o ps → PV.repCs h b o (ps.take n)
  | ps, o, 0, hr => by simp [PV.repCs]
  | [], o, n + 1, _ => by simp [PV.repCs]
  | q :: qs, o, n + 1, hr => by
    simp only [PV.repCs, List.take_succ_cons] at hr ⊢
    exact ⟨hr.1, repCs_take n hr.2⟩

theorem loadA_sound {t : TypeId} {cs : List PV} {r : AV} {b o : Nat} (h : cellsA P t cs = some r) (hr : PV.repCs (view w ow) b o cs) :
    ∃ v, (loadVar t ⟨b, o, none⟩).run P w = .ok v w ∧ r.rep (view w ow) E σ v := by
  unfold cellsA at h
  split at h
  · rename_i ha
    split at h
    · rename_i hl
      simp only [Option.some.injEq] at h
      subst h
      obtain ⟨vs, h1, h2, h3⟩ := list_of_cells (E := E) (σ := σ) (repCs_take (P.cellsOf t) hr)
      have h1' : vs.length = P.cellsOf t := by rw [h1, List.length_take]; omega
      have hc := (run_loadVar_cells (P := P) (t := t) vs (hasT_agg ha) (fun j v e => (view_lt (h2 j v e)).2.2)).1 ha h1'
      exact ⟨_, hc, by simp only [AV.rep]; exact ⟨vs, rfl, h3⟩⟩
    · cases h
  · rename_i ha
    split at h
    · rename_i hh
      cases cs with
      | nil => simp at h
      | cons p ps =>
        simp at h
        subst h
        simp only [PV.repCs] at hr
        obtain ⟨⟨v, e, hv⟩, _⟩ := hr
        have hc := (run_loadVar_cells (P := P) (t := t) [v] hh (fun j u hu => by
          cases j with
          | zero => simp at hu; subst hu; simpa using (view_lt e).2.2
          | succ j => simp at hu)).2 (by simpa using ha) v rfl
        exact ⟨v, hc, by simpa [AV.rep] using hv⟩
    · cases h

theorem run_equal_bool {t : TypeId} (h : P.underlying t = some .bool) (a b : Bool) : (Op.equal t (.bool a) (.bool b)).run P w = .ok (a == b) w := by
  show (Op.equalIn (9999 + 1) t _ _).run P w = _
  rw [Op.equalIn]; simp [run_underlying h]
theorem run_equal_ptr {t e : TypeId} (h : P.underlying t = some (.pointer e)) :
    (∀ b, (Op.equal t (.pointer none) (.pointer b)).run P w = .ok b.isNone w) ∧ (∀ a, (Op.equal t (.pointer (some a)) (.pointer none)).run P w = .ok false w) := by
  constructor
  · intro b
    show (Op.equalIn (9999 + 1) t _ _).run P w = _
    rw [Op.equalIn]; simp [run_underlying h]
  · intro b
    show (Op.equalIn (9999 + 1) t _ _).run P w = _
    rw [Op.equalIn]; simp [run_underlying h]
theorem run_equal_func {t : TypeId} {a : Array TypeId} {b : Array TypeId} {c : Bool} (h : P.underlying t = some (.func a b c)) :
    (Op.equal t .nilFunc .nilFunc).run P w = .ok true w ∧ (∀ f x y, (Op.equal t (.func f x y) .nilFunc).run P w = .ok false w) := by
  constructor
  · show (Op.equalIn (9999 + 1) t _ _).run P w = _
    rw [Op.equalIn]; simp [run_underlying h]
  · intro f x y
    show (Op.equalIn (9999 + 1) t _ _).run P w = _
    rw [Op.equalIn]; simp [run_underlying h]
theorem ite_some {α : Type} {b : Bool} {x : Option α} {y : α} (h : (if b = true then x else none) = some y) : b = true ∧ x = some y := by
  cases b
  · simp at h
  · exact ⟨rfl, by simpa using h⟩

theorem binP_sound {op : BinOp} {t : TypeId} {x y : AV} {u v : Value} {c : Prop} {r : AV} (h : binP P op t x y = some (c, r)) (hc : c)
    (hx : x.rep (view w ow) E σ u) (hy : y.rep (view w ow) E σ v) (ox oy : Operand) :
    ∃ z, (do eqGuard op t ox oy u v; binOp op t u v : Sem Value).run P w = .ok z w ∧ r.rep (view w ow) E σ z := by
  have guard : ∀ (u v : Value), u.oneCell' = true → (u ≠ .nilIface) → (eqGuard op t ox oy u v).run P w = .ok () w := by
    intro u v h1 h2
    cases op <;> simp only [eqGuard, Bool.not_true, Bool.not_false, Bool.false_eq_true, if_false, if_true] <;> first
      | rfl
      | (cases u <;> first | rfl | exact absurd rfl h2 | simp [Value.oneCell'] at h1)
  have ptrs : ∀ (eq : Bool) (u v : Value) (hu : u.oneCell' = true) (hn : u ≠ .nilIface) (hb : ∀ op', binOp op' t u v = (match op' with | .eql => (do pure (.bool (← Op.equal t u v)) : Sem Value) | .neq => do pure (.bool (!(← Op.equal t u v))) | _ => binOp op' t u v))
      (he : (Op.equal t u v).run P w = .ok eq w) (hres : nilRes op eq = some (c, r)),
      ∃ z, (do eqGuard op t ox oy u v; binOp op t u v : Sem Value).run P w = .ok z w ∧ r.rep (view w ow) E σ z := by
    intro eq u v hu hn hb he hres
    cases op <;> simp only [nilRes, Option.some.injEq, Prod.mk.injEq, reduceCtorEq] at hres <;> obtain ⟨rfl, rfl⟩ := hres <;>
      simp [guard u v hu hn, hb, he, AV.rep, PV.rep]
  unfold binP at h
  split at h
  · rename_i k a k' b
    simp only [AV.rep, PV.rep] at hx hy
    subst hx hy
    split at h
    · obtain ⟨z, h1, h2⟩ := binShift_sound (P := P) (E := E) (σ := σ) (w := w) (ow := ow) (k' := k') h hc t
      exact ⟨z, by simp [guard (.int k a) (.int k' b) rfl (by simp), h1], h2⟩
    · split at h
      · rename_i hk
        subst hk
        obtain ⟨z, h1, h2⟩ := binInt_sound (P := P) (E := E) (σ := σ) (w := w) (ow := ow) h hc t
        exact ⟨z, by simp [guard (.int k a) (.int k b) rfl (by simp), h1], h2⟩
      · cases h
  · rename_i a b
    simp only [AV.rep, PV.rep] at hx hy
    subst hx hy
    obtain ⟨z, h1, h2⟩ := binStr_sound (P := P) (E := E) (σ := σ) (w := w) (ow := ow) h hc t
    exact ⟨z, by simp [guard (.string ⟨a.toArray⟩) (.string ⟨b.toArray⟩) rfl (by simp), h1], h2⟩
  · rename_i a b
    simp only [AV.rep, PV.rep] at hx hy
    subst hx hy
    unfold binBool at h
    cases op <;> simp only [reduceCtorEq] at h <;> split at h <;> simp only [Option.some.injEq, Prod.mk.injEq, reduceCtorEq] at h
    · rename_i hb
      obtain ⟨rfl, rfl⟩ := h
      simp [guard (.bool a) (.bool b) rfl (by simp), binOp, run_equal_bool (boolT_spec hb), AV.rep, PV.rep]
    · rename_i hb
      obtain ⟨rfl, rfl⟩ := h
      simp [guard (.bool a) (.bool b) rfl (by simp), binOp, run_equal_bool (boolT_spec hb), AV.rep, PV.rep]
  all_goals try simp only [AV.rep, PV.rep] at hx hy
  · obtain ⟨ht, h⟩ := ite_some h
    obtain ⟨e, he⟩ := ptrT_spec ht
    obtain ⟨b, o, rfl, _⟩ := hx
    obtain ⟨rfl, _⟩ := hy
    exact ptrs false _ _ rfl (by simp) (fun op' => by cases op' <;> rfl) ((run_equal_ptr he).2 _) h
  · obtain ⟨ht, h⟩ := ite_some h
    obtain ⟨e, he⟩ := ptrT_spec ht
    obtain ⟨b, rfl, _⟩ := hx
    obtain ⟨rfl, _⟩ := hy
    exact ptrs false _ _ rfl (by simp) (fun op' => by cases op' <;> rfl) ((run_equal_ptr he).2 _) h
  · obtain ⟨ht, h⟩ := ite_some h
    obtain ⟨e, he⟩ := ptrT_spec ht
    obtain ⟨b, o, rfl, _⟩ := hy
    obtain ⟨rfl, _⟩ := hx
    exact ptrs false _ _ rfl (by simp) (fun op' => by cases op' <;> rfl) ((run_equal_ptr he).1 _) h
  · obtain ⟨ht, h⟩ := ite_some h
    obtain ⟨e, he⟩ := ptrT_spec ht
    obtain ⟨b, rfl, _⟩ := hy
    obtain ⟨rfl, _⟩ := hx
    exact ptrs false _ _ rfl (by simp) (fun op' => by cases op' <;> rfl) ((run_equal_ptr he).1 _) h
  · obtain ⟨ht, h⟩ := ite_some h
    obtain ⟨e, he⟩ := ptrT_spec ht
    obtain ⟨rfl, _⟩ := hx
    obtain ⟨rfl, _⟩ := hy
    exact ptrs true _ _ rfl (by simp) (fun op' => by cases op' <;> rfl) ((run_equal_ptr he).1 _) h
  · obtain ⟨ht, h⟩ := ite_some h
    obtain ⟨e, e2, e3, he⟩ := funT_spec ht
    obtain ⟨b, o, rfl, _⟩ := hx
    obtain ⟨rfl, _⟩ := hy
    exact ptrs false _ _ rfl (by simp) (fun op' => by cases op' <;> rfl) ((run_equal_func he).2 _ _ _) h
  · obtain ⟨ht, h⟩ := ite_some h
    obtain ⟨e, e2, e3, he⟩ := funT_spec ht
    obtain ⟨rfl, _⟩ := hx
    obtain ⟨rfl, _⟩ := hy
    exact ptrs false _ _ rfl (by simp) (fun op' => by cases op' <;> rfl) ((run_equal_func he).2 _ _ _) h
  · obtain ⟨ht, h⟩ := ite_some h
    obtain ⟨e, e2, e3, he⟩ := funT_spec ht
    obtain ⟨rfl, _⟩ := hx
    obtain ⟨rfl, _⟩ := hy
    exact ptrs true _ _ rfl (by simp) (fun op' => by cases op' <;> rfl) (run_equal_func he).1 h
  · cases h

end
end Go.Pw
