/- The pure operations: memory that stays, structs, and the theorem over all of them. -/
import Derived.Test.YtgnedmmecmpnpaaGreatDoorPwMBC
import Derived.WideLaws
import Derived.Laws.Entries
import Derived.Laws.StructEq
namespace Go.Pw
variable [Mode]
set_option linter.unusedSimpArgs false
set_option linter.unusedVariables false
set_option linter.unusedSectionVars false

section
variable {P : Program} {ρ : Operand → AV} {ev : Operand → Value} {E : Env} {σ : Look} {w : World} {ow : Ow}

theorem run_isAgg {t : TypeId} (h : aggT P t = true) : (isAgg t).run P w = .ok true w := by
  unfold aggT at h
  unfold isAgg
  cases hu : P.underlying t with
  | none => simp [hu] at h
  | some d => cases d <;> simp [hu] at h <;> simp [run_underlying hu]
theorem run_isAgg_not {t : TypeId} (h : aggT P t = false) (hh : hasT P t = true) : (isAgg t).run P w = .ok false w := by
  unfold aggT at h
  unfold hasT at hh
  unfold isAgg
  cases hu : P.underlying t with
  | none => simp [hu] at hh
  | some d => cases d <;> simp [hu] at h <;> simp [run_underlying hu]
theorem run_sizeT {t : TypeId} (h : hasT P t = true) : (sizeOf t).run P w = .ok (P.cellsOf t) w := by
  unfold hasT at h
  cases hu : P.underlying t with
  | none => simp [hu] at h
  | some d =>
    obtain ⟨i, hi, hs⟩ := info_of_underlying hu
    simp [sizeOf, typeInfo, hi, hs]
theorem hasT_agg {t : TypeId} (h : aggT P t = true) : hasT P t = true := by
  unfold aggT at h
  unfold hasT
  cases hu : P.underlying t with
  | none => simp [hu] at h
  | some d => simp
theorem run_sizeE {t : TypeId} (h : P.cellsOf t ≠ 0) : (sizeOf t).run P w = .ok (P.cellsOf t) w := by
  obtain ⟨i, hi, hs⟩ := info_of_cells h
  simp [sizeOf, typeInfo, hi, hs]

/-- loading a variable whose cells are known, one by one -/
theorem run_loadVar_cells {t : TypeId} {b o : Nat} (vs : List Value) (hh : hasT P t = true) (hv : ∀ j v, vs[j]? = some v → w.cell? ⟨b, o + j, none⟩ = some v) :
    (aggT P t = true → vs.length = P.cellsOf t → (loadVar t ⟨b, o, none⟩).run P w = .ok (.agg ⟨vs⟩) w) ∧
    (aggT P t = false → ∀ v, vs[0]? = some v → (loadVar t ⟨b, o, none⟩).run P w = .ok v w) := by
  constructor
  · intro ha hl
    have h2 : (loadCells ⟨b, o, none⟩ (P.cellsOf t)).run P w = .ok ⟨vs⟩ w := by
      rw [← hl, run_loadCells_list (P := P) w ⟨b, o, none⟩ vs (fun j v e => by rw [Addr.add_lit]; exact hv j v e)]
    simp only [loadVar, Sem.run_bind, run_isAgg ha, Result.andThen_ok, if_true, run_sizeT (hasT_agg ha), Sem.run_map, h2, Sem.run_pure]
  · intro ha v e
    have := hv 0 v e
    simp only [Nat.add_zero] at this
    simp [loadVar, run_isAgg_not ha hh, this]

theorem list_of_cells {h : View} {b o : Nat} : ∀ {cs : List PV}, PV.repCs h b o cs → ∃ vs : List Value, vs.length = cs.length ∧ (∀ j v, vs[j]? = some v → h b (o + j) = some v) ∧ AV.repL h E σ (cs.map .pv) vs
  | [], _ => ⟨[], rfl, by simp, by simp [AV.repL]⟩
  | p :: ps, hr => by
    simp only [PV.repCs] at hr
    obtain ⟨⟨v, e, hv⟩, h2⟩ := hr
    obtain ⟨vs, hl, hc, hrep⟩ := list_of_cells h2
    refine ⟨v :: vs, by simp [hl], fun j u hu => ?_, ⟨v, vs, rfl, by simpa [AV.rep] using hv, hrep⟩⟩
    cases j with
    | zero => simp at hu; subst hu; simpa using e
    | succ j => have := hc j u (by simpa using hu); rwa [show o + 1 + j = o + (j + 1) by omega] at this

theorem repCs_take {h : View} {b : Nat} : ∀ {ps : List PV} {o : Nat} (n : Nat), PV.repCs h b o ps → PV.repCs h b o (ps.take n)
  | ps, o, 0, hr => by simp [PV.repCs]
  | [], o, n + 1, _ => by simp [PV.repCs]
  | q :: qs, o, n + 1, hr => by
    simp only [PV.repCs, List.take_succ_cons] at hr ⊢
    exact ⟨hr.1, repCs_take n hr.2⟩

theorem loadA_sound {t : TypeId} {cs : List PV} {r : AV} {b o : Nat} (h : cellsA P t cs = some r) (hr : PV.repCs (view w ow) b o cs) :
    ∃ v, (loadVar t ⟨b, o, none⟩).run P w = .ok v w ∧ r.rep (view w ow) E σ v := by
  unfold cellsA at h
  split at h
  · rename_i ha
    split at h
    · rename_i hl
      simp only [Option.some.injEq] at h
      subst h
      obtain ⟨vs, h1, h2, h3⟩ := list_of_cells (E := E) (σ := σ) (repCs_take (P.cellsOf t) hr)
      have h1' : vs.length = P.cellsOf t := by rw [h1, List.length_take]; omega
      have hc := (run_loadVar_cells (P := P) (t := t) vs (hasT_agg ha) (fun j v e => (view_lt (h2 j v e)).2.2)).1 ha h1'
      exact ⟨_, hc, by simp only [AV.rep]; exact ⟨vs, rfl, h3⟩⟩
    · cases h
  · rename_i ha
    split at h
    · rename_i hh
      cases cs with
      | nil => simp at h
      | cons p ps =>
        simp at h
        subst h
        simp only [PV.repCs] at hr
        obtain ⟨⟨v, e, hv⟩, _⟩ := hr
        have hc := (run_loadVar_cells (P := P) (t := t) [v] hh (fun j u hu => by
          cases j with
          | zero => simp at hu; subst hu; simpa using (view_lt e).2.2
          | succ j => simp at hu)).2 (by simpa using ha) v rfl
        exact ⟨v, hc, by simpa [AV.rep] using hv⟩
    · cases h

theorem run_equal_bool {t : TypeId} (h : P.underlying t = some .bool) (a b : Bool) : (Op.equal t (.bool a) (.bool b)).run P w = .ok (a == b) w := by
  show (Op.equalIn (9999 + 1) t _ _).run P w = _
  rw [Op.equalIn]; simp [run_underlying h]
theorem run_equal_ptr {t e : TypeId} (h : P.underlying t = some (.pointer e)) :
    (∀ b, (Op.equal t (.pointer none) (.pointer b)).run P w = .ok b.isNone w) ∧ (∀ a, (Op.equal t (.pointer (some a)) (.pointer none)).run P w = .ok false w) := by
  constructor
  · intro b
    show (Op.equalIn (9999 + 1) t _ _).run P w = _
    rw [Op.equalIn]; simp [run_underlying h]
  · intro b
    show (Op.equalIn (9999 + 1) t _ _).run P w = _
    rw [Op.equalIn]; simp [run_underlying h]
theorem run_equal_func {t : TypeId} {a : Array TypeId} {b : Array TypeId} {c : Bool} (h : P.underlying t = some (.func a b c)) :
    (Op.equal t .nilFunc .nilFunc).run P w = .ok true w ∧ (∀ f x y, (Op.equal t (.func f x y) .nilFunc).run P w = .ok false w) := by
  constructor
  · show (Op.equalIn (9999 + 1) t _ _).run P w = _
    rw [Op.equalIn]; simp [run_underlying h]
  · intro f x y
    show (Op.equalIn (9999 + 1) t _ _).run P w = _
    rw [Op.equalIn]; simp [run_underlying h]
theorem ite_some {α : Type} {b : Bool} {x : Option α} {y : α} (h : (if b = true then x else none) = some y) : b = true ∧ x = some y := by
  cases b
  · simp at h
  · exact ⟨rfl, by simpa using h⟩

theorem binP_sound {op : BinOp} {t : TypeId} {x y : AV} {u v : Value} {c : Prop} {r : AV} (h : binP P op t x y = some (c, r)) (hc : c)
    (hx : x.rep (view w ow) E σ u) (hy : y.rep (view w ow) E σ v) (ox oy : Operand) :
    ∃ z, (do eqGuard op t ox oy u v; binOp op t u v : Sem Value).run P w = .ok z w ∧ r.rep (view w ow) E σ z := by
  have guard : ∀ (u v : Value), u.oneCell' = true → (u ≠ .nilIface) → (eqGuard op t ox oy u v).run P w = .ok () w := by
    intro u v h1 h2
    cases op <;> simp only [eqGuard, Bool.not_true, Bool.not_false, Bool.false_eq_true, if_false, if_true] <;> first
      | rfl
      | (cases u <;> first | rfl | exact absurd rfl h2 | simp [Value.oneCell'] at h1)
  have ptrs : ∀ (eq : Bool) (u v : Value) (hu : u.oneCell' = true) (hn : u ≠ .nilIface) (hb : ∀ op', binOp op' t u v = (match op' with | .eql => (do pure (.bool (← Op.equal t u v)) : Sem Value) | .neq => do pure (.bool (!(← Op.equal t u v))) | _ => binOp op' t u v))
      (he : (Op.equal t u v).run P w = .ok eq w) (hres : nilRes op eq = some (c, r)),
      ∃ z, (do eqGuard op t ox oy u v; binOp op t u v : Sem Value).run P w = .ok z w ∧ r.rep (view w ow) E σ z := by
    intro eq u v hu hn hb he hres
    cases op <;> simp only [nilRes, Option.some.injEq, Prod.mk.injEq, reduceCtorEq] at hres <;> obtain ⟨rfl, rfl⟩ := hres <;>
      simp [guard u v hu hn, hb, he, AV.rep, PV.rep]
  unfold binP at h
  split at h
  · rename_i k a k' b
    simp only [AV.rep, PV.rep] at hx hy
    subst hx hy
    split at h
    · obtain ⟨z, h1, h2⟩ := binShift_sound (P := P) (E := E) (σ := σ) (w := w) (ow := ow) (k' := k') h hc t
      exact ⟨z, by simp [guard (.int k a) (.int k' b) rfl (by simp), h1], h2⟩
    · split at h
      · rename_i hk
        subst hk
        obtain ⟨z, h1, h2⟩ := binInt_sound (P := P) (E := E) (σ := σ) (w := w) (ow := ow) h hc t
        exact ⟨z, by simp [guard (.int k a) (.int k b) rfl (by simp), h1], h2⟩
      · cases h
  · rename_i a b
    simp only [AV.rep, PV.rep] at hx hy
    subst hx hy
    obtain ⟨z, h1, h2⟩ := binStr_sound (P := P) (E := E) (σ := σ) (w := w) (ow := ow) h hc t
    exact ⟨z, by simp [guard (.string ⟨a.toArray⟩) (.string ⟨b.toArray⟩) rfl (by simp), h1], h2⟩
  · rename_i a b
    simp only [AV.rep, PV.rep] at hx hy
    subst hx hy
    unfold binBool at h
    cases op <;> simp only [reduceCtorEq] at h <;> split at h <;> simp only [Option.some.injEq, Prod.mk.injEq, reduceCtorEq] at h
    · rename_i hb
      obtain ⟨rfl, rfl⟩ := h
      simp [guard (.bool a) (.bool b) rfl (by simp), binOp, run_equal_bool (boolT_spec hb), AV.rep, PV.rep]
    · rename_i hb
      obtain ⟨rfl, rfl⟩ := h
      simp [guard (.bool a) (.bool b) rfl (by simp), binOp, run_equal_bool (boolT_spec hb), AV.rep, PV.rep]
  all_goals try simp only [AV.rep, PV.rep] at hx hy
  · obtain ⟨ht, h⟩ := ite_some h
    obtain ⟨e, he⟩ := ptrT_spec ht
    obtain ⟨b, o, rfl, _⟩ := hx
    obtain ⟨rfl, _⟩ := hy
    exact ptrs false _ _ rfl (by simp) (fun op' => by cases op' <;> rfl) ((run_equal_ptr he).2 _) h
  · obtain ⟨ht, h⟩ := ite_some h
    obtain ⟨e, he⟩ := ptrT_spec ht
    obtain ⟨b, rfl, _⟩ := hx
    obtain ⟨rfl, _⟩ := hy
    exact ptrs false _ _ rfl (by simp) (fun op' => by cases op' <;> rfl) ((run_equal_ptr he).2 _) h
  · obtain ⟨ht, h⟩ := ite_some h
    obtain ⟨e, he⟩ := ptrT_spec ht
    obtain ⟨b, o, rfl, _⟩ := hy
    obtain ⟨rfl, _⟩ := hx
    exact ptrs false _ _ rfl (by simp) (fun op' => by cases op' <;> rfl) ((run_equal_ptr he).1 _) h
  · obtain ⟨ht, h⟩ := ite_some h
    obtain ⟨e, he⟩ := ptrT_spec ht
    obtain ⟨b, rfl, _⟩ := hy
    obtain ⟨rfl, _⟩ := hx
    exact ptrs false _ _ rfl (by simp) (fun op' => by cases op' <;> rfl) ((run_equal_ptr he).1 _) h
  · obtain ⟨ht, h⟩ := ite_some h
    obtain ⟨e, he⟩ := ptrT_spec ht
    obtain ⟨rfl, _⟩ := hx
    obtain ⟨rfl, _⟩ := hy
    exact ptrs true _ _ rfl (by simp) (fun op' => by cases op' <;> rfl) ((run_equal_ptr he).1 _) h
  · obtain ⟨ht, h⟩ := ite_some h
    obtain ⟨e, e2, e3, he⟩ := funT_spec ht
    obtain ⟨b, o, rfl, _⟩ := hx
    obtain ⟨rfl, _⟩ := hy
    exact ptrs false _ _ rfl (by simp) (fun op' => by cases op' <;> rfl) ((run_equal_func he).2 _ _ _) h
  · obtain ⟨ht, h⟩ := ite_some h
    obtain ⟨e, e2, e3, he⟩ := funT_spec ht
    obtain ⟨rfl, _⟩ := hx
    obtain ⟨rfl, _⟩ := hy
    exact ptrs false _ _ rfl (by simp) (fun op' => by cases op' <;> rfl) ((run_equal_func he).2 _ _ _) h
  · obtain ⟨ht, h⟩ := ite_some h
    obtain ⟨e, e2, e3, he⟩ := funT_spec ht
    obtain ⟨rfl, _⟩ := hx
    obtain ⟨rfl, _⟩ := hy
    exact ptrs true _ _ rfl (by simp) (fun op' => by cases op' <;> rfl) (run_equal_func he).1 h
  · cases h

end
end Go.Pw
namespace Go.Pw
variable [Mode]
set_option linter.unusedSimpArgs false
set_option linter.unusedVariables false
set_option linter.unusedSectionVars false

section
variable {P : Program} {ρ : Operand → AV} {ev : Operand → Value} {E : Env} {σ : Look} {w : World} {ow : Ow}

def optRep (h : View) (E : Env) (σ : Look) : Option AV → Option Value → Prop
  | none, none => True
  | some a, some v => a.rep h E σ v
  | _, _ => False

theorem run_sliceBound {k : IntKind} {n : Int} {y : Nat} {code : BoundsCode} (h1 : 0 ≤ n) (h2 : n ≤ (y : Int)) : (Instr.sliceBound (.int k n) y code).run P w = .ok n.toNat w := by
  simp [Instr.sliceBound, asIntOf, h1, h2]

/-- the two bounds of a slice expression -/
theorem run_sliceBounds {b : Bool} {len cap : Nat} {lo hi : Option AV} {lo' hi' : Option Int} {vlo vhi : Option Value}
    (h1 : idx? lo = some lo') (h2 : idx? hi = some hi')
    (r1 : optRep (view w ow) E σ lo vlo)
    (r2 : optRep (view w ow) E σ hi vhi)
    (c1 : 0 ≤ lo'.getD 0) (c2 : lo'.getD 0 ≤ hi'.getD (len : Int)) (c3 : hi'.getD (len : Int) ≤ (len : Int)) (hlc : len ≤ cap) :
    (Instr.sliceBounds b len cap vlo vhi none).run P w = .ok ((lo'.getD 0).toNat, (hi'.getD (len : Int)).toNat, cap) w := by
  have i1 : ∀ {a : Option AV} {a' : Option Int}, idx? a = some a' → (a = none ∧ a' = none) ∨ ∃ k n, a = some (.pv (.int k n)) ∧ a' = some n := by
    intro a a' h
    unfold idx? at h
    split at h
    · simp at h; exact .inl ⟨rfl, h.symm⟩
    · rename_i k n; simp at h; exact .inr ⟨k, n, rfl, h.symm⟩
    · cases h
  rcases i1 h1 with ⟨rfl, rfl⟩ | ⟨k, n, rfl, rfl⟩ <;> rcases i1 h2 with ⟨rfl, rfl⟩ | ⟨k', n', rfl, rfl⟩ <;> cases vlo <;> cases vhi <;>
    simp only [optRep, AV.rep, PV.rep] at r1 r2 <;> (try subst r1) <;> (try subst r2) <;> simp only [Option.getD_some, Option.getD_none] at c1 c2 c3 ⊢
  · simp [Instr.sliceBounds]
  · have e := run_sliceBound (P := P) (w := w) (k := k') (n := n') (y := cap) (code := if b then BoundsCode.sliceAcap else .sliceAlen) (by omega) (by omega)
    simp [Instr.sliceBounds, e]
  · have e := run_sliceBound (P := P) (w := w) (k := k) (n := n) (y := len) (code := BoundsCode.sliceB) (by omega) (by omega)
    simp [Instr.sliceBounds, e]
  · have e := run_sliceBound (P := P) (w := w) (k := k') (n := n') (y := cap) (code := if b then BoundsCode.sliceAcap else .sliceAlen) (by omega) (by omega)
    have e2 := run_sliceBound (P := P) (w := w) (k := k) (n := n) (y := n'.toNat) (code := BoundsCode.sliceB) (by omega) (by omega)
    simp [Instr.sliceBounds, e, e2]

theorem notArr_of_str {t : TypeId} (h : strT P t = true) (x : Value) (lo hi mx : Option Value) : (Instr.sliceAt t x lo hi mx).run P w = (Instr.slice t x lo hi mx).run P w := by
  simp [Instr.sliceAt, run_underlying (strT_spec h)]
theorem notArr_of_sl {t e : TypeId} (h : elemT P t = some e) (x : Value) (lo hi mx : Option Value) : (Instr.sliceAt t x lo hi mx).run P w = (Instr.slice t x lo hi mx).run P w := by
  simp [Instr.sliceAt, run_underlying (elemT_spec h)]

theorem sliceP_sound {t : TypeId} {x : AV} {lo hi mx : Option AV} {u : Value} {vlo vhi vmx : Option Value} {c : Prop} {r : AV} (h : sliceP P t x lo hi mx = some (c, r)) (hc : c)
    (hx : x.rep (view w ow) E σ u)
    (r1 : optRep (view w ow) E σ lo vlo)
    (r2 : optRep (view w ow) E σ hi vhi)
    (r3 : mx = none → vmx = none) :
    ∃ z, (Instr.sliceAt t u vlo vhi vmx).run P w = .ok z w ∧ r.rep (view w ow) E σ z := by
  unfold sliceP at h
  split at h
  · rename_i l lo' hi' e1 e2
    obtain ⟨ht, h⟩ := ite_some h
    simp only [Option.some.injEq, Prod.mk.injEq] at h
    obtain ⟨rfl, rfl⟩ := h
    have hm := r3 rfl
    subst hm
    simp only [AV.rep, PV.rep] at hx
    subst hx
    have hs : (⟨l.toArray⟩ : ByteArray).size = l.length := rfl
    have hb := run_sliceBounds (P := P) (b := false) (len := l.length) (cap := l.length) e1 e2 r1 r2 hc.1 hc.2.1 hc.2.2 (Nat.le_refl _)
    rw [notArr_of_str ht]
    refine ⟨.string ((⟨l.toArray⟩ : ByteArray).extract (lo'.getD 0).toNat (hi'.getD (l.length : Int)).toNat), ?_, ?_⟩
    · simp only [Instr.slice, Sem.run_bind, run_underlying (strT_spec ht), Result.andThen_ok, Option.isSome_none, Bool.false_eq_true, if_false, hs, hb, Sem.run_pure]
    · simp only [AV.rep, PV.rep]
      congr 1
      apply ByteArray.ext
      simp only [ByteArray.data_extract, List.extract_toArray, List.extract_eq_take_drop, List.take_drop]
      have : (lo'.getD 0).toNat + ((hi'.getD (l.length : Int)).toNat - (lo'.getD 0).toNat) = (hi'.getD (l.length : Int)).toNat := by omega
      rw [this]
  · rename_i xs lo' hi' e1 e2
    split at h
    · rename_i e he
      simp only [Option.some.injEq, Prod.mk.injEq] at h
      obtain ⟨rfl, rfl⟩ := h
      have hm := r3 rfl
      subst hm
      simp only [AV.rep, PV.rep] at hx
      obtain ⟨a, n, cap, rfl, rfl, hle, hx⟩ := hx
      have hb := run_sliceBounds (P := P) (b := true) (len := xs.length) (cap := cap) e1 e2 r1 r2 hc.1 hc.2.1 hc.2.2.1 hle
      rw [notArr_of_sl he]
      refine ⟨.slice (if cap = (lo'.getD 0).toNat then a else a.map (·.add ((lo'.getD 0).toNat * P.cellsOf e))) ((hi'.getD (xs.length : Int)).toNat - (lo'.getD 0).toNat) (cap - (lo'.getD 0).toNat), ?_, ?_⟩
      · simp [Instr.slice, run_underlying (elemT_spec he), hb, run_sizeE hc.2.2.2.1]
      · simp only [AV.rep, PV.rep]
        refine ⟨_, _, _, rfl, by simp; omega, by omega, ?_⟩
        by_cases hnil : ((xs.take (hi'.getD (xs.length : Int)).toNat).drop (lo'.getD 0).toNat) = []
        · exact .inl hnil
        · have hlt : (lo'.getD 0).toNat < xs.length := by
            have := List.length_pos_iff.2 hnil
            simp at this
            omega
          rcases hx with rfl | ⟨b, o, s, rfl, hx⟩
          · simp at hlt
          · right
            have hs : s = P.cellsOf e := by
              have hmem : xs[0]'(by omega) ∈ xs := List.getElem_mem _
              rw [← repEs_len hx _ hmem]
              exact hc.2.2.2.2 _ hmem
            subst hs
            refine ⟨b, o + (lo'.getD 0).toNat * P.cellsOf e, P.cellsOf e, ?_, repEs_drop _ (repEs_take _ hx)⟩
            rw [if_neg (by omega)]
            simp [Addr.add_lit]
    · cases h
  · cases h

theorem fieldAt_sound {T f o : Nat} (h : offT P T f = some o) (b off : Nat) :
    (Instr.fieldAt T (.pointer (some ⟨b, off, none⟩)) f).run P w = .ok (.pointer (some ⟨b, off + o, none⟩)) w := by
  obtain ⟨fs, fd, hu, hf, hz, rfl⟩ := offT_spec h
  simp [Instr.fieldAt, run_underlying hu, hf, Instr.sureAddr, fieldPlace, run_sizeE hz, hz, Addr.add_lit]

theorem repL_set {h : View} {cs : List AV} {l : List Value} {a : AV} {v : Value} (i : Nat) (hr : AV.repL h E σ cs l) (ha : a.rep h E σ v) : AV.repL h E σ (cs.set i a) (l.set i v) := by
  obtain ⟨h1, h2⟩ := repL_iff.1 hr
  refine repL_iff.2 ⟨by simp [h1], fun m x y hx hy => ?_⟩
  rw [List.getElem?_set] at hx hy
  by_cases hm : i = m
  · subst hm
    by_cases hl : i < cs.length
    · have hl' : i < l.length := by omega
      simp [hl, hl'] at hx hy
      subst hx hy
      exact ha
    · simp [hl] at hx
  · rw [if_neg hm] at hx hy
    exact h2 m x y hx hy
theorem splice_rep {h : View} (off : Nat) : ∀ {as : List AV} {vs : List Value}, AV.repL h E σ as vs → ∀ (k : Nat) {cells : List AV} {l : List Value}, AV.repL h E σ cells l →
    ∃ l', (vs.zipIdx k).foldl (fun cs (x : Value × Nat) => cs.setIfInBounds (off + x.2) x.1) (⟨l⟩ : Array Value) = ⟨l'⟩ ∧ AV.repL h E σ (splice cells (off + k) as) l'
  | [], vs, ha, k, cells, l, hr => by
    simp only [AV.repL] at ha
    subst ha
    exact ⟨l, rfl, hr⟩
  | a :: as, vs, ha, k, cells, l, hr => by
    simp only [AV.repL] at ha
    obtain ⟨v, vs, rfl, h1, h2⟩ := ha
    obtain ⟨l', e, h3⟩ := splice_rep off h2 (k + 1) (repL_set (off + k) hr h1)
    exact ⟨l', by simpa [List.zipIdx_cons] using e, h3⟩

theorem fillA_sound {h : View} {t : TypeId} {fs : Array Field} (hu : P.underlying t = some (.struct fs)) : ∀ {parts : List (Nat × AV)} {vparts : List (Nat × Value)} {cells cells' : List AV} {l : List Value},
    fillA P t cells parts = some cells' → AV.repL h E σ cells l →
    parts.length = vparts.length → (∀ (i : Nat) (p : Nat × AV) (q : Nat × Value), parts[i]? = some p → vparts[i]? = some q → p.1 = q.1 ∧ p.2.rep h E σ q.2) →
    ∃ l', Instr.fill (fun i => (fs[i]?).map fun f => (f.offset, P.cellsOf f.type)) ⟨l⟩ vparts = some ⟨l'⟩ ∧ AV.repL h E σ cells' l'
  | [], vparts, cells, cells', l, hf, hr, hl, _ => by
    have : vparts = [] := List.eq_nil_of_length_eq_zero (by simpa using hl.symm)
    subst this
    simp [fillA] at hf
    subst hf
    exact ⟨l, rfl, hr⟩
  | (i, a) :: parts, [], cells, cells', l, hf, hr, hl, _ => by simp at hl
  | (i, a) :: parts, (j, v) :: vparts, cells, cells', l, hf, hr, hl, hp => by
    obtain ⟨h0, h1⟩ := hp 0 (i, a) (j, v) (by simp) (by simp)
    simp only at h0 h1
    subst h0
    simp only [fillA] at hf
    cases ho : offT P t i with
    | none => simp [ho] at hf
    | some off =>
      cases hft : fldT P t i with
      | none => simp [ho, hft] at hf
      | some ft =>
        simp only [ho, hft] at hf
        split at hf
        · rename_i hcond
          obtain ⟨fs', fd, hu', hfd, hz, rfl⟩ := offT_spec ho
          obtain ⟨fs2, fd2, hu2, hfd2, rfl⟩ := fldT_spec hft
          rw [hu] at hu' hu2
          simp only [Option.some.injEq, TypeDesc.struct.injEq] at hu' hu2
          subst hu' hu2
          rw [hfd] at hfd2
          simp only [Option.some.injEq] at hfd2
          subst hfd2
          have hc := cells_rep hcond.1 h1
          have hlen := (repL_iff.1 hc).1
          have hl2 := (repL_iff.1 hr).1
          obtain ⟨l1, key, hrep⟩ := splice_rep (E := E) (σ := σ) (h := h) fd.offset hc 0 hr
          simp only [Nat.add_zero] at key hrep
          obtain ⟨l', e1, e2⟩ := fillA_sound hu hf hrep (by simpa using hl) (fun k p q hp' hq' => hp (k + 1) p q (by simpa using hp') (by simpa using hq'))
          refine ⟨l', ?_, e2⟩
          simp only [Instr.fill, hfd, Option.map_some]
          rw [if_neg]
          · rw [← Array.foldl_toList, Array.toList_zipIdx, key]; exact e1
          · simp only [Array.length_toList] at hlen
            simp
            omega
        · cases hf

theorem zeroA_sound {h : View} {t : TypeId} {z : List AV} (hz : zeroA P t = some z) : ∃ v, (zeroValue t).run P w = .ok v w ∧ AV.repL h E σ z v.cells.toList := by
  unfold zeroA at hz
  cases hi : P.info? t with
  | none => simp [hi] at hz
  | some i =>
    cases hv : i.zero with
    | none => simp [hi, hv] at hz
    | some v =>
      simp [hi, hv] at hz
      subst hz
      refine ⟨v, by simp [zeroValue, typeInfo, hi, hv], ?_⟩
      generalize v.cells.toList = l
      induction l with
      | nil => simp [AV.repL]
      | cons x xs ih => exact ⟨x, xs, rfl, cAV_rep h E σ x, ih⟩

theorem partA_sound {h : View} {t : TypeId} {cs : List AV} {l : List Value} {off : Nat} {r : AV} (hp : partA P t cs off = some r) (hr : AV.repL h E σ cs l) :
    ∃ v, (part t ⟨l⟩ off).run P w = .ok v w ∧ r.rep h E σ v := by
  obtain ⟨hl, hg⟩ := repL_iff.1 hr
  unfold partA at hp
  split at hp
  · rename_i ha
    split at hp
    · simp only [Option.some.injEq] at hp
      subst hp
      refine ⟨.agg ⟨(l.drop off).take (P.cellsOf t)⟩, ?_, ?_⟩
      · simp [part, run_isAgg ha, run_sizeT (hasT_agg ha)]
      · simp only [AV.rep]
        refine ⟨_, rfl, repL_iff.2 ⟨by simp [hl], fun i a v hx hy => ?_⟩⟩
        rw [List.getElem?_take] at hx hy
        split at hx
        · rename_i hlt
          rw [if_pos hlt] at hy
          rw [List.getElem?_drop] at hx hy
          exact hg _ a v hx hy
        · cases hx
    · cases hp
  · rename_i ha
    split at hp
    · rename_i hh
      have hlt : off < l.length := by
        have := (List.getElem?_eq_some_iff.1 hp).1
        omega
      refine ⟨l[off], ?_, hg off r _ hp (List.getElem?_eq_getElem hlt)⟩
      simp [part, run_isAgg_not (by simpa using ha) hh, hlt]
    · cases hp

theorem scEq_sound {t : TypeId} {a b : AV} {r : Bool} {u v : Value} (h : scEq P t a b = some r) (hu : a.rep (view w ow) E σ u) (hv : b.rep (view w ow) E σ v) :
    (Op.equalIn 9999 t u v).run P w = .ok r w ∧ hasT P t = true ∧ aggT P t = false := by
  unfold scEq at h
  split at h
  · split at h
    · rename_i hc
      simp only [Option.some.injEq] at h
      subst h
      simp only [AV.rep, PV.rep] at hu hv
      subst hu hv
      obtain ⟨h1, rfl⟩ := hc
      obtain ⟨k', hk⟩ := Option.isSome_iff_exists.1 h1
      have := intT_spec hk
      exact ⟨run_equalIn_int w 9998 t _ k' _ _ this, by simp [hasT, this], by simp [aggT, this]⟩
    · cases h
  · split at h
    · rename_i hc
      simp only [Option.some.injEq] at h
      subst h
      simp only [AV.rep, PV.rep] at hu hv
      subst hu hv
      have := strT_spec hc
      refine ⟨?_, by simp [hasT, this], by simp [aggT, this]⟩
      rw [run_equalIn_string w 9998 t _ _ this, ByteArray.toList_eq, ByteArray.toList_eq]
    · cases h
  · split at h
    · rename_i hc
      simp only [Option.some.injEq] at h
      subst h
      simp only [AV.rep, PV.rep] at hu hv
      subst hu hv
      have := boolT_spec hc
      exact ⟨run_equalIn_bool' w 9998 t _ _ this, by simp [hasT, this], by simp [aggT, this]⟩
    · cases h
  · cases h

theorem eqP_sound {as bs : List AV} {l l' : List Value} (ha : AV.repL (view w ow) E σ as l) (hb : AV.repL (view w ow) E σ bs l') : ∀ {fs : List Field} {r : Bool}, eqP P as bs (fs.map fun f => (f.offset, f.type)) = some r → (fs.all fun f => f.name != "_") = true →
    (Op.eqFields 9999 ⟨l⟩ ⟨l'⟩ fs).run P w = .ok r w
  | [], r, h, hn => by
    simp only [List.map_nil, eqP, Option.some.injEq] at h
    subst h
    rfl
  | f :: fs, r, h, hn => by
    simp only [List.all_cons, Bool.and_eq_true] at hn
    simp only [List.map_cons, eqP] at h
    split at h
    · rename_i a b h1 h2
      split at h
      · rename_i q s hq hs
        simp only [Option.some.injEq] at h
        subst h
        obtain ⟨hl, hg⟩ := repL_iff.1 ha
        obtain ⟨hl', hg'⟩ := repL_iff.1 hb
        have hlt : f.offset < l.length := by have := (List.getElem?_eq_some_iff.1 h1).1; omega
        have hlt' : f.offset < l'.length := by have := (List.getElem?_eq_some_iff.1 h2).1; omega
        obtain ⟨e1, e2, e3⟩ := scEq_sound hq (hg _ a _ h1 (List.getElem?_eq_getElem hlt)) (hg' _ b _ h2 (List.getElem?_eq_getElem hlt'))
        have p1 : (part f.type ⟨l⟩ f.offset).run P w = .ok l[f.offset] w := by simp [part, run_isAgg_not e3 e2, hlt]
        have p2 : (part f.type ⟨l'⟩ f.offset).run P w = .ok l'[f.offset] w := by simp [part, run_isAgg_not e3 e2, hlt']
        have ih := eqP_sound ha hb hs hn.2
        have hne : f.name ≠ "_" := by simpa using hn.1
        simp only [Op.eqFields, hne, ne_eq, not_false_eq_true, if_true, Sem.run_bind, p1, p2, e1, Result.andThen_ok]
        cases q with
        | true => simpa using ih
        | false => simp
      · cases h
    · cases h

theorem binA_sound {op : BinOp} {t : TypeId} {x y : AV} {u v : Value} {c : Prop} {r : AV} (h : binA P op t x y = some (c, r)) (hc : c)
    (hx : x.rep (view w ow) E σ u) (hy : y.rep (view w ow) E σ v) (ox oy : Operand) :
    ∃ z, (do eqGuard op t ox oy u v; binOp op t u v : Sem Value).run P w = .ok z w ∧ r.rep (view w ow) E σ z := by
  unfold binA at h
  split at h
  · rename_i as bs
    split at h
    · rename_i fs hfs
      split at h
      · rename_i b hb
        simp only [AV.rep] at hx hy
        obtain ⟨l, rfl, hl⟩ := hx
        obtain ⟨l', rfl, hl'⟩ := hy
        unfold eqT at hfs
        split at hfs
        · rename_i ff hu
          split at hfs
          · rename_i hcond
            simp only [Option.some.injEq] at hfs
            subst hfs
            have hfo : P.fieldsOf t = ff := by simp [Program.fieldsOf, hu]
            have ht : P.underlying t = some (.struct (P.fieldsOf t)) := by rw [hfo]; exact hu
            have he : (Op.equalIn 10000 t (.agg ⟨l⟩) (.agg ⟨l'⟩)).run P w = .ok b w := by
              rw [show (10000 : Nat) = 9999 + 1 from rfl, run_equalIn_agg w 9999 t _ _ ht hcond.1, hfo]
              exact eqP_sound hl hl' hb hcond.2.2
            have hg := run_eqGuard_agg w op t ox oy ⟨l⟩ ⟨l'⟩ hcond.2.1
            unfold nilRes at h
            split at h
            · simp only [Option.some.injEq, Prod.mk.injEq] at h
              obtain ⟨rfl, rfl⟩ := h
              simp only [Sem.run_bind, hg, Result.andThen_ok, run_eql_struct, he]
              exact ⟨_, rfl, by simp [AV.rep, PV.rep]⟩
            · simp only [Option.some.injEq, Prod.mk.injEq] at h
              obtain ⟨rfl, rfl⟩ := h
              simp only [Sem.run_bind, hg, Result.andThen_ok, run_neq_struct, he]
              exact ⟨_, rfl, by simp [AV.rep, PV.rep]⟩
            · cases h
          · cases hfs
        · cases hfs
      · cases h
    · cases h
  · exact binP_sound h hc hx hy ox oy

theorem byteT_spec {t : TypeId} (h : byteT P t = true) : ∃ e, P.underlying t = some (.slice e) ∧ P.underlying e = some (.int .u8) := by
  unfold byteT at h
  split at h
  · rename_i e he
    split at h
    · rename_i hi; exact ⟨e, elemT_spec he, intT_spec hi⟩
    · cases h
  · cases h
theorem byteRow_get : ∀ {xs : List (List PV)} {l : List UInt8}, byteRow xs = some l → ∃ ns : List Int, xs = ns.map (fun n => [PV.int .u8 n]) ∧ l = ns.map fun n => UInt8.ofNat n.toNat
  | [], l, h => by
    simp only [byteRow, Option.some.injEq] at h
    exact ⟨[], rfl, h.symm⟩
  | x :: xs, l, h => by
    unfold byteRow at h
    split at h
    · rename_i heq; cases heq
    · rename_i n l' heq
      cases heq
      simp only [Option.map_eq_some_iff] at h
      obtain ⟨l2, h1, rfl⟩ := h
      obtain ⟨ns, rfl, rfl⟩ := byteRow_get h1
      exact ⟨n :: ns, rfl, rfl⟩
    · cases h
/-- the conversion of a row of bytes -/
theorem bytes_conv {src dst : TypeId} {a : Option Addr} {c s : Nat} {xs : List (List PV)} {l : List UInt8} {h0 : View} (hb : byteT P src = true) (ht : strT P dst = true) (hl : byteRow xs = some l)
    (hx : xs = [] ∨ ∃ b o, a = some ⟨b, o, none⟩ ∧ s = 1 ∧ ∀ (i : Nat) (x : List PV), xs[i]? = some x → ∀ (j : Nat) (p : PV), x[j]? = some p → ∃ u, w.cell? ⟨b, o + i * s + j, none⟩ = some u ∧ p.rep h0 u) :
    (Go.convert src dst (.slice a xs.length c)).run P w = .ok (.string ⟨l.toArray⟩) w := by
  obtain ⟨e, h1, h2⟩ := byteT_spec hb
  obtain ⟨ns, rfl, rfl⟩ := byteRow_get hl
  have h3 := strT_spec ht
  rcases hx with hx | ⟨b, o, rfl, rfl, hx⟩
  · simp only [List.map_eq_nil_iff] at hx
    subst hx
    rw [run_convert_bytes_string w src dst e _ _ c h1 h2 h3]
    cases a with
    | none => simp [Conv.bytesToString]; rfl
    | some a => simp [Conv.bytesToString, loadCells]; rfl
  · have := run_convert_bytes_arg (P := P) w src e h1 h2 b o ns.length c ns rfl (fun i hi => by
      have hg : (ns.map fun n => [PV.int .u8 n])[i]? = some [PV.int .u8 (ns.getD i 0)] := by
        rw [List.getElem?_map, List.getElem?_eq_getElem hi]
        simp [List.getD, List.getElem?_eq_getElem hi]
      obtain ⟨u, u1, u2⟩ := hx i _ hg 0 _ rfl
      simp only [PV.rep] at u2
      subst u2
      simpa using u1) dst h3
    simp only [List.length_map]
    exact this
theorem convX_sound {src dst : TypeId} {x : AV} {v : Value} {c : Prop} {r : AV} (h : convX P src dst x = some (c, r)) (hc : c) (hx : x.rep (view w ow) E σ v) :
    ∃ z, (Go.convert src dst v).run P w = .ok z w ∧ r.rep (view w ow) E σ z := by
  unfold convX at h
  split at h
  · rename_i xs
    split at h
    · rename_i hb
      split at h
      · rename_i l hl
        simp only [Option.some.injEq, Prod.mk.injEq] at h
        obtain ⟨rfl, rfl⟩ := h
        simp only [AV.rep, PV.rep] at hx
        obtain ⟨a, n, c, rfl, rfl, h1, h2⟩ := hx
        refine ⟨.string ⟨l.toArray⟩, bytes_conv (s := 1) (h0 := view w ow) hb.1 hb.2 hl ?_, by simp [AV.rep, PV.rep]⟩
        rcases h2 with h2 | ⟨b, o, s, rfl, h3⟩
        · exact .inl h2
        · refine (Classical.em (xs = [])).imp id fun hne => ⟨b, o, rfl, rfl, fun i x hi j p hj => ?_⟩
          obtain ⟨g1, g2⟩ := repEs_get h3 hi
          obtain ⟨ns, rfl, _⟩ := byteRow_get hl
          have hs : s = 1 := by
            rw [List.getElem?_map] at hi
            cases hn : ns[i]? with
            | none => simp [hn] at hi
            | some n => simp [hn] at hi; rw [← hi] at g1; simpa using g1.symm
          subst hs
          obtain ⟨u, u1, u2⟩ := repCs_get g2 hj
          exact ⟨u, (view_lt u1).2.2, u2⟩
      · cases h
    · cases h
  · split at h
    · rename_i hb
      simp only [Option.some.injEq, Prod.mk.injEq] at h
      obtain ⟨rfl, rfl⟩ := h
      simp only [AV.rep] at hx
      obtain ⟨a, rfl⟩ := hx
      exact ⟨.string ⟨[].toArray⟩, bytes_conv (s := 1) (h0 := view w ow) (xs := []) hb.1 hb.2 rfl (.inl rfl), by simp [AV.rep, PV.rep]⟩
    · cases h
  · obtain ⟨hh, h⟩ := ite_some h
    obtain ⟨ds, hds⟩ := Option.isSome_iff_exists.1 hh
    unfold convP at h
    split at h
    · simp only [AV.rep, PV.rep] at hx
      subst hx
      split at h
      · rename_i k' hk
        simp only [Option.some.injEq, Prod.mk.injEq] at h
        obtain ⟨rfl, rfl⟩ := h
        refine ⟨_, by simp only [Go.convert, Sem.run_bind, run_underlying hds, run_underlying (intT_spec hk), Result.andThen_ok, Conv.intToInt, Sem.run_pure, wrap_inR hc]; rfl, by simp [AV.rep, PV.rep]⟩
      · cases h
    · obtain ⟨ht, h⟩ := ite_some h
      simp only [Option.some.injEq, Prod.mk.injEq] at h
      obtain ⟨rfl, rfl⟩ := h
      have hx' := hx
      simp only [AV.rep, PV.rep] at hx'
      refine ⟨v, ?_, hx⟩
      rw [hx']
      simp only [Go.convert, Sem.run_bind, run_underlying hds, run_underlying (strT_spec ht), Result.andThen_ok, Sem.run_pure]
    · cases h
theorem isNilC_eval (hev : ∀ v, ev (.const v) = v) {y : Operand} (h : isNilC y = true) : ev y = .slice none 0 0 := by
  unfold isNilC at h
  split at h
  · rw [hev]
    unfold isNilV at h
    split at h
    · rfl
    · cases h
  · cases h
theorem run_nil {op : BinOp} {t e : TypeId} (ht : P.underlying t = some (.slice e)) (a : Option Addr) (n c : Nat) (ox oy : Operand) :
    (op = .eql → (do eqGuard op t ox oy (.slice a n c) (.slice none 0 0); binOp op t (.slice a n c) (.slice none 0 0) : Sem Value).run P w = .ok (.bool a.isNone) w) ∧
    (op = .neq → (do eqGuard op t ox oy (.slice a n c) (.slice none 0 0); binOp op t (.slice a n c) (.slice none 0 0) : Sem Value).run P w = .ok (.bool (!a.isNone)) w) := by
  constructor
  · rintro rfl
    have := Lib.run_eql_slice_nil (P := P) w t e a n c 0 0 ht
    simp [eqGuard, this]
  · rintro rfl
    have := run_neq_slice_nil_any (P := P) w t e a n c 0 0 ht
    simp [eqGuard, this]
theorem anyRes_sound {op : BinOp} {t : TypeId} {c : Prop} {r : AV} (h : anyRes op = some (c, r)) (ht : (elemT P t).isSome = true) (a : Option Addr) (n m : Nat) (ox oy : Operand) :
    ∃ z, (do eqGuard op t ox oy (.slice a n m) (.slice none 0 0); binOp op t (.slice a n m) (.slice none 0 0) : Sem Value).run P w = .ok z w ∧ r.rep (view w ow) E σ z := by
  obtain ⟨e, he⟩ := Option.isSome_iff_exists.1 ht
  have := run_nil (P := P) (w := w) (op := op) (elemT_spec he) a n m ox oy
  unfold anyRes at h
  split at h
  · cases h; exact ⟨_, this.1 rfl, by simp [AV.rep, PV.rep]⟩
  · cases h; exact ⟨_, this.2 rfl, by simp [AV.rep, PV.rep]⟩
  · cases h
theorem someRes_sound {op : BinOp} {t : TypeId} {c : Prop} {r : AV} (h : nilRes op false = some (c, r)) (ht : (elemT P t).isSome = true) (a : Addr) (n m : Nat) (ox oy : Operand) :
    ∃ z, (do eqGuard op t ox oy (.slice (some a) n m) (.slice none 0 0); binOp op t (.slice (some a) n m) (.slice none 0 0) : Sem Value).run P w = .ok z w ∧ r.rep (view w ow) E σ z := by
  obtain ⟨e, he⟩ := Option.isSome_iff_exists.1 ht
  have := run_nil (P := P) (w := w) (op := op) (elemT_spec he) (some a) n m ox oy
  unfold nilRes at h
  split at h
  · cases h; exact ⟨_, this.1 rfl, by simp [AV.rep, PV.rep]⟩
  · cases h; exact ⟨_, this.2 rfl, by simp [AV.rep, PV.rep]⟩
  · cases h
theorem nilCmp_sound {op : BinOp} {t : TypeId} {x : AV} {u v : Value} {c : Prop} {r : AV} (h : nilCmp P op t x = some (c, r)) (hx : x.rep (view w ow) E σ u) (hv : v = .slice none 0 0) (ox oy : Operand) :
    ∃ z, (do eqGuard op t ox oy u v; binOp op t u v : Sem Value).run P w = .ok z w ∧ r.rep (view w ow) E σ z := by
  subst hv
  unfold nilCmp at h
  split at h
  · rename_i ht
    split at h
    · simp only [AV.rep, PV.rep] at hx
      obtain ⟨a, n, m, rfl, _⟩ := hx
      exact anyRes_sound h ht a n m ox oy
    · simp only [AV.rep, PV.rep] at hx
      obtain ⟨a, n, m, rfl, _, _, hx⟩ := hx
      rcases hx with hx | ⟨b, o, s, rfl, _⟩
      · cases hx
      · exact someRes_sound h ht _ n m ox oy
    · simp only [AV.rep] at hx
      obtain ⟨a, rfl⟩ := hx
      exact anyRes_sound h ht a 0 0 ox oy
    · cases h
  · cases h
theorem ifaceT_spec {t : TypeId} (h : ifaceT P t = true) : P.underlying t = some (.interface (P.methodsAt t)) := by
  unfold ifaceT at h
  split at h
  · rename_i ms hu
    rw [hu, Program.methodsAt, hu]
  · cases h
theorem nilI_sound (hev : ∀ v, ev (.const v) = v) {op : BinOp} {t : TypeId} {x : AV} {u : Value} {y : Operand} {c : Prop} {r : AV} (hy : isNilI y = true) (h : nilI P op t x = some (c, r)) (hx : x.rep (view w ow) E σ u) (ox : Operand) :
    ∃ z, (do eqGuard op t ox y u (ev y); binOp op t u (ev y) : Sem Value).run P w = .ok z w ∧ r.rep (view w ow) E σ z := by
  unfold isNilI at hy
  split at hy
  · rw [hev]
    unfold nilI at h
    split at h
    · simp only [AV.rep, PV.rep] at hx
      obtain ⟨rfl, _⟩ := hx
      split at h
      · rename_i ht
        have hu := ifaceT_spec ht
        rw [eqGuard_nil_constR]
        unfold nilRes at h
        split at h
        · cases h; exact ⟨_, by simpa using run_eql_nil_nil (P := P) w t hu, by simp [AV.rep, PV.rep]⟩
        · cases h; exact ⟨_, by simpa using run_neq_nil_nil (P := P) w t hu, by simp [AV.rep, PV.rep]⟩
        · cases h
      · cases h
    · cases h
  · cases hy
theorem pureR_sound {o : Oper} {c : Prop} {r : AV} (h : pureR P ρ o.op = some (c, r)) (hc : c) (hev : ∀ v, ev (.const v) = v) (hr : ∀ x ∈ o.op.operands, (ρ x).rep (view w ow) E σ (ev x)) :
    Gives P ev E σ w ow o r := by
  obtain ⟨dst, op, ty, pos, after, guard⟩ := o
  simp only at h hr
  unfold Gives
  cases op <;> simp only [pureR, reduceCtorEq] at h
  case move x =>
    simp only [Option.some.injEq, Prod.mk.injEq] at h
    obtain ⟨rfl, rfl⟩ := h
    exact ⟨ev x, rfl, hr x (by simp [Op.operands])⟩
  case assign x =>
    have hx := hr x (by simp [Op.operands])
    split at h
    · cases h
    · cases h
    · simp only [Option.some.injEq, Prod.mk.injEq] at h
      obtain ⟨rfl, rfl⟩ := h
      exact ⟨ev x, rfl, hx⟩
  case nilCheck x =>
    have hx := hr x (by simp [Op.operands])
    split at h <;> simp only [Option.some.injEq, Prod.mk.injEq, reduceCtorEq] at h <;> obtain ⟨rfl, rfl⟩ := h
    · rename_i he
      rw [he] at hx
      have hx' := hx
      simp only [AV.rep] at hx'
      obtain ⟨b, hb, _⟩ := hx'
      refine ⟨ev x, ?_, hx⟩
      simp [execOp, hb]
    · rename_i he
      rw [he] at hx
      have hx' := hx
      simp only [AV.rep] at hx'
      obtain ⟨b, hb, _⟩ := hx'
      refine ⟨ev x, ?_, hx⟩
      simp [execOp, hb]
    · rename_i he
      rw [he] at hx
      have hx' := hx
      simp only [AV.rep, PV.rep] at hx'
      obtain ⟨b, o, hb, _⟩ := hx'
      refine ⟨ev x, ?_, hx⟩
      simp [execOp, hb]
  case binOp op t x y yt =>
    have hx := hr x (by simp [Op.operands])
    have hy := hr y (by simp [Op.operands])
    split at h
    · rename_i hn
      obtain ⟨z, z1, z2⟩ := nilCmp_sound h hx (isNilC_eval hev hn) x y
      refine ⟨z, ?_, z2⟩
      simp only [execOp]
      rw [Sem.run_bind, z1]
      rfl
    split at h
    · rename_i hn
      obtain ⟨z, z1, z2⟩ := nilI_sound hev hn h hx x
      refine ⟨z, ?_, z2⟩
      simp only [execOp]
      rw [Sem.run_bind, z1]
      rfl
    · obtain ⟨z, h1, h2⟩ := binA_sound h hc hx hy x y
      refine ⟨z, ?_, h2⟩
      simp only [execOp]
      rw [Sem.run_bind, h1]
      rfl
  case unOp op t x =>
    have hx := hr x (by simp [Op.operands])
    unfold unP at h
    split at h <;> simp only [Option.some.injEq, Prod.mk.injEq, reduceCtorEq] at h <;> obtain ⟨rfl, rfl⟩ := h
    · rename_i b he
      rw [he] at hx
      simp only [AV.rep, PV.rep] at hx
      exact ⟨.bool !b, by simp [execOp, hx, Op.unary], by simp [AV.rep, PV.rep]⟩
    · rename_i k n he
      rw [he] at hx
      simp only [AV.rep, PV.rep] at hx
      refine ⟨.int k (-n), ?_, by simp [AV.rep, PV.rep]⟩
      simp [execOp, hx, Op.unary, Op.intArith, wrap_inR hc]
  case convert src dst x =>
    have hx := hr x (by simp [Op.operands])
    obtain ⟨z, z1, z2⟩ := convX_sound h hc hx
    exact ⟨z, by simp [execOp, z1], z2⟩
  case slice t x lo hi mx =>
    have hx := hr x (by simp [Op.operands])
    have o1 : optRep (view w ow) E σ (lo.map ρ) (lo.map ev) := by
      cases lo with
      | none => trivial
      | some l => exact hr l (by simp [Op.operands])
    have o2 : optRep (view w ow) E σ (hi.map ρ) (hi.map ev) := by
      cases hi with
      | none => trivial
      | some l => exact hr l (by simp [Op.operands])
    obtain ⟨z, h1, h2⟩ := sliceP_sound h hc hx o1 o2 (vmx := mx.map ev) (by cases mx <;> simp)
    exact ⟨z, by simp [execOp, h1], h2⟩
  case fieldAddr T x f =>
    have hx := hr x (by simp [Op.operands])
    split at h
    · rename_i o d off st ho he
      simp only [Option.some.injEq, Prod.mk.injEq] at h
      obtain ⟨rfl, rfl⟩ := h
      rw [he] at hx
      simp only [AV.rep] at hx
      obtain ⟨b, hb, hs⟩ := hx
      exact ⟨.pointer (some ⟨b, off + o, none⟩), by simp [execOp, hb, fieldAt_sound ho], by simp only [AV.rep]; exact ⟨b, rfl, hs⟩⟩
    · rename_i o k st i s off ho he
      simp only [Option.some.injEq, Prod.mk.injEq] at h
      obtain ⟨rfl, rfl⟩ := h
      rw [he] at hx
      simp only [AV.rep] at hx
      obtain ⟨b, hb, hs⟩ := hx
      exact ⟨.pointer (some ⟨b, i * s + off + o, none⟩), by simp [execOp, hb, fieldAt_sound ho], by simp only [AV.rep]; exact ⟨b, by rw [Nat.add_assoc], hs⟩⟩
    · rename_i o cs ho he
      simp only [Option.some.injEq, Prod.mk.injEq] at h
      obtain ⟨rfl, rfl⟩ := h
      rw [he] at hx
      simp only [AV.rep, PV.rep] at hx
      obtain ⟨b, q, hb, hs⟩ := hx
      exact ⟨.pointer (some ⟨b, q + o, none⟩), by simp [execOp, hb, fieldAt_sound ho], by simp only [AV.rep, PV.rep]; exact ⟨b, _, rfl, repCs_drop _ hs⟩⟩
    · cases h
  case field T x f =>
    have hx := hr x (by simp [Op.operands])
    split at h
    · rename_i o ft cs ho hft he
      rw [he] at hx
      simp only [AV.rep] at hx
      obtain ⟨l, hl, hrl⟩ := hx
      cases hp : partA P ft cs o with
      | none => simp [hp] at h
      | some a =>
        simp only [hp, Option.map_some, Option.some.injEq, Prod.mk.injEq] at h
        obtain ⟨rfl, rfl⟩ := h
        obtain ⟨fs, fd, hu, hf, hz, rfl⟩ := offT_spec ho
        obtain ⟨fs2, fd2, hu2, hfd2, rfl⟩ := fldT_spec hft
        rw [hu] at hu2
        simp only [Option.some.injEq, TypeDesc.struct.injEq] at hu2
        subst hu2
        rw [hf] at hfd2
        simp only [Option.some.injEq] at hfd2
        subst hfd2
        obtain ⟨v, h1, h2⟩ := partA_sound (P := P) (w := w) hp hrl
        exact ⟨v, by simp [execOp, hl, Instr.field, run_underlying hu, hf, asAgg, h1], h2⟩
    · cases h
  case indexAddr t x i =>
    have hx := hr x (by simp [Op.operands])
    have hi := hr i (by simp [Op.operands])
    split at h
    · rename_i xs k n he1 he2
      split at h
      · rename_i e he
        simp only [Option.some.injEq, Prod.mk.injEq] at h
        obtain ⟨rfl, rfl⟩ := h
        rw [he1] at hx
        rw [he2] at hi
        simp only [AV.rep, PV.rep] at hx hi
        obtain ⟨a, m, cap, hv, rfl, hle, hx⟩ := hx
        obtain ⟨hn, hlt, hlen, hz⟩ := hc
        rcases hx with rfl | ⟨b, o, s, rfl, hx⟩
        · simp at hlt; omega
        · have hget : xs[n.toNat]? = some (xs.getD n.toNat []) := by
            have : n.toNat < xs.length := by omega
            simp [List.getD, List.getElem?_eq_getElem this]
          obtain ⟨hs, hcs⟩ := repEs_get hx hget
          have hs' : s = P.cellsOf e := by rw [← hs, hlen]
          subst hs'
          refine ⟨.pointer (some ⟨b, o + n.toNat * P.cellsOf e, none⟩), ?_, by simp only [AV.rep, PV.rep]; exact ⟨b, _, rfl, hcs⟩⟩
          simp [execOp, hv, hi, Instr.indexAt, asIntOf, run_underlying (elemT_spec he), hn, hlt, run_sizeE hz, Addr.add_lit]
      · cases h
    · rename_i d off st k n he1 he2
      split at h
      · rename_i len e he
        simp only [Option.some.injEq, Prod.mk.injEq] at h
        obtain ⟨rfl, rfl⟩ := h
        rw [he1] at hx
        rw [he2] at hi
        simp only [AV.rep, PV.rep] at hx hi
        obtain ⟨b, hb, hs⟩ := hx
        obtain ⟨hn, hlt, hz⟩ := hc
        refine ⟨.pointer (some ⟨b, off + n.toNat * P.cellsOf e, none⟩), ?_, by simp only [AV.rep]; exact ⟨b, rfl, hs⟩⟩
        simp [execOp, hb, hi, Instr.indexAt, asIntOf, run_underlying (arrT_spec he), Instr.sureAddr, hn, hlt, run_sizeE hz, Addr.add_lit]
      · cases h
    · rename_i cs k n he1 he2
      split at h
      · rename_i len e he
        simp only [Option.some.injEq, Prod.mk.injEq] at h
        obtain ⟨rfl, rfl⟩ := h
        rw [he1] at hx
        rw [he2] at hi
        simp only [AV.rep, PV.rep] at hx hi
        obtain ⟨b, o, hb, hs⟩ := hx
        obtain ⟨hn, hlt, hz⟩ := hc
        refine ⟨.pointer (some ⟨b, o + n.toNat * P.cellsOf e, none⟩), ?_, by simp only [AV.rep, PV.rep]; exact ⟨b, _, rfl, repCs_drop _ hs⟩⟩
        simp [execOp, hb, hi, Instr.indexAt, asIntOf, run_underlying (arrT_spec he), Instr.sureAddr, hn, hlt, run_sizeE hz, Addr.add_lit]
      · cases h
    · cases h
  case index t x i =>
    have hx := hr x (by simp [Op.operands])
    have hi := hr i (by simp [Op.operands])
    split at h
    · rename_i l k n he1 he2
      obtain ⟨ht, h⟩ := ite_some h
      simp only [Option.some.injEq, Prod.mk.injEq] at h
      obtain ⟨rfl, rfl⟩ := h
      rw [he1] at hx
      rw [he2] at hi
      simp only [AV.rep, PV.rep] at hx hi
      obtain ⟨hn, hlt⟩ := hc
      have hlt' : n.toNat < l.length := by omega
      have hg : (⟨l.toArray⟩ : ByteArray)[n.toNat]? = some (l.getD n.toNat 0) := by
        rw [getElem?_pos (⟨l.toArray⟩ : ByteArray) n.toNat hlt']
        simp [List.getD, List.getElem?_eq_getElem hlt']
        rfl
      refine ⟨.int .u8 ((l.getD n.toNat 0).toNat : Int), ?_, by simp [AV.rep, PV.rep]⟩
      simp [execOp, hx, hi, Instr.index, asIntOf, run_underlying (strT_spec ht), hn, hg]
    · rename_i cs k n he1 he2
      split at h
      · rename_i len e he
        cases hp : partA P e cs (n.toNat * P.cellsOf e) with
        | none => simp [hp] at h
        | some a =>
          simp only [hp, Option.map_some, Option.some.injEq, Prod.mk.injEq] at h
          obtain ⟨rfl, rfl⟩ := h
          rw [he1] at hx
          rw [he2] at hi
          simp only [AV.rep, PV.rep] at hx hi
          obtain ⟨l, hl, hrl⟩ := hx
          obtain ⟨hn, hlt, hz⟩ := hc
          obtain ⟨v, h1, h2⟩ := partA_sound (P := P) (w := w) hp hrl
          exact ⟨v, by simp [execOp, hl, hi, Instr.index, asIntOf, run_underlying (arrT_spec he), hn, hlt, run_sizeE hz, h1], h2⟩
      · cases h
    · cases h
  case build t parts =>
    unfold buildP at h
    split at h
    · rename_i z hz
      split at h
      · rename_i cs hf
        obtain ⟨hs, h⟩ := ite_some h
        simp only [Option.some.injEq, Prod.mk.injEq] at h
        obtain ⟨rfl, rfl⟩ := h
        unfold stT at hs
        cases hu : P.underlying t with
        | none => simp [hu] at hs
        | some d =>
          cases d <;> simp only [hu, Bool.false_eq_true] at hs
          case struct fs =>
            unfold zeroA at hz
            cases hi : P.info? t with
            | none => simp [hi] at hz
            | some it =>
              cases hv : it.zero with
              | none => simp [hi, hv] at hz
              | some zv =>
                simp [hi, hv] at hz
                subst hz
                have hzr : AV.repL (view w ow) E σ (zv.cells.toList.map cAV) zv.cells.toList := by
                  generalize zv.cells.toList = l
                  induction l with
                  | nil => simp [AV.repL]
                  | cons x xs ih => exact ⟨x, xs, rfl, cAV_rep _ E σ x, ih⟩
                obtain ⟨l', e1, e2⟩ := fillA_sound hu (vparts := (parts.map fun (i, x) => (i, ev x)).toList) hf hzr (by simp) (fun i p q hp hq => by
                  simp only [Array.toList_map, List.getElem?_map] at hp hq
                  cases hpi : parts.toList[i]? with
                  | none => simp [hpi] at hp
                  | some y =>
                    simp only [hpi, Option.map_some, Option.some.injEq] at hp hq
                    subst hp hq
                    exact ⟨rfl, hr _ (by
                      simp only [Op.operands]
                      have := List.mem_of_getElem? hpi
                      simp
                      exact ⟨y.1, by simpa using this⟩)⟩)
                have hb : P.built t (parts.map fun (i, x) => (i, ev x)).toList = some ⟨l'⟩ := by
                  have hp : fs.toList.mapM (fun f => (P.info? f.type).map fun i => (f.offset, i.size)) = some (fs.toList.map fun f => (f.offset, P.cellsOf f.type)) := by
                    generalize fs.toList = l at hs
                    induction l with
                    | nil => rfl
                    | cons f fs ih =>
                      simp only [List.all_cons, Bool.and_eq_true] at hs
                      obtain ⟨i, hi⟩ := Option.isSome_iff_exists.1 hs.1
                      simp [List.mapM_cons, hi, ih hs.2, Program.cellsOf]
                  simp only [Program.built, hi, hu, hv, hp]
                  rw [← e1]
                  congr 1
                  funext i
                  simp
                exact ⟨.agg ⟨l'⟩, by simp [execOp, run_build w t _ _ hb], by simp only [AV.rep]; exact ⟨l', rfl, e2⟩⟩
      · cases h
    · cases h
  case extract x i =>
    have hx := hr x (by simp [Op.operands])
    split at h
    · rename_i vs he
      rw [he] at hx
      simp only [AV.rep] at hx
      obtain ⟨l, hl, hrl⟩ := hx
      cases hv : vs[i]? with
      | none => simp [hv] at h
      | some a =>
        simp only [hv, Option.map_some, Option.some.injEq, Prod.mk.injEq] at h
        obtain ⟨rfl, rfl⟩ := h
        obtain ⟨h1, h2⟩ := repL_iff.1 hrl
        have hlt : i < l.length := by
          have := (List.getElem?_eq_some_iff.1 hv).1
          omega
        refine ⟨l[i], ?_, h2 i a _ hv (List.getElem?_eq_getElem hlt)⟩
        simp [execOp, hl, Instr.extract, hlt]
    · cases h
  case load t x =>
    have hx := hr x (by simp [Op.operands])
    split at h
    · rename_i cs he
      rw [he] at hx
      simp only [AV.rep, PV.rep] at hx
      obtain ⟨b, o, hb, hs⟩ := hx
      cases hv : cellsA P t cs with
      | none => simp [hv] at h
      | some a =>
        simp only [hv, Option.map_some, Option.some.injEq, Prod.mk.injEq] at h
        obtain ⟨rfl, rfl⟩ := h
        obtain ⟨v, h1, h2⟩ := loadA_sound (P := P) (E := E) (σ := σ) hv hs
        exact ⟨v, by simp [execOp, hb, Instr.loadAt, Instr.sureAddr, h1], h2⟩
    · cases h
  case makeFunc fn first caps =>
    simp only [Option.some.injEq, Prod.mk.injEq] at h
    obtain ⟨rfl, rfl⟩ := h
    have gen : ∀ (xs : List Operand), (∀ x ∈ xs, (ρ x).rep (view w ow) E σ (ev x)) → AV.repL (view w ow) E σ (xs.map ρ) (xs.map ev) := by
      intro xs hxs
      induction xs with
      | nil => simp [AV.repL]
      | cons x xs ih => exact ⟨_, _, rfl, hxs x (by simp), ih (fun y hy => hxs y (by simp [hy]))⟩
    refine ⟨.func fn (first.map ev) (caps.map ev), by simp [execOp, Instr.makeFunc], ?_⟩
    simp only [AV.rep]
    refine ⟨first.toList.map ev, caps.toList.map ev, ?_, gen _ (fun x hx => hr x (by simp [Op.operands]; exact .inl (by simpa using hx))), gen _ (fun x hx => hr x (by simp [Op.operands]; exact .inr (by simpa using hx)))⟩
    congr 1 <;> apply Array.ext' <;> simp
  case call cl =>
    obtain ⟨callee, args, argTypes⟩ := cl
    cases callee with
    | value f => simp at h
    | invoke a b => simp at h
    | builtin b =>
      simp only at h
      have hargs : ∀ x ∈ args.toList, (ρ x).rep (view w ow) E σ (ev x) := fun x hx => hr x (by simp [Op.operands, Call.operands]; simpa using hx)
      have hop : (execOp ev { dst := dst, op := Op.call { callee := .builtin b, args := args, argTypes := argTypes }, type := ty, pos := pos, after := after, guard := guard }) =
          builtin b argTypes ty (args.map fun | .const _ => true | _ => false) (args.map ev) := rfl
      rw [hop]
      unfold binArgs at h
      split at h
      · rename_i x t e1 e2
        have ha : args = #[x] := by cases args; simp_all
        have ht : argTypes = #[t] := by cases argTypes; simp_all
        subst ha ht
        have hx := hargs x (by simp)
        split at h
        · rename_i l he
          obtain ⟨hs, h⟩ := ite_some h
          simp only [Option.some.injEq, Prod.mk.injEq] at h
          obtain ⟨rfl, rfl⟩ := h
          rw [he] at hx
          simp only [AV.rep, PV.rep] at hx
          refine ⟨.int .i64 (l.length : Int), ?_, by simp [AV.rep, PV.rep]⟩
          have hsz : (⟨l.toArray⟩ : ByteArray).size = l.length := rfl
          simp [builtin, Builtin.len_, hx, run_underlying (strT_spec hs), goInt, hsz]
        · rename_i xs he
          obtain ⟨hs, h⟩ := ite_some h
          obtain ⟨e, hs⟩ := Option.isSome_iff_exists.1 hs
          simp only [Option.some.injEq, Prod.mk.injEq] at h
          obtain ⟨rfl, rfl⟩ := h
          rw [he] at hx
          simp only [AV.rep, PV.rep] at hx
          obtain ⟨a, n, cap, hv, rfl, _⟩ := hx
          refine ⟨.int .i64 (xs.length : Int), ?_, by simp [AV.rep, PV.rep]⟩
          simp [builtin, Builtin.len_, hv, run_underlying (elemT_spec hs), goInt]
        · rename_i he
          obtain ⟨hs, h⟩ := ite_some h
          obtain ⟨e, hs⟩ := Option.isSome_iff_exists.1 hs
          simp only [Option.some.injEq, Prod.mk.injEq] at h
          obtain ⟨rfl, rfl⟩ := h
          rw [he] at hx
          simp only [AV.rep] at hx
          obtain ⟨a, hv⟩ := hx
          refine ⟨.int .i64 0, ?_, by simp [AV.rep, PV.rep]⟩
          simp [builtin, Builtin.len_, hv, run_underlying (elemT_spec hs), goInt]
        · cases h
      · rename_i ts x y e1
        have ha : args = #[x, y] := by cases args; simp_all
        subst ha
        have hx := hargs x (by simp)
        have hy := hargs y (by simp)
        split at h
        · rename_i k a k' b' he1 he2
          split at h
          · rename_i hk
            subst hk
            simp only [Option.some.injEq, Prod.mk.injEq] at h
            obtain ⟨rfl, rfl⟩ := h
            rw [he1] at hx
            rw [he2] at hy
            simp only [AV.rep, PV.rep] at hx hy
            refine ⟨.int k (min a b'), ?_, by simp [AV.rep, PV.rep]⟩
            have : (if b' < a then b' else a) = min a b' := by rw [Int.min_def]; split <;> split <;> omega
            simp [builtin, Builtin.min_, hx, hy, Builtin.min2, this]
          · cases h
        · cases h
      · rename_i ts x y e1
        have ha : args = #[x, y] := by cases args; simp_all
        subst ha
        have hx := hargs x (by simp)
        have hy := hargs y (by simp)
        split at h
        · rename_i k a k' b' he1 he2
          split at h
          · rename_i hk
            subst hk
            simp only [Option.some.injEq, Prod.mk.injEq] at h
            obtain ⟨rfl, rfl⟩ := h
            rw [he1] at hx
            rw [he2] at hy
            simp only [AV.rep, PV.rep] at hx hy
            refine ⟨.int k (max a b'), ?_, by simp [AV.rep, PV.rep]⟩
            have : (if b' > a then b' else a) = max a b' := by rw [Int.max_def]; split <;> split <;> omega
            simp [builtin, Builtin.max_, hx, hy, Builtin.max2, this]
          · cases h
        · cases h
      · cases h

end
end Go.Pw
