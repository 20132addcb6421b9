/- Readings of arguments that are slices of structs of plain cells. -/
import Derived.Test.YtgnedmmecmpnpaaGreatDoorPuSt
import Derived.ChangeSame
namespace Go.Pw
variable [Mode]
open Go.ChangeShapes Go.WideShapes Go.ChangeAt Go.RowKit
set_option linter.unusedSimpArgs false
set_option linter.unusedVariables false
set_option linter.unusedSectionVars false
section
variable {H : Type} {enc : TypeId × Value → H} {P : Program} {W W' : World}
theorem repCs_mk {h : View} {b : Nat} : ∀ {xs : List PV} {o : Nat}, (∀ (j : Nat) p, xs[j]? = some p → ∃ v, h b (o + j) = some v ∧ p.rep h v) → PV.repCs h b o xs
  | [], o, _ => by simp [PV.repCs]
  | x :: xs, o, hx => by
    simp only [PV.repCs]
    refine ⟨by simpa using hx 0 x rfl, repCs_mk fun j p hp => ?_⟩
    have := hx (j + 1) p (by simpa using hp)
    rw [show o + (j + 1) = o + 1 + j by omega] at this
    exact this
/-- how a struct of plain cells is read -/
def RowRead (enc : TypeId × Value → H) (P : Program) (W : World) (e : TypeId) (s : Nat) {α : Type} (R : α → List PV) (D : α → DataW H) (Q : α → Prop) : Prop :=
  ∀ (n : Nat) (cs : List Value) (y : DataW H × List MemPlace), cs.length = s → DataW.trod enc P W 0 (fun _ => true) true n e cs = some y →
    ∃ x : α, Q x ∧ y.1 = D x ∧ ∀ (h : View) (j : Nat) (p : PV), (R x)[j]? = some p → ∃ v, cs[j]? = some v ∧ p.rep h v
theorem argRep_rows {α : Type} {t e : TypeId} {s base : Nat} {r : Reach} {v : Value} {d : DataW H} {ps : List MemPlace} (R : α → List PV) (D : α → DataW H) (Q : α → Prop) (ht : P.underlying t = some (.slice e)) (hc : P.cellsOf e = s) (hs : 0 < s)
    (hR : ∀ x, (R x).length = s) (hel : RowRead enc P W e s R D Q) (hval : Value.okWide P W r base t v) (hd : DataW.Trod enc P W 0 (fun _ => true) true t v d ps) :
    ∃ zs : List α, ArgRep W (.pv (.sl (zs.map R))) v ∧ zs.length ≤ maxLen ∧ (∀ x ∈ zs, Q x) ∧ ((d = .nil ∧ zs = []) ∨ ∃ rest, d = .slice (zs.map D) rest) := by
  obtain ⟨a0, len, cap, rfl⟩ := okWide_slice ht hval
  obtain ⟨fuel, hf⟩ := hd
  rcases DataW.trod_slice ht hf with ⟨hcs, hx⟩ | ⟨a, len', cap', elems, rest, n, _, hcs, hx, hb, hl, hm, hlen, hel', _, _⟩
  · have hcs : a0 = none ∧ len = 0 ∧ cap = 0 := by simpa [Value.cells] using hcs
    obtain ⟨rfl, rfl, rfl⟩ := hcs
    refine ⟨[], ⟨rfl, fun E σ => ?_⟩, by simp, by simp, .inl ⟨by cases hx; rfl, rfl⟩⟩
    simp only [AV.rep, PV.rep]
    exact ⟨none, 0, 0, rfl, rfl, Nat.le_refl _, .inl rfl⟩
  · have hcs : a0 = some a ∧ len = len' ∧ cap = cap' := by simpa [Value.cells] using hcs
    obtain ⟨rfl, rfl, rfl⟩ := hcs
    subst hc
    have each : ∀ i, i < len → ∃ (x : α) (y : DataW H × List MemPlace), elems[i]? = some y ∧ Q x ∧ y.1 = D x ∧ ∀ (h : View) (j : Nat) (p : PV), (R x)[j]? = some p → ∃ v, W.cell? ((a.add (i * P.cellsOf e)).add j) = some v ∧ p.rep h v := by
      intro i hi
      have h1 := hel' i hi
      have h2 : elems[i]? = some (elems[i]'(by omega)) := List.getElem?_eq_getElem _
      rw [h2, Option.bind_eq_some_iff] at h1
      obtain ⟨cs, k1, k2⟩ := h1
      obtain ⟨_, q1, q2⟩ := World.cells?_some k1
      obtain ⟨x, hQ, hD, hx⟩ := hel n cs _ q1 k2
      refine ⟨x, _, h2, hQ, hD, fun h j p hp => ?_⟩
      obtain ⟨v, hv, hr⟩ := hx h j p hp
      have hj : j < P.cellsOf e := by rw [← q1]; exact (List.getElem?_eq_some_iff.1 hv).1
      exact ⟨v, by rw [q2 j hj, hv], hr⟩
    have pick : ∃ zs : List α, zs.length = len ∧ ∀ (i : Nat) (x : α), zs[i]? = some x → ∃ y : DataW H × List MemPlace, elems[i]? = some y ∧ Q x ∧ y.1 = D x ∧ ∀ (h : View) (j : Nat) (p : PV), (R x)[j]? = some p → ∃ v, W.cell? ((a.add (i * P.cellsOf e)).add j) = some v ∧ p.rep h v := by
      have : ∀ m, m ≤ len → ∃ zs : List α, zs.length = m ∧ ∀ (i : Nat) (x : α), zs[i]? = some x → ∃ y : DataW H × List MemPlace, elems[i]? = some y ∧ Q x ∧ y.1 = D x ∧ ∀ (h : View) (j : Nat) (p : PV), (R x)[j]? = some p → ∃ v, W.cell? ((a.add (i * P.cellsOf e)).add j) = some v ∧ p.rep h v := by
        intro m
        induction m with
        | zero => exact fun _ => ⟨[], rfl, by simp⟩
        | succ m ih =>
          intro hm'
          obtain ⟨zs, h1, h2⟩ := ih (by omega)
          obtain ⟨x, y, h3⟩ := each m (by omega)
          refine ⟨zs ++ [x], by simp [h1], fun i x' hx' => ?_⟩
          rcases Nat.lt_or_ge i zs.length with hi | hi
          · rw [List.getElem?_append_left hi] at hx'
            exact h2 i x' hx'
          · rw [List.getElem?_append_right hi] at hx'
            have : i - zs.length = 0 := by
              have := (List.getElem?_eq_some_iff.1 hx').1
              simp at this; omega
            rw [this] at hx'
            simp at hx'; subst hx'
            have : i = m := by omega
            subst this
            exact ⟨y, h3⟩
      exact this len (Nat.le_refl _)
    obtain ⟨zs, hz, hzs⟩ := pick
    refine ⟨zs, ⟨rfl, fun E σ => ?_⟩, by omega, fun x hx => ?_, .inr ⟨rest.map (·.1), ?_⟩⟩
    · simp only [AV.rep, PV.rep]
      refine ⟨some a, len, cap, rfl, by rw [List.length_map, hz], hl, ?_⟩
      by_cases h0 : len = 0
      · left
        subst h0
        rw [List.length_eq_zero_iff.1 hz]; rfl
      · right
        have hsp : a.spot = none := by
          obtain ⟨x, y, _, _, _, h5⟩ := each 0 (by omega)
          have hlt : 0 < (R x).length := by rw [hR]; exact hs
          obtain ⟨v, hv, _⟩ := h5 (fun _ _ => none) 0 _ (List.getElem?_eq_getElem hlt)
          unfold World.cell? at hv
          split at hv
          · split at hv
            · cases hv
            · rename_i hs
              simpa [Addr.add] using hs
          · cases hv
        obtain ⟨b, o, sp⟩ := a
        simp only at hsp
        subst hsp
        have ad : ∀ k o', (⟨b, o', none⟩ : Addr).add k = ⟨b, o' + k, none⟩ := fun k o' => by unfold Addr.add; split <;> simp_all
        refine ⟨b, o, P.cellsOf e, rfl, repEs_mk (fun x hx => ?_) fun i x hx => ?_⟩
        · obtain ⟨z, _, rfl⟩ := List.mem_map.1 hx
          exact hR z
        · rw [List.getElem?_map] at hx
          cases hi : zs[i]? with
          | none => rw [hi] at hx; cases hx
          | some z =>
            rw [hi] at hx
            cases hx
            obtain ⟨y, _, _, _, h5⟩ := hzs i z hi
            refine repCs_mk fun j p hp => ?_
            obtain ⟨v, hv, hr⟩ := h5 (view W (allImm W)) j p hp
            rw [ad, ad] at hv
            exact ⟨v, by simp only [view, allImm, if_true]; exact hv, hr⟩
    · obtain ⟨i, hi⟩ := List.getElem?_of_mem hx
      obtain ⟨y, _, h, _⟩ := hzs i x hi
      exact h
    · cases hx
      congr 1
      apply List.ext_getElem?
      intro i
      rw [List.getElem?_map, List.getElem?_map]
      cases hi : zs[i]? with
      | none => rw [List.getElem?_eq_none (by have := List.getElem?_eq_none_iff.1 hi; omega)]; rfl
      | some z =>
        obtain ⟨y, h1, _, h2, _⟩ := hzs i z hi
        rw [h1]
        simp [h2]
/-- a struct of two integers -/
theorem rowRead_int2 {e : TypeId} {f0 f1 : Field} {k0 k1 : IntKind} (he : P.underlying e = some (.struct #[f0, f1])) (h0 : P.underlying f0.type = some (.int k0)) (h1 : P.underlying f1.type = some (.int k1))
    (o0 : f0.offset = 0) (o1 : f1.offset = 1) (c0 : P.cellsOf f0.type = 1) (c1 : P.cellsOf f1.type = 1) :
    RowRead enc P W e 2 (fun x : Int × Int => [.int k0 x.1, .int k1 x.2]) (fun x => .agg [.lit (.int k0 x.1), .lit (.int k1 x.2)]) (fun x => (Lit.int k0 x.1).wf = true ∧ (Lit.int k1 x.2).wf = true) := by
  intro n cs y hcs hy
  obtain ⟨y0, y1, m, rfl, _, t0, t1⟩ := trod_struct2 he hy
  rw [o0, c0] at t0
  rw [o1, c1] at t1
  obtain ⟨a, ha, rfl, wa⟩ := DataW.trod_int h0 t0
  obtain ⟨b, hb, rfl, wb⟩ := DataW.trod_int h1 t1
  match cs, hcs with
  | [u, v], _ =>
    simp at ha hb
    subst ha hb
    refine ⟨(a, b), ⟨wa, wb⟩, rfl, fun h j p hp => ?_⟩
    match j with
    | 0 => simp at hp; subst hp; exact ⟨_, rfl, by simp [PV.rep]⟩
    | 1 => simp at hp; subst hp; exact ⟨_, rfl, by simp [PV.rep]⟩
    | j + 2 => simp at hp
end
end Go.Pw
