/- Operations that read or write memory of our own: the theorem over all of them. -/
import Derived.Test.YtgnedmmecmpnpaaGreatDoorPwMIJ
namespace Go.Pw
variable [Mode]
set_option linter.unusedSimpArgs false
set_option linter.unusedVariables false
set_option linter.unusedSectionVars false

section
variable {P : Program} {ρ : Operand → AV} {ev : Operand → Value} {E : Env} {σ : Look} {tm : Array Value} {w : World} {ow : Ow}

theorem sto_assign {o : Oper} {x : Operand} {d : Nat} {e : Eff} (hR : RE P E σ tm w ow) (ho : o.op = .assign x) (hd : o.dst = some d) (hlt : d < tm.size)
    (h : stoR P σ ρ (some d) (.assign x) = some e) (hx : (ρ x).rep (view w ow) E σ (ev x)) : EffOk P E σ tm w ow ev o e.wr := by
  have hrun : (execOp ev o).run P w = .ok (.value (ev x)) w := by unfold execOp; rw [ho]; rfl
  simp only [stoR] at h
  split at h
  · rename_i k st he
    rw [he] at hx
    split at h
    · rename_i e' xs hk
      have hk := rowAt_spec hk
      have hval := rf_hdr hx (by rw [hk]; rfl)
      split at h
      · simp only [Option.some.injEq] at h
        subst h
        exact EffOk.val (wr := []) hd hlt hrun (Evo.refl _ _) hR hx (fun _ _ => rfl)
      · rename_i hne
        simp only [Option.some.injEq] at h
        subst h
        obtain ⟨E', h1, h2, h3, h4, _⟩ := RE.move (K := .RS d 0) hR hk hne (by simp) (by simp)
        obtain ⟨a0, n0, c0, hf⟩ := row_form (hR.own k st e' xs hk)
        refine EffOk.val (wr := [(.RS d 0, .rw (nst (σ (.RS d 0))) true e' xs), (k, .dead (st + 1))]) hd hlt hrun (Evo.refl _ _) h1 ?_ (fun b _ => congrFun h4 b)
        simp only [AV.rep]
        exact ⟨⟨a0, n0, c0, by rw [hval, hf]⟩, _, by simp [updL, KV.stamp], Nat.le_refl _, fun _ => by rw [h3, hval]⟩
    · rename_i e' xs hk
      have hk := rowAt_spec hk
      have hval := rf_hdr hx (by rw [hk]; rfl)
      simp only [Option.some.injEq] at h
      subst h
      refine EffOk.val (wr := []) hd hlt hrun (Evo.refl _ _) hR ?_ (fun _ _ => rfl)
      simp only [AV.rep]
      rw [hval]
      exact row_shared_rep hR hk
    · cases h
  · rename_i cs he
    rw [he] at hx
    split at h
    · simp only [Option.some.injEq] at h
      subst h
      exact EffOk.val (wr := []) hd hlt hrun (Evo.refl _ _) hR hx (fun _ _ => rfl)
    · cases h
  · cases h

theorem sto_alloc {o : Oper} {T : TypeId} {d : Nat} {e : Eff} (hR : RE P E σ tm w ow) (ho : o.op = .alloc T) (hd : o.dst = some d) (hlt : d < tm.size)
    (h : stoR P σ ρ (some d) (.alloc T) = some e) : EffOk P E σ tm w ow ev o e.wr := by
  simp only [stoR] at h
  split at h
  · rename_i z hz
    simp only [Option.some.injEq] at h
    subst h
    obtain ⟨v, h1, h2⟩ := zeroA_sound (P := P) (E := E) (σ := σ) (h := view w ow) (w := w) hz
    obtain ⟨E', ow', r1, r2, r3, r4, r5⟩ := RE.newBox (d := d + 1000) T hR h2
    have hrun : (execOp ev o).run P w = .ok (.value (.pointer (some ⟨w.heap.size, 0, none⟩))) (w.alloc (.cells ⟨v.cells.toList⟩ T)) := by
      unfold execOp
      rw [ho]
      simp [Instr.alloc, h1, newVar, newRow]
    refine EffOk.val (wr := [(.B (d + 1000), .bx (nst (σ (.B (d + 1000)))) z)]) hd hlt hrun r3 r1 ?_ (fun b hb => r5 b (by omega))
    simp only [AV.rep]
    exact ⟨w.heap.size, rfl, _, by simp [updL, KV.stamp], Nat.le_refl _, fun _ => r4.symm⟩
  · cases h

theorem sto_box {o : Oper} {T : TypeId} {x : Operand} {d : Nat} {e : Eff} (hR : RE P E σ tm w ow) (ho : o.op = .box T x) (hd : o.dst = some d) (hlt : d < tm.size)
    (h : stoR P σ ρ (some d) (.box T x) = some e) (hx : (ρ x).rep (view w ow) E σ (ev x)) : EffOk P E σ tm w ow ev o e.wr := by
  simp only [stoR] at h
  split at h
  · rename_i hok
    split at h
    · rename_i cs w1 hm
      simp only [Option.some.injEq] at h
      subst h
      obtain ⟨E1, q1, q2, q3, q4, q5, q6⟩ := mvCells_sound hR hm (cells_rep hok hx)
      obtain ⟨E', ow', r1, r2, r3, r4, r5⟩ := RE.newBox (d := d + 1000) T q1 q3
      rw [q6 (d + 1000)] at r1 r2
      have hrun : (execOp ev o).run P w = .ok (.value (.pointer (some ⟨w.heap.size, 0, none⟩))) (w.alloc (.cells ⟨(ev x).cells.toList⟩ T)) := by
        unfold execOp
        rw [ho]
        simp [Instr.box, newVar, newRow]
      refine EffOk.val (wr := [(.B (d + 1000), .bx (nst (σ (.B (d + 1000)))) cs)] ++ w1) hd hlt hrun r3 (by rw [updL_append]; exact r1) ?_ (fun b hb => (r5 b (by omega)).trans (congrFun q5 b))
      simp only [AV.rep]
      exact ⟨w.heap.size, rfl, _, by simp [updL, KV.stamp], Nat.le_refl _, fun _ => r4.symm⟩
    · cases h
  · cases h

theorem sto_load {o : Oper} {T : TypeId} {x : Operand} {d : Nat} {e : Eff} (hR : RE P E σ tm w ow) (ho : o.op = .load T x) (hd : o.dst = some d) (hlt : d < tm.size)
    (h : stoR P σ ρ (some d) (.load T x) = some e) (hc : e.cond) (hx : (ρ x).rep (view w ow) E σ (ev x)) : EffOk P E σ tm w ow ev o e.wr := by
  simp only [stoR] at h
  split at h
  · rename_i b off st he
    rw [he] at hx
    split at h
    · rename_i cs hb
      have hno := boxAt_no hb
      have hb := boxAt_spec hb
      have hval := ptr_val hx (by rw [hb]; rfl)
      obtain ⟨h1, h2, T', l, h3, h4⟩ := (hR.box b st cs hb).cells hno
      obtain ⟨hlen, hget⟩ := repL_iff.1 h4
      split at h
      · rename_i a ha
        simp only [Option.some.injEq] at h
        subst h
        have hcell : ∀ j v, l[off + j]? = some v → w.cell? ⟨E.β b, off + j, none⟩ = some v := by
          intro j v hv
          rw [cell_of_row w _ _ _ _ _ h3]
          simpa using hv
        have key : ∃ v, (loadVar T ⟨E.β b, off, none⟩).run P w = .ok v w ∧ a.rep (view w ow) E σ v := by
          unfold partA at ha
          split at ha
          · rename_i hagg
            split at ha
            · simp only [Option.some.injEq] at ha
              subst ha
              refine ⟨.agg ⟨(l.drop off).take (P.cellsOf T)⟩, (run_loadVar_cells (P := P) (t := T) ((l.drop off).take (P.cellsOf T)) (hasT_agg hagg) (fun j v hv => ?_)).1 hagg (by simp; omega), ?_⟩
              · rw [List.getElem?_take] at hv
                split at hv
                · rw [List.getElem?_drop] at hv
                  exact hcell j v hv
                · cases hv
              · simp only [AV.rep]
                refine ⟨_, rfl, repL_iff.2 ⟨by simp [hlen], fun i a v hx hy => ?_⟩⟩
                rw [List.getElem?_take] at hx hy
                split at hx
                · rename_i hlt'
                  rw [if_pos hlt'] at hy
                  rw [List.getElem?_drop] at hx hy
                  exact hget _ a v hx hy
                · cases hx
            · cases ha
          · rename_i hagg
            split at ha
            · rename_i hh
              have hlt' : off < l.length := by
                have := (List.getElem?_eq_some_iff.1 ha).1
                omega
              refine ⟨l[off], (run_loadVar_cells (P := P) (t := T) [l[off]] hh (fun j v hv => ?_)).2 (by simpa using hagg) _ rfl, hget off a _ ha (List.getElem?_eq_getElem hlt')⟩
              cases j with
              | zero => simp at hv; subst hv; exact hcell 0 _ (by simp)
              | succ j => simp at hv
            · cases ha
        obtain ⟨v, k1, k2⟩ := key
        have hrun : (execOp ev o).run P w = .ok (.value v) w := by
          unfold execOp
          rw [ho]
          simp [hval, Instr.loadAt, Instr.sureAddr, k1]
        exact EffOk.val (wr := []) hd hlt hrun (Evo.refl _ _) hR k2 (fun _ _ => rfl)
      · cases h
    · cases h
  · rename_i k st i s off he
    rw [he] at hx
    split at h
    · rename_i own e' xs hk
      have hk := rowAt_spec hk
      split at h
      · rename_i a ha
        simp only [Option.some.injEq] at h
        subst h
        obtain ⟨hi, hs⟩ := hc
        simp only [AV.rep] at hx
        obtain ⟨b, hv, s', h1, _, h3⟩ := hx
        rw [hk] at h1
        simp only [KV.stamp, Option.some.injEq] at h1
        obtain ⟨n, c, hh⟩ := h3 h1
        obtain ⟨hlens, a', n', c', g1, g2, g3, g4⟩ := row_cells hR hk
        rw [hh] at g1
        simp only [Value.slice.injEq] at g1
        obtain ⟨rfl, rfl, rfl⟩ := g1
        rcases g4 with rfl | ⟨b', o', g5, _, g6⟩
        · simp at hi
        · simp only [Option.some.injEq, Addr.mk.injEq, and_true] at g5
          obtain ⟨rfl, rfl⟩ := g5
          have hget : xs[i]? = some (xs.getD i []) := by simp [List.getD, List.getElem?_eq_getElem hi]
          have key : ∃ v, (loadVar T ⟨b, i * s + off, none⟩).run P w = .ok v w ∧ a.rep (view w ow) E σ v := by
            have hrow := g6 i _ hget
            subst hs
            unfold cellsA at ha
            split at ha
            · rename_i hagg
              split at ha
              · rename_i hle
                simp only [Option.some.injEq] at ha
                subst ha
                have hex : ∃ vs : List Value, vs.length = P.cellsOf T ∧ (∀ j v, vs[j]? = some v → w.cell? ⟨b, i * P.cellsOf e' + off + j, none⟩ = some v) ∧
                    AV.repL (view w ow) E σ (((((xs.getD i []).drop off)).take (P.cellsOf T)).map .pv) vs := by
                  have gen : ∀ (ps : List PV) (q : Nat), (∀ j p, ps[j]? = some p → ∃ u, w.cell? ⟨b, q + j, none⟩ = some u ∧ p.rep (view w ow) u) →
                      ∃ vs : List Value, vs.length = ps.length ∧ (∀ j v, vs[j]? = some v → w.cell? ⟨b, q + j, none⟩ = some v) ∧ AV.repL (view w ow) E σ (ps.map .pv) vs := by
                    intro ps
                    induction ps with
                    | nil => intro q _; exact ⟨[], rfl, by simp, by simp [AV.repL]⟩
                    | cons p ps ih =>
                      intro q hq
                      obtain ⟨u, hu1, hu2⟩ := hq 0 p (by simp)
                      obtain ⟨vs, z1, z2, z3⟩ := ih (q + 1) (fun j r hr => by
                        have := hq (j + 1) r (by simpa using hr)
                        rwa [show q + (j + 1) = q + 1 + j by omega] at this)
                      refine ⟨u :: vs, by simp [z1], fun j v hv => ?_, ⟨u, vs, rfl, by simpa only [AV.rep] using hu2, z3⟩⟩
                      cases j with
                      | zero => simp at hv; subst hv; simpa using hu1
                      | succ j =>
                        have := z2 j v (by simpa using hv)
                        rwa [show q + 1 + j = q + (j + 1) by omega] at this
                  obtain ⟨vs, z1, z2, z3⟩ := gen (((xs.getD i []).drop off).take (P.cellsOf T)) (i * P.cellsOf e' + off) (fun j p hp => by
                    rw [List.getElem?_take] at hp
                    split at hp
                    · rw [List.getElem?_drop] at hp
                      have := hrow (off + j) p hp
                      simpa [Nat.add_assoc] using this
                    · cases hp)
                  exact ⟨vs, by rw [z1, List.length_take]; omega, z2, z3⟩
                obtain ⟨vs, z1, z2, z3⟩ := hex
                exact ⟨.agg ⟨vs⟩, (run_loadVar_cells (P := P) (t := T) vs (hasT_agg hagg) z2).1 hagg z1, by simp only [AV.rep]; exact ⟨vs, rfl, z3⟩⟩
              · cases ha
            · rename_i hagg
              split at ha
              · rename_i hhT
                obtain ⟨p, hp, rfl⟩ := Option.map_eq_some_iff.1 ha
                rw [List.head?_drop] at hp
                obtain ⟨u, hu1, hu2⟩ := hrow off p hp
                refine ⟨u, (run_loadVar_cells (P := P) (t := T) [u] hhT (fun j v hv => ?_)).2 (by simpa using hagg) _ rfl, by simpa only [AV.rep] using hu2⟩
                cases j with
                | zero => simp at hv; subst hv; simpa using hu1
                | succ j => simp at hv
              · cases ha
          obtain ⟨v, k1, k2⟩ := key
          have hrun : (execOp ev o).run P w = .ok (.value v) w := by
            unfold execOp
            rw [ho]
            simp [hv, Instr.loadAt, Instr.sureAddr, k1]
          exact EffOk.val (wr := []) hd hlt hrun (Evo.refl _ _) hR k2 (fun _ _ => rfl)
      · cases h
    · cases h
  · cases h

theorem spliceV {h : View} : ∀ {as : List AV} {vs : List Value}, AV.repL h E σ as vs → ∀ (k : Nat) {cells : List AV} {l : List Value}, AV.repL h E σ cells l → k + as.length ≤ cells.length →
    AV.repL h E σ (splice cells k as) (l.take k ++ vs ++ l.drop (k + vs.length))
  | [], vs, ha, k, cells, l, hr, hle => by
    simp only [AV.repL] at ha
    subst ha
    simpa [splice] using hr
  | a :: as, vs, ha, k, cells, l, hr, hle => by
    simp only [AV.repL] at ha
    obtain ⟨v, vs, rfl, h1, h2⟩ := ha
    have hl := (repL_iff.1 hr).1
    have hl2 := (repL_iff.1 h2).1
    have := spliceV h2 (k + 1) (repL_set k hr h1) (by simp at hle ⊢; omega)
    simp only [splice]
    rw [list_seg_step l k v vs (by simp at hle; omega)] at this
    simpa using this

theorem toPVs_spec : ∀ {as : List AV} {ps : List PV}, toPVs as = some ps → as.length = ps.length ∧ ∀ (i : Nat) (a : AV) (p : PV), as[i]? = some a → ps[i]? = some p → ∀ (v : Value) (h : View) (E : Env) (σ : Look), a.rep h E σ v → p.rep h v
  | [], ps, h => by
    simp only [toPVs, Option.some.injEq] at h
    subst h
    exact ⟨rfl, fun i a p hi => by simp at hi⟩
  | a :: as, ps, h => by
    unfold toPVs at h
    split at h
    · rename_i heq; cases heq
    · rename_i p l heq
      cases heq
      simp only [Option.map_eq_some_iff] at h
      obtain ⟨ps', h1, rfl⟩ := h
      obtain ⟨i1, i2⟩ := toPVs_spec h1
      refine ⟨by simp [i1], fun i a q ha hq v h E σ hr => ?_⟩
      cases i with
      | zero => simp at ha hq; subst ha hq; simpa [AV.rep] using hr
      | succ i => exact i2 i a q (by simpa using ha) (by simpa using hq) v h E σ hr
    · rename_i l heq
      cases heq
      simp only [Option.map_eq_some_iff] at h
      obtain ⟨ps', h1, rfl⟩ := h
      obtain ⟨i1, i2⟩ := toPVs_spec h1
      refine ⟨by simp [i1], fun i a q ha hq v h E σ hr => ?_⟩
      cases i with
      | zero =>
        simp at ha hq
        subst ha hq
        simp only [AV.rep] at hr
        obtain ⟨a, rfl⟩ := hr
        simp only [PV.rep]
        exact ⟨_, _, _, rfl, rfl, Nat.le_refl _, .inl trivial⟩
      | succ i => exact i2 i a q (by simpa using ha) (by simpa using hq) v h E σ hr
    · cases h
theorem sto_store {o : Oper} {T : TypeId} {x y : Operand} {e : Eff} (hR : RE P E σ tm w ow) (ho : o.op = .store T x y) (hd : o.dst = none)
    (h : stoR P σ ρ none (.store T x y) = some e) (hc : e.cond) (hx : (ρ x).rep (view w ow) E σ (ev x)) (hy : (ρ y).rep (view w ow) E σ (ev y)) : EffOk P E σ tm w ow ev o e.wr := by
  simp only [stoR] at h
  split at h
  · rename_i b off st he
    rw [he] at hx
    split at h
    · rename_i cs hb
      have hno := boxAt_no hb
      have hb := boxAt_spec hb
      have hval := ptr_val hx (by rw [hb]; rfl)
      split at h
      · rename_i hcond
        split at h
        · rename_i as w1 hm
          simp only [Option.some.injEq] at h
          subst h
          have hyl := cells_rep hcond.1 hy
          obtain ⟨E1, q1, q2, q3, q4, q5, q6⟩ := mvCells_sound hR hm hyl
          have hb1 : updL σ w1 (.B b) = .bx st cs := by rw [q6, hb]
          obtain ⟨k1, k2, T', l, k3, k4⟩ := (q1.box b st cs hb1).cells hno
          have hlen := (repL_iff.1 k4).1
          have hlen3 := (repL_iff.1 q3).1
          have hleny := (repL_iff.1 hyl).1
          obtain ⟨r1, r2, r3⟩ := RE.setBox q1 hb1 k3 (spliceV q3 off k4 (by omega))
          have hfit : off + (ev y).cells.toList.length ≤ l.length := by omega
          have hst := run_storeCells_at P (E1.β b) off T' (ev y).cells.toList 0 ⟨l⟩ w k3 (by simpa using hfit) q4
          have hrun : (execOp ev o).run P w = .ok .skip (w.setRow (E1.β b) ⟨l.take off ++ (ev y).cells.toList ++ l.drop (off + (ev y).cells.toList.length)⟩) := by
            unfold execOp
            rw [ho]
            have hsz : (sizeOf T).run P w = .ok (P.cellsOf T) w := run_sizeE hcond.2.2
            have hne : ¬ ((ev y).cells.size ≠ P.cellsOf T) := by simp only [Array.length_toList] at hleny; omega
            simp only [Nat.add_zero] at hst
            rw [q5] at hst ⊢
            simp only [Instr.storeAt, storeVar, Sem.run_bind, hval, Instr.sureAddr, Sem.run_pure, Result.andThen_ok, hsz, if_neg hne, hst]
          exact ⟨_, Go.undef, _, E1, ow, hrun, .inr ⟨rfl, rfl⟩, r3, by rw [hd]; simp only [put]; exact r1, fun b _ => congrFun q5 b⟩
        · cases h
      · cases h
    · cases h
  · rename_i k st i s off he
    rw [he] at hx
    split at h
    · rename_i e' xs hk
      have hk := rowAt_spec hk
      split at h
      · rename_i p hp
        simp only [Option.some.injEq] at h
        subst h
        obtain ⟨hi, hs, hoff, hT⟩ := hc
        subst hs
        rw [hp] at hy
        simp only [AV.rep] at hx hy
        obtain ⟨b, hv, s', h1, _, h3⟩ := hx
        rw [hk] at h1
        simp only [KV.stamp, Option.some.injEq] at h1
        obtain ⟨n, c, hh⟩ := h3 h1
        rcases hR.own k st e' xs hk with ⟨rfl, _⟩ | ⟨g, cap, cur, g1, g2, g3, g4, g5, g6, g7, g8⟩
        · simp at hi
        · rw [hh] at g1
          simp only [Value.slice.injEq, Option.some.injEq, Addr.mk.injEq, and_true] at g1
          obtain ⟨rfl, rfl, rfl⟩ := g1
          have hbound : i * P.cellsOf e' + off < cur.size := by
            rw [g7]
            have h1 : (i + 1) * P.cellsOf e' ≤ c * P.cellsOf e' := Nat.mul_le_mul_right _ (by omega)
            rw [Nat.add_mul] at h1
            omega
          have hone := PV.one hy
          have hst := run_storeCells_at P b (i * P.cellsOf e' + off) e' [ev y] 0 cur w g4 (by simp; omega) (by simpa using hone)
          simp only [Nat.add_zero, List.length_singleton] at hst
          have hcur : (cur.toList.take (i * P.cellsOf e' + off) ++ [ev y] ++ cur.toList.drop (i * P.cellsOf e' + off + 1)).toArray = cur.setIfInBounds (i * P.cellsOf e' + off) (ev y) := by
            apply Array.ext'
            simp only [Array.toList_setIfInBounds]
            rw [List.set_eq_take_append_cons_drop, if_pos (by simpa using hbound)]
            simp
          have hxi : xs[i]? = some (xs.getD i []) := by simp [List.getD, List.getElem?_eq_getElem hi]
          obtain ⟨r1, r2, r3⟩ := RE.rowSet (ys := xs.set i ((xs.getD i []).set off p)) (cur' := cur.setIfInBounds (i * P.cellsOf e' + off) (ev y)) hR hk g2 g3 g4 hh (by omega) g6 (by simp [g7]) (by simp) (fun m z hz => by
            rw [List.getElem?_set] at hz
            by_cases hm : i = m
            · subst hm
              rw [if_pos rfl, if_pos hi] at hz
              simp only [Option.some.injEq] at hz
              subst hz
              refine ⟨by rw [List.length_set]; exact (g8 i _ hxi).1, fun j q hq => ?_⟩
              rw [List.getElem?_set] at hq
              by_cases hj : off = j
              · subst hj
                rw [if_pos rfl] at hq
                split at hq
                · simp only [Option.some.injEq] at hq
                  subst hq
                  exact ⟨ev y, by simp [hbound], hone, hy⟩
                · cases hq
              · rw [if_neg hj] at hq
                obtain ⟨u, u1, u2, u3⟩ := (g8 i _ hxi).2 j q hq
                exact ⟨u, by rw [Array.getElem?_setIfInBounds, if_neg (by omega)]; exact u1, u2, u3⟩
            · rw [if_neg hm] at hz
              refine ⟨(g8 m z hz).1, fun j q hq => ?_⟩
              obtain ⟨u, u1, u2, u3⟩ := (g8 m z hz).2 j q hq
              have hjl : j < P.cellsOf e' := by
                have := (List.getElem?_eq_some_iff.1 hq).1
                have := (g8 m z hz).1
                omega
              refine ⟨u, ?_, u2, u3⟩
              rw [Array.getElem?_setIfInBounds, if_neg]
              · exact u1
              · intro hcon
                apply hm
                have e1 : (i * P.cellsOf e' + off) / P.cellsOf e' = i := by rw [Nat.mul_comm, Nat.mul_add_div (by omega), Nat.div_eq_of_lt hoff]; omega
                have e2 : (m * P.cellsOf e' + j) / P.cellsOf e' = m := by rw [Nat.mul_comm, Nat.mul_add_div (by omega), Nat.div_eq_of_lt hjl]; omega
                rw [hcon] at e1
                omega)
          have hrun : (execOp ev o).run P w = .ok .skip (w.setRow b (cur.setIfInBounds (i * P.cellsOf e' + off) (ev y))) := by
            unfold execOp
            rw [ho]
            have hsz : (sizeOf T).run P w = .ok (P.cellsOf T) w := run_sizeE (by omega)
            have hcs := cells_one hone
            rw [hcur] at hst
            simp [Instr.storeAt, storeVar, hv, Instr.sureAddr, hsz, hcs, hT, hst]
          exact ⟨_, Go.undef, _, E, ow, hrun, .inr ⟨rfl, rfl⟩, r3, by rw [hd]; simp only [put]; exact r1, fun _ _ => rfl⟩
      · rename_i cs hp
        split at h
        · rename_i ps hps
          simp only [Option.some.injEq] at h
          subst h
          obtain ⟨hi, hs, rfl, hT, hpl, hne⟩ := hc
          subst hs
          rw [hp] at hy
          simp only [AV.rep] at hx hy
          obtain ⟨lv, hlv, hyl⟩ := hy
          obtain ⟨b, hv, s', h1, _, h3⟩ := hx
          rw [hk] at h1
          simp only [KV.stamp, Option.some.injEq] at h1
          obtain ⟨n, c, hh⟩ := h3 h1
          obtain ⟨q1, q2⟩ := toPVs_spec hps
          obtain ⟨l1, l2⟩ := repL_iff.1 hyl
          have hll : lv.length = P.cellsOf e' := by omega
          have hpr : ∀ (j : Nat) (p : PV), ps[j]? = some p → ∃ u, lv[j]? = some u ∧ u.oneCell' = true ∧ p.rep (view w ow) u := by
            intro j p hj
            have hjl : j < ps.length := (List.getElem?_eq_some_iff.1 hj).1
            have ha : cs[j]? = some cs[j] := List.getElem?_eq_getElem (by omega)
            have hu : lv[j]? = some lv[j] := List.getElem?_eq_getElem (by omega)
            have hp1 := q2 j _ p ha hj _ _ _ _ (l2 j _ _ ha hu)
            exact ⟨_, hu, PV.one hp1, hp1⟩
          have hones : ∀ u ∈ lv, u.oneCell' = true := by
            intro u hu
            obtain ⟨j, hj⟩ := List.getElem?_of_mem hu
            have hjl : j < lv.length := (List.getElem?_eq_some_iff.1 hj).1
            obtain ⟨u', hu', ho', _⟩ := hpr j ps[j] (List.getElem?_eq_getElem (by omega))
            rw [hj] at hu'
            cases hu'
            exact ho'
          rcases hR.own k st e' xs hk with ⟨rfl, _⟩ | ⟨g, cap, cur, g1, g2, g3, g4, g5, g6, g7, g8⟩
          · simp at hi
          · rw [hh] at g1
            simp only [Value.slice.injEq, Option.some.injEq, Addr.mk.injEq, and_true] at g1
            obtain ⟨rfl, rfl, rfl⟩ := g1
            have hbound : i * P.cellsOf e' + P.cellsOf e' ≤ cur.size := by
              rw [g7]
              have h1 : (i + 1) * P.cellsOf e' ≤ c * P.cellsOf e' := Nat.mul_le_mul_right _ (by omega)
              rw [Nat.add_mul] at h1
              omega
            have hst := run_storeCells_at P b (i * P.cellsOf e') e' lv 0 cur w g4 (by omega) hones
            simp only [Nat.add_zero] at hst
            obtain ⟨cur', hcur⟩ : ∃ cur', (cur.toList.take (i * P.cellsOf e') ++ lv ++ cur.toList.drop (i * P.cellsOf e' + lv.length)).toArray = cur' := ⟨_, rfl⟩
            have hsz' : cur'.size = cur.size := by
              rw [← hcur]
              simp only [List.size_toArray, List.length_append, List.length_take, List.length_drop, Array.length_toList]
              omega
            have hin : ∀ j, j < lv.length → cur'[i * P.cellsOf e' + j]? = lv[j]? := by
              intro j hj
              rw [← hcur]
              simp only [List.getElem?_toArray]
              rw [List.getElem?_append_left (by simp; omega), List.getElem?_append_right (by simp; omega)]
              congr 1
              simp
              omega
            have hout : ∀ q, (q < i * P.cellsOf e' ∨ i * P.cellsOf e' + lv.length ≤ q) → cur'[q]? = cur[q]? := by
              intro q hq
              rw [← hcur]
              simp only [List.getElem?_toArray]
              rcases hq with hq | hq
              · rw [List.getElem?_append_left (by simp; omega), List.getElem?_append_left (by simp; omega), List.getElem?_take]
                rw [if_pos hq, Array.getElem?_toList]
              · rw [List.getElem?_append_right (by simp; omega), List.getElem?_drop]
                rw [← Array.getElem?_toList]
                congr 1
                simp
                omega
            have hxi : xs[i]? = some (xs.getD i []) := by simp [List.getD, List.getElem?_eq_getElem hi]
            obtain ⟨r1, r2, r3⟩ := RE.rowSet (ys := xs.set i ps) (cur' := cur') hR hk g2 g3 g4 hh (by omega) g6 (by rw [hsz', g7]) (by simp) (fun m z hz => by
              rw [List.getElem?_set] at hz
              by_cases hm : i = m
              · subst hm
                rw [if_pos rfl, if_pos hi] at hz
                simp only [Option.some.injEq] at hz
                subst hz
                refine ⟨hpl, fun j q hq => ?_⟩
                obtain ⟨u, u1, u2, u3⟩ := hpr j q hq
                have hjl : j < lv.length := (List.getElem?_eq_some_iff.1 u1).1
                exact ⟨u, by rw [hin j hjl]; exact u1, u2, u3⟩
              · rw [if_neg hm] at hz
                refine ⟨(g8 m z hz).1, fun j q hq => ?_⟩
                obtain ⟨u, u1, u2, u3⟩ := (g8 m z hz).2 j q hq
                have hjl : j < P.cellsOf e' := by
                  have := (List.getElem?_eq_some_iff.1 hq).1
                  have := (g8 m z hz).1
                  omega
                refine ⟨u, ?_, u2, u3⟩
                rw [hout]
                · exact u1
                · rcases Nat.lt_or_gt_of_ne hm with hlt | hgt
                  · right
                    have : (i + 1) * P.cellsOf e' ≤ m * P.cellsOf e' := Nat.mul_le_mul_right _ hlt
                    rw [Nat.add_mul] at this
                    omega
                  · left
                    have : (m + 1) * P.cellsOf e' ≤ i * P.cellsOf e' := Nat.mul_le_mul_right _ hgt
                    rw [Nat.add_mul] at this
                    omega)
            have hrun : (execOp ev o).run P w = .ok .skip (w.setRow b cur') := by
              unfold execOp
              rw [ho]
              have hsz : (sizeOf T).run P w = .ok (P.cellsOf T) w := run_sizeE (by omega)
              have hcsz : ¬ ((ev y).cells.size ≠ P.cellsOf T) := by rw [hlv]; simp [Value.cells]; omega
              have hcl : (ev y).cells.toList = lv := by rw [hlv]; rfl
              rw [hcur] at hst
              simp only [Instr.storeAt, storeVar, Sem.run_bind, hv, Instr.sureAddr, Sem.run_pure, Result.andThen_ok, hsz, if_neg hcsz, hcl, Nat.add_zero, hst]
            exact ⟨_, Go.undef, _, E, ow, hrun, .inr ⟨rfl, rfl⟩, r3, by rw [hd]; simp only [put]; exact r1, fun _ _ => rfl⟩
        · cases h
      · cases h
    · cases h
  · cases h

end
end Go.Pw
namespace Go.Pw
variable [Mode]
set_option linter.unusedSimpArgs false
set_option linter.unusedVariables false
set_option linter.unusedSectionVars false

section
variable {P : Program} {ρ : Operand → AV} {ev : Operand → Value} {E : Env} {σ : Look} {tm : Array Value} {w : World} {ow : Ow}

def setFrom (l : List Value) (k : Nat) : List Value → List Value
  | [] => l
  | v :: vs => setFrom (l.set k v) (k + 1) vs

theorem setFrom_length : ∀ (vs : List Value) (l : List Value) (k : Nat), (setFrom l k vs).length = l.length
  | [], l, k => rfl
  | v :: vs, l, k => by simp [setFrom, setFrom_length vs]
theorem setFrom_get : ∀ (vs : List Value) (l : List Value) (k m : Nat), k + vs.length ≤ l.length → (setFrom l k vs)[m]? = if k ≤ m ∧ m < k + vs.length then vs[m - k]? else l[m]?
  | [], l, k, m, _ => by simp only [setFrom, List.length_nil, Nat.add_zero]; rw [if_neg (by omega)]
  | v :: vs, l, k, m, h => by
    simp only [List.length_cons] at h ⊢
    rw [setFrom, setFrom_get vs (l.set k v) (k + 1) m (by simp; omega)]
    by_cases h1 : k + 1 ≤ m ∧ m < k + 1 + vs.length
    · rw [if_pos h1, if_pos (by omega), show m - k = (m - (k + 1)) + 1 by omega]
      simp
    · rw [if_neg h1, List.getElem?_set]
      by_cases h2 : k = m
      · subst h2
        rw [if_pos rfl, if_pos (by omega), if_pos (by omega)]
        simp
      · rw [if_neg h2, if_neg (by omega)]
theorem foldl_setFrom (off : Nat) : ∀ (vs : List Value) (k : Nat) (l : List Value), (vs.zipIdx k).foldl (fun cs (x : Value × Nat) => cs.setIfInBounds (off + x.2) x.1) (⟨l⟩ : Array Value) = ⟨setFrom l (off + k) vs⟩
  | [], k, l => rfl
  | v :: vs, k, l => by
    simp only [List.zipIdx_cons, List.foldl_cons, setFrom]
    have := foldl_setFrom off vs (k + 1) (l.set (off + k) v)
    simpa [Nat.add_assoc] using this

/-- parts of one size, laid one behind the other -/
theorem fill_rows {s : Nat} : ∀ {vps : List (Nat × Value)} {k : Nat} {l : List Value}, inOrder k (vps.map (·.1)) = true → (∀ q ∈ vps, q.2.cells.toList.length = s) → l.length = (k + vps.length) * s →
    ∃ l', Instr.fill (fun i => some (i * s, s)) ⟨l⟩ vps = some ⟨l'⟩ ∧ l'.length = l.length ∧ (∀ m, m < k * s → l'[m]? = l[m]?) ∧
      ∀ (i : Nat) (q : Nat × Value), vps[i]? = some q → ∀ j, j < s → l'[(k + i) * s + j]? = q.2.cells.toList[j]?
  | [], k, l, _, _, _ => ⟨l, rfl, rfl, fun _ _ => rfl, by simp⟩
  | (i0, v) :: vps, k, l, ho, hs, hl => by
    simp only [List.map_cons, inOrder, Bool.and_eq_true, beq_iff_eq] at ho
    obtain ⟨rfl, ho⟩ := ho
    have hv := hs (k, v) (by simp)
    simp only at hv
    simp only [List.length_cons] at hl
    have hfit : k * s + v.cells.toList.length ≤ l.length := by
      rw [hl, hv]
      have : (k + 1) * s ≤ (k + (vps.length + 1)) * s := Nat.mul_le_mul_right _ (by omega)
      rw [Nat.add_mul] at this
      omega
    obtain ⟨l', h1, h2, h3, h4⟩ := fill_rows (k := k + 1) (l := setFrom l (k * s) v.cells.toList) ho (fun q hq => hs q (by simp [hq])) (by rw [setFrom_length, hl]; congr 1; omega)
    refine ⟨l', ?_, by rw [h2, setFrom_length], fun m hm => ?_, fun i q hq j hj => ?_⟩
    · simp only [Instr.fill]
      have hv' : v.cells.size = s := by simpa using hv
      have hfit' : ¬ (k * s + v.cells.size > (⟨l⟩ : Array Value).size) := by
        simp only [Array.length_toList] at hfit
        simp
        omega
      have hcond : ¬ ((decide (v.cells.size ≠ s) || decide (k * s + v.cells.size > (⟨l⟩ : Array Value).size)) = true) := by
        simp only [Bool.or_eq_true, decide_eq_true_eq]
        rintro (hh | hh)
        · exact hh hv'
        · exact hfit' hh
      rw [if_neg hcond, ← Array.foldl_toList, Array.toList_zipIdx, foldl_setFrom (k * s) v.cells.toList 0 l]
      exact h1
    · rw [h3 m (by rw [Nat.add_mul]; omega), setFrom_get _ _ _ _ hfit, if_neg (by omega)]
    · cases i with
      | zero =>
        simp at hq
        subst hq
        rw [Nat.add_zero, h3 _ (by rw [Nat.add_mul]; omega), setFrom_get _ _ _ _ hfit, if_pos (by omega)]
        congr 1
        omega
      | succ i =>
        have := h4 i q (by simpa using hq) j hj
        rwa [show k + 1 + i = k + (i + 1) by omega] at this

theorem zero_cells {e : TypeId} (h : (zeroA P e).map List.length = some (P.cellsOf e)) : ∃ i z, P.info? e = some i ∧ i.zero = some z ∧ z.cells.size = P.cellsOf e ∧ i.size = P.cellsOf e := by
  unfold zeroA at h
  cases hi : P.info? e with
  | none => simp [hi] at h
  | some i =>
    cases hz : i.zero with
    | none => simp [hi, hz] at h
    | some z =>
      simp [hi, hz] at h
      exact ⟨i, z, rfl, hz, h, by simp [Program.cellsOf, hi]⟩

theorem sto_buildSlice {o : Oper} {t : TypeId} {len : Nat} {parts : Array (Nat × Operand)} {d : Nat} {e : Eff} (hR : RE P E σ tm w ow) (ho : o.op = .buildSlice t len parts) (hd : o.dst = some d) (hlt : d < tm.size)
    (h : stoR P σ ρ (some d) (.buildSlice t len parts) = some e) (hr : ∀ x ∈ o.op.operands, (ρ x).rep (view w ow) E σ (ev x)) : EffOk P E σ tm w ow ev o e.wr := by
  simp only [stoR] at h
  split at h
  · rename_i el hel
    split at h
    · rename_i hc
      obtain ⟨hord, hlen, hlen2, hsz, hnz, hzero⟩ := hc
      split at h
      · rename_i xs w1 hfz
        simp only [Option.some.injEq] at h
        subst h
        obtain ⟨i, z, hi, hiz, hzs, his⟩ := zero_cells hzero
        obtain ⟨ow1, r1, n1, e1, l1, v1⟩ := fzParts_sound hR hfz (vs := parts.toList.map fun q => ev q.2) (by simp) (fun i a v ha hv => by
          simp only [List.getElem?_map] at ha hv
          cases hp : parts.toList[i]? with
          | none => simp [hp] at ha
          | some q =>
            simp only [hp, Option.map_some, Option.some.injEq] at ha hv
            subst ha hv
            refine hr _ ?_
            rw [ho]
            simp only [Op.operands]
            have := List.mem_of_getElem? hp
            simp
            exact ⟨q.1, by simpa using this⟩)
        simp only [List.length_map] at l1
        have hfill := fill_rows (s := P.cellsOf el) (vps := parts.toList.map fun q => (q.1, ev q.2)) (k := 0) (l := ((Array.range (len * P.cellsOf el)).map (z.cells[· % z.cells.size]!)).toList)
          (by simpa [List.map_map, Function.comp_def] using hord) (fun q hq => by
            obtain ⟨p, hp, rfl⟩ := List.mem_map.1 hq
            obtain ⟨m, hm⟩ := List.getElem?_of_mem hp
            have hx : ∃ x, xs[m]? = some x := by
              have : m < xs.length := by rw [l1]; exact (List.getElem?_eq_some_iff.1 hm).1
              exact ⟨_, List.getElem?_eq_getElem this⟩
            obtain ⟨x, hx⟩ := hx
            exact (v1 m x (ev p.2) hx (by simp [hm])).2.1) (by simp [hlen])
        obtain ⟨l', f1, f2, f3, f4⟩ := hfill
        have f2' : l'.length = len * P.cellsOf el := by rw [f2]; simp
        obtain ⟨E', ow', s1, s2, s3, s4, s5⟩ := RE.newRow (K := .RS d 0) (e := el) (xs := xs) (cur := ⟨l'⟩) (cap := len) r1 rfl (by rw [l1, hlen]; exact Nat.le_refl _) (by unfold maxLen; omega) (by simp [f2']) (fun m x hx => by
          have hm : m < parts.toList.length := by rw [← l1]; exact (List.getElem?_eq_some_iff.1 hx).1
          have hpv : (parts.toList.map fun q => ev q.2)[m]? = some (ev parts.toList[m].2) := by rw [List.getElem?_map, List.getElem?_eq_getElem hm]; rfl
          obtain ⟨a1, a2, a3⟩ := v1 m x _ hx hpv
          refine ⟨a1, fun j p hp => ?_⟩
          have hj : j < P.cellsOf el := by rw [← a1]; exact (List.getElem?_eq_some_iff.1 hp).1
          have hu : (ev parts.toList[m].2).cells.toList[j]? = some ((ev parts.toList[m].2).cells.toList[j]'(by omega)) := List.getElem?_eq_getElem _
          have := f4 m (parts.toList[m].1, ev parts.toList[m].2) (by rw [List.getElem?_map, List.getElem?_eq_getElem hm]; rfl) j hj
          refine ⟨_, ?_, PV.one (a3 j p _ hp hu), a3 j p _ hp hu⟩
          rw [Nat.zero_add] at this
          rw [hu] at this
          simpa using this)
        have hrun : (execOp ev o).run P w = .ok (.value (.slice (some ⟨w.heap.size, 0, none⟩) len len)) (w.alloc (.cells ⟨l'⟩ el)) := by
          have hb : (Instr.buildSlice t len (parts.map fun q => (q.1, ev q.2))).run P w = .ok (.slice (some ⟨w.heap.size, 0, none⟩) len len) (w.alloc (.cells ⟨l'⟩ el)) := by
            by_cases h0 : len = 0
            · subst h0
              have hp : parts = #[] := by
                have : parts.toList = [] := List.eq_nil_of_length_eq_zero hlen
                exact Array.ext' this
              subst hp
              have hl0 : l' = [] := List.eq_nil_of_length_eq_zero (by simpa using f2')
              subst hl0
              have e0 : ∀ f : Nat → Value, Array.map f (Array.range 0) = #[] := fun f => by apply Array.ext'; simp
              simp only [Instr.buildSlice, Sem.run_bind, run_underlying (elemT_spec hel), sizeOf, typeInfo, run_program, hi, Sem.run_map, Sem.run_pure, Result.andThen_ok, Nat.zero_mul, Nat.not_lt_zero, gt_iff_lt, if_false, if_true, e0, newRow, run_newObj]
              simp [Instr.fill]
            · refine run_buildSlice (P := P) w t el len _ ⟨l'⟩ i z (elemT_spec hel) hi hiz (by rw [his]; have := Nat.mul_le_mul hlen2 hsz; omega) (by rw [his]; exact Nat.mul_ne_zero h0 hnz) ?_
              rw [his]
              have hpl : (parts.map fun q => (q.1, ev q.2)).toList = parts.toList.map fun q => (q.1, ev q.2) := by simp
              rw [hpl]
              exact f1
          unfold execOp
          rw [ho]
          simp [hb]
        have hlen' : len = xs.length := by rw [l1, hlen]
        refine EffOk.val (wr := [(.RS d 0, .rw (nst (updL σ w1 (.RS d 0))) true el xs)] ++ w1) hd hlt hrun (e1.trans s3) (by rw [updL_append]; exact s1) ?_ (fun b _ => congrFun s5 b)
        simp only [AV.rep]
        exact ⟨⟨_, _, _, rfl⟩, _, by simp [updL, KV.stamp], Nat.le_refl _, fun _ => by rw [s4, hlen']⟩
      · cases h
    · cases h
  · cases h

/-- a row that is dropped -/
theorem RE.kill {k : Key} {st : Nat} {own : Bool} {e : TypeId} {xs : List (List PV)} (hR : RE P E σ tm w ow) (hk : σ k = .rw st own e xs) :
    RE P E (updL σ [(k, .dead (st + 1))]) tm w ow ∧ Ren (view w ow) (view w ow) E E σ (updL σ [(k, .dead (st + 1))]) := by
  have hkS := fun t => hR.notS (k := k) (by rw [hk]; rfl) t
  have hkB := fun t => hR.rowNotB hk t
  exact RE.step (W := fun q => q = k) (E' := E) hR (Chg.refl _ E w ow) (fun q hq => by simp only [updL]; rw [if_neg (fun e => hq e.symm)])
    (fun q hq s hs => by
      subst hq
      rw [hk] at hs
      simp [KV.stamp] at hs
      exact ⟨st + 1, by simp [updL, KV.stamp], by omega, fun e => by omega⟩)
    (fun _ _ => rfl) (fun t ht => absurd ht.symm (hkS t)) (fun d hd => absurd hd.symm (hkB d)) (fun _ t ht => absurd ht.symm (hkS t))
    (fun _ d s cs hd h => absurd hd.symm (hkB d))
    (fun q s e' zs hq h => by subst hq; simp [updL] at h)
    (fun q s e' zs hq h => by subst hq; simp [updL] at h)

/-- a row that is nil -/
theorem RE.newNil {K : Key} {v : Value} {a : Option Addr} (e : TypeId) (hR : RE P E σ tm w ow) (hK : isRowKey K = true) (hv : v = .slice a 0 0) :
    ∃ E', RE P E' (updL σ [(K, .rw (nst (σ K)) true e [])]) tm w ow ∧ Ren (view w ow) (view w ow) E E' σ (updL σ [(K, .rw (nst (σ K)) true e [])]) ∧ E'.hdr K = v ∧ E'.β = E.β := by
  have hKS : ∀ t, K ≠ .S t := fun t e => by subst e; cases hK
  have hKB : ∀ t, K ≠ .B t := fun t e => by subst e; cases hK
  let E' : Env := ⟨E.β, fun q => if q = K then v else E.hdr q, E.lab⟩
  have hC : Chg (fun q => q = K) E E' w w ow ow := ⟨Evo.refl w ow, fun b q _ h1 h2 _ => ⟨rfl, h1, h2⟩, fun _ _ => rfl, fun q hq => by simp only [E']; rw [if_neg (fun e => hq e)]⟩
  have := RE.step (W := fun q => q = K) (E' := E') (σ' := updL σ [(K, .rw (nst (σ K)) true e [])]) (tm' := tm) hR hC (fun q hq => by simp only [updL]; rw [if_neg (fun e => hq e.symm)])
    (fun q hq s hs => by
      subst hq
      refine ⟨nst (σ q), by simp [updL, KV.stamp], Nat.le_of_lt (nst_lt hs), fun e => ?_⟩
      have := nst_lt hs
      omega)
    (fun _ _ => rfl) (fun t ht => absurd ht.symm (hKS t)) (fun d hd => absurd hd.symm (hKB d)) (fun _ t ht => absurd ht.symm (hKS t))
    (fun _ d s cs hd h => absurd hd.symm (hKB d))
    (fun q s e' zs hq h => by
      subst hq
      simp only [updL, if_true, KV.rw.injEq, true_and] at h
      obtain ⟨_, rfl, rfl⟩ := h
      exact .inl ⟨rfl, a, by simp [E', hv]⟩)
    (fun q s e' zs hq h => by subst hq; simp [updL] at h)
  exact ⟨E', this.1, this.2, by simp [E'], rfl⟩

/-- cells that lie in memory, as one list of values -/
theorem flat {h : View} {f : Nat → Option Value} {s : Nat} {ys : List (List PV)} (hy : ∀ (i : Nat) (x : List PV), ys[i]? = some x → x.length = s ∧ ∀ (j : Nat) (p : PV), x[j]? = some p → ∃ u, f (i * s + j) = some u ∧ p.rep h u) :
    ∃ news : List Value, news.length = ys.length * s ∧ (∀ j u, news[j]? = some u → f j = some u) ∧ (∀ u ∈ news, u.oneCell' = true) ∧
      ∀ (i : Nat) (x : List PV), ys[i]? = some x → ∀ (j : Nat) (p : PV), x[j]? = some p → ∃ u, news[i * s + j]? = some u ∧ u.oneCell' = true ∧ p.rep h u := by
  have at_ : ∀ m, m < ys.length * s → ∃ u p, f m = some u ∧ PV.rep h p u := by
    intro m hm
    have hs : 0 < s := by
      rcases Nat.eq_zero_or_pos s with h | h
      · subst h; simp at hm
      · exact h
    have hi : m / s < ys.length := Nat.div_lt_of_lt_mul (by rw [Nat.mul_comm]; exact hm)
    obtain ⟨h1, h2⟩ := hy (m / s) _ (List.getElem?_eq_getElem hi)
    have hj : m % s < (ys[m / s]).length := by rw [h1]; exact Nat.mod_lt _ hs
    obtain ⟨u, h3, h4⟩ := h2 (m % s) _ (List.getElem?_eq_getElem hj)
    rw [Nat.mul_comm, Nat.div_add_mod] at h3
    exact ⟨u, _, h3, h4⟩
  refine ⟨(List.range (ys.length * s)).map fun j => (f j).getD Go.undef, by simp, fun j u hu => ?_, fun u hu => ?_, fun i x hx j p hp => ?_⟩
  · rw [List.getElem?_map] at hu
    by_cases hj : j < ys.length * s
    · rw [List.getElem?_range hj] at hu
      obtain ⟨v, p, h1, _⟩ := at_ j hj
      simp [h1] at hu
      rw [← hu, h1]
    · rw [List.getElem?_eq_none (by simp; omega)] at hu
      cases hu
  · obtain ⟨j, hj, rfl⟩ := List.mem_map.1 hu
    obtain ⟨v, p, h1, h2⟩ := at_ j (by simpa using hj)
    simp only [h1, Option.getD_some]
    exact PV.one h2
  · obtain ⟨h1, h2⟩ := hy i x hx
    obtain ⟨u, h3, h4⟩ := h2 j p hp
    have hlt : i * s + j < ys.length * s := by
      have hi : i < ys.length := (List.getElem?_eq_some_iff.1 hx).1
      have hj : j < s := by rw [← h1]; exact (List.getElem?_eq_some_iff.1 hp).1
      have : (i + 1) * s ≤ ys.length * s := Nat.mul_le_mul_right _ (by omega)
      rw [Nat.add_mul] at this
      omega
    exact ⟨u, by rw [List.getElem?_map, List.getElem?_range hlt]; simp [h3], PV.one h4, h4⟩

/-- what is appended lies in memory as srcOf says -/
theorem srcOf_sound {e tx : TypeId} {x : AV} {v : Value} {ys : List (List PV)} {rd : List Key} (hR : RE P E σ tm w ow) (h : srcOf P σ e tx x = some (ys, rd)) (hv : x.rep (view w ow) E σ v) (hys : ∀ y ∈ ys, y.length = P.cellsOf e) :
    ∃ news : List Value, Src P (P.cellsOf e) tx v ys.length news w ∧
      ∀ (i : Nat) (x : List PV), ys[i]? = some x → ∀ (j : Nat) (p : PV), x[j]? = some p → ∃ u, news[i * P.cellsOf e + j]? = some u ∧ u.oneCell' = true ∧ p.rep (view w ow) u := by
  have fromSlice : ∀ {a : Option Addr} {n c : Nat}, v = .slice a n c → n = ys.length → (∃ e', P.underlying tx = some (.slice e')) →
      (ys = [] ∨ ∃ b o, a = some ⟨b, o, none⟩ ∧ ∀ (i : Nat) (x : List PV), ys[i]? = some x → ∀ (j : Nat) (p : PV), x[j]? = some p → ∃ u, w.cell? ⟨b, o + i * P.cellsOf e + j, none⟩ = some u ∧ p.rep (view w ow) u) →
      ∃ news : List Value, Src P (P.cellsOf e) tx v ys.length news w ∧
      ∀ (i : Nat) (x : List PV), ys[i]? = some x → ∀ (j : Nat) (p : PV), x[j]? = some p → ∃ u, news[i * P.cellsOf e + j]? = some u ∧ u.oneCell' = true ∧ p.rep (view w ow) u := by
    rintro a n c rfl rfl ⟨e', hk⟩ hcs
    rcases hcs with rfl | ⟨b, o, rfl, hcs⟩
    · refine ⟨[], ?_, by simp⟩
      cases a with
      | none => exact Src.ofNil w hk c
      | some a => exact Src.ofSlice w hk a 0 c [] (by simp) (by simp) (by simp)
    · obtain ⟨news, n1, n2, n3, n4⟩ := flat (h := view w ow) (f := fun m => w.cell? ⟨b, o + m, none⟩) (s := P.cellsOf e) (ys := ys) (fun i x hx => ⟨hys x (List.mem_of_getElem? hx), fun j p hp => by
        obtain ⟨u, u1, u2⟩ := hcs i x hx j p hp
        exact ⟨u, by rw [← Nat.add_assoc]; exact u1, u2⟩⟩)
      exact ⟨news, Src.ofSlice w hk ⟨b, o, none⟩ ys.length c news n1 (fun j u hu => by rw [Addr.add_lit]; exact n2 j u hu) n3, n4⟩
  unfold srcOf at h
  split at h
  · obtain ⟨hs, h⟩ := ite_some h
    obtain ⟨e', he'⟩ := Option.isSome_iff_exists.1 hs
    simp only [Option.some.injEq, Prod.mk.injEq] at h
    obtain ⟨rfl, rfl⟩ := h
    simp only [AV.rep, PV.rep] at hv
    obtain ⟨a, n, c, h1, h2, _, h3⟩ := hv
    refine fromSlice h1 h2 ⟨e', elemT_spec he'⟩ ?_
    rcases h3 with h3 | ⟨b, o, s, h3, h4⟩
    · exact .inl h3
    · refine .inr ⟨b, o, h3, fun i x hx j p hp => ?_⟩
      obtain ⟨k1, k2⟩ := repEs_get h4 hx
      have hs' : s = P.cellsOf e := by rw [← k1]; exact hys x (List.mem_of_getElem? hx)
      subst hs'
      obtain ⟨u, u1, u2⟩ := repCs_get k2 hp
      exact ⟨u, (view_lt u1).2.2, u2⟩
  · obtain ⟨hs, h⟩ := ite_some h
    obtain ⟨e', he'⟩ := Option.isSome_iff_exists.1 hs
    simp only [Option.some.injEq, Prod.mk.injEq] at h
    obtain ⟨rfl, rfl⟩ := h
    simp only [AV.rep] at hv
    obtain ⟨a, h1⟩ := hv
    exact fromSlice h1 rfl ⟨e', elemT_spec he'⟩ (.inl rfl)
  · rename_i l
    split at h
    · rename_i hs
      simp only [Option.some.injEq, Prod.mk.injEq] at h
      obtain ⟨rfl, rfl⟩ := h
      simp only [AV.rep, PV.rep] at hv
      subst hv
      refine ⟨byteCells ⟨l.toArray⟩, ?_, fun i x hx j p hp => ?_⟩
      · rw [hs.2]
        have := Src.ofString (P := P) w (strT_spec hs.1) ⟨l.toArray⟩
        have hl : (strCells l).length = (⟨l.toArray⟩ : ByteArray).size := by simp [strCells]; rfl
        rw [hl]
        exact this
      · simp only [strCells, List.getElem?_map] at hx
        cases hb : l[i]? with
        | none => simp [hb] at hx
        | some b =>
          simp [hb] at hx
          subst hx
          cases j with
          | zero =>
            simp at hp
            subst hp
            refine ⟨.int .u8 b.toNat, by simp [byteCells, hs.2, hb], rfl, by simp [PV.rep]⟩
          | succ j => simp at hp
    · cases h
  · rename_i k st
    split at h
    · rename_i own e' ys' hk
      obtain ⟨hs, h⟩ := ite_some h
      obtain ⟨e2, he2⟩ := Option.isSome_iff_exists.1 hs
      simp only [Option.some.injEq, Prod.mk.injEq] at h
      obtain ⟨rfl, rfl⟩ := h
      have hk := rowAt_spec hk
      have hval := rf_hdr hv (by rw [hk]; rfl)
      obtain ⟨g0, a, n, c, g1, g2, g3, g4⟩ := row_cells hR hk
      refine fromSlice (hval.trans g1) g2 ⟨e2, elemT_spec he2⟩ ?_
      rcases g4 with g4 | ⟨b, o, g5, _, g6⟩
      · exact .inl g4
      · refine .inr ⟨b, o, g5, fun i x hx j p hp => ?_⟩
        have hsz : P.cellsOf e' = P.cellsOf e := by rw [← g0 x (List.mem_of_getElem? hx)]; exact hys x (List.mem_of_getElem? hx)
        rw [← hsz]
        exact g6 i x hx j p hp
    · cases h
  · cases h

end
end Go.Pw
