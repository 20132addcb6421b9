/- Operations that read or write memory of our own: the theorem over all of them. -/
import Derived.Test.YtjbfdbbmgbekiaaDoorPwJ
namespace Go.Pw
variable [Mode]
set_option linter.unusedSimpArgs false
set_option linter.unusedVariables false
set_option linter.unusedSectionVars false

section
variable {P : Program} {ρ : Operand → AV} {ev : Operand → Value} {E : Env} {σ : Look} {tm : Array Value} {w : World} {ow : Ow}

theorem sto_assign {o : Oper} {x : Operand} {d : Nat} {e : Eff} (hR : RE P E σ tm w ow) (ho : o.op = .assign x) (hd : o.dst = some d) (hlt : d < tm.size)
    (h : stoR P σ ρ (some d) (.assign x) = some e) (hx : (ρ x).rep (view w ow) E σ (ev x)) : EffOk P E σ tm w ow ev o e.wr := by
  have hrun : (execOp ev o).run P w = .ok (.value (ev x)) w := by unfold execOp; rw [ho]; rfl
  simp only [stoR] at h
  split at h
  · rename_i k st he
    rw [he] at hx
    split at h
    · rename_i e' xs hk
      have hk := rowAt_spec hk
      have hval := rf_hdr hx (by rw [hk]; rfl)
      split at h
      · simp only [Option.some.injEq] at h
        subst h
        exact EffOk.val (wr := []) hd hlt hrun (Evo.refl _ _) hR hx (fun _ _ => rfl)
      · rename_i hne
        simp only [Option.some.injEq] at h
        subst h
        obtain ⟨E', h1, h2, h3, h4, _⟩ := RE.move (K := .RS d 0) hR hk hne (by simp) (by simp)
        obtain ⟨a0, n0, c0, hf⟩ := row_form (hR.own k st e' xs hk)
        refine EffOk.val (wr := [(.RS d 0, .rw (nst (σ (.RS d 0))) true e' xs), (k, .dead (st + 1))]) hd hlt hrun (Evo.refl _ _) h1 ?_ (fun b _ => congrFun h4 b)
        simp only [AV.rep]
        exact ⟨⟨a0, n0, c0, by rw [hval, hf]⟩, _, by simp [updL, KV.stamp], Nat.le_refl _, fun _ => by rw [h3, hval]⟩
    · rename_i e' xs hk
      have hk := rowAt_spec hk
      have hval := rf_hdr hx (by rw [hk]; rfl)
      simp only [Option.some.injEq] at h
      subst h
      refine EffOk.val (wr := []) hd hlt hrun (Evo.refl _ _) hR ?_ (fun _ _ => rfl)
      simp only [AV.rep]
      rw [hval]
      exact row_shared_rep hR hk
    · cases h
  · rename_i cs he
    rw [he] at hx
    split at h
    · simp only [Option.some.injEq] at h
      subst h
      exact EffOk.val (wr := []) hd hlt hrun (Evo.refl _ _) hR hx (fun _ _ => rfl)
    · cases h
  · cases h

theorem sto_alloc {o : Oper} {T : TypeId} {d : Nat} {e : Eff} (hR : RE P E σ tm w ow) (ho : o.op = .alloc T) (hd : o.dst = some d) (hlt : d < tm.size)
    (h : stoR P σ ρ (some d) (.alloc T) = some e) : EffOk P E σ tm w ow ev o e.wr := by
  simp only [stoR] at h
  split at h
  · rename_i z hz
    simp only [Option.some.injEq] at h
    subst h
    obtain ⟨v, h1, h2⟩ := zeroA_sound (P := P) (E := E) (σ := σ) (h := view w ow) (w := w) hz
    obtain ⟨E', ow', r1, r2, r3, r4, r5⟩ := RE.newBox (d := d + 1000) T hR h2
    have hrun : (execOp ev o).run P w = .ok (.value (.pointer (some ⟨w.heap.size, 0, none⟩))) (w.alloc (.cells ⟨v.cells.toList⟩ T)) := by
      unfold execOp
      rw [ho]
      simp [Instr.alloc, h1, newVar, newRow]
    refine EffOk.val (wr := [(.B (d + 1000), .bx (nst (σ (.B (d + 1000)))) z)]) hd hlt hrun r3 r1 ?_ (fun b hb => r5 b (by omega))
    simp only [AV.rep]
    exact ⟨w.heap.size, rfl, _, by simp [updL, KV.stamp], Nat.le_refl _, fun _ => r4.symm⟩
  · cases h

theorem sto_box {o : Oper} {T : TypeId} {x : Operand} {d : Nat} {e : Eff} (hR : RE P E σ tm w ow) (ho : o.op = .box T x) (hd : o.dst = some d) (hlt : d < tm.size)
    (h : stoR P σ ρ (some d) (.box T x) = some e) (hx : (ρ x).rep (view w ow) E σ (ev x)) : EffOk P E σ tm w ow ev o e.wr := by
  simp only [stoR] at h
  split at h
  · rename_i hok
    split at h
    · rename_i cs w1 hm
      simp only [Option.some.injEq] at h
      subst h
      obtain ⟨E1, q1, q2, q3, q4, q5, q6⟩ := mvCells_sound hR hm (cells_rep hok hx)
      obtain ⟨E', ow', r1, r2, r3, r4, r5⟩ := RE.newBox (d := d + 1000) T q1 q3
      rw [q6 (d + 1000)] at r1 r2
      have hrun : (execOp ev o).run P w = .ok (.value (.pointer (some ⟨w.heap.size, 0, none⟩))) (w.alloc (.cells ⟨(ev x).cells.toList⟩ T)) := by
        unfold execOp
        rw [ho]
        simp [Instr.box, newVar, newRow]
      refine EffOk.val (wr := [(.B (d + 1000), .bx (nst (σ (.B (d + 1000)))) cs)] ++ w1) hd hlt hrun r3 (by rw [updL_append]; exact r1) ?_ (fun b hb => (r5 b (by omega)).trans (congrFun q5 b))
      simp only [AV.rep]
      exact ⟨w.heap.size, rfl, _, by simp [updL, KV.stamp], Nat.le_refl _, fun _ => r4.symm⟩
    · cases h
  · cases h

theorem sto_load {o : Oper} {T : TypeId} {x : Operand} {d : Nat} {e : Eff} (hR : RE P E σ tm w ow) (ho : o.op = .load T x) (hd : o.dst = some d) (hlt : d < tm.size)
    (h : stoR P σ ρ (some d) (.load T x) = some e) (hc : e.cond) (hx : (ρ x).rep (view w ow) E σ (ev x)) : EffOk P E σ tm w ow ev o e.wr := by
  simp only [stoR] at h
  split at h
  · rename_i b off st he
    rw [he] at hx
    split at h
    · rename_i cs hb
      have hb := boxAt_spec hb
      have hval := ptr_val hx (by rw [hb]; rfl)
      obtain ⟨h1, h2, T', l, h3, h4⟩ := hR.box b st cs hb
      obtain ⟨hlen, hget⟩ := repL_iff.1 h4
      split at h
      · rename_i a ha
        simp only [Option.some.injEq] at h
        subst h
        have hcell : ∀ j v, l[off + j]? = some v → w.cell? ⟨E.β b, off + j, none⟩ = some v := by
          intro j v hv
          rw [cell_of_row w _ _ _ _ _ h3]
          simpa using hv
        have key : ∃ v, (loadVar T ⟨E.β b, off, none⟩).run P w = .ok v w ∧ a.rep (view w ow) E σ v := by
          unfold partA at ha
          split at ha
          · rename_i hagg
            split at ha
            · simp only [Option.some.injEq] at ha
              subst ha
              refine ⟨.agg ⟨(l.drop off).take (P.cellsOf T)⟩, (run_loadVar_cells (P := P) (t := T) ((l.drop off).take (P.cellsOf T)) (hasT_agg hagg) (fun j v hv => ?_)).1 hagg (by simp; omega), ?_⟩
              · rw [List.getElem?_take] at hv
                split at hv
                · rw [List.getElem?_drop] at hv
                  exact hcell j v hv
                · cases hv
              · simp only [AV.rep]
                refine ⟨_, rfl, repL_iff.2 ⟨by simp [hlen], fun i a v hx hy => ?_⟩⟩
                rw [List.getElem?_take] at hx hy
                split at hx
                · rename_i hlt'
                  rw [if_pos hlt'] at hy
                  rw [List.getElem?_drop] at hx hy
                  exact hget _ a v hx hy
                · cases hx
            · cases ha
          · rename_i hagg
            split at ha
            · rename_i hh
              have hlt' : off < l.length := by
                have := (List.getElem?_eq_some_iff.1 ha).1
                omega
              refine ⟨l[off], (run_loadVar_cells (P := P) (t := T) [l[off]] hh (fun j v hv => ?_)).2 (by simpa using hagg) _ rfl, hget off a _ ha (List.getElem?_eq_getElem hlt')⟩
              cases j with
              | zero => simp at hv; subst hv; exact hcell 0 _ (by simp)
              | succ j => simp at hv
            · cases ha
        obtain ⟨v, k1, k2⟩ := key
        have hrun : (execOp ev o).run P w = .ok (.value v) w := by
          unfold execOp
          rw [ho]
          simp [hval, Instr.loadAt, Instr.sureAddr, k1]
        exact EffOk.val (wr := []) hd hlt hrun (Evo.refl _ _) hR k2 (fun _ _ => rfl)
      · cases h
    · cases h
  · rename_i k st i s off he
    rw [he] at hx
    split at h
    · rename_i own e' xs hk
      have hk := rowAt_spec hk
      split at h
      · rename_i a ha
        simp only [Option.some.injEq] at h
        subst h
        obtain ⟨hi, hs⟩ := hc
        simp only [AV.rep] at hx
        obtain ⟨b, hv, s', h1, _, h3⟩ := hx
        rw [hk] at h1
        simp only [KV.stamp, Option.some.injEq] at h1
        obtain ⟨n, c, hh⟩ := h3 h1
        obtain ⟨hlens, a', n', c', g1, g2, g3, g4⟩ := row_cells hR hk
        rw [hh] at g1
        simp only [Value.slice.injEq] at g1
        obtain ⟨rfl, rfl, rfl⟩ := g1
        rcases g4 with rfl | ⟨b', o', g5, _, g6⟩
        · simp at hi
        · simp only [Option.some.injEq, Addr.mk.injEq, and_true] at g5
          obtain ⟨rfl, rfl⟩ := g5
          have hget : xs[i]? = some (xs.getD i []) := by simp [List.getD, List.getElem?_eq_getElem hi]
          have key : ∃ v, (loadVar T ⟨b, i * s + off, none⟩).run P w = .ok v w ∧ a.rep (view w ow) E σ v := by
            have hrow := g6 i _ hget
            subst hs
            unfold cellsA at ha
            split at ha
            · rename_i hagg
              split at ha
              · rename_i hle
                simp only [Option.some.injEq] at ha
                subst ha
                have hex : ∃ vs : List Value, vs.length = P.cellsOf T ∧ (∀ j v, vs[j]? = some v → w.cell? ⟨b, i * P.cellsOf e' + off + j, none⟩ = some v) ∧
                    AV.repL (view w ow) E σ (((((xs.getD i []).drop off)).take (P.cellsOf T)).map .pv) vs := by
                  have gen : ∀ (ps : List PV) (q : Nat), (∀ j p, ps[j]? = some p → ∃ u, w.cell? ⟨b, q + j, none⟩ = some u ∧ p.rep (view w ow) u) →
                      ∃ vs : List Value, vs.length = ps.length ∧ (∀ j v, vs[j]? = some v → w.cell? ⟨b, q + j, none⟩ = some v) ∧ AV.repL (view w ow) E σ (ps.map .pv) vs := by
                    intro ps
                    induction ps with
                    | nil => intro q _; exact ⟨[], rfl, by simp, by simp [AV.repL]⟩
                    | cons p ps ih =>
                      intro q hq
                      obtain ⟨u, hu1, hu2⟩ := hq 0 p (by simp)
                      obtain ⟨vs, z1, z2, z3⟩ := ih (q + 1) (fun j r hr => by
                        have := hq (j + 1) r (by simpa using hr)
                        rwa [show q + (j + 1) = q + 1 + j by omega] at this)
                      refine ⟨u :: vs, by simp [z1], fun j v hv => ?_, ⟨u, vs, rfl, by simpa only [AV.rep] using hu2, z3⟩⟩
                      cases j with
                      | zero => simp at hv; subst hv; simpa using hu1
                      | succ j =>
                        have := z2 j v (by simpa using hv)
                        rwa [show q + 1 + j = q + (j + 1) by omega] at this
                  obtain ⟨vs, z1, z2, z3⟩ := gen (((xs.getD i []).drop off).take (P.cellsOf T)) (i * P.cellsOf e' + off) (fun j p hp => by
                    rw [List.getElem?_take] at hp
                    split at hp
                    · rw [List.getElem?_drop] at hp
                      have := hrow (off + j) p hp
                      simpa [Nat.add_assoc] using this
                    · cases hp)
                  exact ⟨vs, by rw [z1, List.length_take]; omega, z2, z3⟩
                obtain ⟨vs, z1, z2, z3⟩ := hex
                exact ⟨.agg ⟨vs⟩, (run_loadVar_cells (P := P) (t := T) vs (hasT_agg hagg) z2).1 hagg z1, by simp only [AV.rep]; exact ⟨vs, rfl, z3⟩⟩
              · cases ha
            · rename_i hagg
              split at ha
              · rename_i hhT
                obtain ⟨p, hp, rfl⟩ := Option.map_eq_some_iff.1 ha
                rw [List.head?_drop] at hp
                obtain ⟨u, hu1, hu2⟩ := hrow off p hp
                refine ⟨u, (run_loadVar_cells (P := P) (t := T) [u] hhT (fun j v hv => ?_)).2 (by simpa using hagg) _ rfl, by simpa only [AV.rep] using hu2⟩
                cases j with
                | zero => simp at hv; subst hv; simpa using hu1
                | succ j => simp at hv
              · cases ha
          obtain ⟨v, k1, k2⟩ := key
          have hrun : (execOp ev o).run P w = .ok (.value v) w := by
            unfold execOp
            rw [ho]
            simp [hv, Instr.loadAt, Instr.sureAddr, k1]
          exact EffOk.val (wr := []) hd hlt hrun (Evo.refl _ _) hR k2 (fun _ _ => rfl)
      · cases h
    · cases h
  · cases h

theorem spliceV {h : View} : ∀ {as : List AV} {vs : List Value}, AV.repL h E σ as vs → ∀ (k : Nat) {cells : List AV} {l : List Value}, AV.repL h E σ cells l → k + as.length ≤ cells.length →
    AV.repL h E σ (splice cells k as) (l.take k ++ vs ++ l.drop (k + vs.length))
  | [], vs, ha, k, cells, l, hr, hle => by
    simp only [AV.repL] at ha
    subst ha
    simpa [splice] using hr
  | a :: as, vs, ha, k, cells, l, hr, hle => by
    simp only [AV.repL] at ha
    obtain ⟨v, vs, rfl, h1, h2⟩ := ha
    have hl := (repL_iff.1 hr).1
    have hl2 := (repL_iff.1 h2).1
    have := spliceV h2 (k + 1) (repL_set k hr h1) (by simp at hle ⊢; omega)
    simp only [splice]
    rw [list_seg_step l k v vs (by simp at hle; omega)] at this
    simpa using this

theorem sto_store {o : Oper} {T : TypeId} {x y : Operand} {e : Eff} (hR : RE P E σ tm w ow) (ho : o.op = .store T x y) (hd : o.dst = none)
    (h : stoR P σ ρ none (.store T x y) = some e) (hc : e.cond) (hx : (ρ x).rep (view w ow) E σ (ev x)) (hy : (ρ y).rep (view w ow) E σ (ev y)) : EffOk P E σ tm w ow ev o e.wr := by
  simp only [stoR] at h
  split at h
  · rename_i b off st he
    rw [he] at hx
    split at h
    · rename_i cs hb
      have hb := boxAt_spec hb
      have hval := ptr_val hx (by rw [hb]; rfl)
      split at h
      · rename_i hcond
        split at h
        · rename_i as w1 hm
          simp only [Option.some.injEq] at h
          subst h
          have hyl := cells_rep hcond.1 hy
          obtain ⟨E1, q1, q2, q3, q4, q5, q6⟩ := mvCells_sound hR hm hyl
          have hb1 : updL σ w1 (.B b) = .bx st cs := by rw [q6, hb]
          obtain ⟨k1, k2, T', l, k3, k4⟩ := q1.box b st cs hb1
          have hlen := (repL_iff.1 k4).1
          have hlen3 := (repL_iff.1 q3).1
          have hleny := (repL_iff.1 hyl).1
          obtain ⟨r1, r2, r3⟩ := RE.setBox q1 hb1 k3 (spliceV q3 off k4 (by omega))
          have hfit : off + (ev y).cells.toList.length ≤ l.length := by omega
          have hst := run_storeCells_at P (E1.β b) off T' (ev y).cells.toList 0 ⟨l⟩ w k3 (by simpa using hfit) q4
          have hrun : (execOp ev o).run P w = .ok .skip (w.setRow (E1.β b) ⟨l.take off ++ (ev y).cells.toList ++ l.drop (off + (ev y).cells.toList.length)⟩) := by
            unfold execOp
            rw [ho]
            have hsz : (sizeOf T).run P w = .ok (P.cellsOf T) w := run_sizeE hcond.2.2
            have hne : ¬ ((ev y).cells.size ≠ P.cellsOf T) := by simp only [Array.length_toList] at hleny; omega
            simp only [Nat.add_zero] at hst
            rw [q5] at hst ⊢
            simp only [Instr.storeAt, storeVar, Sem.run_bind, hval, Instr.sureAddr, Sem.run_pure, Result.andThen_ok, hsz, if_neg hne, hst]
          exact ⟨_, Go.undef, _, E1, ow, hrun, .inr ⟨rfl, rfl⟩, r3, by rw [hd]; simp only [put]; exact r1, fun b _ => congrFun q5 b⟩
        · cases h
      · cases h
    · cases h
  · rename_i k st i s off he
    rw [he] at hx
    split at h
    · rename_i e' xs hk
      have hk := rowAt_spec hk
      split at h
      · rename_i p hp
        simp only [Option.some.injEq] at h
        subst h
        obtain ⟨hi, hs, hoff, hT⟩ := hc
        subst hs
        rw [hp] at hy
        simp only [AV.rep] at hx hy
        obtain ⟨b, hv, s', h1, _, h3⟩ := hx
        rw [hk] at h1
        simp only [KV.stamp, Option.some.injEq] at h1
        obtain ⟨n, c, hh⟩ := h3 h1
        rcases hR.own k st e' xs hk with ⟨rfl, _⟩ | ⟨g, cap, cur, g1, g2, g3, g4, g5, g6, g7, g8⟩
        · simp at hi
        · rw [hh] at g1
          simp only [Value.slice.injEq, Option.some.injEq, Addr.mk.injEq, and_true] at g1
          obtain ⟨rfl, rfl, rfl⟩ := g1
          have hbound : i * P.cellsOf e' + off < cur.size := by
            rw [g7]
            have h1 : (i + 1) * P.cellsOf e' ≤ c * P.cellsOf e' := Nat.mul_le_mul_right _ (by omega)
            rw [Nat.add_mul] at h1
            omega
          have hone := PV.one hy
          have hst := run_storeCells_at P b (i * P.cellsOf e' + off) e' [ev y] 0 cur w g4 (by simp; omega) (by simpa using hone)
          simp only [Nat.add_zero, List.length_singleton] at hst
          have hcur : (cur.toList.take (i * P.cellsOf e' + off) ++ [ev y] ++ cur.toList.drop (i * P.cellsOf e' + off + 1)).toArray = cur.setIfInBounds (i * P.cellsOf e' + off) (ev y) := by
            apply Array.ext'
            simp only [Array.toList_setIfInBounds]
            rw [List.set_eq_take_append_cons_drop, if_pos (by simpa using hbound)]
            simp
          have hxi : xs[i]? = some (xs.getD i []) := by simp [List.getD, List.getElem?_eq_getElem hi]
          obtain ⟨r1, r2, r3⟩ := RE.rowSet (ys := xs.set i ((xs.getD i []).set off p)) (cur' := cur.setIfInBounds (i * P.cellsOf e' + off) (ev y)) hR hk g2 g3 g4 hh (by omega) g6 (by simp [g7]) (by simp) (fun m z hz => by
            rw [List.getElem?_set] at hz
            by_cases hm : i = m
            · subst hm
              rw [if_pos rfl, if_pos hi] at hz
              simp only [Option.some.injEq] at hz
              subst hz
              refine ⟨by rw [List.length_set]; exact (g8 i _ hxi).1, fun j q hq => ?_⟩
              rw [List.getElem?_set] at hq
              by_cases hj : off = j
              · subst hj
                rw [if_pos rfl] at hq
                split at hq
                · simp only [Option.some.injEq] at hq
                  subst hq
                  exact ⟨ev y, by simp [hbound], hone, hy⟩
                · cases hq
              · rw [if_neg hj] at hq
                obtain ⟨u, u1, u2, u3⟩ := (g8 i _ hxi).2 j q hq
                exact ⟨u, by rw [Array.getElem?_setIfInBounds, if_neg (by omega)]; exact u1, u2, u3⟩
            · rw [if_neg hm] at hz
              refine ⟨(g8 m z hz).1, fun j q hq => ?_⟩
              obtain ⟨u, u1, u2, u3⟩ := (g8 m z hz).2 j q hq
              have hjl : j < P.cellsOf e' := by
                have := (List.getElem?_eq_some_iff.1 hq).1
                have := (g8 m z hz).1
                omega
              refine ⟨u, ?_, u2, u3⟩
              rw [Array.getElem?_setIfInBounds, if_neg]
              · exact u1
              · intro hcon
                apply hm
                have e1 : (i * P.cellsOf e' + off) / P.cellsOf e' = i := by rw [Nat.mul_comm, Nat.mul_add_div (by omega), Nat.div_eq_of_lt hoff]; omega
                have e2 : (m * P.cellsOf e' + j) / P.cellsOf e' = m := by rw [Nat.mul_comm, Nat.mul_add_div (by omega), Nat.div_eq_of_lt hjl]; omega
                rw [hcon] at e1
                omega)
          have hrun : (execOp ev o).run P w = .ok .skip (w.setRow b (cur.setIfInBounds (i * P.cellsOf e' + off) (ev y))) := by
            unfold execOp
            rw [ho]
            have hsz : (sizeOf T).run P w = .ok (P.cellsOf T) w := run_sizeE (by omega)
            have hcs := cells_one hone
            rw [hcur] at hst
            simp [Instr.storeAt, storeVar, hv, Instr.sureAddr, hsz, hcs, hT, hst]
          exact ⟨_, Go.undef, _, E, ow, hrun, .inr ⟨rfl, rfl⟩, r3, by rw [hd]; simp only [put]; exact r1, fun _ _ => rfl⟩
      · cases h
    · cases h
  · cases h

end
end Go.Pw
