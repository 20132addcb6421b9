/- One operation of a region, with its guard. -/
import Derived.Test.YtjbfdbbmgbekiaaGreatDoorPvNa
namespace Go.Pw
variable [Mode]
set_option linter.unusedSimpArgs false
set_option linter.unusedVariables false
set_option linter.unusedSectionVars false

section
variable {P : Program} {ρ : Operand → AV} {ev : Operand → Value} {E : Env} {σ : Look} {tm : Array Value} {w : World} {ow : Ow}

theorem optRep_ren {h h' : View} {E E' : Env} {σ σ' : Look} (hr : Ren h h' E E' σ σ') {a : Option AV} {v : Option Value} (q : optRep h E σ a v) : optRep h' E' σ' a v := by
  cases a with
  | none => cases v with
    | none => trivial
    | some v => cases q
  | some a => cases v with
    | none => cases q
    | some v => exact AV.rep_ren hr a v q

theorem stoR_sound {o : Oper} {e : Eff} (hR : RE P E σ tm w ow) (hlt : ∀ d, o.dst = some d → d < tm.size)
    (h : stoR P σ ρ o.dst o.op = some e) (hc : e.cond) (hev : ∀ v, ev (.const v) = v) (hr : ∀ x ∈ o.op.operands, (ρ x).rep (view w ow) E σ (ev x)) : EffOk P E σ tm w ow ev o e.wr := by
  cases hd : o.dst with
  | none =>
    rw [hd] at h
    cases ho : o.op <;> rw [ho] at h hr <;> (try (simp [stoR] at h; done))
    case store T x y => exact sto_store hR ho hd h hc (hr x (by simp [Op.operands])) (hr y (by simp [Op.operands]))
  | some d =>
    rw [hd] at h
    have hlt := hlt d hd
    cases ho : o.op <;> rw [ho] at h hr <;> (try (simp [stoR] at h; done))
    case assign x => exact sto_assign hR ho hd hlt h (hr x (by simp [Op.operands]))
    case alloc T => exact sto_alloc hR ho hd hlt h
    case box T x => exact sto_box hR ho hd hlt h (hr x (by simp [Op.operands]))
    case convert src dst x => exact sto_convert hR ho hd hlt h hc (hr x (by simp [Op.operands]))
    case binOp op t x y yt => exact sto_nil hR ho hd hlt h hev (hr x (by simp [Op.operands]))
    case makeSlice t len cap => exact sto_make hR ho hd hlt h hc (hr len (by simp [Op.operands])) (hr cap (by simp [Op.operands]))
    case load T x => exact sto_load hR ho hd hlt h hc (hr x (by simp [Op.operands]))
    case buildSlice t len parts => exact sto_buildSlice hR ho hd hlt h (by rw [ho]; exact hr)
    case slice t x lo hi mx =>
      have hx := hr x (by simp [Op.operands])
      have o1 : optRep (view w ow) E σ (lo.map ρ) (lo.map ev) := by
        cases lo with
        | none => trivial
        | some l => exact hr l (by simp [Op.operands])
      have o2 : optRep (view w ow) E σ (hi.map ρ) (hi.map ev) := by
        cases hi with
        | none => trivial
        | some l => exact hr l (by simp [Op.operands])
      have o3 : mx.map ρ = none → mx.map ev = none := by cases mx <;> simp
      have hop : ∀ (w1 w2 : World) z, (Instr.sliceAt t (ev x) (lo.map ev) (hi.map ev) (mx.map ev)).run P w1 = .ok z w2 → (execOp ev o).run P w1 = .ok (.value z) w2 := by
        intro w1 w2 z hz
        unfold execOp
        rw [ho]
        simp [hz]
      simp only [stoR] at h
      split at h
      · rename_i k st he
        rw [he] at hx
        split at h
        · rename_i own e' xs hk
          have hk := rowAt_spec hk
          have hval := rf_hdr hx (by rw [hk]; rfl)
          split at h
          · rename_i c a hs
            simp only [Option.some.injEq] at h
            subst h
            cases own with
            | true =>
              obtain ⟨ow', f1, f2, f3⟩ := RE.freeze hR hk
              have hsl : (PV.sl xs).rep (view w ow') (E.hdr k) := row_shared_rep (k := k) (st := st) (e := e') f1 (by simp [updL])
              obtain ⟨z, z1, z2⟩ := sliceP_sound (P := P) (E := E) (σ := updL σ [(k, .rw st false e' xs)]) (w := w) (ow := ow') hs hc (u := ev x) (by simp only [AV.rep]; rw [hval]; exact hsl)
                (optRep_ren f2 o1) (optRep_ren f2 o2) o3
              exact EffOk.val (wr := [(k, .rw st false e' xs)]) hd hlt (hop _ _ _ z1) f3 f1 z2 (fun _ _ => rfl)
            | false =>
              have hsl := row_shared_rep hR hk
              obtain ⟨z, z1, z2⟩ := sliceP_sound (P := P) (E := E) (σ := σ) (w := w) (ow := ow) hs hc (u := ev x) (by simp only [AV.rep]; rw [hval]; exact hsl) o1 o2 o3
              exact EffOk.val (wr := []) hd hlt (hop _ _ _ z1) (Evo.refl _ _) hR z2 (fun _ _ => rfl)
          · cases h
        · cases h
      · cases h
    case indexAddr t x i =>
      have hx := hr x (by simp [Op.operands])
      have hi := hr i (by simp [Op.operands])
      simp only [stoR] at h
      split at h
      · rename_i k st kk n he1 he2
        rw [he1] at hx
        rw [he2] at hi
        split at h
        · rename_i own e' xs e2 hk hel
          split at h
          · rename_i hsz
            simp only [Option.some.injEq] at h
            subst h
            have hk := rowAt_spec hk
            have hval := rf_hdr hx (by rw [hk]; rfl)
            obtain ⟨hn, hlt'⟩ := hc
            simp only [AV.rep, PV.rep] at hi
            obtain ⟨g0, a, m, c, g1, g2, g3, g4⟩ := row_cells hR hk
            rcases g4 with rfl | ⟨b, q, g5, g6, g7⟩
            · simp at hlt'; omega
            · subst g5
              have hn' : n.toNat < xs.length := by omega
              have hrun : (execOp ev o).run P w = .ok (.value (.pointer (some ⟨b, q + n.toNat * P.cellsOf e', none⟩))) w := by
                unfold execOp
                rw [ho]
                have hsz2 : (sizeOf e2).run P w = .ok (P.cellsOf e') w := by rw [← hsz.1]; exact run_sizeE (by rw [hsz.1]; exact hsz.2)
                simp [hval, g1, hi, Instr.indexAt, asIntOf, run_underlying (elemT_spec hel), hn, hsz2, Addr.add_lit, g2, hlt']
              refine EffOk.val (wr := []) hd hlt hrun (Evo.refl _ _) hR ?_ (fun _ _ => rfl)
              cases own with
              | true =>
                have hq := g6 rfl
                subst hq
                simp only [if_true, AV.rep]
                exact ⟨b, by rw [Nat.zero_add, Nat.add_zero], _, by rw [show updL σ [] k = σ k from rfl, hk]; rfl, Nat.le_refl _, fun _ => ⟨m, c, g1⟩⟩
              | false =>
                simp only [Bool.false_eq_true, if_false, AV.rep, PV.rep]
                have hsh := row_shared_rep hR hk
                rw [g1] at hsh
                simp only [PV.rep, Value.slice.injEq] at hsh
                obtain ⟨a1, n1, c1, ⟨rfl, rfl, rfl⟩, _, _, h5⟩ := hsh
                have hget : xs[n.toNat]? = some (xs.getD n.toNat []) := by simp [List.getD, List.getElem?_eq_getElem hn']
                rcases h5 with rfl | ⟨b', o', s', h6, h7⟩
                · simp at hn'
                · simp only [Option.some.injEq, Addr.mk.injEq, and_true] at h6
                  obtain ⟨rfl, rfl⟩ := h6
                  obtain ⟨k1, k2⟩ := repEs_get h7 hget
                  have : s' = P.cellsOf e' := by rw [← k1]; exact g0 _ (List.mem_of_getElem? hget)
                  subst this
                  exact ⟨b, _, rfl, k2⟩
          · cases h
        · cases h
      · cases h
    case call cl =>
      obtain ⟨callee, args, ts⟩ := cl
      simp only [stoR] at h
      have hr' : ∀ x ∈ args.toList, (ρ x).rep (view w ow) E σ (ev x) := fun x hx => hr x (by simp [Op.operands, Call.operands]; exact .inr (by simpa using hx))
      split at h
      · rename_i s x t tx hargs hts
        have ha : args = #[s, x] := by cases args; simp_all
        have ht : ts = #[t, tx] := by cases ts; simp_all
        subst ha ht
        have hs := hr' s (by simp)
        have hx := hr' x (by simp)
        split at h
        · rename_i el hel
          split at h
          · rename_i ys rd hsrc
            split at h
            · rename_i hz
              split at h
              · rename_i he
                simp only [Option.some.injEq] at h
                subst h
                rw [he] at hs
                simp only [AV.rep] at hs
                obtain ⟨a, hs⟩ := hs
                obtain ⟨news, n1, n2⟩ := srcOf_sound hR hsrc hx hc.1
                exact append_emp hR ho hd hlt hel hz.2 hz.1 hs hc.1 hc.2.1 hc.2.2 n1 n2
              · rename_i k st he
                rw [he] at hs
                split at h
                · rename_i e' xs hk
                  have hk := rowAt_spec hk
                  have hval := rf_hdr hs (by rw [hk]; rfl)
                  split at h
                  · rename_i hek
                    simp only [Option.some.injEq] at h
                    subst h
                    obtain ⟨rfl, hne⟩ := hek
                    obtain ⟨news, n1, n2⟩ := srcOf_sound hR hsrc hx hc.1
                    exact append_own hR ho hd hlt hel hz.2 hz.1 hk hne hval hc.1 hc.2.1 hc.2.2 n1 n2
                  · cases h
                · cases h
              · cases h
            · cases h
          · cases h
        · cases h
      · rename_i x t hargs hts
        have ha : args = #[x] := by cases args; simp_all
        have ht : ts = #[t] := by cases ts; simp_all
        subst ha ht
        have hx := hr' x (by simp)
        split at h
        · rename_i k st he
          rw [he] at hx
          split at h
          · rename_i own e' xs e2 hk hel
            simp only [Option.some.injEq] at h
            subst h
            have hk := rowAt_spec hk
            have hval := rf_hdr hx (by rw [hk]; rfl)
            obtain ⟨g0, a, m, c, g1, g2, g3, g4⟩ := row_cells hR hk
            have hrun : (execOp ev o).run P w = .ok (.value (.int .i64 (xs.length : Int))) w := by
              obtain ⟨dst, op, ty, pos, after, guard⟩ := o
              simp only at ho
              subst ho
              simp [execOp, resolve, invoke, builtin, Builtin.len_, hval, g1, g2, run_underlying (elemT_spec hel), goInt]
            exact EffOk.val (wr := []) hd hlt hrun (Evo.refl _ _) hR (by simp [AV.rep, PV.rep]) (fun _ _ => rfl)
          · cases h
        · cases h
      · cases h

/-! Guards, and conditions of operands. -/
def guardOf (ops : Array Oper) (σ : Look) (o : Oper) : Option (Option Bool) :=
  match o.guard with
  | none => some none
  | some (j, want) => match (ops[j]?).bind (·.dst) with
    | none => none
    | some g => match (σ (.S g)).slot with
      | .pv (.bool b) => some (some (b == want))
      | .when c (.pv (.bool b)) => some (some (c && (b == want)))
      | _ => none

theorem guard_wanted {ops : Array Oper} {o : Oper} {g : Option Bool} (hR : RE P E σ tm w ow) (h : guardOf ops σ o = some g) : Region.wanted o (yielded ops tm) = g.getD true := by
  unfold guardOf at h
  split at h
  · rename_i hg
    simp only [Option.some.injEq] at h
    subst h
    simp [Region.wanted, hg]
  · rename_i j want hg
    split at h
    · cases h
    · rename_i d hd
      have hs := hR.slot d
      split at h
      · rename_i b hb
        simp only [Option.some.injEq] at h
        subst h
        rw [hb] at hs
        simp only [AV.rep, PV.rep] at hs
        have hval : tm[d]? = some (.bool b) := by
          cases ht : tm[d]? with
          | none => simp [Array.getD_eq_getD_getElem?, ht, Go.undef] at hs
          | some v => simp [Array.getD_eq_getD_getElem?, ht] at hs; rw [hs]
        simp [Region.wanted, hg, yielded, hd, hval]
      · rename_i c b hb
        simp only [Option.some.injEq] at h
        subst h
        rw [hb] at hs
        simp only [AV.rep, PV.rep] at hs
        cases c with
        | true =>
          have hs := hs.1 rfl
          have hval : tm[d]? = some (.bool b) := by
            cases ht : tm[d]? with
            | none => simp [Array.getD_eq_getD_getElem?, ht, Go.undef] at hs
            | some v => simp [Array.getD_eq_getD_getElem?, ht] at hs; rw [hs]
          simp [Region.wanted, hg, yielded, hd, hval]
        | false =>
          have hs := hs.2 rfl
          have hy : yielded ops tm j = none := by
            unfold yielded
            rw [hd]
            cases ht : tm[d]? with
            | none => simp [ht]
            | some v =>
              simp [Array.getD_eq_getD_getElem?, ht] at hs
              subst hs
              simp [ht, Go.undef]
          simp [Region.wanted, hg, hy]
      · cases h

def scAll (c : Bool) : List AV → Prop
  | [] => True
  | .when b _ :: l => (c = true → b = true) ∧ scAll c l
  | _ :: l => scAll c l

theorem scAll_mem {c : Bool} : ∀ {l : List AV}, scAll c l → ∀ a ∈ l, a.sc c
  | [], _, a, ha => by cases ha
  | b :: l, h, a, ha => by
    cases b <;> simp only [scAll] at h <;> rcases List.mem_cons.1 ha with rfl | ha <;> first
      | trivial
      | exact scAll_mem h a ha
      | exact h.1
      | exact scAll_mem h.2 a ha

def opTmps (o : Op) : List Key := o.operands.toList.filterMap fun | .tmp t => some (Key.S t) | _ => none

def pickR (c : Bool) (x a b : AV) : Option (Prop × AV) :=
  match x.sv, a.sv, b.sv with
  | .pv (.bool q), .pv (.bool p), .pv (.bool p') => some (x.sc c ∧ a.sc (c && q) ∧ b.sc (c && !q), .pv (.bool (cond q p p')))
  | _, _, _ => none

def onlyS (d : Nat) : St → Option KV
  | [(.S d', v)] => if d = d' then some v else none
  | _ => none

/-- What an operation that calls no Go function does. -/
def stepA (P : Program) (ops : Array Oper) (σ : Look) (o : Oper) : Option Eff :=
  match guardOf ops σ o with
  | none => none
  | some g =>
    match o.op, o.dst with
    | .pick x a b, some d => match pickR (g.getD true) (evA σ x) (evA σ a) (evA σ b) with
      | some (p, r) => some ⟨p, [], [(.S d, .av (if g.isSome then .when (g.getD true) r else r))]⟩
      | none => none
    | op, dst =>
      match pureR P (fun x => (evA σ x).sv) op, dst with
      | some (p, r), some d => some ⟨scAll (g.getD true) (op.operands.toList.map (evA σ)) ∧ (g.getD true = true → p), [], [(.S d, .av (if g.isSome then .when (g.getD true) r else r))]⟩
      | some _, none => none
      | none, dst => match stoR P σ (fun x => (evA σ x).sv) dst op with
        | some e => match g with
          | none => some ⟨scAll true (op.operands.toList.map (evA σ)) ∧ e.cond, e.rd, e.wr⟩
          | some c => match dst with
            | some d => match onlyS d e.wr with
              | some kv => some ⟨scAll c (op.operands.toList.map (evA σ)) ∧ (c = true → e.cond), e.rd, [(.S d, .av (.when c kv.slot))]⟩
              | none => none
            | none => none
        | none => none

end
end Go.Pw
