/- One operation of a region: soundness, calls of Go functions too. -/
import Derived.Test.YtjbfdbbmgbekiaaDoorPwR
namespace Go.Pw
variable [Mode]
set_option linter.unusedSimpArgs false
set_option linter.unusedVariables false
set_option linter.unusedSectionVars false

def entT (P : Program) (f : FuncId) : Bool :=
  match P.funcs[f]? with
  | some fn => (fn.name != "runtime.NumGoroutine") && fn.body.isSome
  | none => false

/-- how many slots a state gives -/
def arS : St → Nat
  | [] => 0
  | (k, _) :: l => match k with
    | .S _ => arS l + 1
    | _ => arS l
theorem arS_append : ∀ (a b : St), arS (a ++ b) = arS a + arS b
  | [], b => by simp [arS]
  | (k, _) :: a, b => by
    have := arS_append a b
    cases k <;> simp only [List.cons_append, arS, this] <;> omega
/-- The contract of a Go function: from every frame and world that the state In holds of, it returns, and the state Ret holds. -/
def PCalls (P : Program) (f : FuncId) (In Ret : St) : Prop :=
  entT P f = true ∧ ∀ (vals : Array Value) (w : World) (ow : Ow) (E : Env), RE P E (look In) vals w ow → vals.size = arS In →
    Calls P f vals w fun e w' => ∃ v ow' E', e = .returned v ∧ RE P E' (look Ret) #[v] w' ow' ∧ Evo w ow w' ow' ∧ ∀ j, j < 1000 → (∃ st cs, look In (.B j) = .bx st cs) → E'.β j = E.β j

def calleeOf : AV → Option (FuncId × List AV × List AV)
  | .pv (.raw (.func (.func f) first caps)) => match first.toList, caps.toList with
    | [], [] => some (f, [], [])
    | _, _ => none
  | .clo (.func f) a b => some (f, a, b)
  | _ => none

/-- writes under a guard -/
def gw (σ : Look) (d : Option Nat) (c : Bool) : St → St
  | [] => []
  | (k, v) :: l => (match d with
      | some d => if k = .S d then (k, .av (.when c v.slot)) else (k, if c = true then v else σ k)
      | none => (k, if c = true then v else σ k)) :: gw σ d c l

def gwrap (σ : Look) (d : Option Nat) (g : Option Bool) (wr : St) : St :=
  match g with
  | none => wr
  | some c => gw σ d c wr

def guardKeys (ops : Array Oper) (o : Oper) : List Key :=
  match o.guard with
  | none => []
  | some (j, _) => match (ops[j]?).bind (·.dst) with
    | some g => [.S g]
    | none => []

mutual
def cellKey1 : AV → List Key
  | .rf k _ => [k]
  | .ptr d _ _ => [.B d]
  | .agg cs => cellKeys cs
  | _ => []
termination_by structural x => x
def cellKeys : List AV → List Key
  | [] => []
  | a :: l => cellKey1 a ++ cellKeys l
termination_by structural x => x
end

mutual
/-- the keys that a value leads to -/
def reachA (σ : Look) : AV → List Key
  | .rf k _ => [k]
  | .rptr k _ _ _ _ => [k]
  | .ptr d _ _ => .B d :: (match σ (.B d) with
    | .bx _ cs => cellKeys cs
    | _ => [])
  | .agg cs => cellKeys cs
  | .tup cs => cellKeys cs
  | .clo _ a b => reachL σ a ++ reachL σ b
  | .when _ x => reachA σ x
  | _ => []
termination_by structural x => x
def reachL (σ : Look) : List AV → List Key
  | [] => []
  | a :: l => reachA σ a ++ reachL σ l
termination_by structural x => x
end

/-- the keys that an operation hangs on -/
def footK (ops : Array Oper) (σ : Look) (o : Oper) (wr : St) : List Key :=
  guardKeys ops o ++ opTmps o.op ++ reachL σ (o.op.operands.toList.map (evA σ)) ++ wr.map (·.1)

/-- what an operation writes that is passed over -/
def skipW (d : Option Nat) : St := match d with
  | some d => [(.S d, .av (.when false (.pv (.bool false))))]
  | none => []

/-- without its guard -/
def bare (o : Oper) : Oper := { o with guard := none }
structure StepE (P : Program) (mv : FuncId → Nat → Option TypeId) (ops : Array Oper) (σ : Look) (o : Oper) (wr : St) : Prop where
  run : (∃ e, stepA P ops σ o = some e ∧ e.cond ∧ wr = e.wr) ∨ (guardOf ops σ o = some (some false) ∧ wr = skipW o.dst) ∨
    (∃ fx args ts g f a b In w0 lk as' Ret wr', o.op = .call ⟨.value fx, args, ts⟩ ∧ guardOf ops σ o = some g ∧ calleeOf (evA σ fx).sv = some (f, a, b) ∧
      scAll (g.getD true) (evA σ fx :: args.toList.map (evA σ)) ∧
      callIn σ (mv f) (a ++ (args.toList.map fun x => (evA σ x).sv) ++ b) = some (In, w0, lk, as') ∧ (g.getD true = true → PCalls P f In Ret) ∧
      callBack (updL σ w0) lk o.dst Ret = some wr' ∧ wr = gwrap σ o.dst g (wr' ++ w0)) ∨
    ∃ e, guardOf ops σ o = some (some true) ∧ stepA P ops σ (bare o) = some e ∧ e.cond ∧ wr = e.wr

section
variable {P : Program} {E : Env} {σ : Look} {tm : Array Value} {w : World} {ow : Ow}

/-- slots may be weakened -/
theorem RE.slots {σ' : Look} {tm' : Array Value} (hR : RE P E σ tm w ow) (hk : ∀ k, (∀ t, k ≠ .S t) → σ' k = σ k) (hs : ∀ t, (σ' (.S t)).stamp = none)
    (hv : ∀ t, (σ' (.S t)).slot.rep (view w ow) E σ (tm'.getD t Go.undef)) : RE P E σ' tm' w ow := by
  have ren : Ren (view w ow) (view w ow) E E σ σ' := by
    refine ⟨fun _ _ _ h => h, fun d st h => ⟨st, by rw [hk _ (by simp)]; exact h, Nat.le_refl _, fun _ => rfl⟩, fun k st h => ?_⟩
    have hkS : ∀ t, k ≠ .S t := fun t e => by subst e; rw [hR.sk t] at h; cases h
    exact ⟨st, by rw [hk _ hkS]; exact h, Nat.le_refl _, fun _ => rfl⟩
  refine ⟨hs, fun d => by rw [hk _ (by simp)]; exact hR.bk d, fun t => AV.rep_ren ren _ _ (hv t), fun d st cs h => ?_, fun k st e xs h => ?_, fun k st e xs h => ?_⟩
  · rw [hk _ (by simp)] at h
    obtain ⟨h1, h2, T, l, h3, h4⟩ := hR.box d st cs h
    exact ⟨h1, h2, T, l, h3, AV.repL_ren ren _ _ h4⟩
  · have hkS : ∀ t, k ≠ .S t := fun t e1 => by subst e1; have := hs t; rw [h] at this; cases this
    rw [hk _ hkS] at h
    exact hR.own k st e xs h
  · have hkS : ∀ t, k ≠ .S t := fun t e1 => by subst e1; have := hs t; rw [h] at this; cases this
    rw [hk _ hkS] at h
    exact hR.shared k st e xs h

theorem evA_rep (hR : RE P E σ tm w ow) (x : Operand) (hg : ∀ g, x ≠ .global g) : (evA σ x).rep (view w ow) E σ ((⟨tm, []⟩ : Act).eval x) := by
  cases x with
  | tmp t => exact hR.slot t
  | const v => exact cAV_rep _ _ _ v
  | func f => simp [evA, AV.rep, PV.rep, Act.eval, Value.oneCell']
  | global g => exact absurd rfl (hg g)

theorem evA_rep' (hR : RE P E σ tm w ow) (x : Operand) : (evA σ x).rep (view w ow) E σ ((⟨tm, []⟩ : Act).eval x) := by
  cases x with
  | global g => simp [evA, AV.rep]
  | tmp t => exact evA_rep hR _ (by simp)
  | const v => exact evA_rep hR _ (by simp)
  | func f => exact evA_rep hR _ (by simp)

theorem put_act (tm : Array Value) (d : Option Nat) (v : Value) : (⟨tm, []⟩ : Act).put d v = ⟨Pw.put tm d v, []⟩ := by
  cases d <;> rfl
theorem put_size (tm : Array Value) (d : Option Nat) (v : Value) : (Pw.put tm d v).size = tm.size := by
  cases d <;> simp [Pw.put]

theorem updL_S_only {d : Nat} {a : AV} {k : Key} (hk : ∀ t, k ≠ .S t) : updL σ [(.S d, .av a)] k = σ k := by
  simp only [updL]
  rw [if_neg (fun e => hk d e.symm)]

/-- an operation that is passed over -/
theorem RE.skip {o : Oper} {a : AV} (hR : RE P E σ tm w ow) (hlt : ∀ d, o.dst = some d → d < tm.size) (d : Nat) (hd : o.dst = some d) : RE P E (updL σ [(.S d, .av (.when false a))]) (Pw.put tm o.dst Go.undef) w ow := by
  rw [hd]
  exact (RE.put hR (hlt d hd) (by simp [AV.rep])).1

theorem wp_of_run {o : Oper} {nx : Next} {v : Value} {w' : World} {K : Act → World → Prop} {Q : Exit → Act → World → Prop} (hrun : (execOp (⟨tm, []⟩ : Act).eval o).run P w = .ok nx w') (hnx : nx = .value v ∨ (nx = .skip ∧ v = Go.undef))
    (hK : K ⟨Pw.put tm o.dst v, []⟩ w') : o.wp P ⟨tm, []⟩ w K Q := by
  unfold Oper.wp
  rw [hrun]
  rcases hnx with rfl | ⟨rfl, rfl⟩
  · rw [Oper.upon_value, put_act]; exact hK
  · rw [Oper.upon_skip, put_act]; exact hK

theorem sc_of {c : Bool} {l : List AV} (h : scAll c l) (hc : c = true) {h' : View} {a : AV} (ha : a ∈ l) {v : Value} (hv : a.rep h' E σ v) : a.sv.rep h' E σ v :=
  AV.strip hv (scAll_mem h a ha) hc

/-- what is asked of a step, seen from behind it -/
def Then (P : Program) (E : Env) (σ' : Look) (tm : Array Value) (w : World) (ow : Ow) (K : Act → World → Prop) : Prop :=
  ∀ tm' w' E' ow', RE P E' σ' tm' w' ow' → tm'.size = tm.size → Evo w ow w' ow' → (∀ b, b < 1000 → E'.β b = E.β b) → K ⟨tm', []⟩ w'

theorem stepA_sound {ops : Array Oper} {o : Oper} {e : Eff} {K : Act → World → Prop} {Q : Exit → Act → World → Prop} (h : stepA P ops σ o = some e) (hc : e.cond) (hR : RE P E σ tm w ow) (hlt : ∀ d, o.dst = some d → d < tm.size)
    (hK : Then P E (updL σ e.wr) tm w ow K) : if Region.wanted o (yielded ops tm) then o.wp P ⟨tm, []⟩ w K Q else K ((⟨tm, []⟩ : Act).put o.dst Go.undef) w := by
  unfold stepA at h
  split at h
  · cases h
  · rename_i g hg
    rw [guard_wanted hR hg, put_act]
    have hop : ∀ x ∈ o.op.operands.toList, (evA σ x).rep (view w ow) E σ ((⟨tm, []⟩ : Act).eval x) := fun x _ => evA_rep' hR x
    -- a plain value
    have val : ∀ (d : Nat) (r : AV), o.dst = some d → (g.getD true = true → ∃ v, (execOp (⟨tm, []⟩ : Act).eval o).run P w = .ok (.value v) w ∧ r.rep (view w ow) E σ v) →
        e.wr = [(.S d, .av (if g.isSome then .when (g.getD true) r else r))] → if g.getD true = true then o.wp P ⟨tm, []⟩ w K Q else K ⟨Pw.put tm o.dst Go.undef, []⟩ w := by
      intro d r hd hv hwr
      split
      · rename_i hgt
        obtain ⟨v, h1, h2⟩ := hv hgt
        refine wp_of_run h1 (.inl rfl) (hK _ _ E ow ?_ (put_size _ _ _) (Evo.refl _ _) (fun _ _ => rfl))
        rw [hwr, hd]
        refine (RE.put hR (hlt d hd) ?_).1
        cases g with
        | none => simpa using h2
        | some c => simp at hgt; subst hgt; simp [AV.rep]; exact h2
      · rename_i hgt
        refine hK _ _ E ow ?_ (put_size _ _ _) (Evo.refl _ _) (fun _ _ => rfl)
        rw [hwr]
        cases g with
        | none => simp at hgt
        | some c => simp at hgt; subst hgt; exact RE.skip hR hlt d hd
    split at h
    · rename_i op dst x a b d hopq hd
      split at h
      · rename_i p r hp
        simp only [Option.some.injEq] at h
        subst h
        refine val d r hd (fun hgt => ?_) rfl
        unfold pickR at hp
        split at hp
        · rename_i q pa pb hx ha hb
          simp only [Option.some.injEq, Prod.mk.injEq] at hp
          obtain ⟨rfl, rfl⟩ := hp
          obtain ⟨c1, c2, c3⟩ := hc
          have vx := AV.strip (evA_rep' hR x) c1 hgt
          rw [hx] at vx
          simp only [AV.rep, PV.rep] at vx
          cases q with
          | true =>
            have va := AV.strip (evA_rep' hR a) c2 (by simp [hgt])
            rw [ha] at va
            refine ⟨_, ?_, va⟩
            unfold execOp
            rw [hopq]
            simp [vx, asBool]
          | false =>
            have vb := AV.strip (evA_rep' hR b) c3 (by simp [hgt])
            rw [hb] at vb
            refine ⟨_, ?_, vb⟩
            unfold execOp
            rw [hopq]
            simp [vx, asBool]
        · cases hp
      · cases h
    · rename_i hnp
      split at h
      · rename_i p r d hp hd
        simp only [Option.some.injEq] at h
        subst h
        refine val d r hd (fun hgt => ?_) rfl
        refine pureR_sound (P := P) (o := o) hp (hc.2 hgt) (fun _ => rfl) (fun x hx => ?_)
        exact sc_of hc.1 hgt (List.mem_map.2 ⟨x, by simpa using hx, rfl⟩) (evA_rep' hR x)
      · cases h
      · rename_i hp
        split at h
        · rename_i e' hst
          split at h
          · simp only [Option.some.injEq] at h
            subst h
            simp only [Option.getD_none, if_true]
            obtain ⟨nx, v, w', E', ow', h1, h2, h3, h4, h5⟩ := stoR_sound hR hlt hst hc.2 (fun _ => rfl) (fun x hx => sc_of hc.1 rfl (List.mem_map.2 ⟨x, by simpa using hx, rfl⟩) (evA_rep' hR x))
            exact wp_of_run h1 h2 (hK _ _ E' ow' h4 (put_size _ _ _) h3 h5)
          · rename_i c
            split at h
            · rename_i d hd
              split at h
              · rename_i kv hkv
                simp only [Option.some.injEq] at h
                subst h
                simp only [Option.getD_some]
                have hwr : e'.wr = [(.S d, kv)] := by
                  unfold onlyS at hkv
                  split at hkv
                  · rename_i d' v' he
                    split at hkv
                    · rename_i hdd
                      simp only [Option.some.injEq] at hkv
                      rw [he, hdd, hkv]
                    · cases hkv
                  · cases hkv
                split
                · rename_i hct
                  subst hct
                  obtain ⟨nx, v, w', E', ow', h1, h2, h3, h4, h5⟩ := stoR_sound hR hlt hst (hc.2 rfl) (fun _ => rfl) (fun x hx => sc_of hc.1 rfl (List.mem_map.2 ⟨x, by simpa using hx, rfl⟩) (evA_rep' hR x))
                  refine wp_of_run h1 h2 (hK _ _ E' ow' ?_ (put_size _ _ _) h3 h5)
                  rw [hwr] at h4
                  refine RE.slots h4 (fun k hk => ?_) (fun t => ?_) (fun t => ?_)
                  · rw [updL_S_only hk]; simp only [updL]; rw [if_neg (fun e => hk d e.symm)]
                  · have := h4.sk t
                    simp only [updL] at this ⊢
                    by_cases ht : Key.S d = Key.S t
                    · rw [if_pos ht]; rfl
                    · rw [if_neg ht] at this ⊢; exact this
                  · have hsl := h4.slot t
                    simp only [updL] at hsl ⊢
                    by_cases ht : Key.S d = Key.S t
                    · rw [if_pos ht] at hsl ⊢
                      simp only [KV.slot, AV.rep]
                      exact ⟨fun _ => hsl, fun h => by cases h⟩
                    · rw [if_neg ht] at hsl ⊢; exact hsl
                · rename_i hct
                  have hcf : c = false := by simpa using hct
                  subst hcf
                  exact hK _ _ E ow (RE.skip hR hlt d hd) (put_size _ _ _) (Evo.refl _ _) (fun _ _ => rfl)
              · cases h
            · cases h
        · cases h

end
end Go.Pw
