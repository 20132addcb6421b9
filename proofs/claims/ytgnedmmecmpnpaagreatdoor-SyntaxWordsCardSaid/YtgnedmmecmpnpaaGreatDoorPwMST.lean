/- One operation of a region: soundness, calls of Go functions too. -/
import Derived.Test.YtgnedmmecmpnpaaGreatDoorPwMQR
namespace Go.Pw
variable [Mode]
set_option linter.unusedSimpArgs false
set_option linter.unusedVariables false
set_option linter.unusedSectionVars false

def entT (P : Program) (f : FuncId) : Bool :=
  match P.funcs[f]? with
  | some fn => (fn.name != "runtime.NumGoroutine") && fn.body.isSome
  | none => false

/-- how many slots a state gives -/
def arS : St → Nat
  | [] => 0
  | (k, _) :: l => match k with
    | .S _ => arS l + 1
    | _ => arS l
theorem arS_append : ∀ (a b : St), arS (a ++ b) = arS a + arS b
  | [], b => by simp [arS]
  | (k, _) :: a, b => by
    have := arS_append a b
    cases k <;> simp only [List.cons_append, arS, this] <;> omega
/-- The contract of a Go function: from every frame and world that the state In holds of, it returns, and the state Ret holds. -/
def PCalls (P : Program) (f : FuncId) (In Ret : St) : Prop :=
  entT P f = true ∧ ∀ (vals : Array Value) (w : World) (ow : Ow) (E : Env), RE P E (look In) vals w ow → vals.size = arS In →
    Calls P f vals w fun e w' => ∃ v ow' E', e = .returned v ∧ RE P E' (look Ret) #[v] w' ow' ∧ Evo w ow w' ow' ∧ ∀ j, j < 1000 → (∃ st cs, look In (.B j) = .bx st cs) → E'.β j = E.β j

def calleeOf : AV → Option (FuncId × List AV × List AV)
  | .pv (.raw (.func (.func f) first caps)) => match first.toList, caps.toList with
    | [], [] => some (f, [], [])
    | _, _ => none
  | .clo (.func f) a b => some (f, a, b)
  | _ => none

/-- writes under a guard -/
def gw (σ : Look) (d : Option Nat) (c : Bool) : St → St
  | [] => []
  | (k, v) :: l => (match d with
      | some d => if k = .S d then (k, .av (.when c v.slot)) else (k, if c = true then v else σ k)
      | none => (k, if c = true then v else σ k)) :: gw σ d c l

def gwrap (σ : Look) (d : Option Nat) (g : Option Bool) (wr : St) : St :=
  match g with
  | none => wr
  | some c => gw σ d c wr

def guardKeys (ops : Array Oper) (o : Oper) : List Key :=
  match o.guard with
  | none => []
  | some (j, _) => match (ops[j]?).bind (·.dst) with
    | some g => [.S g]
    | none => []

mutual
def cellKey1 : AV → List Key
  | .rf k _ => [k]
  | .ptr d _ _ => [.B d]
  | .agg cs => cellKeys cs
  | _ => []
termination_by structural x => x
def cellKeys : List AV → List Key
  | [] => []
  | a :: l => cellKey1 a ++ cellKeys l
termination_by structural x => x
end

mutual
/-- the keys that a value leads to -/
def reachA (σ : Look) : AV → List Key
  | .rf k _ => [k]
  | .rptr k _ _ _ _ => [k]
  | .ptr d _ _ => .B d :: (match σ (.B d) with
    | .bx _ cs => cellKeys cs
    | _ => [])
  | .agg cs => cellKeys cs
  | .tup cs => cellKeys cs
  | .clo _ a b => reachL σ a ++ reachL σ b
  | .when _ x => reachA σ x
  | .mref d _ => [.B d]
  | _ => []
termination_by structural x => x
def reachL (σ : Look) : List AV → List Key
  | [] => []
  | a :: l => reachA σ a ++ reachL σ l
termination_by structural x => x
end

/-- the operands by whose reach an operation hangs on memory: what is stored is stored as it is -/
def footOps : Op → List Operand
  | .store _ x _ => [x]
  | .move _ => []
  | .nilCheck _ => []
  | .fieldAddr .. => []
  | .field .. => []
  | .extract .. => []
  | op => op.operands.toList
/-- the keys that an operation hangs on -/
def footK (ops : Array Oper) (σ : Look) (o : Oper) (wr : St) : List Key :=
  guardKeys ops o ++ opTmps o.op ++ reachL σ ((footOps o.op).map (evA σ)) ++ wr.map (·.1)

/-- what an operation writes that is passed over -/
def skipW (d : Option Nat) : St := match d with
  | some d => [(.S d, .av (.when false (.pv (.bool false))))]
  | none => []

/-- without its guard -/
def bare (o : Oper) : Oper := { o with guard := none }
structure StepE (P : Program) (mv : FuncId → Nat → Option TypeId) (ops : Array Oper) (σ : Look) (o : Oper) (wr : St) : Prop where
  run : (∃ e, stepA P ops σ o = some e ∧ e.cond ∧ wr = e.wr) ∨ (guardOf ops σ o = some (some false) ∧ wr = skipW o.dst) ∨
    (∃ fx args ts g f a b In w0 lk as' Ret wr', o.op = .call ⟨.value fx, args, ts⟩ ∧ guardOf ops σ o = some g ∧ calleeOf (evA σ fx).sv = some (f, a, b) ∧
      scAll (g.getD true) (evA σ fx :: args.toList.map (evA σ)) ∧
      callIn σ (mv f) (a ++ (args.toList.map fun x => (evA σ x).sv) ++ b) = some (In, w0, lk, as') ∧ (g.getD true = true → PCalls P f In Ret) ∧
      callBack (updL σ w0) lk o.dst Ret = some wr' ∧ wr = gwrap σ o.dst g (wr' ++ w0)) ∨
    ∃ e, guardOf ops σ o = some (some true) ∧ stepA P ops σ (bare o) = some e ∧ e.cond ∧ wr = e.wr

section
variable {P : Program} {E : Env} {σ : Look} {tm : Array Value} {w : World} {ow : Ow}

/-- slots may be weakened -/
theorem RE.slots {σ' : Look} {tm' : Array Value} (hR : RE P E σ tm w ow) (hk : ∀ k, (∀ t, k ≠ .S t) → σ' k = σ k) (hs : ∀ t, (σ' (.S t)).stamp = none)
    (hv : ∀ t, (σ' (.S t)).slot.rep (view w ow) E σ (tm'.getD t Go.undef)) : RE P E σ' tm' w ow := by
  have ren : Ren (view w ow) (view w ow) E E σ σ' := by
    refine ⟨fun _ _ _ h => h, fun d st h => ⟨st, by rw [hk _ (by simp)]; exact h, Nat.le_refl _, fun _ => rfl⟩, fun k st h => ?_⟩
    have hkS : ∀ t, k ≠ .S t := fun t e => by subst e; rw [hR.sk t] at h; cases h
    exact ⟨st, by rw [hk _ hkS]; exact h, Nat.le_refl _, fun _ => rfl⟩
  refine ⟨hs, fun d => by rw [hk _ (by simp)]; exact hR.bk d, fun t => AV.rep_ren ren _ _ (hv t), fun d st cs h => ?_, fun k st e xs h => ?_, fun k st e xs h => ?_, hR.glob⟩
  · rw [hk _ (by simp)] at h
    obtain ⟨h1, h2, ⟨T, l, h3, h4⟩ | ⟨ks, vs, es, c, h0, h3, h5, h4⟩⟩ := hR.box d st cs h
    · exact ⟨h1, h2, .inl ⟨T, l, h3, AV.repL_ren ren _ _ h4⟩⟩
    · exact ⟨h1, h2, .inr ⟨ks, vs, es, c, h0, h3, h5, AV.repL_ren ren _ _ h4⟩⟩
  · have hkS : ∀ t, k ≠ .S t := fun t e1 => by subst e1; have := hs t; rw [h] at this; cases this
    rw [hk _ hkS] at h
    exact hR.own k st e xs h
  · have hkS : ∀ t, k ≠ .S t := fun t e1 => by subst e1; have := hs t; rw [h] at this; cases this
    rw [hk _ hkS] at h
    exact hR.shared k st e xs h

theorem evA_rep (hR : RE P E σ tm w ow) (x : Operand) (hg : ∀ g, x ≠ .global g) : (evA σ x).rep (view w ow) E σ ((⟨tm, []⟩ : Act).eval x) := by
  cases x with
  | tmp t => exact hR.slot t
  | const v => exact cAV_rep _ _ _ v
  | func f => simp [evA, AV.rep, PV.rep, Act.eval, Value.oneCell']
  | global g => exact absurd rfl (hg g)

theorem evA_rep' (hR : RE P E σ tm w ow) (x : Operand) : (evA σ x).rep (view w ow) E σ ((⟨tm, []⟩ : Act).eval x) := by
  cases x with
  | global g => simp [evA, AV.rep]
  | tmp t => exact evA_rep hR _ (by simp)
  | const v => exact evA_rep hR _ (by simp)
  | func f => exact evA_rep hR _ (by simp)

theorem put_act (tm : Array Value) (d : Option Nat) (v : Value) : (⟨tm, []⟩ : Act).put d v = ⟨Pw.put tm d v, []⟩ := by
  cases d <;> rfl
theorem put_size (tm : Array Value) (d : Option Nat) (v : Value) : (Pw.put tm d v).size = tm.size := by
  cases d <;> simp [Pw.put]

theorem updL_S_only {d : Nat} {a : AV} {k : Key} (hk : ∀ t, k ≠ .S t) : updL σ [(.S d, .av a)] k = σ k := by
  simp only [updL]
  rw [if_neg (fun e => hk d e.symm)]

/-- an operation that is passed over -/
theorem RE.skip {o : Oper} {a : AV} (hR : RE P E σ tm w ow) (hlt : ∀ d, o.dst = some d → d < tm.size) (d : Nat) (hd : o.dst = some d) : RE P E (updL σ [(.S d, .av (.when false a))]) (Pw.put tm o.dst Go.undef) w ow := by
  rw [hd]
  exact (RE.put hR (hlt d hd) (by simp [AV.rep])).1

theorem wp_of_run {o : Oper} {nx : Next} {v : Value} {w' : World} {K : Act → World → Prop} {Q : Exit → Act → World → Prop} (hrun : (execOp (⟨tm, []⟩ : Act).eval o).run P w = .ok nx w') (hnx : nx = .value v ∨ (nx = .skip ∧ v = Go.undef))
    (hK : K ⟨Pw.put tm o.dst v, []⟩ w') : o.wp P ⟨tm, []⟩ w K Q := by
  unfold Oper.wp
  rw [hrun]
  rcases hnx with rfl | ⟨rfl, rfl⟩
  · rw [Oper.upon_value, put_act]; exact hK
  · rw [Oper.upon_skip, put_act]; exact hK

theorem sc_of {c : Bool} {l : List AV} (h : scAll c l) (hc : c = true) {h' : View} {a : AV} (ha : a ∈ l) {v : Value} (hv : a.rep h' E σ v) : a.sv.rep h' E σ v :=
  AV.strip hv (scAll_mem h a ha) hc

/-- what is asked of a step, seen from behind it -/
def Then (P : Program) (E : Env) (σ' : Look) (tm : Array Value) (w : World) (ow : Ow) (K : Act → World → Prop) : Prop :=
  ∀ tm' w' E' ow', RE P E' σ' tm' w' ow' → tm'.size = tm.size → Evo w ow w' ow' → (∀ b, b < 1000 → E'.β b = E.β b) → K ⟨tm', []⟩ w'

theorem stepA_sound {ops : Array Oper} {o : Oper} {e : Eff} {K : Act → World → Prop} {Q : Exit → Act → World → Prop} (h : stepA P ops σ o = some e) (hc : e.cond) (hR : RE P E σ tm w ow) (hlt : ∀ d, o.dst = some d → d < tm.size)
    (hK : Then P E (updL σ e.wr) tm w ow K) : if Region.wanted o (yielded ops tm) then o.wp P ⟨tm, []⟩ w K Q else K ((⟨tm, []⟩ : Act).put o.dst Go.undef) w := by
  unfold stepA at h
  split at h
  · cases h
  · rename_i g hg
    rw [guard_wanted hR hg, put_act]
    have hop : ∀ x ∈ o.op.operands.toList, (evA σ x).rep (view w ow) E σ ((⟨tm, []⟩ : Act).eval x) := fun x _ => evA_rep' hR x
    -- a plain value
    have val : ∀ (d : Nat) (r : AV), o.dst = some d → (g.getD true = true → ∃ v, (execOp (⟨tm, []⟩ : Act).eval o).run P w = .ok (.value v) w ∧ r.rep (view w ow) E σ v) →
        e.wr = [(.S d, .av (if g.isSome then .when (g.getD true) r else r))] → if g.getD true = true then o.wp P ⟨tm, []⟩ w K Q else K ⟨Pw.put tm o.dst Go.undef, []⟩ w := by
      intro d r hd hv hwr
      split
      · rename_i hgt
        obtain ⟨v, h1, h2⟩ := hv hgt
        refine wp_of_run h1 (.inl rfl) (hK _ _ E ow ?_ (put_size _ _ _) (Evo.refl _ _) (fun _ _ => rfl))
        rw [hwr, hd]
        refine (RE.put hR (hlt d hd) ?_).1
        cases g with
        | none => simpa using h2
        | some c => simp at hgt; subst hgt; simp [AV.rep]; exact h2
      · rename_i hgt
        refine hK _ _ E ow ?_ (put_size _ _ _) (Evo.refl _ _) (fun _ _ => rfl)
        rw [hwr]
        cases g with
        | none => simp at hgt
        | some c => simp at hgt; subst hgt; exact RE.skip hR hlt d hd
    split at h
    · rename_i op dst x a b d hopq hd
      split at h
      · rename_i p r hp
        simp only [Option.some.injEq] at h
        subst h
        refine val d r hd (fun hgt => ?_) rfl
        unfold pickR at hp
        split at hp
        · rename_i q pa pb hx ha hb
          simp only [Option.some.injEq, Prod.mk.injEq] at hp
          obtain ⟨rfl, rfl⟩ := hp
          obtain ⟨c1, c2, c3⟩ := hc
          have vx := AV.strip (evA_rep' hR x) c1 hgt
          rw [hx] at vx
          simp only [AV.rep, PV.rep] at vx
          cases q with
          | true =>
            have va := AV.strip (evA_rep' hR a) c2 (by simp [hgt])
            rw [ha] at va
            refine ⟨_, ?_, va⟩
            unfold execOp
            rw [hopq]
            simp [vx, asBool]
          | false =>
            have vb := AV.strip (evA_rep' hR b) c3 (by simp [hgt])
            rw [hb] at vb
            refine ⟨_, ?_, vb⟩
            unfold execOp
            rw [hopq]
            simp [vx, asBool]
        · cases hp
      · cases h
    · rename_i hnp
      split at h
      · rename_i p r d hp hd
        simp only [Option.some.injEq] at h
        subst h
        refine val d r hd (fun hgt => ?_) rfl
        refine pureR_sound (P := P) (o := o) hp (hc.2 hgt) (fun _ => rfl) (fun x hx => ?_)
        exact sc_of hc.1 hgt (List.mem_map.2 ⟨x, by simpa using hx, rfl⟩) (evA_rep' hR x)
      · cases h
      · rename_i hp
        split at h
        · rename_i e' hst
          split at h
          · simp only [Option.some.injEq] at h
            subst h
            simp only [Option.getD_none, if_true]
            obtain ⟨nx, v, w', E', ow', h1, h2, h3, h4, h5⟩ := stoR_sound hR hlt hst hc.2 (fun _ => rfl) (fun x hx => sc_of hc.1 rfl (List.mem_map.2 ⟨x, by simpa using hx, rfl⟩) (evA_rep' hR x))
            exact wp_of_run h1 h2 (hK _ _ E' ow' h4 (put_size _ _ _) h3 h5)
          · rename_i c
            split at h
            · rename_i d hd
              split at h
              · rename_i kv hkv
                simp only [Option.some.injEq] at h
                subst h
                simp only [Option.getD_some]
                have hwr : e'.wr = [(.S d, kv)] := by
                  unfold onlyS at hkv
                  split at hkv
                  · rename_i d' v' he
                    split at hkv
                    · rename_i hdd
                      simp only [Option.some.injEq] at hkv
                      rw [he, hdd, hkv]
                    · cases hkv
                  · cases hkv
                split
                · rename_i hct
                  subst hct
                  obtain ⟨nx, v, w', E', ow', h1, h2, h3, h4, h5⟩ := stoR_sound hR hlt hst (hc.2 rfl) (fun _ => rfl) (fun x hx => sc_of hc.1 rfl (List.mem_map.2 ⟨x, by simpa using hx, rfl⟩) (evA_rep' hR x))
                  refine wp_of_run h1 h2 (hK _ _ E' ow' ?_ (put_size _ _ _) h3 h5)
                  rw [hwr] at h4
                  refine RE.slots h4 (fun k hk => ?_) (fun t => ?_) (fun t => ?_)
                  · rw [updL_S_only hk]; simp only [updL]; rw [if_neg (fun e => hk d e.symm)]
                  · have := h4.sk t
                    simp only [updL] at this ⊢
                    by_cases ht : Key.S d = Key.S t
                    · rw [if_pos ht]; rfl
                    · rw [if_neg ht] at this ⊢; exact this
                  · have hsl := h4.slot t
                    simp only [updL] at hsl ⊢
                    by_cases ht : Key.S d = Key.S t
                    · rw [if_pos ht] at hsl ⊢
                      simp only [KV.slot, AV.rep]
                      exact ⟨fun _ => hsl, fun h => by cases h⟩
                    · rw [if_neg ht] at hsl ⊢; exact hsl
                · rename_i hct
                  have hcf : c = false := by simpa using hct
                  subst hcf
                  exact hK _ _ E ow (RE.skip hR hlt d hd) (put_size _ _ _) (Evo.refl _ _) (fun _ _ => rfl)
              · cases h
            · cases h
        · cases h

end
end Go.Pw
namespace Go.Pw
variable [Mode]
set_option linter.unusedSimpArgs false
set_option linter.unusedVariables false
set_option linter.unusedSectionVars false

section
variable {P : Program} {E : Env} {σ : Look} {tm : Array Value} {w : World} {ow : Ow}

theorem pkCell_noBl {d j c : Nat} {a a' : AV} {en : St} {lk : Lk} (h : pkCell σ d j c a = some (a', en, lk)) : ∀ i k, (Key.B i, k) ∉ lk := by
  intro i kv hm
  unfold pkCell at h
  split at h
  all_goals try (simp only [Option.some.injEq, Prod.mk.injEq] at h; obtain ⟨rfl, rfl, rfl⟩ := h; cases hm)
  all_goals try (split at h <;> (try (cases h; done)))
  all_goals try (simp only [Option.some.injEq, Prod.mk.injEq] at h; obtain ⟨rfl, rfl, rfl⟩ := h)
  · simp at hm
  all_goals first
    | (cases h; done)
    | cases hm
theorem pkCells_noBl {d j : Nat} : ∀ {as as' : List AV} {c : Nat} {en : St} {lk : Lk}, pkCells σ d j c as = some (as', en, lk) → ∀ i k, (Key.B i, k) ∉ lk
  | [], as', c, en, lk, h => by
    simp only [pkCells, Option.some.injEq, Prod.mk.injEq] at h
    obtain ⟨rfl, rfl, rfl⟩ := h
    intro i kv hm; cases hm
  | a :: as, as', c, en, lk, h => by
    simp only [pkCells] at h
    split at h
    · rename_i a' e1 l1 ha
      split at h
      · rename_i as2 e2 l2 has
        simp only [Option.some.injEq, Prod.mk.injEq] at h
        obtain ⟨rfl, rfl, rfl⟩ := h
        intro i kv hm
        rcases List.mem_append.1 hm with hm | hm
        · exact pkCell_noBl ha i kv hm
        · exact pkCells_noBl has i kv hm
      · cases h
    · cases h
theorem pkArg_B {j : Nat} {x x' : AV} {en : St} {lk : Lk} (h : pkArg σ j x = some (x', en, lk)) : ∀ i k, (Key.B i, k) ∈ lk → ∃ cs, (Key.B i, KV.bx 0 cs) ∈ en := by
  intro i k hm
  unfold pkArg at h
  split at h
  · simp only [Option.some.injEq, Prod.mk.injEq] at h
    obtain ⟨rfl, rfl, rfl⟩ := h
    cases hm
  · simp only [Option.some.injEq, Prod.mk.injEq] at h
    obtain ⟨rfl, rfl, rfl⟩ := h
    cases hm
  · split at h
    · simp only [Option.some.injEq, Prod.mk.injEq] at h
      obtain ⟨rfl, rfl, rfl⟩ := h
      simp at hm
    · cases h
  · split at h
    · split at h
      · rename_i cs' en' l' hpk
        simp only [Option.some.injEq, Prod.mk.injEq] at h
        obtain ⟨rfl, rfl, rfl⟩ := h
        rcases List.mem_cons.1 hm with e | hm
        · cases e; exact ⟨cs', by simp⟩
        · exact absurd hm (pkCells_noBl hpk i k)
      · cases h
    · cases h
  · split at h
    · simp only [Option.some.injEq, Prod.mk.injEq] at h
      obtain ⟨rfl, rfl, rfl⟩ := h
      cases hm
    · cases h
  · split at h
    · split at h
      · rename_i cs' en' l' hpk
        split at h
        · simp only [Option.some.injEq, Prod.mk.injEq] at h
          obtain ⟨rfl, rfl, rfl⟩ := h
          rcases List.mem_cons.1 hm with e | hm
          · cases e; exact ⟨cs', by simp⟩
          · exact absurd hm (pkCells_noBl hpk i k)
        · cases h
      · cases h
    · cases h
  · split at h
    · simp only [Option.some.injEq, Prod.mk.injEq] at h
      obtain ⟨rfl, rfl, rfl⟩ := h
      cases hm
    · cases h
  · cases h
theorem pkArgs_B : ∀ {as : List AV} {j : Nat} {sl en : St} {lk : Lk}, pkArgs σ j as = some (sl, en, lk) → ∀ i k, (Key.B i, k) ∈ lk → ∃ cs, (Key.B i, KV.bx 0 cs) ∈ en
  | [], j, sl, en, lk, h => by
    simp only [pkArgs, Option.some.injEq, Prod.mk.injEq] at h
    obtain ⟨rfl, rfl, rfl⟩ := h
    intro i k hm; cases hm
  | a :: as, j, sl, en, lk, h => by
    simp only [pkArgs] at h
    split at h
    · rename_i a' e1 l1 ha
      split at h
      · rename_i s2 e2 l2 has
        simp only [Option.some.injEq, Prod.mk.injEq] at h
        obtain ⟨rfl, rfl, rfl⟩ := h
        intro i k hm
        rcases List.mem_append.1 hm with hm | hm
        · obtain ⟨cs, hcs⟩ := pkArg_B ha i k hm
          exact ⟨cs, List.mem_append_left _ hcs⟩
        · obtain ⟨cs, hcs⟩ := pkArgs_B has i k hm
          exact ⟨cs, List.mem_append_right _ hcs⟩
      · cases h
    · cases h

theorem pkCell_S {d j c : Nat} {a a' : AV} {en : St} {lk : Lk} (h : pkCell σ d j c a = some (a', en, lk)) : arS en = 0 := by
  unfold pkCell at h
  (repeat' split at h) <;> first
    | cases h; rfl
    | cases h
theorem pkCells_S {d j : Nat} : ∀ {as : List AV} {c : Nat} {as' : List AV} {en : St} {lk : Lk}, pkCells σ d j c as = some (as', en, lk) → arS en = 0
  | [], c, as', en, lk, h => by
    simp only [pkCells] at h
    cases h; rfl
  | a :: as, c, as', en, lk, h => by
    simp only [pkCells] at h
    split at h
    · rename_i a1 e1 l1 ha
      split at h
      · rename_i as2 e2 l2 has
        cases h
        rw [arS_append, pkCell_S ha, pkCells_S has]
      · cases h
    · cases h
theorem pkArg_S {j : Nat} {x x' : AV} {en : St} {lk : Lk} (h : pkArg σ j x = some (x', en, lk)) : arS en = 0 := by
  unfold pkArg at h
  split at h
  · cases h; rfl
  · cases h; rfl
  · split at h
    · cases h; rfl
    · cases h
  · split at h
    · split at h
      · rename_i hc
        cases h
        simp only [arS]
        exact pkCells_S hc
      · cases h
    · cases h
  · split at h
    · cases h; rfl
    · cases h
  · split at h
    · split at h
      · rename_i hc
        split at h
        · cases h
          simp only [arS]
          exact pkCells_S hc
        · cases h
      · cases h
    · cases h
  · split at h
    · cases h; rfl
    · cases h
  · cases h
theorem pkArgs_S : ∀ {as : List AV} {j : Nat} {sl en : St} {lk : Lk}, pkArgs σ j as = some (sl, en, lk) → arS sl = as.length ∧ arS en = 0
  | [], j, sl, en, lk, h => by
    simp only [pkArgs] at h
    cases h; exact ⟨rfl, rfl⟩
  | a :: as, j, sl, en, lk, h => by
    simp only [pkArgs] at h
    split at h
    · rename_i a1 e1 l1 ha
      split at h
      · rename_i s2 e2 l2 has
        cases h
        obtain ⟨h1, h2⟩ := pkArgs_S has
        exact ⟨by simp only [arS, h1, List.length_cons], by rw [arS_append, pkArg_S ha, h2]⟩
      · cases h
    · cases h
theorem repL_length {h : View} {E : Env} {σ : Look} : ∀ {as : List AV} {vs : List Value}, AV.repL h E σ as vs → vs.length = as.length
  | [], vs, h => by simp only [AV.repL] at h; subst h; rfl
  | a :: as, vs, h => by
    simp only [AV.repL] at h
    obtain ⟨v, vs, rfl, _, h⟩ := h
    simp only [List.length_cons, repL_length h]

theorem gw_other {σ : Look} {d : Option Nat} {c : Bool} {k : Key} (hk : ∀ t, d = some t → k ≠ .S t) : ∀ (wr : St), updL σ (gw σ d c wr) k = if c = true then updL σ wr k else σ k
  | [] => by simp [gw, updL]
  | (k', v) :: l => by
    have ih : updL σ (gw σ d c l) k = if c = true then updL σ l k else σ k := gw_other hk l
    cases d with
    | none =>
      simp only [gw, updL]
      by_cases h : k' = k
      · simp [h]
      · simp only [h, if_false]; exact ih
    | some t =>
      simp only [gw]
      by_cases hkt : k' = .S t
      · rw [if_pos hkt]
        simp only [updL]
        have hne : ¬ (k' = k) := fun e => hk t rfl (by rw [← e, hkt])
        simp only [hne, if_false]; exact ih
      · rw [if_neg hkt]
        simp only [updL]
        by_cases h : k' = k
        · simp [h]
        · simp only [h, if_false]; exact ih
theorem gw_dst {σ : Look} {t : Nat} {c : Bool} : ∀ (wr : St), (∃ v, (Key.S t, v) ∈ wr) → updL σ (gw σ (some t) c wr) (.S t) = .av (.when c (updL σ wr (.S t)).slot)
  | [], ⟨v, h⟩ => by cases h
  | (k', v) :: l, ⟨u, h⟩ => by
    simp only [gw]
    by_cases hkt : k' = .S t
    · subst hkt
      simp [updL]
    · rw [if_neg hkt]
      simp only [updL]
      simp only [hkt, if_false]
      rcases List.mem_cons.1 h with e | h
      · cases e; exact absurd rfl hkt
      · exact gw_dst l ⟨u, h⟩

theorem call_sound {mv : Nat → Option TypeId} {o : Oper} {fx : Operand} {args : Array Operand} {ts : Array TypeId} {f : FuncId} {a b as' : List AV} {In w0 Ret wr' : St} {lk : Lk} {K : Act → World → Prop} {Q : Exit → Act → World → Prop}
    (ho : o.op = .call ⟨.value fx, args, ts⟩) (hf : calleeOf (evA σ fx).sv = some (f, a, b)) (hsc : scAll true (evA σ fx :: args.toList.map (evA σ)))
    (hin : callIn σ mv (a ++ (args.toList.map fun x => (evA σ x).sv) ++ b) = some (In, w0, lk, as')) (hpc : PCalls P f In Ret) (hbk : callBack (updL σ w0) lk o.dst Ret = some wr')
    (hR : RE P E σ tm w ow) (hlt : ∀ d, o.dst = some d → d < tm.size) (hK : Then P E (updL σ (wr' ++ w0)) tm w ow K) : o.wp P ⟨tm, []⟩ w K Q := by
  have hfv := AV.strip (evA_rep' hR fx) (scAll_mem hsc _ (by simp)) rfl
  have hargs : AV.repL (view w ow) E σ (args.toList.map fun x => (evA σ x).sv) (args.toList.map (⟨tm, []⟩ : Act).eval) := by
    have gen : ∀ (l : List Operand), (∀ x ∈ l, (evA σ x).sc true) → AV.repL (view w ow) E σ (l.map fun x => (evA σ x).sv) (l.map (⟨tm, []⟩ : Act).eval) := by
      intro l
      induction l with
      | nil => intro _; simp [AV.repL]
      | cons x l ih =>
        intro h
        exact ⟨_, _, rfl, AV.strip (evA_rep' hR x) (h x (by simp)) rfl, ih (fun y hy => h y (by simp [hy]))⟩
    exact gen _ fun x hx => scAll_mem hsc _ (List.mem_cons_of_mem _ (List.mem_map.2 ⟨x, hx, rfl⟩))
  -- the function's value
  have hfun : ∃ lf lc : List Value, (⟨tm, []⟩ : Act).eval fx = .func (.func f) ⟨lf⟩ ⟨lc⟩ ∧ AV.repL (view w ow) E σ a lf ∧ AV.repL (view w ow) E σ b lc := by
    unfold calleeOf at hf
    split at hf
    · rename_i f' first caps he
      rw [he] at hfv
      simp only [AV.rep, PV.rep] at hfv
      split at hf
      · rename_i h1 h2
        simp only [Option.some.injEq, Prod.mk.injEq] at hf
        obtain ⟨rfl, rfl, rfl⟩ := hf
        refine ⟨first.toList, caps.toList, by rw [hfv.1], by rw [h1]; simp [AV.repL], by rw [h2]; simp [AV.repL]⟩
      · cases hf
    · rename_i f' a' b' he
      rw [he] at hfv
      simp only [Option.some.injEq, Prod.mk.injEq] at hf
      obtain ⟨rfl, rfl, rfl⟩ := hf
      simp only [AV.rep] at hfv
      obtain ⟨lf, lc, h1, h2, h3⟩ := hfv
      exact ⟨lf, lc, h1, h2, h3⟩
    · cases hf
  obtain ⟨lf, lc, hfe, hlf, hlc⟩ := hfun
  have hall : AV.repL (view w ow) E σ (a ++ (args.toList.map fun x => (evA σ x).sv) ++ b) (lf ++ args.toList.map (⟨tm, []⟩ : Act).eval ++ lc) := by
    have app : ∀ {x y : List AV} {p q : List Value}, AV.repL (view w ow) E σ x p → AV.repL (view w ow) E σ y q → AV.repL (view w ow) E σ (x ++ y) (p ++ q) := by
      intro x
      induction x with
      | nil => intro y p q h1 h2; simp only [AV.repL] at h1; subst h1; simpa using h2
      | cons c x ih =>
        intro y p q h1 h2
        simp only [AV.repL] at h1
        obtain ⟨v, vs, rfl, h3, h4⟩ := h1
        exact ⟨v, vs ++ q, rfl, h3, ih h4 h2⟩
    exact app (app hlf hargs) hlc
  unfold callIn at hin
  split at hin
  · rename_i as2 w02 hpre
    split at hin
    · rename_i sl en lk2 hpk
      obtain ⟨hnd, hin⟩ := ite_some hin
      simp only [Option.some.injEq, Prod.mk.injEq] at hin
      obtain ⟨rfl, rfl, rfl, rfl⟩ := hin
      obtain ⟨E1, ow1, r1, n1, e1, v1, b1⟩ := preArgs_sound hR hpre hall
      obtain ⟨hB, hl1, hl2⟩ := back_of hbk
      have hH := hand_of_pk r1 hpk hnd hl1 hl2
      have hvals : AV.repL (view w ow1) E1 (updL σ w02) as2 ((⟨lf⟩ : Array Value) ++ args.map (⟨tm, []⟩ : Act).eval ++ ⟨lc⟩).toList := by simpa using v1
      have hRh := RE.hand r1 hH hvals
      have hT : ∀ j d, lookL lk2 (.B j) = some (.B d) → ∃ st cs, look (sl ++ en) (.B j) = .bx st cs := by
        intro j d h
        obtain ⟨cs, hcs⟩ := pkArgs_B hpk j _ (lookL_mem h)
        exact ⟨0, cs, look_of hnd (List.mem_append_right _ hcs)⟩
      obtain ⟨hent, hcalls⟩ := hpc
      have hrun : (execOp (⟨tm, []⟩ : Act).eval o).run P w = .ok (.enter f ((⟨lf⟩ : Array Value) ++ args.map (⟨tm, []⟩ : Act).eval ++ ⟨lc⟩)) w := by
        unfold entT at hent
        split at hent
        · rename_i fn hfn
          simp only [Bool.and_eq_true, bne_iff_ne, ne_eq] at hent
          obtain ⟨dst, op, ty, pos, after, guard⟩ := o
          simp only at ho
          subst ho
          cases hbd : fn.body with
          | none => rw [hbd] at hent; simp at hent
          | some c => simp [execOp, resolve, hfe, Deferred.ofValue, invoke, callFunc, hfn, hent.1, hbd]
        · cases hent
      unfold Oper.wp
      rw [hrun, Oper.upon_enter]
      refine (hcalls _ w _ _ hRh (by
        rw [arS_append, (pkArgs_S hpk).1, (pkArgs_S hpk).2, ← repL_length hvals]; rfl)).mono ?_
      rintro e w' ⟨v, owr, Er, rfl, hr, hev, hβ⟩
      simp only
      obtain ⟨E', ow', s1, s2, s3⟩ := RE.back r1 hH hB hr hev (fun j hj hc => hβ j hj hc) hT hlt
      rw [put_act]
      refine hK _ _ E' ow' ?_ (put_size _ _ _) (e1.trans s2) (fun x _ => by rw [s3, b1])
      rw [updL_append]
      exact s1
    · cases hin
  · cases hin

theorem stepE_sound {mv : FuncId → Nat → Option TypeId} {ops : Array Oper} {o : Oper} {wr : St} {K : Act → World → Prop} {Q : Exit → Act → World → Prop} (h : StepE P mv ops σ o wr) (hR : RE P E σ tm w ow) (hlt : ∀ d, o.dst = some d → d < tm.size)
    (hK : Then P E (updL σ wr) tm w ow K) : if Region.wanted o (yielded ops tm) then o.wp P ⟨tm, []⟩ w K Q else K ((⟨tm, []⟩ : Act).put o.dst Go.undef) w := by
  rcases h.run with ⟨e, h1, h2, rfl⟩ | ⟨h2, rfl⟩ | ⟨fx, args, ts, g, f, a, b, In, w0, lk, as', Ret, wr', h1, h2, h3, h4, h5, h6, h7, rfl⟩ | ⟨e, h1, h2, h3, rfl⟩
  · exact stepA_sound h1 h2 hR hlt hK
  · rw [guard_wanted hR h2, put_act]
    simp only [Option.getD_some, Bool.false_eq_true, if_false]
    cases hd : o.dst with
    | none =>
      refine hK _ _ E ow ?_ (put_size _ _ _) (Evo.refl _ _) (fun _ _ => rfl)
      rw [hd]
      exact hR
    | some d =>
      refine hK _ _ E ow ?_ (put_size _ _ _) (Evo.refl _ _) (fun _ _ => rfl)
      have := RE.skip (a := .pv (.bool false)) hR hlt d hd
      rw [hd] at this ⊢
      exact this
  · rw [guard_wanted hR h2, put_act]
    have hmem : ∀ t, o.dst = some t → ∃ v, (Key.S t, v) ∈ wr' ++ w0 := fun t ht => by
      obtain ⟨v, hv⟩ := (back_of h7).1.mem t ht
      exact ⟨v, List.mem_append_left _ hv⟩
    cases g with
    | none =>
      simp only [Option.getD_none, if_true]
      exact call_sound h1 h3 h4 h5 (h6 rfl) h7 hR hlt hK
    | some c =>
      simp only [Option.getD_some] at h4 h6 ⊢
      cases c with
      | true =>
        simp only [if_true]
        refine call_sound h1 h3 h4 h5 (h6 rfl) h7 hR hlt ?_
        intro tm' w' E' ow' r1 r2 r3 r4
        refine hK tm' w' E' ow' ?_ r2 r3 r4
        have key : ∀ k, (∀ t, o.dst = some t → k ≠ .S t) → updL σ (gwrap σ o.dst (some true) (wr' ++ w0)) k = updL σ (wr' ++ w0) k := fun k hk => by
          simp only [gwrap]
          rw [gw_other hk]; simp
        refine RE.slots r1 (fun k hk => key k fun t _ => hk t) (fun t => ?_) (fun t => ?_)
        · by_cases ht : o.dst = some t
          · simp only [gwrap, ht]
            rw [gw_dst _ (hmem t ht)]; rfl
          · rw [key _ (fun t' h' e => ht (by cases e; exact h'))]
            exact r1.sk t
        · have hs := r1.slot t
          by_cases ht : o.dst = some t
          · simp only [gwrap, ht]
            rw [gw_dst _ (hmem t ht)]
            simp only [KV.slot, AV.rep]
            exact ⟨fun _ => hs, fun h => by cases h⟩
          · rw [key _ (fun t' h' e => ht (by cases e; exact h'))]
            exact hs
      | false =>
        simp only [Bool.false_eq_true, if_false]
        refine hK _ _ E ow ?_ (put_size _ _ _) (Evo.refl _ _) (fun _ _ => rfl)
        have key : ∀ k, (∀ t, o.dst = some t → k ≠ .S t) → updL σ (gwrap σ o.dst (some false) (wr' ++ w0)) k = σ k := fun k hk => by
          simp only [gwrap]
          rw [gw_other hk]; simp
        have hput : ∀ t, (Pw.put tm o.dst Go.undef).getD t Go.undef = if o.dst = some t then Go.undef else tm.getD t Go.undef := by
          intro t
          cases hd : o.dst with
          | none => simp [Pw.put]
          | some d =>
            simp only [Pw.put]
            rw [getD_set (hlt d hd)]
            by_cases h : d = t <;> simp [h]
        refine RE.slots hR (fun k hk => key k fun t _ => hk t) (fun t => ?_) (fun t => ?_)
        · by_cases ht : o.dst = some t
          · simp only [gwrap, ht]
            rw [gw_dst _ (hmem t ht)]; rfl
          · rw [key _ (fun t' h' e => ht (by cases e; exact h'))]
            exact hR.sk t
        · rw [hput]
          by_cases ht : o.dst = some t
          · rw [if_pos ht]
            simp only [gwrap, ht]
            rw [gw_dst _ (hmem t ht)]
            simp [KV.slot, AV.rep]
          · rw [if_neg ht, key _ (fun t' h' e => ht (by cases e; exact h'))]
            exact hR.slot t
  · rw [guard_wanted hR h1]
    simp only [Option.getD_some, if_true]
    have := stepA_sound (Q := Q) (K := K) h2 h3 hR hlt hK
    rw [if_pos (by simp [Region.wanted, bare])] at this
    exact this

end
end Go.Pw
