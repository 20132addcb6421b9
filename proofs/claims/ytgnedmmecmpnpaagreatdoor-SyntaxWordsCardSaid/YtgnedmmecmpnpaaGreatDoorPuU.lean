/- Regions, control, and a function's contract. -/
import Derived.Test.YtgnedmmecmpnpaaGreatDoorPwMST
import Derived.Deep.LoopGhost
namespace Go.Pw
variable [Mode]
set_option linter.unusedSimpArgs false
set_option linter.unusedVariables false
set_option linter.unusedSectionVars false

/-- what is known of the functions that are called: for a state that one is handed, what must hold and the state that comes back -/
abbrev Orc := FuncId → St → Option (Prop × St)

def OrcOk (P : Program) (orc : Orc) : Prop := ∀ f In pre Ret, orc f In = some (pre, Ret) → pre → PCalls P f In Ret

/-- what one operation does: what must hold, and what it writes -/
def stepO (P : Program) (orc : Orc) (mv : FuncId → Nat → Option TypeId) (ops : Array Oper) (o : Oper) (σ : Look) : Option (Prop × St) :=
  match o.op with
  | .call ⟨.value fx, args, _⟩ => match guardOf ops σ o, calleeOf (evA σ fx).sv with
    | some g, some (f, a, b) => match callIn σ (mv f) (a ++ (args.toList.map fun x => (evA σ x).sv) ++ b) with
      | some (In, w0, lk, _) => match orc f In with
        | some (pre, Ret) => match callBack (updL σ w0) lk o.dst Ret with
          | some wr' => some (scAll (g.getD true) (evA σ fx :: args.toList.map (evA σ)) ∧ (g.getD true = true → pre), gwrap σ o.dst g (wr' ++ w0))
          | none => none
        | none => none
      | none => none
    | _, _ => none
  | _ => match stepA P ops σ o with
    | some e => some (e.cond, e.wr)
    | none => match guardOf ops σ o with
      | some (some c) => some (c = false, skipW o.dst)
      | _ => none

def runOps (P : Program) (orc : Orc) (mv : FuncId → Nat → Option TypeId) (ops : Array Oper) : List Oper → St → (St → Prop) → Prop
  | [], σ, K => K σ
  | o :: l, σ, K => match stepO P orc mv ops o (look σ) with
    | some (c, wr) => c ∧ runOps P orc mv ops l (wr ++ σ) K
    | none => False

section
variable {P : Program} {E : Env} {tm : Array Value} {w : World} {ow : Ow}

theorem stepO_spec {orc : Orc} (hO : OrcOk P orc) {mv : FuncId → Nat → Option TypeId} {ops : Array Oper} {o : Oper} {σ : Look} {c : Prop} {wr : St} (h : stepO P orc mv ops o σ = some (c, wr)) (hc : c) : StepE P mv ops σ o wr := by
  unfold stepO at h
  split at h
  · rename_i fx args ts ho
    split at h
    · rename_i g f a b hg hf
      split at h
      · rename_i In w0 lk as' hin
        split at h
        · rename_i pre Ret horc
          split at h
          · rename_i wr' hbk
            simp only [Option.some.injEq, Prod.mk.injEq] at h
            obtain ⟨rfl, rfl⟩ := h
            exact ⟨.inr (.inr (.inl ⟨fx, args, ts, g, f, a, b, In, w0, lk, as', Ret, wr', ho, hg, hf, hc.1, hin, fun hg => hO _ _ _ _ horc (hc.2 hg), hbk, rfl⟩))⟩
          · cases h
        · cases h
      · cases h
    · cases h
  · split at h
    · rename_i e he
      simp only [Option.some.injEq, Prod.mk.injEq] at h
      obtain ⟨rfl, rfl⟩ := h
      exact ⟨.inl ⟨e, he, hc, rfl⟩⟩
    · split at h
      · rename_i c0 hg
        simp only [Option.some.injEq, Prod.mk.injEq] at h
        obtain ⟨rfl, rfl⟩ := h
        rw [hc] at hg
        exact ⟨.inr (.inl ⟨hg, rfl⟩)⟩
      · cases h

theorem runOps_step {orc : Orc} (hO : OrcOk P orc) {mv : FuncId → Nat → Option TypeId} {ops : Array Oper} {o : Oper} {l : List Oper} {σ : St} {K : St → Prop} (h : runOps P orc mv ops (o :: l) σ K) :
    ∃ wr, StepE P mv ops (look σ) o wr ∧ runOps P orc mv ops l (wr ++ σ) K := by
  unfold runOps at h
  split at h
  · rename_i c wr he
    exact ⟨wr, stepO_spec hO he h.1, h.2⟩
  · exact h.elim

def dstOk (n : Nat) (ops : List Oper) : Bool := ops.all fun o => match o.dst with
  | some d => decide (d < n)
  | none => true

theorem dstOk_spec {n : Nat} {ops : List Oper} (h : dstOk n ops = true) (o : Oper) (ho : o ∈ ops) (d : Nat) (hd : o.dst = some d) : d < n := by
  unfold dstOk at h
  have := List.all_eq_true.1 h o ho
  rw [hd] at this
  simpa using this

theorem run_seq {orc : Orc} (hO : OrcOk P orc) {mv : FuncId → Nat → Option TypeId} {ops : Array Oper} {K : St → Prop} {Q : Exit → Act → World → Prop} : ∀ {l : List Oper} {σ : St} {E : Env} {tm : Array Value} {w : World} {ow : Ow},
    runOps P orc mv ops l σ K → RE P E (look σ) tm w ow → dstOk tm.size l = true → (∀ σ', K σ' → Then P E (look σ') tm w ow (fun a w => Q .normal a w)) → wpList P ops Q l ⟨tm, []⟩ w
  | [], σ, E, tm, w, ow, h, hR, hd, hK => hK σ h tm w E ow hR rfl (Evo.refl _ _) (fun _ _ => rfl)
  | o :: l, σ, E, tm, w, ow, h, hR, hd, hK => by
    obtain ⟨wr, hs, h'⟩ := runOps_step hO h
    have hdo := dstOk_spec hd o (by simp)
    have hdl : dstOk tm.size l = true := by unfold dstOk at hd ⊢; simp only [List.all_cons, Bool.and_eq_true] at hd; exact hd.2
    have key := stepE_sound (Q := Q) (K := wpList P ops Q l) hs hR hdo (by
      intro tm' w' E' ow' r1 r2 r3 r4
      rw [← look_append] at r1
      refine run_seq hO h' r1 (by rw [r2]; exact hdl) (fun σ' hk tm2 w2 E2 ow2 s1 s2 s3 s4 => ?_)
      exact hK σ' hk tm2 w2 E2 ow2 s1 (s2.trans r2) (r3.trans s3) (fun b hb => (s4 b hb).trans (r4 b hb)))
    unfold wpList
    split
    · rename_i hw
      rw [if_pos hw] at key
      exact .inl key
    · rename_i hw
      rw [if_neg hw] at key
      exact key

/-- What a piece of code does to the abstract state. -/
def PWp (P : Program) (n : Nat) (c : Code) (Q : Exit → St → Prop) (σ : St) : Prop :=
  ∀ tm w ow E, n ≤ tm.size → RE P E (look σ) tm w ow → c.wp P (fun e a' w' => ∃ σ' ow' E', Q e σ' ∧ RE P E' (look σ') a'.tmps w' ow' ∧ a'.tmps.size = tm.size ∧ a'.defers = [] ∧ Evo w ow w' ow' ∧ ∀ b, b < 1000 → E'.β b = E.β b) ⟨tm, []⟩ w

variable {n : Nat} {Q : Exit → St → Prop} {σ : St}

theorem dstOk_le {n m : Nat} {ops : List Oper} (h : dstOk n ops = true) (hm : n ≤ m) : dstOk m ops = true := by
  unfold dstOk at *
  rw [List.all_eq_true] at *
  intro o ho
  have h1 := h o ho
  cases hd : o.dst with
  | none => rfl
  | some d =>
    rw [hd] at h1
    have h2 : d < n := of_decide_eq_true h1
    show decide (d < m) = true
    exact decide_eq_true (Nat.lt_of_lt_of_le h2 hm)

theorem PWp.region {orc : Orc} (hO : OrcOk P orc) {mv : FuncId → Nat → Option TypeId} {id : Nat} {ops : List Oper} (hd : dstOk n ops = true) (h : runOps P orc mv ops.toArray ops σ (fun σ' => Q .normal σ')) : PWp P n (.region id ops.toArray false) Q σ := by
  intro tm w ow E hn hR
  refine wp_region_lit (run_seq hO h hR (dstOk_le hd hn) fun σ' hk tm2 w2 E2 ow2 s1 s2 s3 s4 => ?_)
  exact ⟨σ', ow2, E2, hk, s1, s2, rfl, s3, s4⟩

def thenQ (K : St → Prop) (Q : Exit → St → Prop) : Exit → St → Prop
  | .normal, σ => K σ
  | e, σ => Q e σ

theorem act_eta {a : Act} (h : a.defers = []) : a = ⟨a.tmps, []⟩ := by cases a; simp only at h; rw [h]

theorem PWp.seq {x y : Code} (h : PWp P n x (thenQ (fun σ' => PWp P n y Q σ') Q) σ) : PWp P n (.seq x y) Q σ := by
  intro tm w ow E hn hR
  refine wp_seq (Code.wp_mono ?_ (h tm w ow E hn hR))
  rintro e a w' ⟨σ', ow', E', hq, r1, r2, r3, r4, r5⟩
  cases e with
  | normal =>
    simp only [thenQ] at hq
    simp only [Exit.then]
    rw [act_eta r3]
    refine Code.wp_mono ?_ (hq a.tmps w' ow' E' (by omega) r1)
    rintro e2 a2 w2 ⟨σ2, ow2, E2, hq2, s1, s2, s3, s4, s5⟩
    exact ⟨σ2, ow2, E2, hq2, s1, s2.trans r2, s3, r4.trans s4, fun b hb => (s5 b hb).trans (r5 b hb)⟩
  | _ => exact ⟨σ', ow', E', hq, r1, r2, r3, r4, r5⟩

theorem PWp.seq_k {x y : Code} (h : ∀ K : St → Prop, (∀ σ', PWp P n y Q σ' → K σ') → PWp P n x (thenQ K Q) σ) : PWp P n (.seq x y) Q σ := PWp.seq (h _ fun _ h => h)
theorem PWp.region_k {orc : Orc} (hO : OrcOk P orc) {mv : FuncId → Nat → Option TypeId} {K : St → Prop} {id : Nat} {ops : List Oper} (hd : dstOk n ops = true) (h : runOps P orc mv ops.toArray ops σ K) :
    PWp P n (.region id ops.toArray false) (thenQ K Q) σ := PWp.region hO hd h

theorem PWp.mono {c : Code} {Q' : Exit → St → Prop} (h : PWp P n c Q' σ) (hq : ∀ e σ, Q' e σ → Q e σ) : PWp P n c Q σ := by
  intro tm w ow E hn hR
  refine Code.wp_mono ?_ (h tm w ow E hn hR)
  rintro e a w' ⟨σ', ow', E', q, r⟩
  exact ⟨σ', ow', E', hq _ _ q, r⟩

theorem PWp.cond {c : Operand} {x y : Code} {b : Bool} (hc : evA (look σ) c = .pv (.bool b)) (ht : b = true → PWp P n x Q σ) (hf : b = false → PWp P n y Q σ) : PWp P n (.cond c x y) Q σ := by
  intro tm w ow E hn hR
  have hv := evA_rep' hR c
  rw [hc] at hv
  simp only [AV.rep, PV.rep] at hv
  exact wp_cond_split hv (fun h => ht h tm w ow E hn hR) (fun h => hf h tm w ow E hn hR)

theorem PWp.skip (h : Q .normal σ) : PWp P n .skip Q σ := fun tm w ow E hn hR => wp_skip ⟨σ, ow, E, h, hR, rfl, rfl, Evo.refl _ _, fun _ _ => rfl⟩
theorem PWp.label {l : Nat} (h : Q .normal σ) : PWp P n (.label l) Q σ := fun tm w ow E hn hR => wp_label ⟨σ, ow, E, h, hR, rfl, rfl, Evo.refl _ _, fun _ _ => rfl⟩
theorem PWp.exit {id : Nat} (h : Q (.exit id) σ) : PWp P n (.exit id) Q σ := fun tm w ow E hn hR => wp_exit ⟨σ, ow, E, h, hR, rfl, rfl, Evo.refl _ _, fun _ _ => rfl⟩
theorem PWp.ret (h : Q .ret σ) : PWp P n .ret Q σ := fun tm w ow E hn hR => wp_ret ⟨σ, ow, E, h, hR, rfl, rfl, Evo.refl _ _, fun _ _ => rfl⟩

def blockQ (id : Nat) (Q : Exit → St → Prop) : Exit → St → Prop
  | .exit id', σ => if id' = id then Q .normal σ else Q (.exit id') σ
  | e, σ => Q e σ

theorem PWp.block {id : Nat} {c : Code} (h : PWp P n c (blockQ id Q) σ) : PWp P n (.block id c) Q σ := by
  intro tm w ow E hn hR
  refine wp_block (Code.wp_mono ?_ (h tm w ow E hn hR))
  rintro e a w' ⟨σ', ow', E', q, r⟩
  cases e with
  | exit id' =>
    simp only [blockQ] at q
    simp only [Exit.inBlock]
    by_cases h : id' = id
    · rw [if_pos h] at q ⊢; exact ⟨σ', ow', E', q, r⟩
    · rw [if_neg h] at q ⊢; exact ⟨σ', ow', E', q, r⟩
  | _ => exact ⟨σ', ow', E', q, r⟩

/-- A loop: the states at its head are those of a family; each round lowers a measure. -/
theorem PWp.loop {ι : Type} {c : Code} (St_ : ι → St) (I : ι → Prop) (m : ι → Nat) (i0 : ι) (h0 : I i0)
    (round : ∀ i, I i → PWp P n c (thenQ (fun σ' => ∃ j, I j ∧ m j < m i ∧ σ' = St_ j) Q) (St_ i)) (hs : σ = St_ i0) : PWp P n (.loop c) Q σ := by
  subst hs
  intro tm w ow E hn hR
  refine wp_loop_ghost (fun k a w' => ∃ i E' ow', I i ∧ m i = k ∧ RE P E' (look (St_ i)) a.tmps w' ow' ∧ a.tmps.size = tm.size ∧ a.defers = [] ∧ Evo w ow w' ow' ∧ ∀ b, b < 1000 → E'.β b = E.β b) (m i0)
    ⟨i0, E, ow, h0, rfl, hR, rfl, rfl, Evo.refl _ _, fun _ _ => rfl⟩ ?_
  rintro k a w1 ⟨i, E1, ow1, hi, hm, r1, r2, r3, r4, r5⟩
  rw [act_eta r3]
  refine Code.wp_mono ?_ (round i hi a.tmps w1 ow1 E1 (by omega) r1)
  rintro e a2 w2 ⟨σ2, ow2, E2, q, s1, s2, s3, s4, s5⟩
  cases e with
  | normal =>
    obtain ⟨j, hj, hlt, rfl⟩ := q
    exact ⟨m j, by omega, j, E2, ow2, hj, rfl, s1, s2.trans r2, s3, r4.trans s4, fun b hb => (s5 b hb).trans (r5 b hb)⟩
  | _ => exact ⟨σ2, ow2, E2, q, s1, s2.trans r2, s3, r4.trans s4, fun b hb => (s5 b hb).trans (r5 b hb)⟩

end
end Go.Pw
