/- Boxes that are written no more; tests that nothing is known of; functions that turn an own row in place. -/
import Derived.Test.YtgnedmmecmpnpaaGreatDoorPwMCaCb
namespace Go.Pw
variable [Mode]
set_option linter.unusedSimpArgs false
set_option linter.unusedVariables false
set_option linter.unusedSectionVars false
section
variable {P : Program} {E : Env} {σ : Look} {tm : Array Value} {w w' : World} {ow : Ow}
theorem repCs_of {h : View} {b : Nat} : ∀ {ps : List PV} {o : Nat}, (∀ i p, ps[i]? = some p → ∃ u, h b (o + i) = some u ∧ p.rep h u) → PV.repCs h b o ps
  | [], o, _ => by simp [PV.repCs]
  | p :: ps, o, hp => by
    simp only [PV.repCs]
    refine ⟨by simpa using hp 0 p rfl, repCs_of fun i q hi => ?_⟩
    have := hp (i + 1) q (by simpa using hi)
    rwa [show o + (i + 1) = o + 1 + i by omega] at this
theorem RE.freezeBox {d st : Nat} {cs : List AV} {ps : List PV} (hR : RE P E σ tm w ow) (hd : σ (.B d) = .bx st cs) (hp : toPVs cs = some ps) :
    ∃ ow', RE P E (updL σ [(.B d, .dead (st + 1))]) tm w ow' ∧ Ren (view w ow) (view w ow') E E σ (updL σ [(.B d, .dead (st + 1))]) ∧ Evo w ow w ow' ∧ PV.repCs (view w ow') (E.β d) 0 ps := by
  have hno : hasMk cs = false := by
    cases cs with
    | nil => rfl
    | cons a cs => cases a <;> first | rfl | (simp [toPVs] at hp)
  obtain ⟨b1, b2, T, l, b3, b4⟩ := (hR.box d st cs hd).cells hno
  let ow' : Ow := fun b => if b = E.β d then .imm else ow b
  have evo : Evo w ow w ow' := by
    refine ⟨rfl, rfl, rfl, Nat.le_refl _, fun b _ hb => ⟨rfl, ?_⟩, fun b _ hb => ⟨rfl, ?_⟩, fun _ => Nat.le_refl _⟩
    · simp only [ow']; split
      · rfl
      · exact hb
    · simp only [ow']; rw [if_neg (fun hh => by rw [hh, b2] at hb; cases hb)]; exact hb
  have hC : Chg (fun q => q = .B d) E E w w ow ow' :=
    ⟨evo, fun b q _ h1 h2 h3 => ⟨rfl, h1, by simp only [ow']; rw [if_neg (fun hh => h3 (by rw [hh, b1] at h1; exact (Option.some.inj h1).symm))]; exact h2⟩, fun _ _ => rfl, fun _ _ => rfl⟩
  have := RE.step (W := fun q => q = .B d) (E' := E) (ow' := ow') (σ' := updL σ [(.B d, .dead (st + 1))]) (tm' := tm) hR hC
    (fun q hq => by simp only [updL]; rw [if_neg (fun e => hq e.symm)])
    (fun q hq s hs => by
      subst hq
      rw [hd] at hs
      simp [KV.stamp] at hs
      subst hs
      exact ⟨st + 1, by simp [updL, KV.stamp], Nat.le_succ _, fun e => by omega⟩)
    (fun _ _ => rfl) (fun t ht => by cases ht) (fun d' hd' => by cases hd'; exact .inr (.inr ⟨st + 1, by simp [updL]⟩)) (fun _ t ht => by cases ht)
    (fun _ d' s cs hd' h => by cases hd'; simp [updL] at h)
    (fun q s e' ys hq h => by subst hq; simp [updL] at h)
    (fun q s e' ys hq h => by subst hq; simp [updL] at h)
  refine ⟨ow', this.1, this.2, evo, repCs_of fun i p hi => ?_⟩
  obtain ⟨p1, p2⟩ := toPVs_spec hp
  obtain ⟨l1, l2⟩ := repL_iff.1 b4
  have hil : i < ps.length := (List.getElem?_eq_some_iff.1 hi).1
  have hic : i < cs.length := by omega
  have hill : i < l.length := by omega
  have hrep := l2 i cs[i] l[i] (List.getElem?_eq_getElem hic) (List.getElem?_eq_getElem hill)
  refine ⟨l[i], ?_, PV.rep_mono evo.view _ _ (p2 i cs[i] p (List.getElem?_eq_getElem hic) hi _ _ _ _ hrep)⟩
  unfold view
  rw [if_pos (by simp [ow'])]
  unfold World.cell?
  rw [b3]
  simp [hill]
variable {n : Nat} {Q : Exit → St → Prop} {s : St}
/-- a box is written no more -/
theorem PWp.fzbox (t d st : Nat) {cs : List AV} {ps : List PV} {c : Code} (h1 : (look s (.S t)).slot = .ptr d 0 st) (h2 : look s (.B d) = .bx st cs) (h3 : toPVs cs = some ps)
    (h : PWp P n c Q ((.S t, .av (.pv (.pp ps))) :: (.B d, .dead (st + 1)) :: s)) : PWp P n c Q s := by
  intro tm w ow E hn hR
  obtain ⟨ow', r1, r2, r3, r4⟩ := RE.freezeBox hR h2 h3
  have hv := hR.slot t
  rw [h1] at hv
  have hrep : (AV.pv (.pp ps)).rep (view w ow') E (updL (look s) [(.B d, .dead (st + 1))]) (tm.getD t Go.undef) := by
    have hv2 := hv
    simp only [AV.rep, stOk] at hv2
    obtain ⟨b, hb, st', hs1, hs2, hs3⟩ := hv2
    rw [h2] at hs1
    simp only [KV.stamp, Option.some.injEq] at hs1
    simp only [AV.rep, PV.rep]
    exact ⟨b, 0, hb, by rw [hs3 hs1]; exact r4⟩
  have r5 := RE.reslot r1 hrep
  have hl : look ((.S t, .av (.pv (.pp ps))) :: (.B d, .dead (st + 1)) :: s) = updL (updL (look s) [(.B d, .dead (st + 1))]) [(.S t, .av (.pv (.pp ps)))] := by
    funext k
    simp only [look_cons, updL]
  rw [← hl] at r5
  refine Code.wp_mono ?_ (h tm w ow' E hn r5)
  rintro e a w2 ⟨σ2, ow2, E2, q, s1, s2, s3, s4, s5⟩
  exact ⟨σ2, ow2, E2, q, s1, s2, s3, r3.trans s4, s5⟩
theorem PWp.cond_any {c : Operand} {x y : Code} (hc : evA (look s) c = .pv .anyb) (ht : PWp P n x Q s) (hf : PWp P n y Q s) : PWp P n (.cond c x y) Q s := by
  intro tm w ow E hn hR
  have hv := evA_rep' hR c
  rw [hc] at hv
  simp only [AV.rep, PV.rep] at hv
  obtain ⟨b, hv⟩ := hv
  exact wp_cond_split hv (fun h => ht tm w ow E hn hR) (fun h => hf tm w ow E hn hR)

def cellsAre (P : Program) (h : View) (e : TypeId) (xs : List (List PV)) (cur : Array Value) : Prop :=
  ∀ (i : Nat) (x : List PV), xs[i]? = some x → x.length = P.cellsOf e ∧ ∀ (j : Nat) (p : PV), x[j]? = some p → ∃ u, cur[i * P.cellsOf e + j]? = some u ∧ u.oneCell' = true ∧ p.rep h u
def RowVal (P : Program) (w : World) (ow : Ow) (e : TypeId) (xs : List (List PV)) (v : Value) : Prop :=
  (xs = [] ∧ ∃ a, v = .slice a 0 0) ∨ ∃ g cap cur, v = .slice (some ⟨g, 0, none⟩) xs.length cap ∧ ow g = .mine ∧ w.heap[g]? = some (.cells cur e (0, 0)) ∧ xs.length ≤ cap ∧ cap ≤ maxLen ∧ cur.size = cap * P.cellsOf e ∧ cellsAre P (view w ow) e xs cur
def RowAfter (P : Program) (w : World) (ow : Ow) (e : TypeId) (ys : List (List PV)) (v : Value) (w' : World) : Prop :=
  w'.os = w.os ∧ w'.tape = w.tape ∧ w'.output = w.output ∧ (Mode.loose = false → w.drawn ≤ w'.drawn) ∧ w.heap.size ≤ w'.heap.size ∧
    ((ys = [] ∧ ∀ b, b < w.heap.size → w'.heap[b]? = w.heap[b]?) ∨
      ys ≠ [] ∧ ∃ g n cap cur cur', v = .slice (some ⟨g, 0, none⟩) n cap ∧ w.heap[g]? = some (.cells cur e (0, 0)) ∧ w'.heap[g]? = some (.cells cur' e (0, 0)) ∧ cur'.size = cur.size ∧ cellsAre P (view w ow) e ys cur' ∧ ∀ b, b < w.heap.size → b ≠ g → w'.heap[b]? = w.heap[b]?)
/-- A function that turns the row of its first argument in place. -/
structure RowFn (P : Program) (f : FuncId) (e : TypeId) (xs : List (List PV)) (ex : List AV) (ys : List (List PV)) : Prop where
  ent : entT P f = true
  len : ys.length = xs.length
  run : ∀ (w : World) (ow : Ow) (E : Env) (σ : Look) (v : Value) (vs : List Value), RowVal P w ow e xs v → AV.repL (view w ow) E σ ex vs →
    Calls P f (v :: vs).toArray w fun en w' => en = .returned (.tuple #[]) ∧ RowAfter P w ow e ys v w'

theorem RE.rowTurned {k : Key} {st : Nat} {e : TypeId} {xs ys : List (List PV)} (hR : RE P E σ tm w ow) (hk : σ k = .rw st true e xs) (hlen : ys.length = xs.length) (hA : RowAfter P w ow e ys (E.hdr k) w') :
    ∃ ow', RE P E (updL σ [(k, .rw st true e ys)]) tm w' ow' ∧ Evo w ow w' ow' := by
  obtain ⟨a1, a2, a3, ad, a4, a5⟩ := hA
  have hkS := hR.notS (k := k) (st := st) (by rw [hk]; rfl)
  have hkB := hR.rowNotB hk
  have hrow := hR.own k st e xs hk
  let ow' : Ow := fun b => if b < w.heap.size then ow b else .imm
  have how : ∀ b, b < w.heap.size → ow' b = ow b := fun b hb => by simp only [ow']; rw [if_pos hb]
  rcases a5 with ⟨rfl, a5⟩ | ⟨hne, g, n, cap, cur, cur', h1, h2, h3, h4, h5, h6⟩
  · obtain rfl : xs = [] := List.eq_nil_of_length_eq_zero (by simpa using hlen.symm)
    obtain ⟨r1, r2, r3⟩ := RE.grown (w' := w') hR a1 a2 a3 ad a4 a5
    have hl : updL σ [(k, .rw st true e [])] = σ := by
      funext q
      simp only [updL]
      split
      · rename_i h; rw [← h, hk]
      · rfl
    exact ⟨_, by rw [hl]; exact r1, r3⟩
  · rcases hrow with ⟨rfl, _⟩ | ⟨g', cap', cur2, q1, q2, q3, q4, q5, q6, q7, q8⟩
    · exact absurd (List.eq_nil_of_length_eq_zero (by simpa using hlen)) hne
    · rw [h1] at q1
      simp only [Value.slice.injEq, Option.some.injEq, Addr.mk.injEq, and_true] at q1
      obtain ⟨rfl, rfl, rfl⟩ := q1
      have hglt : g < w.heap.size := (Array.getElem?_eq_some_iff.1 h2).1
      have evo : Evo w ow w' ow' := ⟨a1, a2, a3, a4, fun b hb h => ⟨h6 b hb (fun hbg => by rw [hbg, q3] at h; cases h), by rw [how b hb]; exact h⟩, fun b hb h => ⟨h6 b hb (fun hbg => by rw [hbg, q3] at h; cases h), by rw [how b hb]; exact h⟩, ad⟩
      have hC : Chg (fun q => q = k) E E w w' ow ow' :=
        ⟨evo, fun b q hb l1 l2 l3 => ⟨h6 b hb (fun hbg => l3 (by rw [hbg, q2] at l1; exact (Option.some.inj l1).symm)), l1, by rw [how b hb]; exact l2⟩, fun _ _ => rfl, fun _ _ => rfl⟩
      have := RE.step (W := fun q => q = k) (E' := E) (ow' := ow') (σ' := updL σ [(k, .rw st true e ys)]) (tm' := tm) hR hC
        (fun q hq => by simp only [updL]; rw [if_neg (fun e => hq e.symm)])
        (fun q hq s hs => by
          subst hq
          rw [hk] at hs
          simp [KV.stamp] at hs
          subst hs
          exact ⟨st, by simp [updL, KV.stamp], Nat.le_refl _, fun _ => ⟨rfl, fun _ _ => rfl⟩⟩)
        (fun _ _ => rfl) (fun t ht => absurd ht.symm (hkS t)) (fun d hd => absurd hd.symm (hkB d)) (fun _ t ht => absurd ht.symm (hkS t))
        (fun _ d s cs hd h => absurd hd.symm (hkB d))
        (fun q s e' zs hq h => by
          subst hq
          simp only [updL, if_true, KV.rw.injEq, true_and] at h
          obtain ⟨_, rfl, rfl⟩ := h
          refine .inr ⟨g, cap, cur', by rw [h1, hlen], q2, by rw [how g hglt]; exact q3, h3, by omega, q6, ?_, fun i x hx => ⟨(h5 i x hx).1, fun j p hp => ?_⟩⟩
          · rw [h4]
            have e1 : cur = cur2 := by rw [h2] at q4; simpa using q4
            rw [e1]; exact q7
          · obtain ⟨u, u1, u2, u3⟩ := (h5 i x hx).2 j p hp
            exact ⟨u, u1, u2, PV.rep_mono evo.view p u u3⟩)
        (fun q s e' zs hq h => by subst hq; simp [updL] at h)
      exact ⟨ow', this.1, evo⟩

/-- the call of such a function -/
structure RowCall (P : Program) (o : Oper) (σ : Look) (k : Key) (st : Nat) (e : TypeId) (xs ys : List (List PV)) : Prop where
  run : ∃ fx args ts f ex, o.op = .call ⟨.value fx, args, ts⟩ ∧ o.guard = none ∧ calleeOf (evA σ fx).sv = some (f, [], []) ∧ scAll true (evA σ fx :: args.toList.map (evA σ)) ∧
    (args.toList.map fun x => (evA σ x).sv) = .rf k st :: ex ∧ σ k = .rw st true e xs ∧ RowFn P f e xs ex ys
def StepS (P : Program) (ops : Array Oper) (σ : Look) (o : Oper) (wr : St) : Prop :=
  ∀ {E : Env} {tm : Array Value} {w : World} {ow : Ow} {K : Act → World → Prop} {Q : Exit → Act → World → Prop}, RE P E σ tm w ow → (∀ d, o.dst = some d → d < tm.size) → Then P E (updL σ wr) tm w ow K →
    if Region.wanted o (yielded ops tm) then o.wp P ⟨tm, []⟩ w K Q else K ((⟨tm, []⟩ : Act).put o.dst Go.undef) w
theorem StepS.of {mv : FuncId → Nat → Option TypeId} {ops : Array Oper} {o : Oper} {wr : St} (h : StepE P mv ops σ o wr) : StepS P ops σ o wr := fun hR hlt hK => stepE_sound h hR hlt hK
theorem rowCall_step {ops : Array Oper} {o : Oper} {d : Nat} {k : Key} {st : Nat} {e : TypeId} {xs ys : List (List PV)} (hd : o.dst = some d) (h : RowCall P o σ k st e xs ys) : StepS P ops σ o [(.S d, .av (.tup [])), (k, .rw st true e ys)] := by
  intro E tm w ow K Q hR hlt hK
  obtain ⟨fx, args, ts, f, ex, ho, hg, hf, hsc, hargs, hk, hF⟩ := h.run
  rw [if_pos (by simp [Region.wanted, hg])]
  have hfv := AV.strip (evA_rep' hR fx) (scAll_mem hsc _ (by simp)) rfl
  have hav : AV.repL (view w ow) E σ (args.toList.map fun x => (evA σ x).sv) (args.toList.map (⟨tm, []⟩ : Act).eval) := by
    have gen : ∀ (l : List Operand), (∀ x ∈ l, (evA σ x).sc true) → AV.repL (view w ow) E σ (l.map fun x => (evA σ x).sv) (l.map (⟨tm, []⟩ : Act).eval) := by
      intro l
      induction l with
      | nil => intro _; simp [AV.repL]
      | cons x l ih =>
        intro h
        exact ⟨_, _, rfl, AV.strip (evA_rep' hR x) (h x (by simp)) rfl, ih (fun y hy => h y (by simp [hy]))⟩
    exact gen _ fun x hx => scAll_mem hsc _ (List.mem_cons_of_mem _ (List.mem_map.2 ⟨x, hx, rfl⟩))
  have hfe : (⟨tm, []⟩ : Act).eval fx = .func (.func f) #[] #[] := by
    unfold calleeOf at hf
    split at hf
    · rename_i f' first caps he
      rw [he] at hfv
      simp only [AV.rep, PV.rep] at hfv
      split at hf
      · rename_i h1 h2
        simp only [Option.some.injEq, Prod.mk.injEq] at hf
        obtain ⟨rfl, _, _⟩ := hf
        rw [hfv.1]
        congr 1
        · exact Array.ext' (by simpa using h1)
        · exact Array.ext' (by simpa using h2)
      · cases hf
    · rename_i f' a' b' he
      rw [he] at hfv
      simp only [Option.some.injEq, Prod.mk.injEq] at hf
      obtain ⟨rfl, rfl, rfl⟩ := hf
      simp only [AV.rep, AV.repL] at hfv
      obtain ⟨lf, lc, h1, rfl, rfl⟩ := hfv
      exact h1
    · cases hf
  rw [hargs] at hav
  simp only [AV.repL] at hav
  obtain ⟨v, vs, hv, hv1, hv2⟩ := hav
  have hhdr := rf_hdr hv1 (by rw [hk]; rfl)
  have hrv : RowVal P w ow e xs v := by
    rw [hhdr]
    rcases hR.own k st e xs hk with ⟨h1, h2⟩ | ⟨g, cap, cur, q1, q2, q3, q4, q5, q6, q7, q8⟩
    · exact .inl ⟨h1, h2⟩
    · exact .inr ⟨g, cap, cur, q1, q3, q4, q5, q6, q7, q8⟩
  have hent := hF.ent
  have hrun : (execOp (⟨tm, []⟩ : Act).eval o).run P w = .ok (.enter f (args.map (⟨tm, []⟩ : Act).eval)) w := by
    unfold entT at hent
    split at hent
    · rename_i fn hfn
      simp only [Bool.and_eq_true, bne_iff_ne, ne_eq] at hent
      obtain ⟨dst, op, ty, pos, after, guard⟩ := o
      simp only at ho
      subst ho
      cases hbd : fn.body with
      | none => rw [hbd] at hent; simp at hent
      | some c => simp [execOp, resolve, hfe, Deferred.ofValue, invoke, callFunc, hfn, hent.1, hbd]
    · cases hent
  unfold Oper.wp
  rw [hrun, Oper.upon_enter]
  have hcalls := hF.run w ow E σ v vs hrv hv2
  have hva : (v :: vs).toArray = args.map (⟨tm, []⟩ : Act).eval := by
    rw [← hv]
    exact Array.ext' (by rw [Array.toList_map])
  rw [hva] at hcalls
  refine hcalls.mono ?_
  rintro en w' ⟨rfl, hA⟩
  simp only
  rw [hhdr] at hA
  obtain ⟨ow', r1, r2⟩ := RE.rowTurned hR hk hF.len hA
  rw [put_act, hd]
  obtain ⟨r3, _⟩ := RE.put (d := d) (a := .tup []) (v := .tuple #[]) r1 (hlt d hd) (by simp [AV.rep, AV.repL])
  refine hK _ _ E ow' ?_ (put_size _ _ _) r2 (fun _ _ => rfl)
  have hl : updL σ [(.S d, .av (.tup [])), (k, .rw st true e ys)] = updL (updL σ [(k, .rw st true e ys)]) [(.S d, .av (.tup []))] := by
    funext q
    simp only [updL]
  rw [hl]
  exact r3

/-- a region whose last operation is such a call -/
theorem run_seq_row {orc : Orc} (hO : OrcOk P orc) {mv : FuncId → Nat → Option TypeId} {ops : Array Oper} {o : Oper} {wr : St → St} {K : St → Prop} {Q : Exit → Act → World → Prop} : ∀ {l : List Oper} {σ : St} {E : Env} {tm : Array Value} {w : World} {ow : Ow},
    runOps P orc mv ops l σ K → RE P E (look σ) tm w ow → dstOk tm.size (l ++ [o]) = true → (∀ σ', K σ' → StepS P ops (look σ') o (wr σ')) → (∀ σ', K σ' → Then P E (look (wr σ' ++ σ')) tm w ow (fun a w => Q .normal a w)) → wpList P ops Q (l ++ [o]) ⟨tm, []⟩ w
  | [], σ, E, tm, w, ow, h, hR, hd, hS, hK => by
    have hdo := dstOk_spec hd o (by simp)
    have key := hS σ h (Q := Q) (K := wpList P ops Q []) hR hdo (by
      intro tm' w' E' ow' r1 r2 r3 r4
      rw [← look_append] at r1
      exact hK σ h tm' w' E' ow' r1 r2 r3 r4)
    show wpList P ops Q [o] ⟨tm, []⟩ w
    unfold wpList
    split
    · rename_i hw
      rw [if_pos hw] at key
      exact .inl key
    · rename_i hw
      rw [if_neg hw] at key
      exact key
  | o1 :: l, σ, E, tm, w, ow, h, hR, hd, hS, hK => by
    obtain ⟨wr1, hs, h'⟩ := runOps_step hO h
    have hdo := dstOk_spec hd o1 (by simp)
    have hdl : dstOk tm.size (l ++ [o]) = true := by unfold dstOk at hd ⊢; simp only [List.cons_append, List.all_cons, Bool.and_eq_true] at hd; exact hd.2
    have key := stepE_sound (Q := Q) (K := wpList P ops Q (l ++ [o])) hs hR hdo (by
      intro tm' w' E' ow' r1 r2 r3 r4
      rw [← look_append] at r1
      refine run_seq_row hO h' r1 (by rw [r2]; exact hdl) hS (fun σ' hk tm2 w2 E2 ow2 s1 s2 s3 s4 => ?_)
      exact hK σ' hk tm2 w2 E2 ow2 s1 (s2.trans r2) (r3.trans s3) (fun b hb => (s4 b hb).trans (r4 b hb)))
    show wpList P ops Q (o1 :: (l ++ [o])) ⟨tm, []⟩ w
    unfold wpList
    split
    · rename_i hw
      rw [if_pos hw] at key
      exact .inl key
    · rename_i hw
      rw [if_neg hw] at key
      exact key
theorem PWp.rg_row (k : Key) (st : Nat) (e : TypeId) (xs ys : List (List PV)) (d : Nat) {orc : Orc} (hO : OrcOk P orc) {mv : FuncId → Nat → Option TypeId} {id : Nat} {l : List Oper} {o : Oper} (ho : o.dst = some d) (hd : dstOk n (l ++ [o]) = true)
    (h : runOps P orc mv (l ++ [o]).toArray l s (fun s => RowCall P o (look s) k st e xs ys ∧ Q .normal ((.S d, .av (.tup [])) :: (k, .rw st true e ys) :: s))) : PWp P n (.region id (l ++ [o]).toArray false) Q s := by
  intro tm w ow E hn hR
  refine wp_region_lit (run_seq_row (wr := fun _ => [(.S d, .av (.tup [])), (k, .rw st true e ys)]) hO h hR (dstOk_le hd hn) (fun σ' hk => rowCall_step ho hk.1) fun σ' hk tm2 w2 E2 ow2 s1 s2 s3 s4 => ?_)
  exact ⟨_, ow2, E2, hk.2, s1, s2, rfl, s3, s4⟩

/-- what is known of such functions -/
abbrev RowF := FuncId → TypeId → List (List PV) → List AV → Option (List (List PV))
def RowFOk (P : Program) (rf : RowF) : Prop := ∀ f e xs ex ys, rf f e xs ex = some ys → RowFn P f e xs ex ys
def stepRow (rf : RowF) (o : Oper) (σ : Look) : Option St :=
  match o.op, o.guard, o.dst with
  | .call ⟨.value fx, args, _⟩, none, some d => match calleeOf (evA σ fx).sv with
    | some (f, [], []) => if scAllB (evA σ fx :: args.toList.map (evA σ)) then (match args.toList.map fun x => (evA σ x).sv with
      | .rf k st :: ex => match rowAt σ k st with
        | some (true, e, xs) => match rf f e xs ex with
          | some ys => some [(.S d, .av (.tup [])), (k, .rw st true e ys)]
          | none => none
        | _ => none
      | _ => none) else none
    | _ => none
  | _, _, _ => none
def stepN (P : Program) (orcb : FuncId → St → Option St) (rf : RowF) (mv : FuncId → Nat → Option TypeId) (ops : Array Oper) (o : Oper) (σ : Look) : Option St :=
  match stepRow rf o σ with
  | some wr => some wr
  | none => stepX P orcb mv ops o σ
theorem stepN_spec {orcb : FuncId → St → Option St} (hO : OrcB P orcb) {rf : RowF} (hF : RowFOk P rf) {mv : FuncId → Nat → Option TypeId} {ops : Array Oper} {o : Oper} {wr : St} (h : stepN P orcb rf mv ops o σ = some wr) : StepS P ops σ o wr := by
  unfold stepN at h
  split at h
  · rename_i wr1 hr
    cases h
    unfold stepRow at hr
    split at hr
    · rename_i fx args ts d ho hg hd
      split at hr
      · rename_i f hf
        split at hr
        · rename_i hsc
          split at hr
          · rename_i k st ex hargs
            split at hr
            · rename_i e xs hrow
              split at hr
              · rename_i ys hys
                cases hr
                exact rowCall_step hd ⟨fx, args, ts, f, ex, ho, hg, hf, scAllB_spec hsc, hargs, rowAt_spec hrow, hF _ _ _ _ _ hys⟩
              · cases hr
            · cases hr
          · cases hr
        · cases hr
      · cases hr
    · cases hr
  · exact StepS.of (stepX_spec hO h)
end
end Go.Pw
