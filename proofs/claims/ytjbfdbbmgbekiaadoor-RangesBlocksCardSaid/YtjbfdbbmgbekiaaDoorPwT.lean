/- Calls of Go functions as steps; regions in the text's order. -/
import Derived.Test.YtjbfdbbmgbekiaaDoorPwS
namespace Go.Pw
variable [Mode]
set_option linter.unusedSimpArgs false
set_option linter.unusedVariables false
set_option linter.unusedSectionVars false

section
variable {P : Program} {E : Env} {σ : Look} {tm : Array Value} {w : World} {ow : Ow}

theorem pkCell_noBl {d j c : Nat} {a a' : AV} {en : St} {lk : Lk} (h : pkCell σ d j c a = some (a', en, lk)) : ∀ i k, (Key.B i, k) ∉ lk := by
  intro i kv hm
  unfold pkCell at h
  split at h
  all_goals try (simp only [Option.some.injEq, Prod.mk.injEq] at h; obtain ⟨rfl, rfl, rfl⟩ := h; cases hm)
  all_goals try (split at h <;> (try (cases h; done)))
  all_goals try (simp only [Option.some.injEq, Prod.mk.injEq] at h; obtain ⟨rfl, rfl, rfl⟩ := h)
  · simp at hm
  all_goals first
    | (cases h; done)
    | cases hm
theorem pkCells_noBl {d j : Nat} : ∀ {as as' : List AV} {c : Nat} {en : St} {lk : Lk}, pkCells σ d j c as = some (as', en, lk) → ∀ i k, (Key.B i, k) ∉ lk
  | [], as', c, en, lk, h => by
    simp only [pkCells, Option.some.injEq, Prod.mk.injEq] at h
    obtain ⟨rfl, rfl, rfl⟩ := h
    intro i kv hm; cases hm
  | a :: as, as', c, en, lk, h => by
    simp only [pkCells] at h
    split at h
    · rename_i a' e1 l1 ha
      split at h
      · rename_i as2 e2 l2 has
        simp only [Option.some.injEq, Prod.mk.injEq] at h
        obtain ⟨rfl, rfl, rfl⟩ := h
        intro i kv hm
        rcases List.mem_append.1 hm with hm | hm
        · exact pkCell_noBl ha i kv hm
        · exact pkCells_noBl has i kv hm
      · cases h
    · cases h
theorem pkArg_B {j : Nat} {x x' : AV} {en : St} {lk : Lk} (h : pkArg σ j x = some (x', en, lk)) : ∀ i k, (Key.B i, k) ∈ lk → ∃ cs, (Key.B i, KV.bx 0 cs) ∈ en := by
  intro i k hm
  unfold pkArg at h
  split at h
  · simp only [Option.some.injEq, Prod.mk.injEq] at h
    obtain ⟨rfl, rfl, rfl⟩ := h
    cases hm
  · simp only [Option.some.injEq, Prod.mk.injEq] at h
    obtain ⟨rfl, rfl, rfl⟩ := h
    cases hm
  · split at h
    · simp only [Option.some.injEq, Prod.mk.injEq] at h
      obtain ⟨rfl, rfl, rfl⟩ := h
      simp at hm
    · cases h
  · split at h
    · split at h
      · rename_i cs' en' l' hpk
        simp only [Option.some.injEq, Prod.mk.injEq] at h
        obtain ⟨rfl, rfl, rfl⟩ := h
        rcases List.mem_cons.1 hm with e | hm
        · cases e; exact ⟨cs', by simp⟩
        · exact absurd hm (pkCells_noBl hpk i k)
      · cases h
    · cases h
  · split at h
    · simp only [Option.some.injEq, Prod.mk.injEq] at h
      obtain ⟨rfl, rfl, rfl⟩ := h
      cases hm
    · cases h
  · split at h
    · simp only [Option.some.injEq, Prod.mk.injEq] at h
      obtain ⟨rfl, rfl, rfl⟩ := h
      cases hm
    · cases h
  · cases h
theorem pkArgs_B : ∀ {as : List AV} {j : Nat} {sl en : St} {lk : Lk}, pkArgs σ j as = some (sl, en, lk) → ∀ i k, (Key.B i, k) ∈ lk → ∃ cs, (Key.B i, KV.bx 0 cs) ∈ en
  | [], j, sl, en, lk, h => by
    simp only [pkArgs, Option.some.injEq, Prod.mk.injEq] at h
    obtain ⟨rfl, rfl, rfl⟩ := h
    intro i k hm; cases hm
  | a :: as, j, sl, en, lk, h => by
    simp only [pkArgs] at h
    split at h
    · rename_i a' e1 l1 ha
      split at h
      · rename_i s2 e2 l2 has
        simp only [Option.some.injEq, Prod.mk.injEq] at h
        obtain ⟨rfl, rfl, rfl⟩ := h
        intro i k hm
        rcases List.mem_append.1 hm with hm | hm
        · obtain ⟨cs, hcs⟩ := pkArg_B ha i k hm
          exact ⟨cs, List.mem_append_left _ hcs⟩
        · obtain ⟨cs, hcs⟩ := pkArgs_B has i k hm
          exact ⟨cs, List.mem_append_right _ hcs⟩
      · cases h
    · cases h

theorem pkCell_S {d j c : Nat} {a a' : AV} {en : St} {lk : Lk} (h : pkCell σ d j c a = some (a', en, lk)) : arS en = 0 := by
  unfold pkCell at h
  (repeat' split at h) <;> first
    | cases h; rfl
    | cases h
theorem pkCells_S {d j : Nat} : ∀ {as : List AV} {c : Nat} {as' : List AV} {en : St} {lk : Lk}, pkCells σ d j c as = some (as', en, lk) → arS en = 0
  | [], c, as', en, lk, h => by
    simp only [pkCells] at h
    cases h; rfl
  | a :: as, c, as', en, lk, h => by
    simp only [pkCells] at h
    split at h
    · rename_i a1 e1 l1 ha
      split at h
      · rename_i as2 e2 l2 has
        cases h
        rw [arS_append, pkCell_S ha, pkCells_S has]
      · cases h
    · cases h
theorem pkArg_S {j : Nat} {x x' : AV} {en : St} {lk : Lk} (h : pkArg σ j x = some (x', en, lk)) : arS en = 0 := by
  unfold pkArg at h
  split at h
  · cases h; rfl
  · cases h; rfl
  · split at h
    · cases h; rfl
    · cases h
  · split at h
    · split at h
      · rename_i hc
        cases h
        simp only [arS]
        exact pkCells_S hc
      · cases h
    · cases h
  · split at h
    · cases h; rfl
    · cases h
  · split at h
    · cases h; rfl
    · cases h
  · cases h
theorem pkArgs_S : ∀ {as : List AV} {j : Nat} {sl en : St} {lk : Lk}, pkArgs σ j as = some (sl, en, lk) → arS sl = as.length ∧ arS en = 0
  | [], j, sl, en, lk, h => by
    simp only [pkArgs] at h
    cases h; exact ⟨rfl, rfl⟩
  | a :: as, j, sl, en, lk, h => by
    simp only [pkArgs] at h
    split at h
    · rename_i a1 e1 l1 ha
      split at h
      · rename_i s2 e2 l2 has
        cases h
        obtain ⟨h1, h2⟩ := pkArgs_S has
        exact ⟨by simp only [arS, h1, List.length_cons], by rw [arS_append, pkArg_S ha, h2]⟩
      · cases h
    · cases h
theorem repL_length {h : View} {E : Env} {σ : Look} : ∀ {as : List AV} {vs : List Value}, AV.repL h E σ as vs → vs.length = as.length
  | [], vs, h => by simp only [AV.repL] at h; subst h; rfl
  | a :: as, vs, h => by
    simp only [AV.repL] at h
    obtain ⟨v, vs, rfl, _, h⟩ := h
    simp only [List.length_cons, repL_length h]

theorem gw_other {σ : Look} {d : Option Nat} {c : Bool} {k : Key} (hk : ∀ t, d = some t → k ≠ .S t) : ∀ (wr : St), updL σ (gw σ d c wr) k = if c = true then updL σ wr k else σ k
  | [] => by simp [gw, updL]
  | (k', v) :: l => by
    have ih : updL σ (gw σ d c l) k = if c = true then updL σ l k else σ k := gw_other hk l
    cases d with
    | none =>
      simp only [gw, updL]
      by_cases h : k' = k
      · simp [h]
      · simp only [h, if_false]; exact ih
    | some t =>
      simp only [gw]
      by_cases hkt : k' = .S t
      · rw [if_pos hkt]
        simp only [updL]
        have hne : ¬ (k' = k) := fun e => hk t rfl (by rw [← e, hkt])
        simp only [hne, if_false]; exact ih
      · rw [if_neg hkt]
        simp only [updL]
        by_cases h : k' = k
        · simp [h]
        · simp only [h, if_false]; exact ih
theorem gw_dst {σ : Look} {t : Nat} {c : Bool} : ∀ (wr : St), (∃ v, (Key.S t, v) ∈ wr) → updL σ (gw σ (some t) c wr) (.S t) = .av (.when c (updL σ wr (.S t)).slot)
  | [], ⟨v, h⟩ => by cases h
  | (k', v) :: l, ⟨u, h⟩ => by
    simp only [gw]
    by_cases hkt : k' = .S t
    · subst hkt
      simp [updL]
    · rw [if_neg hkt]
      simp only [updL]
      simp only [hkt, if_false]
      rcases List.mem_cons.1 h with e | h
      · cases e; exact absurd rfl hkt
      · exact gw_dst l ⟨u, h⟩

theorem call_sound {mv : Nat → Option TypeId} {o : Oper} {fx : Operand} {args : Array Operand} {ts : Array TypeId} {f : FuncId} {a b as' : List AV} {In w0 Ret wr' : St} {lk : Lk} {K : Act → World → Prop} {Q : Exit → Act → World → Prop}
    (ho : o.op = .call ⟨.value fx, args, ts⟩) (hf : calleeOf (evA σ fx).sv = some (f, a, b)) (hsc : scAll true (evA σ fx :: args.toList.map (evA σ)))
    (hin : callIn σ mv (a ++ (args.toList.map fun x => (evA σ x).sv) ++ b) = some (In, w0, lk, as')) (hpc : PCalls P f In Ret) (hbk : callBack (updL σ w0) lk o.dst Ret = some wr')
    (hR : RE P E σ tm w ow) (hlt : ∀ d, o.dst = some d → d < tm.size) (hK : Then P E (updL σ (wr' ++ w0)) tm w ow K) : o.wp P ⟨tm, []⟩ w K Q := by
  have hfv := AV.strip (evA_rep' hR fx) (scAll_mem hsc _ (by simp)) rfl
  have hargs : AV.repL (view w ow) E σ (args.toList.map fun x => (evA σ x).sv) (args.toList.map (⟨tm, []⟩ : Act).eval) := by
    have gen : ∀ (l : List Operand), (∀ x ∈ l, (evA σ x).sc true) → AV.repL (view w ow) E σ (l.map fun x => (evA σ x).sv) (l.map (⟨tm, []⟩ : Act).eval) := by
      intro l
      induction l with
      | nil => intro _; simp [AV.repL]
      | cons x l ih =>
        intro h
        exact ⟨_, _, rfl, AV.strip (evA_rep' hR x) (h x (by simp)) rfl, ih (fun y hy => h y (by simp [hy]))⟩
    exact gen _ fun x hx => scAll_mem hsc _ (List.mem_cons_of_mem _ (List.mem_map.2 ⟨x, hx, rfl⟩))
  -- the function's value
  have hfun : ∃ lf lc : List Value, (⟨tm, []⟩ : Act).eval fx = .func (.func f) ⟨lf⟩ ⟨lc⟩ ∧ AV.repL (view w ow) E σ a lf ∧ AV.repL (view w ow) E σ b lc := by
    unfold calleeOf at hf
    split at hf
    · rename_i f' first caps he
      rw [he] at hfv
      simp only [AV.rep, PV.rep] at hfv
      split at hf
      · rename_i h1 h2
        simp only [Option.some.injEq, Prod.mk.injEq] at hf
        obtain ⟨rfl, rfl, rfl⟩ := hf
        refine ⟨first.toList, caps.toList, by rw [hfv.1], by rw [h1]; simp [AV.repL], by rw [h2]; simp [AV.repL]⟩
      · cases hf
    · rename_i f' a' b' he
      rw [he] at hfv
      simp only [Option.some.injEq, Prod.mk.injEq] at hf
      obtain ⟨rfl, rfl, rfl⟩ := hf
      simp only [AV.rep] at hfv
      obtain ⟨lf, lc, h1, h2, h3⟩ := hfv
      exact ⟨lf, lc, h1, h2, h3⟩
    · cases hf
  obtain ⟨lf, lc, hfe, hlf, hlc⟩ := hfun
  have hall : AV.repL (view w ow) E σ (a ++ (args.toList.map fun x => (evA σ x).sv) ++ b) (lf ++ args.toList.map (⟨tm, []⟩ : Act).eval ++ lc) := by
    have app : ∀ {x y : List AV} {p q : List Value}, AV.repL (view w ow) E σ x p → AV.repL (view w ow) E σ y q → AV.repL (view w ow) E σ (x ++ y) (p ++ q) := by
      intro x
      induction x with
      | nil => intro y p q h1 h2; simp only [AV.repL] at h1; subst h1; simpa using h2
      | cons c x ih =>
        intro y p q h1 h2
        simp only [AV.repL] at h1
        obtain ⟨v, vs, rfl, h3, h4⟩ := h1
        exact ⟨v, vs ++ q, rfl, h3, ih h4 h2⟩
    exact app (app hlf hargs) hlc
  unfold callIn at hin
  split at hin
  · rename_i as2 w02 hpre
    split at hin
    · rename_i sl en lk2 hpk
      obtain ⟨hnd, hin⟩ := ite_some hin
      simp only [Option.some.injEq, Prod.mk.injEq] at hin
      obtain ⟨rfl, rfl, rfl, rfl⟩ := hin
      obtain ⟨E1, ow1, r1, n1, e1, v1, b1⟩ := preArgs_sound hR hpre hall
      obtain ⟨hB, hl1, hl2⟩ := back_of hbk
      have hH := hand_of_pk r1 hpk hnd hl1 hl2
      have hvals : AV.repL (view w ow1) E1 (updL σ w02) as2 ((⟨lf⟩ : Array Value) ++ args.map (⟨tm, []⟩ : Act).eval ++ ⟨lc⟩).toList := by simpa using v1
      have hRh := RE.hand r1 hH hvals
      have hT : ∀ j d, lookL lk2 (.B j) = some (.B d) → ∃ st cs, look (sl ++ en) (.B j) = .bx st cs := by
        intro j d h
        obtain ⟨cs, hcs⟩ := pkArgs_B hpk j _ (lookL_mem h)
        exact ⟨0, cs, look_of hnd (List.mem_append_right _ hcs)⟩
      obtain ⟨hent, hcalls⟩ := hpc
      have hrun : (execOp (⟨tm, []⟩ : Act).eval o).run P w = .ok (.enter f ((⟨lf⟩ : Array Value) ++ args.map (⟨tm, []⟩ : Act).eval ++ ⟨lc⟩)) w := by
        unfold entT at hent
        split at hent
        · rename_i fn hfn
          simp only [Bool.and_eq_true, bne_iff_ne, ne_eq] at hent
          obtain ⟨dst, op, ty, pos, after, guard⟩ := o
          simp only at ho
          subst ho
          cases hbd : fn.body with
          | none => rw [hbd] at hent; simp at hent
          | some c => simp [execOp, resolve, hfe, Deferred.ofValue, invoke, callFunc, hfn, hent.1, hbd]
        · cases hent
      unfold Oper.wp
      rw [hrun, Oper.upon_enter]
      refine (hcalls _ w _ _ hRh (by
        rw [arS_append, (pkArgs_S hpk).1, (pkArgs_S hpk).2, ← repL_length hvals]; rfl)).mono ?_
      rintro e w' ⟨v, owr, Er, rfl, hr, hev, hβ⟩
      simp only
      obtain ⟨E', ow', s1, s2, s3⟩ := RE.back r1 hH hB hr hev (fun j hj hc => hβ j hj hc) hT hlt
      rw [put_act]
      refine hK _ _ E' ow' ?_ (put_size _ _ _) (e1.trans s2) (fun x _ => by rw [s3, b1])
      rw [updL_append]
      exact s1
    · cases hin
  · cases hin

theorem stepE_sound {mv : FuncId → Nat → Option TypeId} {ops : Array Oper} {o : Oper} {wr : St} {K : Act → World → Prop} {Q : Exit → Act → World → Prop} (h : StepE P mv ops σ o wr) (hR : RE P E σ tm w ow) (hlt : ∀ d, o.dst = some d → d < tm.size)
    (hK : Then P E (updL σ wr) tm w ow K) : if Region.wanted o (yielded ops tm) then o.wp P ⟨tm, []⟩ w K Q else K ((⟨tm, []⟩ : Act).put o.dst Go.undef) w := by
  rcases h.run with ⟨e, h1, h2, rfl⟩ | ⟨h2, rfl⟩ | ⟨fx, args, ts, g, f, a, b, In, w0, lk, as', Ret, wr', h1, h2, h3, h4, h5, h6, h7, rfl⟩ | ⟨e, h1, h2, h3, rfl⟩
  · exact stepA_sound h1 h2 hR hlt hK
  · rw [guard_wanted hR h2, put_act]
    simp only [Option.getD_some, Bool.false_eq_true, if_false]
    cases hd : o.dst with
    | none =>
      refine hK _ _ E ow ?_ (put_size _ _ _) (Evo.refl _ _) (fun _ _ => rfl)
      rw [hd]
      exact hR
    | some d =>
      refine hK _ _ E ow ?_ (put_size _ _ _) (Evo.refl _ _) (fun _ _ => rfl)
      have := RE.skip (a := .pv (.bool false)) hR hlt d hd
      rw [hd] at this ⊢
      exact this
  · rw [guard_wanted hR h2, put_act]
    have hmem : ∀ t, o.dst = some t → ∃ v, (Key.S t, v) ∈ wr' ++ w0 := fun t ht => by
      obtain ⟨v, hv⟩ := (back_of h7).1.mem t ht
      exact ⟨v, List.mem_append_left _ hv⟩
    cases g with
    | none =>
      simp only [Option.getD_none, if_true]
      exact call_sound h1 h3 h4 h5 (h6 rfl) h7 hR hlt hK
    | some c =>
      simp only [Option.getD_some] at h4 h6 ⊢
      cases c with
      | true =>
        simp only [if_true]
        refine call_sound h1 h3 h4 h5 (h6 rfl) h7 hR hlt ?_
        intro tm' w' E' ow' r1 r2 r3 r4
        refine hK tm' w' E' ow' ?_ r2 r3 r4
        have key : ∀ k, (∀ t, o.dst = some t → k ≠ .S t) → updL σ (gwrap σ o.dst (some true) (wr' ++ w0)) k = updL σ (wr' ++ w0) k := fun k hk => by
          simp only [gwrap]
          rw [gw_other hk]; simp
        refine RE.slots r1 (fun k hk => key k fun t _ => hk t) (fun t => ?_) (fun t => ?_)
        · by_cases ht : o.dst = some t
          · simp only [gwrap, ht]
            rw [gw_dst _ (hmem t ht)]; rfl
          · rw [key _ (fun t' h' e => ht (by cases e; exact h'))]
            exact r1.sk t
        · have hs := r1.slot t
          by_cases ht : o.dst = some t
          · simp only [gwrap, ht]
            rw [gw_dst _ (hmem t ht)]
            simp only [KV.slot, AV.rep]
            exact ⟨fun _ => hs, fun h => by cases h⟩
          · rw [key _ (fun t' h' e => ht (by cases e; exact h'))]
            exact hs
      | false =>
        simp only [Bool.false_eq_true, if_false]
        refine hK _ _ E ow ?_ (put_size _ _ _) (Evo.refl _ _) (fun _ _ => rfl)
        have key : ∀ k, (∀ t, o.dst = some t → k ≠ .S t) → updL σ (gwrap σ o.dst (some false) (wr' ++ w0)) k = σ k := fun k hk => by
          simp only [gwrap]
          rw [gw_other hk]; simp
        have hput : ∀ t, (Pw.put tm o.dst Go.undef).getD t Go.undef = if o.dst = some t then Go.undef else tm.getD t Go.undef := by
          intro t
          cases hd : o.dst with
          | none => simp [Pw.put]
          | some d =>
            simp only [Pw.put]
            rw [getD_set (hlt d hd)]
            by_cases h : d = t <;> simp [h]
        refine RE.slots hR (fun k hk => key k fun t _ => hk t) (fun t => ?_) (fun t => ?_)
        · by_cases ht : o.dst = some t
          · simp only [gwrap, ht]
            rw [gw_dst _ (hmem t ht)]; rfl
          · rw [key _ (fun t' h' e => ht (by cases e; exact h'))]
            exact hR.sk t
        · rw [hput]
          by_cases ht : o.dst = some t
          · rw [if_pos ht]
            simp only [gwrap, ht]
            rw [gw_dst _ (hmem t ht)]
            simp [KV.slot, AV.rep]
          · rw [if_neg ht, key _ (fun t' h' e => ht (by cases e; exact h'))]
            exact hR.slot t
  · rw [guard_wanted hR h1]
    simp only [Option.getD_some, if_true]
    have := stepA_sound (Q := Q) (K := K) h2 h3 hR hlt hK
    rw [if_pos (by simp [Region.wanted, bare])] at this
    exact this

end
end Go.Pw
