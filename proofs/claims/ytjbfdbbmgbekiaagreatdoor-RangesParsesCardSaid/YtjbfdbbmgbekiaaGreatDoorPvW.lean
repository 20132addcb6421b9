/- A function's contract out of its body. -/
import Derived.Test.YtjbfdbbmgbekiaaGreatDoorPvV
namespace Go.Pw
variable [Mode]
set_option linter.unusedSimpArgs false
set_option linter.unusedVariables false
set_option linter.unusedSectionVars false

theorem Key.q_PP {a b c d : Key} : (((a, b) : Key × Key) == (c, d)) = ((a == c) && (b == d)) := rfl
theorem Key.q_SS {a b : Nat} : ((Key.S a : Key) == Key.S b) = ((a == b)) := by rw [Bool.eq_iff_iff]; simp
theorem Key.q_SB {a b : Nat} : ((Key.S a : Key) == Key.B b) = (false) := by simp
theorem Key.q_SRS {a b b' : Nat} : ((Key.S a : Key) == Key.RS b b') = (false) := by simp
theorem Key.q_SRC {a b b' : Nat} : ((Key.S a : Key) == Key.RC b b') = (false) := by simp
theorem Key.q_BS {a b : Nat} : ((Key.B a : Key) == Key.S b) = (false) := by simp
theorem Key.q_BB {a b : Nat} : ((Key.B a : Key) == Key.B b) = ((a == b)) := by rw [Bool.eq_iff_iff]; simp
theorem Key.q_BRS {a b b' : Nat} : ((Key.B a : Key) == Key.RS b b') = (false) := by simp
theorem Key.q_BRC {a b b' : Nat} : ((Key.B a : Key) == Key.RC b b') = (false) := by simp
theorem Key.q_RSS {a a' b : Nat} : ((Key.RS a a' : Key) == Key.S b) = (false) := by simp
theorem Key.q_RSB {a a' b : Nat} : ((Key.RS a a' : Key) == Key.B b) = (false) := by simp
theorem Key.q_RSRS {a a' b b' : Nat} : ((Key.RS a a' : Key) == Key.RS b b') = ((a == b) && (a' == b')) := by rw [Bool.eq_iff_iff]; simp
theorem Key.q_RSRC {a a' b b' : Nat} : ((Key.RS a a' : Key) == Key.RC b b') = (false) := by simp
theorem Key.q_RCS {a a' b : Nat} : ((Key.RC a a' : Key) == Key.S b) = (false) := by simp
theorem Key.q_RCB {a a' b : Nat} : ((Key.RC a a' : Key) == Key.B b) = (false) := by simp
theorem Key.q_RCRS {a a' b b' : Nat} : ((Key.RC a a' : Key) == Key.RS b b') = (false) := by simp
theorem Key.q_RCRC {a a' b b' : Nat} : ((Key.RC a a' : Key) == Key.RC b b') = ((a == b) && (a' == b')) := by rw [Bool.eq_iff_iff]; simp

section
variable {P : Program} {E : Env} {σ : Look} {tm : Array Value} {w : World} {ow : Ow}

theorem loadB_sound {b st off : Nat} {cs : List AV} {T : TypeId} {a : AV} (hR : RE P E σ tm w ow) (hb : boxAt σ b st = some cs) (ha : partA P T cs off = some a) :
    ∃ v, (loadVar T ⟨E.β b, off, none⟩).run P w = .ok v w ∧ a.rep (view w ow) E σ v := by
  have hb := boxAt_spec hb
  obtain ⟨h1, h2, T', l, h3, h4⟩ := hR.box b st cs hb
  obtain ⟨hlen, hget⟩ := repL_iff.1 h4
  have hcell : ∀ j v, l[off + j]? = some v → w.cell? ⟨E.β b, off + j, none⟩ = some v := by
    intro j v hv
    rw [cell_of_row w _ _ _ _ _ h3]
    simpa using hv
  unfold partA at ha
  split at ha
  · rename_i hagg
    split at ha
    · simp only [Option.some.injEq] at ha
      subst ha
      refine ⟨.agg ⟨(l.drop off).take (P.cellsOf T)⟩, (run_loadVar_cells (P := P) (t := T) ((l.drop off).take (P.cellsOf T)) (hasT_agg hagg) (fun j v hv => ?_)).1 hagg (by simp; omega), ?_⟩
      · rw [List.getElem?_take] at hv
        split at hv
        · rw [List.getElem?_drop] at hv
          exact hcell j v hv
        · cases hv
      · simp only [AV.rep]
        refine ⟨_, rfl, repL_iff.2 ⟨by simp [hlen], fun i a v hx hy => ?_⟩⟩
        rw [List.getElem?_take] at hx hy
        split at hx
        · rename_i hlt'
          rw [if_pos hlt'] at hy
          rw [List.getElem?_drop] at hx hy
          exact hget _ a v hx hy
        · cases hx
    · cases ha
  · rename_i hagg
    split at ha
    · rename_i hh
      have hlt' : off < l.length := by
        have := (List.getElem?_eq_some_iff.1 ha).1
        omega
      refine ⟨l[off], (run_loadVar_cells (P := P) (t := T) [l[off]] hh (fun j v hv => ?_)).2 (by simpa using hagg) _ rfl, hget off a _ ha (List.getElem?_eq_getElem hlt')⟩
      cases j with
      | zero => simp at hv; subst hv; exact hcell 0 _ (by simp)
      | succ j => simp at hv
    · cases ha

def resL (P : Program) (σ : Look) : List ResultVar → Option (List AV)
  | [] => some []
  | r :: l => match resA P σ r, resL P σ l with
    | some a, some as => some (a :: as)
    | _, _ => none

def oneOr : List AV → AV
  | [a] => a
  | as => .tup as

/-- where a function ends -/
def Done (P : Program) (rs : List ResultVar) (Ret : St) (σ : St) : Prop :=
  match resL P (look σ) rs with
  | some as => Fits ((.S 0, .av (oneOr as)) :: noS σ) Ret
  | none => False

def resM (tm : Array Value) : ResultVar → Sem Value
  | .tmp t => pure (tm.getD t undef)
  | .cell a t => do loadVar t (← asAddr (tm.getD a undef))

theorem resA_sound {r : ResultVar} {a : AV} (hR : RE P E σ tm w ow) (h : resA P σ r = some a) : ∃ v, (resM tm r).run P w = .ok v w ∧ a.rep (view w ow) E σ v := by
  cases r with
  | tmp t =>
    simp only [resA, Option.some.injEq] at h
    subst h
    exact ⟨_, rfl, hR.slot t⟩
  | cell c t =>
    simp only [resA] at h
    split at h
    · rename_i b off st he
      split at h
      · rename_i cs hb
        have hs := hR.slot c
        rw [he] at hs
        have hval := ptr_val hs (by rw [boxAt_spec hb]; rfl)
        obtain ⟨v, k1, k2⟩ := loadB_sound hR hb h
        refine ⟨v, ?_, k2⟩
        simp only [resM, hval]
        exact k1
      · cases h
    · cases h

theorem resL_sound : ∀ {rs : List ResultVar} {as : List AV}, RE P E σ tm w ow → resL P σ rs = some as → ∃ vs, (rs.mapM (resM tm)).run P w = .ok vs w ∧ AV.repL (view w ow) E σ as vs
  | [], as, hR, h => by
    simp only [resL, Option.some.injEq] at h
    subst h
    exact ⟨[], rfl, by simp [AV.repL]⟩
  | r :: rs, as, hR, h => by
    simp only [resL] at h
    split at h
    · rename_i a as' ha has
      simp only [Option.some.injEq] at h
      subst h
      obtain ⟨v, h1, h2⟩ := resA_sound hR ha
      obtain ⟨vs, k1, k2⟩ := resL_sound hR has
      refine ⟨v :: vs, ?_, by simp only [AV.repL]; exact ⟨v, vs, rfl, h2, k2⟩⟩
      simp only [List.mapM_cons]
      simp [h1, k1]
    · cases h

theorem results_sound {fn : Func} {as : List AV} (hR : RE P E σ tm w ow) (h : resL P σ fn.results.toList = some as) : ∃ v, (results fn tm).run P w = .ok v w ∧ (oneOr as).rep (view w ow) E σ v := by
  obtain ⟨vs, h1, h2⟩ := resL_sound hR h
  have hm : (fn.results.mapM (resM tm)).run P w = .ok vs.toArray w := by
    rw [Array.mapM_eq_mapM_toList]
    simp [h1]
  have hres : results fn tm = (do
      let vs ← fn.results.mapM (resM tm)
      pure (if h : vs.size = 1 then vs[0] else .tuple vs)) := by
    unfold results
    rfl
  rw [hres]
  simp only [Sem.run_bind, hm]
  refine ⟨_, rfl, ?_⟩
  match as, vs, h2 with
  | [], vs, h2 => simp [AV.repL] at h2; subst h2; simp [oneOr, AV.rep, AV.repL]
  | [a], vs, h2 =>
    simp only [AV.repL] at h2
    obtain ⟨v, vs', rfl, q, rfl⟩ := h2
    simpa [oneOr] using q
  | a :: b :: l, vs, h2 =>
    have hl := (repL_iff.1 h2).1
    have : ¬ vs.toArray.size = 1 := by simp at hl ⊢; omega
    rw [dif_neg this]
    simp only [oneOr, AV.rep]
    exact ⟨vs, rfl, h2⟩

theorem RE.one {v : Value} {a : AV} {s : St} (hR : RE P E (look s) tm w ow) (ha : a.rep (view w ow) E (look s) v) : RE P E (look ((.S 0, .av a) :: noS s)) #[v] w ow := by
  have hl : ∀ k, (∀ t, k ≠ .S t) → look ((.S 0, .av a) :: noS s) k = look s k := by
    intro k hk
    rw [look_cons, if_neg (fun e => hk 0 e.symm), look_noS]
    cases k with
    | S t => exact absurd rfl (hk t)
    | _ => rfl
  have hs : ∀ t, look ((.S 0, .av a) :: noS s) (.S t) = if t = 0 then .av a else .none := by
    intro t
    rw [look_cons, look_noS]
    by_cases h : t = 0
    · subst h; simp
    · simp [h, Ne.symm h]
  refine RE.slots hR hl (fun t => ?_) (fun t => ?_)
  · rw [hs]; split <;> rfl
  · rw [hs]
    split
    · rename_i h; subst h; exact ha
    · simp [KV.slot, AV.rep]

theorem PCalls.of {f : FuncId} {fn : Func} {c : Code} {In Ret : St} (hf : P.funcs[f]? = some fn) (hn : (fn.name != "runtime.NumGoroutine") = true) (hb : fn.body = some c)
    (h : PWp P fn.ntmps c (fun e s => (e = .normal ∨ e = .ret) ∧ Done P fn.results.toList Ret s) In) : PCalls P f In Ret := by
  refine ⟨by simp only [entT, hf]; simp [hn, hb], fun vals w ow E hR _ => calls_of_wp hf hb ?_⟩
  have hR' : RE P E (look In) (vals ++ Array.replicate (fn.ntmps - vals.size) undef) w ow := by
    refine RE.slots hR (fun _ _ => rfl) hR.sk (fun t => ?_)
    have := hR.slot t
    have e : (vals ++ Array.replicate (fn.ntmps - vals.size) undef).getD t Go.undef = vals.getD t Go.undef := by
      simp only [Array.getD_eq_getD_getElem?, Array.getElem?_append]
      split
      · rfl
      · rename_i hlt
        rw [Array.getElem?_eq_none (by omega : vals.size ≤ t), Array.getElem?_replicate]
        split <;> rfl
    rw [e]
    exact this
  refine Code.wp_mono ?_ (h _ w ow E (by simp; omega) hR')
  rintro e a w' ⟨s, ow', E', ⟨he, hd⟩, r1, r2, r3, r4, r5⟩
  unfold Done at hd
  split at hd
  · rename_i as has
    obtain ⟨v, hv1, hv2⟩ := results_sound r1 has
    obtain ⟨E2, ow2, s1, s2, s3⟩ := fits_sound hd (RE.one r1 hv2)
    have : a.defers = [] ∧ ∃ v, (results fn a.tmps).run P w' = .ok v w' ∧ ∃ v' ow' E', Ending.returned v = .returned v' ∧ RE P E' (look Ret) #[v'] w' ow' ∧ Evo w ow w' ow' ∧ ∀ j, j < 1000 → (∃ st cs, look In (.B j) = .bx st cs) → E'.β j = E.β j :=
      ⟨r3, v, hv1, v, ow2, E2, rfl, s1, r4.trans s2, fun j hj _ => (congrFun s3 j).trans (r5 j hj)⟩
    rcases he with rfl | rfl <;> exact this
  · exact hd.elim

theorem PCalls.of_k {f : FuncId} {fn : Func} {c : Code} {In Ret : St} (hf : P.funcs[f]? = some fn) (hn : (fn.name != "runtime.NumGoroutine") = true) (hb : fn.body = some c)
    (h : ∀ Q : Exit → St → Prop, (∀ s, Done P fn.results.toList Ret s → Q .normal s) → (∀ s, Done P fn.results.toList Ret s → Q .ret s) → PWp P fn.ntmps c Q In) : PCalls P f In Ret :=
  PCalls.of hf hn hb (h _ (fun _ h => ⟨.inl rfl, h⟩) (fun _ h => ⟨.inr rfl, h⟩))

variable {n : Nat} {Q : Exit → St → Prop} {s0 : St}

theorem PWp.block_k {id : Nat} {c : Code} {K : St → Prop} (h : ∀ Q' : Exit → St → Prop, (∀ s, K s → Q' .normal s) → (∀ s, K s → Q' (.exit id) s) → (∀ s, Q .ret s → Q' .ret s) →
    (∀ i s, i ≠ id → Q (.exit i) s → Q' (.exit i) s) → PWp P n c Q' s0) : PWp P n (.block id c) (thenQ K Q) s0 := by
  refine PWp.block (h _ (fun s h => ?_) (fun s h => ?_) (fun s h => ?_) (fun i s hi h => ?_))
  · exact h
  · simp only [blockQ, if_true]; exact h
  · exact h
  · simp only [blockQ]; rw [if_neg hi]; exact h

/-- the same, where the block stands last -/
theorem PWp.block_l {id : Nat} {c : Code} (h : ∀ Q' : Exit → St → Prop, (∀ s, Q .normal s → Q' .normal s) → (∀ s, Q .normal s → Q' (.exit id) s) → (∀ s, Q .ret s → Q' .ret s) →
    (∀ i s, i ≠ id → Q (.exit i) s → Q' (.exit i) s) → PWp P n c Q' s0) : PWp P n (.block id c) Q s0 := by
  refine PWp.block (h _ (fun s h => ?_) (fun s h => ?_) (fun s h => ?_) (fun i s hi h => ?_))
  · exact h
  · simp only [blockQ, if_true]; exact h
  · exact h
  · simp only [blockQ]; rw [if_neg hi]; exact h

/-- only the slots that are named are kept -/
def dedN : List Key → St → St
  | _, [] => []
  | seen, (k, v) :: l => match k with
    | .S _ => dedN seen l
    | k => if seen.contains k then dedN seen l else (k, v) :: dedN (k :: seen) l

def keepS (ks : List Nat) (σ : St) : St := (ks.map fun t => (Key.S t, look σ (.S t))) ++ dedN [] σ

theorem look_dedN : ∀ (l : St) (seen : List Key) (k : Key), (∀ t, k ≠ .S t) → seen.contains k = false → look (dedN seen l) k = look l k
  | [], seen, k, hk, hs => rfl
  | (k', v) :: l, seen, k, hk, hs => by
    unfold dedN
    split
    · rw [look_dedN l seen k hk hs, look_cons, if_neg (fun e => hk _ e.symm)]
    · split
      · rename_i hc
        rw [look_dedN l seen k hk hs, look_cons, if_neg]
        intro e
        rw [e, hs] at hc
        cases hc
      · rw [look_cons, look_cons]
        by_cases e : k' = k
        · rw [if_pos e, if_pos e]
        · rw [if_neg e, if_neg e]
          exact look_dedN l _ k hk (by rw [List.contains_cons, hs, Bool.or_false]; simpa using fun h => e h.symm)

theorem look_dedN_S : ∀ (l : St) (seen : List Key) (t : Nat), look (dedN seen l) (.S t) = .none
  | [], seen, t => rfl
  | (k', v) :: l, seen, t => by
    unfold dedN
    split
    · exact look_dedN_S l seen t
    · rename_i h
      split
      · exact look_dedN_S l seen t
      · rw [look_cons, if_neg (h t)]
        exact look_dedN_S l _ t

theorem look_keepS (ks : List Nat) (l : St) (k : Key) : look (keepS ks l) k = look l k ∨ ((∃ t, k = .S t) ∧ look (keepS ks l) k = .none) := by
  unfold keepS
  induction ks with
  | nil =>
    simp only [List.map_nil, List.nil_append]
    by_cases h : ∃ t, k = .S t
    · obtain ⟨t, rfl⟩ := h
      exact .inr ⟨⟨t, rfl⟩, look_dedN_S _ _ _⟩
    · exact .inl (look_dedN l [] k (fun t e => h ⟨t, e⟩) rfl)
  | cons t ks ih =>
    simp only [List.map_cons, List.cons_append, look_cons]
    split
    · rename_i e
      rw [e]
      exact .inl rfl
    · exact ih

theorem RE.keep {ks : List Nat} {l : St} (hR : RE P E (look l) tm w ow) : RE P E (look (keepS ks l)) tm w ow := by
  refine RE.slots hR (fun k hk => ?_) (fun t => ?_) (fun t => ?_)
  · rcases look_keepS ks l k with h | ⟨⟨t, e⟩, _⟩
    · exact h
    · exact absurd e (hk t)
  · rcases look_keepS ks l (.S t) with h | ⟨_, h⟩ <;> rw [h]
    · exact hR.sk t
    · rfl
  · rcases look_keepS ks l (.S t) with h | ⟨_, h⟩ <;> rw [h]
    · exact hR.slot t
    · simp [KV.slot, AV.rep]

theorem PWp.keep (ks : List Nat) {c : Code} {s : St} (h : PWp P n c Q (keepS ks s)) : PWp P n c Q s :=
  fun tm w ow E hn hR => h tm w ow E hn (RE.keep hR)

theorem runOps_mono {orc : Orc} {mv : FuncId → Nat → Option TypeId} {ops : Array Oper} {K K' : St → Prop} (h : ∀ s, K s → K' s) : ∀ {l : List Oper} {s : St}, runOps P orc mv ops l s K → runOps P orc mv ops l s K'
  | [], s, hr => h s hr
  | o :: l, s, hr => by
    unfold runOps at hr ⊢
    split at hr
    · exact ⟨hr.1, runOps_mono h hr.2⟩
    · exact hr.elim

/-- a region that stands first in a sequence; of the slots only those named are kept -/
theorem PWp.seq_rg (ks : List Nat) {orc : Orc} (hO : OrcOk P orc) {mv : FuncId → Nat → Option TypeId} {id : Nat} {ops : List Oper} {y : Code} {s : St} (hd : dstOk n ops = true)
    (h : ∀ K : St → Prop, (∀ s, PWp P n y Q s → K s) → runOps P orc mv ops.toArray ops s (fun s => K (keepS ks s))) : PWp P n (.seq (.region id ops.toArray false) y) Q s :=
  PWp.seq (PWp.region hO hd (runOps_mono (fun s hs => PWp.keep ks hs) (h (fun s => PWp P n y Q s) fun s hs => hs)))

/-- a region that stands last -/
theorem PWp.rg (ks : List Nat) {orc : Orc} (hO : OrcOk P orc) {mv : FuncId → Nat → Option TypeId} {id : Nat} {ops : List Oper} {s : St} (hd : dstOk n ops = true)
    (h : runOps P orc mv ops.toArray ops s (fun s => Q .normal (keepS ks s))) : PWp P n (.region id ops.toArray false) Q s := by
  intro tm w ow E hn hR
  refine wp_region_lit (run_seq hO h hR (dstOk_le hd hn) fun s' hk tm2 w2 E2 ow2 s1 s2 s3 s4 => ?_)
  exact ⟨_, ow2, E2, hk, RE.keep s1, s2, rfl, s3, s4⟩

theorem PWp.loop_k {ι : Type} {c : Code} (St_ : ι → St) (I : ι → Prop) (m : ι → Nat) (i0 : ι) (h0 : I i0) (hs : Fits s0 (St_ i0))
    (round : ∀ i, I i → ∀ J : St → Prop, (∀ s j, I j → m j < m i → Fits s (St_ j) → J s) → PWp P n c (thenQ J Q) (St_ i)) : PWp P n (.loop c) Q s0 :=
  PWp.loopF St_ I m i0 h0 hs fun i hi => round i hi _ fun s j h1 h2 h3 => ⟨j, h1, h2, h3⟩

end
end Go.Pw
