/- Runs in which everything is known: control and calls. -/
import Derived.Test.YtjbfdbbmgbekiaaGreatDoorPvCc
namespace Go.Pw
variable [Mode]
set_option linter.unusedSimpArgs false
set_option linter.unusedVariables false
set_option linter.unusedSectionVars false
/-- what a call returns, by parts -/
def tgtV (σ : Look) (c : Nat) : AV → AV × St
  | .rf k st => match rowAt σ k st with
    | some (true, e, xs) => (.rf (.RS 0 c) 0, [(.RS 0 c, .rw 0 true e xs)])
    | some (false, _, xs) => (.pv (.sl xs), [])
    | none => (.undef, [])
  | .agg cs => match fzCells σ cs with
    | some (ps, _) => (.agg (ps.map .pv), [])
    | none => (.undef, [])
  | .ptr j off _ => (.ptr j off 0, [])
  | a => (a, [])
def tgtL (σ : Look) : Nat → List AV → List AV × St
  | _, [] => ([], [])
  | c, a :: as => match tgtV σ c a, tgtL σ (c + 1) as with
    | (x, l), (xs, ls) => (x :: xs, l ++ ls)
def tgtC (σ : Look) (j : Nat) : Nat → List AV → List AV × St
  | _, [] => ([], [])
  | c, a :: as => match (match a with
      | .rf k st => match rowAt σ k st with
        | some (true, e, xs) => (AV.rf (.RC j c) 0, [(Key.RC j c, KV.rw 0 true e xs)])
        | some (false, _, xs) => (.pv (.sl xs), [])
        | none => (.undef, [])
      | .ptr j off _ => (.ptr j off 0, [])
      | a => (a, [])), tgtC σ j (c + 1) as with
    | (x, l), (xs, ls) => (x :: xs, l ++ ls)
def tgtBs (σ : Look) : St → St
  | [] => []
  | (.B j, .bx _ _) :: l => (match σ (.B j) with
    | .bx _ cs => match tgtC σ j 0 cs with
      | (cs', en) => (.B j, .bx 0 cs') :: en
    | _ => []) ++ tgtBs σ l
  | _ :: l => tgtBs σ l
def tgt (σ : Look) (In : St) (as : List AV) : St :=
  (match as with
  | [a] => (match tgtV σ 0 a with
    | (x, l) => (.S 0, .av x) :: l)
  | as => (match tgtL σ 0 as with
    | (xs, l) => (.S 0, .av (.tup xs)) :: l)) ++ tgtBs σ In
def exB : Exit → Bool
  | .normal | .ret => true
  | _ => false
def callX (P : Program) (run : Nat → Code → St → Option (Exit × St)) (f : FuncId) (In : St) : Option St :=
  match P.funcs[f]? with
  | some fn => match fn.body with
    | some c => match run fn.ntmps c In with
      | some (e, s) => match exB e, resL P (lookB s) fn.results.toList with
        | true, some as => let T := tgt (lookB s) In as
          if fitsB ((.S 0, .av (oneOr as)) :: noS s) T then some T else none
        | _, _ => none
      | none => none
    | none => none
  | none => none
def orcX (base : FuncId → St → Option St) (rec : FuncId → St → Option St) (f : FuncId) (In : St) : Option St :=
  match base f In with
  | some R => some R
  | none => rec f In
def exec (P : Program) (base : FuncId → St → Option St) (rf : RowF) (mv : FuncId → Nat → Option TypeId) : Nat → Nat → Code → St → Option (Exit × St)
  | 0, _, _, _ => none
  | k + 1, n, c, σ => match c with
    | .skip => some (.normal, σ)
    | .label _ => some (.normal, σ)
    | .ret => some (.ret, σ)
    | .exit i => some (.exit i, σ)
    | .region id ops drawn => if dstOk n ops.toList then (if drawn then (match runX P (orcX base (callX P (exec P base rf mv k))) mv ops ops.toList σ with
      | some (σ', fk) => if drawOk ops.toList fk then some (.normal, σ') else none
      | none => none) else (match runN P (orcX base (callX P (exec P base rf mv k))) rf mv ops ops.toList σ with
      | some σ' => some (.normal, σ')
      | none => none)) else none
    | .seq a b => match exec P base rf mv k n a σ with
      | some (.normal, σ') => exec P base rf mv k n b σ'
      | r => r
    | .cond c a b => match evA (lookB σ) c with
      | .pv (.bool true) => exec P base rf mv k n a σ
      | .pv (.bool false) => exec P base rf mv k n b σ
      | _ => none
    | .loop b => match exec P base rf mv k n b σ with
      | some (.normal, σ') => exec P base rf mv k n (.loop b) σ'
      | r => r
    | .block id b => match exec P base rf mv k n b σ with
      | some (.exit i, σ') => if i = id then some (.normal, σ') else some (.exit i, σ')
      | r => r
    | _ => none
def callF (P : Program) (base : FuncId → St → Option St) (rf : RowF) (mv : FuncId → Nat → Option TypeId) (k : Nat) (f : FuncId) (In : St) : Option St := callX P (exec P base rf mv k) f In

section
variable {P : Program} {mv : FuncId → Nat → Option TypeId} {base : FuncId → St → Option St} {rf : RowF} {n : Nat} {Q : Exit → St → Prop} {σ : St}
theorem PWp.loopL {ι : Type} {c : Code} (St_ : ι → St) (I : ι → Prop) (m : ι → Nat) (i0 : ι) (h0 : I i0)
    (round : ∀ i, I i → PWp P n c (thenQ (fun σ' => ∃ j, I j ∧ m j < m i ∧ look σ' = look (St_ j)) Q) (St_ i)) (hs : σ = St_ i0) : PWp P n (.loop c) Q σ := by
  subst hs
  intro tm w ow E hn hR
  refine wp_loop_ghost (fun k a w' => ∃ i E' ow', I i ∧ m i = k ∧ RE P E' (look (St_ i)) a.tmps w' ow' ∧ a.tmps.size = tm.size ∧ a.defers = [] ∧ Evo w ow w' ow' ∧ ∀ b, b < 1000 → E'.β b = E.β b) (m i0)
    ⟨i0, E, ow, h0, rfl, hR, rfl, rfl, Evo.refl _ _, fun _ _ => rfl⟩ ?_
  rintro k a w1 ⟨i, E1, ow1, hi, hm, r1, r2, r3, r4, r5⟩
  rw [act_eta r3]
  refine Code.wp_mono ?_ (round i hi a.tmps w1 ow1 E1 (by omega) r1)
  rintro e a2 w2 ⟨σ2, ow2, E2, q, s1, s2, s3, s4, s5⟩
  cases e with
  | normal =>
    obtain ⟨j, hj, hlt, he⟩ := q
    rw [he] at s1
    exact ⟨m j, by omega, j, E2, ow2, hj, rfl, s1, s2.trans r2, s3, r4.trans s4, fun b hb => (s5 b hb).trans (r5 b hb)⟩
  | _ => exact ⟨σ2, ow2, E2, q, s1, s2.trans r2, s3, r4.trans s4, fun b hb => (s5 b hb).trans (r5 b hb)⟩

def Names (P : Program) : Prop := ∀ (f : FuncId) (fn : Func), P.funcs[f]? = some fn → (fn.name != "runtime.NumGoroutine") = true
/-- what the runner gives of a piece of code -/
def Ran (P : Program) (n : Nat) (c : Code) (σ : St) (e : Exit) (σ' : St) : Prop := PWp P n c (fun e' s => e' = e ∧ look s = look σ') σ
def RunOk (P : Program) (run : Nat → Code → St → Option (Exit × St)) : Prop := ∀ n c σ e σ', run n c σ = some (e, σ') → Ran P n c σ e σ'
theorem look_cons_noS {s s' : St} {v : KV} (h : look s = look s') : look ((.S 0, v) :: noS s) = look ((.S 0, v) :: noS s') := by
  funext k
  simp only [look_cons, look_noS]
  split
  · rfl
  · cases k <;> simp [h]
theorem Fits.of_look {s s' T : St} (h : look s = look s') (hf : Fits s T) : Fits s' T := by
  unfold Fits at hf ⊢
  rw [← h]; exact hf
theorem callX_spec (hN : Names P) {run : Nat → Code → St → Option (Exit × St)} (hr : RunOk P run) : OrcB P (callX P run) := by
  intro f In Ret h
  unfold callX at h
  split at h
  · rename_i fn hf
    split at h
    · rename_i c hc
      split at h
      · rename_i e s hx
        rw [lookB_eq] at h
        split at h
        · rename_i as he ha
          simp only at h
          split at h
          · rename_i hfit
            cases h
            refine PCalls.of hf (hN _ _ hf) hc ((hr _ _ _ _ _ hx).mono ?_)
            rintro e' s' ⟨rfl, hl⟩
            refine ⟨?_, ?_⟩
            · cases e' <;> simp [exB] at he
              · exact .inl rfl
              · exact .inr rfl
            · unfold Done
              rw [hl, ha]
              exact (fitsB_spec hfit).of_look (look_cons_noS hl.symm)
          · cases h
        · cases h
      · cases h
    · cases h
  · cases h
theorem orcX_ok {rec : FuncId → St → Option St} (hB : OrcB P base) (hr : OrcB P rec) : OrcB P (orcX base rec) := by
  intro f In Ret h
  unfold orcX at h
  split at h
  · rename_i R hb
    cases h
    exact hB _ _ _ hb
  · exact hr _ _ _ h
theorem exec_spec (hN : Names P) (hm : P.follows .mixedOrders = true) (hB : OrcB P base) (hF : RowFOk P rf) : ∀ k, RunOk P (exec P base rf mv k) := by
  intro k
  induction k using Nat.strongRecOn with
  | _ k ih =>
    intro n c σ e σ' h
    cases k with
    | zero => simp [exec] at h
    | succ k =>
      have ihk := ih k (by omega)
      unfold exec at h
      split at h
      · cases h; exact PWp.skip ⟨rfl, rfl⟩
      · cases h; exact PWp.label ⟨rfl, rfl⟩
      · cases h; exact PWp.ret ⟨rfl, rfl⟩
      · cases h; exact PWp.exit ⟨rfl, rfl⟩
      · rename_i id ops drawn
        split at h
        · rename_i hd
          have hO := orcX_ok hB (callX_spec hN ihk)
          cases drawn with
          | true =>
            rw [if_pos rfl] at h
            split at h
            · rename_i σ1 fk hx
              split at h
              · rename_i hok
                cases h
                exact runX_drawn hm hO hd hx hok
              · cases h
            · cases h
          | false =>
            rw [if_neg (by simp)] at h
            split at h
            · rename_i σ1 hx
              cases h
              exact runN_region hO hF hd hx
            · cases h
        · cases h
      · rename_i a b
        refine PWp.seq ?_
        split at h
        · rename_i σ1 ha
          refine (ihk _ _ _ _ _ ha).mono ?_
          rintro e1 s1 ⟨rfl, hl⟩
          exact (ihk _ _ _ _ _ h).of_look hl.symm
        · rename_i hne
          refine (ihk _ _ _ _ _ h).mono ?_
          rintro e1 s1 ⟨rfl, hl⟩
          cases e1 with
          | normal => exact absurd h (hne _)
          | _ => exact ⟨rfl, hl⟩
      · rename_i c a b
        rw [lookB_eq] at h
        split at h
        · rename_i hc; exact PWp.cond hc (fun _ => ihk _ _ _ _ _ h) (fun hf => by cases hf)
        · rename_i hc; exact PWp.cond hc (fun hf => by cases hf) (fun _ => ihk _ _ _ _ _ h)
        · cases h
      · rename_i b
        have h0 : exec P base rf mv (k + 1) n (.loop b) σ = some (e, σ') := by rw [exec]; exact h
        refine PWp.loopL (ι := Nat × St) (fun i => i.2) (fun i => i.1 ≤ k + 1 ∧ exec P base rf mv i.1 n (.loop b) i.2 = some (e, σ')) (fun i => i.1) (k + 1, σ) ⟨Nat.le_refl _, h0⟩ ?_ rfl
        rintro ⟨m, s⟩ ⟨hm1, hm2⟩
        cases m with
        | zero => simp [exec] at hm2
        | succ m =>
          have ihm := ih m (by simp at hm1; omega)
          rw [exec] at hm2
          split at hm2
          · rename_i s1 hb
            refine (ihm _ _ _ _ _ hb).mono ?_
            rintro e1 s2 ⟨rfl, hl⟩
            exact ⟨(m, s1), ⟨by simp at hm1 ⊢; omega, hm2⟩, by simp, hl⟩
          · rename_i hne
            refine (ihm _ _ _ _ _ hm2).mono ?_
            rintro e1 s2 ⟨rfl, hl⟩
            cases e1 with
            | normal => exact absurd hm2 (hne _)
            | _ => exact ⟨rfl, hl⟩
      · rename_i id b
        refine PWp.block ?_
        split at h
        · rename_i i σ1 hb
          refine (ihk _ _ _ _ _ hb).mono ?_
          rintro e1 s1 ⟨rfl, hl⟩
          simp only [blockQ]
          split at h
          · rename_i hi; cases h; rw [if_pos hi]; exact ⟨rfl, hl⟩
          · rename_i hi; cases h; rw [if_neg hi]; exact ⟨rfl, hl⟩
        · rename_i hne
          refine (ihk _ _ _ _ _ h).mono ?_
          rintro e1 s1 ⟨rfl, hl⟩
          cases e1 with
          | exit i => exact absurd h (hne _ _)
          | _ => exact ⟨rfl, hl⟩
      · cases h
/-- What a run gives is a contract. -/
theorem callF_spec (hN : Names P) (hm : P.follows .mixedOrders = true) (hB : OrcB P base) (hF : RowFOk P rf) (k : Nat) : OrcB P (callF P base rf mv k) := callX_spec hN (exec_spec hN hm hB hF k)
end
end Go.Pw
