/- Runs in which everything is known: the runner, and that what it gives is so. -/
import Derived.Test.YtgnedmmecmpnpaaGreatDoorPuCr
import Derived.Test.YtgnedmmecmpnpaaGreatDoorPwMVW
namespace Go.Pw
variable [Mode]
set_option linter.unusedSimpArgs false
set_option linter.unusedVariables false
set_option linter.unusedSectionVars false
def keq : Key → Key → Bool
  | .S a, .S b => Nat.beq a b
  | .B a, .B b => Nat.beq a b
  | .RS a b, .RS c d => Nat.beq a c && Nat.beq b d
  | .RC a b, .RC c d => Nat.beq a c && Nat.beq b d
  | _, _ => false
theorem keq_iff {a b : Key} : keq a b = true ↔ a = b := by
  cases a <;> cases b <;> simp [keq]
def lookB : St → Look
  | [], _ => .none
  | (k, v) :: l, k' => cond (keq k k') v (lookB l k')
theorem lookB_eq : ∀ (l : St), lookB l = look l
  | [] => rfl
  | (k, v) :: l => by
    funext k'
    simp only [lookB, look, lookB_eq l]
    by_cases h : k = k'
    · rw [if_pos h, keq_iff.2 h]; rfl
    · rw [if_neg h, Bool.eq_false_iff.2 (fun e => h (keq_iff.1 e))]; rfl
def ins (k : Key) (v : KV) : St → St
  | [] => [(k, v)]
  | (k', v') :: l => cond (keq k' k) ((k, v) :: l) ((k', v') :: ins k v l)
theorem look_ins {k : Key} {v : KV} : ∀ (l : St) (k' : Key), look (ins k v l) k' = if k = k' then v else look l k'
  | [], k' => by simp [ins, look]
  | (a, b) :: l, k' => by
    unfold ins
    by_cases h : a = k
    · subst h
      rw [keq_iff.2 rfl]
      simp only [cond_true, look]
      split <;> rfl
    · rw [Bool.eq_false_iff.2 (fun e => h (keq_iff.1 e))]
      simp only [cond_false, look, look_ins l k']
      by_cases h1 : a = k'
      · subst h1; rw [if_pos rfl, if_pos rfl, if_neg (Ne.symm h)]
      · rw [if_neg h1, if_neg h1]
def insAll : St → St → St
  | [], σ => σ
  | (k, v) :: l, σ => ins k v (insAll l σ)
theorem look_insAll : ∀ (wr σ : St), look (insAll wr σ) = updL (look σ) wr
  | [], σ => rfl
  | (k, v) :: l, σ => by
    funext k'
    simp only [insAll, look_ins, updL, look_insAll l σ]

def runX (P : Program) (orcb : FuncId → St → Option St) (mv : FuncId → Nat → Option TypeId) (ops : Array Oper) : List Oper → St → Option (St × List (List Key × List Key))
  | [], σ => some (σ, [])
  | o :: l, σ => match stepX P orcb mv ops o (lookB σ) with
    | some wr => match runX P orcb mv ops l (insAll wr σ) with
      | some (σ', fk) => some (σ', (footK ops (lookB σ) o wr, wr.map (·.1)) :: fk)
      | none => none
    | none => none
/-- the same in the text's order; rows that a function turns in place -/
def runN (P : Program) (orcb : FuncId → St → Option St) (rf : RowF) (mv : FuncId → Nat → Option TypeId) (ops : Array Oper) : List Oper → St → Option St
  | [], σ => some σ
  | o :: l, σ => match stepN P orcb rf mv ops o (lookB σ) with
    | some wr => runN P orcb rf mv ops l (insAll wr σ)
    | none => none

section
variable {P : Program} {mv : FuncId → Nat → Option TypeId} {orcb : FuncId → St → Option St}
theorem runX_spec (hO : OrcB P orcb) {ops : Array Oper} : ∀ {l : List Oper} {σ s σ' : St} {fk : List (List Key × List Key)}, look σ = look s → runX P orcb mv ops l σ = some (σ', fk) →
    ∃ ws : List St, ws.length = l.length ∧ look σ' = look (pre s ws l.length) ∧ fk.length = l.length ∧
      ∀ (j : Nat) (o : Oper) (w : St), l[j]? = some o → ws[j]? = some w → StepE P mv ops (look (pre s ws j)) o w ∧ fk[j]? = some (footK ops (look (pre s ws j)) o w, w.map (·.1))
  | [], σ, s, σ', fk, he, h => by
    simp only [runX, Option.some.injEq, Prod.mk.injEq] at h
    obtain ⟨rfl, rfl⟩ := h
    exact ⟨[], rfl, by simpa [pre] using he, rfl, fun j o w hj => by simp at hj⟩
  | o :: l, σ, s, σ', fk, he, h => by
    simp only [runX] at h
    split at h
    · rename_i wr hst
      split at h
      · rename_i σ1 fk1 hr
        simp only [Option.some.injEq, Prod.mk.injEq] at h
        obtain ⟨rfl, rfl⟩ := h
        rw [lookB_eq] at hst
        have hl : look (insAll wr σ) = look (wr ++ s) := by rw [look_insAll, look_append, he]
        obtain ⟨ws, h1, h2, h3, h4⟩ := runX_spec hO hl hr
        refine ⟨wr :: ws, by simp [h1], by simpa [pre] using h2, by simp [h3], fun j o' w' hj hw => ?_⟩
        cases j with
        | zero =>
          simp only [List.getElem?_cons_zero, Option.some.injEq] at hj hw
          subst hj; subst hw
          exact ⟨by rw [he] at hst; simpa [pre] using stepX_spec hO hst, by simp [pre, lookB_eq, he]⟩
        | succ j =>
          simp only [List.getElem?_cons_succ] at hj hw
          have := h4 j o' w' hj hw
          exact ⟨by simpa [pre] using this.1, by simpa [pre] using this.2⟩
      · cases h
    · cases h

variable {E : Env} {tm : Array Value} {w : World} {ow : Ow}
theorem runN_spec (hO : OrcB P orcb) {rf : RowF} (hF : RowFOk P rf) {ops : Array Oper} {Q : Exit → Act → World → Prop} : ∀ {l : List Oper} {σ σ' : St} {E : Env} {tm : Array Value} {w : World} {ow : Ow}, runN P orcb rf mv ops l σ = some σ' →
    RE P E (look σ) tm w ow → dstOk tm.size l = true → Then P E (look σ') tm w ow (fun a w => Q .normal a w) → wpList P ops Q l ⟨tm, []⟩ w
  | [], σ, σ', E, tm, w, ow, h, hR, hd, hK => by
    simp only [runN, Option.some.injEq] at h
    subst h
    exact hK tm w E ow hR rfl (Evo.refl _ _) (fun _ _ => rfl)
  | o :: l, σ, σ', E, tm, w, ow, h, hR, hd, hK => by
    simp only [runN] at h
    split at h
    · rename_i wr hst
      rw [lookB_eq] at hst
      have hdo := dstOk_spec hd o (by simp)
      have hdl : dstOk tm.size l = true := by unfold dstOk at hd ⊢; simp only [List.all_cons, Bool.and_eq_true] at hd; exact hd.2
      have key := stepN_spec hO hF hst (Q := Q) (K := wpList P ops Q l) hR hdo (by
        intro tm' w' E' ow' r1 r2 r3 r4
        rw [← look_insAll] at r1
        refine runN_spec hO hF h r1 (by rw [r2]; exact hdl) (fun tm2 w2 E2 ow2 s1 s2 s3 s4 => ?_)
        exact hK tm2 w2 E2 ow2 s1 (s2.trans r2) (r3.trans s3) (fun b hb => (s4 b hb).trans (r4 b hb)))
      unfold wpList
      split
      · rename_i hw
        rw [if_pos hw] at key
        exact .inl key
      · rename_i hw
        rw [if_neg hw] at key
        exact key
    · cases h

variable {n : Nat} {Q : Exit → St → Prop}
theorem runN_region (hO : OrcB P orcb) {rf : RowF} (hF : RowFOk P rf) {id : Nat} {ops : List Oper} {σ σ' : St} (hd : dstOk n ops = true) (h : runN P orcb rf mv ops.toArray ops σ = some σ') :
    PWp P n (.region id ops.toArray false) (fun e s => e = .normal ∧ look s = look σ') σ := by
  intro tm w ow E hn hR
  refine wp_region_lit (runN_spec hO hF h hR (dstOk_le hd hn) fun tm2 w2 E2 ow2 s1 s2 s3 s4 => ?_)
  exact ⟨_, ow2, E2, ⟨rfl, rfl⟩, s1, s2, rfl, s3, s4⟩
theorem runX_drawn (hm : P.follows .mixedOrders = true) (hO : OrcB P orcb) {id : Nat} {ops : List Oper} {σ σ' : St} {fk : List (List Key × List Key)} (hd : dstOk n ops = true) (h : runX P orcb mv ops.toArray ops σ = some (σ', fk))
    (hok : drawOk ops fk = true) : PWp P n (.region id ops.toArray true) (fun e s => e = .normal ∧ look s = look σ') σ := by
  obtain ⟨ws, h1, h2, h3, h4⟩ := runX_spec hO (rfl : look σ = look σ) h
  intro tm w ow E hn hR
  refine wp_region_any hm ?_
  have hR' : RE P E (look σ) tm { w with drawn := w.drawn + 1 } ow := ⟨hR.sk, hR.bk, hR.slot, hR.box, hR.own, hR.shared, hR.glob.heap rfl⟩
  have hev : Evo w ow { w with drawn := w.drawn + 1 } ow := ⟨rfl, rfl, rfl, Nat.le_refl _, fun _ _ h => ⟨rfl, h⟩, fun _ _ h => ⟨rfl, h⟩, fun _ => Nat.le_succ _⟩
  have hdone : ∀ i, doneOf (Array.replicate ops.toArray.size false) i = false := by
    intro i
    simp only [doneOf, Array.getD_eq_getD_getElem?, Array.getElem?_replicate]
    split <;> rfl
  refine any_sound (E0 := E) (ow0 := ow) (w0 := w) (tm0 := tm) (s := σ) h1 (fun j o w hj hw => h4 j o w hj hw) (dstOk_le hd hn) hok ?_ _ _ _ _ ow E (by simp) (fun j o ho hdj => ?_) ?_ ?_ rfl hev (fun _ _ => rfl)
  · intro tm' w' E' ow' r1 r2 r3 r4
    exact ⟨_, ow', E', ⟨rfl, h2.symm⟩, r1, r2, rfl, r3, r4⟩
  · rw [hdone] at hdj; cases hdj
  · refine Nat.le_trans (List.countP_le_length ..) (by simp)
  · rw [cat_none fun j _ => hdone j]
    exact hR'
theorem PWp.of_look {c : Code} {σ σ' : St} (he : look σ = look σ') (h : PWp P n c Q σ) : PWp P n c Q σ' := by
  intro tm w ow E hn hR
  rw [← he] at hR
  exact h tm w ow E hn hR
end

/-! Values compared. -/
def valB : Value → Value → Bool
  | .pointer none, .pointer none => true
  | .nilFunc, .nilFunc => true
  | .func (.func f) a b, .func (.func g) c d => Nat.beq f g && a.toList.isEmpty && b.toList.isEmpty && c.toList.isEmpty && d.toList.isEmpty
  | .slice none n m, .slice none n' m' => Nat.beq n n' && Nat.beq m m'
  | _, _ => false
theorem valB_spec {a b : Value} (h : valB a b = true) : a = b := by
  unfold valB at h
  split at h
  · rfl
  · rfl
  · simp only [Bool.and_eq_true, Nat.beq_eq, List.isEmpty_iff] at h
    obtain ⟨⟨⟨⟨rfl, h1⟩, h2⟩, h3⟩, h4⟩ := h
    congr 1
    · exact Array.ext' (h1.trans h3.symm)
    · exact Array.ext' (h2.trans h4.symm)
  · simp only [Bool.and_eq_true, Nat.beq_eq] at h
    obtain ⟨rfl, rfl⟩ := h
    rfl
  · cases h
def kindB (a b : IntKind) : Bool := match a, b with
  | .i8, .i8 | .i16, .i16 | .i32, .i32 | .i64, .i64 | .u8, .u8 | .u16, .u16 | .u32, .u32 | .u64, .u64 => true
  | _, _ => false
theorem kindB_spec {a b : IntKind} (h : kindB a b = true) : a = b := by cases a <;> cases b <;> first | rfl | cases h
def intB : Int → Int → Bool
  | .ofNat a, .ofNat b => Nat.beq a b
  | .negSucc a, .negSucc b => Nat.beq a b
  | _, _ => false
theorem intB_spec {a b : Int} (h : intB a b = true) : a = b := by
  cases a <;> cases b <;> simp [intB] at h <;> rw [h]
def strB : List UInt8 → List UInt8 → Bool
  | [], [] => true
  | a :: l, b :: m => Nat.beq a.toNat b.toNat && strB l m
  | _, _ => false
theorem strB_spec : ∀ {l m : List UInt8}, strB l m = true → l = m
  | [], [], _ => rfl
  | [], _ :: _, h => by cases h
  | _ :: _, [], h => by cases h
  | a :: l, b :: m, h => by
    simp only [strB, Bool.and_eq_true, Nat.beq_eq] at h
    rw [strB_spec h.2, UInt8.toNat_inj.1 h.1]
mutual
def PV.b : PV → PV → Bool
  | .bool a, .bool b => a == b
  | .int k n, .int k' n' => kindB k k' && intB n n'
  | .str a, .str b => strB a b
  | .raw a, .raw b => valB a b
  | .pp a, .pp b => PV.bL a b
  | .sl a, .sl b => PV.bLL a b
  | _, _ => false
def PV.bL : List PV → List PV → Bool
  | [], [] => true
  | a :: l, b :: m => PV.b a b && PV.bL l m
  | _, _ => false
def PV.bLL : List (List PV) → List (List PV) → Bool
  | [], [] => true
  | a :: l, b :: m => PV.bL a b && PV.bLL l m
  | _, _ => false
end
mutual
theorem PV.b_spec : ∀ {a b : PV}, PV.b a b = true → a = b := by
  intro a b h
  cases a <;> cases b <;> simp only [PV.b, Bool.and_eq_true, beq_iff_eq, Bool.false_eq_true] at h
  · rw [h]
  · rw [kindB_spec h.1, intB_spec h.2]
  · rw [strB_spec h]
  · rw [valB_spec h]
  · rw [PV.bL_spec h]
  · rw [PV.bLL_spec h]
theorem PV.bL_spec : ∀ {a b : List PV}, PV.bL a b = true → a = b := by
  intro a b h
  cases a <;> cases b <;> simp only [PV.bL, Bool.and_eq_true, Bool.false_eq_true] at h
  · rfl
  · rw [PV.b_spec h.1, PV.bL_spec h.2]
theorem PV.bLL_spec : ∀ {a b : List (List PV)}, PV.bLL a b = true → a = b := by
  intro a b h
  cases a <;> cases b <;> simp only [PV.bLL, Bool.and_eq_true, Bool.false_eq_true] at h
  · rfl
  · rw [PV.bL_spec h.1, PV.bLL_spec h.2]
end
def fnB : Fn → Fn → Bool
  | .func a, .func b => Nat.beq a b
  | _, _ => false
theorem fnB_spec {a b : Fn} (h : fnB a b = true) : a = b := by
  cases a <;> cases b <;> simp [fnB] at h
  rw [h]
def stampB (kv : KV) (s : Nat) : Bool := match kv.stamp with
  | some t => Nat.beq t s
  | none => false
theorem stampB_spec {kv : KV} {s : Nat} (h : stampB kv s = true) : kv.stamp = some s := by
  unfold stampB at h
  split at h
  · rename_i t ht; rw [ht, Nat.eq_of_beq_eq_true h]
  · cases h
def okeq (a : Option Key) (b : Key) : Bool := match a with
  | some a => keq a b
  | none => false
theorem okeq_spec {a : Option Key} {b : Key} (h : okeq a b = true) : a = some b := by
  unfold okeq at h
  split at h
  · rw [keq_iff.1 h]
  · cases h
mutual
def XAb (σ T : Look) (lk : Key → Option Key) : AV → AV → Bool
  | .pv p, .pv p' => PV.b p p'
  | .emp, .emp => true
  | .pv p, .emp => PV.b p (.sl [])
  | .pv p, .rf k st => match σ k with
    | .rw st' false e xs => Nat.beq st' st && PV.b p (.sl xs)
    | _ => false
  | .rf K s', .rf k st => okeq (lk K) k && (match σ k with
    | .rw st' true e xs => Nat.beq st' st
    | _ => false) && stampB (T K) s'
  | .ptr j off s', .ptr d off' st => Nat.beq off off' && okeq (lk (.B j)) (.B d) && stampB (σ (.B d)) st && stampB (T (.B j)) s'
  | .agg cs, .agg cs' => XLb σ T lk cs cs'
  | .tup cs, .tup cs' => XLb σ T lk cs cs'
  | .clo f a b, .clo f' a' b' => fnB f f' && XLb σ T lk a a' && XLb σ T lk b b'
  | .undef, b => !b.isMk
  | _, _ => false
def XLb (σ T : Look) (lk : Key → Option Key) : List AV → List AV → Bool
  | [], [] => true
  | a :: as, b :: bs => XAb σ T lk a b && XLb σ T lk as bs
  | _, _ => false
end
mutual
theorem XAb_spec {σ T : Look} {lk : Key → Option Key} : ∀ {a b : AV}, XAb σ T lk a b = true → XA σ T lk a b := by
  intro a b h
  cases a <;> cases b <;> simp only [XAb, Bool.and_eq_true, Bool.false_eq_true, AV.isMk, Bool.not_true, Bool.not_false] at h <;> simp only [XA, AV.isMk]
  case pv.pv => exact PV.b_spec h
  case pv.emp => exact PV.b_spec h
  case pv.rf =>
    split at h
    · rename_i st' e xs hk
      simp only [Bool.and_eq_true] at h
      obtain rfl := Nat.eq_of_beq_eq_true h.1
      exact ⟨e, xs, PV.b_spec h.2, hk⟩
    · cases h
  case rf.rf =>
    obtain ⟨⟨h1, h2⟩, h3⟩ := h
    refine ⟨okeq_spec h1, ?_, stampB_spec h3⟩
    split at h2
    · rename_i st' e xs hk
      obtain rfl := Nat.eq_of_beq_eq_true h2
      exact ⟨e, xs, hk⟩
    · cases h2
  case ptr.ptr => exact ⟨Nat.eq_of_beq_eq_true h.1.1.1, okeq_spec h.1.1.2, stampB_spec h.1.2, stampB_spec h.2⟩
  case agg.agg => exact XLb_spec h
  case tup.tup => exact XLb_spec h
  case clo.clo => exact ⟨fnB_spec h.1.1, XLb_spec h.1.2, XLb_spec h.2⟩
theorem XLb_spec {σ T : Look} {lk : Key → Option Key} : ∀ {a b : List AV}, XLb σ T lk a b = true → XL σ T lk a b := by
  intro a b h
  cases a <;> cases b <;> simp only [XLb, Bool.and_eq_true, Bool.false_eq_true] at h <;> simp only [XL]
  exact ⟨XAb_spec h.1, XLb_spec h.2⟩
end
def fitEb (σ T : Look) (lk : Lk) : St → Bool
  | [] => true
  | (.S t, .av a') :: l => XAb σ T (lookL lk) a' (σ (.S t)).slot && fitEb σ T lk l
  | (.B j, .bx _ cs') :: l => (match σ (.B j) with
    | .bx _ cs => XLb σ T (lookL lk) cs' cs
    | _ => false) && okeq (lookL lk (.B j)) (.B j) && fitEb σ T lk l
  | (K, .rw _ true e xs) :: l => (match lookL lk K with
    | some k => (match σ k with
      | .rw _ true e' xs' => Nat.beq e e' && PV.bLL xs xs'
      | _ => false)
    | none => false) && isRowKey K && fitEb σ T lk l
  | _ :: _ => false
theorem fitEb_spec {σ T : Look} {lk : Lk} : ∀ {l : St}, fitEb σ T lk l = true → fitE σ T lk l
  | [], _ => trivial
  | (K, kv) :: l, h => by
    cases kv with
    | none => cases K <;> simp [fitEb] at h
    | dead st => cases K <;> simp [fitEb] at h
    | av a =>
      cases K <;> simp only [fitEb, Bool.and_eq_true, Bool.false_eq_true] at h
      exact ⟨XAb_spec h.1, fitEb_spec h.2⟩
    | bx st cs =>
      cases K <;> simp only [fitEb, Bool.and_eq_true, Bool.false_eq_true] at h
      refine ⟨?_, okeq_spec h.1.2, fitEb_spec h.2⟩
      have h1 := h.1.1
      split at h1
      · rename_i st cs hb; simp only [hb]; exact XLb_spec h1
      · cases h1
    | rw st o e xs =>
      cases o
      · cases K <;> simp [fitEb] at h
      · have hx : ∀ K, (match lookL lk K with
            | some k => (match σ k with
              | .rw _ true e' xs' => Nat.beq e e' && PV.bLL xs xs'
              | _ => false)
            | none => false) = true → (match lookL lk K with
            | some k => (match σ k with
              | .rw _ true e' xs' => e = e' ∧ xs = xs'
              | _ => False)
            | none => False) := by
          intro K h3
          cases hk : lookL lk K with
          | none => rw [hk] at h3; cases h3
          | some k =>
            rw [hk] at h3
            cases hw : σ k with
            | rw s2 o2 e2 xs2 =>
              cases o2
              · simp [hw] at h3
              · simp only [hw, Bool.and_eq_true] at h3
                simp only [hw]
                exact ⟨Nat.eq_of_beq_eq_true h3.1, PV.bLL_spec h3.2⟩
            | _ => simp [hw] at h3
        cases K <;> simp only [fitEb, Bool.and_eq_true, Bool.false_eq_true] at h <;> exact ⟨hx _ h.1.1, h.1.2, fitEb_spec h.2⟩
def fitsB (σ T : St) : Bool :=
  match prep (look T) T (look σ) with
  | some wr => let σ1 := updL (look σ) wr
    let lk := ddL (links σ1 T)
    ndK (lk.map (·.1)) && ndK (lk.map (·.2)) && ndK (T.map (·.1)) && fitEb σ1 (look T) lk T
  | none => false
theorem fitsB_spec {σ T : St} (h : fitsB σ T = true) : Fits σ T := by
  unfold fitsB at h
  unfold Fits
  split at h
  · rename_i wr hp
    rw [hp]
    simp only [Bool.and_eq_true] at h
    exact ⟨h.1.1.1, h.1.1.2, h.1.2, fitEb_spec h.2⟩
  · cases h
end Go.Pw
namespace Go.Pw
variable [Mode]
set_option linter.unusedSimpArgs false
set_option linter.unusedVariables false
set_option linter.unusedSectionVars false
/-- what a call returns, by parts -/
def tgtV (σ : Look) (c : Nat) : AV → AV × St
  | .rf k st => match rowAt σ k st with
    | some (true, e, xs) => (.rf (.RS 0 c) 0, [(.RS 0 c, .rw 0 true e xs)])
    | some (false, _, xs) => (.pv (.sl xs), [])
    | none => (.undef, [])
  | .agg cs => match fzCells σ cs with
    | some (ps, _) => (.agg (ps.map .pv), [])
    | none => (.undef, [])
  | .ptr j off _ => (.ptr j off 0, [])
  | a => (a, [])
def tgtL (σ : Look) : Nat → List AV → List AV × St
  | _, [] => ([], [])
  | c, a :: as => match tgtV σ c a, tgtL σ (c + 1) as with
    | (x, l), (xs, ls) => (x :: xs, l ++ ls)
def tgtC (σ : Look) (j : Nat) : Nat → List AV → List AV × St
  | _, [] => ([], [])
  | c, a :: as => match (match a with
      | .rf k st => match rowAt σ k st with
        | some (true, e, xs) => (AV.rf (.RC j c) 0, [(Key.RC j c, KV.rw 0 true e xs)])
        | some (false, _, xs) => (.pv (.sl xs), [])
        | none => (.undef, [])
      | .ptr j off _ => (.ptr j off 0, [])
      | a => (a, [])), tgtC σ j (c + 1) as with
    | (x, l), (xs, ls) => (x :: xs, l ++ ls)
def tgtBs (σ : Look) : St → St
  | [] => []
  | (.B j, .bx _ _) :: l => (match σ (.B j) with
    | .bx _ cs => match tgtC σ j 0 cs with
      | (cs', en) => (.B j, .bx 0 cs') :: en
    | _ => []) ++ tgtBs σ l
  | _ :: l => tgtBs σ l
def tgt (σ : Look) (In : St) (as : List AV) : St :=
  (match as with
  | [a] => (match tgtV σ 0 a with
    | (x, l) => (.S 0, .av x) :: l)
  | as => (match tgtL σ 0 as with
    | (xs, l) => (.S 0, .av (.tup xs)) :: l)) ++ tgtBs σ In
def exB : Exit → Bool
  | .normal | .ret => true
  | _ => false
def callX (P : Program) (run : Nat → Code → St → Option (Exit × St)) (f : FuncId) (In : St) : Option St :=
  match P.funcs[f]? with
  | some fn => match fn.body with
    | some c => match run fn.ntmps c In with
      | some (e, s) => match exB e, resL P (lookB s) fn.results.toList with
        | true, some as => let T := tgt (lookB s) In as
          if fitsB ((.S 0, .av (oneOr as)) :: noS s) T then some T else none
        | _, _ => none
      | none => none
    | none => none
  | none => none
def orcX (base : FuncId → St → Option St) (rec : FuncId → St → Option St) (f : FuncId) (In : St) : Option St :=
  match base f In with
  | some R => some R
  | none => rec f In
def exec (P : Program) (base : FuncId → St → Option St) (rf : RowF) (mv : FuncId → Nat → Option TypeId) : Nat → Nat → Code → St → Option (Exit × St)
  | 0, _, _, _ => none
  | k + 1, n, c, σ => match c with
    | .skip => some (.normal, σ)
    | .label _ => some (.normal, σ)
    | .ret => some (.ret, σ)
    | .exit i => some (.exit i, σ)
    | .region id ops drawn => if dstOk n ops.toList then (if drawn then (match runX P (orcX base (callX P (exec P base rf mv k))) mv ops ops.toList σ with
      | some (σ', fk) => if drawOk ops.toList fk then some (.normal, σ') else none
      | none => none) else (match runN P (orcX base (callX P (exec P base rf mv k))) rf mv ops ops.toList σ with
      | some σ' => some (.normal, σ')
      | none => none)) else none
    | .seq a b => match exec P base rf mv k n a σ with
      | some (.normal, σ') => exec P base rf mv k n b σ'
      | r => r
    | .cond c a b => match evA (lookB σ) c with
      | .pv (.bool true) => exec P base rf mv k n a σ
      | .pv (.bool false) => exec P base rf mv k n b σ
      | _ => none
    | .loop b => match exec P base rf mv k n b σ with
      | some (.normal, σ') => exec P base rf mv k n (.loop b) σ'
      | r => r
    | .block id b => match exec P base rf mv k n b σ with
      | some (.exit i, σ') => if i = id then some (.normal, σ') else some (.exit i, σ')
      | r => r
    | _ => none
def callF (P : Program) (base : FuncId → St → Option St) (rf : RowF) (mv : FuncId → Nat → Option TypeId) (k : Nat) (f : FuncId) (In : St) : Option St := callX P (exec P base rf mv k) f In

section
variable {P : Program} {mv : FuncId → Nat → Option TypeId} {base : FuncId → St → Option St} {rf : RowF} {n : Nat} {Q : Exit → St → Prop} {σ : St}
theorem PWp.loopL {ι : Type} {c : Code} (St_ : ι → St) (I : ι → Prop) (m : ι → Nat) (i0 : ι) (h0 : I i0)
    (round : ∀ i, I i → PWp P n c (thenQ (fun σ' => ∃ j, I j ∧ m j < m i ∧ look σ' = look (St_ j)) Q) (St_ i)) (hs : σ = St_ i0) : PWp P n (.loop c) Q σ := by
  subst hs
  intro tm w ow E hn hR
  refine wp_loop_ghost (fun k a w' => ∃ i E' ow', I i ∧ m i = k ∧ RE P E' (look (St_ i)) a.tmps w' ow' ∧ a.tmps.size = tm.size ∧ a.defers = [] ∧ Evo w ow w' ow' ∧ ∀ b, b < 1000 → E'.β b = E.β b) (m i0)
    ⟨i0, E, ow, h0, rfl, hR, rfl, rfl, Evo.refl _ _, fun _ _ => rfl⟩ ?_
  rintro k a w1 ⟨i, E1, ow1, hi, hm, r1, r2, r3, r4, r5⟩
  rw [act_eta r3]
  refine Code.wp_mono ?_ (round i hi a.tmps w1 ow1 E1 (by omega) r1)
  rintro e a2 w2 ⟨σ2, ow2, E2, q, s1, s2, s3, s4, s5⟩
  cases e with
  | normal =>
    obtain ⟨j, hj, hlt, he⟩ := q
    rw [he] at s1
    exact ⟨m j, by omega, j, E2, ow2, hj, rfl, s1, s2.trans r2, s3, r4.trans s4, fun b hb => (s5 b hb).trans (r5 b hb)⟩
  | _ => exact ⟨σ2, ow2, E2, q, s1, s2.trans r2, s3, r4.trans s4, fun b hb => (s5 b hb).trans (r5 b hb)⟩

def Names (P : Program) : Prop := ∀ (f : FuncId) (fn : Func), P.funcs[f]? = some fn → (fn.name != "runtime.NumGoroutine") = true
/-- what the runner gives of a piece of code -/
def Ran (P : Program) (n : Nat) (c : Code) (σ : St) (e : Exit) (σ' : St) : Prop := PWp P n c (fun e' s => e' = e ∧ look s = look σ') σ
def RunOk (P : Program) (run : Nat → Code → St → Option (Exit × St)) : Prop := ∀ n c σ e σ', run n c σ = some (e, σ') → Ran P n c σ e σ'
theorem look_cons_noS {s s' : St} {v : KV} (h : look s = look s') : look ((.S 0, v) :: noS s) = look ((.S 0, v) :: noS s') := by
  funext k
  simp only [look_cons, look_noS]
  split
  · rfl
  · cases k <;> simp [h]
theorem Fits.of_look {s s' T : St} (h : look s = look s') (hf : Fits s T) : Fits s' T := by
  unfold Fits at hf ⊢
  rw [← h]; exact hf
theorem callX_spec (hN : Names P) {run : Nat → Code → St → Option (Exit × St)} (hr : RunOk P run) : OrcB P (callX P run) := by
  intro f In Ret h
  unfold callX at h
  split at h
  · rename_i fn hf
    split at h
    · rename_i c hc
      split at h
      · rename_i e s hx
        rw [lookB_eq] at h
        split at h
        · rename_i as he ha
          simp only at h
          split at h
          · rename_i hfit
            cases h
            refine PCalls.of hf (hN _ _ hf) hc ((hr _ _ _ _ _ hx).mono ?_)
            rintro e' s' ⟨rfl, hl⟩
            refine ⟨?_, ?_⟩
            · cases e' <;> simp [exB] at he
              · exact .inl rfl
              · exact .inr rfl
            · unfold Done
              rw [hl, ha]
              exact (fitsB_spec hfit).of_look (look_cons_noS hl.symm)
          · cases h
        · cases h
      · cases h
    · cases h
  · cases h
theorem orcX_ok {rec : FuncId → St → Option St} (hB : OrcB P base) (hr : OrcB P rec) : OrcB P (orcX base rec) := by
  intro f In Ret h
  unfold orcX at h
  split at h
  · rename_i R hb
    cases h
    exact hB _ _ _ hb
  · exact hr _ _ _ h
theorem exec_spec (hN : Names P) (hm : P.follows .mixedOrders = true) (hB : OrcB P base) (hF : RowFOk P rf) : ∀ k, RunOk P (exec P base rf mv k) := by
  intro k
  induction k using Nat.strongRecOn with
  | _ k ih =>
    intro n c σ e σ' h
    cases k with
    | zero => simp [exec] at h
    | succ k =>
      have ihk := ih k (by omega)
      unfold exec at h
      split at h
      · cases h; exact PWp.skip ⟨rfl, rfl⟩
      · cases h; exact PWp.label ⟨rfl, rfl⟩
      · cases h; exact PWp.ret ⟨rfl, rfl⟩
      · cases h; exact PWp.exit ⟨rfl, rfl⟩
      · rename_i id ops drawn
        split at h
        · rename_i hd
          have hO := orcX_ok hB (callX_spec hN ihk)
          cases drawn with
          | true =>
            rw [if_pos rfl] at h
            split at h
            · rename_i σ1 fk hx
              split at h
              · rename_i hok
                cases h
                exact runX_drawn hm hO hd hx hok
              · cases h
            · cases h
          | false =>
            rw [if_neg (by simp)] at h
            split at h
            · rename_i σ1 hx
              cases h
              exact runN_region hO hF hd hx
            · cases h
        · cases h
      · rename_i a b
        refine PWp.seq ?_
        split at h
        · rename_i σ1 ha
          refine (ihk _ _ _ _ _ ha).mono ?_
          rintro e1 s1 ⟨rfl, hl⟩
          exact (ihk _ _ _ _ _ h).of_look hl.symm
        · rename_i hne
          refine (ihk _ _ _ _ _ h).mono ?_
          rintro e1 s1 ⟨rfl, hl⟩
          cases e1 with
          | normal => exact absurd h (hne _)
          | _ => exact ⟨rfl, hl⟩
      · rename_i c a b
        rw [lookB_eq] at h
        split at h
        · rename_i hc; exact PWp.cond hc (fun _ => ihk _ _ _ _ _ h) (fun hf => by cases hf)
        · rename_i hc; exact PWp.cond hc (fun hf => by cases hf) (fun _ => ihk _ _ _ _ _ h)
        · cases h
      · rename_i b
        have h0 : exec P base rf mv (k + 1) n (.loop b) σ = some (e, σ') := by rw [exec]; exact h
        refine PWp.loopL (ι := Nat × St) (fun i => i.2) (fun i => i.1 ≤ k + 1 ∧ exec P base rf mv i.1 n (.loop b) i.2 = some (e, σ')) (fun i => i.1) (k + 1, σ) ⟨Nat.le_refl _, h0⟩ ?_ rfl
        rintro ⟨m, s⟩ ⟨hm1, hm2⟩
        cases m with
        | zero => simp [exec] at hm2
        | succ m =>
          have ihm := ih m (by simp at hm1; omega)
          rw [exec] at hm2
          split at hm2
          · rename_i s1 hb
            refine (ihm _ _ _ _ _ hb).mono ?_
            rintro e1 s2 ⟨rfl, hl⟩
            exact ⟨(m, s1), ⟨by simp at hm1 ⊢; omega, hm2⟩, by simp, hl⟩
          · rename_i hne
            refine (ihm _ _ _ _ _ hm2).mono ?_
            rintro e1 s2 ⟨rfl, hl⟩
            cases e1 with
            | normal => exact absurd hm2 (hne _)
            | _ => exact ⟨rfl, hl⟩
      · rename_i id b
        refine PWp.block ?_
        split at h
        · rename_i i σ1 hb
          refine (ihk _ _ _ _ _ hb).mono ?_
          rintro e1 s1 ⟨rfl, hl⟩
          simp only [blockQ]
          split at h
          · rename_i hi; cases h; rw [if_pos hi]; exact ⟨rfl, hl⟩
          · rename_i hi; cases h; rw [if_neg hi]; exact ⟨rfl, hl⟩
        · rename_i hne
          refine (ihk _ _ _ _ _ h).mono ?_
          rintro e1 s1 ⟨rfl, hl⟩
          cases e1 with
          | exit i => exact absurd h (hne _ _)
          | _ => exact ⟨rfl, hl⟩
      · cases h
/-- What a run gives is a contract. -/
theorem callF_spec (hN : Names P) (hm : P.follows .mixedOrders = true) (hB : OrcB P base) (hF : RowFOk P rf) (k : Nat) : OrcB P (callF P base rf mv k) := callX_spec hN (exec_spec hN hm hB hF k)
end
end Go.Pw
