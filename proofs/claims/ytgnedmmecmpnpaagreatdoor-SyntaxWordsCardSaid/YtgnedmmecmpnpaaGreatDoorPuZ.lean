/- Regions whose order is drawn. -/
import Derived.Test.YtgnedmmecmpnpaaGreatDoorPwMXY
import Derived.Test.YtgnedmmecmpnpaaGreatDoorPwMVW
import Derived.Orders
namespace Go.Pw
variable [Mode]
set_option linter.unusedSimpArgs false
set_option linter.unusedVariables false
set_option linter.unusedSectionVars false

/-- the run in the order of the text, with what each operation hangs on and writes -/
def runD (P : Program) (orc : Orc) (mv : FuncId → Nat → Option TypeId) (ops : Array Oper) : List Oper → St → List (List Key × List Key) → (St → List (List Key × List Key) → Prop) → Prop
  | [], σ, acc, K => K σ acc
  | o :: l, σ, acc, K => match stepO P orc mv ops o (look σ) with
    | some (c, wr) => c ∧ runD P orc mv ops l (wr ++ σ) (acc ++ [(footK ops (look σ) o wr, wr.map (·.1))]) K
    | none => False

def ancO (o : Oper) (acc : List (List Nat)) : List Nat :=
  o.after.toList.flatMap fun e => if Region.binds .any e then e.on :: acc.getD e.on [] else []

def ancs : List Oper → List (List Nat) → List (List Nat)
  | [], acc => acc
  | o :: l, acc => ancs l (acc ++ [ancO o acc])

def disj (a b : List Key) : Bool := a.all fun k => !b.contains k

/-- of the earlier ones, those that are no forebears -/
def freeOf (anc : List Nat) : Nat → List (List Key × List Key) → List (List Key × List Key)
  | _, [] => []
  | i, x :: l => if anc.contains i then freeOf anc (i + 1) l else x :: freeOf anc (i + 1) l

def chk (anc : List (List Nat)) (fk : List (List Key × List Key)) : Nat → List (List Key × List Key) → Bool
  | _, [] => true
  | j, x :: l => (freeOf (anc.getD j []) 0 (fk.take j)).all (fun y => disj y.2 x.1 && disj x.2 y.1) && chk anc fk (j + 1) l

def backs (ops : List Oper) : Nat → Bool := fun n => (ops.zip (List.range n)).all fun x => x.1.after.toList.all fun e => !Region.binds .any e || decide (e.on < x.2)

def drawOk (ops : List Oper) (fk : List (List Key × List Key)) : Bool := backs ops ops.length && chk (ancs ops []) fk 0 fk

theorem drawGoal {ops : List Oper} {fk : List (List Key × List Key)} (h : drawOk ops fk = true) : drawOk ops fk = true := h

section
variable {P : Program} {σ σ' : Look}

theorem disj_spec {a b : List Key} (h : disj a b = true) {k : Key} (ha : k ∈ a) : k ∉ b := by
  unfold disj at h
  have := List.all_eq_true.1 h k ha
  simpa using this

theorem freeOf_mem {anc : List Nat} : ∀ {l : List (List Key × List Key)} {s i : Nat} {x : List Key × List Key}, l[i]? = some x → (s + i) ∉ anc → x ∈ freeOf anc s l
  | [], s, i, x, h, _ => by simp at h
  | y :: l, s, 0, x, h, hn => by
    simp only [List.getElem?_cons_zero, Option.some.injEq] at h
    subst h
    unfold freeOf
    rw [if_neg (by simpa using hn)]
    exact List.mem_cons_self ..
  | y :: l, s, i + 1, x, h, hn => by
    simp only [List.getElem?_cons_succ] at h
    have := freeOf_mem (anc := anc) (s := s + 1) h (by rw [show s + 1 + i = s + (i + 1) by omega]; exact hn)
    unfold freeOf
    split
    · exact this
    · exact List.mem_cons_of_mem _ this

theorem chk_spec {anc : List (List Nat)} {fk : List (List Key × List Key)} : ∀ {l : List (List Key × List Key)} {s : Nat}, chk anc fk s l = true → ∀ {j i : Nat} {x y : List Key × List Key}, l[j]? = some x → fk[i]? = some y → i < s + j →
    i ∉ anc.getD (s + j) [] → disj y.2 x.1 = true ∧ disj x.2 y.1 = true
  | [], s, h, j, i, x, y, hj, hi, hlt, hn => by simp at hj
  | z :: l, s, h, 0, i, x, y, hj, hi, hlt, hn => by
    simp only [List.getElem?_cons_zero, Option.some.injEq] at hj
    subst hj
    simp only [chk, Bool.and_eq_true] at h
    have hm : y ∈ freeOf (anc.getD s []) 0 (fk.take s) := by
      refine freeOf_mem (i := i) ?_ (by simpa using hn)
      rw [List.getElem?_take, if_pos (by omega)]
      exact hi
    have := List.all_eq_true.1 h.1 y hm
    simpa using this
  | z :: l, s, h, j + 1, i, x, y, hj, hi, hlt, hn => by
    simp only [List.getElem?_cons_succ] at hj
    simp only [chk, Bool.and_eq_true] at h
    exact chk_spec h.2 hj hi (by omega) (by rw [show s + 1 + j = s + (j + 1) by omega]; exact hn)

/-- what is done leaves nothing behind that it hangs on -/
def Closed (ops : List Oper) (done : Nat → Bool) : Prop := ∀ j o, ops[j]? = some o → done j = true → ∀ e ∈ o.after.toList, Region.binds .any e = true → done e.on = true

def Ready (ops : List Oper) (done : Nat → Bool) (j : Nat) : Prop := ∀ o, ops[j]? = some o → ∀ e ∈ o.after.toList, Region.binds .any e = true → done e.on = true

def AncOk (ops : List Oper) (acc : List (List Nat)) : Prop := ∀ j i, i ∈ acc.getD j [] → ∀ done, Closed ops done → Ready ops done j → done i = true

theorem ancO_ok {ops : List Oper} {acc : List (List Nat)} (h : AncOk ops acc) {j : Nat} {o : Oper} (ho : ops[j]? = some o) {i : Nat} (hi : i ∈ ancO o acc) {done : Nat → Bool} (hc : Closed ops done) (hr : Ready ops done j) : done i = true := by
  unfold ancO at hi
  obtain ⟨e, he, hi⟩ := List.mem_flatMap.1 hi
  split at hi
  · rename_i hb
    have hd := hr o ho e he hb
    rcases List.mem_cons.1 hi with rfl | hi
    · exact hd
    · refine h e.on i hi done hc (fun o' ho' e' he' hb' => ?_)
      exact hc e.on o' ho' hd e' he' hb'
  · cases hi

theorem ancs_ok {ops : List Oper} : ∀ {l : List Oper} {acc : List (List Nat)}, (∀ i o, l[i]? = some o → ops[acc.length + i]? = some o) → AncOk ops acc → AncOk ops (ancs l acc)
  | [], acc, _, h => h
  | o :: l, acc, hl, h => by
    unfold ancs
    refine ancs_ok (fun i o' hi => ?_) ?_
    · rw [List.length_append, List.length_singleton, show acc.length + 1 + i = acc.length + (i + 1) by omega]
      exact hl (i + 1) o' (by simpa using hi)
    · intro j i hi done hc hr
      by_cases hj : j < acc.length
      · rw [List.getD_eq_getElem?_getD, List.getElem?_append_left hj, ← List.getD_eq_getElem?_getD] at hi
        exact h j i hi done hc hr
      · rw [List.getD_eq_getElem?_getD, List.getElem?_append_right (by omega)] at hi
        by_cases hj2 : j - acc.length = 0
        · rw [hj2] at hi
          have ej : j = acc.length + 0 := by omega
          exact ancO_ok h (hl 0 o (by simp)) (by simpa using hi) hc (ej ▸ hr)
        · obtain ⟨q, hq⟩ : ∃ q, j - acc.length = q + 1 := ⟨j - acc.length - 1, by omega⟩
          rw [hq] at hi
          simp at hi

/-- the state when those are done that are marked -/
def cat (done : Nat → Bool) : Nat → St → List St → St
  | _, σ, [] => σ
  | i, σ, w :: ws => cat done (i + 1) ((if done i then w else []) ++ σ) ws

theorem look_app_mem {w : St} {s s' : St} {k : Key} (h : k ∈ w.map (·.1)) : look (w ++ s) k = look (w ++ s') k := by
  induction w with
  | nil => cases h
  | cons x l ih =>
    obtain ⟨a, b⟩ := x
    simp only [List.cons_append, look_cons]
    split
    · rfl
    · rename_i hne
      simp only [List.map_cons, List.mem_cons] at h
      exact ih (h.resolve_left fun e => hne e.symm)

theorem look_app_not {w : St} {s : St} {k : Key} (h : k ∉ w.map (·.1)) : look (w ++ s) k = look s k := by
  induction w with
  | nil => rfl
  | cons x l ih =>
    obtain ⟨a, b⟩ := x
    simp only [List.map_cons, List.mem_cons, not_or] at h
    simp only [List.cons_append, look_cons]
    rw [if_neg (fun e => h.1 e.symm)]
    exact ih h.2

theorem cat_look {done done' : Nat → Bool} {k : Key} : ∀ {ws : List St} {i : Nat} {s s' : St}, look s k = look s' k → (∀ j w, ws[j]? = some w → k ∈ w.map (·.1) → done (i + j) = done' (i + j)) → look (cat done i s ws) k = look (cat done' i s' ws) k
  | [], i, s, s', h, _ => h
  | w :: ws, i, s, s', h, hd => by
    unfold cat
    refine cat_look ?_ (fun j w' hj hk => ?_)
    · by_cases hk : k ∈ w.map (·.1)
      · have h0 := hd 0 w (by simp) hk
        simp only [Nat.add_zero] at h0
        rw [h0]
        cases done' i with
        | true => simp only [if_true]; exact look_app_mem hk
        | false => simpa using h
      · have e : ∀ (b : Bool) (t : St), look ((if b = true then w else []) ++ t) k = look t k := by
          intro b t
          cases b with
          | true => simp only [if_true]; exact look_app_not hk
          | false => rfl
        rw [e, e]; exact h
    · rw [show i + 1 + j = i + (j + 1) by omega]
      exact hd (j + 1) w' (by simpa using hj) hk

/-- the first j writings -/
def pre (s : St) (ws : List St) (j : Nat) : St := (ws.take j).foldl (fun s w => w ++ s) s

theorem cat_none {ws : List St} : ∀ {i : Nat} {s : St} {done : Nat → Bool}, (∀ j, i ≤ j → done j = false) → cat done i s ws = s := by
  induction ws with
  | nil => intros; rfl
  | cons w ws ih =>
    intro i s done h
    unfold cat
    rw [h i (Nat.le_refl _)]
    exact ih fun j hj => h j (by omega)

theorem cat_pre : ∀ {ws : List St} {i n : Nat} {s : St}, cat (fun x => decide (x < i + n)) i s ws = (ws.take n).foldl (fun s w => w ++ s) s
  | [], i, n, s => by simp [cat]
  | w :: ws, i, 0, s => by
    simp only [List.take_zero, List.foldl_nil]
    exact cat_none fun j hj => by simp; omega
  | w :: ws, i, n + 1, s => by
    unfold cat
    simp only [List.take_succ_cons, List.foldl_cons]
    rw [show (fun x => decide (x < i + (n + 1))) = (fun x => decide (x < (i + 1) + n)) by funext x; congr 1; exact propext ⟨fun h => by omega, fun h => by omega⟩]
    rw [cat_pre]
    simp

theorem cat_lt {ws : List St} {s : St} {j : Nat} : cat (fun x => decide (x < j)) 0 s ws = pre s ws j := by
  have := cat_pre (ws := ws) (i := 0) (n := j) (s := s)
  simpa [pre] using this

theorem pre_succ {ws : List St} {s : St} {j : Nat} {w : St} (h : ws[j]? = some w) : pre s ws (j + 1) = w ++ pre s ws j := by
  unfold pre
  rw [List.take_add_one, h]
  simp

theorem runD_spec {orc : Orc} (hO : OrcOk P orc) {mv : FuncId → Nat → Option TypeId} {ops : Array Oper} {K : St → List (List Key × List Key) → Prop} : ∀ {l : List Oper} {s : St} {acc : List (List Key × List Key)}, runD P orc mv ops l s acc K →
    ∃ (ws : List St) (fk : List (List Key × List Key)), K (pre s ws l.length) (acc ++ fk) ∧ ws.length = l.length ∧ fk.length = l.length ∧
      ∀ (j : Nat) (o : Oper) (w : St), l[j]? = some o → ws[j]? = some w → StepE P mv ops (look (pre s ws j)) o w ∧ fk[j]? = some (footK ops (look (pre s ws j)) o w, w.map (·.1))
  | [], s, acc, h => ⟨[], [], by simpa [pre, runD] using h, rfl, rfl, fun j o w hj => by simp at hj⟩
  | o :: l, s, acc, h => by
    unfold runD at h
    split at h
    · rename_i c w he
      obtain ⟨ws, fk, h1, h2, h3, h4⟩ := runD_spec hO h.2
      refine ⟨w :: ws, (footK ops (look s) o w, w.map (·.1)) :: fk, ?_, by simp [h2], by simp [h3], fun j o' w' hj hw => ?_⟩
      · simpa [pre, List.append_assoc] using h1
      · cases j with
        | zero =>
          simp only [List.getElem?_cons_zero, Option.some.injEq] at hj hw
          subst hj; subst hw
          exact ⟨by simpa [pre] using stepO_spec hO he h.1, by simp [pre]⟩
        | succ j =>
          simp only [List.getElem?_cons_succ] at hj hw
          have := h4 j o' w' hj hw
          simpa [pre] using this
    · exact h.elim

theorem countP_lt {p q : Nat → Bool} (h : ∀ x, q x = true → p x = true) : ∀ {l : List Nat} {i : Nat}, i ∈ l → p i = true → q i = false → l.countP q < l.countP p
  | [], i, hi, _, _ => by cases hi
  | x :: l, i, hi, hp, hq => by
    have hle : l.countP q ≤ l.countP p := List.countP_mono_left fun x _ hx => h x hx
    rw [List.countP_cons, List.countP_cons]
    rcases List.mem_cons.1 hi with rfl | hi
    · rw [hp, hq]; simp; omega
    · have := countP_lt h hi hp hq
      cases hqx : q x with
      | true => rw [h x hqx]; simp; omega
      | false => simp; split <;> omega

def doneOf (listed : Array Bool) : Nat → Bool := fun i => listed.getD i false

theorem doneOf_set {listed : Array Bool} {i : Nat} (hi : i < listed.size) (x : Nat) : doneOf (listed.setIfInBounds i true) x = if x = i then true else doneOf listed x := by
  unfold doneOf
  simp only [Array.getD_eq_getD_getElem?, Array.getElem?_setIfInBounds]
  by_cases h : i = x
  · subst h; simp [hi]
  · rw [if_neg h, if_neg (fun e => h e.symm)]

theorem any_sound {mv : FuncId → Nat → Option TypeId} {l : List Oper} {s : St} {ws : List St} {fk : List (List Key × List Key)} {Q : Exit → Act → World → Prop} {tm0 : Array Value} {w0 : World} {ow0 : Ow} {E0 : Env}
    (hlw : ws.length = l.length) (hstep : ∀ (j : Nat) (o : Oper) (w : St), l[j]? = some o → ws[j]? = some w → StepE P mv l.toArray (look (pre s ws j)) o w ∧ fk[j]? = some (footK l.toArray (look (pre s ws j)) o w, w.map (·.1)))
    (hd : dstOk tm0.size l = true) (hok : drawOk l fk = true)
    (hQ : Then P E0 (look (pre s ws l.length)) tm0 w0 ow0 (fun a w => Q .normal a w)) :
    ∀ (fuel : Nat) (listed : Array Bool) (tm : Array Value) (w : World) (ow : Ow) (E : Env), listed.size = l.length → Closed l (doneOf listed) → (List.range l.length).countP (fun i => !doneOf listed i) ≤ fuel →
      RE P E (look (cat (doneOf listed) 0 s ws)) tm w ow → tm.size = tm0.size → Evo w0 ow0 w ow → (∀ b, b < 1000 → E.β b = E0.β b) → wpAny P .any l.toArray Q fuel listed ⟨tm, []⟩ w := by
  simp only [drawOk, Bool.and_eq_true] at hok
  obtain ⟨hback, hchk⟩ := hok
  have hanc : AncOk l (ancs l []) := ancs_ok (fun i o h => by simpa using h) (fun j i hi => by simp at hi)
  have hdisj : ∀ (j i : Nat) (x y : List Key × List Key), fk[j]? = some x → fk[i]? = some y → i < j → i ∉ (ancs l []).getD j [] → disj y.2 x.1 = true ∧ disj x.2 y.1 = true := fun j i x y hj hi hlt hn =>
    chk_spec (s := 0) hchk hj hi (by omega) (by simpa using hn)
  have hready : ∀ (listed : Array Bool), listed.size = l.length → ∀ i, i ∈ Region.ready .any l.toArray listed ↔ i < l.length ∧ doneOf listed i = false ∧ Ready l (doneOf listed) i := by
    intro listed hsz i
    unfold Region.ready
    simp only [List.mem_filter, List.mem_range, List.size_toArray, Bool.and_eq_true, Bool.not_eq_true']
    constructor
    · rintro ⟨h1, h2, h3⟩
      refine ⟨h1, ?_, fun o ho e he hb => ?_⟩
      · unfold doneOf
        rw [Array.getD_eq_getD_getElem?] at h2 ⊢
        rw [Array.getElem?_eq_getElem (by omega)] at h2 ⊢
        exact h2
      · have ho' : l.toArray[i]? = some o := by simpa using ho
        rw [ho'] at h3
        simp only [Option.map_some, Option.getD_some, Array.all_eq_true_iff_forall_mem] at h3
        have := h3 e (by simpa using he)
        simpa [hb, doneOf] using this
    · rintro ⟨h1, h2, h3⟩
      refine ⟨h1, ?_, ?_⟩
      · unfold doneOf at h2
        rw [Array.getD_eq_getD_getElem?] at h2 ⊢
        rw [Array.getElem?_eq_getElem (by omega)] at h2 ⊢
        exact h2
      · have ho' : l.toArray[i]? = some l[i] := by simp [h1]
        rw [ho']
        simp only [Option.map_some, Option.getD_some, Array.all_eq_true_iff_forall_mem]
        intro e he
        cases hb : Region.binds .any e with
        | false => rfl
        | true =>
          have := h3 l[i] (by simp [h1]) e (by simpa using he) hb
          simpa [doneOf] using this
  have hend : ∀ (listed : Array Bool) (tm : Array Value) (w : World) (ow : Ow) (E : Env), listed.size = l.length → Region.ready .any l.toArray listed = [] → RE P E (look (cat (doneOf listed) 0 s ws)) tm w ow → tm.size = tm0.size → Evo w0 ow0 w ow →
      (∀ b, b < 1000 → E.β b = E0.β b) → Q .normal ⟨tm, []⟩ w := by
    intro listed tm w ow E hsz hr hRE hts hev hβ
    have hall : ∀ i, i < l.length → doneOf listed i = true := by
      intro i
      induction i using Nat.strongRecOn with
      | _ i ih =>
        intro hi
        cases hdi : doneOf listed i with
        | true => rfl
        | false =>
          have hm : i ∈ Region.ready .any l.toArray listed := by
            rw [hready listed hsz]
            refine ⟨hi, hdi, fun o ho e he hb => ?_⟩
            have hz : (o, i) ∈ l.zip (List.range l.length) := by
              refine List.mem_iff_getElem?.2 ⟨i, ?_⟩
              rw [List.getElem?_zip_eq_some]
              exact ⟨ho, by rw [List.getElem?_range hi]⟩
            have := List.all_eq_true.1 hback _ hz
            have := List.all_eq_true.1 this e he
            rw [hb] at this
            simp at this
            exact ih e.on this (by omega)
          rw [hr] at hm
          cases hm
    refine hQ tm w E ow ?_ hts hev hβ
    have : look (cat (doneOf listed) 0 s ws) = look (pre s ws l.length) := by
      funext k
      rw [← cat_lt]
      refine cat_look rfl fun j w' hj _ => ?_
      have : j < l.length := by rw [← hlw]; exact (List.getElem?_eq_some_iff.1 hj).1
      simp [hall j this, this]
    rw [← this]
    exact hRE
  intro fuel
  induction fuel with
  | zero =>
    intro listed tm w ow E hsz hcl hcnt hRE hts hev hβ
    have hr : Region.ready .any l.toArray listed = [] := by
      cases hrr : Region.ready .any l.toArray listed with
      | nil => rfl
      | cons i is =>
        have := (hready listed hsz i).1 (by rw [hrr]; exact List.mem_cons_self ..)
        have h0 : (List.range l.length).countP (fun i => !doneOf listed i) = 0 := by omega
        rw [List.countP_eq_zero] at h0
        have := h0 i (List.mem_range.2 this.1)
        simp_all
    exact ⟨hr, hend listed tm w ow E hsz hr hRE hts hev hβ⟩
  | succ fuel ih =>
    intro listed tm w ow E hsz hcl hcnt hRE hts hev hβ
    refine ⟨fun hr => hend listed tm w ow E hsz hr hRE hts hev hβ, fun i hi => ?_⟩
    obtain ⟨hlt, hdi, hrd⟩ := (hready listed hsz i).1 hi
    have hoi : l[i]? = some l[i] := by simp [hlt]
    have hwlt : i < ws.length := by omega
    have hwi : ws[i]? = some ws[i] := by simp [hwlt]
    obtain ⟨hse, hfk⟩ := hstep i _ _ hoi hwi
    generalize hwn : ws[i] = wi at *
    generalize hon : l[i] = oi at *
    -- which writings a key of the foot has seen
    have hseen : ∀ k, k ∈ footK l.toArray (look (pre s ws i)) oi wi → ∀ j w', ws[j]? = some w' → k ∈ w'.map (·.1) → j ≠ i → doneOf listed j = decide (j < i) := by
      intro k hk j w' hj hkw hne
      have hjl : j < l.length := by rw [← hlw]; exact (List.getElem?_eq_some_iff.1 hj).1
      obtain ⟨_, hfj⟩ := hstep j l[j] w' (by simp [hjl]) hj
      by_cases hji : j < i
      · rw [decide_eq_true hji]
        by_cases ha : j ∈ (ancs l []).getD i []
        · exact hanc i j ha _ hcl hrd
        · have := hdisj i j _ _ hfk hfj hji ha
          exact absurd hk (disj_spec this.1 hkw)
      · rw [decide_eq_false hji]
        cases hdj : doneOf listed j with
        | false => rfl
        | true =>
          by_cases ha : i ∈ (ancs l []).getD j []
          · have := hanc j i ha _ hcl (fun o ho e he hb => hcl j o ho hdj e he hb)
            rw [hdi] at this; cases this
          · have := hdisj j i _ _ hfj hfk (by omega) ha
            exact absurd hk (disj_spec this.2 hkw)
    have hwk : ∀ k, k ∈ wi.map (·.1) → k ∈ footK l.toArray (look (pre s ws i)) oi wi := fun k hk => by
      simp only [footK, List.mem_append]; exact .inr hk
    have hag : ∀ k ∈ footK l.toArray (look (pre s ws i)) oi wi, look (cat (doneOf listed) 0 s ws) k = look (pre s ws i) k := by
      intro k hk
      rw [← cat_lt]
      refine cat_look rfl fun j w' hj hkw => ?_
      rw [Nat.zero_add]
      by_cases hne : j = i
      · subst hne; rw [hdi]; simp
      · exact hseen k hk j w' hj hkw hne
    have hse' := stepE_ag hse hag
    have hnew : updL (look (cat (doneOf listed) 0 s ws)) wi = look (cat (doneOf (listed.setIfInBounds i true)) 0 s ws) := by
      funext k
      rw [← look_append]
      by_cases hk : k ∈ wi.map (·.1)
      · have h1 : look (cat (doneOf (listed.setIfInBounds i true)) 0 s ws) k = look (cat (fun x => decide (x < i + 1)) 0 s ws) k := by
          refine cat_look rfl fun j w' hj hkw => ?_
          rw [Nat.zero_add, doneOf_set (by omega)]
          by_cases hne : j = i
          · subst hne; simp
          · rw [if_neg hne, hseen k (hwk k hk) j w' hj hkw hne]
            congr 1
            exact propext ⟨fun h => by omega, fun h => by omega⟩
        rw [h1, cat_lt, pre_succ hwi]
        exact look_app_mem hk
      · rw [look_app_not hk]
        refine (cat_look rfl fun j w' hj hkw => ?_)
        rw [Nat.zero_add, doneOf_set (by omega)]
        by_cases hne : j = i
        · subst hne
          rw [hwi] at hj
          simp only [Option.some.injEq] at hj
          subst hj
          exact absurd hkw hk
        · rw [if_neg hne]
    have hdo : ∀ d, oi.dst = some d → d < tm.size := fun d hdd => by
      rw [hts]
      exact dstOk_spec hd oi (List.mem_of_getElem? hoi) d hdd
    have key := stepE_sound (Q := Q) (K := wpAny P .any l.toArray Q fuel (listed.setIfInBounds i true)) hse' hRE hdo (by
      intro tm' w' E' ow' r1 r2 r3 r4
      rw [hnew] at r1
      refine ih _ tm' w' ow' E' (by simpa using hsz) ?_ ?_ r1 (r2.trans hts) (hev.trans r3) (fun b hb => (r4 b hb).trans (hβ b hb))
      · intro j o ho hdj e he hb
        rw [doneOf_set (by omega)] at hdj ⊢
        split
        · rfl
        · split at hdj
          · rename_i e1
            subst e1
            exact hrd o ho e he hb
          · exact hcl j o ho hdj e he hb
      · have := countP_lt (p := fun x => !doneOf listed x) (q := fun x => !doneOf (listed.setIfInBounds i true) x) (fun x hx => by
            rw [doneOf_set (by omega)] at hx
            split at hx
            · simp at hx
            · exact hx) (List.mem_range.2 hlt) (by simp [hdi]) (by rw [doneOf_set (by omega)]; simp)
        omega)
    unfold wpOp
    have ho' : l.toArray[i]? = some oi := by simpa using hoi
    rw [ho']
    simp only
    split
    · rename_i hw
      rw [if_pos hw] at key
      exact .inl key
    · rename_i hw
      rw [if_neg hw] at key
      exact key

variable {n : Nat} {Q : Exit → St → Prop} {s : St}

/-- a region whose order is drawn -/
theorem PWp.drawn (hm : P.follows .mixedOrders = true) {orc : Orc} (hO : OrcOk P orc) {mv : FuncId → Nat → Option TypeId} {id : Nat} {ops : List Oper} (hd : dstOk n ops = true)
    (h : runD P orc mv ops.toArray ops s [] (fun s fk => drawOk ops fk = true ∧ Q .normal s)) : PWp P n (.region id ops.toArray true) Q s := by
  intro tm w ow E hn hR
  obtain ⟨ws, fk, ⟨h1, h1'⟩, h2, h3, h4⟩ := runD_spec hO h
  refine wp_region_any hm ?_
  rw [List.nil_append] at h1
  have hR' : RE P E (look s) tm { w with drawn := w.drawn + 1 } ow := ⟨hR.sk, hR.bk, hR.slot, hR.box, hR.own, hR.shared, hR.glob.heap rfl⟩
  have hev : Evo w ow { w with drawn := w.drawn + 1 } ow := ⟨rfl, rfl, rfl, Nat.le_refl _, fun _ _ h => ⟨rfl, h⟩, fun _ _ h => ⟨rfl, h⟩, fun _ => Nat.le_succ _⟩
  have hdone : ∀ i, doneOf (Array.replicate ops.toArray.size false) i = false := by
    intro i
    simp only [doneOf, Array.getD_eq_getD_getElem?, Array.getElem?_replicate]
    split <;> rfl
  refine any_sound (E0 := E) (ow0 := ow) (w0 := w) (tm0 := tm) (s := s) h2 h4 (dstOk_le hd hn) h1 ?_ _ _ _ _ ow E (by simp) (fun j o ho hdj => ?_) ?_ ?_ rfl hev (fun _ _ => rfl)
  · intro tm' w' E' ow' r1 r2 r3 r4
    exact ⟨_, ow', E', h1', r1, r2, rfl, r3, r4⟩
  · rw [hdone] at hdj; cases hdj
  · refine Nat.le_trans (List.countP_le_length ..) (by simp)
  · rw [cat_none fun j _ => hdone j]
    exact hR'

theorem runD_mono {orc : Orc} {mv : FuncId → Nat → Option TypeId} {ops : Array Oper} {K K' : St → List (List Key × List Key) → Prop} (h : ∀ s f, K s f → K' s f) : ∀ {l : List Oper} {s : St} {acc : List (List Key × List Key)}, runD P orc mv ops l s acc K → runD P orc mv ops l s acc K'
  | [], s, acc, hr => h s acc hr
  | o :: l, s, acc, hr => by
    unfold runD at hr ⊢
    split at hr
    · exact ⟨hr.1, runD_mono h hr.2⟩
    · exact hr.elim

theorem PWp.seq_dr (ks : List Nat) (hm : P.follows .mixedOrders = true) {orc : Orc} (hO : OrcOk P orc) {mv : FuncId → Nat → Option TypeId} {id : Nat} {ops : List Oper} {y : Code} (hd : dstOk n ops = true)
    (h : ∀ K : St → Prop, (∀ s, PWp P n y Q s → K s) → runD P orc mv ops.toArray ops s [] (fun s fk => drawOk ops fk = true ∧ K (keepS ks s))) : PWp P n (.seq (.region id ops.toArray true) y) Q s :=
  PWp.seq (PWp.drawn hm hO hd (runD_mono (fun s f hs => ⟨hs.1, PWp.keep ks hs.2⟩) (h (fun s => PWp P n y Q s) fun s hs => hs)))

theorem PWp.dr (ks : List Nat) (hm : P.follows .mixedOrders = true) {orc : Orc} (hO : OrcOk P orc) {mv : FuncId → Nat → Option TypeId} {id : Nat} {ops : List Oper} (hd : dstOk n ops = true)
    (h : runD P orc mv ops.toArray ops s [] (fun s fk => drawOk ops fk = true ∧ Q .normal (keepS ks s))) : PWp P n (.region id ops.toArray true) Q s := by
  intro tm w ow E hn hR
  refine Code.wp_mono ?_ (PWp.drawn (Q := fun e s => e = .normal ∧ Q .normal (keepS ks s)) hm hO hd (runD_mono (fun s f hs => ⟨hs.1, rfl, hs.2⟩) h) tm w ow E hn hR)
  rintro e a w' ⟨s', ow', E', ⟨rfl, q⟩, r1, r⟩
  exact ⟨_, ow', E', q, RE.keep r1, r⟩

end
end Go.Pw
