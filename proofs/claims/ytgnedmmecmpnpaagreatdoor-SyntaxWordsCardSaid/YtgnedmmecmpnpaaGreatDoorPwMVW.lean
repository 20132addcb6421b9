/- A state brought into another form: what is forgotten, frozen, renamed. -/
import Derived.Test.YtgnedmmecmpnpaaGreatDoorPuU
namespace Go.Pw
variable [Mode]
set_option linter.unusedSimpArgs false
set_option linter.unusedVariables false
set_option linter.unusedSectionVars false

/-- the element type that the target asks for, where it asks for a row of its own -/
def wantT (T : Look) : AV → Option TypeId
  | .rf K _ => match T K with
    | .rw _ true e _ => some e
    | _ => none
  | _ => none

def nthW (T : Look) (cs : List AV) (b : Nat) : Nat → Option TypeId := fun j => (cs[j - b]?).bind (wantT T)

/-- a slot's value made ready: a tuple part by part -/
def prepS (T : Look) (t : Nat) (a' : AV) (σ : Look) : Option (AV × St) :=
  match a', (σ (.S t)).slot with
  | .tup cs', .tup cs => match preArgs σ (nthW T cs' 900000) 900000 cs with
    | some (cs2, w1) => some (.tup cs2, w1)
    | none => none
  | a', a => preArg σ t (wantT T a') a
/-- what is frozen and made ahead of it, newest first -/
def prep (T : Look) : St → Look → Option St
  | [], _ => some []
  | (.S t, .av a') :: l, σ => match prepS T t a' σ with
    | some (a, w1) => (prep T l (updL σ ((.S t, .av a) :: w1))).map (· ++ (.S t, .av a) :: w1)
    | none => none
  | (.B j, .bx _ cs') :: l, σ => match σ (.B j) with
    | .bx _ cs => match preArgs σ (nthW T cs' (1000 * (j + 1))) (1000 * (j + 1)) cs with
      | some (cs2, w1) => match updL σ w1 (.B j) with
        | .bx st _ => (prep T l (updL σ ((.B j, .bx st cs2) :: w1))).map (· ++ (.B j, .bx st cs2) :: w1)
        | _ => none
      | none => none
    | _ => none
  | _ :: l, σ => prep T l σ

mutual
def lkA : AV → AV → Lk
  | .rf K _, .rf k _ => [(K, k)]
  | .agg a, .agg b => lkL a b
  | .tup a, .tup b => lkL a b
  | .clo _ a b, .clo _ c d => lkL a c ++ lkL b d
  | .when _ a, .when _ b => lkA a b
  | _, _ => []
def lkL : List AV → List AV → Lk
  | a :: as, b :: bs => lkA a b ++ lkL as bs
  | _, _ => []
end

def ddL : Lk → Lk
  | [] => []
  | x :: l => if l.contains x then ddL l else x :: ddL l

def links (σ : Look) : St → Lk
  | [] => []
  | (.S t, .av a') :: l => lkA a' (σ (.S t)).slot ++ links σ l
  | (.B j, .bx _ cs') :: l => (.B j, .B j) :: ((match σ (.B j) with
    | .bx _ cs => lkL cs' cs
    | _ => []) ++ links σ l)
  | _ :: l => links σ l

def fitE (σ T : Look) (lk : Lk) : St → Prop
  | [] => True
  | (.S t, .av a') :: l => XA σ T (lookL lk) a' (σ (.S t)).slot ∧ fitE σ T lk l
  | (.B j, .bx _ cs') :: l => (match σ (.B j) with
    | .bx _ cs => XL σ T (lookL lk) cs' cs
    | _ => False) ∧ lookL lk (.B j) = some (.B j) ∧ fitE σ T lk l
  | (K, .rw _ true e xs) :: l => (match lookL lk K with
    | some k => (match σ k with
      | .rw _ true e' xs' => e = e' ∧ xs = xs'
      | _ => False)
    | none => False) ∧ isRowKey K = true ∧ fitE σ T lk l
  | _ :: _ => False

def Match (σ : Look) (T : St) : Prop :=
  ndK ((ddL (links σ T)).map (·.1)) = true ∧ ndK ((ddL (links σ T)).map (·.2)) = true ∧ ndK (T.map (·.1)) = true ∧ fitE σ (look T) (ddL (links σ T)) T

def Fits (σ T : St) : Prop :=
  match prep (look T) T (look σ) with
  | some wr => Match (updL (look σ) wr) T
  | none => False

section
variable {P : Program} {E : Env} {σ : Look} {tm : Array Value} {w : World} {ow : Ow}

theorem RE.envc {β' : Nat → Nat} (hR : RE P E σ tm w ow) (h : ∀ j st, (σ (.B j)).stamp = some st → β' j = E.β j) : RE P ⟨β', E.hdr, E.lab⟩ σ tm w ow := by
  have ren : Ren (view w ow) (view w ow) E ⟨β', E.hdr, E.lab⟩ σ σ :=
    ⟨fun _ _ _ h => h, fun d st hs => ⟨st, hs, Nat.le_refl _, fun _ => h d st hs⟩, fun k st hs => ⟨st, hs, Nat.le_refl _, fun _ => rfl⟩⟩
  refine ⟨hR.sk, hR.bk, fun t => AV.rep_ren ren _ _ (hR.slot t), fun d st cs hd => ?_, fun k st e xs hk => hR.own k st e xs hk, fun k st e xs hk => hR.shared k st e xs hk, hR.glob⟩
  obtain ⟨h1, h2, h3⟩ := hR.box d st cs hd
  have e : β' d = E.β d := h d st (by rw [hd]; rfl)
  refine ⟨by simp only [e]; exact h1, by simp only [e]; exact h2, ?_⟩
  rcases h3 with ⟨T, l, h3, h4⟩ | ⟨ks, vs, es, c, h0, h3, h5, h4⟩
  · exact .inl ⟨T, l, by simp only [e]; exact h3, AV.repL_ren ren _ _ h4⟩
  · exact .inr ⟨ks, vs, es, c, h0, by simp only [e]; exact h3, h5, AV.repL_ren ren _ _ h4⟩

theorem RE.recell {d st : Nat} {cs cs' : List AV} (hR : RE P E σ tm w ow) (hd : σ (.B d) = .bx st cs) (hcell : ∃ T l, w.heap[E.β d]? = some (.cells ⟨l⟩ T (0, 0))) (h : ∀ T l, w.heap[E.β d]? = some (.cells ⟨l⟩ T (0, 0)) → AV.repL (view w ow) E σ cs' l) :
    RE P E (updL σ [(.B d, .bx st cs')]) tm w ow := by
  have hC : Chg (fun q => q = .B d) E E w w ow ow := Chg.refl _ _ _ _
  obtain ⟨h1, h2, _⟩ := hR.box d st cs hd
  obtain ⟨T, l, h3⟩ := hcell
  have := RE.step (W := fun q => q = .B d) (E' := E) (ow' := ow) (σ' := updL σ [(.B d, .bx st cs')]) (tm' := tm) hR hC
    (fun q hq => by simp only [updL]; rw [if_neg (fun e => hq e.symm)])
    (fun q hq s hs => by
      subst hq
      rw [hd] at hs
      simp [KV.stamp] at hs
      subst hs
      exact ⟨st, by simp [updL, KV.stamp], Nat.le_refl _, fun _ => ⟨rfl, fun _ _ => rfl⟩⟩)
    (fun _ _ => rfl)
    (fun t ht => by cases ht)
    (fun d' hd' => by cases hd'; exact .inl ⟨st, cs', by simp [updL]⟩)
    (fun _ t ht => by cases ht)
    (fun ren d' s c hd' hc => by
      cases hd'
      simp [updL] at hc
      obtain ⟨rfl, rfl⟩ := hc
      exact ⟨h1, h2, .inl ⟨T, l, h3, AV.repL_ren ren _ _ (h T l h3)⟩⟩)
    (fun q s e' ys hq h => by subst hq; simp [updL] at h)
    (fun q s e' ys hq h => by subst hq; simp [updL] at h)
  exact this.1

theorem RE.reslot {t : Nat} {a : AV} (r1 : RE P E σ tm w ow) (r4 : a.rep (view w ow) E σ (tm.getD t Go.undef)) : RE P E (updL σ [(.S t, .av a)]) tm w ow := by
  refine RE.slots r1 (fun k hk => ?_) (fun u => ?_) (fun u => ?_)
  · simp only [updL]
    rw [if_neg (fun e => hk t e.symm)]
  · simp only [updL]
    split
    · rfl
    · exact r1.sk u
  · simp only [updL]
    split
    · rename_i e
      cases e
      exact r4
    · exact r1.slot u

theorem updL_row_only {wr : St} (h : ∀ k v, (k, v) ∈ wr → isRowKey k = true) {k : Key} (hk : isRowKey k = false) : updL σ wr k = σ k := by
  refine updL_not_mem fun v hv => ?_
  have := h k v hv
  rw [hk] at this
  cases this

theorem prepS_sound {T : Look} {t : Nat} {a' a : AV} {w1 : St} (h : prepS T t a' σ = some (a, w1)) (hR : RE P E σ tm w ow) :
    ∃ E' ow', RE P E' (updL σ w1) tm w ow' ∧ Ren (view w ow) (view w ow') E E' σ (updL σ w1) ∧ Evo w ow w ow' ∧ a.rep (view w ow') E' (updL σ w1) (tm.getD t Go.undef) ∧ E'.β = E.β := by
  unfold prepS at h
  split at h
  · rename_i cs' cs hs
    split at h
    · rename_i cs2 w2 ha
      simp only [Option.some.injEq, Prod.mk.injEq] at h
      obtain ⟨rfl, rfl⟩ := h
      have hv := hR.slot t
      rw [hs] at hv
      simp only [AV.rep] at hv
      obtain ⟨l, e, hl⟩ := hv
      obtain ⟨E1, ow1, r1, r2, r3, r4, r5⟩ := preArgs_sound hR ha hl
      exact ⟨E1, ow1, r1, r2, r3, by simp only [AV.rep]; exact ⟨l, e, r4⟩, r5⟩
    · cases h
  · exact preArg_sound hR h (hR.slot t)
theorem prep_sound {T : Look} : ∀ {l : St} {σ : Look} {wr : St} {E : Env} {ow : Ow}, prep T l σ = some wr → RE P E σ tm w ow →
    ∃ E' ow', RE P E' (updL σ wr) tm w ow' ∧ Evo w ow w ow' ∧ E'.β = E.β
  | [], σ, wr, E, ow, h, hR => by
    simp only [prep, Option.some.injEq] at h
    subst h
    exact ⟨E, ow, hR, Evo.refl _ _, rfl⟩
  | (k, v) :: l, σ, wr, E, ow, h, hR => by
    unfold prep at h
    split at h
    · rename_i heq; cases heq
    · rename_i t a' l' heq
      cases heq
      split at h
      · rename_i a w1 ha
        obtain ⟨E1, ow1, r1, r2, r3, r4, r5⟩ := prepS_sound ha hR
        simp only [Option.map_eq_some_iff] at h
        obtain ⟨w2, hp, rfl⟩ := h
        · have q1 := RE.reslot r1 r4
          obtain ⟨E2, ow2, s1, s2, s3⟩ := prep_sound hp q1
          exact ⟨E2, ow2, by rw [updL_append]; exact s1, r3.trans s2, s3.trans r5⟩
      · cases h
    · rename_i j st' cs' l' heq
      cases heq
      split at h
      · rename_i st0 cs hb
        split at h
        · rename_i cs2 w1 ha
          obtain ⟨h1, h2, Ty, lv, h3, h4⟩ := (hR.box j st0 cs hb).cells (preArgs_noMk ha)
          obtain ⟨E1, ow1, r1, r2, r3, r4, r5⟩ := preArgs_sound hR ha h4
          split at h
          · rename_i st cs1 hb1
            simp only [Option.map_eq_some_iff] at h
            obtain ⟨w2, hp, rfl⟩ := h
            have q1 := RE.recell (cs' := cs2) r1 hb1 ⟨Ty, lv, by rw [show E1.β j = E.β j from congrFun r5 j]; exact h3⟩ (fun Ty' lw hlw => by
              have : E1.β j = E.β j := congrFun r5 j
              rw [this, h3] at hlw
              simp at hlw
              rw [← hlw.1]; exact r4)
            obtain ⟨E2, ow2, s1, s2, s3⟩ := prep_sound hp q1
            exact ⟨E2, ow2, by rw [updL_append]; exact s1, r3.trans s2, s3.trans r5⟩
          · cases h
        · cases h
      · cases h
    · rename_i x l' h1 h2 heq
      cases heq
      exact prep_sound h hR

theorem fitE_mem {T : Look} {lk : Lk} : ∀ {l : St}, fitE σ T lk l → ∀ K v, (K, v) ∈ l →
    (∃ t a', K = .S t ∧ v = .av a' ∧ XA σ T (lookL lk) a' (σ (.S t)).slot) ∨
    (∃ j st cs' st' cs, K = .B j ∧ v = .bx st cs' ∧ σ (.B j) = .bx st' cs ∧ XL σ T (lookL lk) cs' cs ∧ lookL lk (.B j) = some (.B j)) ∨
    (∃ st e xs k st', v = .rw st true e xs ∧ isRowKey K = true ∧ lookL lk K = some k ∧ σ k = .rw st' true e xs)
  | [], _, K, v, hm => by cases hm
  | x :: l, h, K, v, hm => by
    unfold fitE at h
    split at h
    · rename_i heq; cases heq
    · rename_i t a' l' heq
      cases heq
      rcases List.mem_cons.1 hm with e | hm
      · cases e; exact .inl ⟨t, a', rfl, rfl, h.1⟩
      · exact fitE_mem h.2 K v hm
    · rename_i j st cs' l' heq
      cases heq
      rcases List.mem_cons.1 hm with e | hm
      · cases e
        obtain ⟨h1, h2, h3⟩ := h
        split at h1
        · rename_i st' cs hb
          exact .inr (.inl ⟨j, st, cs', st', cs, rfl, rfl, hb, h1, h2⟩)
        · exact h1.elim
      · exact fitE_mem h.2.2 K v hm
    · rename_i K' st e xs l' heq
      cases heq
      rcases List.mem_cons.1 hm with e1 | hm
      · cases e1
        obtain ⟨h1, h2, h3⟩ := h
        split at h1
        · rename_i k hk
          split at h1
          · rename_i st' e' xs' hr
            obtain ⟨rfl, rfl⟩ := h1
            exact .inr (.inr ⟨st, _, _, k, st', rfl, h2, hk, hr⟩)
          · exact h1.elim
        · exact h1.elim
      · exact fitE_mem h.2.2 K v hm
    · exact h.elim

theorem slots_bound : ∀ (T : St), ∃ N, ∀ t v, (Key.S t, v) ∈ T → t < N
  | [] => ⟨0, fun t v h => by cases h⟩
  | (k, u) :: l => by
    obtain ⟨N, hN⟩ := slots_bound l
    cases k with
    | S t =>
      refine ⟨N + t + 1, fun t' v h => ?_⟩
      rcases List.mem_cons.1 h with e | h
      · cases e; omega
      · have := hN t' v h; omega
    | _ =>
      refine ⟨N, fun t' v h => ?_⟩
      rcases List.mem_cons.1 h with e | h
      · cases e
      · exact hN t' v h

theorem repL_map {h : View} {E : Env} {σ : Look} {f : Nat → AV} {g : Nat → Value} : ∀ {l : List Nat}, (∀ x ∈ l, (f x).rep h E σ (g x)) → AV.repL h E σ (l.map f) (l.map g)
  | [], _ => by simp [AV.repL]
  | x :: l, hx => by
    simp only [List.map_cons, AV.repL]
    exact ⟨_, _, rfl, hx x (by simp), repL_map fun y hy => hx y (by simp [hy])⟩

theorem match_sound {T : St} (hM : Match σ T) (hR : RE P E σ tm w ow) : ∃ E' ow', RE P E' (look T) tm w ow' ∧ Evo w ow w ow' ∧ E'.β = E.β := by
  obtain ⟨hL1, hL2, hT, hf⟩ := hM
  generalize hlk : ddL (links σ T) = lk at *
  obtain ⟨N, hN⟩ := slots_bound T
  have hmem : ∀ K kv, look T K = kv → kv = .none ∨ (K, kv) ∈ T := fun K kv h => look_mem h
  have hH : Hand σ (look T) (lookL lk) (lookL lk.swap) ((List.range N).map fun t => (σ (.S t)).slot) := by
    refine ⟨lookL_bij hL1 hL2, fun t => ?_, fun t a' ht => ?_, fun j => ?_, fun K st own e xs hK => ?_⟩
    · rcases hmem (.S t) _ rfl with h | h
      · exact .inr h
      · rcases fitE_mem hf _ _ h with ⟨t', a', e1, e2, _⟩ | ⟨j, st, cs', st', cs, e1, _⟩ | ⟨st, e, xs, k, st', e1, e2, _⟩
        · exact .inl ⟨a', e2⟩
        · cases e1
        · cases e2
    · rcases hmem (.S t) _ ht with h | h
      · cases h
      · rcases fitE_mem hf _ _ h with ⟨t', a2, e1, e2, e3⟩ | ⟨j, st, cs', st', cs, e1, _⟩ | ⟨st, e, xs, k, st', e1, e2, _⟩
        · cases e1; cases e2
          exact ⟨_, by rw [List.getElem?_map, List.getElem?_range (hN _ _ h)]; rfl, e3⟩
        · cases e1
        · cases e2
    · rcases hmem (.B j) _ rfl with h | h
      · exact .inl h
      · rcases fitE_mem hf _ _ h with ⟨t', a2, e1, e2, e3⟩ | ⟨j', st, cs', st', cs, e1, e2, e3, e4, e5⟩ | ⟨st, e, xs, k, st', e1, e2, _⟩
        · cases e1
        · cases e1
          exact .inr ⟨st, cs', j, st', cs, e2, e5, e3, e4⟩
        · cases e2
    · rcases hmem K _ hK with h | h
      · cases h
      · rcases fitE_mem hf _ _ h with ⟨t', a2, e1, e2, e3⟩ | ⟨j', st, cs', st', cs, e1, e2, e3, e4, e5⟩ | ⟨st, e, xs, k, st', e1, e2, e3, e4⟩
        · cases e2
        · cases e2
        · cases e1
          exact ⟨rfl, k, st', e3, e4⟩
  have hv : AV.repL (view w ow) E σ ((List.range N).map fun t => (σ (.S t)).slot) (((List.range N).map fun t => tm.getD t Go.undef).toArray).toList := by
    rw [List.toList_toArray]
    exact repL_map fun t _ => hR.slot t
  have h1 := RE.hand hR hH hv
  have hB : ∀ j st, (look T (.B j)).stamp = some st → E.β j = (handEnv E (lookL lk) (lookL lk.swap)).β j := by
    intro j st hs
    rcases hmem (.B j) _ rfl with h | h
    · rw [h] at hs; cases hs
    · rcases fitE_mem hf _ _ h with ⟨t', a2, e1, e2, e3⟩ | ⟨j', st, cs', st', cs, e1, e2, e3, e4, e5⟩ | ⟨st, e, xs, k, st', e1, e2, _⟩
      · cases e1
      · cases e1
        simp [handEnv, e5]
      · cases e2
  have h2 := RE.envc h1 hB
  refine ⟨_, _, RE.slots h2 (fun _ _ => rfl) (fun t => h2.sk t) (fun t => ?_), ?_, rfl⟩
  · by_cases ht : t < N
    · have := h2.slot t
      rw [Array.getD_eq_getD_getElem?, List.getElem?_toArray, List.getElem?_map, List.getElem?_range ht] at this
      simpa using this
    · have : look T (.S t) = .none := by
        rcases hmem (.S t) _ rfl with h | h
        · exact h
        · exact absurd (hN _ _ h) ht
      rw [this]
      simp [KV.slot, AV.rep]
  · refine ⟨rfl, rfl, rfl, Nat.le_refl _, fun b hb h => ⟨rfl, handOw_imm.2 h⟩, fun b hb h => ⟨rfl, handOw_far' h⟩, fun _ => Nat.le_refl _⟩

theorem fits_sound {σ T : St} (h : Fits σ T) (hR : RE P E (look σ) tm w ow) : ∃ E' ow', RE P E' (look T) tm w ow' ∧ Evo w ow w ow' ∧ E'.β = E.β := by
  unfold Fits at h
  split at h
  · rename_i wr hp
    obtain ⟨E1, ow1, r1, r2, r3⟩ := prep_sound hp hR
    obtain ⟨E2, ow2, s1, s2, s3⟩ := match_sound h r1
    exact ⟨E2, ow2, s1, r2.trans s2, s3.trans r3⟩
  · exact h.elim

variable {n : Nat} {Q : Exit → St → Prop}

theorem PWp.norm {σ T : St} {c : Code} (hf : Fits σ T) (h : PWp P n c Q T) : PWp P n c Q σ := by
  intro tm w ow E hn hR
  obtain ⟨E1, ow1, r1, r2, r3⟩ := fits_sound hf hR
  refine Code.wp_mono ?_ (h tm w ow1 E1 hn r1)
  rintro e a w' ⟨σ', ow', E', q, s1, s2, s3, s4, s5⟩
  exact ⟨σ', ow', E', q, s1, s2, s3, r2.trans s4, fun b hb => (s5 b hb).trans (congrFun r3 b)⟩

/-- A loop: the states at its head are those of a family; each round lowers a measure. -/
theorem PWp.loopF {ι : Type} {c : Code} {σ : St} (St_ : ι → St) (I : ι → Prop) (m : ι → Nat) (i0 : ι) (h0 : I i0) (hs : Fits σ (St_ i0))
    (round : ∀ i, I i → PWp P n c (thenQ (fun σ' => ∃ j, I j ∧ m j < m i ∧ Fits σ' (St_ j)) Q) (St_ i)) : PWp P n (.loop c) Q σ := by
  refine PWp.norm hs ?_
  intro tm w ow E hn hR
  refine wp_loop_ghost (fun k a w' => ∃ i E' ow', I i ∧ m i = k ∧ RE P E' (look (St_ i)) a.tmps w' ow' ∧ a.tmps.size = tm.size ∧ a.defers = [] ∧ Evo w ow w' ow' ∧ ∀ b, b < 1000 → E'.β b = E.β b) (m i0)
    ⟨i0, E, ow, h0, rfl, hR, rfl, rfl, Evo.refl _ _, fun _ _ => rfl⟩ ?_
  rintro k a w1 ⟨i, E1, ow1, hi, hm, r1, r2, r3, r4, r5⟩
  rw [act_eta r3]
  refine Code.wp_mono ?_ (round i hi a.tmps w1 ow1 E1 (by omega) r1)
  rintro e a2 w2 ⟨σ2, ow2, E2, q, s1, s2, s3, s4, s5⟩
  cases e with
  | normal =>
    obtain ⟨j, hj, hlt, hfit⟩ := q
    obtain ⟨E3, ow3, t1, t2, t3⟩ := fits_sound hfit s1
    exact ⟨m j, by omega, j, E3, ow3, hj, rfl, t1, s2.trans r2, s3, (r4.trans s4).trans t2, fun b hb => (congrFun t3 b).trans ((s5 b hb).trans (r5 b hb))⟩
  | _ => exact ⟨σ2, ow2, E2, q, s1, s2.trans r2, s3, r4.trans s4, fun b hb => (s5 b hb).trans (r5 b hb)⟩

/-! The results of a function. -/
def resA (P : Program) (σ : Look) : ResultVar → Option AV
  | .tmp t => some (σ (.S t)).slot
  | .cell a t => match (σ (.S a)).slot with
    | .ptr b off st => match boxAt σ b st with
      | some cs => partA P t cs off
      | none => none
    | _ => none

def noS : St → St
  | [] => []
  | (.S _, _) :: l => noS l
  | x :: l => x :: noS l

theorem look_noS : ∀ (l : St) (k : Key), look (noS l) k = (match k with | .S _ => .none | _ => look l k)
  | [], k => by cases k <;> rfl
  | (k', v) :: l, k => by
    cases k' with
    | S t =>
      simp only [noS, look_noS l k, look]
      cases k <;> simp
    | _ =>
      simp only [noS, look, look_noS l k]
      cases k <;> simp

end
end Go.Pw
namespace Go.Pw
variable [Mode]
set_option linter.unusedSimpArgs false
set_option linter.unusedVariables false
set_option linter.unusedSectionVars false

theorem Key.q_PP {a b c d : Key} : (((a, b) : Key × Key) == (c, d)) = ((a == c) && (b == d)) := rfl
theorem Key.q_SS {a b : Nat} : ((Key.S a : Key) == Key.S b) = ((a == b)) := by rw [Bool.eq_iff_iff]; simp
theorem Key.q_SB {a b : Nat} : ((Key.S a : Key) == Key.B b) = (false) := by simp
theorem Key.q_SRS {a b b' : Nat} : ((Key.S a : Key) == Key.RS b b') = (false) := by simp
theorem Key.q_SRC {a b b' : Nat} : ((Key.S a : Key) == Key.RC b b') = (false) := by simp
theorem Key.q_BS {a b : Nat} : ((Key.B a : Key) == Key.S b) = (false) := by simp
theorem Key.q_BB {a b : Nat} : ((Key.B a : Key) == Key.B b) = ((a == b)) := by rw [Bool.eq_iff_iff]; simp
theorem Key.q_BRS {a b b' : Nat} : ((Key.B a : Key) == Key.RS b b') = (false) := by simp
theorem Key.q_BRC {a b b' : Nat} : ((Key.B a : Key) == Key.RC b b') = (false) := by simp
theorem Key.q_RSS {a a' b : Nat} : ((Key.RS a a' : Key) == Key.S b) = (false) := by simp
theorem Key.q_RSB {a a' b : Nat} : ((Key.RS a a' : Key) == Key.B b) = (false) := by simp
theorem Key.q_RSRS {a a' b b' : Nat} : ((Key.RS a a' : Key) == Key.RS b b') = ((a == b) && (a' == b')) := by rw [Bool.eq_iff_iff]; simp
theorem Key.q_RSRC {a a' b b' : Nat} : ((Key.RS a a' : Key) == Key.RC b b') = (false) := by simp
theorem Key.q_RCS {a a' b : Nat} : ((Key.RC a a' : Key) == Key.S b) = (false) := by simp
theorem Key.q_RCB {a a' b : Nat} : ((Key.RC a a' : Key) == Key.B b) = (false) := by simp
theorem Key.q_RCRS {a a' b b' : Nat} : ((Key.RC a a' : Key) == Key.RS b b') = (false) := by simp
theorem Key.q_RCRC {a a' b b' : Nat} : ((Key.RC a a' : Key) == Key.RC b b') = ((a == b) && (a' == b')) := by rw [Bool.eq_iff_iff]; simp

section
variable {P : Program} {E : Env} {σ : Look} {tm : Array Value} {w : World} {ow : Ow}

theorem loadB_sound {b st off : Nat} {cs : List AV} {T : TypeId} {a : AV} (hR : RE P E σ tm w ow) (hb : boxAt σ b st = some cs) (ha : partA P T cs off = some a) :
    ∃ v, (loadVar T ⟨E.β b, off, none⟩).run P w = .ok v w ∧ a.rep (view w ow) E σ v := by
  have hno := boxAt_no hb
  have hb := boxAt_spec hb
  obtain ⟨h1, h2, T', l, h3, h4⟩ := (hR.box b st cs hb).cells hno
  obtain ⟨hlen, hget⟩ := repL_iff.1 h4
  have hcell : ∀ j v, l[off + j]? = some v → w.cell? ⟨E.β b, off + j, none⟩ = some v := by
    intro j v hv
    rw [cell_of_row w _ _ _ _ _ h3]
    simpa using hv
  unfold partA at ha
  split at ha
  · rename_i hagg
    split at ha
    · simp only [Option.some.injEq] at ha
      subst ha
      refine ⟨.agg ⟨(l.drop off).take (P.cellsOf T)⟩, (run_loadVar_cells (P := P) (t := T) ((l.drop off).take (P.cellsOf T)) (hasT_agg hagg) (fun j v hv => ?_)).1 hagg (by simp; omega), ?_⟩
      · rw [List.getElem?_take] at hv
        split at hv
        · rw [List.getElem?_drop] at hv
          exact hcell j v hv
        · cases hv
      · simp only [AV.rep]
        refine ⟨_, rfl, repL_iff.2 ⟨by simp [hlen], fun i a v hx hy => ?_⟩⟩
        rw [List.getElem?_take] at hx hy
        split at hx
        · rename_i hlt'
          rw [if_pos hlt'] at hy
          rw [List.getElem?_drop] at hx hy
          exact hget _ a v hx hy
        · cases hx
    · cases ha
  · rename_i hagg
    split at ha
    · rename_i hh
      have hlt' : off < l.length := by
        have := (List.getElem?_eq_some_iff.1 ha).1
        omega
      refine ⟨l[off], (run_loadVar_cells (P := P) (t := T) [l[off]] hh (fun j v hv => ?_)).2 (by simpa using hagg) _ rfl, hget off a _ ha (List.getElem?_eq_getElem hlt')⟩
      cases j with
      | zero => simp at hv; subst hv; exact hcell 0 _ (by simp)
      | succ j => simp at hv
    · cases ha

def resL (P : Program) (σ : Look) : List ResultVar → Option (List AV)
  | [] => some []
  | r :: l => match resA P σ r, resL P σ l with
    | some a, some as => some (a :: as)
    | _, _ => none

def oneOr : List AV → AV
  | [a] => a
  | as => .tup as

/-- where a function ends -/
def Done (P : Program) (rs : List ResultVar) (Ret : St) (σ : St) : Prop :=
  match resL P (look σ) rs with
  | some as => Fits ((.S 0, .av (oneOr as)) :: noS σ) Ret
  | none => False

def resM (tm : Array Value) : ResultVar → Sem Value
  | .tmp t => pure (tm.getD t undef)
  | .cell a t => do loadVar t (← asAddr (tm.getD a undef))

theorem resA_sound {r : ResultVar} {a : AV} (hR : RE P E σ tm w ow) (h : resA P σ r = some a) : ∃ v, (resM tm r).run P w = .ok v w ∧ a.rep (view w ow) E σ v := by
  cases r with
  | tmp t =>
    simp only [resA, Option.some.injEq] at h
    subst h
    exact ⟨_, rfl, hR.slot t⟩
  | cell c t =>
    simp only [resA] at h
    split at h
    · rename_i b off st he
      split at h
      · rename_i cs hb
        have hs := hR.slot c
        rw [he] at hs
        have hval := ptr_val hs (by rw [boxAt_spec hb]; rfl)
        obtain ⟨v, k1, k2⟩ := loadB_sound hR hb h
        refine ⟨v, ?_, k2⟩
        simp only [resM, hval]
        exact k1
      · cases h
    · cases h

theorem resL_sound : ∀ {rs : List ResultVar} {as : List AV}, RE P E σ tm w ow → resL P σ rs = some as → ∃ vs, (rs.mapM (resM tm)).run P w = .ok vs w ∧ AV.repL (view w ow) E σ as vs
  | [], as, hR, h => by
    simp only [resL, Option.some.injEq] at h
    subst h
    exact ⟨[], rfl, by simp [AV.repL]⟩
  | r :: rs, as, hR, h => by
    simp only [resL] at h
    split at h
    · rename_i a as' ha has
      simp only [Option.some.injEq] at h
      subst h
      obtain ⟨v, h1, h2⟩ := resA_sound hR ha
      obtain ⟨vs, k1, k2⟩ := resL_sound hR has
      refine ⟨v :: vs, ?_, by simp only [AV.repL]; exact ⟨v, vs, rfl, h2, k2⟩⟩
      simp only [List.mapM_cons]
      simp [h1, k1]
    · cases h

theorem results_sound {fn : Func} {as : List AV} (hR : RE P E σ tm w ow) (h : resL P σ fn.results.toList = some as) : ∃ v, (results fn tm).run P w = .ok v w ∧ (oneOr as).rep (view w ow) E σ v := by
  obtain ⟨vs, h1, h2⟩ := resL_sound hR h
  have hm : (fn.results.mapM (resM tm)).run P w = .ok vs.toArray w := by
    rw [Array.mapM_eq_mapM_toList]
    simp [h1]
  have hres : results fn tm = (do
      let vs ← fn.results.mapM (resM tm)
      pure (if h : vs.size = 1 then vs[0] else .tuple vs)) := by
    unfold results
    rfl
  rw [hres]
  simp only [Sem.run_bind, hm]
  refine ⟨_, rfl, ?_⟩
  match as, vs, h2 with
  | [], vs, h2 => simp [AV.repL] at h2; subst h2; simp [oneOr, AV.rep, AV.repL]
  | [a], vs, h2 =>
    simp only [AV.repL] at h2
    obtain ⟨v, vs', rfl, q, rfl⟩ := h2
    simpa [oneOr] using q
  | a :: b :: l, vs, h2 =>
    have hl := (repL_iff.1 h2).1
    have : ¬ vs.toArray.size = 1 := by simp at hl ⊢; omega
    rw [dif_neg this]
    simp only [oneOr, AV.rep]
    exact ⟨vs, rfl, h2⟩

theorem RE.one {v : Value} {a : AV} {s : St} (hR : RE P E (look s) tm w ow) (ha : a.rep (view w ow) E (look s) v) : RE P E (look ((.S 0, .av a) :: noS s)) #[v] w ow := by
  have hl : ∀ k, (∀ t, k ≠ .S t) → look ((.S 0, .av a) :: noS s) k = look s k := by
    intro k hk
    rw [look_cons, if_neg (fun e => hk 0 e.symm), look_noS]
    cases k with
    | S t => exact absurd rfl (hk t)
    | _ => rfl
  have hs : ∀ t, look ((.S 0, .av a) :: noS s) (.S t) = if t = 0 then .av a else .none := by
    intro t
    rw [look_cons, look_noS]
    by_cases h : t = 0
    · subst h; simp
    · simp [h, Ne.symm h]
  refine RE.slots hR hl (fun t => ?_) (fun t => ?_)
  · rw [hs]; split <;> rfl
  · rw [hs]
    split
    · rename_i h; subst h; exact ha
    · simp [KV.slot, AV.rep]

theorem PCalls.of {f : FuncId} {fn : Func} {c : Code} {In Ret : St} (hf : P.funcs[f]? = some fn) (hn : (fn.name != "runtime.NumGoroutine") = true) (hb : fn.body = some c)
    (h : PWp P fn.ntmps c (fun e s => (e = .normal ∨ e = .ret) ∧ Done P fn.results.toList Ret s) In) : PCalls P f In Ret := by
  refine ⟨by simp only [entT, hf]; simp [hn, hb], fun vals w ow E hR _ => calls_of_wp hf hb ?_⟩
  have hR' : RE P E (look In) (vals ++ Array.replicate (fn.ntmps - vals.size) undef) w ow := by
    refine RE.slots hR (fun _ _ => rfl) hR.sk (fun t => ?_)
    have := hR.slot t
    have e : (vals ++ Array.replicate (fn.ntmps - vals.size) undef).getD t Go.undef = vals.getD t Go.undef := by
      simp only [Array.getD_eq_getD_getElem?, Array.getElem?_append]
      split
      · rfl
      · rename_i hlt
        rw [Array.getElem?_eq_none (by omega : vals.size ≤ t), Array.getElem?_replicate]
        split <;> rfl
    rw [e]
    exact this
  refine Code.wp_mono ?_ (h _ w ow E (by simp; omega) hR')
  rintro e a w' ⟨s, ow', E', ⟨he, hd⟩, r1, r2, r3, r4, r5⟩
  unfold Done at hd
  split at hd
  · rename_i as has
    obtain ⟨v, hv1, hv2⟩ := results_sound r1 has
    obtain ⟨E2, ow2, s1, s2, s3⟩ := fits_sound hd (RE.one r1 hv2)
    have : a.defers = [] ∧ ∃ v, (results fn a.tmps).run P w' = .ok v w' ∧ ∃ v' ow' E', Ending.returned v = .returned v' ∧ RE P E' (look Ret) #[v'] w' ow' ∧ Evo w ow w' ow' ∧ ∀ j, j < 1000 → (∃ st cs, look In (.B j) = .bx st cs) → E'.β j = E.β j :=
      ⟨r3, v, hv1, v, ow2, E2, rfl, s1, r4.trans s2, fun j hj _ => (congrFun s3 j).trans (r5 j hj)⟩
    rcases he with rfl | rfl <;> exact this
  · exact hd.elim

theorem PCalls.of_k {f : FuncId} {fn : Func} {c : Code} {In Ret : St} (hf : P.funcs[f]? = some fn) (hn : (fn.name != "runtime.NumGoroutine") = true) (hb : fn.body = some c)
    (h : ∀ Q : Exit → St → Prop, (∀ s, Done P fn.results.toList Ret s → Q .normal s) → (∀ s, Done P fn.results.toList Ret s → Q .ret s) → PWp P fn.ntmps c Q In) : PCalls P f In Ret :=
  PCalls.of hf hn hb (h _ (fun _ h => ⟨.inl rfl, h⟩) (fun _ h => ⟨.inr rfl, h⟩))

variable {n : Nat} {Q : Exit → St → Prop} {s0 : St}

theorem PWp.block_k {id : Nat} {c : Code} {K : St → Prop} (h : ∀ Q' : Exit → St → Prop, (∀ s, K s → Q' .normal s) → (∀ s, K s → Q' (.exit id) s) → (∀ s, Q .ret s → Q' .ret s) →
    (∀ i s, i ≠ id → Q (.exit i) s → Q' (.exit i) s) → PWp P n c Q' s0) : PWp P n (.block id c) (thenQ K Q) s0 := by
  refine PWp.block (h _ (fun s h => ?_) (fun s h => ?_) (fun s h => ?_) (fun i s hi h => ?_))
  · exact h
  · simp only [blockQ, if_true]; exact h
  · exact h
  · simp only [blockQ]; rw [if_neg hi]; exact h

/-- the same, where the block stands last -/
theorem PWp.block_l {id : Nat} {c : Code} (h : ∀ Q' : Exit → St → Prop, (∀ s, Q .normal s → Q' .normal s) → (∀ s, Q .normal s → Q' (.exit id) s) → (∀ s, Q .ret s → Q' .ret s) →
    (∀ i s, i ≠ id → Q (.exit i) s → Q' (.exit i) s) → PWp P n c Q' s0) : PWp P n (.block id c) Q s0 := by
  refine PWp.block (h _ (fun s h => ?_) (fun s h => ?_) (fun s h => ?_) (fun i s hi h => ?_))
  · exact h
  · simp only [blockQ, if_true]; exact h
  · exact h
  · simp only [blockQ]; rw [if_neg hi]; exact h

/-- only the slots that are named are kept -/
def dedN : List Key → St → St
  | _, [] => []
  | seen, (k, v) :: l => match k with
    | .S _ => dedN seen l
    | k => if seen.contains k then dedN seen l else (k, v) :: dedN (k :: seen) l

def keepS (ks : List Nat) (σ : St) : St := (ks.map fun t => (Key.S t, look σ (.S t))) ++ dedN [] σ

theorem look_dedN : ∀ (l : St) (seen : List Key) (k : Key), (∀ t, k ≠ .S t) → seen.contains k = false → look (dedN seen l) k = look l k
  | [], seen, k, hk, hs => rfl
  | (k', v) :: l, seen, k, hk, hs => by
    unfold dedN
    split
    · rw [look_dedN l seen k hk hs, look_cons, if_neg (fun e => hk _ e.symm)]
    · split
      · rename_i hc
        rw [look_dedN l seen k hk hs, look_cons, if_neg]
        intro e
        rw [e, hs] at hc
        cases hc
      · rw [look_cons, look_cons]
        by_cases e : k' = k
        · rw [if_pos e, if_pos e]
        · rw [if_neg e, if_neg e]
          exact look_dedN l _ k hk (by rw [List.contains_cons, hs, Bool.or_false]; simpa using fun h => e h.symm)

theorem look_dedN_S : ∀ (l : St) (seen : List Key) (t : Nat), look (dedN seen l) (.S t) = .none
  | [], seen, t => rfl
  | (k', v) :: l, seen, t => by
    unfold dedN
    split
    · exact look_dedN_S l seen t
    · rename_i h
      split
      · exact look_dedN_S l seen t
      · rw [look_cons, if_neg (h t)]
        exact look_dedN_S l _ t

theorem look_keepS (ks : List Nat) (l : St) (k : Key) : look (keepS ks l) k = look l k ∨ ((∃ t, k = .S t) ∧ look (keepS ks l) k = .none) := by
  unfold keepS
  induction ks with
  | nil =>
    simp only [List.map_nil, List.nil_append]
    by_cases h : ∃ t, k = .S t
    · obtain ⟨t, rfl⟩ := h
      exact .inr ⟨⟨t, rfl⟩, look_dedN_S _ _ _⟩
    · exact .inl (look_dedN l [] k (fun t e => h ⟨t, e⟩) rfl)
  | cons t ks ih =>
    simp only [List.map_cons, List.cons_append, look_cons]
    split
    · rename_i e
      rw [e]
      exact .inl rfl
    · exact ih

theorem RE.keep {ks : List Nat} {l : St} (hR : RE P E (look l) tm w ow) : RE P E (look (keepS ks l)) tm w ow := by
  refine RE.slots hR (fun k hk => ?_) (fun t => ?_) (fun t => ?_)
  · rcases look_keepS ks l k with h | ⟨⟨t, e⟩, _⟩
    · exact h
    · exact absurd e (hk t)
  · rcases look_keepS ks l (.S t) with h | ⟨_, h⟩ <;> rw [h]
    · exact hR.sk t
    · rfl
  · rcases look_keepS ks l (.S t) with h | ⟨_, h⟩ <;> rw [h]
    · exact hR.slot t
    · simp [KV.slot, AV.rep]

theorem PWp.keep (ks : List Nat) {c : Code} {s : St} (h : PWp P n c Q (keepS ks s)) : PWp P n c Q s :=
  fun tm w ow E hn hR => h tm w ow E hn (RE.keep hR)

theorem runOps_mono {orc : Orc} {mv : FuncId → Nat → Option TypeId} {ops : Array Oper} {K K' : St → Prop} (h : ∀ s, K s → K' s) : ∀ {l : List Oper} {s : St}, runOps P orc mv ops l s K → runOps P orc mv ops l s K'
  | [], s, hr => h s hr
  | o :: l, s, hr => by
    unfold runOps at hr ⊢
    split at hr
    · exact ⟨hr.1, runOps_mono h hr.2⟩
    · exact hr.elim

/-- a region that stands first in a sequence; of the slots only those named are kept -/
theorem PWp.seq_rg (ks : List Nat) {orc : Orc} (hO : OrcOk P orc) {mv : FuncId → Nat → Option TypeId} {id : Nat} {ops : List Oper} {y : Code} {s : St} (hd : dstOk n ops = true)
    (h : ∀ K : St → Prop, (∀ s, PWp P n y Q s → K s) → runOps P orc mv ops.toArray ops s (fun s => K (keepS ks s))) : PWp P n (.seq (.region id ops.toArray false) y) Q s :=
  PWp.seq (PWp.region hO hd (runOps_mono (fun s hs => PWp.keep ks hs) (h (fun s => PWp P n y Q s) fun s hs => hs)))

/-- a region that stands last -/
theorem PWp.rg (ks : List Nat) {orc : Orc} (hO : OrcOk P orc) {mv : FuncId → Nat → Option TypeId} {id : Nat} {ops : List Oper} {s : St} (hd : dstOk n ops = true)
    (h : runOps P orc mv ops.toArray ops s (fun s => Q .normal (keepS ks s))) : PWp P n (.region id ops.toArray false) Q s := by
  intro tm w ow E hn hR
  refine wp_region_lit (run_seq hO h hR (dstOk_le hd hn) fun s' hk tm2 w2 E2 ow2 s1 s2 s3 s4 => ?_)
  exact ⟨_, ow2, E2, hk, RE.keep s1, s2, rfl, s3, s4⟩

theorem PWp.loop_k {ι : Type} {c : Code} (St_ : ι → St) (I : ι → Prop) (m : ι → Nat) (i0 : ι) (h0 : I i0) (hs : Fits s0 (St_ i0))
    (round : ∀ i, I i → ∀ J : St → Prop, (∀ s j, I j → m j < m i → Fits s (St_ j) → J s) → PWp P n c (thenQ J Q) (St_ i)) : PWp P n (.loop c) Q s0 :=
  PWp.loopF St_ I m i0 h0 hs fun i hi => round i hi _ fun s j h1 h2 h3 => ⟨j, h1, h2, h3⟩

end
end Go.Pw
