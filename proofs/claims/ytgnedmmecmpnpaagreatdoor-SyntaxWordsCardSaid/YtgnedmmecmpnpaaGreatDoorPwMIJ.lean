/- Steps of the relation that change the world: new blocks, writes into blocks of our own. -/
import Derived.Test.YtgnedmmecmpnpaaGreatDoorPwMGH
namespace Go.Pw
variable [Mode]
set_option linter.unusedSimpArgs false
set_option linter.unusedVariables false
set_option linter.unusedSectionVars false

section
variable {P : Program} {E E' : Env} {σ σ' : Look} {tm tm' : Array Value} {w w' : World} {ow ow' : Ow}

theorem RE.notS (hR : RE P E σ tm w ow) {k : Key} {st : Nat} (h : (σ k).stamp = some st) (t : Nat) : k ≠ .S t := fun e => by
  have := hR.sk t
  rw [← e, h] at this
  cases this
theorem RE.rowNotB (hR : RE P E σ tm w ow) {k : Key} {st : Nat} {own : Bool} {e : TypeId} {xs : List (List PV)} (h : σ k = .rw st own e xs) (d : Nat) : k ≠ .B d := fun e1 => by
  have := hR.bk d
  rw [← e1, h] at this
  rcases this with ⟨_, _, h⟩ | h | ⟨_, h⟩ <;> cases h

def isRowKey : Key → Bool
  | .RS _ _ | .RC _ _ => true
  | _ => false

theorem evo_alloc (w : World) (ow : Ow) (o : Obj) (q : Own) : Evo w ow (w.alloc o) (fun b => if b = w.heap.size then q else ow b) :=
  ⟨rfl, rfl, rfl, by simp, fun b hb h => ⟨heap_alloc_old w o hb, by show (if b = w.heap.size then q else ow b) = _; rw [if_neg (by omega)]; exact h⟩, fun b hb h => ⟨heap_alloc_old w o hb, by show (if b = w.heap.size then q else ow b) = _; rw [if_neg (by omega)]; exact h⟩, fun _ => Nat.le_refl _⟩

theorem evo_setRow {w : World} {ow : Ow} {g : Nat} (cs : Array Value) (h : ow g = .mine) : Evo w ow (w.setRow g cs) ow :=
  ⟨rfl, rfl, rfl, by simp, fun b _ hi => ⟨setRow_other w g b cs (fun e => by subst e; rw [h] at hi; cases hi), hi⟩, fun b _ hi => ⟨setRow_other w g b cs (fun e => by subst e; rw [h] at hi; cases hi), hi⟩, fun _ => Nat.le_refl _⟩

/-- a new box -/
theorem RE.newBox {d : Nat} {cs : List AV} {l : List Value} (T : TypeId) (hR : RE P E σ tm w ow) (hl : AV.repL (view w ow) E σ cs l) :
    ∃ E' ow', RE P E' (updL σ [(.B d, .bx (nst (σ (.B d))) cs)]) tm (w.alloc (.cells ⟨l⟩ T)) ow' ∧ Ren (view w ow) (view (w.alloc (.cells ⟨l⟩ T)) ow') E E' σ (updL σ [(.B d, .bx (nst (σ (.B d))) cs)]) ∧
      Evo w ow (w.alloc (.cells ⟨l⟩ T)) ow' ∧ E'.β d = w.heap.size ∧ (∀ b, b ≠ d → E'.β b = E.β b) := by
  let E' : Env := ⟨fun b => if b = d then w.heap.size else E.β b, E.hdr, fun b => if b = w.heap.size then some (.B d) else E.lab b⟩
  let ow' : Ow := fun b => if b = w.heap.size then .mine else ow b
  have evo : Evo w ow (w.alloc (.cells ⟨l⟩ T)) ow' := evo_alloc w ow _ .mine
  have hC : Chg (fun q => q = .B d) E E' w (w.alloc (.cells ⟨l⟩ T)) ow ow' :=
    ⟨evo, fun b q hb h1 h2 h3 => ⟨heap_alloc_old w _ hb, by simp only [E']; rw [if_neg (by omega)]; exact h1, by simp only [ow']; rw [if_neg (by omega)]; exact h2⟩,
     fun b hb => by simp only [E']; rw [if_neg (fun e => hb (by rw [e]))], fun _ _ => rfl⟩
  have := RE.step (W := fun q => q = .B d) (E' := E') (ow' := ow') (σ' := updL σ [(.B d, .bx (nst (σ (.B d))) cs)]) (tm' := tm) hR hC
    (fun q hq => by simp only [updL]; rw [if_neg (fun e => hq e.symm)])
    (fun q hq s hs => by
      subst hq
      refine ⟨nst (σ (.B d)), by simp [updL, KV.stamp], Nat.le_of_lt (nst_lt hs), fun e => ?_⟩
      have := nst_lt hs
      omega)
    (fun _ _ => rfl) (fun t ht => by cases ht) (fun d' hd => by cases hd; exact .inl ⟨_, _, by simp [updL]; exact ⟨rfl, rfl⟩⟩) (fun _ t ht => by cases ht)
    (fun ren d' s cs' hd h => by
      cases hd
      simp only [updL, if_true, KV.bx.injEq] at h
      obtain ⟨_, rfl⟩ := h
      exact ⟨by simp [E'], by simp [E', ow'], .inl ⟨T, l, by simp only [E', if_true]; exact heap_alloc_new w _, AV.repL_ren ren _ _ hl⟩⟩)
    (fun q s e' ys hq h => by subst hq; simp [updL] at h)
    (fun q s e' ys hq h => by subst hq; simp [updL] at h)
  exact ⟨E', ow', this.1, this.2, evo, by simp [E'], fun b hb => by simp [E', hb]⟩

/-- a box's cells are written -/
theorem RE.setBox {d st : Nat} {cs cs' : List AV} {l l' : List Value} {T : TypeId} (hR : RE P E σ tm w ow) (hd : σ (.B d) = .bx st cs)
    (hg : w.heap[E.β d]? = some (.cells ⟨l⟩ T (0, 0))) (hl : AV.repL (view w ow) E σ cs' l') :
    RE P E (updL σ [(.B d, .bx st cs')]) tm (w.setRow (E.β d) ⟨l'⟩) ow ∧ Ren (view w ow) (view (w.setRow (E.β d) ⟨l'⟩) ow) E E σ (updL σ [(.B d, .bx st cs')]) ∧ Evo w ow (w.setRow (E.β d) ⟨l'⟩) ow := by
  obtain ⟨h1, h2, _⟩ := hR.box d st cs hd
  have evo : Evo w ow (w.setRow (E.β d) ⟨l'⟩) ow := evo_setRow _ h2
  have hC : Chg (fun q => q = .B d) E E w (w.setRow (E.β d) ⟨l'⟩) ow ow :=
    ⟨evo, fun b q hb k1 k2 k3 => ⟨setRow_other w _ b _ (fun e => k3 (by rw [e, h1] at k1; simpa using k1.symm)), k1, k2⟩, fun _ _ => rfl, fun _ _ => rfl⟩
  have := RE.step (W := fun q => q = .B d) (E' := E) (ow' := ow) (σ' := updL σ [(.B d, .bx st cs')]) (tm' := tm) hR hC
    (fun q hq => by simp only [updL]; rw [if_neg (fun e => hq e.symm)])
    (fun q hq s hs => by
      subst hq
      rw [hd] at hs
      simp [KV.stamp] at hs
      subst hs
      exact ⟨st, by simp [updL, KV.stamp], Nat.le_refl _, fun _ => ⟨rfl, fun _ _ => rfl⟩⟩)
    (fun _ _ => rfl) (fun t ht => by cases ht) (fun d' hd => by cases hd; exact .inl ⟨_, _, by simp [updL]; exact ⟨rfl, rfl⟩⟩) (fun _ t ht => by cases ht)
    (fun ren d' s cs2 hd' h => by
      cases hd'
      simp only [updL, if_true, KV.bx.injEq] at h
      obtain ⟨_, rfl⟩ := h
      exact ⟨h1, h2, .inl ⟨T, l', setRow_heap w _ _ _ T _ hg, AV.repL_ren ren _ _ hl⟩⟩)
    (fun q s e' ys hq h => by subst hq; simp [updL] at h)
    (fun q s e' ys hq h => by subst hq; simp [updL] at h)
  exact ⟨this.1, this.2, evo⟩

/-- a map's header: its keys; what the block of a map is -/
def mapRep (h : View) (E : Env) (σ : Look) (ks : List (List UInt8)) (vs : List AV) (o : Obj) : Prop :=
  ∃ es clock, o = .map es clock ∧ es.toList.map (·.key) = ks.map (fun k => .string ⟨k.toArray⟩) ∧ AV.repL h E σ vs (es.toList.map (·.val))
/-- a new map -/
theorem RE.newMap {d : Nat} (hR : RE P E σ tm w ow) :
    ∃ E' ow', RE P E' (updL σ [(.B d, .bx (nst (σ (.B d))) [.mk []])]) tm (w.alloc (.map #[] 0)) ow' ∧ Ren (view w ow) (view (w.alloc (.map #[] 0)) ow') E E' σ (updL σ [(.B d, .bx (nst (σ (.B d))) [.mk []])]) ∧
      Evo w ow (w.alloc (.map #[] 0)) ow' ∧ E'.β d = w.heap.size ∧ (∀ b, b ≠ d → E'.β b = E.β b) := by
  let E' : Env := ⟨fun b => if b = d then w.heap.size else E.β b, E.hdr, fun b => if b = w.heap.size then some (.B d) else E.lab b⟩
  let ow' : Ow := fun b => if b = w.heap.size then .mine else ow b
  have evo : Evo w ow (w.alloc (.map #[] 0)) ow' := evo_alloc w ow _ .mine
  have hC : Chg (fun q => q = .B d) E E' w (w.alloc (.map #[] 0)) ow ow' :=
    ⟨evo, fun b q hb h1 h2 h3 => ⟨heap_alloc_old w _ hb, by simp only [E']; rw [if_neg (by omega)]; exact h1, by simp only [ow']; rw [if_neg (by omega)]; exact h2⟩,
     fun b hb => by simp only [E']; rw [if_neg (fun e => hb (by rw [e]))], fun _ _ => rfl⟩
  have := RE.step (W := fun q => q = .B d) (E' := E') (ow' := ow') (σ' := updL σ [(.B d, .bx (nst (σ (.B d))) [.mk []])]) (tm' := tm) hR hC
    (fun q hq => by simp only [updL]; rw [if_neg (fun e => hq e.symm)])
    (fun q hq s hs => by
      subst hq
      refine ⟨nst (σ (.B d)), by simp [updL, KV.stamp], Nat.le_of_lt (nst_lt hs), fun e => ?_⟩
      have := nst_lt hs
      omega)
    (fun _ _ => rfl) (fun t ht => by cases ht) (fun d' hd => by cases hd; exact .inl ⟨_, _, by simp [updL]; exact ⟨rfl, rfl⟩⟩) (fun _ t ht => by cases ht)
    (fun ren d' s cs' hd h => by
      cases hd
      simp only [updL, if_true, KV.bx.injEq] at h
      obtain ⟨_, rfl⟩ := h
      exact ⟨by simp [E'], by simp [E', ow'], .inr ⟨[], [], #[], 0, rfl, by simp only [E', if_true]; exact heap_alloc_new w _, rfl, rfl⟩⟩)
    (fun q s e' ys hq h => by subst hq; simp [updL] at h)
    (fun q s e' ys hq h => by subst hq; simp [updL] at h)
  exact ⟨E', ow', this.1, this.2, evo, by simp [E'], fun b hb => by simp [E', hb]⟩

/-- a map is given another -/
theorem RE.setMap {d st : Nat} {ks ks' : List (List UInt8)} {vs vs' : List AV} {o' : Obj} {w' : World} (hR : RE P E σ tm w ow) (hd : σ (.B d) = .bx st (.mk ks :: vs))
    (hw : w'.heap[E.β d]? = some o') (hoth : ∀ b, b ≠ E.β d → w'.heap[b]? = w.heap[b]?) (hsz : w'.heap.size = w.heap.size) (hos : w'.os = w.os) (htp : w'.tape = w.tape) (hou : w'.output = w.output) (hdr : w'.drawn = w.drawn)
    (hl : mapRep (view w ow) E σ ks' vs' o') :
    RE P E (updL σ [(.B d, .bx st (.mk ks' :: vs'))]) tm w' ow ∧ Ren (view w ow) (view w' ow) E E σ (updL σ [(.B d, .bx st (.mk ks' :: vs'))]) ∧ Evo w ow w' ow := by
  obtain ⟨h1, h2, _⟩ := hR.box d st _ hd
  have evo : Evo w ow w' ow := ⟨hos, htp, hou, Nat.le_of_eq hsz.symm, fun b _ h => ⟨hoth b (fun e => by rw [e, h2] at h; cases h), h⟩, fun b _ h => ⟨hoth b (fun e => by rw [e, h2] at h; cases h), h⟩, fun _ => Nat.le_of_eq hdr.symm⟩
  have hC : Chg (fun q => q = .B d) E E w w' ow ow :=
    ⟨evo, fun b q hb k1 k2 k3 => ⟨hoth b (fun e => k3 (by rw [e, h1] at k1; simpa using k1.symm)), k1, k2⟩, fun _ _ => rfl, fun _ _ => rfl⟩
  have := RE.step (W := fun q => q = .B d) (E' := E) (ow' := ow) (σ' := updL σ [(.B d, .bx st (.mk ks' :: vs'))]) (tm' := tm) hR hC
    (fun q hq => by simp only [updL]; rw [if_neg (fun e => hq e.symm)])
    (fun q hq s hs => by
      subst hq
      rw [hd] at hs
      simp [KV.stamp] at hs
      subst hs
      exact ⟨st, by simp [updL, KV.stamp], Nat.le_refl _, fun _ => ⟨rfl, fun _ _ => rfl⟩⟩)
    (fun _ _ => rfl) (fun t ht => by cases ht) (fun d' hd => by cases hd; exact .inl ⟨_, _, by simp [updL]; exact ⟨rfl, rfl⟩⟩) (fun _ t ht => by cases ht)
    (fun ren d' s cs2 hd' h => by
      cases hd'
      simp only [updL, if_true, KV.bx.injEq] at h
      obtain ⟨_, rfl⟩ := h
      obtain ⟨es, clock, e1, e2, e3⟩ := hl
      exact ⟨h1, h2, .inr ⟨ks', vs', es, clock, rfl, by rw [hw, e1], e2, AV.repL_ren ren _ _ e3⟩⟩)
    (fun q s e' ys hq h => by subst hq; simp [updL] at h)
    (fun q s e' ys hq h => by subst hq; simp [updL] at h)
  exact ⟨this.1, this.2, evo⟩

/-- a new own row in a new block -/
theorem RE.newRow {K : Key} {e : TypeId} {xs : List (List PV)} {cur : Array Value} {cap : Nat} (hR : RE P E σ tm w ow) (hK : isRowKey K = true)
    (hcap : xs.length ≤ cap) (hm : cap ≤ maxLen) (hs : cur.size = cap * P.cellsOf e)
    (hc : ∀ (i : Nat) (x : List PV), xs[i]? = some x → x.length = P.cellsOf e ∧ ∀ (j : Nat) (p : PV), x[j]? = some p → ∃ u, cur[i * P.cellsOf e + j]? = some u ∧ u.oneCell' = true ∧ p.rep (view w ow) u) :
    ∃ E' ow', RE P E' (updL σ [(K, .rw (nst (σ K)) true e xs)]) tm (w.alloc (.cells cur e)) ow' ∧ Ren (view w ow) (view (w.alloc (.cells cur e)) ow') E E' σ (updL σ [(K, .rw (nst (σ K)) true e xs)]) ∧
      Evo w ow (w.alloc (.cells cur e)) ow' ∧ E'.hdr K = .slice (some ⟨w.heap.size, 0, none⟩) xs.length cap ∧ E'.β = E.β := by
  have hKS : ∀ t, K ≠ .S t := fun t e => by subst e; cases hK
  have hKB : ∀ t, K ≠ .B t := fun t e => by subst e; cases hK
  let E' : Env := ⟨E.β, fun q => if q = K then .slice (some ⟨w.heap.size, 0, none⟩) xs.length cap else E.hdr q, fun b => if b = w.heap.size then some K else E.lab b⟩
  let ow' : Ow := fun b => if b = w.heap.size then .mine else ow b
  have evo : Evo w ow (w.alloc (.cells cur e)) ow' := evo_alloc w ow _ .mine
  have hC : Chg (fun q => q = K) E E' w (w.alloc (.cells cur e)) ow ow' :=
    ⟨evo, fun b q hb h1 h2 h3 => ⟨heap_alloc_old w _ hb, by simp only [E']; rw [if_neg (by omega)]; exact h1, by simp only [ow']; rw [if_neg (by omega)]; exact h2⟩,
     fun b hb => rfl, fun q hq => by simp only [E']; rw [if_neg (fun e => hq e)]⟩
  have := RE.step (W := fun q => q = K) (E' := E') (ow' := ow') (σ' := updL σ [(K, .rw (nst (σ K)) true e xs)]) (tm' := tm) hR hC
    (fun q hq => by simp only [updL]; rw [if_neg (fun e => hq e.symm)])
    (fun q hq s hs => by
      subst hq
      refine ⟨nst (σ q), by simp [updL, KV.stamp], Nat.le_of_lt (nst_lt hs), fun e => ?_⟩
      have := nst_lt hs
      omega)
    (fun _ _ => rfl) (fun t ht => absurd ht.symm (hKS t)) (fun d' hd => absurd hd.symm (hKB d')) (fun _ t ht => absurd ht.symm (hKS t))
    (fun ren d' s cs' hd h => absurd hd.symm (hKB d'))
    (fun q s e' ys hq h => by
      subst hq
      simp only [updL, if_true, KV.rw.injEq, true_and] at h
      obtain ⟨_, rfl, rfl⟩ := h
      simp only [E', if_true]
      refine .inr ⟨w.heap.size, cap, cur, rfl, by simp, by simp [ow'], heap_alloc_new w _, hcap, hm, hs, fun i x hx => ⟨(hc i x hx).1, fun j p hp => ?_⟩⟩
      obtain ⟨u, h1, h2, h3⟩ := (hc i x hx).2 j p hp
      exact ⟨u, h1, h2, PV.rep_mono evo.view p u h3⟩)
    (fun q s e' ys hq h => by subst hq; simp [updL] at h)
  exact ⟨E', ow', this.1, this.2, evo, by simp [E'], rfl⟩

/-- an own row goes to another key, its block's cells written, its header new -/
theorem RE.rowTo {k K : Key} {st : Nat} {e : TypeId} {xs ys : List (List PV)} {g cap : Nat} {cur cur' : Array Value} (hR : RE P E σ tm w ow) (hk : σ k = .rw st true e xs) (hne : k ≠ K) (hK : isRowKey K = true)
    (hlab : E.lab g = some k) (hmine : ow g = .mine) (hg : w.heap[g]? = some (.cells cur e (0, 0)))
    (hcap : ys.length ≤ cap) (hm : cap ≤ maxLen) (hs : cur'.size = cap * P.cellsOf e)
    (hc : ∀ (i : Nat) (x : List PV), ys[i]? = some x → x.length = P.cellsOf e ∧ ∀ (j : Nat) (p : PV), x[j]? = some p → ∃ u, cur'[i * P.cellsOf e + j]? = some u ∧ u.oneCell' = true ∧ p.rep (view w ow) u) :
    ∃ E', RE P E' (updL σ [(K, .rw (nst (σ K)) true e ys), (k, .dead (st + 1))]) tm (w.setRow g cur') ow ∧ Ren (view w ow) (view (w.setRow g cur') ow) E E' σ (updL σ [(K, .rw (nst (σ K)) true e ys), (k, .dead (st + 1))]) ∧
      Evo w ow (w.setRow g cur') ow ∧ E'.hdr K = .slice (some ⟨g, 0, none⟩) ys.length cap ∧ E'.β = E.β := by
  have hKS : ∀ t, K ≠ .S t := fun t e => by subst e; cases hK
  have hKB : ∀ t, K ≠ .B t := fun t e => by subst e; cases hK
  have hkS := fun t => hR.notS (k := k) (by rw [hk]; rfl) t
  have hkB := fun t => hR.rowNotB hk t
  let E' : Env := ⟨E.β, fun q => if q = K then .slice (some ⟨g, 0, none⟩) ys.length cap else E.hdr q, fun b => if b = g then some K else E.lab b⟩
  have evo : Evo w ow (w.setRow g cur') ow := evo_setRow _ hmine
  have hC : Chg (fun q => q = k ∨ q = K) E E' w (w.setRow g cur') ow ow :=
    ⟨evo, fun b q hb k1 k2 k3 => by
      have hbg : b ≠ g := fun e => k3 (.inl (by rw [e, hlab] at k1; simpa using k1.symm))
      exact ⟨setRow_other w _ b _ hbg, by simp only [E']; rw [if_neg hbg]; exact k1, k2⟩, fun _ _ => rfl, fun q hq => by simp only [E']; rw [if_neg (fun e => hq (.inr e))]⟩
  have := RE.step (W := fun q => q = k ∨ q = K) (E' := E') (ow' := ow) (σ' := updL σ [(K, .rw (nst (σ K)) true e ys), (k, .dead (st + 1))]) (tm' := tm) hR hC
    (fun q hq => by simp only [updL]; rw [if_neg (fun e => hq (.inr e.symm)), if_neg (fun e => hq (.inl e.symm))])
    (fun q hq s hs => by
      rcases hq with rfl | rfl
      · refine ⟨st + 1, by simp [updL, hne.symm, KV.stamp], ?_, ?_⟩
        · rw [hk] at hs; simp [KV.stamp] at hs; omega
        · rw [hk] at hs; simp [KV.stamp] at hs; omega
      · refine ⟨nst (σ q), by simp [updL, KV.stamp], Nat.le_of_lt (nst_lt hs), fun e => ?_⟩
        have := nst_lt hs
        omega)
    (fun _ _ => rfl)
    (fun t ht => by rcases ht with e | e; exact absurd e.symm (hkS t); exact absurd e.symm (hKS t))
    (fun d hd => by rcases hd with e | e; exact absurd e.symm (hkB d); exact absurd e.symm (hKB d))
    (fun _ t ht => by rcases ht with e | e; exact absurd e.symm (hkS t); exact absurd e.symm (hKS t))
    (fun _ d s cs hd h => by rcases hd with e | e; exact absurd e.symm (hkB d); exact absurd e.symm (hKB d))
    (fun q s e' zs hq h => by
      rcases hq with rfl | rfl
      · simp [updL, hne.symm] at h
      · simp only [updL, if_true, KV.rw.injEq, true_and] at h
        obtain ⟨_, rfl, rfl⟩ := h
        simp only [E', if_true]
        refine .inr ⟨g, cap, cur', rfl, by simp, hmine, setRow_heap w _ _ _ _ _ hg, hcap, hm, hs, fun i x hx => ⟨(hc i x hx).1, fun j p hp => ?_⟩⟩
        obtain ⟨u, h1, h2, h3⟩ := (hc i x hx).2 j p hp
        exact ⟨u, h1, h2, PV.rep_mono evo.view p u h3⟩)
    (fun q s e' ys hq h => by
      rcases hq with rfl | rfl
      · simp [updL, hne.symm] at h
      · simp [updL] at h)
  exact ⟨E', this.1, this.2, evo, by simp [E'], rfl⟩

/-- an own row's cells are written in place -/
theorem RE.rowSet {k : Key} {st : Nat} {e : TypeId} {xs ys : List (List PV)} {g cap : Nat} {cur cur' : Array Value} (hR : RE P E σ tm w ow) (hk : σ k = .rw st true e xs)
    (hlab : E.lab g = some k) (hmine : ow g = .mine) (hg : w.heap[g]? = some (.cells cur e (0, 0))) (hh : E.hdr k = .slice (some ⟨g, 0, none⟩) xs.length cap)
    (hcap : xs.length ≤ cap) (hm : cap ≤ maxLen) (hs : cur'.size = cap * P.cellsOf e) (hyl : ys.length = xs.length)
    (hc : ∀ (i : Nat) (x : List PV), ys[i]? = some x → x.length = P.cellsOf e ∧ ∀ (j : Nat) (p : PV), x[j]? = some p → ∃ u, cur'[i * P.cellsOf e + j]? = some u ∧ u.oneCell' = true ∧ p.rep (view w ow) u) :
    RE P E (updL σ [(k, .rw st true e ys)]) tm (w.setRow g cur') ow ∧ Ren (view w ow) (view (w.setRow g cur') ow) E E σ (updL σ [(k, .rw st true e ys)]) ∧ Evo w ow (w.setRow g cur') ow := by
  have hkS := fun t => hR.notS (k := k) (by rw [hk]; rfl) t
  have hkB := fun t => hR.rowNotB hk t
  have evo : Evo w ow (w.setRow g cur') ow := evo_setRow _ hmine
  have hC : Chg (fun q => q = k) E E w (w.setRow g cur') ow ow :=
    ⟨evo, fun b q hb k1 k2 k3 => by
      have hbg : b ≠ g := fun e => k3 (by rw [e, hlab] at k1; simpa using k1.symm)
      exact ⟨setRow_other w _ b _ hbg, k1, k2⟩, fun _ _ => rfl, fun q hq => rfl⟩
  have := RE.step (W := fun q => q = k) (E' := E) (ow' := ow) (σ' := updL σ [(k, .rw st true e ys)]) (tm' := tm) hR hC
    (fun q hq => by simp only [updL]; rw [if_neg (fun e => hq e.symm)])
    (fun q hq s hs => by
      subst hq
      rw [hk] at hs
      simp [KV.stamp] at hs
      subst hs
      exact ⟨st, by simp [updL, KV.stamp], Nat.le_refl _, fun _ => ⟨rfl, fun _ _ => rfl⟩⟩)
    (fun _ _ => rfl) (fun t ht => absurd ht.symm (hkS t)) (fun d hd => absurd hd.symm (hkB d)) (fun _ t ht => absurd ht.symm (hkS t))
    (fun _ d s cs hd h => absurd hd.symm (hkB d))
    (fun q s e' zs hq h => by
      subst hq
      simp only [updL, if_true, KV.rw.injEq, true_and] at h
      obtain ⟨_, rfl, rfl⟩ := h
      rw [hh]
      refine .inr ⟨g, cap, cur', by rw [hyl], hlab, hmine, setRow_heap w _ _ _ _ _ hg, by omega, hm, hs, fun i x hx => ⟨(hc i x hx).1, fun j p hp => ?_⟩⟩
      obtain ⟨u, h1, h2, h3⟩ := (hc i x hx).2 j p hp
      exact ⟨u, h1, h2, PV.rep_mono evo.view p u h3⟩)
    (fun q s e' ys hq h => by subst hq; simp [updL] at h)
  exact ⟨this.1, this.2, evo⟩

end
end Go.Pw
namespace Go.Pw
variable [Mode]
set_option linter.unusedSimpArgs false
set_option linter.unusedVariables false
set_option linter.unusedSectionVars false

section
variable {P : Program} {ρ : Operand → AV} {ev : Operand → Value} {E : Env} {σ : Look} {tm : Array Value} {w : World} {ow : Ow}

theorem rowAt_spec {k : Key} {st : Nat} {own : Bool} {e : TypeId} {xs : List (List PV)} (h : rowAt σ k st = some (own, e, xs)) : σ k = .rw st own e xs := by
  unfold rowAt at h
  split at h
  · rename_i st' own' e' xs' hk
    split at h
    · rename_i hst
      simp only [Option.some.injEq, Prod.mk.injEq] at h
      obtain ⟨rfl, rfl, rfl⟩ := h
      rw [hk, hst]
    · cases h
  · cases h
theorem boxAt_spec {d st : Nat} {cs : List AV} (h : boxAt σ d st = some cs) : σ (.B d) = .bx st cs := by
  unfold boxAt at h
  split at h
  · rename_i st' cs' hk
    split at h
    · rename_i hst
      split at h
      · cases h
      · simp only [Option.some.injEq] at h
        rw [hk, hst, h]
    · cases h
  · cases h
theorem boxAt_no {d st : Nat} {cs : List AV} (h : boxAt σ d st = some cs) : hasMk cs = false := by
  unfold boxAt at h
  split at h
  · split at h
    · split at h
      · cases h
      · rename_i hm
        simp only [Option.some.injEq] at h
        rw [← h]
        simpa using hm
    · cases h
  · cases h
theorem mapAt_spec {d st : Nat} {ks : List (List UInt8)} {vs : List AV} (h : mapAt σ d st = some (ks, vs)) : σ (.B d) = .bx st (.mk ks :: vs) := by
  unfold mapAt at h
  split at h
  · rename_i st' ks' vs' hk
    split at h
    · rename_i hst
      simp only [Option.some.injEq, Prod.mk.injEq] at h
      rw [hk, hst, h.1, h.2]
    · cases h
  · cases h
/-- a box that is no map is a variable -/
theorem boxOk.cells {h : View} {E : Env} {σ : Look} {w : World} {ow : Ow} {d : Nat} {cs : List AV} (hb : boxOk h E σ w ow d cs) (hm : hasMk cs = false) :
    E.lab (E.β d) = some (.B d) ∧ ow (E.β d) = .mine ∧ ∃ T l, w.heap[E.β d]? = some (.cells ⟨l⟩ T (0, 0)) ∧ AV.repL h E σ cs l := by
  obtain ⟨h1, h2, h3 | ⟨ks, vs, _, _, rfl, _⟩⟩ := hb
  · exact ⟨h1, h2, h3⟩
  · cases hm
theorem boxOk.map {h : View} {E : Env} {σ : Look} {w : World} {ow : Ow} {d : Nat} {ks : List (List UInt8)} {vs : List AV} (hb : boxOk h E σ w ow d (.mk ks :: vs)) :
    E.lab (E.β d) = some (.B d) ∧ ow (E.β d) = .mine ∧ ∃ o, w.heap[E.β d]? = some o ∧ mapRep h E σ ks vs o := by
  obtain ⟨h1, h2, ⟨T, l, _, h3⟩ | ⟨ks', vs', es, c, e, h3, h4, h5⟩⟩ := hb
  · simp only [AV.repL, AV.rep] at h3
    obtain ⟨_, _, _, h3, _⟩ := h3
    exact h3.elim
  · cases e
    exact ⟨h1, h2, _, h3, es, c, rfl, h4, h5⟩
theorem mref_val {h : View} {d st : Nat} {v : Value} (hv : (AV.mref d st).rep h E σ v) (hs : (σ (.B d)).stamp = some st) : v = .map (some (E.β d)) := by
  simp only [AV.rep] at hv
  obtain ⟨b, rfl, s, h1, _, h3⟩ := hv
  rw [hs] at h1
  simp only [Option.some.injEq] at h1
  rw [h3 h1]
theorem ptr_val {h : View} {d off st : Nat} {v : Value} (hv : (AV.ptr d off st).rep h E σ v) (hs : (σ (.B d)).stamp = some st) : v = .pointer (some ⟨E.β d, off, none⟩) := by
  simp only [AV.rep] at hv
  obtain ⟨b, rfl, s, h1, _, h3⟩ := hv
  rw [hs] at h1
  simp only [Option.some.injEq] at h1
  rw [h3 h1]

/-- What a row of ours, or one that stays, says of memory. -/
theorem row_cells {k : Key} {st : Nat} {own : Bool} {e : TypeId} {xs : List (List PV)} (hR : RE P E σ tm w ow) (hk : σ k = .rw st own e xs) :
    (∀ x ∈ xs, x.length = P.cellsOf e) ∧ ∃ a n c, E.hdr k = .slice a n c ∧ n = xs.length ∧ n ≤ c ∧
      (xs = [] ∨ ∃ b o, a = some ⟨b, o, none⟩ ∧ (own = true → o = 0) ∧ ∀ (i : Nat) (x : List PV), xs[i]? = some x → ∀ (j : Nat) (p : PV), x[j]? = some p → ∃ u, w.cell? ⟨b, o + i * P.cellsOf e + j, none⟩ = some u ∧ p.rep (view w ow) u) := by
  cases own with
  | true =>
    rcases hR.own k st e xs hk with ⟨rfl, a, ha⟩ | ⟨g, cap, cur, h1, h2, h3, h4, h5, h6, h7, h8⟩
    · exact ⟨by simp, a, 0, 0, ha, rfl, Nat.le_refl _, .inl rfl⟩
    · refine ⟨fun x hx => ?_, some ⟨g, 0, none⟩, _, cap, h1, rfl, h5, .inr ⟨g, 0, rfl, fun _ => rfl, fun i x hx j p hp => ?_⟩⟩
      · obtain ⟨i, hi⟩ := List.getElem?_of_mem hx
        exact (h8 i x hi).1
      · obtain ⟨u, k1, _, k3⟩ := (h8 i x hx).2 j p hp
        exact ⟨u, by rw [cell_of_row w g _ cur _ _ h4]; simpa using k1, k3⟩
  | false =>
    obtain ⟨h1, h2⟩ := hR.shared k st e xs hk
    simp only [PV.rep] at h1
    obtain ⟨a, n, c, h3, h4, h5, h6⟩ := h1
    refine ⟨h2, a, n, c, h3, h4, h5, ?_⟩
    rcases h6 with h6 | ⟨b, o, s, h6, h7⟩
    · exact .inl h6
    · refine .inr ⟨b, o, h6, (fun hh => by cases hh), fun i x hx j p hp => ?_⟩
      obtain ⟨hs, hc⟩ := repEs_get h7 hx
      have hs' : s = P.cellsOf e := by rw [← hs]; exact h2 x (List.mem_of_getElem? hx)
      subst hs'
      obtain ⟨u, k1, k2⟩ := repCs_get hc hp
      exact ⟨u, (view_lt k1).2.2, k2⟩

/-- what a row's value is as a value that stays, once it is frozen (or if it is shared) -/
theorem row_shared_rep {k : Key} {st : Nat} {e : TypeId} {xs : List (List PV)} (hR : RE P E σ tm w ow) (hk : σ k = .rw st false e xs) : (PV.sl xs).rep (view w ow) (E.hdr k) := (hR.shared k st e xs hk).1

def EffOk (P : Program) (E : Env) (σ : Look) (tm : Array Value) (w : World) (ow : Ow) (ev : Operand → Value) (o : Oper) (wr : St) : Prop :=
  ∃ nx v w' E' ow', (execOp ev o).run P w = .ok nx w' ∧ (nx = .value v ∨ (nx = .skip ∧ v = Go.undef)) ∧ Evo w ow w' ow' ∧ RE P E' (updL σ wr) (put tm o.dst v) w' ow' ∧ ∀ b, b < 1000 → E'.β b = E.β b

/-- a value into a slot, behind steps that have turned the state to σ1 -/
theorem EffOk.val {o : Oper} {d : Nat} {v : Value} {w1 : World} {E1 : Env} {ow1 : Ow} {wr : St} {a : AV} (hd : o.dst = some d) (hlt : d < tm.size) (hrun : (execOp ev o).run P w = .ok (.value v) w1) (hevo : Evo w ow w1 ow1)
    (hR : RE P E1 (updL σ wr) tm w1 ow1) (ha : a.rep (view w1 ow1) E1 (updL σ wr) v) (hβ : ∀ b, b < 1000 → E1.β b = E.β b) : EffOk P E σ tm w ow ev o ((.S d, .av a) :: wr) := by
  obtain ⟨h1, _⟩ := RE.put hR hlt ha
  exact ⟨_, v, w1, E1, ow1, hrun, .inl rfl, hevo, by rw [hd]; exact h1, hβ⟩

theorem fz1_sound {a : AV} {p : PV} {wr : St} (hR : RE P E σ tm w ow) (h : fz1 σ a = some (p, wr)) {v : Value} (hv : a.rep (view w ow) E σ v) :
    ∃ ow', RE P E (updL σ wr) tm w ow' ∧ Ren (view w ow) (view w ow') E E σ (updL σ wr) ∧ Evo w ow w ow' ∧ p.rep (view w ow') v := by
  unfold fz1 at h
  split at h
  · simp only [Option.some.injEq, Prod.mk.injEq] at h
    obtain ⟨rfl, rfl⟩ := h
    exact ⟨ow, hR, Ren.refl _ _ _, Evo.refl _ _, by simpa only [AV.rep] using hv⟩
  · simp only [Option.some.injEq, Prod.mk.injEq] at h
    obtain ⟨rfl, rfl⟩ := h
    simp only [AV.rep] at hv
    obtain ⟨a, rfl⟩ := hv
    exact ⟨ow, hR, Ren.refl _ _ _, Evo.refl _ _, by simp only [PV.rep]; exact ⟨_, _, _, rfl, rfl, Nat.le_refl _, .inl trivial⟩⟩
  · rename_i k st
    split at h
    · rename_i e xs hk
      simp only [Option.some.injEq, Prod.mk.injEq] at h
      obtain ⟨rfl, rfl⟩ := h
      have hk := rowAt_spec hk
      obtain ⟨ow', h1, h2, h3⟩ := RE.freeze hR hk
      refine ⟨ow', h1, h2, h3, ?_⟩
      rw [rf_hdr hv (by rw [hk]; rfl)]
      exact row_shared_rep (k := k) (st := st) (e := e) h1 (by simp [updL])
    · rename_i e xs hk
      simp only [Option.some.injEq, Prod.mk.injEq] at h
      obtain ⟨rfl, rfl⟩ := h
      have hk := rowAt_spec hk
      refine ⟨ow, hR, Ren.refl _ _ _, Evo.refl _ _, ?_⟩
      rw [rf_hdr hv (by rw [hk]; rfl)]
      exact row_shared_rep hR hk
    · cases h
  · cases h

theorem fzCells_sound : ∀ {as : List AV} {ps : List PV} {wr : St} {σ : Look} {ow : Ow}, RE P E σ tm w ow → fzCells σ as = some (ps, wr) → ∀ {l : List Value}, AV.repL (view w ow) E σ as l →
    ∃ ow', RE P E (updL σ wr) tm w ow' ∧ Ren (view w ow) (view w ow') E E σ (updL σ wr) ∧ Evo w ow w ow' ∧ ps.length = l.length ∧ as.length = l.length ∧ ∀ (i : Nat) (p : PV) (v : Value), ps[i]? = some p → l[i]? = some v → p.rep (view w ow') v
  | [], ps, wr, σ, ow, hR, h, l, hl => by
    simp only [fzCells, Option.some.injEq, Prod.mk.injEq] at h
    obtain ⟨rfl, rfl⟩ := h
    simp only [AV.repL] at hl
    subst hl
    exact ⟨ow, hR, Ren.refl _ _ _, Evo.refl _ _, rfl, rfl, by simp⟩
  | a :: as, ps, wr, σ, ow, hR, h, l, hl => by
    simp only [fzCells] at h
    simp only [AV.repL] at hl
    obtain ⟨v, vs, rfl, hv, hvs⟩ := hl
    split at h
    · rename_i p w1 h1
      split at h
      · rename_i qs w2 h2
        simp only [Option.some.injEq, Prod.mk.injEq] at h
        obtain ⟨rfl, rfl⟩ := h
        obtain ⟨o1, r1, n1, e1, v1⟩ := fz1_sound hR h1 hv
        obtain ⟨o2, r2, n2, e2, l2, l3, v2⟩ := fzCells_sound r1 h2 (AV.repL_ren n1 _ _ hvs)
        rw [updL_append]
        refine ⟨o2, r2, n1.trans n2, e1.trans e2, by simp [l2], by simp [l3], fun i q u hq hu => ?_⟩
        cases i with
        | zero => simp at hq hu; subst hq hu; exact PV.rep_mono e2.view _ _ v1
        | succ i => exact v2 i q u (by simpa using hq) (by simpa using hu)
      · cases h
    · cases h

theorem fzParts_sound {s : Nat} : ∀ {as : List AV} {xs : List (List PV)} {wr : St} {σ : Look} {ow : Ow}, RE P E σ tm w ow → fzParts σ s as = some (xs, wr) → ∀ {vs : List Value}, as.length = vs.length → (∀ (i : Nat) (a : AV) (v : Value), as[i]? = some a → vs[i]? = some v → a.rep (view w ow) E σ v) →
    ∃ ow', RE P E (updL σ wr) tm w ow' ∧ Ren (view w ow) (view w ow') E E σ (updL σ wr) ∧ Evo w ow w ow' ∧ xs.length = vs.length ∧
      ∀ (i : Nat) (x : List PV) (v : Value), xs[i]? = some x → vs[i]? = some v → x.length = s ∧ v.cells.toList.length = s ∧ ∀ (j : Nat) (p : PV) (u : Value), x[j]? = some p → v.cells.toList[j]? = some u → p.rep (view w ow') u
  | [], xs, wr, σ, ow, hR, h, vs, hl, _ => by
    simp only [fzParts, Option.some.injEq, Prod.mk.injEq] at h
    obtain ⟨rfl, rfl⟩ := h
    exact ⟨ow, hR, Ren.refl _ _ _, Evo.refl _ _, by simpa using hl, by simp⟩
  | a :: as, xs, wr, σ, ow, hR, h, [], hl, _ => by simp at hl
  | a :: as, xs, wr, σ, ow, hR, h, v :: vs, hl, hv => by
    simp only [fzParts] at h
    split at h
    · rename_i hc
      split at h
      · rename_i x w1 h1
        split at h
        · rename_i ys w2 h2
          simp only [Option.some.injEq, Prod.mk.injEq] at h
          obtain ⟨rfl, rfl⟩ := h
          have h0 := cells_rep hc.1 (hv 0 a v (by simp) (by simp))
          obtain ⟨o1, r1, n1, e1, l1, l1', v1⟩ := fzCells_sound hR h1 h0
          obtain ⟨o2, r2, n2, e2, l2, v2⟩ := fzParts_sound r1 h2 (vs := vs) (by simpa using hl) (fun i a u ha hu => AV.rep_ren n1 _ _ (hv (i + 1) a u (by simpa using ha) (by simpa using hu)))
          rw [updL_append]
          refine ⟨o2, r2, n1.trans n2, e1.trans e2, by simp [l2], fun i y u hy hu => ?_⟩
          cases i with
          | zero =>
            simp at hy hu
            subst hy hu
            refine ⟨by omega, by omega, fun j p z hp hz => PV.rep_mono e2.view _ _ (v1 j p z hp hz)⟩
          | succ i => exact v2 i y u (by simpa using hy) (by simpa using hu)
        · cases h
      · cases h
    · cases h

end
end Go.Pw
