/- Steps of the relation that change the world: new blocks, writes into blocks of our own. -/
import Derived.Test.YtjbfdbbmgbekiaaDoorPwH
namespace Go.Pw
variable [Mode]
set_option linter.unusedSimpArgs false
set_option linter.unusedVariables false
set_option linter.unusedSectionVars false

section
variable {P : Program} {E E' : Env} {σ σ' : Look} {tm tm' : Array Value} {w w' : World} {ow ow' : Ow}

theorem RE.notS (hR : RE P E σ tm w ow) {k : Key} {st : Nat} (h : (σ k).stamp = some st) (t : Nat) : k ≠ .S t := fun e => by
  have := hR.sk t
  rw [← e, h] at this
  cases this
theorem RE.rowNotB (hR : RE P E σ tm w ow) {k : Key} {st : Nat} {own : Bool} {e : TypeId} {xs : List (List PV)} (h : σ k = .rw st own e xs) (d : Nat) : k ≠ .B d := fun e1 => by
  have := hR.bk d
  rw [← e1, h] at this
  rcases this with ⟨_, _, h⟩ | h | ⟨_, h⟩ <;> cases h

def isRowKey : Key → Bool
  | .RS _ _ | .RC _ _ => true
  | _ => false

theorem evo_alloc (w : World) (ow : Ow) (o : Obj) (q : Own) : Evo w ow (w.alloc o) (fun b => if b = w.heap.size then q else ow b) :=
  ⟨rfl, rfl, rfl, by simp, fun b hb h => ⟨heap_alloc_old w o hb, by show (if b = w.heap.size then q else ow b) = _; rw [if_neg (by omega)]; exact h⟩, fun b hb h => ⟨heap_alloc_old w o hb, by show (if b = w.heap.size then q else ow b) = _; rw [if_neg (by omega)]; exact h⟩, fun _ => Nat.le_refl _⟩

theorem evo_setRow {w : World} {ow : Ow} {g : Nat} (cs : Array Value) (h : ow g = .mine) : Evo w ow (w.setRow g cs) ow :=
  ⟨rfl, rfl, rfl, by simp, fun b _ hi => ⟨setRow_other w g b cs (fun e => by subst e; rw [h] at hi; cases hi), hi⟩, fun b _ hi => ⟨setRow_other w g b cs (fun e => by subst e; rw [h] at hi; cases hi), hi⟩, fun _ => Nat.le_refl _⟩

/-- a new box -/
theorem RE.newBox {d : Nat} {cs : List AV} {l : List Value} (T : TypeId) (hR : RE P E σ tm w ow) (hl : AV.repL (view w ow) E σ cs l) :
    ∃ E' ow', RE P E' (updL σ [(.B d, .bx (nst (σ (.B d))) cs)]) tm (w.alloc (.cells ⟨l⟩ T)) ow' ∧ Ren (view w ow) (view (w.alloc (.cells ⟨l⟩ T)) ow') E E' σ (updL σ [(.B d, .bx (nst (σ (.B d))) cs)]) ∧
      Evo w ow (w.alloc (.cells ⟨l⟩ T)) ow' ∧ E'.β d = w.heap.size ∧ (∀ b, b ≠ d → E'.β b = E.β b) := by
  let E' : Env := ⟨fun b => if b = d then w.heap.size else E.β b, E.hdr, fun b => if b = w.heap.size then some (.B d) else E.lab b⟩
  let ow' : Ow := fun b => if b = w.heap.size then .mine else ow b
  have evo : Evo w ow (w.alloc (.cells ⟨l⟩ T)) ow' := evo_alloc w ow _ .mine
  have hC : Chg (fun q => q = .B d) E E' w (w.alloc (.cells ⟨l⟩ T)) ow ow' :=
    ⟨evo, fun b q hb h1 h2 h3 => ⟨heap_alloc_old w _ hb, by simp only [E']; rw [if_neg (by omega)]; exact h1, by simp only [ow']; rw [if_neg (by omega)]; exact h2⟩,
     fun b hb => by simp only [E']; rw [if_neg (fun e => hb (by rw [e]))], fun _ _ => rfl⟩
  have := RE.step (W := fun q => q = .B d) (E' := E') (ow' := ow') (σ' := updL σ [(.B d, .bx (nst (σ (.B d))) cs)]) (tm' := tm) hR hC
    (fun q hq => by simp only [updL]; rw [if_neg (fun e => hq e.symm)])
    (fun q hq s hs => by
      subst hq
      refine ⟨nst (σ (.B d)), by simp [updL, KV.stamp], Nat.le_of_lt (nst_lt hs), fun e => ?_⟩
      have := nst_lt hs
      omega)
    (fun _ _ => rfl) (fun t ht => by cases ht) (fun d' hd => by cases hd; exact .inl ⟨_, _, by simp [updL]; exact ⟨rfl, rfl⟩⟩) (fun _ t ht => by cases ht)
    (fun ren d' s cs' hd h => by
      cases hd
      simp only [updL, if_true, KV.bx.injEq] at h
      obtain ⟨_, rfl⟩ := h
      exact ⟨by simp [E'], by simp [E', ow'], T, l, by simp only [E', if_true]; exact heap_alloc_new w _, AV.repL_ren ren _ _ hl⟩)
    (fun q s e' ys hq h => by subst hq; simp [updL] at h)
    (fun q s e' ys hq h => by subst hq; simp [updL] at h)
  exact ⟨E', ow', this.1, this.2, evo, by simp [E'], fun b hb => by simp [E', hb]⟩

/-- a box's cells are written -/
theorem RE.setBox {d st : Nat} {cs cs' : List AV} {l l' : List Value} {T : TypeId} (hR : RE P E σ tm w ow) (hd : σ (.B d) = .bx st cs)
    (hg : w.heap[E.β d]? = some (.cells ⟨l⟩ T (0, 0))) (hl : AV.repL (view w ow) E σ cs' l') :
    RE P E (updL σ [(.B d, .bx st cs')]) tm (w.setRow (E.β d) ⟨l'⟩) ow ∧ Ren (view w ow) (view (w.setRow (E.β d) ⟨l'⟩) ow) E E σ (updL σ [(.B d, .bx st cs')]) ∧ Evo w ow (w.setRow (E.β d) ⟨l'⟩) ow := by
  obtain ⟨h1, h2, _⟩ := hR.box d st cs hd
  have evo : Evo w ow (w.setRow (E.β d) ⟨l'⟩) ow := evo_setRow _ h2
  have hC : Chg (fun q => q = .B d) E E w (w.setRow (E.β d) ⟨l'⟩) ow ow :=
    ⟨evo, fun b q hb k1 k2 k3 => ⟨setRow_other w _ b _ (fun e => k3 (by rw [e, h1] at k1; simpa using k1.symm)), k1, k2⟩, fun _ _ => rfl, fun _ _ => rfl⟩
  have := RE.step (W := fun q => q = .B d) (E' := E) (ow' := ow) (σ' := updL σ [(.B d, .bx st cs')]) (tm' := tm) hR hC
    (fun q hq => by simp only [updL]; rw [if_neg (fun e => hq e.symm)])
    (fun q hq s hs => by
      subst hq
      rw [hd] at hs
      simp [KV.stamp] at hs
      subst hs
      exact ⟨st, by simp [updL, KV.stamp], Nat.le_refl _, fun _ => ⟨rfl, fun _ _ => rfl⟩⟩)
    (fun _ _ => rfl) (fun t ht => by cases ht) (fun d' hd => by cases hd; exact .inl ⟨_, _, by simp [updL]; exact ⟨rfl, rfl⟩⟩) (fun _ t ht => by cases ht)
    (fun ren d' s cs2 hd' h => by
      cases hd'
      simp only [updL, if_true, KV.bx.injEq] at h
      obtain ⟨_, rfl⟩ := h
      exact ⟨h1, h2, T, l', setRow_heap w _ _ _ T _ hg, AV.repL_ren ren _ _ hl⟩)
    (fun q s e' ys hq h => by subst hq; simp [updL] at h)
    (fun q s e' ys hq h => by subst hq; simp [updL] at h)
  exact ⟨this.1, this.2, evo⟩

/-- a new own row in a new block -/
theorem RE.newRow {K : Key} {e : TypeId} {xs : List (List PV)} {cur : Array Value} {cap : Nat} (hR : RE P E σ tm w ow) (hK : isRowKey K = true)
    (hcap : xs.length ≤ cap) (hm : cap ≤ maxLen) (hs : cur.size = cap * P.cellsOf e)
    (hc : ∀ (i : Nat) (x : List PV), xs[i]? = some x → x.length = P.cellsOf e ∧ ∀ (j : Nat) (p : PV), x[j]? = some p → ∃ u, cur[i * P.cellsOf e + j]? = some u ∧ u.oneCell' = true ∧ p.rep (view w ow) u) :
    ∃ E' ow', RE P E' (updL σ [(K, .rw (nst (σ K)) true e xs)]) tm (w.alloc (.cells cur e)) ow' ∧ Ren (view w ow) (view (w.alloc (.cells cur e)) ow') E E' σ (updL σ [(K, .rw (nst (σ K)) true e xs)]) ∧
      Evo w ow (w.alloc (.cells cur e)) ow' ∧ E'.hdr K = .slice (some ⟨w.heap.size, 0, none⟩) xs.length cap ∧ E'.β = E.β := by
  have hKS : ∀ t, K ≠ .S t := fun t e => by subst e; cases hK
  have hKB : ∀ t, K ≠ .B t := fun t e => by subst e; cases hK
  let E' : Env := ⟨E.β, fun q => if q = K then .slice (some ⟨w.heap.size, 0, none⟩) xs.length cap else E.hdr q, fun b => if b = w.heap.size then some K else E.lab b⟩
  let ow' : Ow := fun b => if b = w.heap.size then .mine else ow b
  have evo : Evo w ow (w.alloc (.cells cur e)) ow' := evo_alloc w ow _ .mine
  have hC : Chg (fun q => q = K) E E' w (w.alloc (.cells cur e)) ow ow' :=
    ⟨evo, fun b q hb h1 h2 h3 => ⟨heap_alloc_old w _ hb, by simp only [E']; rw [if_neg (by omega)]; exact h1, by simp only [ow']; rw [if_neg (by omega)]; exact h2⟩,
     fun b hb => rfl, fun q hq => by simp only [E']; rw [if_neg (fun e => hq e)]⟩
  have := RE.step (W := fun q => q = K) (E' := E') (ow' := ow') (σ' := updL σ [(K, .rw (nst (σ K)) true e xs)]) (tm' := tm) hR hC
    (fun q hq => by simp only [updL]; rw [if_neg (fun e => hq e.symm)])
    (fun q hq s hs => by
      subst hq
      refine ⟨nst (σ q), by simp [updL, KV.stamp], Nat.le_of_lt (nst_lt hs), fun e => ?_⟩
      have := nst_lt hs
      omega)
    (fun _ _ => rfl) (fun t ht => absurd ht.symm (hKS t)) (fun d' hd => absurd hd.symm (hKB d')) (fun _ t ht => absurd ht.symm (hKS t))
    (fun ren d' s cs' hd h => absurd hd.symm (hKB d'))
    (fun q s e' ys hq h => by
      subst hq
      simp only [updL, if_true, KV.rw.injEq, true_and] at h
      obtain ⟨_, rfl, rfl⟩ := h
      simp only [E', if_true]
      refine .inr ⟨w.heap.size, cap, cur, rfl, by simp, by simp [ow'], heap_alloc_new w _, hcap, hm, hs, fun i x hx => ⟨(hc i x hx).1, fun j p hp => ?_⟩⟩
      obtain ⟨u, h1, h2, h3⟩ := (hc i x hx).2 j p hp
      exact ⟨u, h1, h2, PV.rep_mono evo.view p u h3⟩)
    (fun q s e' ys hq h => by subst hq; simp [updL] at h)
  exact ⟨E', ow', this.1, this.2, evo, by simp [E'], rfl⟩

/-- an own row goes to another key, its block's cells written, its header new -/
theorem RE.rowTo {k K : Key} {st : Nat} {e : TypeId} {xs ys : List (List PV)} {g cap : Nat} {cur cur' : Array Value} (hR : RE P E σ tm w ow) (hk : σ k = .rw st true e xs) (hne : k ≠ K) (hK : isRowKey K = true)
    (hlab : E.lab g = some k) (hmine : ow g = .mine) (hg : w.heap[g]? = some (.cells cur e (0, 0)))
    (hcap : ys.length ≤ cap) (hm : cap ≤ maxLen) (hs : cur'.size = cap * P.cellsOf e)
    (hc : ∀ (i : Nat) (x : List PV), ys[i]? = some x → x.length = P.cellsOf e ∧ ∀ (j : Nat) (p : PV), x[j]? = some p → ∃ u, cur'[i * P.cellsOf e + j]? = some u ∧ u.oneCell' = true ∧ p.rep (view w ow) u) :
    ∃ E', RE P E' (updL σ [(K, .rw (nst (σ K)) true e ys), (k, .dead (st + 1))]) tm (w.setRow g cur') ow ∧ Ren (view w ow) (view (w.setRow g cur') ow) E E' σ (updL σ [(K, .rw (nst (σ K)) true e ys), (k, .dead (st + 1))]) ∧
      Evo w ow (w.setRow g cur') ow ∧ E'.hdr K = .slice (some ⟨g, 0, none⟩) ys.length cap ∧ E'.β = E.β := by
  have hKS : ∀ t, K ≠ .S t := fun t e => by subst e; cases hK
  have hKB : ∀ t, K ≠ .B t := fun t e => by subst e; cases hK
  have hkS := fun t => hR.notS (k := k) (by rw [hk]; rfl) t
  have hkB := fun t => hR.rowNotB hk t
  let E' : Env := ⟨E.β, fun q => if q = K then .slice (some ⟨g, 0, none⟩) ys.length cap else E.hdr q, fun b => if b = g then some K else E.lab b⟩
  have evo : Evo w ow (w.setRow g cur') ow := evo_setRow _ hmine
  have hC : Chg (fun q => q = k ∨ q = K) E E' w (w.setRow g cur') ow ow :=
    ⟨evo, fun b q hb k1 k2 k3 => by
      have hbg : b ≠ g := fun e => k3 (.inl (by rw [e, hlab] at k1; simpa using k1.symm))
      exact ⟨setRow_other w _ b _ hbg, by simp only [E']; rw [if_neg hbg]; exact k1, k2⟩, fun _ _ => rfl, fun q hq => by simp only [E']; rw [if_neg (fun e => hq (.inr e))]⟩
  have := RE.step (W := fun q => q = k ∨ q = K) (E' := E') (ow' := ow) (σ' := updL σ [(K, .rw (nst (σ K)) true e ys), (k, .dead (st + 1))]) (tm' := tm) hR hC
    (fun q hq => by simp only [updL]; rw [if_neg (fun e => hq (.inr e.symm)), if_neg (fun e => hq (.inl e.symm))])
    (fun q hq s hs => by
      rcases hq with rfl | rfl
      · refine ⟨st + 1, by simp [updL, hne.symm, KV.stamp], ?_, ?_⟩
        · rw [hk] at hs; simp [KV.stamp] at hs; omega
        · rw [hk] at hs; simp [KV.stamp] at hs; omega
      · refine ⟨nst (σ q), by simp [updL, KV.stamp], Nat.le_of_lt (nst_lt hs), fun e => ?_⟩
        have := nst_lt hs
        omega)
    (fun _ _ => rfl)
    (fun t ht => by rcases ht with e | e; exact absurd e.symm (hkS t); exact absurd e.symm (hKS t))
    (fun d hd => by rcases hd with e | e; exact absurd e.symm (hkB d); exact absurd e.symm (hKB d))
    (fun _ t ht => by rcases ht with e | e; exact absurd e.symm (hkS t); exact absurd e.symm (hKS t))
    (fun _ d s cs hd h => by rcases hd with e | e; exact absurd e.symm (hkB d); exact absurd e.symm (hKB d))
    (fun q s e' zs hq h => by
      rcases hq with rfl | rfl
      · simp [updL, hne.symm] at h
      · simp only [updL, if_true, KV.rw.injEq, true_and] at h
        obtain ⟨_, rfl, rfl⟩ := h
        simp only [E', if_true]
        refine .inr ⟨g, cap, cur', rfl, by simp, hmine, setRow_heap w _ _ _ _ _ hg, hcap, hm, hs, fun i x hx => ⟨(hc i x hx).1, fun j p hp => ?_⟩⟩
        obtain ⟨u, h1, h2, h3⟩ := (hc i x hx).2 j p hp
        exact ⟨u, h1, h2, PV.rep_mono evo.view p u h3⟩)
    (fun q s e' ys hq h => by
      rcases hq with rfl | rfl
      · simp [updL, hne.symm] at h
      · simp [updL] at h)
  exact ⟨E', this.1, this.2, evo, by simp [E'], rfl⟩

/-- an own row's cells are written in place -/
theorem RE.rowSet {k : Key} {st : Nat} {e : TypeId} {xs ys : List (List PV)} {g cap : Nat} {cur cur' : Array Value} (hR : RE P E σ tm w ow) (hk : σ k = .rw st true e xs)
    (hlab : E.lab g = some k) (hmine : ow g = .mine) (hg : w.heap[g]? = some (.cells cur e (0, 0))) (hh : E.hdr k = .slice (some ⟨g, 0, none⟩) xs.length cap)
    (hcap : xs.length ≤ cap) (hm : cap ≤ maxLen) (hs : cur'.size = cap * P.cellsOf e) (hyl : ys.length = xs.length)
    (hc : ∀ (i : Nat) (x : List PV), ys[i]? = some x → x.length = P.cellsOf e ∧ ∀ (j : Nat) (p : PV), x[j]? = some p → ∃ u, cur'[i * P.cellsOf e + j]? = some u ∧ u.oneCell' = true ∧ p.rep (view w ow) u) :
    RE P E (updL σ [(k, .rw st true e ys)]) tm (w.setRow g cur') ow ∧ Ren (view w ow) (view (w.setRow g cur') ow) E E σ (updL σ [(k, .rw st true e ys)]) ∧ Evo w ow (w.setRow g cur') ow := by
  have hkS := fun t => hR.notS (k := k) (by rw [hk]; rfl) t
  have hkB := fun t => hR.rowNotB hk t
  have evo : Evo w ow (w.setRow g cur') ow := evo_setRow _ hmine
  have hC : Chg (fun q => q = k) E E w (w.setRow g cur') ow ow :=
    ⟨evo, fun b q hb k1 k2 k3 => by
      have hbg : b ≠ g := fun e => k3 (by rw [e, hlab] at k1; simpa using k1.symm)
      exact ⟨setRow_other w _ b _ hbg, k1, k2⟩, fun _ _ => rfl, fun q hq => rfl⟩
  have := RE.step (W := fun q => q = k) (E' := E) (ow' := ow) (σ' := updL σ [(k, .rw st true e ys)]) (tm' := tm) hR hC
    (fun q hq => by simp only [updL]; rw [if_neg (fun e => hq e.symm)])
    (fun q hq s hs => by
      subst hq
      rw [hk] at hs
      simp [KV.stamp] at hs
      subst hs
      exact ⟨st, by simp [updL, KV.stamp], Nat.le_refl _, fun _ => ⟨rfl, fun _ _ => rfl⟩⟩)
    (fun _ _ => rfl) (fun t ht => absurd ht.symm (hkS t)) (fun d hd => absurd hd.symm (hkB d)) (fun _ t ht => absurd ht.symm (hkS t))
    (fun _ d s cs hd h => absurd hd.symm (hkB d))
    (fun q s e' zs hq h => by
      subst hq
      simp only [updL, if_true, KV.rw.injEq, true_and] at h
      obtain ⟨_, rfl, rfl⟩ := h
      rw [hh]
      refine .inr ⟨g, cap, cur', by rw [hyl], hlab, hmine, setRow_heap w _ _ _ _ _ hg, by omega, hm, hs, fun i x hx => ⟨(hc i x hx).1, fun j p hp => ?_⟩⟩
      obtain ⟨u, h1, h2, h3⟩ := (hc i x hx).2 j p hp
      exact ⟨u, h1, h2, PV.rep_mono evo.view p u h3⟩)
    (fun q s e' ys hq h => by subst hq; simp [updL] at h)
  exact ⟨this.1, this.2, evo⟩

end
end Go.Pw
