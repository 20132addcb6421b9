/- One step of the abstract state: what is written, what is kept. -/
import Derived.Test.YtgnedmmecmpnpaaGreatDoorPwMDE
namespace Go.Pw
variable [Mode]
set_option linter.unusedSimpArgs false
set_option linter.unusedVariables false
set_option linter.unusedSectionVars false

def updL (σ : Look) : List (Key × KV) → Look
  | [] => σ
  | (k, v) :: l => fun k' => if k = k' then v else updL σ l k'

theorem look_append (wr σ : St) : look (wr ++ σ) = updL (look σ) wr := by
  induction wr with
  | nil => rfl
  | cons x xs ih => funext k; obtain ⟨a, b⟩ := x; simp only [List.cons_append, look, updL, ih]

/-- What a step that writes the keys W may do to the names and to the world. -/
structure Chg (W : Key → Prop) (E E' : Env) (w w' : World) (ow ow' : Ow) : Prop where
  evo : Evo w ow w' ow'
  keep : ∀ b k, b < w.heap.size → E.lab b = some k → ow b = .mine → ¬ W k → w'.heap[b]? = w.heap[b]? ∧ E'.lab b = some k ∧ ow' b = .mine
  β : ∀ d, ¬ W (.B d) → E'.β d = E.β d
  hdr : ∀ k, ¬ W k → E'.hdr k = E.hdr k

section
variable {P : Program} {E E' : Env} {σ σ' : Look} {tm tm' : Array Value} {w w' : World} {ow ow' : Ow} {W : Key → Prop}

theorem rowOk_mono {h h' : View} {lab lab' : Nat → Option Key} {k : Key} {e : TypeId} {xs : List (List PV)} {v : Value} (hv : View.le h h')
    (hk : ∀ b, b < w.heap.size → lab b = some k → ow b = .mine → w'.heap[b]? = w.heap[b]? ∧ lab' b = some k ∧ ow' b = .mine)
    (hr : rowOk P h w ow lab k e xs v) : rowOk P h' w' ow' lab' k e xs v := by
  rcases hr with hr | ⟨g, cap, cur, h1, h2, h3, h4, h5, h6, h7, h8⟩
  · exact .inl hr
  · obtain ⟨k1, k2, k3⟩ := hk g (Array.getElem?_eq_some_iff.1 h4).1 h2 h3
    refine .inr ⟨g, cap, cur, h1, k2, k3, k1.trans h4, h5, h6, h7, fun i x hx => ⟨(h8 i x hx).1, fun j p hp => ?_⟩⟩
    obtain ⟨u, hu1, hu2, hu3⟩ := (h8 i x hx).2 j p hp
    exact ⟨u, hu1, hu2, PV.rep_mono hv p u hu3⟩

theorem RE.step (hR : RE P E σ tm w ow) (hC : Chg W E E' w w' ow ow') (hσ : ∀ k, ¬ W k → σ' k = σ k)
    (hst : ∀ k, W k → ∀ st, (σ k).stamp = some st → ∃ st', (σ' k).stamp = some st' ∧ st ≤ st' ∧ (st = st' → E'.hdr k = E.hdr k ∧ ∀ d, k = .B d → E'.β d = E.β d))
    (htm : ∀ t, ¬ W (.S t) → tm'.getD t Go.undef = tm.getD t Go.undef)
    (hsk : ∀ t, W (.S t) → (σ' (.S t)).stamp = none)
    (hbk : ∀ d, W (.B d) → (∃ st cs, σ' (.B d) = .bx st cs) ∨ σ' (.B d) = .none ∨ ∃ st, σ' (.B d) = .dead st)
    (hslot : Ren (view w ow) (view w' ow') E E' σ σ' → ∀ t, W (.S t) → (σ' (.S t)).slot.rep (view w' ow') E' σ' (tm'.getD t Go.undef))
    (hbox : Ren (view w ow) (view w' ow') E E' σ σ' → ∀ d st cs, W (.B d) → σ' (.B d) = .bx st cs → boxOk (view w' ow') E' σ' w' ow' d cs)
    (hown : ∀ k st e xs, W k → σ' k = .rw st true e xs → rowOk P (view w' ow') w' ow' E'.lab k e xs (E'.hdr k))
    (hshr : ∀ k st e xs, W k → σ' k = .rw st false e xs → (PV.sl xs).rep (view w' ow') (E'.hdr k) ∧ ∀ x ∈ xs, x.length = P.cellsOf e) :
    RE P E' σ' tm' w' ow' ∧ Ren (view w ow) (view w' ow') E E' σ σ' := by
  have ren : Ren (view w ow) (view w' ow') E E' σ σ' := by
    refine ⟨hC.evo.view, fun d st hs => ?_, fun k st hs => ?_⟩
    · by_cases hW : W (.B d)
      · obtain ⟨st', h1, h2, h3⟩ := hst _ hW st hs
        exact ⟨st', h1, h2, fun e => (h3 e).2 d rfl⟩
      · exact ⟨st, by rw [hσ _ hW]; exact hs, Nat.le_refl _, fun _ => hC.β d hW⟩
    · by_cases hW : W k
      · obtain ⟨st', h1, h2, h3⟩ := hst _ hW st hs
        exact ⟨st', h1, h2, fun e => (h3 e).1⟩
      · exact ⟨st, by rw [hσ _ hW]; exact hs, Nat.le_refl _, fun _ => hC.hdr k hW⟩
  refine ⟨⟨fun t => ?_, fun d => ?_, fun t => ?_, fun d st cs hd => ?_, fun k st e xs hk => ?_, fun k st e xs hk => ?_, hR.glob.evo hC.evo⟩, ren⟩
  · by_cases hW : W (.S t)
    · exact hsk t hW
    · rw [hσ _ hW]; exact hR.sk t
  · by_cases hW : W (.B d)
    · exact hbk d hW
    · rw [hσ _ hW]; exact hR.bk d
  · by_cases hW : W (.S t)
    · exact hslot ren t hW
    · rw [hσ _ hW, htm t hW]
      exact AV.rep_ren ren _ _ (hR.slot t)
  · by_cases hW : W (.B d)
    · exact hbox ren d st cs hW hd
    · rw [hσ _ hW] at hd
      obtain ⟨h1, h2, h3⟩ := hR.box d st cs hd
      have hlt : E.β d < w.heap.size := by rcases h3 with ⟨_, _, h3, _⟩ | ⟨_, _, _, _, _, h3, _⟩ <;> exact (Array.getElem?_eq_some_iff.1 h3).1
      obtain ⟨k1, k2, k3⟩ := hC.keep _ _ hlt h1 h2 hW
      have hb := hC.β d hW
      refine ⟨by rw [hb]; exact k2, by rw [hb]; exact k3, ?_⟩
      rcases h3 with ⟨T, l, h3, h4⟩ | ⟨ks, vs, es, c, h0, h3, h5, h4⟩
      · exact .inl ⟨T, l, by rw [hb, k1]; exact h3, AV.repL_ren ren _ _ h4⟩
      · exact .inr ⟨ks, vs, es, c, h0, by rw [hb, k1]; exact h3, h5, AV.repL_ren ren _ _ h4⟩
  · by_cases hW : W k
    · exact hown k st e xs hW hk
    · rw [hσ _ hW] at hk
      rw [hC.hdr k hW]
      exact rowOk_mono hC.evo.view (fun b hs hb ho => hC.keep b k hs hb ho hW) (hR.own k st e xs hk)
  · by_cases hW : W k
    · exact hshr k st e xs hW hk
    · rw [hσ _ hW] at hk
      rw [hC.hdr k hW]
      obtain ⟨h1, h2⟩ := hR.shared k st e xs hk
      exact ⟨PV.rep_mono hC.evo.view _ _ h1, h2⟩

theorem Chg.refl (W : Key → Prop) (E : Env) (w : World) (ow : Ow) : Chg W E E w w ow ow :=
  ⟨Evo.refl w ow, fun _ _ _ h1 h2 _ => ⟨rfl, h1, h2⟩, fun _ _ => rfl, fun _ _ => rfl⟩

theorem getD_set {tm : Array Value} {d : Nat} {v : Value} (h : d < tm.size) (t : Nat) : (tm.setIfInBounds d v).getD t Go.undef = if d = t then v else tm.getD t Go.undef := by
  by_cases hdt : d = t
  · subst hdt
    simp [Array.getD_eq_getD_getElem?, Array.getElem?_setIfInBounds, h]
  · simp [Array.getD_eq_getD_getElem?, Array.getElem?_setIfInBounds, hdt]

/-- a slot is given a value; nothing else happens -/
theorem RE.put {d : Nat} {a : AV} {v : Value} (hR : RE P E σ tm w ow) (hd : d < tm.size) (ha : a.rep (view w ow) E σ v) :
    RE P E (updL σ [(.S d, .av a)]) (tm.setIfInBounds d v) w ow ∧ Ren (view w ow) (view w ow) E E σ (updL σ [(.S d, .av a)]) := by
  have hs := hR.sk d
  refine RE.step (W := fun k => k = .S d) hR (Chg.refl _ E w ow) (fun k hk => by simp only [updL]; rw [if_neg (fun e => hk e.symm)]) (fun k hk st h => ?_)
    (fun t ht => by rw [getD_set hd, if_neg (fun e => ht (by rw [e]))]) (fun t ht => by cases ht; simp [updL, KV.stamp]) (fun d hd => by cases hd) (fun ren t ht => ?_) (fun _ b st cs hb => by cases hb) (fun k st e xs hk h => ?_) (fun k st e xs hk h => ?_)
  · subst hk; rw [hs] at h; cases h
  · cases ht
    rw [getD_set hd, if_pos rfl]
    simp only [updL, if_true, KV.slot]
    exact AV.rep_ren ren _ _ ha
  · subst hk; simp [updL] at h
  · subst hk; simp [updL] at h

/-- the stamp that a key is given next -/
def nst (kv : KV) : Nat := match kv.stamp with
  | some s => s + 1
  | none => 0

theorem nst_lt {kv : KV} {s : Nat} (h : kv.stamp = some s) : s < nst kv := by simp [nst, h]

/-- an own row is given another name -/
theorem RE.move {k K : Key} {st : Nat} {e : TypeId} {xs : List (List PV)} (hR : RE P E σ tm w ow) (hk : σ k = .rw st true e xs) (hne : k ≠ K) (hK : ∀ t, K ≠ .S t) (hB : ∀ d, K ≠ .B d) :
    ∃ E', RE P E' (updL σ [(K, .rw (nst (σ K)) true e xs), (k, .dead (st + 1))]) tm w ow ∧ Ren (view w ow) (view w ow) E E' σ (updL σ [(K, .rw (nst (σ K)) true e xs), (k, .dead (st + 1))]) ∧ E'.hdr K = E.hdr k ∧ E'.β = E.β ∧
      ∀ d, updL σ [(K, .rw (nst (σ K)) true e xs), (k, .dead (st + 1))] (.B d) = σ (.B d) := by
  have hkS : ∀ t, k ≠ .S t := fun t e => by have := hR.sk t; rw [← e, hk] at this; simp [KV.stamp] at this
  let E' : Env := ⟨E.β, fun q => if q = K then E.hdr k else E.hdr q, fun b => if E.lab b = some k then some K else E.lab b⟩
  have hrow := hR.own k st e xs hk
  have hkB : ∀ d, k ≠ .B d := fun d e => by
    have := hR.bk d
    rw [← e, hk] at this
    rcases this with ⟨_, _, h⟩ | h | ⟨_, h⟩ <;> cases h
  have := RE.step (W := fun q => q = k ∨ q = K) (E' := E') (σ' := updL σ [(K, .rw (nst (σ K)) true e xs), (k, .dead (st + 1))]) (tm' := tm) hR
    ⟨Evo.refl w ow, fun b q _ h1 h2 h3 => ⟨rfl, by simp only [E']; rw [if_neg (fun e => h3 (.inl (by rw [h1] at e; simpa using e)))]; exact h1, h2⟩, fun _ _ => rfl, fun q hq => by simp only [E']; rw [if_neg (fun e => hq (.inr e))]⟩
    (fun q hq => by simp only [updL]; rw [if_neg (fun e => hq (.inr e.symm)), if_neg (fun e => hq (.inl e.symm))])
    (fun q hq s hs => by
      rcases hq with rfl | rfl
      · refine ⟨st + 1, by simp [updL, hne.symm, KV.stamp], ?_, ?_⟩
        · rw [hk] at hs; simp [KV.stamp] at hs; omega
        · rw [hk] at hs; simp [KV.stamp] at hs; omega
      · refine ⟨nst (σ q), by simp [updL, KV.stamp], Nat.le_of_lt (nst_lt hs), fun e => ?_⟩
        have := nst_lt hs
        omega)
    (fun _ _ => rfl)
    (fun t ht => by rcases ht with e | e; exact absurd e.symm (hkS t); exact absurd e.symm (hK t))
    (fun d hd => by rcases hd with e | e; exact absurd e.symm (hkB d); exact absurd e.symm (hB d))
    (fun _ t ht => by rcases ht with e | e; exact absurd e.symm (hkS t); exact absurd e.symm (hK t))
    (fun _ d s cs hd h => by
      rcases hd with e | e
      · subst e; simp [updL, hne.symm] at h
      · exact absurd e.symm (hB d))
    (fun q s e' ys hq h => by
      rcases hq with rfl | rfl
      · simp [updL, hne.symm] at h
      · simp only [updL, if_true, KV.rw.injEq] at h
        obtain ⟨_, _, rfl, rfl⟩ := h
        simp only [E', if_true]
        rcases hrow with hr | ⟨g, cap, cur, h1, h2, h3, h4⟩
        · exact .inl hr
        · exact .inr ⟨g, cap, cur, h1, if_pos h2, h3, h4⟩)
    (fun q s e' ys hq h => by
      rcases hq with rfl | rfl
      · simp [updL, hne.symm] at h
      · simp [updL] at h)
  exact ⟨E', this.1, this.2, by simp [E'], rfl, fun d => by simp only [updL]; rw [if_neg (hB d), if_neg (hkB d)]⟩

/-- the rows of an own block, as values that stay -/
theorem sl_of_row {h : View} {g cap : Nat} {cur : Array Value} {s : Nat} {xs : List (List PV)} (hc : ∀ o u, cur[o]? = some u → h g o = some u)
    (h8 : ∀ (i : Nat) (x : List PV), xs[i]? = some x → x.length = s ∧ ∀ (j : Nat) (p : PV), x[j]? = some p → ∃ u, cur[i * s + j]? = some u ∧ u.oneCell' = true ∧ p.rep h u) (hle : xs.length ≤ cap) :
    (PV.sl xs).rep h (.slice (some ⟨g, 0, none⟩) xs.length cap) := by
  have cells : ∀ (x : List PV) (o : Nat), (∀ (j : Nat) (p : PV), x[j]? = some p → ∃ u, cur[o + j]? = some u ∧ p.rep h u) → PV.repCs h g o x := by
    intro x
    induction x with
    | nil => intro o _; simp [PV.repCs]
    | cons p ps ih =>
      intro o hx
      simp only [PV.repCs]
      obtain ⟨u, hu1, hu2⟩ := hx 0 p (by simp)
      refine ⟨⟨u, hc _ _ (by simpa using hu1), hu2⟩, ih (o + 1) fun j q hq => ?_⟩
      have := hx (j + 1) q (by simpa using hq)
      rwa [show o + (j + 1) = o + 1 + j by omega] at this
  have rows : ∀ (ys : List (List PV)) (n : Nat), (∀ (i : Nat) (x : List PV), ys[i]? = some x → x.length = s ∧ ∀ (j : Nat) (p : PV), x[j]? = some p → ∃ u, cur[n + i * s + j]? = some u ∧ p.rep h u) → PV.repEs h g n s ys := by
    intro ys
    induction ys with
    | nil => intro n _; simp [PV.repEs]
    | cons y ys ih =>
      intro n hy
      simp only [PV.repEs]
      refine ⟨(hy 0 y (by simp)).1, cells y n fun j p hp => by simpa using (hy 0 y (by simp)).2 j p hp, ih (n + s) fun i x hx => ?_⟩
      have := hy (i + 1) x (by simpa using hx)
      refine ⟨this.1, fun j p hp => ?_⟩
      have h2 := this.2 j p hp
      rwa [show n + (i + 1) * s + j = n + s + i * s + j by rw [Nat.add_mul]; omega] at h2
  simp only [PV.rep]
  refine ⟨_, _, _, rfl, rfl, hle, ?_⟩
  by_cases hx : xs = []
  · exact .inl hx
  · refine .inr ⟨g, 0, s, rfl, rows xs 0 fun i x hi => ⟨(h8 i x hi).1, fun j p hp => ?_⟩⟩
    obtain ⟨u, h1, _, h3⟩ := (h8 i x hi).2 j p hp
    exact ⟨u, by simpa using h1, h3⟩

/-- an own row is written no more -/
theorem RE.freeze {k : Key} {st : Nat} {e : TypeId} {xs : List (List PV)} (hR : RE P E σ tm w ow) (hk : σ k = .rw st true e xs) :
    ∃ ow', RE P E (updL σ [(k, .rw st false e xs)]) tm w ow' ∧ Ren (view w ow) (view w ow') E E σ (updL σ [(k, .rw st false e xs)]) ∧ Evo w ow w ow' := by
  have hkS : ∀ t, k ≠ .S t := fun t e => by have := hR.sk t; rw [← e, hk] at this; simp [KV.stamp] at this
  have hrow := hR.own k st e xs hk
  let ow' : Ow := fun b => if E.lab b = some k ∧ ow b = .mine then .imm else ow b
  have evo : Evo w ow w ow' := by
    refine ⟨rfl, rfl, rfl, Nat.le_refl _, fun b _ hb => ⟨rfl, ?_⟩, fun b _ hb => ⟨rfl, ?_⟩, fun _ => Nat.le_refl _⟩
    · simp only [ow']; split
      · rfl
      · exact hb
    · simp only [ow']; rw [if_neg (fun hh => by rw [hb] at hh; cases hh.2)]; exact hb
  have hC : Chg (fun q => q = k) E E w w ow ow' :=
    ⟨evo, fun b q _ h1 h2 h3 => ⟨rfl, h1, by simp only [ow']; rw [if_neg (fun hh => h3 (by rw [h1] at hh; simpa using hh.1))]; exact h2⟩, fun _ _ => rfl, fun _ _ => rfl⟩
  have := RE.step (W := fun q => q = k) (E' := E) (ow' := ow') (σ' := updL σ [(k, .rw st false e xs)]) (tm' := tm) hR hC
    (fun q hq => by simp only [updL]; rw [if_neg (fun e => hq e.symm)])
    (fun q hq s hs => by
      subst hq
      rw [hk] at hs
      simp [KV.stamp] at hs
      subst hs
      exact ⟨st, by simp [updL, KV.stamp], Nat.le_refl _, fun _ => ⟨rfl, fun _ _ => rfl⟩⟩)
    (fun _ _ => rfl) (fun t ht => absurd ht.symm (hkS t)) (fun d hd => by subst hd; have := hR.bk d; rw [hk] at this; rcases this with ⟨_, _, h⟩ | h | ⟨_, h⟩ <;> cases h) (fun _ t ht => absurd ht.symm (hkS t))
    (fun _ d s cs hd h => by subst hd; simp [updL] at h)
    (fun q s e' ys hq h => by subst hq; simp [updL] at h)
    (fun q s e' ys hq h => by
      subst hq
      simp only [updL, if_true, KV.rw.injEq, true_and] at h
      obtain ⟨_, rfl, rfl⟩ := h
      rcases hrow with ⟨rfl, a, ha⟩ | ⟨g, cap, cur, h1, h2, h3, h4, h5, h6, h7, h8⟩
      · exact ⟨by rw [ha]; simp only [PV.rep]; exact ⟨_, _, _, rfl, rfl, Nat.le_refl _, .inl trivial⟩, by simp⟩
      · refine ⟨?_, fun x hx => ?_⟩
        · rw [h1]
          refine sl_of_row (cur := cur) (s := P.cellsOf e) (fun o u hu => ?_) (fun i x hx => ⟨(h8 i x hx).1, fun j p hp => ?_⟩) h5
          · unfold view
            rw [if_pos (by simp only [ow']; rw [if_pos ⟨h2, h3⟩])]
            rw [cell_of_row w g o cur _ _ h4]
            exact hu
          · obtain ⟨u, hu1, hu2, hu3⟩ := (h8 i x hx).2 j p hp
            exact ⟨u, hu1, hu2, PV.rep_mono evo.view p u hu3⟩
        · obtain ⟨i, hi⟩ := List.getElem?_of_mem hx
          exact (h8 i x hi).1)
  exact ⟨ow', this.1, this.2, evo⟩

end
end Go.Pw
