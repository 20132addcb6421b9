/- Handing a part of the state to a function that is called: what it sees. -/
import Derived.Test.YtgnedmmecmpnpaaGreatDoorPwMNaN
namespace Go.Pw
variable [Mode]
set_option linter.unusedSimpArgs false
set_option linter.unusedVariables false
set_option linter.unusedSectionVars false

/-! How a value of the caller's reads in the callee's state. -/
mutual
def XA (σ T : Look) (lk : Key → Option Key) : AV → AV → Prop
  | .pv p, .pv p' => p = p'
  | .emp, .emp => True
  | .pv p, .emp => p = .sl []
  | .pv p, .rf k st => ∃ e xs, p = .sl xs ∧ σ k = .rw st false e xs
  | .rf K s', .rf k st => lk K = some k ∧ (∃ e xs, σ k = .rw st true e xs) ∧ (T K).stamp = some s'
  | .ptr j off s', .ptr d off' st => off = off' ∧ lk (.B j) = some (.B d) ∧ (σ (.B d)).stamp = some st ∧ (T (.B j)).stamp = some s'
  | .agg cs, .agg cs' => XL σ T lk cs cs'
  | .tup cs, .tup cs' => XL σ T lk cs cs'
  | .clo f a b, .clo f' a' b' => f = f' ∧ XL σ T lk a a' ∧ XL σ T lk b b'
  | .when b x, .when b' x' => b = b' ∧ XA σ T lk x x'
  | .undef, b => b.isMk = false
  | _, _ => False
def XL (σ T : Look) (lk : Key → Option Key) : List AV → List AV → Prop
  | [], [] => True
  | a :: as, b :: bs => XA σ T lk a b ∧ XL σ T lk as bs
  | _, _ => False
end

section
variable {P : Program} {E : Env} {σ : Look} {tm : Array Value} {w : World} {ow : Ow}

mutual
theorem XA_rep {h h' : View} {E E' : Env} {σ T : Look} {lk : Key → Option Key} (hv : View.le h h') (hh : ∀ K k st e xs, lk K = some k → σ k = .rw st true e xs → E'.hdr K = E.hdr k) (hb : ∀ j d, lk (.B j) = some (.B d) → E'.β j = E.β d)
    (hs : ∀ k st e xs, σ k = .rw st false e xs → (PV.sl xs).rep h' (E.hdr k)) : ∀ (a' a : AV) (v : Value), XA σ T lk a' a → a.rep h E σ v → a'.rep h' E' T v
  | .undef, a, v, _, _ => by simp [AV.rep]
  | .pv p, .pv p', v, hx, hr => by
    simp only [XA] at hx
    subst hx
    simp only [AV.rep] at hr ⊢
    exact PV.rep_mono hv _ _ hr
  | .pv p, .emp, v, hx, hr => by
    simp only [XA] at hx
    subst hx
    simp only [AV.rep] at hr ⊢
    obtain ⟨a, rfl⟩ := hr
    simp only [PV.rep]
    exact ⟨_, _, _, rfl, rfl, Nat.le_refl _, .inl trivial⟩
  | .pv p, .rf k st, v, hx, hr => by
    simp only [XA] at hx
    obtain ⟨e, xs, rfl, hk⟩ := hx
    have := rf_hdr hr (by rw [hk]; rfl)
    simp only [AV.rep]
    rw [this]
    exact hs k st e xs hk
  | .emp, .emp, v, hx, hr => by simpa [AV.rep] using hr
  | .rf K s', .rf k st, v, hx, hr => by
    simp only [XA] at hx
    obtain ⟨h1, ⟨e, xs, h2⟩, h3⟩ := hx
    have hval := rf_hdr hr (by rw [h2]; rfl)
    simp only [AV.rep] at hr ⊢
    exact ⟨hr.1, s', h3, Nat.le_refl _, fun _ => by rw [hh K k st e xs h1 h2]; exact hval⟩
  | .ptr j off s', .ptr d off' st, v, hx, hr => by
    simp only [XA] at hx
    obtain ⟨rfl, h1, h2, h3⟩ := hx
    have hval := ptr_val hr h2
    simp only [AV.rep]
    exact ⟨_, hval, s', h3, Nat.le_refl _, fun _ => (hb j d h1).symm⟩
  | .agg cs, .agg cs', v, hx, hr => by
    simp only [XA] at hx
    simp only [AV.rep] at hr ⊢
    obtain ⟨l, e, hl⟩ := hr
    exact ⟨l, e, XL_rep hv hh hb hs cs cs' l hx hl⟩
  | .tup cs, .tup cs', v, hx, hr => by
    simp only [XA] at hx
    simp only [AV.rep] at hr ⊢
    obtain ⟨l, e, hl⟩ := hr
    exact ⟨l, e, XL_rep hv hh hb hs cs cs' l hx hl⟩
  | .clo f a b, .clo f' a' b', v, hx, hr => by
    simp only [XA] at hx
    obtain ⟨rfl, h1, h2⟩ := hx
    simp only [AV.rep] at hr ⊢
    obtain ⟨l1, l2, e, q1, q2⟩ := hr
    exact ⟨l1, l2, e, XL_rep hv hh hb hs a a' l1 h1 q1, XL_rep hv hh hb hs b b' l2 h2 q2⟩
  | .when b x, .when b' x', v, hx, hr => by
    simp only [XA] at hx
    obtain ⟨rfl, h1⟩ := hx
    simp only [AV.rep] at hr ⊢
    exact ⟨fun hb' => XA_rep hv hh hb hs x x' v h1 (hr.1 hb'), hr.2⟩
theorem XL_rep {h h' : View} {E E' : Env} {σ T : Look} {lk : Key → Option Key} (hv : View.le h h') (hh : ∀ K k st e xs, lk K = some k → σ k = .rw st true e xs → E'.hdr K = E.hdr k) (hb : ∀ j d, lk (.B j) = some (.B d) → E'.β j = E.β d)
    (hs : ∀ k st e xs, σ k = .rw st false e xs → (PV.sl xs).rep h' (E.hdr k)) : ∀ (as' as : List AV) (l : List Value), XL σ T lk as' as → AV.repL h E σ as l → AV.repL h' E' T as' l
  | [], [], l, _, hr => by simpa [AV.repL] using hr
  | a' :: as', a :: as, l, hx, hr => by
    simp only [XL] at hx
    simp only [AV.repL] at hr ⊢
    obtain ⟨v, vs, e, h1, h2⟩ := hr
    exact ⟨v, vs, e, XA_rep hv hh hb hs a' a v hx.1 h1, XL_rep hv hh hb hs as' as vs hx.2 h2⟩
end

theorem XA_noMk {σ T : Look} {lk : Key → Option Key} : ∀ (a b : AV), XA σ T lk a b → b.isMk = false := by
  intro a b h
  cases b with
  | mk ks => cases a <;> simp [XA, AV.isMk] at h
  | _ => rfl
theorem XL_noMk {σ T : Look} {lk : Key → Option Key} : ∀ (cs cs' : List AV), XL σ T lk cs cs' → hasMk cs' = false
  | _, [], _ => rfl
  | [], b :: cs', h => by simp [XL] at h
  | a :: cs, b :: cs', h => by
    simp only [XL] at h
    exact XA_noMk a b h.1
/-- What the callee is given, of the caller's state. -/
structure Hand (σ T : Look) (lk inv : Key → Option Key) (as : List AV) : Prop where
  bij : ∀ K k, lk K = some k ↔ inv k = some K
  slots : ∀ t, (∃ a, T (.S t) = .av a) ∨ T (.S t) = .none
  slot : ∀ (t : Nat) (a' : AV), T (.S t) = .av a' → ∃ a, as[t]? = some a ∧ XA σ T lk a' a
  box : ∀ j, T (.B j) = .none ∨ ∃ st cs d st' cs', T (.B j) = .bx st cs ∧ lk (.B j) = some (.B d) ∧ σ (.B d) = .bx st' cs' ∧ XL σ T lk cs cs'
  row : ∀ K st own e xs, T K = .rw st own e xs → own = true ∧ ∃ k st', lk K = some k ∧ σ k = .rw st' true e xs

def handOw (E : Env) (inv : Key → Option Key) (ow : Ow) : Ow := fun b =>
  if ow b = .mine then (match E.lab b with
    | some k => if (inv k).isSome then .mine else .far
    | none => .far) else ow b

noncomputable def handEnv (E : Env) (lk inv : Key → Option Key) : Env where
  β := fun j => match lk (.B j) with
    | some (.B d) => E.β d
    | _ => 0
  hdr := fun K => match lk K with
    | some k => E.hdr k
    | none => Go.undef
  lab := fun b => (E.lab b).bind inv

theorem handOw_imm {E : Env} {inv : Key → Option Key} {ow : Ow} {b : Nat} : handOw E inv ow b = .imm ↔ ow b = .imm := by
  unfold handOw
  split
  · rename_i h
    split
    · split <;> simp [h]
    · simp [h]
  · rfl
theorem handOw_mine {E : Env} {inv : Key → Option Key} {ow : Ow} {b : Nat} {k K : Key} (h : ow b = .mine) (hl : E.lab b = some k) (hi : inv k = some K) : handOw E inv ow b = .mine := by
  unfold handOw
  simp [h, hl, hi]
theorem handOw_far {E : Env} {inv : Key → Option Key} {ow : Ow} {b : Nat} {k : Key} (h : ow b = .mine) (hl : E.lab b = some k) (hi : inv k = none) : handOw E inv ow b = .far := by
  unfold handOw
  simp [h, hl, hi]
theorem handOw_far' {E : Env} {inv : Key → Option Key} {ow : Ow} {b : Nat} (h : ow b = .far) : handOw E inv ow b = .far := by
  unfold handOw
  simp [h]

theorem hand_view {E : Env} {inv : Key → Option Key} {w : World} {ow : Ow} : view w (handOw E inv ow) = view w ow := by
  funext b o
  unfold view
  by_cases h : ow b = .imm
  · rw [if_pos h, if_pos (handOw_imm.2 h)]
  · rw [if_neg h, if_neg (fun hh => h (handOw_imm.1 hh))]

theorem RE.hand {σ T : Look} {lk inv : Key → Option Key} {as : List AV} {vals : Array Value} (hR : RE P E σ tm w ow) (hH : Hand σ T lk inv as) (hv : AV.repL (view w ow) E σ as vals.toList) :
    RE P (handEnv E lk inv) T vals w (handOw E inv ow) := by
  have hs : ∀ k st e xs, σ k = .rw st false e xs → (PV.sl xs).rep (view w (handOw E inv ow)) (E.hdr k) := fun k st e xs h => by rw [hand_view]; exact (hR.shared k st e xs h).1
  have hle : View.le (view w ow) (view w (handOw E inv ow)) := by rw [hand_view]; exact fun _ _ _ h => h
  have hh : ∀ K k st e xs, lk K = some k → σ k = .rw st true e xs → (handEnv E lk inv).hdr K = E.hdr k := fun K k _ _ _ h _ => by simp [handEnv, h]
  have hb : ∀ j d, lk (.B j) = some (.B d) → (handEnv E lk inv).β j = E.β d := fun j d h => by simp [handEnv, h]
  obtain ⟨hl, hg⟩ := repL_iff.1 hv
  refine ⟨fun t => ?_, fun j => ?_, fun t => ?_, fun j st cs hj => ?_, fun K st e xs hK => ?_, fun K st e xs hK => ?_, ⟨hR.glob.1, fun b hb => handOw_imm.2 (hR.glob.2.1 b hb), hR.glob.2.2⟩⟩
  · rcases hH.slots t with ⟨a, h⟩ | h <;> rw [h] <;> rfl
  · rcases hH.box j with h | ⟨st, cs, d, st', cs', h, _⟩
    · exact .inr (.inl h)
    · exact .inl ⟨st, cs, h⟩
  · rcases hH.slots t with ⟨a', h⟩ | h
    · rw [h]
      obtain ⟨a, ha, hx⟩ := hH.slot t a' h
      have hlt : t < vals.toList.length := by rw [← hl]; exact (List.getElem?_eq_some_iff.1 ha).1
      have hval : vals.toList[t]? = some (vals.getD t Go.undef) := by
        have hlt' : t < vals.size := by simpa using hlt
        rw [Array.getD_eq_getD_getElem?, Array.getElem?_toList, Array.getElem?_eq_getElem hlt']
        rfl
      exact XA_rep hle hh hb hs a' a _ hx (hg t a _ ha hval)
    · rw [h]
      simp [KV.slot, AV.rep]
  · rcases hH.box j with h | ⟨st0, cs0, d, st', cs', h, h1, h2, h3⟩
    · rw [h] at hj; cases hj
    · rw [h] at hj
      simp only [KV.bx.injEq] at hj
      obtain ⟨rfl, rfl⟩ := hj
      obtain ⟨k1, k2, Ty, l, k3, k4⟩ := (hR.box d st' cs' h2).cells (XL_noMk _ _ h3)
      have hβ := hb j d h1
      refine ⟨?_, ?_, .inl ⟨Ty, l, by rw [hβ]; exact k3, XL_rep hle hh hb hs _ _ _ h3 k4⟩⟩
      · rw [hβ]
        simp [handEnv, k1, (hH.bij _ _).1 h1]
      · rw [hβ]
        exact handOw_mine k2 k1 ((hH.bij _ _).1 h1)
  · obtain ⟨_, k, st', h1, h2⟩ := hH.row K st true e xs hK
    have hr := hR.own k st' e xs h2
    rw [show (handEnv E lk inv).hdr K = E.hdr k from hh K k st' e xs h1 h2, hand_view]
    rcases hr with hr | ⟨g, cap, cur, g1, g2, g3, g4⟩
    · exact .inl hr
    · exact .inr ⟨g, cap, cur, g1, by simp [handEnv, g2, (hH.bij _ _).1 h1], handOw_mine g3 g2 ((hH.bij _ _).1 h1), g4⟩
  · obtain ⟨h, _⟩ := hH.row K st false e xs hK
    cases h

/-- What comes back. -/
structure Back (σ R : Look) (lk inv bk kb : Key → Option Key) (dst : Option Nat) (wr : St) : Prop where
  bij : ∀ K k, bk K = some k ↔ kb k = some K
  mem : ∀ d, dst = some d → ∃ v, (Key.S d, v) ∈ wr
  dstS : ∀ t v, (Key.S t, v) ∈ wr → some t = dst
  old : ∀ k, (∃ K, inv k = some K) → ∃ v, (k, v) ∈ wr
  full : ∀ k K s e xs, kb k = some K → R K = .rw s true e xs → ∃ v, (k, v) ∈ wr
  slot : ∀ d, dst = some d → ∃ a, updL σ wr (.S d) = .av a ∧ XA R (updL σ wr) kb a (R (.S 0)).slot
  noslot : ∀ t, some t ≠ dst → updL σ wr (.S t) = σ (.S t)
  box : ∀ d v, (Key.B d, v) ∈ wr → ∃ j st cs cs' sr, lk (.B j) = some (.B d) ∧ bk (.B j) = some (.B d) ∧ j < 1000 ∧ (σ (.B d)).stamp = some st ∧ updL σ wr (.B d) = .bx st cs ∧ R (.B j) = .bx sr cs' ∧ XL R (updL σ wr) kb cs cs'
  kbB : ∀ d K, kb (.B d) = some K → ∃ j, K = .B j ∧ lk (.B j) = some (.B d) ∧ j < 1000
  row : ∀ k v, (k, v) ∈ wr → (∀ t, k ≠ .S t) → (∀ d, k ≠ .B d) → (∃ n, updL σ wr k = .dead n ∧ ∀ s, (σ k).stamp = some s → s < n) ∨
      ∃ n K s e xs, updL σ wr k = .rw n true e xs ∧ kb k = some K ∧ R K = .rw s true e xs ∧ ∀ s, (σ k).stamp = some s → s < n

theorem updL_not_mem {σ : Look} {wr : St} {k : Key} (h : ∀ v, (k, v) ∉ wr) : updL σ wr k = σ k := by
  induction wr with
  | nil => rfl
  | cons x xs ih =>
    obtain ⟨k', v⟩ := x
    simp only [updL]
    rw [if_neg (fun e => h v (by rw [e]; simp)), ih (fun u hu => h u (by simp [hu]))]

theorem RE.back {σ T R : Look} {lk inv bk kb : Key → Option Key} {as : List AV} {dst : Option Nat} {wr : St} {v : Value} {w' : World} {owr : Ow} {Er : Env} (hR : RE P E σ tm w ow) (hH : Hand σ T lk inv as)
    (hB : Back σ R lk inv bk kb dst wr) (hr : RE P Er R #[v] w' owr) (hev : Evo w (handOw E inv ow) w' owr) (hβ : ∀ j, j < 1000 → (∃ st cs, T (.B j) = .bx st cs) → Er.β j = (handEnv E lk inv).β j)
    (hT : ∀ j d, lk (.B j) = some (.B d) → ∃ st cs, T (.B j) = .bx st cs) (hlt : ∀ d, dst = some d → d < tm.size) :
    ∃ E' ow', RE P E' (updL σ wr) (Pw.put tm dst v) w' ow' ∧ Evo w ow w' ow' ∧ E'.β = E.β := by
  let far : Nat → Bool := fun b => decide (b < w.heap.size) && decide (handOw E inv ow b = .far)
  let ow' : Ow := fun b => if far b = true then ow b else owr b
  let E' : Env := ⟨E.β, fun k => match kb k with
      | some K => (match R K with | .rw _ true _ _ => Er.hdr K | _ => E.hdr k)
      | none => E.hdr k, fun b => if far b = true then E.lab b else (Er.lab b).bind bk⟩
  have far_iff : ∀ b, far b = true ↔ b < w.heap.size ∧ handOw E inv ow b = .far := fun b => by simp [far]
  have hdr_of : ∀ k K s e xs, kb k = some K → R K = .rw s true e xs → E'.hdr k = Er.hdr K := by
    intro k K s e xs h hK
    simp only [E', h, hK]
  have far_owr : ∀ b, far b = true → owr b = .far := fun b hb => (hev.far b ((far_iff b).1 hb).1 ((far_iff b).1 hb).2).2
  have evo : Evo w ow w' ow' := by
    refine ⟨hev.os, hev.tape, hev.output, hev.size, fun b hb h => ?_, fun b hb h => ?_, hev.drawn⟩
    · obtain ⟨h1, h2⟩ := hev.imm b hb (handOw_imm.2 h)
      refine ⟨h1, ?_⟩
      have hnf : ¬ far b = true := fun hf => by have := far_owr b hf; rw [h2] at this; cases this
      simp only [ow']; rw [if_neg hnf]; exact h2
    · obtain ⟨h1, h2⟩ := hev.far b hb (handOw_far' h)
      refine ⟨h1, ?_⟩
      simp only [ow']; rw [if_pos ((far_iff b).2 ⟨hb, handOw_far' h⟩)]; exact h
  have hview : View.le (view w' owr) (view w' ow') := by
    intro b o u hu
    unfold view at hu ⊢
    split at hu
    · rename_i hi
      have hnf : ¬ far b = true := fun hf => by have := far_owr b hf; rw [hi] at this; cases this
      rw [if_pos (by simp only [ow']; rw [if_neg hnf]; exact hi)]
      exact hu
    · cases hu
  have hmine : ∀ b, owr b = .mine → ¬ far b = true := fun b h hf => by have := far_owr b hf; rw [h] at this; cases this
  have hshr : ∀ k st e xs, R k = .rw st false e xs → (PV.sl xs).rep (view w' ow') (Er.hdr k) := fun k st e xs h => PV.rep_mono hview _ _ (hr.shared k st e xs h).1
  have hRB : ∀ j, (∃ st cs, R (.B j) = .bx st cs) ∨ R (.B j) = .none ∨ ∃ st, R (.B j) = .dead st := hr.bk
  let W : Key → Prop := fun k => ∃ u, (k, u) ∈ wr
  have hC : Chg W E E' w w' ow ow' := by
    refine ⟨evo, fun b k hb hl hm hW => ?_, fun _ _ => rfl, fun k hk => ?_⟩
    · have hinv : inv k = none := by
        cases hi : inv k with
        | none => rfl
        | some K => exact absurd (hB.old k ⟨K, hi⟩) hW
      have hfar : far b = true := (far_iff b).2 ⟨hb, handOw_far hm hl hinv⟩
      exact ⟨(hev.far b hb ((far_iff b).1 hfar).2).1, by simp only [E']; rw [if_pos hfar]; exact hl, by simp only [ow']; rw [if_pos hfar]; exact hm⟩
    · simp only [E']
      cases hkb : kb k with
      | none => rfl
      | some K =>
        simp only
        cases hRK : R K <;> try rfl
        case rw s o e xs =>
          cases o
          · rfl
          · exact absurd (hB.full k K s e xs hkb hRK) hk
  have hβd : ∀ d j, lk (.B j) = some (.B d) → j < 1000 → E.β d = Er.β j := by
    intro d j h hj
    rw [hβ j hj (hT j d h)]
    simp [handEnv, h]
  -- the values that come back, in the caller's state
  have hbk : ∀ d j, kb (.B d) = some (.B j) → E'.β d = Er.β j := fun d j h => by
    obtain ⟨j', e, h1, h2⟩ := hB.kbB d _ h
    cases e
    exact hβd d j h1 h2
  have hhk : ∀ k K st e xs, kb k = some K → R K = .rw st true e xs → E'.hdr k = Er.hdr K := fun k K st e xs h1 h2 => hdr_of k K st e xs h1 h2
  have xrep : ∀ (a' a : AV) (u : Value), XA R (updL σ wr) kb a' a → a.rep (view w' owr) Er R u → a'.rep (view w' ow') E' (updL σ wr) u :=
    fun a' a u h1 h2 => XA_rep hview hhk hbk hshr a' a u h1 h2
  have xlrep : ∀ (as' as : List AV) (l : List Value), XL R (updL σ wr) kb as' as → AV.repL (view w' owr) Er R as l → AV.repL (view w' ow') E' (updL σ wr) as' l :=
    fun as' as l h1 h2 => XL_rep hview hhk hbk hshr as' as l h1 h2
  have hput : ∀ t, (Pw.put tm dst v).getD t Go.undef = if dst = some t then v else tm.getD t Go.undef := by
    intro t
    cases dst with
    | none => simp [Pw.put]
    | some d =>
      simp only [Pw.put]
      rw [getD_set (hlt d rfl)]
      by_cases h : d = t <;> simp [h]
  have hv0 : (R (.S 0)).slot.rep (view w' owr) Er R v := by simpa using hr.slot 0
  have := RE.step (W := W) (E' := E') (ow' := ow') (σ' := updL σ wr) (tm' := Pw.put tm dst v) hR hC (fun k hk => updL_not_mem fun u hu => hk ⟨u, hu⟩)
    (fun k ⟨u, hu⟩ s hs => by
      cases k with
      | S t => rw [hR.sk t] at hs; cases hs
      | B d =>
        obtain ⟨j, st, cs, cs', sr, h1, h2, h3, h4, h5, h6, h7⟩ := hB.box d u hu
        rw [h4] at hs
        simp only [Option.some.injEq] at hs
        subst hs
        refine ⟨st, by rw [h5]; rfl, Nat.le_refl _, fun _ => ⟨?_, fun _ _ => rfl⟩⟩
        simp only [E', (hB.bij _ _).1 h2, h6]
      | RS t j =>
        rcases hB.row _ u hu (by simp) (by simp) with ⟨n, h1, h2⟩ | ⟨n, K, s', e, xs, h1, h2, h3, h4⟩
        · have := h2 s hs
          exact ⟨n, by rw [h1]; rfl, by omega, fun e => by omega⟩
        · have := h4 s hs
          exact ⟨n, by rw [h1]; rfl, by omega, fun e => by omega⟩
      | RC t j =>
        rcases hB.row _ u hu (by simp) (by simp) with ⟨n, h1, h2⟩ | ⟨n, K, s', e, xs, h1, h2, h3, h4⟩
        · have := h2 s hs
          exact ⟨n, by rw [h1]; rfl, by omega, fun e => by omega⟩
        · have := h4 s hs
          exact ⟨n, by rw [h1]; rfl, by omega, fun e => by omega⟩)
    (fun t ht => by
      rw [hput]
      split
      · rename_i hd
        exact absurd (hB.mem t hd) ht
      · rfl)
    (fun t ⟨u, hu⟩ => by
      obtain ⟨a, h1, _⟩ := hB.slot t (hB.dstS t u hu).symm
      rw [h1]; rfl)
    (fun d ⟨u, hu⟩ => by
      obtain ⟨j, st, cs, cs', sr, h1, h2, h3, h4, h5, h6, h7⟩ := hB.box d u hu
      exact .inl ⟨st, cs, h5⟩)
    (fun _ t ⟨u, hu⟩ => by
      have hd := (hB.dstS t u hu).symm
      obtain ⟨a, h1, h2⟩ := hB.slot t hd
      rw [h1, hput, if_pos hd]
      exact xrep _ _ _ h2 hv0)
    (fun _ d st cs ⟨u, hu⟩ hbx => by
      obtain ⟨j, st', cs', cs2, sr, h1, h2, h3, h4, h5, h6, h7⟩ := hB.box d u hu
      rw [h5] at hbx
      simp only [KV.bx.injEq] at hbx
      obtain ⟨rfl, rfl⟩ := hbx
      obtain ⟨k1, k2, Ty, l, k3, k4⟩ := (hr.box j sr cs2 h6).cells (XL_noMk _ _ h7)
      have hb := hβd d j h1 h3
      have hnf := hmine _ k2
      refine ⟨?_, ?_, .inl ⟨Ty, l, ?_, xlrep _ _ _ h7 k4⟩⟩
      · show (if far (E.β d) = true then E.lab (E.β d) else (Er.lab (E.β d)).bind bk) = _
        rw [hb, if_neg hnf, k1]
        exact h2
      · show (if far (E.β d) = true then ow (E.β d) else owr (E.β d)) = _
        rw [hb, if_neg hnf]; exact k2
      · show w'.heap[E.β d]? = _
        rw [hb]; exact k3)
    (fun k st e xs ⟨u, hu⟩ hk => by
      have hnS : ∀ t, k ≠ .S t := fun t e1 => by
        subst e1
        obtain ⟨a, h1, _⟩ := hB.slot t (hB.dstS t u hu).symm
        rw [h1] at hk; cases hk
      have hnB : ∀ t, k ≠ .B t := fun t e1 => by
        subst e1
        obtain ⟨j, st', cs', cs2, sr, h1, h2, h3, h4, h5, h6, h7⟩ := hB.box t u hu
        rw [h5] at hk; cases hk
      rcases hB.row k u hu hnS hnB with ⟨n, h1, h2⟩ | ⟨n, K, s', e', xs', h1, h2, h3, h4⟩
      · rw [h1] at hk; cases hk
      · rw [h1] at hk
        simp only [KV.rw.injEq, true_and] at hk
        obtain ⟨_, rfl, rfl⟩ := hk
        rw [hdr_of k K s' e' xs' h2 h3]
        rcases hr.own K s' e' xs' h3 with q | ⟨g, cap, cur, g1, g2, g3, g4, g5, g6, g7, g8⟩
        · exact .inl q
        · have hnf := hmine _ g3
          refine .inr ⟨g, cap, cur, g1, ?_, ?_, g4, g5, g6, g7, fun i x hx => ⟨(g8 i x hx).1, fun j p hp => ?_⟩⟩
          · show (if far g = true then E.lab g else (Er.lab g).bind bk) = _
            rw [if_neg hnf, g2]
            exact (hB.bij _ _).2 h2
          · show (if far g = true then ow g else owr g) = _
            rw [if_neg hnf]; exact g3
          · obtain ⟨u', u1, u2, u3⟩ := (g8 i x hx).2 j p hp
            exact ⟨u', u1, u2, PV.rep_mono hview _ _ u3⟩)
    (fun k st e xs ⟨u, hu⟩ hk => by
      have hnS : ∀ t, k ≠ .S t := fun t e1 => by
        subst e1
        obtain ⟨a, h1, _⟩ := hB.slot t (hB.dstS t u hu).symm
        rw [h1] at hk; cases hk
      have hnB : ∀ t, k ≠ .B t := fun t e1 => by
        subst e1
        obtain ⟨j, st', cs', cs2, sr, h1, h2, h3, h4, h5, h6, h7⟩ := hB.box t u hu
        rw [h5] at hk; cases hk
      rcases hB.row k u hu hnS hnB with ⟨n, h1, h2⟩ | ⟨n, K, s', e', xs', h1, h2, h3, h4⟩
      · rw [h1] at hk; cases hk
      · rw [h1] at hk; simp at hk)
  exact ⟨E', ow', this.1, evo, rfl⟩

end
end Go.Pw
namespace Go.Pw
variable [Mode]
set_option linter.unusedSimpArgs false
set_option linter.unusedVariables false
set_option linter.unusedSectionVars false

abbrev Lk := List (Key × Key)

def lookL : Lk → Key → Option Key
  | [], _ => none
  | (a, b) :: l, k => if a = k then some b else lookL l k

def Lk.swap (l : Lk) : Lk := l.map fun x => (x.2, x.1)

def ndK : List Key → Bool
  | [] => true
  | k :: l => !l.contains k && ndK l

theorem lookL_mem : ∀ {l : Lk} {a b : Key}, lookL l a = some b → (a, b) ∈ l
  | [], _, _, h => by cases h
  | (x, y) :: l, a, b, h => by
    simp only [lookL] at h
    split at h
    · rename_i e
      simp only [Option.some.injEq] at h
      subst e h
      simp
    · exact List.mem_cons_of_mem _ (lookL_mem h)
theorem lookL_of : ∀ {l : Lk} {a b : Key}, ndK (l.map (·.1)) = true → (a, b) ∈ l → lookL l a = some b
  | [], _, _, _, h => by cases h
  | (x, y) :: l, a, b, hn, h => by
    simp only [List.map_cons, ndK, Bool.and_eq_true, Bool.not_eq_true'] at hn
    simp only [lookL]
    rcases List.mem_cons.1 h with e | h
    · cases e; simp
    · have hne : x ≠ a := by
        rintro rfl
        have : x ∈ l.map (·.1) := List.mem_map.2 ⟨_, h, rfl⟩
        have := hn.1
        simp_all
      rw [if_neg hne]
      exact lookL_of hn.2 h
theorem lookL_bij {l : Lk} (h1 : ndK (l.map (·.1)) = true) (h2 : ndK (l.map (·.2)) = true) (a b : Key) : lookL l a = some b ↔ lookL l.swap b = some a := by
  have h2' : ndK (l.swap.map (·.1)) = true := by
    have : l.swap.map (·.1) = l.map (·.2) := by simp [Lk.swap]
    rw [this]; exact h2
  constructor
  · intro h
    refine lookL_of h2' ?_
    exact List.mem_map.2 ⟨_, lookL_mem h, rfl⟩
  · intro h
    have := lookL_mem h
    obtain ⟨x, hx, e⟩ := List.mem_map.1 this
    cases e
    exact lookL_of h1 hx
theorem look_mem : ∀ {l : St} {k : Key} {v : KV}, look l k = v → v = .none ∨ (k, v) ∈ l
  | [], _, _, h => .inl h.symm
  | (x, y) :: l, k, v, h => by
    simp only [look] at h
    split at h
    · rename_i e
      subst e h
      exact .inr (by simp)
    · rcases look_mem h with h | h
      · exact .inl h
      · exact .inr (List.mem_cons_of_mem _ h)
theorem look_of : ∀ {l : St} {k : Key} {v : KV}, ndK (l.map (·.1)) = true → (k, v) ∈ l → look l k = v
  | [], _, _, _, h => by cases h
  | (x, y) :: l, a, b, hn, h => by
    simp only [List.map_cons, ndK, Bool.and_eq_true, Bool.not_eq_true'] at hn
    simp only [look]
    rcases List.mem_cons.1 h with e | h
    · cases e; simp
    · have hne : x ≠ a := by
        rintro rfl
        have : x ∈ l.map (·.1) := List.mem_map.2 ⟨_, h, rfl⟩
        have := hn.1
        simp_all
      rw [if_neg hne]
      exact look_of hn.2 h
theorem updL_mem : ∀ {wr : St} {σ : Look} {k : Key}, (∃ v, (k, v) ∈ wr) → (k, updL σ wr k) ∈ wr
  | [], _, _, ⟨v, h⟩ => by cases h
  | (x, y) :: l, σ, k, ⟨v, h⟩ => by
    simp only [updL]
    split
    · rename_i e; subst e; simp
    · rename_i e
      rcases List.mem_cons.1 h with e2 | h
      · cases e2; exact absurd rfl e
      · exact List.mem_cons_of_mem _ (updL_mem ⟨v, h⟩)
/-- the first part of a list of writes decides -/
theorem updL_first : ∀ {l1 l2 : St} {σ : Look} {k : Key} {v : KV}, ndK (l1.map (·.1)) = true → (k, v) ∈ l1 → updL σ (l1 ++ l2) k = v
  | [], _, _, _, _, _, h => by cases h
  | (x, y) :: l, l2, σ, a, b, hn, h => by
    simp only [List.map_cons, ndK, Bool.and_eq_true, Bool.not_eq_true'] at hn
    simp only [List.cons_append, updL]
    rcases List.mem_cons.1 h with e | h
    · cases e; simp
    · have hne : x ≠ a := by
        rintro rfl
        have : x ∈ l.map (·.1) := List.mem_map.2 ⟨_, h, rfl⟩
        have := hn.1
        simp_all
      rw [if_neg hne]
      exact updL_first hn.2 h

/-! What is done to the arguments first: rows that the callee only reads are frozen; nil for a row that the callee takes becomes a row. -/
def preArg (σ : Look) (j : Nat) (mv : Option TypeId) (x : AV) : Option (AV × St) :=
  match x with
  | .rf k st => match rowAt σ k st with
    | some (true, e, xs) => if mv.isSome then some (.rf k st, []) else some (.pv (.sl xs), [(k, .rw st false e xs)])
    | some (false, _, xs) => some (.pv (.sl xs), [])
    | none => none
  | .emp => match mv with
    | some e => some (.rf (.RS (2000 + j) 0) (nst (σ (.RS (2000 + j) 0))), [(.RS (2000 + j) 0, .rw (nst (σ (.RS (2000 + j) 0))) true e [])])
    | none => some (.emp, [])
  | .agg cs => match fzCells σ cs with
    | some (ps, w1) => some (.agg (ps.map .pv), w1)
    | none => none
  | .mk _ => none
  | x => some (x, [])

def preArgs (σ : Look) (mv : Nat → Option TypeId) : Nat → List AV → Option (List AV × St)
  | _, [] => some ([], [])
  | j, a :: as => match preArg σ j (mv j) a with
    | some (a', w1) => match preArgs (updL σ w1) mv (j + 1) as with
      | some (as', w2) => some (a' :: as', w2 ++ w1)
      | none => none
    | none => none

theorem preArgs_noMk {σ : Look} {mv : Nat → Option TypeId} {j : Nat} {cs : List AV} {r : List AV × St} (h : preArgs σ mv j cs = some r) : hasMk cs = false := by
  cases cs with
  | nil => rfl
  | cons a cs =>
    cases a with
    | mk ks => simp [preArgs, preArg] at h
    | _ => rfl
def plainL (l : List AV) : Bool := l.all plainCell

def pkCell (σ : Look) (d j c : Nat) (a : AV) : Option (AV × St × Lk) :=
  match a with
  | .pv p => some (.pv p, [], [])
  | .emp => some (.emp, [], [])
  | .rf k st => match rowAt σ k st with
    | some (true, e, xs) => some (.rf (.RC j c) 0, [(.RC j c, .rw 0 true e xs)], [(.RC j c, k)])
    | some (false, _, xs) => some (.pv (.sl xs), [], [])
    | none => none
  | .ptr d' off st => if d' = d ∧ (σ (.B d)).stamp = some st then some (.ptr j off 0, [], []) else none
  | .clo f a b => if plainL a && plainL b then some (.clo f a b, [], []) else none
  | _ => none

def pkCells (σ : Look) (d j : Nat) : Nat → List AV → Option (List AV × St × Lk)
  | _, [] => some ([], [], [])
  | c, a :: as => match pkCell σ d j c a with
    | some (a', e1, l1) => match pkCells σ d j (c + 1) as with
      | some (as', e2, l2) => some (a' :: as', e1 ++ e2, l1 ++ l2)
      | none => none
    | none => none

def pkArg (σ : Look) (j : Nat) (x : AV) : Option (AV × St × Lk) :=
  match x with
  | .pv p => some (.pv p, [], [])
  | .emp => some (.emp, [], [])
  | .rf k st => match rowAt σ k st with
    | some (true, e, xs) => some (.rf (.RS j 0) 0, [(.RS j 0, .rw 0 true e xs)], [(.RS j 0, k)])
    | _ => none
  | .ptr d 0 st => match boxAt σ d st with
    | some cs => match pkCells σ d j 0 cs with
      | some (cs', en, l) => some (.ptr j 0 0, (.B j, .bx 0 cs') :: en, (.B j, .B d) :: l)
      | none => none
    | none => none
  | .agg cs => if plainL cs then some (.agg cs, [], []) else none
  | .clo f a [.ptr d 0 st] => match boxAt σ d st with
    | some cs => match pkCells σ d (500 + j) 0 cs with
      | some (cs', en, l) => if plainL a then some (.clo f a [.ptr (500 + j) 0 0], (.B (500 + j), .bx 0 cs') :: en, (.B (500 + j), .B d) :: l) else none
      | none => none
    | none => none
  | .clo f a b => if plainL a && plainL b then some (.clo f a b, [], []) else none
  | _ => none

def pkArgs (σ : Look) : Nat → List AV → Option (St × St × Lk)
  | _, [] => some ([], [], [])
  | j, a :: as => match pkArg σ j a with
    | some (a', e1, l1) => match pkArgs σ (j + 1) as with
      | some (s2, e2, l2) => some ((.S j, .av a') :: s2, e1 ++ e2, l1 ++ l2)
      | none => none
    | none => none

/-! What comes back. -/
def bkK (lk : Lk) (dst : Option Nat) : Key → Option Key
  | .B j => lookL lk (.B j)
  | .RC j c => match lookL lk (.B j) with
    | some (.B d) => some (.RC d c)
    | _ => none
  | .RS 0 c => dst.map (Key.RS · c)
  | _ => none

def rlOf (lk : Lk) (dst : Option Nat) (ret : St) : Lk := ret.filterMap fun x => (bkK lk dst x.1).map fun k => (x.1, k)

mutual
def unA (σ R : Look) (rl : Lk) : AV → Option AV
  | .undef => some .undef
  | .pv p => some (.pv p)
  | .emp => some .emp
  | .rf K s => match R K with
    | .rw s' true _ _ => if s = s' then (lookL rl K).map fun k => .rf k (nst (σ k)) else none
    | .rw s' false _ xs => if s = s' then some (.pv (.sl xs)) else none
    | _ => none
  | .ptr j off s => match R (.B j), lookL rl (.B j) with
    | .bx s' _, some (.B d) => if s = s' then (σ (.B d)).stamp.map fun st => .ptr d off st else none
    | _, _ => none
  | .agg cs => (unL σ R rl cs).map .agg
  | .tup cs => (unL σ R rl cs).map .tup
  | .clo f a b => match unL σ R rl a, unL σ R rl b with
    | some a', some b' => some (.clo f a' b')
    | _, _ => none
  | _ => none
def unL (σ R : Look) (rl : Lk) : List AV → Option (List AV)
  | [] => some []
  | a :: as => match unA σ R rl a, unL σ R rl as with
    | some a', some as' => some (a' :: as')
    | _, _ => none
end

def unE (σ R : Look) (rl : Lk) : St → Option St
  | [] => some []
  | (K, kv) :: l => match unE σ R rl l with
    | none => none
    | some r => match kv, lookL rl K with
      | .bx _ cs, some (.B d) => match unL σ R rl cs, (σ (.B d)).stamp with
        | some cs', some st => some ((.B d, .bx st cs') :: r)
        | _, _ => none
      | .rw _ true e xs, some k => if isRowKey k then some ((k, .rw (nst (σ k)) true e xs) :: r) else none
      | .bx _ _, _ => none
      | .rw _ true _ _, none => none
      | _, _ => some r

def deads (σ : Look) : Lk → St
  | [] => []
  | (_, k) :: l => match k with
    | .B _ => deads σ l
    | .S _ => deads σ l
    | k => (k, .dead (nst (σ k))) :: deads σ l

def isBKey : Key → Bool
  | .B _ => true
  | _ => false

/-- the checks -/
def okBack (lk rl : Lk) (ret r1 : St) : Bool :=
  ndK (lk.map (·.1)) && ndK (lk.map (·.2)) && ndK (rl.map (·.1)) && ndK (rl.map (·.2)) && ndK (ret.map (·.1)) && ndK (r1.map (·.1)) &&
  lk.all (fun x => match x.1, x.2 with
    | .B j, .B d => decide (j < 1000) && r1.any (fun y => y.1 == .B d)
    | .B _, _ => false
    | _, k => isRowKey k)

structure CallEff where
  inp : St
  wr : St
  rd : List Key

/-- the call's input -/
def callIn (σ : Look) (mv : Nat → Option TypeId) (as : List AV) : Option (St × St × Lk × List AV) :=
  match preArgs σ mv 0 as with
  | some (as', w0) => match pkArgs (updL σ w0) 0 as' with
    | some (sl, en, lk) => if ndK ((sl ++ en).map (·.1)) then some (sl ++ en, w0, lk, as') else none
    | none => none
  | none => none

def callBack (σ1 : Look) (lk : Lk) (dst : Option Nat) (ret : St) : Option St :=
  let rl := rlOf lk dst ret
  match unE σ1 (look ret) rl ret with
  | some r1 => match dst with
    | some d => match unA σ1 (look ret) rl (look ret (.S 0)).slot with
      | some a => if okBack lk rl ret r1 then some ((.S d, .av a) :: r1 ++ deads σ1 lk) else none
      | none => none
    | none => if okBack lk rl ret r1 then some (r1 ++ deads σ1 lk) else none
  | none => none

end Go.Pw
