/- The abstract state of a Go function by values, and the relation that ties it to a frame and a world. Holds over any program. -/
import Derived.Below
import Derived.Orders
import Derived.Laws.AppendOwn
set_option linter.unusedSimpArgs false
set_option linter.unusedVariables false
set_option linter.unusedSectionVars false
namespace Go.Pw

/-- Values that nobody changes: strings, numbers, slices as lists of rows of cells, pointers to cells that stay. -/
inductive PV : Type where
  | bool (b : Bool)
  | int (k : IntKind) (n : Int)
  | str (l : List UInt8)
  | raw (v : Value)
  | anyb
  | pp (cs : List PV)
  | sl (xs : List (List PV))

abbrev View := Nat → Nat → Option Value

mutual
def PV.rep (h : View) : PV → Value → Prop
  | .bool b, v => v = .bool b
  | .int k n, v => v = .int k n
  | .str l, v => v = .string ⟨l.toArray⟩
  | .raw u, v => v = u ∧ u.oneCell' = true
  | .anyb, v => ∃ b, v = .bool b
  | .pp cs, v => ∃ b o, v = .pointer (some ⟨b, o, none⟩) ∧ PV.repCs h b o cs
  | .sl xs, v => ∃ a n c, v = .slice a n c ∧ n = xs.length ∧ n ≤ c ∧ (xs = [] ∨ ∃ b o s, a = some ⟨b, o, none⟩ ∧ PV.repEs h b o s xs)
def PV.repCs (h : View) (b o : Nat) : List PV → Prop
  | [] => True
  | p :: ps => (∃ v, h b o = some v ∧ PV.rep h p v) ∧ PV.repCs h b (o + 1) ps
def PV.repEs (h : View) (b o s : Nat) : List (List PV) → Prop
  | [] => True
  | x :: xs => x.length = s ∧ PV.repCs h b o x ∧ PV.repEs h b (o + s) s xs
end

def View.le (h h' : View) : Prop := ∀ b o v, h b o = some v → h' b o = some v

mutual
theorem PV.rep_mono {h h' : View} (hh : View.le h h') : ∀ (p : PV) (v : Value), PV.rep h p v → PV.rep h' p v
  | .bool b, v, q => by simpa [PV.rep] using q
  | .int k n, v, q => by simpa [PV.rep] using q
  | .str l, v, q => by simpa [PV.rep] using q
  | .raw u, v, q => by simpa [PV.rep] using q
  | .anyb, v, q => by simpa [PV.rep] using q
  | .pp cs, v, q => by
    simp only [PV.rep] at q ⊢
    obtain ⟨b, o, e, q⟩ := q
    exact ⟨b, o, e, PV.repCs_mono hh b o cs q⟩
  | .sl xs, v, q => by
    simp only [PV.rep] at q ⊢
    obtain ⟨a, n, c, e, e1, e2, q⟩ := q
    refine ⟨a, n, c, e, e1, e2, ?_⟩
    rcases q with q | ⟨b, o, s, e3, q⟩
    · exact .inl q
    · exact .inr ⟨b, o, s, e3, PV.repEs_mono hh b o s xs q⟩
theorem PV.repCs_mono {h h' : View} (hh : View.le h h') (b o : Nat) : ∀ (ps : List PV), PV.repCs h b o ps → PV.repCs h' b o ps
  | [], _ => by simp [PV.repCs]
  | p :: ps, q => by
    simp only [PV.repCs] at q ⊢
    obtain ⟨⟨v, e, q1⟩, q2⟩ := q
    exact ⟨⟨v, hh _ _ _ e, PV.rep_mono hh p v q1⟩, PV.repCs_mono hh b (o + 1) ps q2⟩
theorem PV.repEs_mono {h h' : View} (hh : View.le h h') (b o s : Nat) : ∀ (xs : List (List PV)), PV.repEs h b o s xs → PV.repEs h' b o s xs
  | [], _ => by simp [PV.repEs]
  | x :: xs, q => by
    simp only [PV.repEs] at q ⊢
    exact ⟨q.1, PV.repCs_mono hh b o x q.2.1, PV.repEs_mono hh b (o + s) s xs q.2.2⟩
end

/-- What a key of the abstract state names: a slot of the frame, a box (a variable in memory), the own row of a slot's value, the own row of a box's cell. -/
inductive Key where
  | S (t : Nat)
  | B (d : Nat)
  | RS (t k : Nat)
  | RC (d k : Nat)
  deriving DecidableEq

/-- Abstract values of slots and of boxes' cells. -/
inductive AV where
  | undef
  | pv (p : PV)
  | emp
  | agg (cs : List AV)
  | tup (vs : List AV)
  | ptr (d off st : Nat)
  | rf (k : Key) (st : Nat)
  | rptr (k : Key) (st i s off : Nat)
  | clo (fn : Fn) (first caps : List AV)
  | when (b : Bool) (v : AV)
  | mref (d st : Nat)
  | mk (ks : List (List UInt8))

def AV.isMk : AV → Bool
  | .mk _ => true
  | .undef => false
  | .pv _ => false
  | .emp => false
  | .agg _ => false
  | .tup _ => false
  | .ptr .. => false
  | .rf .. => false
  | .rptr .. => false
  | .clo .. => false
  | .when .. => false
  | .mref .. => false
def hasMk : List AV → Bool
  | [] => false
  | a :: _ => a.isMk

inductive KV where
  | none
  | av (a : AV)
  | bx (st : Nat) (cs : List AV)
  | rw (st : Nat) (own : Bool) (e : TypeId) (xs : List (List PV))
  | dead (st : Nat)

abbrev St := List (Key × KV)
abbrev Look := Key → KV

def look : St → Look
  | [], _ => .none
  | (k, v) :: l, k' => if k = k' then v else look l k'

def KV.slot : KV → AV
  | .av a => a
  | _ => .undef

def KV.stamp : KV → Option Nat
  | .bx st _ => some st
  | .rw st _ _ _ => some st
  | .dead st => some st
  | _ => Option.none

def stOk (kv : KV) (st : Nat) (p : Prop) : Prop := ∃ st', kv.stamp = some st' ∧ st ≤ st' ∧ (st = st' → p)

/-- The concrete names of boxes and rows. -/
structure Env where
  β : Nat → Nat
  hdr : Key → Value
  lab : Nat → Option Key

mutual
def AV.rep (h : View) (E : Env) (σ : Look) : AV → Value → Prop
  | .undef, _ => True
  | .pv p, v => p.rep h v
  | .emp, v => ∃ a, v = .slice a 0 0
  | .agg cs, v => ∃ l, v = .agg ⟨l⟩ ∧ AV.repL h E σ cs l
  | .tup cs, v => ∃ l, v = .tuple ⟨l⟩ ∧ AV.repL h E σ cs l
  | .ptr d off st, v => ∃ b, v = .pointer (some ⟨b, off, none⟩) ∧ stOk (σ (.B d)) st (b = E.β d)
  | .rf k st, v => (∃ a n c, v = .slice a n c) ∧ stOk (σ k) st (v = E.hdr k)
  | .rptr k st i s off, v => ∃ b, v = .pointer (some ⟨b, i * s + off, none⟩) ∧ stOk (σ k) st (∃ n c, E.hdr k = .slice (some ⟨b, 0, none⟩) n c)
  | .clo fn f c, v => ∃ lf lc, v = .func fn ⟨lf⟩ ⟨lc⟩ ∧ AV.repL h E σ f lf ∧ AV.repL h E σ c lc
  | .when b x, v => (b = true → AV.rep h E σ x v) ∧ (b = false → v = Go.undef)
  | .mref d st, v => ∃ b, v = .map (some b) ∧ stOk (σ (.B d)) st (b = E.β d)
  | .mk _, _ => False
def AV.repL (h : View) (E : Env) (σ : Look) : List AV → List Value → Prop
  | [], l => l = []
  | c :: cs, l => ∃ v vs, l = v :: vs ∧ AV.rep h E σ c v ∧ AV.repL h E σ cs vs
end

inductive Own where
  | imm | mine | far
  deriving DecidableEq

abbrev Ow := Nat → Own

def view (w : World) (ow : Ow) : View := fun b o =>
  if ow b = .imm then w.cell? ⟨b, o, none⟩ else none

/-- A row that is ours: nil, or the whole of a block of ours from its beginning. -/
def rowOk (P : Program) (h : View) (w : World) (ow : Ow) (lab : Nat → Option Key) (k : Key) (e : TypeId) (xs : List (List PV)) (v : Value) : Prop :=
  (xs = [] ∧ ∃ a, v = .slice a 0 0) ∨
  ∃ g cap cur, v = .slice (some ⟨g, 0, none⟩) xs.length cap ∧ lab g = some k ∧ ow g = .mine ∧ w.heap[g]? = some (.cells cur e (0, 0)) ∧
    xs.length ≤ cap ∧ cap ≤ maxLen ∧ cur.size = cap * P.cellsOf e ∧
    (∀ i x, xs[i]? = some x → x.length = P.cellsOf e ∧ ∀ j p, x[j]? = some p → ∃ u, cur[i * P.cellsOf e + j]? = some u ∧ u.oneCell' = true ∧ p.rep h u)

def boxOk (h : View) (E : Env) (σ : Look) (w : World) (ow : Ow) (d : Nat) (cs : List AV) : Prop :=
  E.lab (E.β d) = some (.B d) ∧ ow (E.β d) = .mine ∧ ((∃ T l, w.heap[E.β d]? = some (.cells ⟨l⟩ T (0, 0)) ∧ AV.repL h E σ cs l) ∨
    ∃ ks vs es clock, cs = .mk ks :: vs ∧ w.heap[E.β d]? = some (.map es clock) ∧ es.toList.map (·.key) = ks.map (fun k => .string ⟨k.toArray⟩) ∧ AV.repL h E σ vs (es.toList.map (·.val)))

/-- whether the count of draws may be forgotten; what is known of the package's variables (the first blocks of the heap) -/
class Mode where
  loose : Bool
  nG : Nat := 0
  base : World → Prop := fun _ => True
  base_dep : ∀ w w' : World, base w → (∀ b, b < nG → w'.heap[b]? = w.heap[b]?) → base w' := by intros; trivial
variable [Mode]
def GlobOk (w : World) (ow : Ow) : Prop := Mode.nG ≤ w.heap.size ∧ (∀ b, b < Mode.nG → ow b = .imm) ∧ Mode.base w
/-- The abstract state holds of the frame's slots and of the world. -/
structure RE (P : Program) (E : Env) (σ : Look) (tm : Array Value) (w : World) (ow : Ow) : Prop where
  sk : ∀ t, (σ (.S t)).stamp = Option.none
  bk : ∀ d, (∃ st cs, σ (.B d) = .bx st cs) ∨ σ (.B d) = .none ∨ ∃ st, σ (.B d) = .dead st
  slot : ∀ t, (σ (.S t)).slot.rep (view w ow) E σ (tm.getD t Go.undef)
  box : ∀ d st cs, σ (.B d) = .bx st cs → boxOk (view w ow) E σ w ow d cs
  own : ∀ k st e xs, σ k = .rw st true e xs → rowOk P (view w ow) w ow E.lab k e xs (E.hdr k)
  shared : ∀ k st e xs, σ k = .rw st false e xs → (PV.sl xs).rep (view w ow) (E.hdr k) ∧ ∀ x ∈ xs, x.length = P.cellsOf e
  glob : GlobOk w ow

def R (P : Program) (σ : Look) (tm : Array Value) (w : World) (ow : Ow) : Prop := ∃ E, RE P E σ tm w ow

structure Evo (w : World) (ow : Ow) (w' : World) (ow' : Ow) : Prop where
  os : w'.os = w.os
  tape : w'.tape = w.tape
  output : w'.output = w.output
  size : w.heap.size ≤ w'.heap.size
  imm : ∀ b, b < w.heap.size → ow b = .imm → w'.heap[b]? = w.heap[b]? ∧ ow' b = .imm
  far : ∀ b, b < w.heap.size → ow b = .far → w'.heap[b]? = w.heap[b]? ∧ ow' b = .far
  drawn : Mode.loose = false → w.drawn ≤ w'.drawn

theorem GlobOk.evo {w w' : World} {ow ow' : Ow} (h : GlobOk w ow) (k : Evo w ow w' ow') : GlobOk w' ow' :=
  ⟨Nat.le_trans h.1 k.size, fun b hb => (k.imm b (Nat.lt_of_lt_of_le hb h.1) (h.2.1 b hb)).2, Mode.base_dep w w' h.2.2 fun b hb => (k.imm b (Nat.lt_of_lt_of_le hb h.1) (h.2.1 b hb)).1⟩
theorem GlobOk.heap {w w' : World} {ow : Ow} (h : GlobOk w ow) (k : w'.heap = w.heap) : GlobOk w' ow := ⟨by rw [k]; exact h.1, h.2.1, Mode.base_dep w w' h.2.2 fun b _ => by rw [k]⟩
theorem Evo.refl (w : World) (ow : Ow) : Evo w ow w ow := ⟨rfl, rfl, rfl, Nat.le_refl _, fun _ _ h => ⟨rfl, h⟩, fun _ _ h => ⟨rfl, h⟩, fun _ => Nat.le_refl _⟩

theorem Evo.trans {w w1 w2 : World} {o o1 o2 : Ow} (h : Evo w o w1 o1) (k : Evo w1 o1 w2 o2) : Evo w o w2 o2 :=
  ⟨k.os.trans h.os, k.tape.trans h.tape, k.output.trans h.output, Nat.le_trans h.size k.size,
   fun b hb e => let ⟨h1, h2⟩ := h.imm b hb e; let ⟨k1, k2⟩ := k.imm b (Nat.lt_of_lt_of_le hb h.size) h2; ⟨k1.trans h1, k2⟩,
   fun b hb e => let ⟨h1, h2⟩ := h.far b hb e; let ⟨k1, k2⟩ := k.far b (Nat.lt_of_lt_of_le hb h.size) h2; ⟨k1.trans h1, k2⟩,
   fun e => Nat.le_trans (h.drawn e) (k.drawn e)⟩

theorem view_lt {w : World} {ow : Ow} {b o : Nat} {v : Value} (h : view w ow b o = some v) : b < w.heap.size ∧ ow b = .imm ∧ w.cell? ⟨b, o, none⟩ = some v := by
  unfold view at h
  split at h
  · rename_i hi
    exact ⟨World.block_lt_of_cell? w _ h, hi, h⟩
  · cases h

theorem Evo.view {w w' : World} {ow ow' : Ow} (h : Evo w ow w' ow') : View.le (view w ow) (view w' ow') := by
  intro b o v hv
  obtain ⟨h1, h2, h3⟩ := view_lt hv
  obtain ⟨h4, h5⟩ := h.imm b h1 h2
  unfold Pw.view
  rw [if_pos h5, World.cell?_of_block (w := w) (w' := w') (by exact h4)]
  exact h3

theorem look_nil (k : Key) : look [] k = .none := rfl
theorem look_cons (k : Key) (v : KV) (l : St) (k' : Key) : look ((k, v) :: l) k' = if k = k' then v else look l k' := rfl

/-- Everything that an abstract value's meaning hangs on, from one state to a later one. -/
structure Ren (h h' : View) (E E' : Env) (σ σ' : Look) : Prop where
  view : View.le h h'
  box : ∀ d st, (σ (.B d)).stamp = some st → ∃ st', (σ' (.B d)).stamp = some st' ∧ st ≤ st' ∧ (st = st' → E'.β d = E.β d)
  row : ∀ k st, (σ k).stamp = some st → ∃ st', (σ' k).stamp = some st' ∧ st ≤ st' ∧ (st = st' → E'.hdr k = E.hdr k)

theorem stOk.ren {kv kv' : KV} {st : Nat} {p p' : Prop} (h : stOk kv st p) (hr : ∀ s, kv.stamp = some s → ∃ s', kv'.stamp = some s' ∧ s ≤ s' ∧ (s = s' → (p → p'))) : stOk kv' st p' := by
  obtain ⟨s, h1, h2, h3⟩ := h
  obtain ⟨s', k1, k2, k3⟩ := hr s h1
  refine ⟨s', k1, Nat.le_trans h2 k2, fun e => ?_⟩
  have e1 : s = s' := by omega
  exact k3 e1 (h3 (by omega))

mutual
theorem AV.rep_ren {h h' : View} {E E' : Env} {σ σ' : Look} (hr : Ren h h' E E' σ σ') : ∀ (a : AV) (v : Value), a.rep h E σ v → a.rep h' E' σ' v
  | .undef, v, q => by simp [AV.rep]
  | .pv p, v, q => by simp only [AV.rep] at q ⊢; exact PV.rep_mono hr.view p v q
  | .emp, v, q => by simpa [AV.rep] using q
  | .agg cs, v, q => by
    simp only [AV.rep] at q ⊢
    obtain ⟨l, e, q⟩ := q
    exact ⟨l, e, AV.repL_ren hr cs l q⟩
  | .tup cs, v, q => by
    simp only [AV.rep] at q ⊢
    obtain ⟨l, e, q⟩ := q
    exact ⟨l, e, AV.repL_ren hr cs l q⟩
  | .ptr d off st, v, q => by
    simp only [AV.rep] at q ⊢
    obtain ⟨b, e, q⟩ := q
    refine ⟨b, e, q.ren fun s hs => ?_⟩
    obtain ⟨s', k1, k2, k3⟩ := hr.box d s hs
    exact ⟨s', k1, k2, fun e1 e2 => by rw [k3 e1]; exact e2⟩
  | .rf k st, v, q => by
    simp only [AV.rep] at q ⊢
    refine ⟨q.1, q.2.ren fun s hs => ?_⟩
    obtain ⟨s', k1, k2, k3⟩ := hr.row k s hs
    exact ⟨s', k1, k2, fun e1 e2 => by rw [k3 e1]; exact e2⟩
  | .rptr k st i s off, v, q => by
    simp only [AV.rep] at q ⊢
    obtain ⟨b, e, q⟩ := q
    refine ⟨b, e, q.ren fun s hs => ?_⟩
    obtain ⟨s', k1, k2, k3⟩ := hr.row k s hs
    exact ⟨s', k1, k2, fun e1 e2 => by rw [k3 e1]; exact e2⟩
  | .clo fn f c, v, q => by
    simp only [AV.rep] at q ⊢
    obtain ⟨lf, lc, e, q1, q2⟩ := q
    exact ⟨lf, lc, e, AV.repL_ren hr f lf q1, AV.repL_ren hr c lc q2⟩
  | .when b x, v, q => by
    simp only [AV.rep] at q ⊢
    exact ⟨fun hb => AV.rep_ren hr x v (q.1 hb), q.2⟩
  | .mref d st, v, q => by
    simp only [AV.rep] at q ⊢
    obtain ⟨b, e, q⟩ := q
    refine ⟨b, e, q.ren fun s hs => ?_⟩
    obtain ⟨s', k1, k2, k3⟩ := hr.box d s hs
    exact ⟨s', k1, k2, fun e1 e2 => by rw [k3 e1]; exact e2⟩
  | .mk _, v, q => by simp [AV.rep] at q
theorem AV.repL_ren {h h' : View} {E E' : Env} {σ σ' : Look} (hr : Ren h h' E E' σ σ') : ∀ (cs : List AV) (l : List Value), AV.repL h E σ cs l → AV.repL h' E' σ' cs l
  | [], l, q => by simpa [AV.repL] using q
  | c :: cs, l, q => by
    simp only [AV.repL] at q ⊢
    obtain ⟨v, vs, e, q1, q2⟩ := q
    exact ⟨v, vs, e, AV.rep_ren hr c v q1, AV.repL_ren hr cs vs q2⟩
end

end Go.Pw
