/- Operations that read or write memory of our own. -/
import Derived.Test.YtgnedmmecmpnpaaGreatDoorPuF
import Derived.Great.BuildSlice
import Derived.Deep.AppendSrc
namespace Go.Pw
variable [Mode]
set_option linter.unusedSimpArgs false
set_option linter.unusedVariables false
set_option linter.unusedSectionVars false

structure Eff where
  cond : Prop
  rd : List Key
  wr : St

def put (tm : Array Value) (d : Option Nat) (v : Value) : Array Value :=
  match d with
  | some d => tm.setIfInBounds d v
  | none => tm

/-- A cell that is about to lie in a box's cell: an own row goes with it. -/
def mv1 (σ : Look) (d j : Nat) (a : AV) : Option (AV × St) :=
  match a with
  | .rf k st => some (.rf k st, [])
  | .pv p => some (.pv p, [])
  | .emp => some (.emp, [])
  | .ptr d' off st => some (.ptr d' off st, [])
  | .clo f a b => some (.clo f a b, [])
  | _ => none

def mvCells (σ : Look) (d : Nat) : Nat → List AV → Option (List AV × St)
  | _, [] => some ([], [])
  | j, a :: as => match mv1 σ d j a with
    | some (a', w1) => match mvCells (updL σ w1) d (j + 1) as with
      | some (as', w2) => some (a' :: as', w2 ++ w1)
      | none => none
    | none => none

theorem updL_append (σ : Look) (w2 w1 : St) : updL σ (w2 ++ w1) = updL (updL σ w1) w2 := by
  induction w2 with
  | nil => rfl
  | cons x xs ih => obtain ⟨k, v⟩ := x; simp only [List.cons_append, updL, ih]

section
variable {P : Program} {E E' : Env} {σ σ' : Look} {tm tm' : Array Value} {w w' : World} {ow ow' : Ow}

theorem Ren.refl (h : View) (E : Env) (σ : Look) : Ren h h E E σ σ :=
  ⟨fun _ _ _ h => h, fun _ st h => ⟨st, h, Nat.le_refl _, fun _ => rfl⟩, fun _ st h => ⟨st, h, Nat.le_refl _, fun _ => rfl⟩⟩
theorem Ren.trans {h1 h2 h3 : View} {E1 E2 E3 : Env} {s1 s2 s3 : Look} (a : Ren h1 h2 E1 E2 s1 s2) (b : Ren h2 h3 E2 E3 s2 s3) : Ren h1 h3 E1 E3 s1 s3 := by
  refine ⟨fun x y z h => b.view x y z (a.view x y z h), fun d st h => ?_, fun k st h => ?_⟩
  · obtain ⟨s', h1, h2, h3⟩ := a.box d st h
    obtain ⟨s'', k1, k2, k3⟩ := b.box d s' h1
    exact ⟨s'', k1, Nat.le_trans h2 k2, fun e => (k3 (by omega)).trans (h3 (by omega))⟩
  · obtain ⟨s', h1, h2, h3⟩ := a.row k st h
    obtain ⟨s'', k1, k2, k3⟩ := b.row k s' h1
    exact ⟨s'', k1, Nat.le_trans h2 k2, fun e => (k3 (by omega)).trans (h3 (by omega))⟩

/-- a reference that is up to date denotes its row's value -/
theorem rf_hdr {h : View} {k : Key} {st : Nat} {v : Value} (hv : (AV.rf k st).rep h E σ v) (hk : (σ k).stamp = some st) : v = E.hdr k := by
  simp only [AV.rep] at hv
  obtain ⟨_, s, h1, h2, h3⟩ := hv
  rw [hk] at h1
  simp at h1
  exact h3 h1

theorem row_form {h : View} {lab : Nat → Option Key} {k : Key} {e : TypeId} {xs : List (List PV)} {v : Value} (hr : rowOk P h w ow lab k e xs v) : ∃ a n c, v = .slice a n c := by
  rcases hr with ⟨_, a, rfl⟩ | ⟨g, cap, cur, rfl, _⟩
  · exact ⟨_, _, _, rfl⟩
  · exact ⟨_, _, _, rfl⟩

theorem mv1_sound {d j : Nat} {a a' : AV} {wr : St} (hR : RE P E σ tm w ow) (h : mv1 σ d j a = some (a', wr)) {v : Value} (hv : a.rep (view w ow) E σ v) :
    ∃ E', RE P E' (updL σ wr) tm w ow ∧ Ren (view w ow) (view w ow) E E' σ (updL σ wr) ∧ a'.rep (view w ow) E' (updL σ wr) v ∧ v.oneCell' = true ∧ E'.β = E.β ∧ (∀ d, updL σ wr (.B d) = σ (.B d)) := by
  unfold mv1 at h
  split at h
  all_goals first
    | (simp only [Option.some.injEq, Prod.mk.injEq] at h; obtain ⟨rfl, rfl⟩ := h; exact ⟨E, hR, Ren.refl _ _ _, hv, cell_ok (by rfl) hv, rfl, fun _ => rfl⟩)
    | cases h

theorem mvCells_sound {d : Nat} : ∀ {as as' : List AV} {j : Nat} {wr : St} {E : Env} {σ : Look}, RE P E σ tm w ow → mvCells σ d j as = some (as', wr) → ∀ {l : List Value}, AV.repL (view w ow) E σ as l →
    ∃ E', RE P E' (updL σ wr) tm w ow ∧ Ren (view w ow) (view w ow) E E' σ (updL σ wr) ∧ AV.repL (view w ow) E' (updL σ wr) as' l ∧ (∀ v ∈ l, v.oneCell' = true) ∧ E'.β = E.β ∧ (∀ d, updL σ wr (.B d) = σ (.B d))
  | [], as', j, wr, E, σ, hR, h, l, hl => by
    simp only [mvCells, Option.some.injEq, Prod.mk.injEq] at h
    obtain ⟨rfl, rfl⟩ := h
    simp only [AV.repL] at hl
    subst hl
    exact ⟨E, hR, Ren.refl _ _ _, by simp [AV.repL], by simp, rfl, fun _ => rfl⟩
  | a :: as, as', j, wr, E, σ, hR, h, l, hl => by
    simp only [mvCells] at h
    simp only [AV.repL] at hl
    obtain ⟨v, vs, rfl, hv, hvs⟩ := hl
    split at h
    · rename_i a' w1 h1
      split at h
      · rename_i as2 w2 h2
        simp only [Option.some.injEq, Prod.mk.injEq] at h
        obtain ⟨rfl, rfl⟩ := h
        obtain ⟨E1, r1, n1, v1, c1, b1, k1⟩ := mv1_sound hR h1 hv
        obtain ⟨E2, r2, n2, v2, c2, b2, k2⟩ := mvCells_sound r1 h2 (AV.repL_ren n1 _ _ hvs)
        rw [updL_append]
        refine ⟨E2, r2, n1.trans n2, ?_, ?_, b2.trans b1, fun d => (k2 d).trans (k1 d)⟩
        · simp only [AV.repL]
          exact ⟨v, vs, rfl, AV.rep_ren n2 _ _ v1, v2⟩
        · intro u hu
          rcases List.mem_cons.1 hu with rfl | hu
          · exact c1
          · exact c2 u hu
      · cases h
    · cases h

end
end Go.Pw
namespace Go.Pw
variable [Mode]
set_option linter.unusedSimpArgs false
set_option linter.unusedVariables false
set_option linter.unusedSectionVars false

def rowAt (σ : Look) (k : Key) (st : Nat) : Option (Bool × TypeId × List (List PV)) :=
  match σ k with
  | .rw st' own e xs => if st = st' then some (own, e, xs) else none
  | _ => none

def boxAt (σ : Look) (d st : Nat) : Option (List AV) :=
  match σ (.B d) with
  | .bx st' cs => if st = st' then (if hasMk cs = true then none else some cs) else none
  | _ => none
def mapAt (σ : Look) (d st : Nat) : Option (List (List UInt8) × List AV) :=
  match σ (.B d) with
  | .bx st' (.mk ks :: vs) => if st = st' then some (ks, vs) else none
  | _ => none

def plainCell : AV → Bool
  | .pv _ | .emp => true
  | _ => false

/-- A cell that is about to lie in a slice: an own row is frozen. -/
def fz1 (σ : Look) (a : AV) : Option (PV × St) :=
  match a with
  | .pv p => some (p, [])
  | .emp => some (.sl [], [])
  | .rf k st => match rowAt σ k st with
    | some (true, e, xs) => some (.sl xs, [(k, .rw st false e xs)])
    | some (false, _, xs) => some (.sl xs, [])
    | none => none
  | _ => none

def fzCells (σ : Look) : List AV → Option (List PV × St)
  | [] => some ([], [])
  | a :: as => match fz1 σ a with
    | some (p, w1) => match fzCells (updL σ w1) as with
      | some (ps, w2) => some (p :: ps, w2 ++ w1)
      | none => none
    | none => none

def fzParts (σ : Look) (s : Nat) : List AV → Option (List (List PV) × St)
  | [] => some ([], [])
  | a :: as => if a.okPart = true ∧ a.cells.length = s then
      match fzCells σ a.cells with
      | some (x, w1) => match fzParts (updL σ w1) s as with
        | some (xs, w2) => some (x :: xs, w2 ++ w1)
        | none => none
      | none => none
    else none

/-- parts that stand in order from i on -/
def inOrder : Nat → List Nat → Bool
  | _, [] => true
  | i, j :: l => i == j && inOrder (i + 1) l

def strCells (l : List UInt8) : List (List PV) := l.map fun b => [.int .u8 (b.toNat : Int)]

/-- what is appended, as rows of an element's cells -/
def srcOf (P : Program) (σ : Look) (e tx : TypeId) (x : AV) : Option (List (List PV) × List Key) :=
  match x with
  | .pv (.sl ys) => if (elemT P tx).isSome then some (ys, []) else none
  | .emp => if (elemT P tx).isSome then some ([], []) else none
  | .pv (.str l) => if strT P tx = true ∧ P.cellsOf e = 1 then some (strCells l, []) else none
  | .rf k st => match rowAt σ k st with
    | some (_, _, ys) => if (elemT P tx).isSome then some (ys, [k]) else none
    | none => none
  | _ => none

def toPVs : List AV → Option (List PV)
  | [] => some []
  | .pv p :: l => (toPVs l).map (p :: ·)
  | .emp :: l => (toPVs l).map (.sl [] :: ·)
  | _ => none
def zeroP (P : Program) (e : TypeId) : Option (List PV) := match zeroA P e with
  | some z => toPVs z
  | none => none
/-- a map whose keys are texts: its elements' type -/
def mapT (P : Program) (t : TypeId) : Option TypeId := match P.underlying t with
  | some (.map k e) => if strT P k = true then some e else none
  | _ => none
/-- a type's zero value -/
def zeroV (P : Program) (t : TypeId) : Option AV := match P.info? t with
  | some i => i.zero.map cAV
  | none => none
def findK : List (List UInt8) → List UInt8 → Option Nat
  | [], _ => none
  | k :: ks, s => if k = s then some 0 else (findK ks s).map (· + 1)
def okRes (ok : Bool) (a : AV) (b : Bool) : AV := match ok with
  | true => .tup [a, .pv (.bool b)]
  | false => a
def stoR (P : Program) (σ : Look) (ρ : Operand → AV) (dst : Option Nat) (op : Op) : Option Eff :=
  match op, dst with
  | .assign x, some d => match ρ x with
    | .rf k st => match rowAt σ k st with
      | some (true, e, xs) => if k = .RS d 0 then some ⟨True, [k], [(.S d, .av (.rf k st))]⟩ else
          some ⟨True, [k, .RS d 0], [(.S d, .av (.rf (.RS d 0) (nst (σ (.RS d 0))))), (.RS d 0, .rw (nst (σ (.RS d 0))) true e xs), (k, .dead (st + 1))]⟩
      | some (false, _, xs) => some ⟨True, [k], [(.S d, .av (.pv (.sl xs)))]⟩
      | none => none
    | .agg cs => if cs.all plainCell then some ⟨True, [], [(.S d, .av (.agg cs))]⟩ else none
    | _ => none
  | .alloc T, some d => match zeroA P T with
    | some z => some ⟨True, [.B (d + 1000)], [(.S d, .av (.ptr (d + 1000) 0 (nst (σ (.B (d + 1000)))))), (.B (d + 1000), .bx (nst (σ (.B (d + 1000)))) z)]⟩
    | none => none
  | .box _ x, some d => if (ρ x).okPart then match mvCells σ (d + 1000) 0 (ρ x).cells with
      | some (cs, w1) => some ⟨True, .B (d + 1000) :: w1.map (·.1), [(.S d, .av (.ptr (d + 1000) 0 (nst (σ (.B (d + 1000)))))), (.B (d + 1000), .bx (nst (σ (.B (d + 1000)))) cs)] ++ w1⟩
      | none => none
    else none
  | .load T x, some d => match ρ x with
    | .ptr b off st => match boxAt σ b st with
      | some cs => match partA P T cs off with
        | some a => some ⟨True, [.B b], [(.S d, .av a)]⟩
        | none => none
      | none => none
    | .rptr k st i s off => match rowAt σ k st with
      | some (_, e, xs) => match cellsA P T ((xs.getD i []).drop off) with
        | some a => some ⟨i < xs.length ∧ s = P.cellsOf e, [k], [(.S d, .av a)]⟩
        | none => none
      | none => none
    | _ => none
  | .store T x v, none => match ρ x with
    | .ptr b off st => match boxAt σ b st with
      | some cs => if (ρ v).okPart = true ∧ (ρ v).cells.length = P.cellsOf T ∧ P.cellsOf T ≠ 0 then match mvCells σ b off (ρ v).cells with
          | some (as, w1) => some ⟨off + (ρ v).cells.length ≤ cs.length, .B b :: w1.map (·.1), (.B b, .bx st (splice cs off as)) :: w1⟩
          | none => none
        else none
      | none => none
    | .rptr k st i s off => match rowAt σ k st with
      | some (true, e, xs) => match ρ v with
        | .pv p => some ⟨i < xs.length ∧ s = P.cellsOf e ∧ off < s ∧ P.cellsOf T = 1, [k], [(k, .rw st true e (xs.set i ((xs.getD i []).set off p)))]⟩
        | .agg cs => match toPVs cs with
          | some ps => some ⟨i < xs.length ∧ s = P.cellsOf e ∧ off = 0 ∧ P.cellsOf T = P.cellsOf e ∧ ps.length = P.cellsOf e ∧ P.cellsOf e ≠ 0, [k], [(k, .rw st true e (xs.set i ps))]⟩
          | none => none
        | _ => none
      | _ => none
    | _ => none
  | .buildSlice t len parts, some d => match elemT P t with
    | some e => if inOrder 0 (parts.toList.map (·.1)) = true ∧ parts.toList.length = len ∧ len ≤ 1000 ∧ P.cellsOf e ≤ 1000 ∧ P.cellsOf e ≠ 0 ∧ (zeroA P e).map List.length = some (P.cellsOf e) then
        match fzParts σ (P.cellsOf e) (parts.toList.map fun (_, x) => ρ x) with
        | some (xs, w1) => some ⟨True, .RS d 0 :: w1.map (·.1), [(.S d, .av (.rf (.RS d 0) (nst (updL σ w1 (.RS d 0))))), (.RS d 0, .rw (nst (updL σ w1 (.RS d 0))) true e xs)] ++ w1⟩
        | none => none
      else none
    | none => none
  | .call c, some d => match c.callee, c.args.toList, c.argTypes.toList with
    | .builtin .append, [s, x], [t, tx] => match elemT P t with
      | some e => match srcOf P σ e tx (ρ x) with
       | some (ys, rd) => if P.cellsOf e ≠ 0 ∧ (zeroA P e).map List.length = some (P.cellsOf e) then match ρ s with
          | .emp => some ⟨(∀ y ∈ ys, y.length = P.cellsOf e) ∧ ys.length * P.bytesOf e ≤ 140737488355328 ∧ ys.length ≤ 9223372036854775807, .RS d 0 :: rd,
              [(.S d, .av (.rf (.RS d 0) (nst (σ (.RS d 0))))), (.RS d 0, .rw (nst (σ (.RS d 0))) true e ys)]⟩
          | .rf k st => match rowAt σ k st with
            | some (true, e', xs) => if e' = e ∧ k ≠ .RS d 0 then some ⟨(∀ y ∈ ys, y.length = P.cellsOf e) ∧ (xs.length + ys.length) * P.bytesOf e ≤ 140737488355328 ∧ xs.length + ys.length ≤ 9223372036854775807, .RS d 0 :: k :: rd,
                [(.S d, .av (.rf (.RS d 0) (nst (σ (.RS d 0))))), (.RS d 0, .rw (nst (σ (.RS d 0))) true e (xs ++ ys)), (k, .dead (st + 1))]⟩ else none
            | _ => none
          | _ => none
        else none
       | none => none
      | none => none
    | .builtin .len, [x], [t] => match ρ x with
      | .rf k st => match rowAt σ k st, elemT P t with
        | some (_, _, xs), some _ => some ⟨True, [k], [(.S d, .av (.pv (.int .i64 (xs.length : Int))))]⟩
        | _, _ => none
      | _ => none
    | _, _, _ => none
  | .indexAddr t x i, some d => match ρ x, ρ i with
    | .rf k st, .pv (.int _ n) => match rowAt σ k st, elemT P t with
      | some (own, e, xs), some e' => if P.cellsOf e' = P.cellsOf e ∧ P.cellsOf e ≠ 0 then some ⟨0 ≤ n ∧ n < (xs.length : Int), [k], [(.S d, .av (if own then .rptr k st n.toNat (P.cellsOf e) 0 else .pv (.pp (xs.getD n.toNat []))))]⟩ else none
      | _, _ => none
    | _, _ => none
  | .slice t x lo hi mx, some d => match ρ x with
    | .rf k st => match rowAt σ k st with
      | some (own, e, xs) => match sliceP P t (.pv (.sl xs)) (lo.map ρ) (hi.map ρ) (mx.map ρ) with
        | some (c, a) => some ⟨c, [k], (.S d, .av a) :: (if own then [(k, .rw st false e xs)] else [])⟩
        | none => none
      | none => none
    | _ => none
  | .convert src dst x, some d => match ρ x with
    | .pv (.str l) => if byteT P dst = true ∧ hasT P src = true then some ⟨True, [], [(.S d, .av (.pv (.sl (strCells l))))]⟩ else none
    | .rf k st => match rowAt σ k st with
      | some (own, e, xs) => if strT P dst = true ∧ byteT P src = true ∧ P.cellsOf e = 1 then (match byteRow xs with
          | some l => some ⟨True, [k], [(.S d, .av (.pv (.str l)))]⟩
          | none => none)
        else if own = true ∧ src = dst ∧ byteT P src = true then some ⟨0 < xs.length, [k], [(.S d, .av (.pv (.sl xs))), (k, .rw st false e xs)]⟩ else none
      | none => none
    | _ => none
  | .binOp op t x y _, some d => if isNilC y = true then (match ρ x with
    | .rf k st => match rowAt σ k st with
      | some (_, _, xs) => match nilCmp P op t (.pv (.sl xs)) with
        | some (_, a) => some ⟨True, [k], [(.S d, .av a)]⟩
        | none => none
      | none => none
    | _ => none) else none
  | .makeSlice t len cap, some d => match ρ len, ρ cap, elemT P t with
    | .pv (.int _ n), .pv (.int _ m), some e => match zeroP P e with
      | some z => if z.length = P.cellsOf e ∧ P.cellsOf e ≠ 0 then some ⟨0 ≤ n ∧ n ≤ m ∧ (P.bytesOf e : Int) * m ≤ 281474976710656 ∧ m ≤ 9223372036854775807, [.RS d 0],
          [(.S d, .av (.rf (.RS d 0) (nst (σ (.RS d 0))))), (.RS d 0, .rw (nst (σ (.RS d 0))) true e (List.replicate n.toNat z))]⟩ else none
      | none => none
    | _, _, _ => none
  | .makeMap T none, some d => match mapT P T with
    | some _ => some ⟨True, [.B (d + 1000)], [(.S d, .av (.mref (d + 1000) (nst (σ (.B (d + 1000)))))), (.B (d + 1000), .bx (nst (σ (.B (d + 1000)))) [.mk []])]⟩
    | none => none
  | .insert T m k v, none => match ρ m, ρ k, mapT P T with
    | .mref b st, .pv (.str s), some _ => match mapAt σ b st with
      | some (ks, vs) => some ⟨findK ks s = none, [.B b], [(.B b, .bx st (.mk (ks ++ [s]) :: (vs ++ [ρ v])))]⟩
      | none => none
    | _, _, _ => none
  | .lookup T m k ok, some d => match ρ m, ρ k, mapT P T with
    | .mref b st, .pv (.str s), some e => match mapAt σ b st with
      | some (ks, vs) => match findK ks s with
        | some i => match vs[i]? with
          | some a => some ⟨True, [.B b], [(.S d, .av (okRes ok a true))]⟩
          | none => none
        | none => match zeroV P e with
          | some z => some ⟨True, [.B b], [(.S d, .av (okRes ok z false))]⟩
          | none => none
      | none => none
    | _, _, _ => none
  | _, _ => none

end Go.Pw
