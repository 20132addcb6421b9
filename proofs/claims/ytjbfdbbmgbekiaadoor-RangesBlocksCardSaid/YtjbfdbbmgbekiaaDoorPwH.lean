/- Operations that read or write memory of our own: what they do to the abstract state. -/
import Derived.Test.YtjbfdbbmgbekiaaDoorPwG
import Derived.Deep.AppendSrc
namespace Go.Pw
variable [Mode]
set_option linter.unusedSimpArgs false
set_option linter.unusedVariables false
set_option linter.unusedSectionVars false

def rowAt (σ : Look) (k : Key) (st : Nat) : Option (Bool × TypeId × List (List PV)) :=
  match σ k with
  | .rw st' own e xs => if st = st' then some (own, e, xs) else none
  | _ => none

def boxAt (σ : Look) (d st : Nat) : Option (List AV) :=
  match σ (.B d) with
  | .bx st' cs => if st = st' then some cs else none
  | _ => none

def plainCell : AV → Bool
  | .pv _ | .emp => true
  | _ => false

/-- A cell that is about to lie in a slice: an own row is frozen. -/
def fz1 (σ : Look) (a : AV) : Option (PV × St) :=
  match a with
  | .pv p => some (p, [])
  | .emp => some (.sl [], [])
  | .rf k st => match rowAt σ k st with
    | some (true, e, xs) => some (.sl xs, [(k, .rw st false e xs)])
    | some (false, _, xs) => some (.sl xs, [])
    | none => none
  | _ => none

def fzCells (σ : Look) : List AV → Option (List PV × St)
  | [] => some ([], [])
  | a :: as => match fz1 σ a with
    | some (p, w1) => match fzCells (updL σ w1) as with
      | some (ps, w2) => some (p :: ps, w2 ++ w1)
      | none => none
    | none => none

def fzParts (σ : Look) (s : Nat) : List AV → Option (List (List PV) × St)
  | [] => some ([], [])
  | a :: as => if a.okPart = true ∧ a.cells.length = s then
      match fzCells σ a.cells with
      | some (x, w1) => match fzParts (updL σ w1) s as with
        | some (xs, w2) => some (x :: xs, w2 ++ w1)
        | none => none
      | none => none
    else none

/-- parts that stand in order from i on -/
def inOrder : Nat → List Nat → Bool
  | _, [] => true
  | i, j :: l => i == j && inOrder (i + 1) l

def strCells (l : List UInt8) : List (List PV) := l.map fun b => [.int .u8 (b.toNat : Int)]

/-- what is appended, as rows of an element's cells -/
def srcOf (P : Program) (σ : Look) (e tx : TypeId) (x : AV) : Option (List (List PV) × List Key) :=
  match x with
  | .pv (.sl ys) => if (elemT P tx).isSome then some (ys, []) else none
  | .emp => if (elemT P tx).isSome then some ([], []) else none
  | .pv (.str l) => if strT P tx = true ∧ P.cellsOf e = 1 then some (strCells l, []) else none
  | .rf k st => match rowAt σ k st with
    | some (_, _, ys) => if (elemT P tx).isSome then some (ys, [k]) else none
    | none => none
  | _ => none

def toPVs : List AV → Option (List PV)
  | [] => some []
  | .pv p :: l => (toPVs l).map (p :: ·)
  | .emp :: l => (toPVs l).map (.sl [] :: ·)
  | _ => none
def zeroP (P : Program) (e : TypeId) : Option (List PV) := match zeroA P e with
  | some z => toPVs z
  | none => none
def stoR (P : Program) (σ : Look) (ρ : Operand → AV) (dst : Option Nat) (op : Op) : Option Eff :=
  match op, dst with
  | .assign x, some d => match ρ x with
    | .rf k st => match rowAt σ k st with
      | some (true, e, xs) => if k = .RS d 0 then some ⟨True, [k], [(.S d, .av (.rf k st))]⟩ else
          some ⟨True, [k, .RS d 0], [(.S d, .av (.rf (.RS d 0) (nst (σ (.RS d 0))))), (.RS d 0, .rw (nst (σ (.RS d 0))) true e xs), (k, .dead (st + 1))]⟩
      | some (false, _, xs) => some ⟨True, [k], [(.S d, .av (.pv (.sl xs)))]⟩
      | none => none
    | .agg cs => if cs.all plainCell then some ⟨True, [], [(.S d, .av (.agg cs))]⟩ else none
    | _ => none
  | .alloc T, some d => match zeroA P T with
    | some z => some ⟨True, [.B (d + 1000)], [(.S d, .av (.ptr (d + 1000) 0 (nst (σ (.B (d + 1000)))))), (.B (d + 1000), .bx (nst (σ (.B (d + 1000)))) z)]⟩
    | none => none
  | .box _ x, some d => if (ρ x).okPart then match mvCells σ (d + 1000) 0 (ρ x).cells with
      | some (cs, w1) => some ⟨True, .B (d + 1000) :: w1.map (·.1), [(.S d, .av (.ptr (d + 1000) 0 (nst (σ (.B (d + 1000)))))), (.B (d + 1000), .bx (nst (σ (.B (d + 1000)))) cs)] ++ w1⟩
      | none => none
    else none
  | .load T x, some d => match ρ x with
    | .ptr b off st => match boxAt σ b st with
      | some cs => match partA P T cs off with
        | some a => some ⟨True, [.B b], [(.S d, .av a)]⟩
        | none => none
      | none => none
    | .rptr k st i s off => match rowAt σ k st with
      | some (_, e, xs) => match cellsA P T ((xs.getD i []).drop off) with
        | some a => some ⟨i < xs.length ∧ s = P.cellsOf e, [k], [(.S d, .av a)]⟩
        | none => none
      | none => none
    | _ => none
  | .store T x v, none => match ρ x with
    | .ptr b off st => match boxAt σ b st with
      | some cs => if (ρ v).okPart = true ∧ (ρ v).cells.length = P.cellsOf T ∧ P.cellsOf T ≠ 0 then match mvCells σ b off (ρ v).cells with
          | some (as, w1) => some ⟨off + (ρ v).cells.length ≤ cs.length, .B b :: w1.map (·.1), (.B b, .bx st (splice cs off as)) :: w1⟩
          | none => none
        else none
      | none => none
    | .rptr k st i s off => match rowAt σ k st with
      | some (true, e, xs) => match ρ v with
        | .pv p => some ⟨i < xs.length ∧ s = P.cellsOf e ∧ off < s ∧ P.cellsOf T = 1, [k], [(k, .rw st true e (xs.set i ((xs.getD i []).set off p)))]⟩
        | _ => none
      | _ => none
    | _ => none
  | .buildSlice t len parts, some d => match elemT P t with
    | some e => if inOrder 0 (parts.toList.map (·.1)) = true ∧ parts.toList.length = len ∧ len ≤ 1000 ∧ P.cellsOf e ≤ 1000 ∧ P.cellsOf e ≠ 0 ∧ (zeroA P e).map List.length = some (P.cellsOf e) then
        match fzParts σ (P.cellsOf e) (parts.toList.map fun (_, x) => ρ x) with
        | some (xs, w1) => some ⟨True, .RS d 0 :: w1.map (·.1), [(.S d, .av (.rf (.RS d 0) (nst (updL σ w1 (.RS d 0))))), (.RS d 0, .rw (nst (updL σ w1 (.RS d 0))) true e xs)] ++ w1⟩
        | none => none
      else none
    | none => none
  | .call c, some d => match c.callee, c.args.toList, c.argTypes.toList with
    | .builtin .append, [s, x], [t, tx] => match elemT P t with
      | some e => match srcOf P σ e tx (ρ x) with
       | some (ys, rd) => if P.cellsOf e ≠ 0 ∧ (zeroA P e).map List.length = some (P.cellsOf e) then match ρ s with
          | .emp => some ⟨(∀ y ∈ ys, y.length = P.cellsOf e) ∧ ys.length * P.bytesOf e ≤ 140737488355328 ∧ ys.length ≤ 9223372036854775807, .RS d 0 :: rd,
              [(.S d, .av (.rf (.RS d 0) (nst (σ (.RS d 0))))), (.RS d 0, .rw (nst (σ (.RS d 0))) true e ys)]⟩
          | .rf k st => match rowAt σ k st with
            | some (true, e', xs) => if e' = e ∧ k ≠ .RS d 0 then some ⟨(∀ y ∈ ys, y.length = P.cellsOf e) ∧ (xs.length + ys.length) * P.bytesOf e ≤ 140737488355328 ∧ xs.length + ys.length ≤ 9223372036854775807, .RS d 0 :: k :: rd,
                [(.S d, .av (.rf (.RS d 0) (nst (σ (.RS d 0))))), (.RS d 0, .rw (nst (σ (.RS d 0))) true e (xs ++ ys)), (k, .dead (st + 1))]⟩ else none
            | _ => none
          | _ => none
        else none
       | none => none
      | none => none
    | .builtin .len, [x], [t] => match ρ x with
      | .rf k st => match rowAt σ k st, elemT P t with
        | some (_, _, xs), some _ => some ⟨True, [k], [(.S d, .av (.pv (.int .i64 (xs.length : Int))))]⟩
        | _, _ => none
      | _ => none
    | _, _, _ => none
  | .indexAddr t x i, some d => match ρ x, ρ i with
    | .rf k st, .pv (.int _ n) => match rowAt σ k st, elemT P t with
      | some (own, e, xs), some e' => if P.cellsOf e' = P.cellsOf e ∧ P.cellsOf e ≠ 0 then some ⟨0 ≤ n ∧ n < (xs.length : Int), [k], [(.S d, .av (if own then .rptr k st n.toNat (P.cellsOf e) 0 else .pv (.pp (xs.getD n.toNat []))))]⟩ else none
      | _, _ => none
    | _, _ => none
  | .slice t x lo hi mx, some d => match ρ x with
    | .rf k st => match rowAt σ k st with
      | some (own, e, xs) => match sliceP P t (.pv (.sl xs)) (lo.map ρ) (hi.map ρ) (mx.map ρ) with
        | some (c, a) => some ⟨c, [k], (.S d, .av a) :: (if own then [(k, .rw st false e xs)] else [])⟩
        | none => none
      | none => none
    | _ => none
  | .convert src dst x, some d => match ρ x with
    | .pv (.str l) => if byteT P dst = true ∧ hasT P src = true then some ⟨True, [], [(.S d, .av (.pv (.sl (strCells l))))]⟩ else none
    | .rf k st => match rowAt σ k st with
      | some (own, e, xs) => if strT P dst = true ∧ byteT P src = true ∧ P.cellsOf e = 1 then (match byteRow xs with
          | some l => some ⟨True, [k], [(.S d, .av (.pv (.str l)))]⟩
          | none => none)
        else if own = true ∧ src = dst ∧ byteT P src = true then some ⟨0 < xs.length, [k], [(.S d, .av (.pv (.sl xs))), (k, .rw st false e xs)]⟩ else none
      | none => none
    | _ => none
  | .binOp op t x y _, some d => if isNilC y = true then (match ρ x with
    | .rf k st => match rowAt σ k st with
      | some (_, _, xs) => match nilCmp P op t (.pv (.sl xs)) with
        | some (_, a) => some ⟨True, [k], [(.S d, .av a)]⟩
        | none => none
      | none => none
    | _ => none) else none
  | .makeSlice t len cap, some d => match ρ len, ρ cap, elemT P t with
    | .pv (.int _ n), .pv (.int _ m), some e => match zeroP P e with
      | some z => if z.length = P.cellsOf e ∧ P.cellsOf e ≠ 0 then some ⟨0 ≤ n ∧ n ≤ m ∧ (P.bytesOf e : Int) * m ≤ 281474976710656 ∧ m ≤ 9223372036854775807, [.RS d 0],
          [(.S d, .av (.rf (.RS d 0) (nst (σ (.RS d 0))))), (.RS d 0, .rw (nst (σ (.RS d 0))) true e (List.replicate n.toNat z))]⟩ else none
      | none => none
    | _, _, _ => none
  | _, _ => none

end Go.Pw
