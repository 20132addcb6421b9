/- What a step asks, decided: for runs in which everything is known. -/
import Derived.Test.YtgnedmmecmpnpaaGreatDoorPuZ
namespace Go.Pw
variable [Mode]
set_option linter.unusedSimpArgs false
set_option linter.unusedVariables false
set_option linter.unusedSectionVars false
def dle (a b : Int) : Bool := decide (a ≤ b)
def dlt (a b : Int) : Bool := decide (a < b)
def inRb : IntKind → Int → Bool
  | .i8, n => dle (-128) n && dle n 127
  | .i16, n => dle (-32768) n && dle n 32767
  | .i32, n => dle (-2147483648) n && dle n 2147483647
  | .i64, n => dle (-9223372036854775808) n && dle n 9223372036854775807
  | .u8, n => dle 0 n && dle n 255
  | .u16, n => dle 0 n && dle n 65535
  | .u32, n => dle 0 n && dle n 4294967295
  | .u64, n => dle 0 n && dle n 18446744073709551615
theorem inRb_spec {k : IntKind} {n : Int} (h : inRb k n = true) : inR k n := by
  cases k <;> simpa [inRb, inR, dle] using h

def binIntB (op : BinOp) (k : IntKind) (a b : Int) : Bool :=
  match op with
  | .add => inRb k (a + b)
  | .sub => inRb k (a - b)
  | .mul => inRb k (a * b)
  | .quo => dle 0 a && dlt 0 b && inRb k a
  | .rem => dle 0 a && dlt 0 b
  | .and | .or | .xor => dle 0 a && dle 0 b && inRb k a && inRb k b
  | _ => true
def binShiftB (op : BinOp) (k : IntKind) (a b : Int) : Bool :=
  match op with
  | .shl => dle 0 b && dlt b (k.bits : Int)
  | .shr => dle 0 b && dlt b (k.bits : Int) && dle 0 a
  | _ => true
def binStrB (op : BinOp) (a b : List UInt8) : Bool :=
  match op with
  | .add => Nat.ble (a.length + b.length) 9223372036854775807
  | _ => true
def binPB (op : BinOp) (x y : AV) : Bool :=
  match x, y with
  | .pv (.int k a), .pv (.int k' b) => if isShift op then binShiftB op k a b else binIntB op k a b
  | .pv (.str a), .pv (.str b) => binStrB op a b
  | _, _ => true
def unPB (op : UnOp) (x : AV) : Bool :=
  match op, x with
  | .neg, .pv (.int k n) => inRb k (-n)
  | _, _ => true
def convPB (P : Program) (dst : TypeId) (x : AV) : Bool :=
  match x with
  | .pv (.int _ n) => match intT P dst with
    | some k => inRb k n
    | none => true
  | _ => true
def slicePB (P : Program) (t : TypeId) (x : AV) (lo hi mx : Option AV) : Bool :=
  match x, idx? lo, idx? hi with
  | .pv (.str l), some lo, some hi => dle 0 (lo.getD 0) && dle (lo.getD 0) (hi.getD (l.length : Int)) && dle (hi.getD (l.length : Int)) (l.length : Int)
  | .pv (.sl xs), some lo, some hi =>
    match elemT P t with
    | some e => dle 0 (lo.getD 0) && dle (lo.getD 0) (hi.getD (xs.length : Int)) && dle (hi.getD (xs.length : Int)) (xs.length : Int) && (!Nat.beq (P.cellsOf e) 0) && xs.all fun x => Nat.beq x.length (P.cellsOf e)
    | none => true
  | _, _, _ => true
def pureRB (P : Program) (ρ : Operand → AV) : Op → Bool
  | .binOp op t x y _ => isNilC y || binPB op (ρ x) (ρ y)
  | .unOp op _ x => unPB op (ρ x)
  | .convert src dst x => convPB P dst (ρ x)
  | .slice t x lo hi mx => slicePB P t (ρ x) (lo.map ρ) (hi.map ρ) (mx.map ρ)
  | .indexAddr t x i => match ρ x, ρ i with
    | .pv (.sl xs), .pv (.int _ n) => match elemT P t with
      | some e => dle 0 n && dlt n (xs.length : Int) && Nat.beq (xs.getD n.toNat []).length (P.cellsOf e) && (!Nat.beq (P.cellsOf e) 0)
      | none => true
    | .ptr d off st, .pv (.int _ n) => match arrT P t with
      | some (len, e) => dle 0 n && dlt n (len : Int) && (!Nat.beq (P.cellsOf e) 0)
      | none => true
    | .pv (.pp cs), .pv (.int _ n) => match arrT P t with
      | some (len, e) => dle 0 n && dlt n (len : Int) && (!Nat.beq (P.cellsOf e) 0)
      | none => true
    | _, _ => true
  | .index t x i => match ρ x, ρ i with
    | .pv (.str l), .pv (.int _ n) => dle 0 n && dlt n (l.length : Int)
    | .agg cs, .pv (.int _ n) => match arrT P t with
      | some (len, e) => dle 0 n && dlt n (len : Int) && (!Nat.beq (P.cellsOf e) 0)
      | none => true
    | _, _ => true
  | _ => true

theorem binInt_b {op : BinOp} {k : IntKind} {a b : Int} {c : Prop} {r : AV} (h : binInt op k a b = some (c, r)) (hb : binIntB op k a b = true) : c := by
  cases op <;> simp only [binInt, Option.some.injEq, Prod.mk.injEq, reduceCtorEq] at h <;> obtain ⟨rfl, rfl⟩ := h <;>
    first
      | trivial
      | exact inRb_spec hb
      | (simp only [binIntB, Bool.and_eq_true, dle, dlt, decide_eq_true_eq] at hb
         first
           | exact ⟨hb.1.1, hb.1.2, inRb_spec hb.2⟩
           | exact ⟨hb.1.1.1, hb.1.1.2, inRb_spec hb.1.2, inRb_spec hb.2⟩
           | exact ⟨hb.1, hb.2⟩)
theorem binShift_b {op : BinOp} {k : IntKind} {a b : Int} {c : Prop} {r : AV} (h : binShift op k a b = some (c, r)) (hb : binShiftB op k a b = true) : c := by
  cases op <;> simp only [binShift, Option.some.injEq, Prod.mk.injEq, reduceCtorEq] at h <;> obtain ⟨rfl, rfl⟩ := h <;>
    simp only [binShiftB, Bool.and_eq_true, dle, dlt, decide_eq_true_eq] at hb
  · exact ⟨hb.1, hb.2⟩
  · exact ⟨hb.1.1, hb.1.2, hb.2⟩
theorem binStr_b {op : BinOp} {a b : List UInt8} {c : Prop} {r : AV} (h : binStr op a b = some (c, r)) (hb : binStrB op a b = true) : c := by
  cases op <;> simp only [binStr, Option.some.injEq, Prod.mk.injEq, reduceCtorEq] at h <;> obtain ⟨rfl, rfl⟩ := h <;>
    first
      | trivial
      | exact Nat.le_of_ble_eq_true hb
theorem nilRes_t {op : BinOp} {e : Bool} {c : Prop} {r : AV} (h : nilRes op e = some (c, r)) : c := by
  cases op <;> simp only [nilRes, Option.some.injEq, Prod.mk.injEq, reduceCtorEq] at h <;> obtain ⟨rfl, rfl⟩ := h <;> trivial
theorem binP_b {P : Program} {op : BinOp} {t : TypeId} {x y : AV} {c : Prop} {r : AV} (h : binP P op t x y = some (c, r)) (hb : binPB op x y = true) : c := by
  unfold binP at h
  split at h
  · rename_i k a k' b
    simp only [binPB] at hb
    split at h
    · rename_i hs; rw [if_pos hs] at hb; exact binShift_b h hb
    · rename_i hs
      rw [if_neg hs] at hb
      split at h
      · exact binInt_b h hb
      · cases h
  · exact binStr_b h hb
  · cases op <;> simp only [binBool, reduceCtorEq] at h <;> split at h <;> simp only [Option.some.injEq, Prod.mk.injEq, reduceCtorEq] at h <;> obtain ⟨rfl, rfl⟩ := h <;> trivial
  all_goals first
    | (split at h <;> first | exact nilRes_t h | cases h)
    | cases h
theorem binA_b {P : Program} {op : BinOp} {t : TypeId} {x y : AV} {c : Prop} {r : AV} (h : binA P op t x y = some (c, r)) (hb : binPB op x y = true) : c := by
  unfold binA at h
  split at h
  · split at h
    · split at h
      · exact nilRes_t h
      · cases h
    · cases h
  · exact binP_b h hb
theorem anyRes_t {op : BinOp} {c : Prop} {r : AV} (h : anyRes op = some (c, r)) : c := by
  cases op <;> simp only [anyRes, Option.some.injEq, Prod.mk.injEq, reduceCtorEq] at h <;> obtain ⟨rfl, rfl⟩ := h <;> trivial
theorem nilI_t {P : Program} {op : BinOp} {t : TypeId} {x : AV} {c : Prop} {r : AV} (h : nilI P op t x = some (c, r)) : c := by
  unfold nilI at h
  split at h
  · split at h
    · unfold nilRes at h
      split at h <;> first | (cases h; trivial) | cases h
    · cases h
  · cases h
theorem nilCmp_t {P : Program} {op : BinOp} {t : TypeId} {x : AV} {c : Prop} {r : AV} (h : nilCmp P op t x = some (c, r)) : c := by
  unfold nilCmp at h
  split at h
  · split at h
    · exact anyRes_t h
    · exact nilRes_t h
    · exact anyRes_t h
    · cases h
  · cases h
theorem unP_b {op : UnOp} {x : AV} {c : Prop} {r : AV} (h : unP op x = some (c, r)) (hb : unPB op x = true) : c := by
  unfold unP at h
  split at h <;> simp only [Option.some.injEq, Prod.mk.injEq, reduceCtorEq] at h <;> obtain ⟨rfl, rfl⟩ := h
  · trivial
  · exact inRb_spec hb
theorem convP_b {P : Program} {t : TypeId} {x : AV} {c : Prop} {r : AV} (h : convP P t x = some (c, r)) (hb : convPB P t x = true) : c := by
  unfold convP at h
  unfold convPB at hb
  split at h
  · simp only at hb
    split at h
    · rename_i k hk
      rw [hk] at hb
      simp only [Option.some.injEq, Prod.mk.injEq] at h
      obtain ⟨rfl, rfl⟩ := h
      exact inRb_spec hb
    · cases h
  · split at h
    · simp only [Option.some.injEq, Prod.mk.injEq] at h
      obtain ⟨rfl, rfl⟩ := h
      trivial
    · cases h
  · cases h
theorem convX_b {P : Program} {s t : TypeId} {x : AV} {c : Prop} {r : AV} (h : convX P s t x = some (c, r)) (hb : convPB P t x = true) : c := by
  unfold convX at h
  split at h
  · split at h
    · split at h
      · cases h; trivial
      · cases h
    · cases h
  · split at h
    · cases h; trivial
    · cases h
  · split at h
    · exact convP_b h hb
    · cases h
theorem sliceP_b {P : Program} {t : TypeId} {x : AV} {lo hi mx : Option AV} {c : Prop} {r : AV} (h : sliceP P t x lo hi mx = some (c, r)) (hb : slicePB P t x lo hi mx = true) : c := by
  unfold sliceP at h
  unfold slicePB at hb
  split at h
  · rename_i l lo hi _ h1 h2
    split at h
    · rw [h1, h2] at hb
      simp only [Option.some.injEq, Prod.mk.injEq] at h
      obtain ⟨rfl, rfl⟩ := h
      simp only [Bool.and_eq_true, dle, decide_eq_true_eq] at hb
      exact ⟨hb.1.1, hb.1.2, hb.2⟩
    · cases h
  · rename_i xs lo hi _ h1 h2
    rw [h1, h2] at hb
    simp only at hb
    split at h
    · rename_i e he
      rw [he] at hb
      simp only [Option.some.injEq, Prod.mk.injEq] at h
      obtain ⟨rfl, rfl⟩ := h
      simp only [Bool.and_eq_true, dle, decide_eq_true_eq, List.all_eq_true, Bool.not_eq_true'] at hb
      exact ⟨hb.1.1.1.1, hb.1.1.1.2, hb.1.1.2, fun e => by simp [e] at hb, fun x hx => Nat.eq_of_beq_eq_true (hb.2 x hx)⟩
    · cases h
  · cases h
theorem some_t {p : Prop} {a : AV} {c : Prop} {r : AV} (h : some (p, a) = some (c, r)) (hp : p) : c := by
  simp only [Option.some.injEq, Prod.mk.injEq] at h
  rw [← h.1]; exact hp
theorem map_t {o : Option AV} {c : Prop} {r : AV} (h : o.map (fun a => (True, a)) = some (c, r)) : c := by
  cases o <;> simp only [Option.map_some, Option.map_none, Option.some.injEq, Prod.mk.injEq, reduceCtorEq] at h
  rw [← h.1]; trivial
theorem nb {n : Nat} (h : (!Nat.beq n 0) = true) : n ≠ 0 := by
  intro e; subst e; simp at h
theorem pureR_b {P : Program} {ρ : Operand → AV} {op : Op} {c : Prop} {r : AV} (h : pureR P ρ op = some (c, r)) (hb : pureRB P ρ op = true) : c := by
  cases op <;> simp only [pureR, reduceCtorEq] at h
  case move x => exact some_t h trivial
  case assign x => split at h <;> first | exact some_t h trivial | cases h
  case nilCheck x => split at h <;> first | exact some_t h trivial | cases h
  case binOp op t x y yt =>
    split at h
    · exact nilCmp_t h
    · rename_i hn
      simp only [pureRB] at hb
      rw [Bool.eq_false_iff.2 hn, Bool.false_or] at hb
      split at h
      · exact nilI_t h
      · exact binA_b h hb
  case unOp op t x => exact unP_b h hb
  case convert src dst x =>
    exact convX_b h hb
  case slice t x lo hi mx => exact sliceP_b h hb
  case fieldAddr => split at h <;> first | exact some_t h trivial | cases h
  case field => split at h <;> first | exact map_t h | cases h
  case indexAddr t x i =>
    simp only [pureRB] at hb
    split at h
    · rename_i xs k n h1 h2
      rw [h1, h2] at hb
      simp only at hb
      split at h
      · rename_i e he
        rw [he] at hb
        simp only [Bool.and_eq_true, dle, dlt, decide_eq_true_eq] at hb
        exact some_t h ⟨hb.1.1.1, hb.1.1.2, Nat.eq_of_beq_eq_true hb.1.2, nb hb.2⟩
      · cases h
    · rename_i d off st k n h1 h2
      rw [h1, h2] at hb
      simp only at hb
      split at h
      · rename_i len e he
        rw [he] at hb
        simp only [Bool.and_eq_true, dle, dlt, decide_eq_true_eq] at hb
        exact some_t h ⟨hb.1.1, hb.1.2, nb hb.2⟩
      · cases h
    · rename_i cs k n h1 h2
      rw [h1, h2] at hb
      simp only at hb
      split at h
      · rename_i len e he
        rw [he] at hb
        simp only [Bool.and_eq_true, dle, dlt, decide_eq_true_eq] at hb
        exact some_t h ⟨hb.1.1, hb.1.2, nb hb.2⟩
      · cases h
    · cases h
  case index t x i =>
    simp only [pureRB] at hb
    split at h
    · rename_i l k n h1 h2
      rw [h1, h2] at hb
      simp only [Bool.and_eq_true, dle, dlt, decide_eq_true_eq] at hb
      split at h
      · exact some_t h hb
      · cases h
    · rename_i cs k n h1 h2
      rw [h1, h2] at hb
      simp only at hb
      split at h
      · rename_i len e he
        rw [he] at hb
        simp only [Bool.and_eq_true, dle, dlt, decide_eq_true_eq] at hb
        cases hp : partA P e cs (n.toNat * P.cellsOf e) with
        | none => simp [hp] at h
        | some a =>
          simp only [hp, Option.map_some, Option.some.injEq, Prod.mk.injEq] at h
          rw [← h.1]
          exact ⟨hb.1.1, hb.1.2, nb hb.2⟩
      · cases h
    · cases h
  case build t parts =>
    unfold buildP at h
    split at h
    · split at h
      · split at h
        · exact some_t h trivial
        · cases h
      · cases h
    · cases h
  case extract x i =>
    split at h
    · exact map_t h
    · cases h
  case load t x =>
    split at h
    · exact map_t h
    · cases h
  case call c0 =>
    split at h
    · rename_i b hb0
      unfold binArgs at h
      split at h
      · split at h
        · split at h <;> first | exact some_t h trivial | cases h
        · split at h <;> first | exact some_t h trivial | cases h
        · split at h <;> first | exact some_t h trivial | cases h
        · cases h
      · split at h
        · split at h <;> first | exact some_t h trivial | cases h
        · cases h
      · split at h
        · split at h <;> first | exact some_t h trivial | cases h
        · cases h
      · cases h
    · cases h
  case makeFunc => exact some_t h trivial
end Go.Pw
namespace Go.Pw
variable [Mode]
set_option linter.unusedSimpArgs false
set_option linter.unusedVariables false
set_option linter.unusedSectionVars false
def scB : AV → Bool
  | .when b _ => b
  | _ => true
def scAllB (l : List AV) : Bool := l.all scB
theorem scAllB_spec : ∀ {l : List AV} {c : Bool}, scAllB l = true → scAll c l
  | [], c, h => trivial
  | a :: l, c, h => by
    simp only [scAllB, List.all_cons, Bool.and_eq_true] at h
    have ih := scAllB_spec (c := c) (l := l) h.2
    cases a <;> simp only [scAll]
    case when b v => exact ⟨fun _ => h.1, ih⟩
    all_goals exact ih
theorem scB_spec {a : AV} {c : Bool} (h : scB a = true) : a.sc c := by
  cases a <;> simp only [AV.sc]
  exact fun _ => h

def stoRB (P : Program) (σ : Look) (ρ : Operand → AV) (dst : Option Nat) (op : Op) : Bool :=
  match op, dst with
  | .load T x, some d => match ρ x with
    | .rptr k st i s off => match rowAt σ k st with
      | some (_, e, xs) => Nat.blt i xs.length && Nat.beq s (P.cellsOf e)
      | none => true
    | _ => true
  | .store T x v, none => match ρ x with
    | .ptr b off st => match boxAt σ b st with
      | some cs => Nat.ble (off + (ρ v).cells.length) cs.length
      | none => true
    | .rptr k st i s off => match rowAt σ k st with
      | some (true, e, xs) => match ρ v with
        | .agg cs => match toPVs cs with
          | some ps => Nat.blt i xs.length && Nat.beq s (P.cellsOf e) && Nat.beq off 0 && Nat.beq (P.cellsOf T) (P.cellsOf e) && Nat.beq ps.length (P.cellsOf e) && Nat.blt 0 (P.cellsOf e)
          | none => true
        | _ => Nat.blt i xs.length && Nat.beq s (P.cellsOf e) && Nat.blt off s && Nat.beq (P.cellsOf T) 1
      | _ => true
    | _ => true
  | .call c, some d => match c.callee, c.args.toList, c.argTypes.toList with
    | .builtin .append, [s, x], [t, tx] => match elemT P t with
      | some e => match srcOf P σ e tx (ρ x) with
       | some (ys, rd) => (ys.all fun y => Nat.beq y.length (P.cellsOf e)) && (match ρ s with
          | .emp => Nat.ble (ys.length * P.bytesOf e) 140737488355328 && Nat.ble ys.length 9223372036854775807
          | .rf k st => match rowAt σ k st with
            | some (true, e', xs) => Nat.ble ((xs.length + ys.length) * P.bytesOf e) 140737488355328 && Nat.ble (xs.length + ys.length) 9223372036854775807
            | _ => true
          | _ => true)
       | none => true
      | none => true
    | _, _, _ => true
  | .indexAddr t x i, some d => match ρ x, ρ i with
    | .rf k st, .pv (.int _ n) => match rowAt σ k st with
      | some (own, e, xs) => dle 0 n && dlt n (xs.length : Int)
      | _ => true
    | _, _ => true
  | .slice t x lo hi mx, some d => match ρ x with
    | .rf k st => match rowAt σ k st with
      | some (own, e, xs) => slicePB P t (.pv (.sl xs)) (lo.map ρ) (hi.map ρ) (mx.map ρ)
      | none => true
    | _ => true
  | .convert src dst x, some d => match ρ x with
    | .rf k st => match rowAt σ k st with
      | some (own, e, xs) => Nat.blt 0 xs.length || strT P dst
      | none => true
    | _ => true
  | .makeSlice t len cap, some d => match ρ len, ρ cap, elemT P t with
    | .pv (.int _ n), .pv (.int _ m), some e => dle 0 n && dle n m && dle ((P.bytesOf e : Int) * m) 281474976710656 && dle m 9223372036854775807
    | _, _, _ => true
  | .insert T m k v, none => match ρ m, ρ k with
    | .mref b st, .pv (.str s) => match mapAt σ b st with
      | some (ks, vs) => (findK ks s).isNone
      | none => true
    | _, _ => true
  | _, _ => true

section
variable {P : Program} {σ : Look} {ρ : Operand → AV}
theorem beq_of {a b : Nat} (h : Nat.beq a b = true) : a = b := Nat.eq_of_beq_eq_true h
theorem blt_of {a b : Nat} (h : Nat.blt a b = true) : a < b := by simpa [Nat.blt_eq] using h
theorem ble_of {a b : Nat} (h : Nat.ble a b = true) : a ≤ b := Nat.le_of_ble_eq_true h
theorem stoR_b {dst : Option Nat} {op : Op} {e : Eff} (h : stoR P σ ρ dst op = some e) (hb : stoRB P σ ρ dst op = true) : e.cond := by
  cases op
  case assign x =>
    cases dst <;> simp only [stoR, reduceCtorEq] at h
    split at h
    · split at h
      · split at h <;> cases h <;> trivial
      · cases h; trivial
      · cases h
    · split at h
      · cases h; trivial
      · cases h
    · cases h
  case alloc T =>
    cases dst <;> simp only [stoR, reduceCtorEq] at h
    split at h
    · cases h; trivial
    · cases h
  case box T x =>
    cases dst <;> simp only [stoR, reduceCtorEq] at h
    split at h
    · split at h
      · cases h; trivial
      · cases h
    · cases h
  case load T x =>
    cases dst <;> simp only [stoR, reduceCtorEq] at h
    simp only [stoRB] at hb
    split at h
    · split at h
      · split at h
        · cases h; trivial
        · cases h
      · cases h
    · rename_i k st i s off hx
      rw [hx] at hb
      simp only at hb
      split at h
      · rename_i o e' xs hr
        rw [hr] at hb
        simp only [Bool.and_eq_true] at hb
        split at h
        · cases h; exact ⟨blt_of hb.1, beq_of hb.2⟩
        · cases h
      · cases h
    · cases h
  case store T x v =>
    cases dst <;> simp only [stoR, reduceCtorEq] at h
    simp only [stoRB] at hb
    split at h
    · rename_i b off st hx
      rw [hx] at hb
      simp only at hb
      split at h
      · rename_i cs hbx
        rw [hbx] at hb
        simp only at hb
        split at h
        · split at h
          · cases h; exact ble_of hb
          · cases h
        · cases h
      · cases h
    · rename_i k st i s off hx
      rw [hx] at hb
      simp only at hb
      split at h
      · rename_i e' xs hr
        rw [hr] at hb
        simp only at hb
        split at h
        · rename_i p hp
          rw [hp] at hb
          simp only [Bool.and_eq_true] at hb
          cases h; exact ⟨blt_of hb.1.1.1, beq_of hb.1.1.2, blt_of hb.1.2, beq_of hb.2⟩
        · rename_i cs hp
          rw [hp] at hb
          simp only at hb
          split at h
          · rename_i ps hps
            rw [hps] at hb
            simp only [Bool.and_eq_true] at hb
            cases h
            exact ⟨blt_of hb.1.1.1.1.1, beq_of hb.1.1.1.1.2, beq_of hb.1.1.1.2, beq_of hb.1.1.2, beq_of hb.1.2, Nat.ne_of_gt (blt_of hb.2)⟩
          · cases h
        · cases h
      · cases h
    · cases h
  case buildSlice t len parts =>
    cases dst <;> simp only [stoR, reduceCtorEq] at h
    split at h
    · split at h
      · split at h
        · cases h; trivial
        · cases h
      · cases h
    · cases h
  case call c =>
    cases dst <;> simp only [stoR, reduceCtorEq] at h
    simp only [stoRB] at hb
    split at h
    · rename_i s x t tx h1 h2 h3
      rw [h1, h2, h3] at hb
      simp only at hb
      split at h
      · rename_i e' he
        rw [he] at hb
        simp only at hb
        split at h
        · rename_i ys rd hs
          rw [hs] at hb
          simp only [Bool.and_eq_true, List.all_eq_true] at hb
          have hy : ∀ y ∈ ys, y.length = P.cellsOf e' := fun y hy => beq_of (hb.1 y hy)
          have hb2 := hb.2
          split at h
          · split at h
            · rename_i hx
              rw [hx] at hb2
              simp only [Bool.and_eq_true] at hb2
              cases h; exact ⟨hy, ble_of hb2.1, ble_of hb2.2⟩
            · rename_i k st hx
              rw [hx] at hb2
              simp only at hb2
              split at h
              · rename_i e2 xs hr
                rw [hr] at hb2
                simp only [Bool.and_eq_true] at hb2
                split at h
                · cases h; exact ⟨hy, ble_of hb2.1, ble_of hb2.2⟩
                · cases h
              · cases h
            · cases h
          · cases h
        · cases h
      · cases h
    · split at h
      · split at h
        · cases h; trivial
        · cases h
      · cases h
    · cases h
  case indexAddr t x i =>
    cases dst <;> simp only [stoR, reduceCtorEq] at h
    simp only [stoRB] at hb
    split at h
    · rename_i k st kk n h1 h2
      rw [h1, h2] at hb
      simp only at hb
      split at h
      · rename_i own e1 xs e2 hr he
        rw [hr] at hb
        simp only [Bool.and_eq_true, dle, dlt, decide_eq_true_eq] at hb
        split at h
        · cases h; exact hb
        · cases h
      · cases h
    · cases h
  case slice t x lo hi mx =>
    cases dst <;> simp only [stoR, reduceCtorEq] at h
    simp only [stoRB] at hb
    split at h
    · rename_i k st hx
      rw [hx] at hb
      simp only at hb
      split at h
      · rename_i own e1 xs hr
        rw [hr] at hb
        simp only at hb
        split at h
        · rename_i c a hs
          cases h; exact sliceP_b hs hb
        · cases h
      · cases h
    · cases h
  case convert src dty x =>
    cases dst <;> simp only [stoR, reduceCtorEq] at h
    simp only [stoRB] at hb
    split at h
    · split at h
      · cases h; trivial
      · cases h
    · rename_i k st hx
      rw [hx] at hb
      simp only at hb
      split at h
      · rename_i own e1 xs hr
        rw [hr] at hb
        simp only [Bool.or_eq_true] at hb
        split at h
        · split at h
          · cases h; trivial
          · cases h
        · rename_i hn
          split at h
          · rename_i ho
            cases h
            rcases hb with hb | hb
            · exact blt_of hb
            · obtain ⟨e2, he2, _⟩ := byteT_spec ho.2.2
              have := strT_spec hb
              rw [ho.2.1] at he2
              rw [he2] at this
              cases this
          · cases h
      · cases h
    · cases h
  case binOp op t x y yt =>
    cases dst <;> simp only [stoR, reduceCtorEq] at h
    split at h
    · split at h
      · split at h
        · split at h
          · cases h; trivial
          · cases h
        · cases h
      · cases h
    · cases h
  case makeSlice t len cap =>
    cases dst <;> simp only [stoR, reduceCtorEq] at h
    simp only [stoRB] at hb
    split at h
    · rename_i h1 h2 h3
      rw [h1, h2, h3] at hb
      simp only [Bool.and_eq_true, dle, decide_eq_true_eq] at hb
      split at h
      · split at h
        · cases h; exact ⟨hb.1.1.1, hb.1.1.2, hb.1.2, hb.2⟩
        · cases h
      · cases h
    · cases h
  case makeMap T hint =>
    cases dst <;> cases hint <;> simp only [stoR, reduceCtorEq] at h
    split at h
    · cases h; trivial
    · cases h
  case insert T m k v =>
    cases dst <;> simp only [stoR, reduceCtorEq] at h
    simp only [stoRB] at hb
    split at h
    · rename_i b st s el e1 e2 e3
      simp only [e1, e2] at hb
      split at h
      · rename_i ks vs hm
        simp only [hm] at hb
        cases h
        simpa using hb
      · cases h
    · cases h
  case lookup T m k ok =>
    cases dst <;> simp only [stoR, reduceCtorEq] at h
    repeat' split at h
    all_goals first | (cases h; trivial) | cases h
  all_goals (cases dst <;> simp only [stoR, reduceCtorEq] at h)

def stepAB (P : Program) (σ : Look) (o : Oper) : Bool :=
  match o.op, o.dst with
  | .pick x a b, some d => match (evA σ x).sv with
    | .pv (.bool q) => scB (evA σ x) && (!q || scB (evA σ a)) && (q || scB (evA σ b))
    | _ => true
  | op, dst => scAllB (op.operands.toList.map (evA σ)) && pureRB P (fun x => (evA σ x).sv) op && stoRB P σ (fun x => (evA σ x).sv) dst op
theorem scB_and {a : AV} {q : Bool} (h : (!q || scB a) = true) : a.sc (true && q) := by
  cases q
  · cases a <;> simp [AV.sc]
  · exact scB_spec (by simpa using h)
theorem scB_andn {a : AV} {q : Bool} (h : (q || scB a) = true) : a.sc (true && !q) := by
  cases q
  · exact scB_spec (by simpa using h)
  · cases a <;> simp [AV.sc]
theorem stepA_b {ops : Array Oper} {o : Oper} {e : Eff} {g : Option Bool} (h : stepA P ops σ o = some e) (hg : guardOf ops σ o = some g) (hgt : g.getD true = true) (hb : stepAB P σ o = true) : e.cond := by
  unfold stepA at h
  rw [hg] at h
  simp only [hgt] at h
  unfold stepAB at hb
  split at h
  · rename_i x a b d ho hd
    rw [ho, hd] at hb
    simp only at hb
    split at h
    · rename_i p r hp
      cases h
      unfold pickR at hp
      split at hp
      · rename_i q p0 p1 h1 h2 h3
        rw [h1] at hb
        simp only [Bool.and_eq_true] at hb
        cases hp
        exact ⟨scB_spec hb.1.1, scB_and hb.1.2, scB_andn hb.2⟩
      · cases hp
    · cases h
  · rename_i op dst hne
    split at hb
    · rename_i x a b d ho hd
      exact absurd hd (hne _ _ _ _ ho)
    · simp only [Bool.and_eq_true] at hb
      have hs := scAllB_spec (c := true) hb.1.1
      split at h
      · rename_i p r d hp hd
        cases h
        exact ⟨hs, fun _ => pureR_b hp hb.1.2⟩
      · cases h
      · rename_i dst2 hp
        split at h
        · rename_i e1 he
          have hc := stoR_b he hb.2
          cases g with
          | none => cases h; exact ⟨hs, hc⟩
          | some c =>
            simp only at h
            split at h
            · split at h
              · cases h
                simp only [Option.getD_some] at hgt
                subst hgt
                exact ⟨hs, fun _ => hc⟩
              · cases h
            · cases h
        · cases h

/-- a step, decided -/
def stepX (P : Program) (orcb : FuncId → St → Option St) (mv : FuncId → Nat → Option TypeId) (ops : Array Oper) (o : Oper) (σ : Look) : Option St :=
  match guardOf ops σ o with
  | none => none
  | some (some false) => some (skipW o.dst)
  | some g => match o.op with
    | .call ⟨.value fx, args, _⟩ => match calleeOf (evA σ fx).sv with
      | some (f, a, b) => if scAllB (evA σ fx :: args.toList.map (evA σ)) then match callIn σ (mv f) (a ++ (args.toList.map fun x => (evA σ x).sv) ++ b) with
        | some (In, w0, lk, _) => match orcb f In with
          | some Ret => match callBack (updL σ w0) lk o.dst Ret with
            | some wr' => some (gwrap σ o.dst g (wr' ++ w0))
            | none => none
          | none => none
        | none => none
        else none
      | none => none
    | _ => if stepAB P σ o then (match stepA P ops σ o with
      | some e => some e.wr
      | none => match g, stepA P ops σ (bare o) with
        | some true, some e => some e.wr
        | _, _ => none) else none
def OrcB (P : Program) (orcb : FuncId → St → Option St) : Prop := ∀ f In Ret, orcb f In = some Ret → PCalls P f In Ret
theorem stepX_spec {orcb : FuncId → St → Option St} (hO : OrcB P orcb) {mv : FuncId → Nat → Option TypeId} {ops : Array Oper} {o : Oper} {wr : St} (h : stepX P orcb mv ops o σ = some wr) : StepE P mv ops σ o wr := by
  unfold stepX at h
  split at h
  · cases h
  · rename_i hg
    cases h
    exact ⟨.inr (.inl ⟨hg, rfl⟩)⟩
  · rename_i g hgf hg
    have hgt : g.getD true = true := by
      cases g with
      | none => rfl
      | some b => cases b with
        | true => rfl
        | false => exact absurd rfl hgf
    split at h
    · rename_i fx args ts ho
      split at h
      · rename_i f a b hf
        split at h
        · rename_i hsc
          split at h
          · rename_i In w0 lk as' hin
            split at h
            · rename_i Ret horc
              split at h
              · rename_i wr' hbk
                cases h
                exact ⟨.inr (.inr (.inl ⟨fx, args, ts, g, f, a, b, In, w0, lk, as', Ret, wr', ho, hg, hf, scAllB_spec hsc, hin, fun _ => hO _ _ _ horc, hbk, rfl⟩))⟩
              · cases h
            · cases h
          · cases h
        · cases h
      · cases h
    · split at h
      · rename_i hb
        split at h
        · rename_i e he
          cases h
          exact ⟨.inl ⟨e, he, stepA_b he hg hgt hb, rfl⟩⟩
        · split at h
          · rename_i e he
            cases h
            exact ⟨.inr (.inr (.inr ⟨e, hg, he, stepA_b (o := bare o) (g := none) he rfl rfl hb, rfl⟩))⟩
          · cases h
      · cases h
end
end Go.Pw
