/- Operations whose result hangs on their operands alone: what they give on abstract values, and that the model gives the same. -/
import Derived.Test.YtgnedmmecmpnpaaGreatDoorPuA
import Derived.Laws.Entries
import Derived.Laws.Cells
import Derived.ChangeKeysEq
import Derived.Lib.Bytes2
import Derived.WalkSpells
import Derived.IntWalk
set_option linter.unusedSimpArgs false
set_option linter.unusedVariables false
set_option linter.unusedSectionVars false
namespace Go.Pw
variable [Mode]

def inR : IntKind → Int → Prop
  | .i8, n => -128 ≤ n ∧ n ≤ 127
  | .i16, n => -32768 ≤ n ∧ n ≤ 32767
  | .i32, n => -2147483648 ≤ n ∧ n ≤ 2147483647
  | .i64, n => -9223372036854775808 ≤ n ∧ n ≤ 9223372036854775807
  | .u8, n => 0 ≤ n ∧ n ≤ 255
  | .u16, n => 0 ≤ n ∧ n ≤ 65535
  | .u32, n => 0 ≤ n ∧ n ≤ 4294967295
  | .u64, n => 0 ≤ n ∧ n ≤ 18446744073709551615

theorem wrap_inR {k : IntKind} {n : Int} (h : inR k n) : k.wrap n = n := by
  cases k with
  | i8 => exact IntWalk.i8_in n h
  | i16 => exact IntWalk.i16_in n h
  | i32 => exact IntWalk.i32_in n h
  | i64 => exact IntWalk.i64_in n h
  | u8 => exact IntWalk.u8_in n h
  | u16 => exact IntWalk.u16_in n h
  | u32 => exact IntWalk.u32_in n h
  | u64 => exact IntWalk.u64_in n h

/-! The program's types, in the few words that are wanted. -/
def offT (P : Program) (s f : Nat) : Option Nat :=
  match P.underlying s with
  | some (.struct fs) => match fs[f]? with
    | some fd => if P.cellsOf fd.type = 0 then none else some fd.offset
    | none => none
  | _ => none
def fldT (P : Program) (s f : Nat) : Option TypeId :=
  match P.underlying s with
  | some (.struct fs) => (fs[f]?).map (·.type)
  | _ => none
def elemT (P : Program) (t : TypeId) : Option TypeId :=
  match P.underlying t with
  | some (.slice e) => some e
  | _ => none
def arrT (P : Program) (t : TypeId) : Option (Nat × TypeId) :=
  match P.underlying t with
  | some (.array n e) => some (n, e)
  | _ => none
def strT (P : Program) (t : TypeId) : Bool := match P.underlying t with | some .string => true | _ => false
def boolT (P : Program) (t : TypeId) : Bool := match P.underlying t with | some .bool => true | _ => false
def intT (P : Program) (t : TypeId) : Option IntKind := match P.underlying t with | some (.int k) => some k | _ => none
def ptrT (P : Program) (t : TypeId) : Bool := match P.underlying t with | some (.pointer _) => true | _ => false
def funT (P : Program) (t : TypeId) : Bool := match P.underlying t with | some (.func _ _ _) => true | _ => false
def aggT (P : Program) (t : TypeId) : Bool := match P.underlying t with | some (.struct _) => true | some (.array _ _) => true | _ => false
def hasT (P : Program) (t : TypeId) : Bool := (P.underlying t).isSome

theorem offT_spec {P : Program} {s f o : Nat} (h : offT P s f = some o) : ∃ fs fd, P.underlying s = some (.struct fs) ∧ fs[f]? = some fd ∧ P.cellsOf fd.type ≠ 0 ∧ fd.offset = o := by
  unfold offT at h
  split at h
  · rename_i fs hu
    split at h
    · rename_i fd hf
      split at h
      · cases h
      · rename_i hz
        exact ⟨fs, fd, hu, hf, hz, by simpa using h⟩
    · cases h
  · cases h
theorem fldT_spec {P : Program} {s f : Nat} {t : TypeId} (h : fldT P s f = some t) : ∃ fs fd, P.underlying s = some (.struct fs) ∧ fs[f]? = some fd ∧ fd.type = t := by
  unfold fldT at h
  split at h
  · rename_i fs hu
    cases hf : fs[f]? with
    | none => simp [hf] at h
    | some fd => exact ⟨fs, fd, hu, hf, by simpa [hf] using h⟩
  · cases h
theorem elemT_spec {P : Program} {t e : TypeId} (h : elemT P t = some e) : P.underlying t = some (.slice e) := by
  unfold elemT at h
  split at h
  · rename_i hu; simp at h; rw [hu, h]
  · cases h
theorem arrT_spec {P : Program} {t : TypeId} {n : Nat} {e : TypeId} (h : arrT P t = some (n, e)) : P.underlying t = some (.array n e) := by
  unfold arrT at h
  split at h
  · rename_i hu; simp at h; rw [hu, h.1, h.2]
  · cases h
theorem strT_spec {P : Program} {t : TypeId} (h : strT P t = true) : P.underlying t = some .string := by
  unfold strT at h
  split at h
  · rename_i hu; exact hu
  · cases h
theorem boolT_spec {P : Program} {t : TypeId} (h : boolT P t = true) : P.underlying t = some .bool := by
  unfold boolT at h
  split at h
  · rename_i hu; exact hu
  · cases h
theorem intT_spec {P : Program} {t : TypeId} {k : IntKind} (h : intT P t = some k) : P.underlying t = some (.int k) := by
  unfold intT at h
  split at h
  · rename_i hu; simp at h; rw [hu, h]
  · cases h
theorem ptrT_spec {P : Program} {t : TypeId} (h : ptrT P t = true) : ∃ e, P.underlying t = some (.pointer e) := by
  unfold ptrT at h
  split at h
  · rename_i e hu; exact ⟨e, hu⟩
  · cases h
theorem funT_spec {P : Program} {t : TypeId} (h : funT P t = true) : ∃ a b c, P.underlying t = some (.func a b c) := by
  unfold funT at h
  split at h
  · rename_i a b c hu; exact ⟨a, b, c, hu⟩
  · cases h
theorem info_of_cells {P : Program} {t : TypeId} (h : P.cellsOf t ≠ 0) : ∃ i, P.info? t = some i ∧ i.size = P.cellsOf t := by
  unfold Program.cellsOf at h ⊢
  cases hi : P.info? t with
  | none => simp [hi] at h
  | some i => exact ⟨i, rfl, by simp⟩
theorem info_of_underlying {P : Program} {t : TypeId} {d : TypeDesc} (h : P.underlying t = some d) : ∃ i, P.info? t = some i ∧ i.size = P.cellsOf t := by
  unfold Program.cellsOf
  unfold Program.underlying at h
  cases hi : P.info? t with
  | none => simp [hi] at h
  | some i => exact ⟨i, rfl, by simp⟩

/-! Constants. -/
def cAV0 : Value → AV
  | .bool b => .pv (.bool b)
  | .int k n => .pv (.int k n)
  | .string s => .pv (.str s.data.toList)
  | .slice none 0 0 => .emp
  | .agg _ => .undef
  | .tuple _ => .undef
  | v => .pv (.raw v)
def cAV : Value → AV
  | .bool b => .pv (.bool b)
  | .int k n => .pv (.int k n)
  | .string s => .pv (.str s.data.toList)
  | .slice none 0 0 => .emp
  | .agg cs => .agg (cs.toList.map cAV0)
  | .tuple _ => .undef
  | v => .pv (.raw v)

theorem cAV0_rep (h : View) (E : Env) (σ : Look) (v : Value) : (cAV0 v).rep h E σ v := by
  cases v <;> first
    | simp [cAV0, AV.rep, PV.rep, Value.oneCell']; done
    | (unfold cAV0; split <;> simp_all [AV.rep, PV.rep, Value.oneCell'])
theorem cAV0_repL (h : View) (E : Env) (σ : Look) : ∀ l : List Value, AV.repL h E σ (l.map cAV0) l
  | [] => by simp [AV.repL]
  | v :: l => by
    simp only [List.map_cons, AV.repL]
    exact ⟨v, l, rfl, cAV0_rep h E σ v, cAV0_repL h E σ l⟩
theorem cAV_rep (h : View) (E : Env) (σ : Look) (v : Value) : (cAV v).rep h E σ v := by
  cases v
  case agg cs =>
    simp only [cAV, AV.rep]
    exact ⟨cs.toList, rfl, cAV0_repL h E σ cs.toList⟩
  all_goals first
    | simp [cAV, AV.rep, PV.rep, Value.oneCell']; done
    | (unfold cAV; split <;> simp_all [AV.rep, PV.rep, Value.oneCell'])

def evA (σ : Look) : Operand → AV
  | .tmp t => (σ (.S t)).slot
  | .const v => cAV v
  | .func f => .pv (.raw (.func (.func f) #[] #[]))
  | .global _ => .undef

def AV.sc (c : Bool) : AV → Prop
  | .when b _ => c = true → b = true
  | _ => True
def AV.sv : AV → AV
  | .when _ v => v
  | v => v

theorem AV.strip {h : View} {E : Env} {σ : Look} {a : AV} {v : Value} {c : Bool} (hr : a.rep h E σ v) (hs : a.sc c) (hc : c = true) : a.sv.rep h E σ v := by
  cases a <;> simp only [AV.sv] <;> try exact hr
  simp only [AV.rep] at hr
  exact hr.1 (hs hc)

/-! The pure operations. -/
abbrev Res := Option (Prop × AV)

def binInt (op : BinOp) (k : IntKind) (a b : Int) : Res :=
  match op with
  | .add => some (inR k (a + b), .pv (.int k (a + b)))
  | .sub => some (inR k (a - b), .pv (.int k (a - b)))
  | .mul => some (inR k (a * b), .pv (.int k (a * b)))
  | .quo => some (0 ≤ a ∧ 0 < b ∧ inR k a, .pv (.int k (a / b)))
  | .rem => some (0 ≤ a ∧ 0 < b, .pv (.int k (a % b)))
  | .eql => some (True, .pv (.bool (a == b)))
  | .neq => some (True, .pv (.bool (a != b)))
  | .lss => some (True, .pv (.bool (decide (a < b))))
  | .leq => some (True, .pv (.bool (decide (a ≤ b))))
  | .gtr => some (True, .pv (.bool (decide (b < a))))
  | .geq => some (True, .pv (.bool (decide (b ≤ a))))
  | .and => some (0 ≤ a ∧ 0 ≤ b ∧ inR k a ∧ inR k b, .pv (.int k ((a.toNat &&& b.toNat : Nat) : Int)))
  | .or => some (0 ≤ a ∧ 0 ≤ b ∧ inR k a ∧ inR k b, .pv (.int k ((a.toNat ||| b.toNat : Nat) : Int)))
  | .xor => some (0 ≤ a ∧ 0 ≤ b ∧ inR k a ∧ inR k b, .pv (.int k ((a.toNat ^^^ b.toNat : Nat) : Int)))
  | _ => none

def binShift (op : BinOp) (k : IntKind) (a b : Int) : Res :=
  match op with
  | .shl => some (0 ≤ b ∧ b < (k.bits : Int), .pv (.int k (k.wrap (a * 2 ^ b.toNat))))
  | .shr => some (0 ≤ b ∧ b < (k.bits : Int) ∧ 0 ≤ a, .pv (.int k (a / 2 ^ b.toNat)))
  | _ => none

def binStr (op : BinOp) (a b : List UInt8) : Res :=
  match op with
  | .add => some (a.length + b.length ≤ 9223372036854775807, .pv (.str (a ++ b)))
  | .eql => some (True, .pv (.bool (a == b)))
  | .neq => some (True, .pv (.bool (!(a == b))))
  | .lss => some (True, .pv (.bool (Op.bytesLess a b)))
  | .leq => some (True, .pv (.bool (Op.bytesLess a b || a == b)))
  | .gtr => some (True, .pv (.bool (!(Op.bytesLess a b || a == b))))
  | .geq => some (True, .pv (.bool (!Op.bytesLess a b)))
  | _ => none

def binBool (P : Program) (op : BinOp) (t : TypeId) (a b : Bool) : Res :=
  match op with
  | .eql => if boolT P t then some (True, .pv (.bool (a == b))) else none
  | .neq => if boolT P t then some (True, .pv (.bool (!(a == b)))) else none
  | _ => none

/-- nil against what is not nil, either way round -/
def nilRes (op : BinOp) (eq : Bool) : Res :=
  match op with
  | .eql => some (True, .pv (.bool eq))
  | .neq => some (True, .pv (.bool (!eq)))
  | _ => none

def isShift : BinOp → Bool
  | .shl | .shr => true
  | _ => false

def binP (P : Program) (op : BinOp) (t : TypeId) (x y : AV) : Res :=
  match x, y with
  | .pv (.int k a), .pv (.int k' b) => if isShift op then binShift op k a b else if k = k' then binInt op k a b else none
  | .pv (.str a), .pv (.str b) => binStr op a b
  | .pv (.bool a), .pv (.bool b) => binBool P op t a b
  | .pv (.pp _), .pv (.raw (.pointer none)) | .ptr _ _ _, .pv (.raw (.pointer none)) => if ptrT P t then nilRes op false else none
  | .pv (.raw (.pointer none)), .pv (.pp _) | .pv (.raw (.pointer none)), .ptr _ _ _ => if ptrT P t then nilRes op false else none
  | .pv (.raw (.pointer none)), .pv (.raw (.pointer none)) => if ptrT P t then nilRes op true else none
  | .clo _ _ _, .pv (.raw .nilFunc) => if funT P t then nilRes op false else none
  | .pv (.raw (.func _ _ _)), .pv (.raw .nilFunc) => if funT P t then nilRes op false else none
  | .pv (.raw .nilFunc), .pv (.raw .nilFunc) => if funT P t then nilRes op true else none
  | _, _ => none

def unP (op : UnOp) (x : AV) : Res :=
  match op, x with
  | .not, .pv (.bool b) => some (True, .pv (.bool (!b)))
  | .neg, .pv (.int k n) => some (inR k (-n), .pv (.int k (-n)))
  | _, _ => none

def convP (P : Program) (dst : TypeId) (x : AV) : Res :=
  match x with
  | .pv (.int _ n) => match intT P dst with
    | some k => some (inR k n, .pv (.int k n))
    | none => none
  | .pv (.str l) => if strT P dst then some (True, .pv (.str l)) else none
  | _ => none

/-- bytes in a row -/
def byteT (P : Program) (t : TypeId) : Bool := match elemT P t with
  | some e => match intT P e with
    | some .u8 => true
    | _ => false
  | none => false
def byteRow : List (List PV) → Option (List UInt8)
  | [] => some []
  | [.int .u8 n] :: l => (byteRow l).map (UInt8.ofNat n.toNat :: ·)
  | _ => none
def convX (P : Program) (src dst : TypeId) (x : AV) : Res :=
  match x with
  | .pv (.sl xs) => if byteT P src = true ∧ strT P dst = true then (match byteRow xs with
    | some l => some (True, .pv (.str l))
    | none => none) else none
  | .emp => if byteT P src = true ∧ strT P dst = true then some (True, .pv (.str [])) else none
  | x => if hasT P src then convP P dst x else none
/-- a slice against nil -/
def isNilV : Value → Bool
  | .slice none 0 0 => true
  | _ => false
def isNilC : Operand → Bool
  | .const v => isNilV v
  | _ => false
def anyRes (op : BinOp) : Res :=
  match op with
  | .eql => some (True, .pv .anyb)
  | .neq => some (True, .pv .anyb)
  | _ => none
def nilCmp (P : Program) (op : BinOp) (t : TypeId) (x : AV) : Res :=
  if (elemT P t).isSome then match x with
    | .pv (.sl []) => anyRes op
    | .pv (.sl (_ :: _)) => nilRes op false
    | .emp => anyRes op
    | _ => none
  else none
def isNilI : Operand → Bool
  | .const .nilIface => true
  | _ => false
def ifaceT (P : Program) (t : TypeId) : Bool :=
  match P.underlying t with
  | some (.interface _) => true
  | _ => false
/-- an interface's value against nil -/
def nilI (P : Program) (op : BinOp) (t : TypeId) (x : AV) : Res :=
  match x with
  | .pv (.raw .nilIface) => if ifaceT P t then nilRes op true else none
  | _ => none
def idx? : Option AV → Option (Option Int)
  | none => some none
  | some (.pv (.int _ n)) => some (some n)
  | _ => none

def sliceP (P : Program) (t : TypeId) (x : AV) (lo hi mx : Option AV) : Res :=
  match x, idx? lo, idx? hi, mx with
  | .pv (.str l), some lo, some hi, none =>
    if strT P t then
      let h := hi.getD (l.length : Int)
      let b := lo.getD 0
      some (0 ≤ b ∧ b ≤ h ∧ h ≤ (l.length : Int), .pv (.str ((l.take h.toNat).drop b.toNat)))
    else none
  | .pv (.sl xs), some lo, some hi, none =>
    match elemT P t with
    | some e =>
      let h := hi.getD (xs.length : Int)
      let b := lo.getD 0
      some (0 ≤ b ∧ b ≤ h ∧ h ≤ (xs.length : Int) ∧ P.cellsOf e ≠ 0 ∧ (∀ x ∈ xs, x.length = P.cellsOf e), .pv (.sl ((xs.take h.toNat).drop b.toNat)))
    | none => none
  | _, _, _, _ => none

def splice (cells : List AV) (k : Nat) : List AV → List AV
  | [] => cells
  | a :: as => splice (cells.set k a) (k + 1) as

def AV.cells : AV → List AV
  | .agg cs => cs
  | a => [a]

def AV.isCell : AV → Bool
  | .pv _ | .emp | .ptr .. | .rf .. | .rptr .. | .clo .. => true
  | _ => false

def AV.okPart : AV → Bool
  | .agg _ => true
  | a => a.isCell

def fillA (P : Program) (t : TypeId) (cells : List AV) : List (Nat × AV) → Option (List AV)
  | [] => some cells
  | (i, v) :: rest =>
    match offT P t i, fldT P t i with
    | some off, some ft => if v.okPart = true ∧ v.cells.length = P.cellsOf ft ∧ off + v.cells.length ≤ cells.length then fillA P t (splice cells off v.cells) rest else none
    | _, _ => none

def zeroA (P : Program) (t : TypeId) : Option (List AV) :=
  match P.info? t with
  | some i => i.zero.map fun z => z.cells.toList.map cAV
  | none => none

/-- a struct type, all of whose fields' types are known -/
def stT (P : Program) (t : TypeId) : Bool := match P.underlying t with | some (.struct fs) => fs.toList.all (fun f => (P.info? f.type).isSome) | _ => false

def buildP (P : Program) (t : TypeId) (parts : List (Nat × AV)) : Res :=
  match zeroA P t with
  | some z => match fillA P t z parts with
    | some cs => if stT P t then some (True, .agg cs) else none
    | none => none
  | none => none

def partA (P : Program) (t : TypeId) (cs : List AV) (off : Nat) : Option AV :=
  if aggT P t then (if off + P.cellsOf t ≤ cs.length then some (.agg ((cs.drop off).take (P.cellsOf t))) else none)
  else if hasT P t then cs[off]? else none

/-- cells of memory that stays, as an abstract value of a type -/
def cellsA (P : Program) (t : TypeId) (cs : List PV) : Option AV :=
  if aggT P t then (if P.cellsOf t ≤ cs.length then some (.agg ((cs.take (P.cellsOf t)).map .pv)) else none)
  else if hasT P t then (cs.head?).map .pv else none

end Go.Pw
namespace Go.Pw
variable [Mode]
set_option linter.unusedSimpArgs false
set_option linter.unusedVariables false
set_option linter.unusedSectionVars false

def binArgs (ρ : Operand → AV) (b : Builtin) (args : List Operand) (ts : List TypeId) (P : Program) : Res :=
  match b, args, ts with
  | .len, [x], [t] => match ρ x with
    | .pv (.str l) => if strT P t then some (True, .pv (.int .i64 (l.length : Int))) else none
    | .pv (.sl xs) => if (elemT P t).isSome then some (True, .pv (.int .i64 (xs.length : Int))) else none
    | .emp => if (elemT P t).isSome then some (True, .pv (.int .i64 0)) else none
    | _ => none
  | .min, [x, y], _ => match ρ x, ρ y with
    | .pv (.int k a), .pv (.int k' b) => if k = k' then some (True, .pv (.int k (min a b))) else none
    | _, _ => none
  | .max, [x, y], _ => match ρ x, ρ y with
    | .pv (.int k a), .pv (.int k' b) => if k = k' then some (True, .pv (.int k (max a b))) else none
    | _, _ => none
  | _, _, _ => none

/-- a struct type whose values are compared field by field -/
def eqT (P : Program) (t : TypeId) : Option (List (Nat × TypeId)) :=
  match P.underlying t with
  | some (.struct fs) => if P.stoodInHeld t = false ∧ P.eqGuardType P.depth t = false ∧ (fs.toList.all fun f => f.name != "_") = true then some (fs.toList.map fun f => (f.offset, f.type)) else none
  | _ => none

def scEq (P : Program) (t : TypeId) (x y : AV) : Option Bool :=
  match x, y with
  | .pv (.int k a), .pv (.int k' b) => if (intT P t).isSome = true ∧ k = k' then some (a == b) else none
  | .pv (.str a), .pv (.str b) => if strT P t = true then some (a == b) else none
  | .pv (.bool a), .pv (.bool b) => if boolT P t = true then some (a == b) else none
  | _, _ => none

def eqP (P : Program) (as bs : List AV) : List (Nat × TypeId) → Option Bool
  | [] => some true
  | (o, t) :: l => match as[o]?, bs[o]? with
    | some a, some b => match scEq P t a b, eqP P as bs l with
      | some r, some s => some (r && s)
      | _, _ => none
    | _, _ => none

def binA (P : Program) (op : BinOp) (t : TypeId) (x y : AV) : Res :=
  match x, y with
  | .agg as, .agg bs => match eqT P t with
    | some fs => match eqP P as bs fs with
      | some b => nilRes op b
      | none => none
    | none => none
  | x, y => binP P op t x y

def pureR (P : Program) (ρ : Operand → AV) : Op → Res
  | .move x => some (True, ρ x)
  | .assign x => match ρ x with
    | .rf _ _ => none
    | .agg _ => none
    | a => some (True, a)
  | .nilCheck x => match ρ x with
    | .ptr d off st => some (True, .ptr d off st)
    | .rptr k st i s off => some (True, .rptr k st i s off)
    | .pv (.pp cs) => some (True, .pv (.pp cs))
    | _ => none
  | .binOp op t x y _ => if isNilC y then nilCmp P op t (ρ x) else if isNilI y then nilI P op t (ρ x) else binA P op t (ρ x) (ρ y)
  | .unOp op _ x => unP op (ρ x)
  | .convert src dst x => convX P src dst (ρ x)
  | .slice t x lo hi mx => sliceP P t (ρ x) (lo.map ρ) (hi.map ρ) (mx.map ρ)
  | .fieldAddr T x f => match offT P T f, ρ x with
    | some o, .ptr d off st => some (True, .ptr d (off + o) st)
    | some o, .rptr k st i s off => some (True, .rptr k st i s (off + o))
    | some o, .pv (.pp cs) => some (True, .pv (.pp (cs.drop o)))
    | _, _ => none
  | .field T x f => match offT P T f, fldT P T f, ρ x with
    | some o, some ft, .agg cs => (partA P ft cs o).map fun a => (True, a)
    | _, _, _ => none
  | .indexAddr t x i => match ρ x, ρ i with
    | .pv (.sl xs), .pv (.int _ n) => match elemT P t with
      | some e => some (0 ≤ n ∧ n < (xs.length : Int) ∧ (xs.getD n.toNat []).length = P.cellsOf e ∧ P.cellsOf e ≠ 0, .pv (.pp (xs.getD n.toNat [])))
      | none => none
    | .ptr d off st, .pv (.int _ n) => match arrT P t with
      | some (len, e) => some (0 ≤ n ∧ n < (len : Int) ∧ P.cellsOf e ≠ 0, .ptr d (off + n.toNat * P.cellsOf e) st)
      | none => none
    | .pv (.pp cs), .pv (.int _ n) => match arrT P t with
      | some (len, e) => some (0 ≤ n ∧ n < (len : Int) ∧ P.cellsOf e ≠ 0, .pv (.pp (cs.drop (n.toNat * P.cellsOf e))))
      | none => none
    | _, _ => none
  | .index t x i => match ρ x, ρ i with
    | .pv (.str l), .pv (.int _ n) => if strT P t then some (0 ≤ n ∧ n < (l.length : Int), .pv (.int .u8 ((l.getD n.toNat 0).toNat : Int))) else none
    | .agg cs, .pv (.int _ n) => match arrT P t with
      | some (len, e) => (partA P e cs (n.toNat * P.cellsOf e)).map fun a => (0 ≤ n ∧ n < (len : Int) ∧ P.cellsOf e ≠ 0, a)
      | none => none
    | _, _ => none
  | .build t parts => buildP P t (parts.toList.map fun (i, x) => (i, ρ x))
  | .extract x i => match ρ x with
    | .tup vs => (vs[i]?).map fun a => (True, a)
    | _ => none
  | .load t x => match ρ x with
    | .pv (.pp cs) => (cellsA P t cs).map fun a => (True, a)
    | _ => none
  | .call c => match c.callee with
    | .builtin b => binArgs ρ b c.args.toList c.argTypes.toList P
    | _ => none
  | .makeFunc fn first caps => some (True, .clo fn (first.toList.map ρ) (caps.toList.map ρ))
  | _ => none

section
variable {P : Program} {ρ : Operand → AV} {ev : Operand → Value} {E : Env} {σ : Look} {w : World} {ow : Ow}

/-- what an operation does when it just gives a value -/
def Gives (P : Program) (ev : Operand → Value) (E : Env) (σ : Look) (w : World) (ow : Ow) (o : Oper) (a : AV) : Prop :=
  ∃ v, (execOp ev o).run P w = .ok (.value v) w ∧ a.rep (view w ow) E σ v

theorem binInt_sound {op : BinOp} {k : IntKind} {a b : Int} {c : Prop} {r : AV} (h : binInt op k a b = some (c, r)) (hc : c) (t : TypeId) :
    ∃ v, (binOp op t (.int k a) (.int k b)).run P w = .ok v w ∧ r.rep (view w ow) E σ v := by
  have bits : ∀ x y : Int, 0 ≤ x → 0 ≤ y → inR k x → inR k y →
      ((BitVec.ofInt k.bits x).toNat = x.toNat ∧ (BitVec.ofInt k.bits y).toNat = y.toNat) ∧
      inR k ((x.toNat &&& y.toNat : Nat) : Int) ∧ inR k ((x.toNat ||| y.toNat : Nat) : Int) ∧ inR k ((x.toNat ^^^ y.toNat : Nat) : Int) := by
    intro x y hx hy h1 h2
    have hn : ∃ m, x.toNat < 2 ^ m ∧ y.toNat < 2 ^ m ∧ m ≤ k.bits ∧ (∀ q : Nat, q < 2 ^ m → inR k (q : Int)) := by
      cases k <;> simp only [inR] at h1 h2 ⊢ <;> first
        | exact ⟨7, by omega, by omega, by decide, fun q hq => by omega⟩
        | exact ⟨15, by omega, by omega, by decide, fun q hq => by omega⟩
        | exact ⟨31, by omega, by omega, by decide, fun q hq => by omega⟩
        | exact ⟨63, by omega, by omega, by decide, fun q hq => by omega⟩
        | exact ⟨8, by omega, by omega, by decide, fun q hq => by omega⟩
        | exact ⟨16, by omega, by omega, by decide, fun q hq => by omega⟩
        | exact ⟨32, by omega, by omega, by decide, fun q hq => by omega⟩
        | exact ⟨64, by omega, by omega, by decide, fun q hq => by omega⟩
    obtain ⟨m, hxm, hym, hm, hq⟩ := hn
    have hle : 2 ^ m ≤ 2 ^ k.bits := Nat.pow_le_pow_right (by omega) hm
    have red : ∀ z : Int, 0 ≤ z → z.toNat < 2 ^ m → (BitVec.ofInt k.bits z).toNat = z.toNat := by
      intro z hz hzm
      obtain ⟨n, rfl⟩ := Int.eq_ofNat_of_zero_le hz
      simp only [Int.toNat_natCast] at hzm ⊢
      rw [BitVec.ofInt_natCast, BitVec.toNat_ofNat, Nat.mod_eq_of_lt (by omega)]
    exact ⟨⟨red x hx hxm, red y hy hym⟩, hq _ (Nat.lt_of_le_of_lt Nat.and_le_left hxm), hq _ (Nat.or_lt_two_pow hxm hym), hq _ (Nat.xor_lt_two_pow hxm hym)⟩
  cases op <;> simp only [binInt, Option.some.injEq, Prod.mk.injEq, reduceCtorEq] at h <;> obtain ⟨rfl, rfl⟩ := h <;>
    simp only [binOp, ne_eq, not_true_eq_false, if_false, Op.intArith, Op.intDiv, Op.intCmp, Op.intBits, Sem.run_pure, Sem.run_ite, Result.ok.injEq, and_true, exists_eq_left', AV.rep, PV.rep]
  · rw [wrap_inR hc]
  · rw [wrap_inR hc]
  · rw [wrap_inR hc]
  · rw [if_neg (by omega)]
    simp only [Result.ok.injEq, and_true, exists_eq_left', PV.rep]
    have e : a.tdiv b = a / b := by rw [Int.tdiv_eq_ediv_of_nonneg hc.1]
    rw [e, wrap_inR]
    have h1 : 0 ≤ a / b := Int.ediv_nonneg hc.1 (by omega)
    have h2 : a / b ≤ a := Int.ediv_le_self b hc.1
    have := hc.2.2
    cases k <;> simp only [inR] at this ⊢ <;> omega
  · rw [if_neg (by omega)]
    simp only [Result.ok.injEq, and_true, exists_eq_left', PV.rep]
    rw [Int.tmod_eq_emod_of_nonneg hc.1]
  · obtain ⟨⟨e1, e2⟩, r1, r2, r3⟩ := bits a b hc.1 hc.2.1 hc.2.2.1 hc.2.2.2
    rw [BitVec.toNat_and, e1, e2, wrap_inR r1]
  · obtain ⟨⟨e1, e2⟩, r1, r2, r3⟩ := bits a b hc.1 hc.2.1 hc.2.2.1 hc.2.2.2
    rw [BitVec.toNat_or, e1, e2, wrap_inR r2]
  · obtain ⟨⟨e1, e2⟩, r1, r2, r3⟩ := bits a b hc.1 hc.2.1 hc.2.2.1 hc.2.2.2
    rw [BitVec.toNat_xor, e1, e2, wrap_inR r3]
  all_goals simp

theorem binShift_sound {op : BinOp} {k k' : IntKind} {a b : Int} {c : Prop} {r : AV} (h : binShift op k a b = some (c, r)) (hc : c) (t : TypeId) :
    ∃ v, (binOp op t (.int k a) (.int k' b)).run P w = .ok v w ∧ r.rep (view w ow) E σ v := by
  cases op <;> simp only [binShift, Option.some.injEq, Prod.mk.injEq, reduceCtorEq] at h <;> obtain ⟨rfl, rfl⟩ := h <;>
    simp only [binOp, Op.shift, Sem.run_pure, Sem.run_ite] <;> rw [if_neg (by omega)] <;>
    simp only [Result.ok.injEq, and_true, exists_eq_left', AV.rep, PV.rep]
  · have e : min b.toNat k.bits = b.toNat := by omega
    rw [e]
  · have e : min b.toNat k.bits = b.toNat := by omega
    rw [e, Int.fdiv_eq_ediv_of_nonneg _ (by exact Int.le_of_lt (Int.pow_pos (by omega)))]

theorem binStr_sound {op : BinOp} {a b : List UInt8} {c : Prop} {r : AV} (h : binStr op a b = some (c, r)) (hc : c) (t : TypeId) :
    ∃ v, (binOp op t (.string ⟨a.toArray⟩) (.string ⟨b.toArray⟩)).run P w = .ok v w ∧ r.rep (view w ow) E σ v := by
  have ea : ∀ l : List UInt8, (⟨l.toArray⟩ : ByteArray).toList = l := fun l => by rw [Lib.toList_data]
  cases op <;> simp only [binStr, Option.some.injEq, Prod.mk.injEq, reduceCtorEq] at h <;> obtain ⟨rfl, rfl⟩ := h <;>
    simp only [binOp, Op.stringOp, Sem.run_pure, Sem.run_ite, ea, Result.ok.injEq, and_true, exists_eq_left', AV.rep, PV.rep]
  · have e1 : (⟨a.toArray⟩ : ByteArray).size = a.length := rfl
    have e2 : (⟨b.toArray⟩ : ByteArray).size = b.length := rfl
    rw [e1, e2, if_neg (by simp [IntKind.max, IntKind.signed, IntKind.bits]; omega)]
    simp only [Result.ok.injEq, and_true, exists_eq_left', PV.rep]
    congr 1

theorem repCs_get {h : View} {b : Nat} : ∀ {ps : List PV} {o i : Nat} {p : PV}, PV.repCs h b o ps → ps[i]? = some p → ∃ v, h b (o + i) = some v ∧ p.rep h v
  | [], o, i, p, _, e => by simp at e
  | q :: qs, o, 0, p, hr, e => by
    simp only [PV.repCs] at hr
    simp at e
    subst e
    exact hr.1
  | q :: qs, o, i + 1, p, hr, e => by
    simp only [PV.repCs] at hr
    have := repCs_get (o := o + 1) (i := i) hr.2 (by simpa using e)
    rwa [show o + 1 + i = o + (i + 1) by omega] at this
theorem repCs_drop {h : View} {b : Nat} : ∀ {ps : List PV} {o : Nat} (n : Nat), PV.repCs h b o ps → PV.repCs h b (o + n) (ps.drop n)
  | ps, o, 0, hr => by simpa using hr
  | [], o, n + 1, _ => by simp [PV.repCs]
  | q :: qs, o, n + 1, hr => by
    simp only [PV.repCs] at hr
    have := repCs_drop (o := o + 1) n hr.2
    simpa [show o + 1 + n = o + (n + 1) by omega] using this
theorem repEs_get {h : View} {b s : Nat} : ∀ {xs : List (List PV)} {o i : Nat} {x : List PV}, PV.repEs h b o s xs → xs[i]? = some x → x.length = s ∧ PV.repCs h b (o + i * s) x
  | [], o, i, x, _, e => by simp at e
  | q :: qs, o, 0, x, hr, e => by
    simp only [PV.repEs] at hr
    simp at e
    subst e
    exact ⟨hr.1, by simpa using hr.2.1⟩
  | q :: qs, o, i + 1, x, hr, e => by
    simp only [PV.repEs] at hr
    have := repEs_get (o := o + s) (i := i) hr.2.2 (by simpa using e)
    rwa [show o + s + i * s = o + (i + 1) * s by rw [Nat.add_mul]; omega] at this
theorem repEs_drop {h : View} {b s : Nat} : ∀ {xs : List (List PV)} {o : Nat} (n : Nat), PV.repEs h b o s xs → PV.repEs h b (o + n * s) s (xs.drop n)
  | xs, o, 0, hr => by simpa using hr
  | [], o, n + 1, _ => by simp [PV.repEs]
  | q :: qs, o, n + 1, hr => by
    simp only [PV.repEs] at hr
    have := repEs_drop (o := o + s) n hr.2.2
    simpa [show o + s + n * s = o + (n + 1) * s by rw [Nat.add_mul]; omega] using this
theorem repEs_take {h : View} {b s : Nat} : ∀ {xs : List (List PV)} {o : Nat} (n : Nat), PV.repEs h b o s xs → PV.repEs h b o s (xs.take n)
  | xs, o, 0, hr => by simp [PV.repEs]
  | [], o, n + 1, _ => by simp [PV.repEs]
  | q :: qs, o, n + 1, hr => by
    simp only [PV.repEs, List.take_succ_cons] at hr ⊢
    exact ⟨hr.1, hr.2.1, repEs_take n hr.2.2⟩
theorem repEs_len {h : View} {b s : Nat} : ∀ {xs : List (List PV)} {o : Nat}, PV.repEs h b o s xs → ∀ x ∈ xs, x.length = s
  | [], o, _, x, hx => by simp at hx
  | q :: qs, o, hr, x, hx => by
    simp only [PV.repEs] at hr
    cases List.mem_cons.1 hx with
    | inl e => subst e; exact hr.1
    | inr e => exact repEs_len hr.2.2 x e

theorem repL_iff {h : View} : ∀ {cs : List AV} {l : List Value}, AV.repL h E σ cs l ↔ cs.length = l.length ∧ ∀ (i : Nat) (a : AV) (v : Value), cs[i]? = some a → l[i]? = some v → a.rep h E σ v
  | [], l => by
    simp only [AV.repL]
    constructor
    · rintro rfl; simp
    · intro hh; exact List.eq_nil_of_length_eq_zero (by simpa using hh.1.symm)
  | c :: cs, l => by
    simp only [AV.repL]
    constructor
    · rintro ⟨v, vs, rfl, h1, h2⟩
      have h3 := repL_iff.1 h2
      refine ⟨by simp [h3.1], fun i a u ha hu => ?_⟩
      cases i with
      | zero => simp at ha hu; subst ha hu; exact h1
      | succ i => exact h3.2 i a u (by simpa using ha) (by simpa using hu)
    · rintro ⟨h1, h2⟩
      cases l with
      | nil => simp at h1
      | cons v vs => exact ⟨v, vs, rfl, h2 0 c v (by simp) (by simp), repL_iff.2 ⟨by simpa using h1, fun i a u ha hu => h2 (i + 1) a u (by simpa using ha) (by simpa using hu)⟩⟩

theorem PV.one {h : View} {p : PV} {v : Value} (hr : p.rep h v) : v.oneCell' = true := by
  cases p <;> simp only [PV.rep] at hr
  case raw u => rw [hr.1]; exact hr.2
  case bool => subst hr; rfl
  case int => subst hr; rfl
  case str => subst hr; rfl
  case anyb => obtain ⟨b, rfl⟩ := hr; rfl
  case pp => obtain ⟨b, o, rfl, _⟩ := hr; rfl
  case sl => obtain ⟨a, n, c, rfl, _⟩ := hr; rfl

theorem cell_ok {h : View} {a : AV} {v : Value} (hc : a.isCell = true) (hr : a.rep h E σ v) : v.oneCell' = true := by
  cases a <;> simp only [AV.isCell, Bool.false_eq_true] at hc <;> simp only [AV.rep] at hr
  case pv p =>
    exact PV.one hr
  case emp => obtain ⟨a, rfl⟩ := hr; rfl
  case ptr => obtain ⟨a, rfl, _⟩ := hr; rfl
  case rf => obtain ⟨⟨a, n, c, rfl⟩, _⟩ := hr; rfl
  case rptr => obtain ⟨a, rfl, _⟩ := hr; rfl
  case clo => obtain ⟨a, b, rfl, _⟩ := hr; rfl

theorem cells_one {v : Value} (h : v.oneCell' = true) : v.cells = #[v] := by
  cases v <;> first | rfl | simp [Value.oneCell'] at h

/-- the cells of a value as the model has them -/
theorem cells_rep {h : View} {a : AV} {v : Value} (hc : a.okPart = true) (hr : a.rep h E σ v) : AV.repL h E σ a.cells v.cells.toList := by
  cases a with
  | agg cs =>
    simp only [AV.rep] at hr
    obtain ⟨l, rfl, hl⟩ := hr
    exact hl
  | _ => 
    have h1 := cell_ok (σ := σ) (E := E) (by exact hc) hr
    rw [cells_one h1]
    exact ⟨v, [], rfl, hr, rfl⟩

end
end Go.Pw
