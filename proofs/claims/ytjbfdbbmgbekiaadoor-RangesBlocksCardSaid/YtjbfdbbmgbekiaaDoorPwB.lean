/- Operations whose result hangs on their operands alone: what they give on abstract values, and that the model gives the same. -/
import Derived.Test.YtjbfdbbmgbekiaaDoorPwA
import Derived.Laws.Entries
import Derived.Laws.Cells
import Derived.ChangeKeysEq
import Derived.Lib.Bytes2
import Derived.WalkSpells
import Derived.IntWalk
set_option linter.unusedSimpArgs false
set_option linter.unusedVariables false
set_option linter.unusedSectionVars false
namespace Go.Pw
variable [Mode]

def inR : IntKind → Int → Prop
  | .i8, n => -128 ≤ n ∧ n ≤ 127
  | .i16, n => -32768 ≤ n ∧ n ≤ 32767
  | .i32, n => -2147483648 ≤ n ∧ n ≤ 2147483647
  | .i64, n => -9223372036854775808 ≤ n ∧ n ≤ 9223372036854775807
  | .u8, n => 0 ≤ n ∧ n ≤ 255
  | .u16, n => 0 ≤ n ∧ n ≤ 65535
  | .u32, n => 0 ≤ n ∧ n ≤ 4294967295
  | .u64, n => 0 ≤ n ∧ n ≤ 18446744073709551615

theorem wrap_inR {k : IntKind} {n : Int} (h : inR k n) : k.wrap n = n := by
  cases k with
  | i8 => exact IntWalk.i8_in n h
  | i16 => exact IntWalk.i16_in n h
  | i32 => exact IntWalk.i32_in n h
  | i64 => exact IntWalk.i64_in n h
  | u8 => exact IntWalk.u8_in n h
  | u16 => exact IntWalk.u16_in n h
  | u32 => exact IntWalk.u32_in n h
  | u64 => exact IntWalk.u64_in n h

/-! The program's types, in the few words that are wanted. -/
def offT (P : Program) (s f : Nat) : Option Nat :=
  match P.underlying s with
  | some (.struct fs) => match fs[f]? with
    | some fd => if P.cellsOf fd.type = 0 then none else some fd.offset
    | none => none
  | _ => none
def fldT (P : Program) (s f : Nat) : Option TypeId :=
  match P.underlying s with
  | some (.struct fs) => (fs[f]?).map (·.type)
  | _ => none
def elemT (P : Program) (t : TypeId) : Option TypeId :=
  match P.underlying t with
  | some (.slice e) => some e
  | _ => none
def arrT (P : Program) (t : TypeId) : Option (Nat × TypeId) :=
  match P.underlying t with
  | some (.array n e) => some (n, e)
  | _ => none
def strT (P : Program) (t : TypeId) : Bool := match P.underlying t with | some .string => true | _ => false
def boolT (P : Program) (t : TypeId) : Bool := match P.underlying t with | some .bool => true | _ => false
def intT (P : Program) (t : TypeId) : Option IntKind := match P.underlying t with | some (.int k) => some k | _ => none
def ptrT (P : Program) (t : TypeId) : Bool := match P.underlying t with | some (.pointer _) => true | _ => false
def funT (P : Program) (t : TypeId) : Bool := match P.underlying t with | some (.func _ _ _) => true | _ => false
def aggT (P : Program) (t : TypeId) : Bool := match P.underlying t with | some (.struct _) => true | some (.array _ _) => true | _ => false
def hasT (P : Program) (t : TypeId) : Bool := (P.underlying t).isSome

theorem offT_spec {P : Program} {s f o : Nat} (h : offT P s f = some o) : ∃ fs fd, P.underlying s = some (.struct fs) ∧ fs[f]? = some fd ∧ P.cellsOf fd.type ≠ 0 ∧ fd.offset = o := by
  unfold offT at h
  split at h
  · rename_i fs hu
    split at h
    · rename_i fd hf
      split at h
      · cases h
      · rename_i hz
        exact ⟨fs, fd, hu, hf, hz, by simpa using h⟩
    · cases h
  · cases h
theorem fldT_spec {P : Program} {s f : Nat} {t : TypeId} (h : fldT P s f = some t) : ∃ fs fd, P.underlying s = some (.struct fs) ∧ fs[f]? = some fd ∧ fd.type = t := by
  unfold fldT at h
  split at h
  · rename_i fs hu
    cases hf : fs[f]? with
    | none => simp [hf] at h
    | some fd => exact ⟨fs, fd, hu, hf, by simpa [hf] using h⟩
  · cases h
theorem elemT_spec {P : Program} {t e : TypeId} (h : elemT P t = some e) : P.underlying t = some (.slice e) := by
  unfold elemT at h
  split at h
  · rename_i hu; simp at h; rw [hu, h]
  · cases h
theorem arrT_spec {P : Program} {t : TypeId} {n : Nat} {e : TypeId} (h : arrT P t = some (n, e)) : P.underlying t = some (.array n e) := by
  unfold arrT at h
  split at h
  · rename_i hu; simp at h; rw [hu, h.1, h.2]
  · cases h
theorem strT_spec {P : Program} {t : TypeId} (h : strT P t = true) : P.underlying t = some .string := by
  unfold strT at h
  split at h
  · rename_i hu; exact hu
  · cases h
theorem boolT_spec {P : Program} {t : TypeId} (h : boolT P t = true) : P.underlying t = some .bool := by
  unfold boolT at h
  split at h
  · rename_i hu; exact hu
  · cases h
theorem intT_spec {P : Program} {t : TypeId} {k : IntKind} (h : intT P t = some k) : P.underlying t = some (.int k) := by
  unfold intT at h
  split at h
  · rename_i hu; simp at h; rw [hu, h]
  · cases h
theorem ptrT_spec {P : Program} {t : TypeId} (h : ptrT P t = true) : ∃ e, P.underlying t = some (.pointer e) := by
  unfold ptrT at h
  split at h
  · rename_i e hu; exact ⟨e, hu⟩
  · cases h
theorem funT_spec {P : Program} {t : TypeId} (h : funT P t = true) : ∃ a b c, P.underlying t = some (.func a b c) := by
  unfold funT at h
  split at h
  · rename_i a b c hu; exact ⟨a, b, c, hu⟩
  · cases h
theorem info_of_cells {P : Program} {t : TypeId} (h : P.cellsOf t ≠ 0) : ∃ i, P.info? t = some i ∧ i.size = P.cellsOf t := by
  unfold Program.cellsOf at h ⊢
  cases hi : P.info? t with
  | none => simp [hi] at h
  | some i => exact ⟨i, rfl, by simp⟩
theorem info_of_underlying {P : Program} {t : TypeId} {d : TypeDesc} (h : P.underlying t = some d) : ∃ i, P.info? t = some i ∧ i.size = P.cellsOf t := by
  unfold Program.cellsOf
  unfold Program.underlying at h
  cases hi : P.info? t with
  | none => simp [hi] at h
  | some i => exact ⟨i, rfl, by simp⟩

/-! Constants. -/
def cAV : Value → AV
  | .bool b => .pv (.bool b)
  | .int k n => .pv (.int k n)
  | .string s => .pv (.str s.data.toList)
  | .slice none 0 0 => .emp
  | .agg _ => .undef
  | .tuple _ => .undef
  | v => .pv (.raw v)

theorem cAV_rep (h : View) (E : Env) (σ : Look) (v : Value) : (cAV v).rep h E σ v := by
  cases v <;> first
    | simp [cAV, AV.rep, PV.rep, Value.oneCell']; done
    | (unfold cAV; split <;> simp_all [AV.rep, PV.rep, Value.oneCell'])

def evA (σ : Look) : Operand → AV
  | .tmp t => (σ (.S t)).slot
  | .const v => cAV v
  | .func f => .pv (.raw (.func (.func f) #[] #[]))
  | .global _ => .undef

def AV.sc (c : Bool) : AV → Prop
  | .when b _ => c = true → b = true
  | _ => True
def AV.sv : AV → AV
  | .when _ v => v
  | v => v

theorem AV.strip {h : View} {E : Env} {σ : Look} {a : AV} {v : Value} {c : Bool} (hr : a.rep h E σ v) (hs : a.sc c) (hc : c = true) : a.sv.rep h E σ v := by
  cases a <;> simp only [AV.sv] <;> try exact hr
  simp only [AV.rep] at hr
  exact hr.1 (hs hc)

/-! The pure operations. -/
abbrev Res := Option (Prop × AV)

def binInt (op : BinOp) (k : IntKind) (a b : Int) : Res :=
  match op with
  | .add => some (inR k (a + b), .pv (.int k (a + b)))
  | .sub => some (inR k (a - b), .pv (.int k (a - b)))
  | .mul => some (inR k (a * b), .pv (.int k (a * b)))
  | .quo => some (0 ≤ a ∧ 0 < b ∧ inR k a, .pv (.int k (a / b)))
  | .rem => some (0 ≤ a ∧ 0 < b, .pv (.int k (a % b)))
  | .eql => some (True, .pv (.bool (a == b)))
  | .neq => some (True, .pv (.bool (a != b)))
  | .lss => some (True, .pv (.bool (decide (a < b))))
  | .leq => some (True, .pv (.bool (decide (a ≤ b))))
  | .gtr => some (True, .pv (.bool (decide (b < a))))
  | .geq => some (True, .pv (.bool (decide (b ≤ a))))
  | .and => some (0 ≤ a ∧ 0 ≤ b ∧ inR k a ∧ inR k b, .pv (.int k ((a.toNat &&& b.toNat : Nat) : Int)))
  | .or => some (0 ≤ a ∧ 0 ≤ b ∧ inR k a ∧ inR k b, .pv (.int k ((a.toNat ||| b.toNat : Nat) : Int)))
  | .xor => some (0 ≤ a ∧ 0 ≤ b ∧ inR k a ∧ inR k b, .pv (.int k ((a.toNat ^^^ b.toNat : Nat) : Int)))
  | _ => none

def binShift (op : BinOp) (k : IntKind) (a b : Int) : Res :=
  match op with
  | .shl => some (0 ≤ b ∧ b < (k.bits : Int) ∧ inR k (a * 2 ^ b.toNat), .pv (.int k (a * 2 ^ b.toNat)))
  | .shr => some (0 ≤ b ∧ b < (k.bits : Int) ∧ 0 ≤ a, .pv (.int k (a / 2 ^ b.toNat)))
  | _ => none

def binStr (op : BinOp) (a b : List UInt8) : Res :=
  match op with
  | .add => some (a.length + b.length ≤ 9223372036854775807, .pv (.str (a ++ b)))
  | .eql => some (True, .pv (.bool (a == b)))
  | .neq => some (True, .pv (.bool (!(a == b))))
  | .lss => some (True, .pv (.bool (Op.bytesLess a b)))
  | .leq => some (True, .pv (.bool (Op.bytesLess a b || a == b)))
  | .gtr => some (True, .pv (.bool (!(Op.bytesLess a b || a == b))))
  | .geq => some (True, .pv (.bool (!Op.bytesLess a b)))
  | _ => none

def binBool (P : Program) (op : BinOp) (t : TypeId) (a b : Bool) : Res :=
  match op with
  | .eql => if boolT P t then some (True, .pv (.bool (a == b))) else none
  | .neq => if boolT P t then some (True, .pv (.bool (!(a == b)))) else none
  | _ => none

/-- nil against what is not nil, either way round -/
def nilRes (op : BinOp) (eq : Bool) : Res :=
  match op with
  | .eql => some (True, .pv (.bool eq))
  | .neq => some (True, .pv (.bool (!eq)))
  | _ => none

def isShift : BinOp → Bool
  | .shl | .shr => true
  | _ => false

def binP (P : Program) (op : BinOp) (t : TypeId) (x y : AV) : Res :=
  match x, y with
  | .pv (.int k a), .pv (.int k' b) => if isShift op then binShift op k a b else if k = k' then binInt op k a b else none
  | .pv (.str a), .pv (.str b) => binStr op a b
  | .pv (.bool a), .pv (.bool b) => binBool P op t a b
  | .pv (.pp _), .pv (.raw (.pointer none)) | .ptr _ _ _, .pv (.raw (.pointer none)) => if ptrT P t then nilRes op false else none
  | .pv (.raw (.pointer none)), .pv (.pp _) | .pv (.raw (.pointer none)), .ptr _ _ _ => if ptrT P t then nilRes op false else none
  | .pv (.raw (.pointer none)), .pv (.raw (.pointer none)) => if ptrT P t then nilRes op true else none
  | .clo _ _ _, .pv (.raw .nilFunc) => if funT P t then nilRes op false else none
  | .pv (.raw (.func _ _ _)), .pv (.raw .nilFunc) => if funT P t then nilRes op false else none
  | .pv (.raw .nilFunc), .pv (.raw .nilFunc) => if funT P t then nilRes op true else none
  | _, _ => none

def unP (op : UnOp) (x : AV) : Res :=
  match op, x with
  | .not, .pv (.bool b) => some (True, .pv (.bool (!b)))
  | .neg, .pv (.int k n) => some (inR k (-n), .pv (.int k (-n)))
  | _, _ => none

def convP (P : Program) (dst : TypeId) (x : AV) : Res :=
  match x with
  | .pv (.int _ n) => match intT P dst with
    | some k => some (inR k n, .pv (.int k n))
    | none => none
  | .pv (.str l) => if strT P dst then some (True, .pv (.str l)) else none
  | _ => none

/-- bytes in a row -/
def byteT (P : Program) (t : TypeId) : Bool := match elemT P t with
  | some e => match intT P e with
    | some .u8 => true
    | _ => false
  | none => false
def byteRow : List (List PV) → Option (List UInt8)
  | [] => some []
  | [.int .u8 n] :: l => (byteRow l).map (UInt8.ofNat n.toNat :: ·)
  | _ => none
def convX (P : Program) (src dst : TypeId) (x : AV) : Res :=
  match x with
  | .pv (.sl xs) => if byteT P src = true ∧ strT P dst = true then (match byteRow xs with
    | some l => some (True, .pv (.str l))
    | none => none) else none
  | .emp => if byteT P src = true ∧ strT P dst = true then some (True, .pv (.str [])) else none
  | x => if hasT P src then convP P dst x else none
/-- a slice against nil -/
def isNilV : Value → Bool
  | .slice none 0 0 => true
  | _ => false
def isNilC : Operand → Bool
  | .const v => isNilV v
  | _ => false
def anyRes (op : BinOp) : Res :=
  match op with
  | .eql => some (True, .pv .anyb)
  | .neq => some (True, .pv .anyb)
  | _ => none
def nilCmp (P : Program) (op : BinOp) (t : TypeId) (x : AV) : Res :=
  if (elemT P t).isSome then match x with
    | .pv (.sl []) => anyRes op
    | .pv (.sl (_ :: _)) => nilRes op false
    | .emp => anyRes op
    | _ => none
  else none
def idx? : Option AV → Option (Option Int)
  | none => some none
  | some (.pv (.int _ n)) => some (some n)
  | _ => none

def sliceP (P : Program) (t : TypeId) (x : AV) (lo hi mx : Option AV) : Res :=
  match x, idx? lo, idx? hi, mx with
  | .pv (.str l), some lo, some hi, none =>
    if strT P t then
      let h := hi.getD (l.length : Int)
      let b := lo.getD 0
      some (0 ≤ b ∧ b ≤ h ∧ h ≤ (l.length : Int), .pv (.str ((l.take h.toNat).drop b.toNat)))
    else none
  | .pv (.sl xs), some lo, some hi, none =>
    match elemT P t with
    | some e =>
      let h := hi.getD (xs.length : Int)
      let b := lo.getD 0
      some (0 ≤ b ∧ b ≤ h ∧ h ≤ (xs.length : Int) ∧ P.cellsOf e ≠ 0 ∧ (∀ x ∈ xs, x.length = P.cellsOf e), .pv (.sl ((xs.take h.toNat).drop b.toNat)))
    | none => none
  | _, _, _, _ => none

def splice (cells : List AV) (k : Nat) : List AV → List AV
  | [] => cells
  | a :: as => splice (cells.set k a) (k + 1) as

def AV.cells : AV → List AV
  | .agg cs => cs
  | a => [a]

def AV.isCell : AV → Bool
  | .pv _ | .emp | .ptr .. | .rf .. | .rptr .. | .clo .. => true
  | _ => false

def AV.okPart : AV → Bool
  | .agg _ => true
  | a => a.isCell

def fillA (P : Program) (t : TypeId) (cells : List AV) : List (Nat × AV) → Option (List AV)
  | [] => some cells
  | (i, v) :: rest =>
    match offT P t i, fldT P t i with
    | some off, some ft => if v.okPart = true ∧ v.cells.length = P.cellsOf ft ∧ off + v.cells.length ≤ cells.length then fillA P t (splice cells off v.cells) rest else none
    | _, _ => none

def zeroA (P : Program) (t : TypeId) : Option (List AV) :=
  match P.info? t with
  | some i => i.zero.map fun z => z.cells.toList.map cAV
  | none => none

/-- a struct type, all of whose fields' types are known -/
def stT (P : Program) (t : TypeId) : Bool := match P.underlying t with | some (.struct fs) => fs.toList.all (fun f => (P.info? f.type).isSome) | _ => false

def buildP (P : Program) (t : TypeId) (parts : List (Nat × AV)) : Res :=
  match zeroA P t with
  | some z => match fillA P t z parts with
    | some cs => if stT P t then some (True, .agg cs) else none
    | none => none
  | none => none

def partA (P : Program) (t : TypeId) (cs : List AV) (off : Nat) : Option AV :=
  if aggT P t then (if off + P.cellsOf t ≤ cs.length then some (.agg ((cs.drop off).take (P.cellsOf t))) else none)
  else if hasT P t then cs[off]? else none

/-- cells of memory that stays, as an abstract value of a type -/
def cellsA (P : Program) (t : TypeId) (cs : List PV) : Option AV :=
  if aggT P t then (if P.cellsOf t ≤ cs.length then some (.agg ((cs.take (P.cellsOf t)).map .pv)) else none)
  else if hasT P t then (cs.head?).map .pv else none

end Go.Pw
