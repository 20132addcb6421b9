/- What the file lays up at the start: known, run by the kernel. -/
import Derived.Test.YtjbfdbbmgbekiaaGreatDoorPvZK
import Derived.Test.YtjbfdbbmgbekiaaGreatDoorPvZJ
set_option linter.unusedSimpArgs false
set_option linter.unusedVariables false
set_option linter.unusedSectionVars false
set_option maxRecDepth 1000000
namespace Go.Pw
open Go.Proofs Go.Shelf
def strs : List (List PV) → Option (List (List UInt8))
  | [] => some []
  | x :: r => match x with
    | [.str l] => (strs r).map (l :: ·)
    | _ => none
def rng : List (List PV) → Option (List (Int × Int))
  | [] => some []
  | x :: r => match x with
    | [.int .i64 a, .int .i64 b] => (rng r).map ((a, b) :: ·)
    | _ => none
theorem strs_eq : ∀ {xs : List (List PV)} {l : List (List UInt8)}, strs xs = some l → xs = sRows l
  | [], l, h => by simp only [strs] at h; cases h; rfl
  | x :: r, l, h => by
    simp only [strs] at h
    split at h
    · rename_i s
      cases hr : strs r with
      | none => rw [hr] at h; cases h
      | some l' => rw [hr] at h; cases h; rw [strs_eq hr]; rfl
    · cases h
theorem rng_eq : ∀ {xs : List (List PV)} {l : List (Int × Int)}, rng xs = some l → xs = rowsG l
  | [], l, h => by simp only [rng] at h; cases h; rfl
  | x :: r, l, h => by
    simp only [rng] at h
    split at h
    · rename_i a b
      cases hr : rng r with
      | none => rw [hr] at h; cases h
      | some l' => rw [hr] at h; cases h; rw [rng_eq hr]; rfl
    · cases h
def base07 (f : FuncId) (In : St) : Option St :=
  if f = 34 then match In with
    | [(.S 0, .av (.pv (.sl xs)))] => match rng xs with
      | some l => if Nat.ble l.length 1000 then some [(.S 0, .av (.rf (.RS 0 0) 0)), (.RS 0 0, .rw 0 true 41 xs)] else none
      | none => none
    | _ => none
  else if f = 27 then match In with
    | [(.S 0, .av (.pv (.sl xs))), (.S 1, .av (.pv (.str sep)))] => match strs xs with
      | some l => if Nat.ble l.length 1000 && Nat.ble (Lib.join l sep).length 100000 then some [(.S 0, .av (.pv (.str (Lib.join l sep))))] else none
      | none => none
    | _ => none
  else none
def rf07 : RowF := fun f e xs ex => if f = 35 ∧ e = 41 then match ex with
    | [.pv (.raw (.func (.func 36) a b))] => match a.toList, b.toList, rng xs with
      | [], [], some l => if Nat.ble l.length 1000 then some (rowsG (insS l)) else none
      | _, _, _ => none
    | _ => none
  else none
theorem kn : callF Tryz.prog base07 rf07 (fun _ _ => none) 3000 8 [] = some [(.S 0, .av (.pv (.bool true)))] := by kernel_rfl
theorem base07_ok : OrcB Tryz.prog base07 := by
  intro f In Ret h
  unfold base07 at h
  split at h
  · rename_i hf; subst hf
    split at h
    · split at h
      · rename_i l hl
        split at h
        · rename_i hle
          cases h
          rw [rng_eq hl]
          exact t45 l (by have := Nat.le_of_ble_eq_true hle; omega)
        · cases h
      · cases h
    · cases h
  · split at h
    · rename_i hf; subst hf
      split at h
      · split at h
        · rename_i l hl
          split at h
          · rename_i hle
            cases h
            rw [Bool.and_eq_true] at hle
            have h1 := Nat.le_of_ble_eq_true hle.1
            have h2 := Nat.le_of_ble_eq_true hle.2
            rw [strs_eq hl]
            exact t51 l _ (by omega) (by omega)
          · cases h
        · cases h
      · cases h
    · cases h
theorem rf07_ok : RowFOk Tryz.prog rf07 := by
  intro f e xs ex ys h
  unfold rf07 at h
  split at h
  · rename_i hf
    obtain ⟨rfl, rfl⟩ := hf
    split at h
    · rename_i a b
      split at h
      · rename_i l h1 h2 hl
        split at h
        · rename_i hle
          cases h
          obtain ⟨rfl⟩ : a = #[] := by simpa using h1
          obtain ⟨rfl⟩ : b = #[] := by simpa using h2
          rw [rng_eq hl]
          exact sort_row l (by have := Nat.le_of_ble_eq_true hle; omega)
        · cases h
      · cases h
    · cases h
  · cases h
theorem names07 : Names Tryz.prog := by
  have h : (Tryz.prog.funcs.all fun fn => fn.name != "runtime.NumGoroutine") = true := by kernel_rfl
  intro f fn hf
  exact Array.all_eq_true'.1 h fn (Array.mem_of_getElem? hf)
theorem known07 : PCalls Tryz.prog 8 [] [(.S 0, .av (.pv (.bool true)))] := callF_spec names07 Tryz.join.mixed base07_ok rf07_ok _ _ _ _ kn
#print axioms known07
end Go.Pw
