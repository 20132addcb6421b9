/- The syntax: the law's example, run by the kernel. -/
import Derived.Test.YtgnedmmecmpnpaaGreatDoorPuSW
import Derived.Test.YtgnedmmecmpnpaaGreatDoorPuSCl
set_option maxRecDepth 1000000
set_option linter.unusedSimpArgs false
set_option linter.unusedVariables false
set_option linter.unusedSectionVars false
namespace Go.Pw.L22
open Go.Proofs Go.Pw Go.Pw.L21
abbrev k22 : Bs := [102, 117, 110, 99, 32, 109, 97, 105, 110, 40, 41, 32, 123, 32, 120, 32, 61, 32, 97, 32, 45, 32, 40, 98, 32, 45, 32, 99, 41, 32, 42, 32, 40, 50, 41, 59, 32, 125]
theorem ex22 : scan k22 = .ok [({ kind := 4, text := [102, 117, 110, 99] }, 38), ({ kind := 1, text := [109, 97, 105, 110] }, 33), ({ kind := 5, text := [40] }, 29), ({ kind := 5, text := [41] }, 28), ({ kind := 5, text := [123] }, 26), ({ kind := 1, text := [120] }, 24), ({ kind := 5, text := [61] }, 22), ({ kind := 1, text := [97] }, 20), ({ kind := 5, text := [45] }, 18), ({ kind := 5, text := [40] }, 16), ({ kind := 1, text := [98] }, 15), ({ kind := 5, text := [45] }, 13), ({ kind := 1, text := [99] }, 11), ({ kind := 5, text := [41] }, 10), ({ kind := 5, text := [42] }, 8), ({ kind := 5, text := [40] }, 6), ({ kind := 2, text := [50], value := 2 }, 5), ({ kind := 5, text := [41] }, 4), ({ kind := 5, text := [59] }, 3), ({ kind := 5, text := [125] }, 1)] := by decide +kernel
def rows22 : List (List PV) := [[.int .i64 4, .str [102, 117, 110, 99], .int .i64 0, .str [], .int .i64 1, .int .i64 1],
  [.int .i64 1, .str [109, 97, 105, 110], .int .i64 0, .str [], .int .i64 1, .int .i64 6],
  [.int .i64 5, .str [40], .int .i64 0, .str [], .int .i64 1, .int .i64 10],
  [.int .i64 5, .str [41], .int .i64 0, .str [], .int .i64 1, .int .i64 11],
  [.int .i64 5, .str [123], .int .i64 0, .str [], .int .i64 1, .int .i64 13],
  [.int .i64 1, .str [120], .int .i64 0, .str [], .int .i64 1, .int .i64 15],
  [.int .i64 5, .str [61], .int .i64 0, .str [], .int .i64 1, .int .i64 17],
  [.int .i64 1, .str [97], .int .i64 0, .str [], .int .i64 1, .int .i64 19],
  [.int .i64 5, .str [45], .int .i64 0, .str [], .int .i64 1, .int .i64 21],
  [.int .i64 5, .str [40], .int .i64 0, .str [], .int .i64 1, .int .i64 23],
  [.int .i64 1, .str [98], .int .i64 0, .str [], .int .i64 1, .int .i64 24],
  [.int .i64 5, .str [45], .int .i64 0, .str [], .int .i64 1, .int .i64 26],
  [.int .i64 1, .str [99], .int .i64 0, .str [], .int .i64 1, .int .i64 28],
  [.int .i64 5, .str [41], .int .i64 0, .str [], .int .i64 1, .int .i64 29],
  [.int .i64 5, .str [42], .int .i64 0, .str [], .int .i64 1, .int .i64 31],
  [.int .i64 5, .str [40], .int .i64 0, .str [], .int .i64 1, .int .i64 33],
  [.int .i64 2, .str [50], .int .i64 2, .str [], .int .i64 1, .int .i64 34],
  [.int .i64 5, .str [41], .int .i64 0, .str [], .int .i64 1, .int .i64 35],
  [.int .i64 5, .str [59], .int .i64 0, .str [], .int .i64 1, .int .i64 36],
  [.int .i64 5, .str [125], .int .i64 0, .str [], .int .i64 1, .int .i64 38],
  [.int .i64 0, .str [], .int .i64 0, .str [], .int .i64 1, .int .i64 39]]
theorem kr22 : scanA k22 (scan k22) = .tup [.pv (.sl rows22), .pv (.int .i64 0), .pv (.int .i64 0), .pv (.int .i64 0)] := by
  unfold scanA
  rw [ex22]; rfl
def bsB : Bs → Bs → Bool
  | [], [] => true
  | a :: s, b :: t => Nat.beq a.toNat b.toNat && bsB s t
  | _, _ => false
theorem bsB_spec : ∀ {a b : Bs}, bsB a b = true → a = b
  | [], [], _ => rfl
  | [], _ :: _, h => by cases h
  | _ :: _, [], h => by cases h
  | a :: s, b :: t, h => by
    simp only [bsB, Bool.and_eq_true] at h
    have := UInt8.toNat_inj.1 (Nat.eq_of_beq_eq_true h.1)
    rw [this, bsB_spec h.2]
def base22 : FuncId → St → Option St := fun f In =>
  if Nat.beq f 29 then (match In with
    | [(.S 0, .av (.pv (.str s)))] => if bsB s k22 then some [(.S 0, .av (.tup [.pv (.sl rows22), .pv (.int .i64 0), .pv (.int .i64 0), .pv (.int .i64 0)]))] else none
    | _ => none)
  else if Nat.beq f 44 then (match In with
    | [(.S 0, .av (.pv (.int .i64 n)))] => if intB n 2 then some [(.S 0, .av (.pv (.str [50])))] else none
    | _ => none)
  else if Nat.beq f 80 then (match In with
    | [(.S 0, .av (.pv (.sl [])))] => some [(.S 0, .av (.rf (.RS 0 0) 0)), (.RS 0 0, .rw 0 true 9 [])]
    | _ => none)
  else none
theorem itoa2 : Lib.itoa 2 = [50] := by decide +kernel
theorem base22_ok : OrcB Tryz.prog base22 := by
  intro f In Ret h
  unfold base22 at h
  split at h
  · rename_i hf
    obtain rfl := Nat.eq_of_beq_eq_true hf
    split at h
    · split at h
      · rename_i s hs
        obtain rfl := bsB_spec hs
        cases h
        have := t10 k22 (by decide)
        rwa [kr22] at this
      · cases h
    · cases h
  · split at h
    · rename_i hf
      obtain rfl := Nat.eq_of_beq_eq_true hf
      split at h
      · split at h
        · rename_i n hn
          obtain rfl := intB_spec hn
          cases h
          have := tItoa 2 (by decide) (by decide)
          rwa [itoa2] at this
        · cases h
      · cases h
    · split at h
      · rename_i hf
        obtain rfl := Nat.eq_of_beq_eq_true hf
        split at h
        · cases h
          exact t80nil
        · cases h
      · cases h
theorem known_run : callF Tryz.prog base22 noF mv 20000 13 [] = some [(.S 0, .av (.pv (.bool true)))] := by kernel_rfl
theorem names22 : Names Tryz.prog := by
  have h : (Tryz.prog.funcs.all fun fn => fn.name != "runtime.NumGoroutine") = true := by kernel_rfl
  intro f fn hf
  exact Array.all_eq_true'.1 h fn (Array.mem_of_getElem? hf)
theorem t13 : PCalls Tryz.prog 13 [] [(.S 0, .av (.pv (.bool true)))] := callF_spec names22 mixed base22_ok noF_ok _ _ _ _ known_run
end Go.Pw.L22
