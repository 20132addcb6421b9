/- Texts of ranges: what is printed and read. -/
import Derived.Test.YtjbfdbbmgbekiaaGreatDoorPvZHm
import Derived.Test.YtjbfdbbmgbekiaaGreatDoorPvZL
set_option linter.unusedSimpArgs false
set_option linter.unusedVariables false
set_option linter.unusedSectionVars false
namespace Go.Pw.G7
open Go.Proofs Go.Pw
abbrev Bs := List UInt8
def wordL (g : G) : Bs := Lib.itoa g.1 ++ 43 :: Lib.itoa (g.2 - g.1)
def textL (l : List G) : Bs := Lib.join (l.map wordL) [32]
def tens : Bs := [48, 49, 50, 51, 52, 53, 54, 55, 56, 57]
def isDig (b : UInt8) : Bool := decide (48 ≤ b) && decide (b ≤ 57)
def valD (s : Bs) : Int := s.foldl (fun n b => n * 10 + ((b.toNat : Int) - 48)) 0
/-- a number of at most 13 digits -/
def numL (s : Bs) : Option Int :=
  if s.length < 1 ∨ 13 < s.length ∨ (1 < s.length ∧ s.head? = some 48) ∨ ¬ s.all isDig = true then none else some (valD s)
def leftL (w : Bs) : Bs := w.takeWhile (fun b => b != 43)
def rightL (w : Bs) : Bs := (w.dropWhile (fun b => b != 43)).tail
def itemL (w : Bs) (after : Int) : G × Int :=
  match numL (leftL w), numL (rightL w) with
  | some f, some c => if c = 0 ∨ 1099511627776 < f + c then ((0, 0), 2) else if f ≤ after then ((0, 0), 32) else ((f, f + c), 0)
  | _, _ => ((0, 0), 3)
def parseW : List Bs → List G → Int → Int → List G × Int × Int
  | [], acc, _, _ => (acc, 0, 0)
  | w :: ws, acc, after, at_ =>
    if acc.length = 1024 then ([], at_, 9)
    else if (itemL w after).2 ≠ 0 then ([], at_, (itemL w after).2)
    else parseW ws (acc ++ [(itemL w after).1]) (itemL w after).1.2 (at_ + (w.length + 1))
def splitC : Bs → List Bs
  | [] => [[]]
  | b :: l => if b = 32 then [] :: splitC l else match splitC l with
    | w :: ws => (b :: w) :: ws
    | [] => [[b]]
def parseL (t : Bs) : List G × Int × Int := if t = [] then ([], 0, 0) else parseW (splitC t) [] (-1) 0
end Go.Pw.G7
