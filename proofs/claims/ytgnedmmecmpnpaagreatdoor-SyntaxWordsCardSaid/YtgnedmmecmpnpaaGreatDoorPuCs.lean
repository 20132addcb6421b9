/- A region in a sequence that ends with a function that turns an own row. -/
import Derived.Test.YtgnedmmecmpnpaaGreatDoorPuCr
namespace Go.Pw
variable [Mode]
set_option linter.unusedSimpArgs false
set_option linter.unusedVariables false
set_option linter.unusedSectionVars false
variable {P : Program} {n : Nat} {Q : Exit → St → Prop} {s : St}
theorem PWp.seq_row (ks : List Nat) (k : Key) (st : Nat) (e : TypeId) (xs ys : List (List PV)) (d : Nat) {orc : Orc} (hO : OrcOk P orc) {mv : FuncId → Nat → Option TypeId} {id : Nat} {l : List Oper} {o : Oper} {y : Code} (ho : o.dst = some d) (hd : dstOk n (l ++ [o]) = true)
    (h : ∀ K : St → Prop, (∀ s, PWp P n y Q s → K s) → runOps P orc mv (l ++ [o]).toArray l s (fun s => RowCall P o (look s) k st e xs ys ∧ K (keepS ks ((.S d, .av (.tup [])) :: (k, .rw st true e ys) :: s)))) :
    PWp P n (.seq (.region id (l ++ [o]).toArray false) y) Q s :=
  PWp.seq (PWp.rg_row k st e xs ys d hO (mv := mv) ho hd (runOps_mono (fun s hs => ⟨hs.1, PWp.keep ks hs.2⟩) (h (fun s => PWp P n y Q s) fun s hs => hs)))
end Go.Pw
