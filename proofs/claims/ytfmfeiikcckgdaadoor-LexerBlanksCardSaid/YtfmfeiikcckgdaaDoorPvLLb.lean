/- LexerBlanks: from its walk to its statement. Written by mklaw.py. -/
import Derived.Test.YtfmfeiikcckgdaaDoorPvLX7
import Derived.Test.YtfmfeiikcckgdaaDoorPvSu
import Derived.Test.YtfmfeiikcckgdaaDoorPvLGl
import Derived.LaidMore
import Derived.ChangeMaps5
import Derived.Lay
import Derived.Deep.DeepWitnessRowRef
import Derived.SizedLaws
import Derived.Test.YtfmfeiikcckgdaaDoorCards
import Derived.Test.YtfmfeiikcckgdaaDoorTie
import Derived.Test.YtfmfeiikcckgdaaDoorChecked
import Derived.Deep.DeepHandedRow
import Derived.Lib.LaidTab
set_option linter.unusedVariables false
set_option linter.unusedSimpArgs false
set_option linter.unusedSectionVars false
namespace Go.Proofs.YtfmfeiikcckgdaaDoor.lexerBlanks
open Go.Pw Go.ChangeShapes Go.WideShapes Go.ChangeAt Go.RowKit Go.ChangeMaps
theorem own : ownKnob Tryd.prog.godebug = none := by kernel_rfl
theorem laidOut : laidOutB Tryd.prog = true := by kernel_rfl
theorem rd9 : Tryd.prog.readableRec 9 = true ∧ 9 < Tryd.prog.types.size := ⟨by kernel_rfl, of_decide_eq_true (by kernel_rfl)⟩
theorem rd34 : Tryd.prog.readableRec 34 = true ∧ 34 < Tryd.prog.types.size := ⟨by kernel_rfl, of_decide_eq_true (by kernel_rfl)⟩
theorem bytes5 : Tryd.prog.bytesOf 5 = 1 := by kernel_rfl
theorem cells5 : Tryd.prog.cellsOf 5 = 1 := by kernel_rfl
theorem params : ∀ t ∈ Tryd.f5.params.toList, Tryd.prog.readableRec t = true ∧ t < Tryd.prog.types.size := by
  rw [Tryd.params5]
  intro t ht
  simp only [List.mem_cons, List.not_mem_nil, or_false] at ht
  rcases ht with rfl | rfl
  · exact rd9
  · exact rd34
set_option maxRecDepth 100000 in
theorem contract (H : Type) (enc : TypeId × Value → H) (W : World) (base : Nat) (args : Array Value) (ds gs : List (DataW H)) (before : List MemPlace)
    (hval : ∀ (j : Nat) t v, Tryd.f5.params[j]? = some t → args[j]? = some v → Value.okWide Tryd.prog W .any base t v)
    (hW : DataW.Whole enc Tryd.prog Tryd.f5.params.toList Rows.lexerBlanksSpec.vars false W args.toList ds gs before) (hsz0 : (DataW.weightsEach Tryd.prog (Tryd.f5.params.toList ++ []) (ds ++ gs)).all (· ≤ reachBytes) = true) (hg : GlobOk W (allImm W)) :
    Calls Tryd.prog 5 args W fun e W' => ∃ v, e = .returned v ∧ Rows.lexerBlanksSpec.post enc Tryd.prog Tryd.f5 false true false false W args v W' := by
  have hW' := hW
  obtain ⟨p, q, hA0, hV, rfl, hfz, hnd⟩ := hW
  have hA : DataW.TrodAll enc Tryd.prog W 0 (fun _ => true) true Tryd.f5.params.toList args.toList ds p := hA0
  rw [Tryd.params5] at hA hval
  obtain ⟨v0, vs0, d0, ds0, p0, q0, hargs, rfl, rfl, h0, r0⟩ := trodAll_cons hA
  obtain ⟨v1, vs1, d1, ds1, p1, q1, rfl, rfl, rfl, h1, r1⟩ := trodAll_cons r0
  obtain ⟨rfl, rfl, rfl⟩ := trodAll_nil r1
  obtain rfl : args = #[v0, v1] := by cases args; simp_all
  obtain ⟨rfl, rfl⟩ := trodVars_none hV
  have hsz : (DataW.weightsEach Tryd.prog ([9, 34] ++ []) ([d0, d1])).all (· ≤ reachBytes) = true := by simpa [Tryd.params5] using hsz0
  obtain ⟨z0, rfl, e0, _, l0⟩ := open_string Tryd.underlying9 (hval 0 9 v0 rfl rfl) h0
  have s0 : z0.data.toList.length ≤ reachBytes := sized_string (j := 0) hsz rfl (by rw [e0]; rfl)
  obtain ⟨z1, a1, l1, w1, e1⟩ := argRep_ints Tryd.underlying34 Tryd.underlying5 cells5 (hval 1 34 v1 rfl rfl) h1
  have s1 : z1.length ≤ reachBytes := by
    rcases e1 with ⟨_, e⟩ | ⟨rest, e⟩
    · rw [e]; decide
    · have := sized_slice (j := 1) hsz rfl (by rw [e]; rfl) Tryd.underlying34
      rw [bytes5] at this
      simp [lits] at this; omega
  refine law_calls (avs := [.pv (.str z0.data.toList), .pv (.sl (z1.map fun n => [.int .u8 n]))]) laidOut params (by kernel_rfl) Tryd.underlying4 rfl hW' rfl hg rfl (fun i a v ha hv => ?_) (L21.t5 z0.data.toList z1 (Nat.le_trans s0 (by decide)) (fun n hn => by have h := w1 n hn; simp [Lit.wf, IntKind.min, IntKind.max, IntKind.bits, IntKind.signed] at h; omega))
  match i, ha, hv with
  | 0, ha, hv => cases ha; cases hv; exact argRep_str
  | 1, ha, hv => cases ha; cases hv; exact a1
  | i + 2, ha, hv => simp at ha
/-- a table's cells -/
def litCells : DataW Unit → Array Value
  | .agg l => (l.map fun | .lit (.int k n) => Value.int k n | _ => Value.nilIface).toArray
  | _ => #[]
def setCells (d : DataW Unit) : Obj → Obj
  | .cells _ t frozen => .cells (litCells d) t frozen
  | o => o
noncomputable def laidWorld (os : Os) : World := World.laidAll Tryd.prog os Rows.lexerBlanksRow.laid
theorem laid_met (os : Os) : laidMet Tryd.prog Rows.lexerBlanksRow.laid ((laidWorld os).forCall (fun _ _ => 0) ⟨#[], #[.string ⟨#[]⟩, .slice none 0 0], []⟩).memory :=
  laidMet_laidAll _ (by kernel_rfl) (by kernel_rfl)
theorem reads (os : Os) {H : Type} (enc : TypeId × Value → H) : ∃ places, DataW.whole enc Tryd.prog ((laidWorld os).forCall (fun _ _ => 0) ⟨#[], #[.string ⟨#[]⟩, .slice none 0 0], []⟩).memory Tryd.f5.params.toList Rows.lexerBlanksSpec.vars false (#[.string ⟨#[]⟩, .slice none 0 0] : Array Value).toList 8 = some ([.lit (.string []), .nil], [], places) :=
  ⟨[], by kernel_rfl⟩
set_option maxRecDepth 100000 in
theorem lifted (os : Os) (started : os.Started) (H : Type) (enc : TypeId × Value → H) (F : Stop.Interp) :
    ReturnsInHanded {} Tryd.checked os 5 .any ((OpenSpec.ofChange Rows.lexerBlanksSpec).preRow enc Tryd.prog Tryd.f5 Rows.lexerBlanksRow.domain false Rows.lexerBlanksRow.laid) (((OpenSpec.ofChange Rows.lexerBlanksSpec).at F).post enc Tryd.prog Tryd.f5 false true false false) := by
  obtain ⟨places, hx⟩ := reads os enc
  refine returnsInHanded_of_row (C := Tryd.checked) (s := (OpenSpec.ofChange Rows.lexerBlanksSpec)) own started (by kernel_rfl) Tryd.func5
    (witness_row_atRef (enc := enc) (C := Tryd.checked) false (laidWorld os) #[.string ⟨#[]⟩, .slice none 0 0] (World.laidAll_os _ _ _) (by kernel_rfl) (by kernel_rfl) (by kernel_rfl)
      (OpenSpec.preRow_of_cond 8 hx (by kernel_rfl) (fun k hk => by cases hk) (by kernel_rfl) (laid_met os))) ?_
  intro W base args ds gs before hval hW _ hcond hsz hL hS _
  exact contract H enc W base args ds gs before hval hW hsz (globOk hS hL)
theorem said : Rows.LexerBlanksSaid :=
  OpenClaim.holds_of_cond 5 Tryd.f5 rfl rfl rfl rfl rfl rfl rfl ⟨rfl, rfl, rfl, rfl, rfl⟩ rfl rfl rfl rfl rfl (by kernel_rfl) Tryd.func5 (by kernel_rfl)
    (of_decide_eq_true (by kernel_rfl)) (by unfold Func.isWrapper; first | (rw [if_pos (by decide +kernel)]; kernel_rfl) | (rw [if_neg (by decide +kernel)]; exact ⟨rfl, rfl⟩))
    (fun os started H enc _ F => by rw [OpenClaim.pre_eq_preRow]; exact lifted os started H enc F)
theorem plain (f : FuncId) (fn : Func) (hf : Tryd.pinned.checked.prog.funcNamed Tryd.f5.name = some f) (hfn : Tryd.pinned.checked.prog.funcs[f]? = some fn) :
    false = Tryd.pinned.checked.prog.looks [] ∧ ∀ (j : Nat) t, fn.params[j]? = some t → Tryd.pinned.checked.prog.wantsStandIn t = false := by
  obtain rfl : f = 5 := Option.some.inj ((show Tryd.prog.funcNamed Tryd.f5.name = some 5 by kernel_rfl).symm.trans hf) |>.symm
  obtain rfl : fn = Tryd.f5 := (Option.some.inj (Tryd.func5.symm.trans hfn)).symm
  refine ⟨by kernel_rfl, fun j t ht => ?_⟩
  rw [Tryd.params5] at ht
  have hm := Array.mem_of_getElem? ht
  have hm : t = 9 ∨ t = 34 := by
    simp at hm
    first | exact hm | (rcases hm with h | h | h <;> simp [h]) | (rcases hm with h | h <;> simp [h]) | simp [hm]
  rcases hm with rfl | rfl
  · exact (show Tryd.prog.wantsStandIn 9 = false by kernel_rfl)
  · exact (show Tryd.prog.wantsStandIn 34 = false by kernel_rfl)
theorem card : Rows.LexerBlanksCardSaid :=
  Claim7.holds_tied_plain_at .later [] _ _ _ _ said (fun _ h => by cases h) (by kernel_rfl) (fun _ h => by cases h) lexerBlanks_row_tie rfl ⟨rfl, rfl⟩ (by kernel_rfl) rfl plain (by kernel_rfl)
#print axioms card
end Go.Proofs.YtfmfeiikcckgdaaDoor.lexerBlanks
