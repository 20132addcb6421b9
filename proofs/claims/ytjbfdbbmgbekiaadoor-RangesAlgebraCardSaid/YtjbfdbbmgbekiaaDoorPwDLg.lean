/- RangesAlgebra: from its walk to its statement. Written by mklaw.py. -/
import Derived.Test.YtjbfdbbmgbekiaaDoorPwDX8
import Derived.Test.YtjbfdbbmgbekiaaDoorPwSu
import Derived.SizedLaws
import Derived.Test.YtjbfdbbmgbekiaaDoorCards
import Derived.Test.YtjbfdbbmgbekiaaDoorTie
import Derived.Test.YtjbfdbbmgbekiaaDoorChecked
import Derived.Deep.DeepHandedRow
import Derived.Lib.LaidTab
set_option linter.unusedVariables false
set_option linter.unusedSimpArgs false
set_option linter.unusedSectionVars false
namespace Go.Proofs.YtjbfdbbmgbekiaaDoor.rangesAlgebra
open Go.Pw Go.ChangeShapes Go.WideShapes Go.ChangeAt Go.RowKit
theorem own : ownKnob Tryd.prog.godebug = none := by kernel_rfl
theorem laidOut : laidOutB Tryd.prog = true := by kernel_rfl
theorem rd29 : Tryd.prog.readableRec 29 = true ∧ 29 < Tryd.prog.types.size := ⟨by kernel_rfl, of_decide_eq_true (by kernel_rfl)⟩
theorem bytes55 : Tryd.prog.bytesOf 55 = 16 := by kernel_rfl
theorem cells55 : Tryd.prog.cellsOf 55 = 2 := by kernel_rfl
theorem cells3 : Tryd.prog.cellsOf 3 = 1 := by kernel_rfl
theorem params : ∀ t ∈ Tryd.f8.params.toList, Tryd.prog.readableRec t = true ∧ t < Tryd.prog.types.size := by
  rw [Tryd.params8]
  intro t ht
  simp only [List.mem_cons, List.not_mem_nil, or_false] at ht
  rcases ht with rfl | rfl | rfl
  · exact rd29
  · exact rd29
  · exact rd29
set_option maxRecDepth 100000 in
theorem contract (H : Type) (enc : TypeId × Value → H) (W : World) (base : Nat) (args : Array Value) (ds gs : List (DataW H)) (before : List MemPlace)
    (hval : ∀ (j : Nat) t v, Tryd.f8.params[j]? = some t → args[j]? = some v → Value.okWide Tryd.prog W .any base t v)
    (hW : DataW.Whole enc Tryd.prog Tryd.f8.params.toList Rows.rangesAlgebraSpec.vars false W args.toList ds gs before) (hsz0 : (DataW.weightsEach Tryd.prog (Tryd.f8.params.toList ++ []) (ds ++ gs)).all (· ≤ reachBytes) = true) :
    Calls Tryd.prog 8 args W fun e W' => ∃ v, e = .returned v ∧ Rows.rangesAlgebraSpec.post enc Tryd.prog Tryd.f8 false true false false W args v W' := by
  have hW' := hW
  obtain ⟨p, q, hA0, hV, rfl, hfz, hnd⟩ := hW
  have hA : DataW.TrodAll enc Tryd.prog W 0 (fun _ => true) true Tryd.f8.params.toList args.toList ds p := hA0
  rw [Tryd.params8] at hA hval
  obtain ⟨v0, vs0, d0, ds0, p0, q0, hargs, rfl, rfl, h0, r0⟩ := trodAll_cons hA
  obtain ⟨v1, vs1, d1, ds1, p1, q1, rfl, rfl, rfl, h1, r1⟩ := trodAll_cons r0
  obtain ⟨v2, vs2, d2, ds2, p2, q2, rfl, rfl, rfl, h2, r2⟩ := trodAll_cons r1
  obtain ⟨rfl, rfl, rfl⟩ := trodAll_nil r2
  obtain rfl : args = #[v0, v1, v2] := by cases args; simp_all
  obtain ⟨rfl, rfl⟩ := trodVars_none hV
  have hsz : (DataW.weightsEach Tryd.prog ([29, 29, 29] ++ []) ([d0, d1, d2])).all (· ≤ reachBytes) = true := by simpa [Tryd.params8] using hsz0
  obtain ⟨z0, a0, l0, w0, e0⟩ := argRep_rows (fun x : Int × Int => [.int .i64 x.1, .int .i64 x.2]) (fun x => .agg [.lit (.int .i64 x.1), .lit (.int .i64 x.2)]) _ Tryd.underlying29 cells55 (by decide) (fun _ => rfl) (rowRead_int2 Tryd.underlying55 Tryd.underlying3 Tryd.underlying3 rfl rfl cells3 cells3) (hval 0 29 v0 rfl rfl) h0
  have s0 : z0.length ≤ reachBytes := by
    rcases e0 with ⟨_, e⟩ | ⟨rest, e⟩
    · rw [e]; decide
    · have := sized_slice (j := 0) hsz rfl (by rw [e]; rfl) Tryd.underlying29
      rw [bytes55] at this
      simp at this; omega
  obtain ⟨z1, a1, l1, w1, e1⟩ := argRep_rows (fun x : Int × Int => [.int .i64 x.1, .int .i64 x.2]) (fun x => .agg [.lit (.int .i64 x.1), .lit (.int .i64 x.2)]) _ Tryd.underlying29 cells55 (by decide) (fun _ => rfl) (rowRead_int2 Tryd.underlying55 Tryd.underlying3 Tryd.underlying3 rfl rfl cells3 cells3) (hval 1 29 v1 rfl rfl) h1
  have s1 : z1.length ≤ reachBytes := by
    rcases e1 with ⟨_, e⟩ | ⟨rest, e⟩
    · rw [e]; decide
    · have := sized_slice (j := 1) hsz rfl (by rw [e]; rfl) Tryd.underlying29
      rw [bytes55] at this
      simp at this; omega
  obtain ⟨z2, a2, l2, w2, e2⟩ := argRep_rows (fun x : Int × Int => [.int .i64 x.1, .int .i64 x.2]) (fun x => .agg [.lit (.int .i64 x.1), .lit (.int .i64 x.2)]) _ Tryd.underlying29 cells55 (by decide) (fun _ => rfl) (rowRead_int2 Tryd.underlying55 Tryd.underlying3 Tryd.underlying3 rfl rfl cells3 cells3) (hval 2 29 v2 rfl rfl) h2
  have s2 : z2.length ≤ reachBytes := by
    rcases e2 with ⟨_, e⟩ | ⟨rest, e⟩
    · rw [e]; decide
    · have := sized_slice (j := 2) hsz rfl (by rw [e]; rfl) Tryd.underlying29
      rw [bytes55] at this
      simp at this; omega
  refine law_calls (avs := [.pv (.sl (z0.map fun x : Int × Int => [.int .i64 x.1, .int .i64 x.2])), .pv (.sl (z1.map fun x : Int × Int => [.int .i64 x.1, .int .i64 x.2])), .pv (.sl (z2.map fun x : Int × Int => [.int .i64 x.1, .int .i64 x.2]))]) laidOut params (by kernel_rfl) Tryd.underlying4 rfl hW' rfl rfl (fun i a v ha hv => ?_) (G7.t8 z0 z1 z2 (Nat.lt_of_le_of_lt s0 (by decide)) (Nat.lt_of_le_of_lt s1 (by decide)) (Nat.lt_of_le_of_lt s2 (by decide)))
  match i, ha, hv with
  | 0, ha, hv => cases ha; cases hv; exact a0
  | 1, ha, hv => cases ha; cases hv; exact a1
  | 2, ha, hv => cases ha; cases hv; exact a2
  | i + 3, ha, hv => simp at ha
/-- a table's cells -/
def litCells : DataW Unit → Array Value
  | .agg l => (l.map fun | .lit (.int k n) => Value.int k n | _ => Value.nilIface).toArray
  | _ => #[]
def setCells (d : DataW Unit) : Obj → Obj
  | .cells _ t frozen => .cells (litCells d) t frozen
  | o => o
noncomputable def laidWorld (os : Os) : World := { World.holding Tryd.prog os ⟨#[], #[], []⟩ with heap := ((((World.holding Tryd.prog os ⟨#[], #[], []⟩).heap.modify 2 (setCells Rows.laid_math_bits_deBruijn32tab)).modify 3 (setCells Rows.laid_math_bits_deBruijn64tab)).modify 0 (setCells Rows.laid_internal_strconv_uint64pow10)) }
theorem laid_met (os : Os) : laidMet Tryd.prog Rows.rangesAlgebraRow.laid ((laidWorld os).forCall (fun _ _ => 0) ⟨#[], #[.slice none 0 0, .slice none 0 0, .slice none 0 0], []⟩).memory :=
  laidMet_of_run' 8 (by kernel_rfl) (by kernel_rfl)
theorem reads (os : Os) {H : Type} (enc : TypeId × Value → H) : ∃ places, DataW.whole enc Tryd.prog ((laidWorld os).forCall (fun _ _ => 0) ⟨#[], #[.slice none 0 0, .slice none 0 0, .slice none 0 0], []⟩).memory Tryd.f8.params.toList Rows.rangesAlgebraSpec.vars false (#[.slice none 0 0, .slice none 0 0, .slice none 0 0] : Array Value).toList 8 = some ([.nil, .nil, .nil], [], places) :=
  ⟨[], by kernel_rfl⟩
set_option maxRecDepth 100000 in
theorem lifted (os : Os) (started : os.Started) (H : Type) (enc : TypeId × Value → H) (F : Stop.Interp) :
    ReturnsInHanded {} Tryd.checked os 8 .any ((OpenSpec.ofChange Rows.rangesAlgebraSpec).preRow enc Tryd.prog Tryd.f8 Rows.rangesAlgebraRow.domain false Rows.rangesAlgebraRow.laid) (((OpenSpec.ofChange Rows.rangesAlgebraSpec).at F).post enc Tryd.prog Tryd.f8 false true false false) := by
  obtain ⟨places, hx⟩ := reads os enc
  refine returnsInHanded_of_row (C := Tryd.checked) (s := (OpenSpec.ofChange Rows.rangesAlgebraSpec)) own started (by kernel_rfl) Tryd.func8
    (witness_row_at (enc := enc) (C := Tryd.checked) false (laidWorld os) #[.slice none 0 0, .slice none 0 0, .slice none 0 0] rfl (by kernel_rfl) (by kernel_rfl) (by kernel_rfl)
      (OpenSpec.preRow_of_cond 8 hx (by kernel_rfl) (fun k hk => by cases hk) (by kernel_rfl) (laid_met os))) ?_
  intro W base args ds gs before hval hW _ hcond hsz hL _ _
  exact contract H enc W base args ds gs before hval hW hsz
theorem said : Rows.RangesAlgebraSaid :=
  OpenClaim.holds_of_cond 8 Tryd.f8 rfl rfl rfl rfl rfl rfl rfl ⟨rfl, rfl, rfl, rfl, rfl⟩ rfl rfl rfl rfl rfl (by kernel_rfl) Tryd.func8 (by kernel_rfl)
    (of_decide_eq_true (by kernel_rfl)) (by unfold Func.isWrapper; first | (rw [if_pos (by decide +kernel)]; kernel_rfl) | (rw [if_neg (by decide +kernel)]; exact ⟨rfl, rfl⟩))
    (fun os started H enc _ F => by rw [OpenClaim.pre_eq_preRow]; exact lifted os started H enc F)
theorem plain (f : FuncId) (fn : Func) (hf : Tryd.pinned.checked.prog.funcNamed Tryd.f8.name = some f) (hfn : Tryd.pinned.checked.prog.funcs[f]? = some fn) :
    false = Tryd.pinned.checked.prog.looks [] ∧ ∀ (j : Nat) t, fn.params[j]? = some t → Tryd.pinned.checked.prog.wantsStandIn t = false := by
  obtain rfl : f = 8 := Option.some.inj ((show Tryd.prog.funcNamed Tryd.f8.name = some 8 by kernel_rfl).symm.trans hf) |>.symm
  obtain rfl : fn = Tryd.f8 := (Option.some.inj (Tryd.func8.symm.trans hfn)).symm
  refine ⟨by kernel_rfl, fun j t ht => ?_⟩
  rw [Tryd.params8] at ht
  have hm := Array.mem_of_getElem? ht
  have hm : t = 29 := by
    simp at hm
    first | exact hm | (rcases hm with h | h | h <;> simp [h]) | (rcases hm with h | h <;> simp [h]) | simp [hm]
  subst hm
  · exact (show Tryd.prog.wantsStandIn 29 = false by kernel_rfl)
theorem card : Rows.RangesAlgebraCardSaid :=
  Claim7.holds_tied_plain_at .later [] _ _ _ _ said (fun _ h => by cases h) (by kernel_rfl) (fun _ h => by cases h) rangesAlgebra_row_tie rfl ⟨rfl, rfl⟩ (by kernel_rfl) rfl plain (by kernel_rfl)
#print axioms card
end Go.Proofs.YtjbfdbbmgbekiaaDoor.rangesAlgebra
