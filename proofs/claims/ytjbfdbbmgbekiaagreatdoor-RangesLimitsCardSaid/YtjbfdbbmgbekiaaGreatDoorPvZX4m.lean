/- Ranges: the statement on texts. -/
import Derived.Test.YtjbfdbbmgbekiaaGreatDoorPvZQm
set_option linter.unusedSimpArgs false
set_option linter.unusedVariables false
set_option linter.unusedSectionVars false
set_option maxHeartbeats 4000000
set_option maxRecDepth 20000
namespace Go.Pw.G7
open Go.Proofs Go.Pw
def c13 : St → Option (Prop × St)
  | [(.S 0, .av (.agg [.pv (.sl xs1)])), (.S 1, .av (.agg [.pv (.sl xs2)]))] => some (xs1 = gRows (gOf xs1) ∧ xs2 = gRows (gOf xs2) ∧ ((gOf xs1).length < 100000000 ∧ (gOf xs2).length < 100000000), [(.S 0, .av (.pv (.bool (decide ((gOf xs1) = (gOf xs2))))))])
  | _ => none
theorem p13 {In Ret : St} {pre : Prop} (h : c13 In = some (pre, Ret)) (hp : pre) : PCalls Tryz.prog 13 In Ret := by
  unfold c13 at h
  split at h
  · rename_i xs1 xs2
    cases h
    obtain ⟨e1, e2, hp⟩ := hp
    obtain ⟨l1, rfl⟩ : ∃ l, xs1 = gRows l := ⟨_, e1⟩
    obtain ⟨l2, rfl⟩ : ∃ l, xs2 = gRows l := ⟨_, e2⟩
    simp only [gOf_gRows] at hp ⊢
    exact t22 l1 l2 hp.1 hp.2
  · cases h
def c8 : St → Option (Prop × St)
  | [] => some ((True), [(.S 0, .av (.pv (.bool true)))])
  | _ => none
theorem p8 {In Ret : St} {pre : Prop} (h : c8 In = some (pre, Ret)) (hp : pre) : PCalls Tryz.prog 8 In Ret := by
  unfold c8 at h
  split at h
  · cases h
    exact known07
  · cases h
def c6 : St → Option (Prop × St)
  | [(.S 0, .av (.pv (.str t)))] => some (t.length ≤ 100000, [(.S 0, .av (.tup [gSet (parseL t).1, .pv (.int .i64 (parseL t).2.1), .pv (.int .i64 (parseL t).2.2)]))])
  | _ => none
theorem p6 {In Ret : St} {pre : Prop} (h : c6 In = some (pre, Ret)) (hp : pre) : PCalls Tryz.prog 6 In Ret := by
  unfold c6 at h
  split at h
  · cases h; exact t6p _ hp
  · cases h
end Go.Pw.G7
