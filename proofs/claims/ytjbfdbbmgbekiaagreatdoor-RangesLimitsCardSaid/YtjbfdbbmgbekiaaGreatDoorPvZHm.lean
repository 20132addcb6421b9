/- Ranges: the reference's Of, made, and the statement on Of. -/
import Derived.Test.YtjbfdbbmgbekiaaGreatDoorPvZGm
set_option linter.unusedSimpArgs false
set_option linter.unusedVariables false
set_option linter.unusedSectionVars false
set_option maxHeartbeats 4000000
set_option maxRecDepth 20000
namespace Go.Pw.G7
open Go.Proofs Go.Pw
theorem valid_le {l : List G} (h : l.any (fun g => !validG g) = false) : ∀ g ∈ l, 0 ≤ g.1 ∧ g.1 ≤ g.2 ∧ g.2 ≤ 1099511627776 := by
  intro g hg
  have := List.any_eq_false.1 h g hg
  simp [validG] at this
  omega
theorem ok_of {c : List G} (h : Canon c) (hc : c.length ≤ 4096) (hb : ∀ x, inS c x → 0 ≤ x ∧ x < 1099511627776) : okL c := by
  refine ⟨hc, fun g hg => ?_⟩
  have h1 := h.2 g hg
  have h2 := hb g.1 ⟨g, hg, by omega, h1⟩
  have h3 := hb (g.2 - 1) ⟨g, hg, by omega, by omega⟩
  omega
def c15 : St → Option (Prop × St)
  | [(.S 0, .av (.pv (.sl xs1)))] => some (xs1 = gRows (gOf xs1) ∧ ((gOf xs1).length < 100000000), [(.S 0, .av (.tup [gSet (ofG (gOf xs1)).1, .pv (.int .i64 (ofG (gOf xs1)).2)]))])
  | _ => none
theorem p15 {In Ret : St} {pre : Prop} (h : c15 In = some (pre, Ret)) (hp : pre) : PCalls Tryz.prog 15 In Ret := by
  unfold c15 at h
  split at h
  · rename_i xs1
    cases h
    obtain ⟨e1, hp⟩ := hp
    obtain ⟨l1, rfl⟩ : ∃ l, xs1 = gRows l := ⟨_, e1⟩
    simp only [gOf_gRows] at hp ⊢
    exact t26 l1 hp
  · cases h
end Go.Pw.G7
