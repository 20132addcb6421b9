/- strings.Join, by the kit's contract. -/
import Derived.Test.YtjbfdbbmgbekiaaGreatDoorPvSt
import Derived.Test.YtjbfdbbmgbekiaaGreatDoorProg
import Derived.Test.YtjbfdbbmgbekiaaGreatDoorRows
import Derived.Test.YtjbfdbbmgbekiaaGreatDoorPvZY
set_option linter.unusedSimpArgs false
set_option linter.unusedVariables false
set_option linter.unusedSectionVars false
set_option maxHeartbeats 4000000
namespace Go.Proofs
open Go.Shelf
theorem Tryz.joinX : Builder.Extra Tryz.prog Tryz.join_ren := { sizeBuilder := by kernel_rfl, liesBuilder := by kernel_rfl, t5 := Tryz.underlying5, a5 := Tryz.isAgg5, z5 := Tryz.sizeOf5, v5 := Tryz.zeroValue5, infoByte := by kernel_rfl, cellsByte := by kernel_rfl, sizeByte := by kernel_rfl, neB5 := by decide }
end Go.Proofs
namespace Go.Pw
open Go.Proofs Go.Shelf Go.RowKit
theorem re_one [Mode] {P : Program} {E : Env} {w : World} {ow : Ow} {p : PV} {v : Value} (hg : GlobOk w ow) (h : p.rep (view w ow) v) : RE P E (look [(.S 0, .av (.pv p))]) #[v] w ow := by
  have hn : ∀ k, k ≠ .S 0 → look [(.S 0, .av (.pv p))] k = .none := fun k hk => by
    simp only [look_cons]
    rw [if_neg (Ne.symm hk)]; rfl
  have h0 : look [(.S 0, .av (.pv p))] (.S 0) = .av (.pv p) := by simp [look_cons]
  have hS : ∀ t, (look [(.S 0, .av (.pv p))] (.S t)) = if t = 0 then .av (.pv p) else .none := fun t => by
    split
    · rename_i e; subst e; exact h0
    · rename_i e; exact hn _ (by simpa using e)
  have hno : ∀ k st o e xs, look [(.S 0, .av (.pv p))] k ≠ .rw st o e xs := fun k st o e xs hk => by
    by_cases e : k = .S 0
    · subst e; rw [h0] at hk; cases hk
    · rw [hn _ e] at hk; cases hk
  refine ⟨fun t => ?_, fun d => .inr (.inl (hn _ (by simp))), fun t => ?_, fun d st cs hd => ?_, fun k st e xs hk => (hno _ _ _ _ _ hk).elim, fun k st e xs hk => (hno _ _ _ _ _ hk).elim, hg⟩
  · rw [hS]; split <;> rfl
  · rw [hS]
    split
    · rename_i e; subst e; simpa [KV.slot, AV.rep] using h
    · simp [KV.slot, AV.rep]
  · rw [hn _ (by simp)] at hd; cases hd
/-- the name of strconv's table, as the rows list it -/
def tabName : String := match YtjbfdbbmgbekiaaGreatDoor.Rows.rangesTextsRow.laid with
  | _ :: _ :: x :: _ => x.1
  | _ => ""
/-- what is known of the package's variables: one of bytealg, and strconv's table -/
def baseZ (w : World) : Prop := (∃ m, w.cell? ⟨0, 0, none⟩ = some (.int .i64 m)) ∧ Lib.TabIs Tryz.prog w tabName .u64 Lib.pow10Tab
theorem tabGlobal : Tryz.prog.globalNamed tabName = some 1 := by kernel_rfl
theorem baseZ_dep (w w' : World) (h : baseZ w) (k : ∀ b, b < 2 → w'.heap[b]? = w.heap[b]?) : baseZ w' := by
  obtain ⟨⟨m, h1⟩, h2⟩ := h
  refine ⟨⟨m, ?_⟩, ?_⟩
  · unfold World.cell? at h1 ⊢
    simp only [k 0 (by decide)]
    exact h1
  · unfold Lib.TabIs World.var? at h2 ⊢
    rw [tabGlobal] at h2 ⊢
    simp only [Option.bind_some, k 1 (by decide)] at h2 ⊢
    exact h2
instance : Mode where
  loose := true
  nG := 2
  base := baseZ
  base_dep := baseZ_dep
theorem Evo.of_below {w w' : World} {ow : Ow} (h : Below w.heap.size w w') : Evo w ow w' ow :=
  ⟨h.os, h.tape, h.output, h.size, fun b hb e => ⟨h.block b hb, e⟩, fun b hb e => ⟨h.block b hb, e⟩, fun h => by cases h⟩
abbrev sRows (l : List (List UInt8)) : List (List PV) := l.map fun s => [PV.str s]
theorem cells_of_repEs {w : World} {ow : Ow} {b : Nat} : ∀ {l : List (List UInt8)} {o s : Nat}, PV.repEs (view w ow) b o s (sRows l) → s = 1 ∨ l = []  → ∀ (j : Nat) (x : List UInt8), l[j]? = some x → w.cell? ⟨b, o + j, none⟩ = some (.string ⟨x.toArray⟩) ∧ b < w.heap.size
  | [], _, _, _, _, j, x, h => by simp at h
  | y :: l, o, s, h, hs, j, x, hx => by
    simp only [List.map_cons, PV.repEs, PV.repCs] at h
    obtain ⟨h1, ⟨⟨v, hv, hr⟩, _⟩, h3⟩ := h
    have h1 : s = 1 := by simpa using h1.symm
    subst h1
    simp only [PV.rep] at hr
    subst hr
    obtain ⟨hb, _, hc⟩ := view_lt hv
    match j with
    | 0 => simp at hx; subst hx; exact ⟨hc, hb⟩
    | j + 1 =>
      have := cells_of_repEs h3 (.inl rfl) j x (by simpa using hx)
      rw [show o + (j + 1) = o + 1 + j by omega]
      exact this
theorem ent51 : entT Tryz.prog 27 = true := by kernel_rfl
theorem t51 (l : List (List UInt8)) (sep : List UInt8) (hN : l.length ≤ 140737488355328) (hlen : (Lib.join l sep).length ≤ 140737488355328) :
    PCalls Tryz.prog 27 [(.S 0, .av (.pv (.sl (sRows l)))), (.S 1, .av (.pv (.str sep)))] [(.S 0, .av (.pv (.str (Lib.join l sep))))] := by
  refine ⟨ent51, fun vals w ow E hR hsz => ?_⟩
  have h0 := hR.slot 0
  have h1 := hR.slot 1
  have hsz : vals.size = 2 := hsz
  simp only [look_cons, if_true, KV.slot, AV.rep, PV.rep] at h0 h1
  have h0 : ∃ a n c, vals.getD 0 Go.undef = .slice a n c ∧ n = (sRows l).length ∧ n ≤ c ∧ (sRows l = [] ∨ ∃ b o s, a = some ⟨b, o, none⟩ ∧ PV.repEs (view w ow) b o s (sRows l)) := by simpa [PV.rep] using h0
  have h1 : vals.getD 1 Go.undef = .string ⟨sep.toArray⟩ := by simpa [AV.rep, PV.rep] using h1
  obtain ⟨a, n, c, e0, hn, hc, hd⟩ := h0
  have hn : n = l.length := by simpa using hn
  subst hn
  have hv : vals = #[.slice a l.length c, .string ⟨sep.toArray⟩] := by
    apply Array.ext
    · simpa using hsz
    · intro i hi hi'
      match i, hi' with
      | 0, _ => rw [← e0]; simp [hi]
      | 1, _ => rw [← h1]; simp [hi]
  subst hv
  have key : Calls Tryz.prog 27 #[.slice a l.length c, .string ⟨sep.toArray⟩] w fun e w' => e = .returned (.string ⟨(Lib.join l sep).toArray⟩) ∧ Below w.heap.size w w' := by
    by_cases hl : l = []
    · subst hl
      exact (Any.strings_Join_none Tryz.join Tryz.joinX a c ⟨sep.toArray⟩ w).mono fun e w' ⟨he, hw⟩ => ⟨by rw [he]; rfl, hw ▸ Below.refl _ _⟩
    · obtain ⟨b, o, s, rfl, hes⟩ := hd.resolve_left (by simpa using hl)
      have hs : s = 1 ∨ l = [] := by
        cases l with
        | nil => exact .inr rfl
        | cons y l => simp only [List.map_cons, PV.repEs] at hes; exact .inl (by simpa using hes.1.symm)
      have hcs := cells_of_repEs hes hs
      have hb : b < w.heap.size := by
        cases l with
        | nil => exact absurd rfl hl
        | cons y l => exact (hcs 0 y rfl).2
      have hmap : (l.map fun x => (⟨x.toArray⟩ : ByteArray)).map (·.data.toList) = l := by
        rw [List.map_map]
        exact (List.map_congr_left (fun x _ => by simp)).trans (List.map_id l)
      have := Any.strings_Join Tryz.join Tryz.joinX b o c (l.map fun x => ⟨x.toArray⟩) ⟨sep.toArray⟩ w (fun j x hx => by
          rw [List.getElem?_map] at hx
          cases hy : l[j]? with
          | none => rw [hy] at hx; cases hx
          | some y => rw [hy] at hx; cases hx; exact (hcs j y hy).1) hb (by simpa using hN) (by simpa using hc) (by rw [hmap]; simpa using hlen)
      rw [hmap] at this
      change Calls Tryz.prog 27 _ _ _ at this
      simpa using this
  refine key.mono ?_
  rintro e w' ⟨rfl, hbel⟩
  exact ⟨_, ow, E, rfl, re_one (hR.glob.evo (.of_below hbel)) (by simp [PV.rep]), .of_below hbel, fun _ _ _ => rfl⟩
#print axioms t51
end Go.Pw
