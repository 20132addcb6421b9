/- Library functions, by the kit's contracts. -/
import Derived.Test.YtgnedmmecmpnpaaGreatDoorPuSt
import Derived.Test.YtgnedmmecmpnpaaGreatDoorProg
import Derived.Test.YtgnedmmecmpnpaaGreatDoorPuSY
import Derived.Test.YtgnedmmecmpnpaaGreatDoorRows
import Derived.Shelf.Strconv.Itoa3
set_option linter.unusedSimpArgs false
set_option linter.unusedVariables false
set_option linter.unusedSectionVars false
set_option maxHeartbeats 4000000
namespace Go.Proofs
open Go.Shelf
theorem Tryz.joinX : Builder.Extra Tryz.prog Tryz.join_ren := { sizeBuilder := by kernel_rfl, liesBuilder := by kernel_rfl, t5 := Tryz.underlying5, a5 := Tryz.isAgg5, z5 := Tryz.sizeOf5, v5 := Tryz.zeroValue5, infoByte := by kernel_rfl, cellsByte := by kernel_rfl, sizeByte := by kernel_rfl, neB5 := by decide }
end Go.Proofs
namespace Go.Pw
open Go.Proofs Go.Shelf Go.RowKit Go.Sort
theorem re_one [Mode] {P : Program} {E : Env} {w : World} {ow : Ow} {p : PV} {v : Value} (hg : GlobOk w ow) (h : p.rep (view w ow) v) : RE P E (look [(.S 0, .av (.pv p))]) #[v] w ow := by
  have hn : ∀ k, k ≠ .S 0 → look [(.S 0, .av (.pv p))] k = .none := fun k hk => by
    simp only [look_cons]
    rw [if_neg (Ne.symm hk)]; rfl
  have h0 : look [(.S 0, .av (.pv p))] (.S 0) = .av (.pv p) := by simp [look_cons]
  have hS : ∀ t, (look [(.S 0, .av (.pv p))] (.S t)) = if t = 0 then .av (.pv p) else .none := fun t => by
    split
    · rename_i e; subst e; exact h0
    · rename_i e; exact hn _ (by simpa using e)
  have hno : ∀ k st o e xs, look [(.S 0, .av (.pv p))] k ≠ .rw st o e xs := fun k st o e xs hk => by
    by_cases e : k = .S 0
    · subst e; rw [h0] at hk; cases hk
    · rw [hn _ e] at hk; cases hk
  refine ⟨fun t => ?_, fun d => .inr (.inl (hn _ (by simp))), fun t => ?_, fun d st cs hd => ?_, fun k st e xs hk => (hno _ _ _ _ _ hk).elim, fun k st e xs hk => (hno _ _ _ _ _ hk).elim, hg⟩
  · rw [hS]; split <;> rfl
  · rw [hS]
    split
    · rename_i e; subst e; simpa [KV.slot, AV.rep] using h
    · simp [KV.slot, AV.rep]
  · rw [hn _ (by simp)] at hd; cases hd
/-- the name of strconv's table, as the rows list it -/
def tabName : String := match YtgnedmmecmpnpaaGreatDoor.Rows.syntaxWordsRow.laid with
  | _ :: _ :: x :: _ => x.1
  | _ => ""
/-- what is known of the package's variables: one of bytealg, the table of blanks, strconv's table -/
def baseL (w : World) : Prop := (∃ m, w.cell? ⟨1, 0, none⟩ = some (.int .i64 m)) ∧ Lib.TabIs Tryz.prog w "strings.asciiSpace" .u8 Lib.asciiSpaceTab ∧ Lib.TabIs Tryz.prog w tabName .u64 Lib.pow10Tab
theorem tabGlobal : Tryz.prog.globalNamed "strings.asciiSpace" = some 2 := by kernel_rfl
theorem tabGlobal0 : Tryz.prog.globalNamed tabName = some 0 := by kernel_rfl
theorem baseL_dep (w w' : World) (h : baseL w) (k : ∀ b, b < 3 → w'.heap[b]? = w.heap[b]?) : baseL w' := by
  obtain ⟨⟨m, h1⟩, h2, h3⟩ := h
  refine ⟨⟨m, ?_⟩, ?_, ?_⟩
  · unfold World.cell? at h1 ⊢
    simp only [k 1 (by decide)]
    exact h1
  · unfold Lib.TabIs World.var? at h2 ⊢
    rw [tabGlobal] at h2 ⊢
    simp only [Option.bind_some, k 2 (by decide)] at h2 ⊢
    exact h2
  · unfold Lib.TabIs World.var? at h3 ⊢
    rw [tabGlobal0] at h3 ⊢
    simp only [Option.bind_some, k 0 (by decide)] at h3 ⊢
    exact h3
instance : Mode where
  loose := true
  nG := 3
  base := baseL
  base_dep := baseL_dep
theorem Evo.of_below {w w' : World} {ow : Ow} (h : Below w.heap.size w w') : Evo w ow w' ow :=
  ⟨h.os, h.tape, h.output, h.size, fun b hb e => ⟨h.block b hb, e⟩, fun b hb e => ⟨h.block b hb, e⟩, fun h => by cases h⟩
abbrev sRows (l : List (List UInt8)) : List (List PV) := l.map fun s => [PV.str s]
theorem cells_of_repEs {w : World} {ow : Ow} {b : Nat} : ∀ {l : List (List UInt8)} {o s : Nat}, PV.repEs (view w ow) b o s (sRows l) → s = 1 ∨ l = []  → ∀ (j : Nat) (x : List UInt8), l[j]? = some x → w.cell? ⟨b, o + j, none⟩ = some (.string ⟨x.toArray⟩) ∧ b < w.heap.size
  | [], _, _, _, _, j, x, h => by simp at h
  | y :: l, o, s, h, hs, j, x, hx => by
    simp only [List.map_cons, PV.repEs, PV.repCs] at h
    obtain ⟨h1, ⟨⟨v, hv, hr⟩, _⟩, h3⟩ := h
    have h1 : s = 1 := by simpa using h1.symm
    subst h1
    simp only [PV.rep] at hr
    subst hr
    obtain ⟨hb, _, hc⟩ := view_lt hv
    match j with
    | 0 => simp at hx; subst hx; exact ⟨hc, hb⟩
    | j + 1 =>
      have := cells_of_repEs h3 (.inl rfl) j x (by simpa using hx)
      rw [show o + (j + 1) = o + 1 + j by omega]
      exact this
theorem ent37 : entT Tryz.prog 62 = true := by kernel_rfl
theorem t37j (l : List (List UInt8)) (sep : List UInt8) (hN : l.length ≤ 140737488355328) (hlen : (Lib.join l sep).length ≤ 140737488355328) :
    PCalls Tryz.prog 62 [(.S 0, .av (.pv (.sl (sRows l)))), (.S 1, .av (.pv (.str sep)))] [(.S 0, .av (.pv (.str (Lib.join l sep))))] := by
  refine ⟨ent37, fun vals w ow E hR hsz => ?_⟩
  have h0 := hR.slot 0
  have h1 := hR.slot 1
  have hsz : vals.size = 2 := hsz
  simp only [look_cons, if_true, KV.slot, AV.rep, PV.rep] at h0 h1
  have h0 : ∃ a n c, vals.getD 0 Go.undef = .slice a n c ∧ n = (sRows l).length ∧ n ≤ c ∧ (sRows l = [] ∨ ∃ b o s, a = some ⟨b, o, none⟩ ∧ PV.repEs (view w ow) b o s (sRows l)) := by simpa [PV.rep] using h0
  have h1 : vals.getD 1 Go.undef = .string ⟨sep.toArray⟩ := by simpa [AV.rep, PV.rep] using h1
  obtain ⟨a, n, c, e0, hn, hc, hd⟩ := h0
  have hn : n = l.length := by simpa using hn
  subst hn
  have hv : vals = #[.slice a l.length c, .string ⟨sep.toArray⟩] := by
    apply Array.ext
    · simpa using hsz
    · intro i hi hi'
      match i, hi' with
      | 0, _ => rw [← e0]; simp [hi]
      | 1, _ => rw [← h1]; simp [hi]
  subst hv
  have key : Calls Tryz.prog 62 #[.slice a l.length c, .string ⟨sep.toArray⟩] w fun e w' => e = .returned (.string ⟨(Lib.join l sep).toArray⟩) ∧ Below w.heap.size w w' := by
    by_cases hl : l = []
    · subst hl
      exact (Any.strings_Join_none Tryz.join Tryz.joinX a c ⟨sep.toArray⟩ w).mono fun e w' ⟨he, hw⟩ => ⟨by rw [he]; rfl, hw ▸ Below.refl _ _⟩
    · obtain ⟨b, o, s, rfl, hes⟩ := hd.resolve_left (by simpa using hl)
      have hs : s = 1 ∨ l = [] := by
        cases l with
        | nil => exact .inr rfl
        | cons y l => simp only [List.map_cons, PV.repEs] at hes; exact .inl (by simpa using hes.1.symm)
      have hcs := cells_of_repEs hes hs
      have hb : b < w.heap.size := by
        cases l with
        | nil => exact absurd rfl hl
        | cons y l => exact (hcs 0 y rfl).2
      have hmap : (l.map fun x => (⟨x.toArray⟩ : ByteArray)).map (·.data.toList) = l := by
        rw [List.map_map]
        exact (List.map_congr_left (fun x _ => by simp)).trans (List.map_id l)
      have := Any.strings_Join Tryz.join Tryz.joinX b o c (l.map fun x => ⟨x.toArray⟩) ⟨sep.toArray⟩ w (fun j x hx => by
          rw [List.getElem?_map] at hx
          cases hy : l[j]? with
          | none => rw [hy] at hx; cases hx
          | some y => rw [hy] at hx; cases hx; exact (hcs j y hy).1) hb (by simpa using hN) (by simpa using hc) (by rw [hmap]; simpa using hlen)
      rw [hmap] at this
      change Calls Tryz.prog 62 _ _ _ at this
      simpa using this
  refine key.mono ?_
  rintro e w' ⟨rfl, hbel⟩
  exact ⟨_, ow, E, rfl, re_one (hR.glob.evo (.of_below hbel)) (by simp [PV.rep]), .of_below hbel, fun _ _ _ => rfl⟩
theorem ent39 : entT Tryz.prog 104 = true := by kernel_rfl
theorem ent36 : entT Tryz.prog 84 = true := by kernel_rfl
theorem ent26 : entT Tryz.prog 180 = true := by kernel_rfl
/-- a state that holds a result alone -/
theorem re_av {P : Program} {E : Env} {w : World} {ow : Ow} {a : AV} {v : Value} (hg : GlobOk w ow) (h : ∀ σ, a.rep (view w ow) E σ v) : RE P E (look [(.S 0, .av a)]) #[v] w ow := by
  have hn : ∀ k, k ≠ .S 0 → look [(.S 0, .av a)] k = .none := fun k hk => by
    simp only [look_cons]
    rw [if_neg (Ne.symm hk)]; rfl
  have h0 : look [(.S 0, .av a)] (.S 0) = .av a := by simp [look_cons]
  have hS : ∀ t, (look [(.S 0, .av a)] (.S t)) = if t = 0 then .av a else .none := fun t => by
    split
    · rename_i e; subst e; exact h0
    · rename_i e; exact hn _ (by simpa using e)
  have hno : ∀ k st o e xs, look [(.S 0, .av a)] k ≠ .rw st o e xs := fun k st o e xs hk => by
    by_cases e : k = .S 0
    · subst e; rw [h0] at hk; cases hk
    · rw [hn _ e] at hk; cases hk
  refine ⟨fun t => ?_, fun d => .inr (.inl (hn _ (by simp))), fun t => ?_, fun d st cs hd => ?_, fun k st e xs hk => (hno _ _ _ _ _ hk).elim, fun k st e xs hk => (hno _ _ _ _ _ hk).elim, hg⟩
  · rw [hS]; split <;> rfl
  · rw [hS]
    split
    · rename_i e; subst e; simpa [KV.slot] using h _
    · simp [KV.slot, AV.rep]
  · rw [hn _ (by simp)] at hd; cases hd
abbrev bs (s : List UInt8) : ByteArray := ⟨s.toArray⟩
section
variable {P : Program} {E : Env} {vals : Array Value} {w : World} {ow : Ow}
theorem arg_str {s : List UInt8} (hR : RE P E (look [(.S 0, .av (.pv (.str s)))]) vals w ow) (hsz : vals.size = 1) : vals = #[.string (bs s)] := by
  have h0 := hR.slot 0
  simp only [look_cons, if_true, KV.slot, AV.rep, PV.rep] at h0
  apply Array.ext
  · simpa using hsz
  · intro i hi hi'
    match i, hi' with
    | 0, _ => simpa [Array.getD_eq_getD_getElem?, hi] using h0
theorem arg_int {n : Int} (hR : RE P E (look [(.S 0, .av (.pv (.int .i64 n)))]) vals w ow) (hsz : vals.size = 1) : vals = #[.int .i64 n] := by
  have h0 := hR.slot 0
  simp only [look_cons, if_true, KV.slot, AV.rep, PV.rep] at h0
  apply Array.ext
  · simpa using hsz
  · intro i hi hi'
    match i, hi' with
    | 0, _ => simpa [Array.getD_eq_getD_getElem?, hi] using h0
theorem arg_str2 {s t : List UInt8} (hR : RE P E (look [(.S 0, .av (.pv (.str s))), (.S 1, .av (.pv (.str t)))]) vals w ow) (hsz : vals.size = 2) : vals = #[.string (bs s), .string (bs t)] := by
  have h0 := hR.slot 0
  have h1 := hR.slot 1
  simp only [look_cons, if_true, KV.slot, AV.rep, PV.rep] at h0 h1
  have h1 : vals.getD 1 Go.undef = .string (bs t) := by simpa [AV.rep, PV.rep] using h1
  apply Array.ext
  · simpa using hsz
  · intro i hi hi'
    match i, hi' with
    | 0, _ => simpa [Array.getD_eq_getD_getElem?, hi] using h0
    | 1, _ => simpa [Array.getD_eq_getD_getElem?, hi] using h1
end
/-- strings.Cut -/
theorem tCut (s sep : List UInt8) (hs : s.length ≤ 1000000) : PCalls Tryz.prog 104 [(.S 0, .av (.pv (.str s))), (.S 1, .av (.pv (.str sep)))] [(.S 0, .av (.tup [.pv (.str (Lib.cut s sep).1), .pv (.str (Lib.cut s sep).2.1), .pv (.bool (Lib.cut s sep).2.2)]))] := by
  refine ⟨ent39, fun vals w ow E hR hsz => ?_⟩
  have := arg_str2 hR hsz
  subst this
  obtain ⟨m, hm⟩ := hR.glob.2.2.1
  refine (Any.strings_Cut Tryz.cut (bs s) (bs sep) m w (by rw [Lib.size_eq]; simp; omega) hm).mono ?_
  rintro e w' ⟨rfl, n, rfl⟩
  have hev : Evo w ow (w.drewN n) ow := .of_below ⟨rfl, rfl, rfl, Nat.le_refl _, fun b hb => rfl⟩
  exact ⟨_, ow, E, rfl, re_av (hR.glob.evo hev) (fun σ => by simp [AV.rep, AV.repL, PV.rep]), hev, fun _ _ _ => rfl⟩
theorem ent44 : entT Tryz.prog 44 = true := by kernel_rfl
/-- strconv.Itoa -/
theorem tItoa (n : Int) (h0 : -9223372036854775808 ≤ n) (h1 : n ≤ 9223372036854775807) : PCalls Tryz.prog 44 [(.S 0, .av (.pv (.int .i64 n)))] [(.S 0, .av (.pv (.str (Lib.itoa n))))] := by
  refine ⟨ent44, fun vals w ow E hR hsz => ?_⟩
  have := arg_int hR hsz
  subst this
  refine (Any.strconv_Itoa Tryz.itoa n h0 h1 w hR.glob.2.2.2.2).mono ?_
  rintro e w' ⟨rfl, k, os, rfl⟩
  have hev : Evo w ow (grow (w.drewN k) os) ow := by
    refine .of_below ⟨rfl, rfl, rfl, ?_, fun b hb => ?_⟩
    · simp [grow, World.drewN]
    · simp only [grow, World.drewN]
      rw [Array.getElem?_append_left (by simpa using hb)]
  exact ⟨_, ow, E, rfl, re_av (hR.glob.evo hev) (fun σ => by simp [AV.rep, PV.rep]), hev, fun _ _ _ => rfl⟩
end Go.Pw
