/- Library functions on strings, by the kit's contracts. -/
import Derived.Test.YtjbfdbbmgbekiaaGreatDoorPvZJ
set_option linter.unusedSimpArgs false
set_option linter.unusedVariables false
set_option linter.unusedSectionVars false
set_option maxHeartbeats 4000000
namespace Go.Pw
open Go.Proofs Go.Shelf Go.RowKit Go.Sort
/-- a state that holds a result alone -/
theorem re_av {P : Program} {E : Env} {w : World} {ow : Ow} {a : AV} {v : Value} (hg : GlobOk w ow) (h : ∀ σ, a.rep (view w ow) E σ v) : RE P E (look [(.S 0, .av a)]) #[v] w ow := by
  have hn : ∀ k, k ≠ .S 0 → look [(.S 0, .av a)] k = .none := fun k hk => by
    simp only [look_cons]
    rw [if_neg (Ne.symm hk)]; rfl
  have h0 : look [(.S 0, .av a)] (.S 0) = .av a := by simp [look_cons]
  have hS : ∀ t, (look [(.S 0, .av a)] (.S t)) = if t = 0 then .av a else .none := fun t => by
    split
    · rename_i e; subst e; exact h0
    · rename_i e; exact hn _ (by simpa using e)
  have hno : ∀ k st o e xs, look [(.S 0, .av a)] k ≠ .rw st o e xs := fun k st o e xs hk => by
    by_cases e : k = .S 0
    · subst e; rw [h0] at hk; cases hk
    · rw [hn _ e] at hk; cases hk
  refine ⟨fun t => ?_, fun d => .inr (.inl (hn _ (by simp))), fun t => ?_, fun d st cs hd => ?_, fun k st e xs hk => (hno _ _ _ _ _ hk).elim, fun k st e xs hk => (hno _ _ _ _ _ hk).elim, hg⟩
  · rw [hS]; split <;> rfl
  · rw [hS]
    split
    · rename_i e; subst e; simpa [KV.slot] using h _
    · simp [KV.slot, AV.rep]
  · rw [hn _ (by simp)] at hd; cases hd
abbrev bs (s : List UInt8) : ByteArray := ⟨s.toArray⟩
section
variable {P : Program} {E : Env} {vals : Array Value} {w : World} {ow : Ow}
theorem arg_str {s : List UInt8} (hR : RE P E (look [(.S 0, .av (.pv (.str s)))]) vals w ow) (hsz : vals.size = 1) : vals = #[.string (bs s)] := by
  have h0 := hR.slot 0
  simp only [look_cons, if_true, KV.slot, AV.rep, PV.rep] at h0
  apply Array.ext
  · simpa using hsz
  · intro i hi hi'
    match i, hi' with
    | 0, _ => simpa [Array.getD_eq_getD_getElem?, hi] using h0
theorem arg_int {n : Int} (hR : RE P E (look [(.S 0, .av (.pv (.int .i64 n)))]) vals w ow) (hsz : vals.size = 1) : vals = #[.int .i64 n] := by
  have h0 := hR.slot 0
  simp only [look_cons, if_true, KV.slot, AV.rep, PV.rep] at h0
  apply Array.ext
  · simpa using hsz
  · intro i hi hi'
    match i, hi' with
    | 0, _ => simpa [Array.getD_eq_getD_getElem?, hi] using h0
theorem arg_str2 {s t : List UInt8} (hR : RE P E (look [(.S 0, .av (.pv (.str s))), (.S 1, .av (.pv (.str t)))]) vals w ow) (hsz : vals.size = 2) : vals = #[.string (bs s), .string (bs t)] := by
  have h0 := hR.slot 0
  have h1 := hR.slot 1
  simp only [look_cons, if_true, KV.slot, AV.rep, PV.rep] at h0 h1
  have h1 : vals.getD 1 Go.undef = .string (bs t) := by simpa [AV.rep, PV.rep] using h1
  apply Array.ext
  · simpa using hsz
  · intro i hi hi'
    match i, hi' with
    | 0, _ => simpa [Array.getD_eq_getD_getElem?, hi] using h0
    | 1, _ => simpa [Array.getD_eq_getD_getElem?, hi] using h1
end
theorem ent26 : entT Tryz.prog 26 = true := by kernel_rfl
theorem ent19 : entT Tryz.prog 19 = true := by kernel_rfl
theorem ent43 : entT Tryz.prog 43 = true := by kernel_rfl
theorem ent61 : entT Tryz.prog 61 = true := by kernel_rfl
theorem ent62 : entT Tryz.prog 62 = true := by kernel_rfl
theorem cells9 : Tryz.prog.cellsOf 9 = 1 := by kernel_rfl
theorem noBox {a : St} (h : ∀ j, look a (.B j) = .none) : ∀ j, j < 1000 → (∃ st cs, look a (.B j) = .bx st cs) → ∀ (E E' : Env), E'.β j = E.β j := by
  intro j _ ⟨st, cs, hh⟩; rw [h j] at hh; cases hh
/-- strconv.Itoa -/
theorem tItoa (n : Int) (h0 : -9223372036854775808 ≤ n) (h1 : n ≤ 9223372036854775807) : PCalls Tryz.prog 26 [(.S 0, .av (.pv (.int .i64 n)))] [(.S 0, .av (.pv (.str (Lib.itoa n))))] := by
  refine ⟨ent26, fun vals w ow E hR hsz => ?_⟩
  have := arg_int hR hsz
  subst this
  refine (Any.strconv_Itoa Tryz.itoa n h0 h1 w hR.glob.2.2.2).mono ?_
  rintro e w' ⟨rfl, k, os, rfl⟩
  have hev : Evo w ow (grow (w.drewN k) os) ow := by
    refine .of_below ⟨rfl, rfl, rfl, ?_, fun b hb => ?_⟩
    · simp [grow, World.drewN]
    · simp only [grow, World.drewN]
      rw [Array.getElem?_append_left (by simpa using hb)]
  exact ⟨_, ow, E, rfl, re_av (hR.glob.evo hev) (fun σ => by simp [AV.rep, PV.rep]), hev, fun _ _ _ => rfl⟩
/-- strings.Trim at an ASCII cutset -/
theorem tTrim (s cs : List UInt8) (hs : s.length ≤ 1000000) (hcs : cs.length < 1000) (ha : ∀ b ∈ cs, b.toNat < 128) : PCalls Tryz.prog 61 [(.S 0, .av (.pv (.str s))), (.S 1, .av (.pv (.str cs)))] [(.S 0, .av (.pv (.str (Lib.trimS s cs))))] := by
  refine ⟨ent61, fun vals w ow E hR hsz => ?_⟩
  have := arg_str2 hR hsz
  subst this
  refine (Any.strings_Trim_laid Tryz.trim (by kernel_rfl) (bs s) (bs cs) w (by rw [Lib.size_eq]; simp; omega) (by rw [Lib.size_eq]; simp; omega) (fun j b hb => ha b (List.mem_of_getElem? (by simpa using hb)))).mono ?_
  rintro e w' ⟨rfl, hb⟩
  exact ⟨_, ow, E, rfl, re_av (hR.glob.evo (.of_below hb)) (fun σ => by simp [AV.rep, PV.rep]), .of_below hb, fun _ _ _ => rfl⟩
theorem heap_alloc (w : World) (o : Obj) : (w.alloc o).heap = w.heap.push o := rfl
theorem below_bytes (w : World) (e : TypeId) (s : ByteArray) : Below w.heap.size w (Lib.bytesWorld w e s) := by
  unfold Lib.bytesWorld World.freeze
  rw [if_neg (by decide)]
  refine ⟨rfl, rfl, rfl, ?_, fun b hb => ?_⟩
  · dsimp only
    rw [Array.size_modify, heap_alloc, Array.size_push]
    exact Nat.le_succ _
  · dsimp only
    rw [Array.getElem?_modify, if_neg (by omega), heap_alloc, Array.getElem?_push]
    exact if_neg (by have : w.drew.heap.size = w.heap.size := rfl; omega)
/-- strconv.Atoi at a numeral -/
theorem tAtoi (s : List UInt8) (n : Int) (hl : s.length ≤ 18) (h : Lib.atoi s = some n) : PCalls Tryz.prog 62 [(.S 0, .av (.pv (.str s)))] [(.S 0, .av (.tup [.pv (.int .i64 n), .pv (.raw .nilIface)]))] := by
  refine ⟨ent62, fun vals w ow E hR hsz => ?_⟩
  have := arg_str hR hsz
  subst this
  refine (Any.strconv_Atoi Tryz.atoi (bs s) n (by rw [Lib.size_eq]; simpa using hl) (by simpa using h) w).mono ?_
  rintro e w' ⟨rfl, t, rfl⟩
  have hb := below_bytes w (Tryz.atoi_ren.t 5) t
  exact ⟨_, ow, E, rfl, re_av (hR.glob.evo (.of_below hb)) (fun σ => by simp [AV.rep, AV.repL, PV.rep, Value.oneCell']), .of_below hb, fun _ _ _ => rfl⟩
/-- strings.Cut -/
theorem tCut (s sep : List UInt8) (hs : s.length ≤ 1000000) : PCalls Tryz.prog 43 [(.S 0, .av (.pv (.str s))), (.S 1, .av (.pv (.str sep)))] [(.S 0, .av (.tup [.pv (.str (Lib.cut s sep).1), .pv (.str (Lib.cut s sep).2.1), .pv (.bool (Lib.cut s sep).2.2)]))] := by
  refine ⟨ent43, fun vals w ow E hR hsz => ?_⟩
  have := arg_str2 hR hsz
  subst this
  obtain ⟨m, hm⟩ := hR.glob.2.2.1
  refine (Any.strings_Cut Tryz.cut (bs s) (bs sep) m w (by rw [Lib.size_eq]; simp; omega) hm).mono ?_
  rintro e w' ⟨rfl, n, rfl⟩
  have hev : Evo w ow (w.drewN n) ow := .of_below ⟨rfl, rfl, rfl, Nat.le_refl _, fun b hb => rfl⟩
  exact ⟨_, ow, E, rfl, re_av (hR.glob.evo hev) (fun σ => by simp [AV.rep, AV.repL, PV.rep]), hev, fun _ _ _ => rfl⟩
/-- strings.Split at a separator that is not empty -/
theorem tSplit (s sep : List UInt8) (hs : s.length ≤ 1000000) (h1 : 1 ≤ sep.length) : PCalls Tryz.prog 19 [(.S 0, .av (.pv (.str s))), (.S 1, .av (.pv (.str sep)))] [(.S 0, .av (.pv (.sl (sRows (Lib.split s sep)))))] := by
  refine ⟨ent19, fun vals w ow E hR hsz => ?_⟩
  have := arg_str2 hR hsz
  subst this
  obtain ⟨m, hm⟩ := hR.glob.2.2.1
  refine (Any.strings_Split Tryz.split (by kernel_rfl) (bs s) (bs sep) m w (by rw [Lib.size_eq]; simp; omega) hm (by rw [Lib.size_eq]; simpa using h1)).mono ?_
  rintro e w' ⟨rfl, rfl⟩
  have hcnt : Lib.countB (bs s) (bs sep) = Lib.count s sep := rfl
  have hsp : (Lib.splitB (bs sep) 0 (Lib.countB (bs s) (bs sep)) (bs s)).map (·.data.toList) = Lib.split s sep := by
    rw [Lib.splitB_data, hcnt]; rfl
  have hlen := Lib.splitB_all (bs sep) (by rw [Lib.size_eq]; simpa using h1) 0 _ (bs s) rfl
  generalize hps : Lib.splitB (bs sep) 0 (Lib.countB (bs s) (bs sep)) (bs s) = ps at *
  let ow' : Ow := fun b => if b = w.heap.size then .imm else ow b
  have hev : Evo w ow (w.alloc (.cells (ps.map Value.string).toArray (Tryz.split_ren.t 9))) ow' := by
    refine ⟨rfl, rfl, rfl, ?_, fun b hb h => ?_, fun b hb h => ?_, fun h => by cases h⟩
    · rw [heap_alloc, Array.size_push]; omega
    · exact ⟨by rw [heap_alloc, Array.getElem?_push, if_neg (by omega)], by simp only [ow']; rw [if_neg (by omega)]; exact h⟩
    · exact ⟨by rw [heap_alloc, Array.getElem?_push, if_neg (by omega)], by simp only [ow']; rw [if_neg (by omega)]; exact h⟩
  refine ⟨_, ow', E, rfl, re_av (hR.glob.evo hev) (fun σ => ?_), hev, fun _ _ _ => rfl⟩
  have hh : (w.alloc (.cells (ps.map Value.string).toArray (Tryz.split_ren.t 9))).heap[w.heap.size]? = some (.cells (ps.map Value.string).toArray (Tryz.split_ren.t 9) (0, 0)) := by rw [heap_alloc, Array.getElem?_push, if_pos rfl]
  have key := sl_of_row (h := view (w.alloc (.cells (ps.map Value.string).toArray (Tryz.split_ren.t 9))) ow') (g := w.heap.size) (cap := Lib.countB (bs s) (bs sep) + 1) (cur := (ps.map Value.string).toArray) (s := 1) (xs := sRows (Lib.split s sep)) (fun o u hu => by
      unfold view
      rw [if_pos (by simp [ow'])]
      rw [cell_of_row _ _ o _ _ _ hh]
      exact hu) (fun i x hx => by
      rw [← hsp, List.getElem?_map, List.getElem?_map] at hx
      cases hp : ps[i]? with
      | none => rw [hp] at hx; cases hx
      | some q =>
        rw [hp] at hx
        cases hx
        refine ⟨rfl, fun j p hj => ?_⟩
        match j with
        | 0 =>
          simp at hj
          subst hj
          refine ⟨.string q, by simp [hp], rfl, ?_⟩
          simp [PV.rep]
        | j + 1 => simp at hj) (by rw [← hsp]; simp [hlen])
  have e2 : (sRows (Lib.split s sep)).length = Lib.countB (bs s) (bs sep) + 1 := by rw [← hsp]; simp [hlen]
  rw [e2] at key
  simpa [AV.rep] using key
end Go.Pw
