/- Library functions, by the kit's contracts: IndexByte, Fields, Sort of strings. -/
import Derived.Test.YtgnedmmecmpnpaaGreatDoorPuSB
import Derived.Test.YtgnedmmecmpnpaaGreatDoorPuCs
import Derived.Test.YtgnedmmecmpnpaaGreatDoorPwMCcCd
import Derived.Shelf.Sort.Plain
import Derived.Shelf.Slices.In.SortNone
set_option linter.unusedSimpArgs false
set_option linter.unusedVariables false
set_option linter.unusedSectionVars false
set_option maxHeartbeats 4000000
namespace Go.Pw
open Go.Proofs Go.Shelf Go.RowKit Go.Sort
theorem cells9 : Tryz.prog.cellsOf 9 = 1 := by kernel_rfl
theorem ent27 : entT Tryz.prog 181 = true := by kernel_rfl
theorem arg_sb {P : Program} {E : Env} {vals : Array Value} {w : World} {ow : Ow} {s : List UInt8} {c : Int} (hR : RE P E (look [(.S 0, .av (.pv (.str s))), (.S 1, .av (.pv (.int .u8 c)))]) vals w ow) (hsz : vals.size = 2) : vals = #[.string (bs s), .int .u8 c] := by
  have h0 := hR.slot 0
  have h1 := hR.slot 1
  simp only [look_cons, if_true, KV.slot, AV.rep, PV.rep] at h0 h1
  have h1 : vals.getD 1 Go.undef = .int .u8 c := by simpa [AV.rep, PV.rep] using h1
  apply Array.ext
  · simpa using hsz
  · intro i hi hi'
    match i, hi' with
    | 0, _ => simpa [Array.getD_eq_getD_getElem?, hi] using h0
    | 1, _ => simpa [Array.getD_eq_getD_getElem?, hi] using h1
theorem tIndexByte (s : List UInt8) (c : Int) : PCalls Tryz.prog 84 [(.S 0, .av (.pv (.str s))), (.S 1, .av (.pv (.int .u8 c)))] [(.S 0, .av (.pv (.int .i64 (Lib.indexByte s c.toNat.toUInt8))))] := by
  refine ⟨ent36, fun vals w ow E hR hsz => ?_⟩
  have := arg_sb hR hsz
  subst this
  refine (Any.strings_IndexByte Tryz.indexByte (bs s) c w).mono ?_
  rintro e w' ⟨rfl, rfl⟩
  exact ⟨_, ow, E, rfl, re_av hR.glob (fun σ => by simp [AV.rep, PV.rep]), Evo.refl _ _, fun _ _ _ => rfl⟩
/-- a state that holds an own row alone -/
theorem re_row {P : Program} {E : Env} {w : World} {ow : Ow} {v : Value} {e : TypeId} {xs : List (List PV)} (hg : GlobOk w ow) (hh : E.hdr (.RS 0 0) = v) (hv : ∃ a n c, v = .slice a n c) (hr : rowOk P (view w ow) w ow E.lab (.RS 0 0) e xs v) :
    RE P E (look [(.S 0, .av (.rf (.RS 0 0) 0)), (.RS 0 0, .rw 0 true e xs)]) #[v] w ow := by
  refine ⟨fun t => ?_, fun d => .inr (.inl (by simp [look_cons, look_nil])), fun t => ?_, fun d st cs hd => ?_, fun k st e' xs' hk => ?_, fun k st e' xs' hk => ?_, hg⟩
  · simp only [look_cons, look_nil]
    split
    · rfl
    · split
      · rename_i h; cases h
      · rfl
  · simp only [look_cons, look_nil]
    split
    · rename_i ht
      cases ht
      simp only [KV.slot, AV.rep]
      refine ⟨hv, 0, by simp [look_cons, KV.stamp], Nat.le_refl _, fun _ => hh.symm⟩
    · split
      · rename_i h; cases h
      · simp [KV.slot, AV.rep]
  · simp [look_cons, look_nil] at hd
  · simp only [look_cons, look_nil] at hk
    split at hk
    · cases hk
    · split at hk
      · rename_i h
        cases hk
        rw [← h, hh]
        exact hr
      · cases hk
  · simp only [look_cons, look_nil] at hk
    split at hk
    · cases hk
    · split at hk <;> cases hk
theorem tFields (s : List UInt8) (hs : s.length ≤ 1000000) (ha : ∀ b ∈ s, b.toNat < 128) (hf : (Lib.fields s).length ≤ 100000) : PCalls Tryz.prog 180 [(.S 0, .av (.pv (.str s)))] [(.S 0, .av (.rf (.RS 0 0) 0)), (.RS 0 0, .rw 0 true 9 (sRows (Lib.fields s)))] := by
  refine ⟨ent26, fun vals w ow E hR hsz => ?_⟩
  have := arg_str hR hsz
  subst this
  refine (Any.strings_Fields Tryz.fields (by kernel_rfl) (by kernel_rfl) (bs s) w (by rw [Lib.size_eq]; simp; omega) (fun j b hb => ha b (List.mem_of_getElem? (by simpa using hb))) hR.glob.2.2.2.1).mono ?_
  rintro e w' ⟨rfl, rfl⟩
  have hh0 : ∀ (o : Obj), (w.alloc o).heap = w.heap.push o := fun o => rfl
  have hdat : (bs s).data.toList = s := by simp
  rw [hdat]
  generalize hfs : Lib.fields s = fs at *
  let ow' : Ow := fun b => if b = w.heap.size then .mine else ow b
  let v : Value := .slice (some ⟨w.heap.size, 0, none⟩) fs.length fs.length
  let E' : Env := ⟨E.β, fun _ => v, fun b => if b = w.heap.size then some (.RS 0 0) else E.lab b⟩
  have hev : Evo w ow (w.alloc (.cells (fs.map fun l => Value.string ⟨l.toArray⟩).toArray (Tryz.fields_ren.t 9))) ow' := by
    refine ⟨rfl, rfl, rfl, ?_, fun b hb h => ?_, fun b hb h => ?_, fun h => by cases h⟩
    · rw [hh0, Array.size_push]; omega
    · exact ⟨by rw [hh0, Array.getElem?_push, if_neg (by omega)], by simp only [ow']; rw [if_neg (by omega)]; exact h⟩
    · exact ⟨by rw [hh0, Array.getElem?_push, if_neg (by omega)], by simp only [ow']; rw [if_neg (by omega)]; exact h⟩
  refine ⟨v, ow', E', rfl, re_row (hR.glob.evo hev) rfl ⟨_, _, _, rfl⟩ (.inr ⟨w.heap.size, fs.length, (fs.map fun l => Value.string ⟨l.toArray⟩).toArray, by simp [v], by simp [E'], by simp [ow'], ?_, by simp, ?_, ?_, ?_⟩), hev, fun _ _ _ => rfl⟩
  · rw [hh0, Array.getElem?_push, if_pos rfl]; rfl
  · unfold maxLen; omega
  · rw [cells9]; simp
  · intro i x hx
    rw [List.getElem?_map] at hx
    cases hp : fs[i]? with
    | none => rw [hp] at hx; cases hx
    | some q =>
      rw [hp] at hx
      cases hx
      refine ⟨by rw [cells9]; rfl, fun j p hj => ?_⟩
      match j with
      | 0 =>
        simp at hj
        subst hj
        rw [cells9]
        exact ⟨.string ⟨q.toArray⟩, by simp [hp], rfl, by simp [PV.rep]⟩
      | j + 1 => simp at hj
theorem holds_srow {l : List (List UInt8)} {w : World} {ow : Ow} {g : Nat} {cur : Array Value} (hblk : w.heap[g]? = some (.cells cur 9 (0, 0))) (hcells : cellsAre Tryz.prog (view w ow) 9 (sRows l) cur) : Holds encStr w g 0 l.toArray := by
  intro j hj
  have hj : j < l.length := by simpa using hj
  obtain ⟨h1, h2⟩ := hcells j [.str l[j]] (by simp [hj])
  obtain ⟨u, hu, _, hr⟩ := h2 0 (.str l[j]) rfl
  rw [cells9] at hu
  have e : l.toArray[j]! = l[j] := by simp [hj]
  rw [e]
  refine ⟨?_, ?_⟩
  · simp only [World.cell?, hblk, Nat.zero_add, Option.isSome_none, Bool.false_eq_true, if_false]
    rw [show j * 1 + 0 = j by omega] at hu
    rw [hu]
    simpa [PV.rep, encStr] using hr
  · simp [World.frozen?, hblk]
theorem put_scells {cur : Array Value} {ys : List (List UInt8)} (hc : ys.length ≤ cur.size) (h : View) : cellsAre Tryz.prog h 9 (sRows ys) (putCells encStr 0 ys.toArray cur) := by
  intro i x hx
  have hil : i < ys.length := by
    have := (List.getElem?_eq_some_iff.1 hx).1
    simpa using this
  have hx' : x = [.str ys[i]] := by simpa [hil] using hx.symm
  subst hx'
  refine ⟨by rw [cells9]; rfl, fun j p hp => ?_⟩
  have hj : j = 0 := by
    have := (List.getElem?_eq_some_iff.1 hp).1
    simpa using this
  subst hj
  refine ⟨encStr ys[i], ?_, rfl, by simp at hp; subst hp; simp [PV.rep, encStr]⟩
  rw [cells9, putCells, show i * 1 + 0 = i by omega, Array.getElem?_mapIdx, Array.getElem?_eq_getElem (by omega)]
  simp [hil]
theorem heap_sput {w : World} {g n : Nat} {cur : Array Value} {ys : Array (List UInt8)} {os : Array Obj} (hblk : w.heap[g]? = some (.cells cur 9 (0, 0))) : (grow (putRow encStr (Sort.ahead w n) g 0 ys) os).heap[g]? = some (.cells (putCells encStr 0 ys cur) 9 (0, 0)) ∧
    ∀ b, b < w.heap.size → b ≠ g → (grow (putRow encStr (Sort.ahead w n) g 0 ys) os).heap[b]? = w.heap[b]? := by
  have hsz : g < w.heap.size := by
    rcases Nat.lt_or_ge g w.heap.size with h | h
    · exact h
    · rw [Array.getElem?_eq_none h] at hblk; cases hblk
  constructor
  · simp only [grow, putRow, mapBlock, ahead]
    rw [Array.getElem?_append_left (by simpa using hsz), Array.getElem?_modify, if_pos rfl]
    show Option.map _ w.heap[g]? = _
    rw [hblk]
    rfl
  · intro b hb hne
    simp only [grow, putRow, mapBlock, ahead]
    rw [Array.getElem?_append_left (by simpa using hb), Array.getElem?_modify, if_neg (Ne.symm hne)]
    rfl
def srtS (l : List (List UInt8)) : List (List UInt8) := l.mergeSort fun x y => decide (x ≤ y)
theorem srtS_length (l : List (List UInt8)) : (srtS l).length = l.length := List.length_mergeSort _
theorem sortS_row (l : List (List UInt8)) (hl : l.length < 4611686018427387904) : RowFn Tryz.prog 181 9 (sRows l) [] (sRows (srtS l)) := by
  refine ⟨ent27, by simp [srtS_length], fun w ow E σ v vs hv hvs => ?_⟩
  obtain rfl : vs = [] := by simpa [AV.repL] using hvs
  have hnone : ∀ (p : Option Addr) (cap : Nat), l = [] → Calls Tryz.prog 181 [.slice p 0 cap].toArray w fun en w' => en = .returned (.tuple #[]) ∧ RowAfter Tryz.prog w ow 9 (sRows (srtS l)) (.slice p 0 cap) w' := by
    rintro p cap rfl
    refine (Any.slices_Sort_string_none Tryz.sortStrings p cap w).mono ?_
    rintro e w' ⟨rfl, rfl⟩
    exact ⟨rfl, rfl, rfl, rfl, fun _ => Nat.le_refl _, Nat.le_refl _, .inl ⟨by simp [srtS], fun _ _ => rfl⟩⟩
  rcases hv with ⟨hnil, a, rfl⟩ | ⟨g, cap, cur, rfl, hg, hblk, hc1, hc2, hc3, hcells⟩
  · exact hnone a 0 (by simpa using hnil)
  by_cases hnil : l = []
  · subst hnil; exact hnone _ _ rfl
  have hlen : (sRows l).length = l.length := by simp
  rw [hlen] at hc1 ⊢
  have hsz : g < w.heap.size := by
    rcases Nat.lt_or_ge g w.heap.size with h | h
    · exact h
    · rw [Array.getElem?_eq_none h] at hblk; cases hblk
  have hcs : cur.size = cap := by rw [hc3, cells9]; omega
  refine (Any.slices_Sort_string Tryz.sortStrings g 0 cap l w (holds_srow hblk hcells) hsz hl).mono ?_
  rintro e w' ⟨rfl, n, os, rfl⟩
  obtain ⟨k1, k2⟩ := heap_sput (w := w) (n := n) (ys := (srtS l).toArray) (os := os) hblk
  refine ⟨rfl, rfl, rfl, rfl, fun _ => ?_, ?_, .inr ⟨?_, g, l.length, cap, cur, _, rfl, hblk, k1, ?_, ?_, k2⟩⟩
  · show w.drawn ≤ w.drawn + n
    omega
  · simp [grow, putRow, mapBlock, ahead]
  · have := srtS_length l
    intro h0
    have h0 : srtS l = [] := by simpa using h0
    rw [h0] at this
    exact hnil (List.length_eq_zero_iff.1 this.symm)
  · simp [putCells]
  · exact put_scells (cur := cur) (ys := srtS l) (by rw [srtS_length]; omega) (view w ow)
end Go.Pw
