/- The library's Sort and Compact of numbers, over rows of our own. -/
import Derived.Test.YtjbfdbbmgbekiaaGreatDoorPvZD
import Derived.Test.YtjbfdbbmgbekiaaGreatDoorPwMCcCd
import Derived.Test.YtjbfdbbmgbekiaaGreatDoorPvCs
import Derived.Test.YtjbfdbbmgbekiaaGreatDoorPvSt
import Derived.Test.YtjbfdbbmgbekiaaGreatDoorPvZZ
import Derived.Shelf.Sort.Plain
import Derived.Shelf.Slices.CompactI
import Derived.Shelf.Slices.In.SortNone
set_option linter.unusedSimpArgs false
set_option linter.unusedVariables false
set_option linter.unusedSectionVars false
set_option maxHeartbeats 4000000
namespace Go.Pw
open Go.Proofs Go.Shelf Go.RowKit Go.Lib Go.Sort
theorem cells3 : Tryz.prog.cellsOf 3 = 1 := by kernel_rfl
theorem entSo : entT Tryz.prog 55 = true := by kernel_rfl
theorem entCo : entT Tryz.prog 56 = true := by kernel_rfl
section
variable [Mode]
abbrev vI : Int → Value := Value.int .i64
theorem holds_row {l : List Int} {w : World} {ow : Ow} {g : Nat} {cur : Array Value} (hblk : w.heap[g]? = some (.cells cur 3 (0, 0))) (hcells : cellsAre Tryz.prog (view w ow) 3 (iRows l) cur) : Holds vI w g 0 l.toArray := by
  intro j hj
  have hj : j < l.length := by simpa using hj
  obtain ⟨h1, h2⟩ := hcells j [.int .i64 l[j]] (by simp [iRows, hj])
  obtain ⟨u, hu, _, hr⟩ := h2 0 (.int .i64 l[j]) rfl
  rw [cells3] at hu
  have e : l.toArray[j]! = l[j] := by simp [hj]
  rw [e]
  refine ⟨?_, ?_⟩
  · simp only [World.cell?, hblk, Nat.zero_add, Option.isSome_none, Bool.false_eq_true, if_false]
    rw [show j * 1 + 0 = j by omega] at hu
    rw [hu]
    simpa [PV.rep] using hr
  · simp [World.frozen?, hblk]
theorem put_cells {cur : Array Value} {ys : List Int} {n : Nat} (hn : n ≤ ys.length) (hc : ys.length ≤ cur.size) (h : View) : cellsAre Tryz.prog h 3 (iRows (ys.take n)) (putCells vI 0 ys.toArray cur) := by
  intro i x hx
  have hi : i < n := by
    have := (List.getElem?_eq_some_iff.1 hx).1
    simp at this; omega
  have hil : i < ys.length := by omega
  have hx' : x = [.int .i64 ys[i]] := by simpa [iRows, hi, hil, List.getElem?_take] using hx.symm
  subst hx'
  refine ⟨by rw [cells3]; rfl, fun j p hp => ?_⟩
  have hj : j = 0 := by
    have := (List.getElem?_eq_some_iff.1 hp).1
    simpa using this
  subst hj
  refine ⟨.int .i64 ys[i], ?_, rfl, by simp at hp; subst hp; simp [PV.rep]⟩
  rw [cells3, putCells, show i * 1 + 0 = i by omega, Array.getElem?_mapIdx, Array.getElem?_eq_getElem (by omega)]
  simp [hil]
theorem heap_put {w : World} {g n : Nat} {cur : Array Value} {ys : Array Int} {os : Array Obj} (hblk : w.heap[g]? = some (.cells cur 3 (0, 0))) : (grow (putRow vI (Sort.ahead w n) g 0 ys) os).heap[g]? = some (.cells (putCells vI 0 ys cur) 3 (0, 0)) ∧
    ∀ b, b < w.heap.size → b ≠ g → (grow (putRow vI (Sort.ahead w n) g 0 ys) os).heap[b]? = w.heap[b]? := by
  have hsz : g < w.heap.size := by
    rcases Nat.lt_or_ge g w.heap.size with h | h
    · exact h
    · rw [Array.getElem?_eq_none h] at hblk; cases hblk
  constructor
  · simp only [grow, putRow, mapBlock, ahead]
    rw [Array.getElem?_append_left (by simpa using hsz), Array.getElem?_modify, if_pos rfl]
    show Option.map _ w.heap[g]? = _
    rw [hblk]
    rfl
  · intro b hb hne
    simp only [grow, putRow, mapBlock, ahead]
    rw [Array.getElem?_append_left (by simpa using hb), Array.getElem?_modify, if_neg (Ne.symm hne)]
    rfl
def srt (l : List Int) : List Int := l.mergeSort fun x y => decide (x ≤ y)
theorem srt_length (l : List Int) : (srt l).length = l.length := List.length_mergeSort _
theorem sortI_row (l : List Int) (hl : l.length < 4611686018427387904) : RowFn Tryz.prog 55 3 (iRows l) [] (iRows (srt l)) := by
  refine ⟨entSo, by simp [iRows, srt_length], fun w ow E σ v vs hv hvs => ?_⟩
  obtain rfl : vs = [] := by simpa [AV.repL] using hvs
  have hnone : ∀ (p : Option Addr) (cap : Nat), l = [] → Calls Tryz.prog 55 [.slice p 0 cap].toArray w fun en w' => en = .returned (.tuple #[]) ∧ RowAfter Tryz.prog w ow 3 (iRows (srt l)) (.slice p 0 cap) w' := by
    rintro p cap rfl
    refine (Any.slices_Sort_int_none Tryz.sortInts p cap w).mono ?_
    rintro e w' ⟨rfl, rfl⟩
    exact ⟨rfl, rfl, rfl, rfl, fun _ => Nat.le_refl _, Nat.le_refl _, .inl ⟨by simp [srt], fun _ _ => rfl⟩⟩
  rcases hv with ⟨hnil, a, rfl⟩ | ⟨g, cap, cur, rfl, hg, hblk, hc1, hc2, hc3, hcells⟩
  · exact hnone a 0 (by simpa [iRows] using hnil)
  by_cases hnil : l = []
  · subst hnil; exact hnone _ _ rfl
  have hlen : (iRows l).length = l.length := by simp [iRows]
  rw [hlen] at hc1 ⊢
  have hsz : g < w.heap.size := by
    rcases Nat.lt_or_ge g w.heap.size with h | h
    · exact h
    · rw [Array.getElem?_eq_none h] at hblk; cases hblk
  have hcs : cur.size = cap := by rw [hc3, cells3]; omega
  refine (Any.slices_Sort_int Tryz.sortInts g 0 cap l w (holds_row hblk hcells) hsz hl).mono ?_
  rintro e w' ⟨rfl, n, os, rfl⟩
  obtain ⟨k1, k2⟩ := heap_put (w := w) (n := n) (ys := (srt l).toArray) (os := os) hblk
  refine ⟨rfl, rfl, rfl, rfl, fun _ => ?_, ?_, .inr ⟨?_, g, l.length, cap, cur, _, rfl, hblk, k1, ?_, ?_, k2⟩⟩
  · show w.drawn ≤ w.drawn + n
    omega
  · simp [grow, putRow, mapBlock, ahead]
  · have := srt_length l
    intro h0
    have h0 : srt l = [] := by simpa [iRows] using h0
    rw [h0] at this
    exact hnil (List.length_eq_zero_iff.1 this.symm)
  · simp [putCells]
  · have := put_cells (cur := cur) (ys := srt l) (n := (srt l).length) (Nat.le_refl _) (by rw [srt_length]; omega) (view w ow)
    rwa [List.take_length] at this
theorem compact_len (l : List Int) : (Lib.compact l).length ≤ l.length := by
  unfold Lib.compact Lib.compactUpTo
  rw [List.length_map]
  exact Nat.le_trans (List.length_filter_le _ _) (by simp)
/-- the library's Compact: the row is given away, what is left stays -/
theorem tCompact (l : List Int) : PCalls Tryz.prog 56 [(.S 0, .av (.rf (.RS 0 0) 0)), (.RS 0 0, .rw 0 true 3 (iRows l))] [(.S 0, .av (.pv (.sl (iRows (Lib.compact l)))))] := by
  refine ⟨entCo, fun vals w ow E hR hn => ?_⟩
  have hn : vals.size = 1 := hn
  obtain ⟨v, rfl⟩ := Array.size_eq_one_iff.1 hn
  have hs := hR.slot 0
  simp only [look_cons, if_true, KV.slot, AV.rep, stOk] at hs
  obtain ⟨_, st', h1, h2, h3⟩ := hs
  have hst : st' = 0 := by simpa [look_cons, KV.stamp] using h1.symm
  have hhdr : v = E.hdr (.RS 0 0) := by simpa using h3 hst.symm
  have hrow := hR.own (.RS 0 0) 0 3 (iRows l) (by simp [look_cons])
  have hlen : (iRows l).length = l.length := by simp [iRows]
  have fin : ∀ (v' : Value) (w' : World) (ow' : Ow), GlobOk w' ow' → (PV.sl (iRows (Lib.compact l))).rep (view w' ow') v' → RE Tryz.prog E (look [(.S 0, .av (.pv (.sl (iRows (Lib.compact l)))))]) #[v'] w' ow' := by
    intro v' w' ow' hg hv
    refine ⟨fun t => ?_, fun d => .inr (.inl (by simp [look_cons, look_nil])), fun t => ?_, fun d st cs hd => ?_, fun k st e xs hk => ?_, fun k st e xs hk => ?_, hg⟩
    · simp only [look_cons, look_nil]; split <;> rfl
    · simp only [look_cons, look_nil]
      split
      · rename_i ht
        cases ht
        simpa [KV.slot, AV.rep] using hv
      · simp [KV.slot, AV.rep]
    · simp [look_cons, look_nil] at hd
    · simp only [look_cons, look_nil] at hk
      split at hk <;> cases hk
    · simp only [look_cons, look_nil] at hk
      split at hk <;> cases hk
  rcases hrow with ⟨hnil, a, ha⟩ | ⟨g, cap, cur, q1, q2, q3, q4, q5, q6, q7, q8⟩
  · have hl : l = [] := by simpa [iRows] using hnil
    subst hl
    rw [hhdr, ha]
    refine (Any.slices_Compact_int_empty Tryz.compactInts a 0 w).mono ?_
    rintro e w' ⟨rfl, rfl⟩
    exact ⟨_, ow, E, rfl, fin _ _ _ hR.glob (by simp only [PV.rep]; exact ⟨_, _, _, rfl, rfl, Nat.le_refl _, .inl rfl⟩), Evo.refl _ _, fun _ _ h => by obtain ⟨_, _, h⟩ := h; simp [look_cons, look_nil] at h⟩
  · have hcells : cellsAre Tryz.prog (view w ow) 3 (iRows l) cur := q8
    rw [hlen] at q1 q5
    have hcs : cur.size = cap := by rw [q7, cells3]; omega
    rw [hhdr, q1]
    refine (Any.slices_Compact_int Tryz.compactInts g 0 cap l w (holds_row q4 hcells) (by unfold maxLen at q6; omega) q5).mono ?_
    rintro e w' ⟨rfl, q, rfl⟩
    obtain ⟨k1, k2⟩ := heap_put (w := w) (n := q) (ys := (Lib.compact l ++ List.replicate (l.length - (Lib.compact l).length) 0).toArray) (os := #[]) q4
    have eg : grow (putRow vI (Sort.ahead w q) g 0 (Lib.compact l ++ List.replicate (l.length - (Lib.compact l).length) 0).toArray) #[] = putRow vI (Sort.ahead w q) g 0 (Lib.compact l ++ List.replicate (l.length - (Lib.compact l).length) 0).toArray := by unfold grow; rw [Array.append_empty]
    rw [eg] at k1 k2
    have hcl := compact_len l
    let ow' : Ow := fun b => if b = g then .imm else ow b
    have evo : Evo w ow (putRow vI (Sort.ahead w q) g 0 (Lib.compact l ++ List.replicate (l.length - (Lib.compact l).length) 0).toArray) ow' := by
      refine ⟨rfl, rfl, rfl, ?_, fun b hb h => ?_, fun b hb h => ?_, fun _ => Nat.le_add_right _ _⟩
      · simp [putRow, mapBlock, ahead]
      · have hne : b ≠ g := fun e => by rw [e, q3] at h; cases h
        exact ⟨k2 b hb hne, by simp only [ow']; rw [if_neg hne]; exact h⟩
      · have hne : b ≠ g := fun e => by rw [e, q3] at h; cases h
        exact ⟨k2 b hb hne, by simp only [ow']; rw [if_neg hne]; exact h⟩
    refine ⟨_, ow', E, rfl, fin _ _ _ (hR.glob.evo evo) ?_, evo, fun _ _ h => by obtain ⟨_, _, h⟩ := h; simp [look_cons, look_nil] at h⟩
    have hc := put_cells (cur := cur) (ys := Lib.compact l ++ List.replicate (l.length - (Lib.compact l).length) 0) (n := (Lib.compact l).length) (by simp) (by simp; omega) (view (putRow vI (Sort.ahead w q) g 0 (Lib.compact l ++ List.replicate (l.length - (Lib.compact l).length) 0).toArray) ow')
    rw [List.take_left'] at hc
    · have := sl_of_row (g := g) (cap := cap) (fun o u hu => by
        unfold view
        rw [if_pos (by simp [ow'])]
        rw [cell_of_row _ g o _ _ _ k1]
        exact hu) hc (by simp [iRows]; omega)
      simpa [iRows] using this
    · rfl
end
end Go.Pw
