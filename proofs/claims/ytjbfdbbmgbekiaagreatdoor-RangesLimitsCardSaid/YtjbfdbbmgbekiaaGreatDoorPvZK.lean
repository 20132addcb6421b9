/- The sort of ranges, as a function that turns a row of our own. -/
import Derived.Test.YtjbfdbbmgbekiaaGreatDoorPvZD
import Derived.Test.YtjbfdbbmgbekiaaGreatDoorPwMCcCd
import Derived.Test.YtjbfdbbmgbekiaaGreatDoorPvSt
import Derived.Test.YtjbfdbbmgbekiaaGreatDoorPvZY
set_option linter.unusedSimpArgs false
set_option linter.unusedVariables false
set_option linter.unusedSectionVars false
set_option maxHeartbeats 4000000
namespace Go.Pw
open Go.Proofs Go.Shelf Go.RowKit Go.Lib Go.Sort
def encG (x : Int × Int) : List Value := [.int .i64 x.1, .int .i64 x.2]
theorem argRep_agg2 {W : World} (x : Int × Int) : ArgRep W (.agg [.pv (.int .i64 x.1), .pv (.int .i64 x.2)]) (.agg #[.int .i64 x.1, .int .i64 x.2]) := ⟨rfl, fun E σ => by simp [AV.rep, AV.repL, PV.rep]⟩
abbrev strictMode : Mode := { loose := false }
theorem strictGlob (W : World) (ow : Ow) : @GlobOk strictMode W ow := ⟨Nat.zero_le _, fun b hb => absurd hb (Nat.not_lt_zero _), trivial⟩
theorem cmp_world (x y : Int × Int) (W : World) : Calls Tryz.prog 36 #[.agg #[.int .i64 x.1, .int .i64 x.2], .agg #[.int .i64 y.1, .int .i64 y.2]] W fun e w' => e = .returned (.int .i64 (cmpR x y)) ∧ ∃ q os', w' = grow (W.drewN q) os' := by
  letI : Mode := strictMode
  have hR : @RE strictMode Tryz.prog anyEnv (look (argSt 0 [.agg [.pv (.int .i64 x.1), .pv (.int .i64 x.2)], .agg [.pv (.int .i64 y.1), .pv (.int .i64 y.2)]])) #[.agg #[.int .i64 x.1, .int .i64 x.2], .agg #[.int .i64 y.1, .int .i64 y.2]] W (allImm W) := by
    refine re_args (strictGlob W _) (by rfl) fun i a v ha hv => ?_
    match i with
    | 0 => simp at ha hv; subst ha hv; exact argRep_agg2 x
    | 1 => simp at ha hv; subst ha hv; exact argRep_agg2 y
    | i + 2 => simp at ha
  refine ((@t47 strictMode x y).2 _ W (allImm W) anyEnv hR rfl).mono ?_
  rintro e w' ⟨v, ow', E', rfl, hR, hev, _⟩
  have hv := hR.slot 0
  simp only [look_cons, if_true, KV.slot, AV.rep, PV.rep] at hv
  have hv' : v = .int .i64 (cmpR x y) := by simpa using hv
  subst hv'
  have hd : W.drawn ≤ w'.drawn := @Evo.drawn strictMode _ _ _ _ hev rfl
  refine ⟨rfl, w'.drawn - W.drawn, w'.heap.extract W.heap.size w'.heap.size, ?_⟩
  have h1 := @Evo.os strictMode _ _ _ _ hev
  have h2 := @Evo.tape strictMode _ _ _ _ hev
  have h3 := @Evo.output strictMode _ _ _ _ hev
  have h4 := @Evo.size strictMode _ _ _ _ hev
  have h5 : ∀ b, b < W.heap.size → w'.heap[b]? = W.heap[b]? := fun b hb => (@Evo.imm strictMode _ _ _ _ hev b hb rfl).1
  have h6 : w'.heap = W.heap ++ w'.heap.extract W.heap.size w'.heap.size := by
    apply Array.ext_getElem?
    intro i
    rw [Array.getElem?_append]
    split
    · rename_i h; exact h5 i h
    · rename_i h
      rw [Array.getElem?_extract]
      split
      · congr 1; omega
      · rw [Array.getElem?_eq_none]; omega
  cases w'
  simp only [grow, World.drewN] at *
  subst h1 h2 h3
  congr 1
  omega

def leR (x y : Int × Int) : Bool := decide (x.1 < y.1) || (decide (x.1 = y.1) && decide (x.2 ≤ y.2))
def insR (x : Int × Int) : List (Int × Int) → List (Int × Int)
  | [] => [x]
  | y :: l => if leR x y then x :: y :: l else y :: insR x l
def insS : List (Int × Int) → List (Int × Int)
  | [] => []
  | x :: l => insR x (insS l)
def rowsG (l : List (Int × Int)) : List (List PV) := l.map fun x => [.int .i64 x.1, .int .i64 x.2]
theorem insR_perm (x : Int × Int) (l : List (Int × Int)) : (insR x l).Perm (x :: l) := by
  induction l with
  | nil => exact .refl _
  | cons y l ih =>
    simp only [insR]
    split
    · exact .refl _
    · exact (ih.cons y).trans (.swap x y l)
theorem insS_perm (l : List (Int × Int)) : (insS l).Perm l := by
  induction l with
  | nil => exact .refl _
  | cons y l ih => exact (insR_perm y _).trans (ih.cons y)
theorem leR_iff {x y : Int × Int} : leR x y = true ↔ (x.1 < y.1 ∨ (x.1 = y.1 ∧ x.2 ≤ y.2)) := by simp [leR]
theorem insR_sorted (x : Int × Int) (l : List (Int × Int)) (h : l.Pairwise fun a b => leR a b = true) : (insR x l).Pairwise fun a b => leR a b = true := by
  induction l with
  | nil => simp [insR]
  | cons y l ih =>
    rw [List.pairwise_cons] at h
    simp only [insR]
    split
    · rename_i hxy
      rw [List.pairwise_cons, List.pairwise_cons]
      refine ⟨fun z hz => ?_, h⟩
      rcases List.mem_cons.1 hz with rfl | hz
      · exact hxy
      · have := h.1 z hz
        rw [leR_iff] at *; omega
    · rename_i hxy
      rw [List.pairwise_cons]
      refine ⟨fun z hz => ?_, ih h.2⟩
      rcases List.mem_cons.1 ((insR_perm x l).mem_iff.1 hz) with rfl | hz
      · rw [leR_iff] at *; omega
      · exact h.1 z hz
theorem insS_sorted (l : List (Int × Int)) : (insS l).Pairwise fun a b => leR a b = true := by
  induction l with
  | nil => exact .nil
  | cons y l ih => exact insR_sorted y _ ih
theorem orL2 (a b : Int) : orL [a, b] = if a = 0 then b else a := by
  unfold orL
  by_cases h : a = 0
  · subst h
    by_cases k : b = 0
    · subst k; rfl
    · simp [k]
  · simp [h]
theorem ltOf_cmpR (x y : Int × Int) : ltOf cmpR x y = decide (x.1 < y.1 ∨ (x.1 = y.1 ∧ x.2 < y.2)) := by
  unfold ltOf
  rw [decide_eq_decide]
  unfold cmpR
  rw [orL2]
  unfold cmpI
  repeat' split
  all_goals omega
theorem cmpR_swo : SWO (ltOf cmpR) := by
  refine ⟨fun x => ?_, fun x y z => ?_, fun x y z => ?_⟩ <;> simp only [ltOf_cmpR, decide_eq_true_eq, decide_eq_false_iff_not] <;> omega
theorem mergeSort_insS (l : List (Int × Int)) : (l.mergeSort fun x y => !(ltOf cmpR) y x) = insS l := by
  have e : (fun x y => !(ltOf cmpR) y x) = leR := by
    funext x y
    rw [ltOf_cmpR, Bool.eq_iff_iff, leR_iff]
    simp only [Bool.not_eq_true', decide_eq_false_iff_not]
    omega
  rw [e]
  refine List.Perm.eq_of_pairwise (le := fun a b => leR a b = true) (fun a b _ _ h1 h2 => ?_) ?_ (insS_sorted l) ((List.mergeSort_perm _ _).trans (insS_perm l).symm)
  · rw [leR_iff] at *
    exact Prod.ext (by omega) (by omega)
  · refine List.pairwise_mergeSort (fun a b c h1 h2 => ?_) (fun a b => ?_) l
    · rw [leR_iff] at *; omega
    · rw [Bool.or_eq_true, leR_iff, leR_iff]; omega
theorem insS_length (l : List (Int × Int)) : (insS l).length = l.length := (insS_perm l).length_eq
theorem cells53 : Tryz.prog.cellsOf 41 = 2 := by kernel_rfl
theorem ent46 : entT Tryz.prog 35 = true := by kernel_rfl
theorem eg47 (args : Array Value) (w : World) : (callFunc 36 args).run Tryz.prog w = .ok (.enter 36 args) w := enters_of Tryz.func36 (by kernel_rfl) rfl args w
section
variable [Mode]
theorem flat_at {l : List (Int × Int)} {j : Nat} (h : j < l.length * 2) : ∃ x, l[j / 2]? = some x ∧ (flatK encG 2 l.toArray)[j]! = if j % 2 = 0 then .int .i64 x.1 else .int .i64 x.2 := by
  have hi : j / 2 < l.length := by omega
  refine ⟨l[j / 2], List.getElem?_eq_getElem hi, ?_⟩
  rw [get_flatK _ _ _ _ (by simpa using h)]
  have e : l.toArray[j / 2]! = l[j / 2] := by simp [hi]
  rw [e]
  rcases Nat.mod_two_eq_zero_or_one j with h | h <;> simp [h, encG]
theorem sort_row (l : List (Int × Int)) (hl : l.length < 4611686018427387904) : RowFn Tryz.prog 35 41 (rowsG l) [.pv (.raw (.func (.func 36) #[] #[]))] (rowsG (insS l)) := by
  refine ⟨ent46, by simp [rowsG, insS_length], fun w ow E σ v vs hv hvs => ?_⟩
  obtain ⟨rfl⟩ : vs = [.func (.func 36) #[] #[]] := by
    match vs, hvs with
    | [], h => exact absurd h (by simp [AV.repL])
    | [u], h => simp [AV.repL, AV.rep, PV.rep] at h; rw [h.1]
    | _ :: _ :: _, h => exact absurd h (by simp [AV.repL])
  have hnone : ∀ (p : Option Addr) (cap : Nat), l = [] → Calls Tryz.prog 35 [.slice p 0 cap, .func (.func 36) #[] #[]].toArray w fun en w' => en = .returned (.tuple #[]) ∧ RowAfter Tryz.prog w ow 41 (rowsG (insS l)) (.slice p 0 cap) w' := by
    rintro p cap rfl
    refine (AnyF.slices_SortFunc_none Tryz.sortRange p cap (.func (.func 36) #[] #[]) w).mono ?_
    rintro e w' ⟨rfl, rfl⟩
    exact ⟨rfl, rfl, rfl, rfl, fun _ => Nat.le_refl _, Nat.le_refl _, .inl ⟨rfl, fun _ _ => rfl⟩⟩
  rcases hv with ⟨hnil, a, rfl⟩ | ⟨g, cap, cur, rfl, hg, hblk, hc1, hc2, hc3, hcells⟩
  · exact hnone a 0 (by simpa [rowsG] using hnil)
  by_cases hnil : l = []
  · subst hnil; exact hnone _ _ rfl
  have hlen : (rowsG l).length = l.length := by simp [rowsG]
  rw [hlen] at hc1 ⊢
  have hsz : g < w.heap.size := by
    rcases Nat.lt_or_ge g w.heap.size with h | h
    · exact h
    · rw [Array.getElem?_eq_none h] at hblk; cases hblk
  have hH : HoldsK encG 2 w g 0 l.toArray := by
    intro j hj
    rw [size_flatK] at hj
    have hj : j < l.length * 2 := by simpa using hj
    obtain ⟨x, hx, he⟩ := flat_at hj
    obtain ⟨h1, h2⟩ := hcells (j / 2) [.int .i64 x.1, .int .i64 x.2] (by simp [rowsG, hx])
    obtain ⟨u, hu, _, hr⟩ := h2 (j % 2) (if j % 2 = 0 then .int .i64 x.1 else .int .i64 x.2) (by rcases Nat.mod_two_eq_zero_or_one j with h | h <;> simp [h])
    rw [cells53, show j / 2 * 2 + j % 2 = j by omega] at hu
    rw [he]
    refine ⟨?_, ?_⟩
    · simp only [World.cell?, hblk, Nat.zero_add, Option.isSome_none, Bool.false_eq_true, if_false, hu]
      congr 1
      rcases Nat.mod_two_eq_zero_or_one j with h | h <;> simpa [h, PV.rep] using hr
    · simp [World.frozen?, hblk]
  have h := AnyQ.slices_SortFunc_total Tryz.sortRange 2 Tryz.isAgg41 Tryz.sizeOf41 encG (fun _ => rfl) (fun x v hv => by simp [encG] at hv; rcases hv with rfl | rfl <;> rfl) cmpR cmpR_swo 36 #[] g 0 cap l.toArray w eg47
    (fun m os dk _ x y => cmp_world x y _) hH hsz (by simpa using hl) (fun x y h1 h2 => by
      simp only [ltOf_cmpR, decide_eq_false_iff_not] at h1 h2
      exact Prod.ext (by omega) (by omega))
  have h : Calls Tryz.prog 35 #[.slice (some ⟨g, 0, none⟩) l.length cap, .func (.func 36) #[] #[]] w fun e w' => e = .returned (.tuple #[]) ∧ ∃ n os, w' = sortWorldK encG 2 w g 0 n (insS l).toArray os := by
    rw [← mergeSort_insS]
    change Calls Tryz.prog 35 _ _ _ at h
    simpa using h
  refine h.mono ?_
  rintro e w' ⟨rfl, n, os, rfl⟩
  refine ⟨rfl, rfl, rfl, rfl, fun _ => ?_, ?_, .inr ⟨?_, g, l.length, cap, cur, putCells id 0 (flatK encG 2 (insS l).toArray) cur, rfl, hblk, ?_, ?_, ?_, ?_⟩⟩
  · show w.drawn ≤ w.drawn + n
    omega
  · simp [sortWorldK, grow, putRowK, ahead]
  · have := insS_length l
    intro h0
    have h0 : insS l = [] := by simpa [rowsG] using h0
    rw [h0] at this
    exact hnil (List.length_eq_zero_iff.1 this.symm)
  · simp only [sortWorldK, grow, putRowK, putRow, mapBlock, ahead]
    rw [Array.getElem?_append_left (by simpa using hsz), Array.getElem?_modify, if_pos rfl]
    show Option.map _ w.heap[g]? = _
    rw [hblk]
    rfl
  · simp [putCells]
  · intro i x hx
    have hi : i < (insS l).length := by
      have := (List.getElem?_eq_some_iff.1 hx).1
      simpa [rowsG] using this
    have hx' : x = [.int .i64 (insS l)[i].1, .int .i64 (insS l)[i].2] := by simpa [rowsG, hi] using hx.symm
    subst hx'
    refine ⟨by rw [cells53]; rfl, fun j p hp => ?_⟩
    rw [cells53]
    have hj : j < 2 := by simpa using (List.getElem?_eq_some_iff.1 hp).1
    have hil : i * 2 + j < (insS l).length * 2 := by omega
    obtain ⟨x, hx, he⟩ := flat_at hil
    rw [show (i * 2 + j) / 2 = i by omega, show (i * 2 + j) % 2 = j by omega] at *
    have hx : (insS l)[i] = x := by simpa [hi] using hx
    subst hx
    have hcur : i * 2 + j < cur.size := by
      rw [hc3, cells53]
      rw [insS_length] at hil
      omega
    refine ⟨if j = 0 then .int .i64 (insS l)[i].1 else .int .i64 (insS l)[i].2, ?_, ?_, ?_⟩
    · rw [putCells, Array.getElem?_mapIdx, Array.getElem?_eq_getElem hcur]
      rw [← he]
      simp only [Option.map_some, Nat.zero_le, true_and, Nat.zero_add, size_flatK, id, Nat.sub_zero]
      rw [if_pos (by simpa using hil)]
    · split <;> rfl
    · match j, hj with
      | 0, _ => simp at hp; subst hp; simp [PV.rep]
      | 1, _ => simp at hp; subst hp; simp [PV.rep]
  · intro b hb hne
    simp only [sortWorldK, grow, putRowK, putRow, mapBlock, ahead]
    rw [Array.getElem?_append_left (by simpa using hb), Array.getElem?_modify, if_neg (Ne.symm hne)]
    rfl
end
#print axioms sort_row
end Go.Pw
