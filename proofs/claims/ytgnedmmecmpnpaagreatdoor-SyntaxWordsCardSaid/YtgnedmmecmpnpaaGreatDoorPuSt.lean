/- From a statement's reading of its arguments to abstract states, and from a contract to the statement. -/
import Derived.Test.YtgnedmmecmpnpaaGreatDoorPwMST
import Derived.WalkKit
import Derived.ProofKit
import Derived.OpenShut
import Derived.Carry
namespace Go.Pw
variable [Mode]
open Go.ChangeShapes Go.WideShapes Go.ChangeAt Go.RowKit
set_option linter.unusedSimpArgs false
set_option linter.unusedVariables false
set_option linter.unusedSectionVars false
section
variable {H : Type} {enc : TypeId × Value → H} {P : Program} {W W' : World}
theorem trodAll_stays (hl : laidOutB P = true) (hsame : ∀ b, b < W.heap.size → W'.heap[b]? = W.heap[b]?) : ∀ {ts : List TypeId} {vs : List Value} {ds : List (DataW H)} {ps : List MemPlace}, (∀ t ∈ ts, P.readableRec t = true ∧ t < P.types.size) →
    DataW.TrodAll enc P W 0 (fun _ => true) true ts vs ds ps → ∀ {sp : Nat → Bool}, (∀ x ∈ ps, sp x.block = true) → DataW.TrodAll enc P W' 0 sp true ts vs ds ps
  | [], vs, ds, ps, _, h, sp, _ => by
    obtain ⟨rfl, rfl, rfl⟩ := trodAll_nil h
    simp [DataW.TrodAll]
  | t :: ts, vs, ds, ps, ht, h, sp, hs => by
    have hlt := h.lt
    obtain ⟨v, vs', d, ds', p, q, rfl, rfl, rfl, h1, h2⟩ := trodAll_cons h
    obtain ⟨r1, r2⟩ := ht t (by simp)
    refine ⟨p, q, WideElems.Trod_stays hl r1 r2 h1 (fun x hx => ?_) (fun x hx => hs x (by simp [hx])), trodAll_stays hl hsame (fun t h => ht t (by simp [h])) h2 (fun x hx => hs x (by simp [hx])), rfl⟩
    have hb := hlt x (by simp [hx])
    cases x with
    | cell b o => exact World.cell?_of_block (w := W) (hsame b hb)
    | map b => exact hsame b hb
/-- What a law's statement asks behind the call: true, and each argument as it was. -/
theorem law_post {f : Func} {s : ChangeSpec} {tb : TypeId} {args : Array Value} {ds gs : List (DataW H)} {before : List MemPlace} (hl : laidOutB P = true) (hts : ∀ t ∈ f.params.toList, P.readableRec t = true ∧ t < P.types.size)
    (hr : f.resultTypes = #[tb]) (hb : P.underlying tb = some .bool) (hvars : s.vars = [])
    (hW : DataW.Whole enc P f.params.toList s.vars false W args.toList ds gs before) (hs : s.fn H (ds ++ gs) = { results := [.lit (.bool true)], args := ds })
    (hos : W'.os = W.os) (hout : W'.output = W.output) (hsame : ∀ b, b < W.heap.size → W'.heap[b]? = W.heap[b]?) :
    s.post enc P f false true false false W args (.bool true) W' := by
  have hW' := hW
  obtain ⟨pa, pv, hA, hV, rfl, hfz, hnd⟩ := hW
  rw [hvars] at hV
  obtain ⟨rfl, rfl⟩ := trodVars_none hV
  have hlt := hA.lt
  simp only [List.append_nil] at hW' hs hfz hlt
  refine ⟨ds, [], pa, [], pa, [], by simpa using hW', ?_, ?_, ?_, ?_, fun h => by cases h⟩
  · rw [List.append_nil, hs, hr]
    exact trodAll_cons_mk (shut_bool hb true) trodAll_mk0
  · rw [List.append_nil, hs]
    exact trodAll_stays hl hsame hts hA fun x hx => by simpa using hlt x hx
  · rw [hvars, List.append_nil, hs]
    rfl
  · refine ⟨hos, hout, fun i hi => ?_⟩
    rw [hsame i hi]
    cases W.heap[i]? with
    | none => rfl
    | some o => cases o <;> simp
def allImm (W : World) : Ow := fun b => .imm
noncomputable def anyEnv : Env := ⟨fun _ => 0, fun _ => Go.undef, fun _ => none⟩
/-- arguments that are values -/
def argSt : Nat → List AV → St
  | _, [] => []
  | j, a :: as => (.S j, .av a) :: argSt (j + 1) as
def plainA : AV → Bool
  | .pv _ => true
  | .agg cs => cs.all fun | .pv _ => true | _ => false
  | _ => false
theorem look_argSt : ∀ {as : List AV} {j : Nat} {k : Key}, look (argSt j as) k = .none ∨ ∃ t a, k = .S t ∧ j ≤ t ∧ as[t - j]? = some a ∧ look (argSt j as) k = .av a
  | [], j, k => .inl rfl
  | a :: as, j, k => by
    simp only [argSt, look_cons]
    split
    · rename_i h
      exact .inr ⟨j, a, h.symm, Nat.le_refl _, by simp, rfl⟩
    · rcases look_argSt (as := as) (j := j + 1) (k := k) with h | ⟨t, b, h1, h2, h3, h4⟩
      · exact .inl h
      · refine .inr ⟨t, b, h1, by omega, ?_, h4⟩
        rw [show t - j = (t - (j + 1)) + 1 by omega]
        simpa using h3
theorem argSt_S : ∀ {as : List AV} {j t : Nat}, j ≤ t → look (argSt j as) (.S t) = match as[t - j]? with
    | some a => .av a
    | none => .none
  | [], j, t, _ => rfl
  | a :: as, j, t, h => by
    simp only [argSt, look_cons]
    by_cases e : j = t
    · subst e; simp
    · rw [if_neg (by simpa using e), argSt_S (as := as) (by omega), show t - j = (t - (j + 1)) + 1 by omega]
      simp
theorem arS_argSt : ∀ (as : List AV) (j : Nat), arS (argSt j as) = as.length
  | [], _ => rfl
  | a :: as, j => by simp only [argSt, arS, arS_argSt as, List.length_cons]
/-- an argument as the call finds it -/
def ArgRep (W : World) (a : AV) (v : Value) : Prop := plainA a = true ∧ ∀ (E : Env) (σ : Look), a.rep (view W (allImm W)) E σ v
theorem re_args {as : List AV} {vs : Array Value} (hg : GlobOk W (allImm W)) (hlen : as.length = vs.size) (h : ∀ (i : Nat) (a : AV) (v : Value), as[i]? = some a → vs[i]? = some v → ArgRep W a v) : RE P anyEnv (look (argSt 0 as)) vs W (allImm W) := by
  have hn : ∀ k, (∀ t, k ≠ .S t) → look (argSt 0 as) k = .none := fun k hk => by
    rcases look_argSt (as := as) (j := 0) (k := k) with h | ⟨t, _, h, _⟩
    · exact h
    · exact absurd h (hk t)
  refine ⟨fun t => ?_, fun d => .inr (.inl (hn _ (by simp))), fun t => ?_, fun d st cs hd => ?_, fun k st e xs hk => ?_, fun k st e xs hk => ?_, hg⟩
  · rcases look_argSt (as := as) (j := 0) (k := .S t) with h | ⟨_, _, _, _, _, h⟩ <;> rw [h] <;> rfl
  · rw [argSt_S (Nat.zero_le _)]
    simp only [Nat.sub_zero]
    cases ha : as[t]? with
    | none => simp [KV.slot, AV.rep]
    | some a =>
      have ht : t < vs.size := by rw [← hlen]; exact (List.getElem?_eq_some_iff.1 ha).1
      have := (h t a vs[t] ha (Array.getElem?_eq_getElem ht)).2 anyEnv (look (argSt 0 as))
      simp only [KV.slot, Array.getD_eq_getD_getElem?, Array.getElem?_eq_getElem ht, Option.getD_some]
      exact this
  · rw [hn _ (by simp)] at hd; cases hd
  · rcases look_argSt (as := as) (j := 0) (k := k) with h | ⟨t, a, rfl, _, _, h⟩
    · rw [h] at hk; cases hk
    · rw [h] at hk; cases hk
  · rcases look_argSt (as := as) (j := 0) (k := k) with h | ⟨t, a, rfl, _, _, h⟩
    · rw [h] at hk; cases hk
    · rw [h] at hk; cases hk
/-- The contract that a law's statement asks for, out of one over abstract states. -/
theorem law_calls {fid : FuncId} {f : Func} {s : ChangeSpec} {args : Array Value} {ds gs : List (DataW H)} {before : List MemPlace} {tb : TypeId} (hl : laidOutB P = true) (hts : ∀ t ∈ f.params.toList, P.readableRec t = true ∧ t < P.types.size)
    (hr : f.resultTypes = #[tb]) (hb : P.underlying tb = some .bool) (hvars : s.vars = [])
    (hW : DataW.Whole enc P f.params.toList s.vars false W args.toList ds gs before) (hs : s.fn H (ds ++ gs) = { results := [.lit (.bool true)], args := ds })
    (hg : GlobOk W (allImm W)) {avs : List AV} (hlen : avs.length = args.size) (ha : ∀ (i : Nat) (a : AV) (v : Value), avs[i]? = some a → args[i]? = some v → ArgRep W a v)
    (hc : PCalls P fid (argSt 0 avs) [(.S 0, .av (.pv (.bool true)))]) : Calls P fid args W fun e W' => ∃ v, e = .returned v ∧ s.post enc P f false true false false W args v W' := by
  refine (hc.2 args W (allImm W) anyEnv (re_args hg hlen ha) (by rw [arS_argSt, hlen])).mono ?_
  rintro e w' ⟨v, ow', E', rfl, hR, hev, _⟩
  refine ⟨v, rfl, ?_⟩
  have hv := hR.slot 0
  simp only [look_cons, if_true, KV.slot, AV.rep, PV.rep] at hv
  have hv' : v = .bool true := by simpa using hv
  subst hv'
  exact law_post hl hts hr hb hvars hW hs hev.os hev.output fun b hb => (hev.imm b hb rfl).1

/-! Readings of arguments. -/
theorem argRep_int {k : IntKind} {n : Int} : ArgRep W (.pv (.int k n)) (.int k n) := ⟨rfl, fun E σ => by simp [AV.rep, PV.rep]⟩
theorem argRep_bool {b : Bool} : ArgRep W (.pv (.bool b)) (.bool b) := ⟨rfl, fun E σ => by simp [AV.rep, PV.rep]⟩
theorem argRep_str {s : ByteArray} : ArgRep W (.pv (.str s.data.toList)) (.string s) := ⟨rfl, fun E σ => by cases s; simp [AV.rep, PV.rep]⟩
theorem repEs_mk {h : View} {b s : Nat} : ∀ {xs : List (List PV)} {o : Nat}, (∀ x ∈ xs, x.length = s) → (∀ (i : Nat) x, xs[i]? = some x → PV.repCs h b (o + i * s) x) → PV.repEs h b o s xs
  | [], o, _, _ => by simp [PV.repEs]
  | x :: xs, o, h1, h2 => by
    simp only [PV.repEs]
    refine ⟨h1 x (by simp), by simpa using h2 0 x rfl, repEs_mk (fun y hy => h1 y (by simp [hy])) fun i y hy => ?_⟩
    have := h2 (i + 1) y (by simpa using hy)
    rw [show o + (i + 1) * s = o + s + i * s by rw [Nat.add_mul]; omega] at this
    exact this
/-- a slice of integers -/
theorem argRep_ints {t e : TypeId} {k : IntKind} {base : Nat} {r : Reach} {v : Value} {d : DataW H} {ps : List MemPlace} (ht : P.underlying t = some (.slice e)) (he : P.underlying e = some (.int k)) (hc : P.cellsOf e = 1)
    (hval : Value.okWide P W r base t v) (hd : DataW.Trod enc P W 0 (fun _ => true) true t v d ps) :
    ∃ zs : List Int, ArgRep W (.pv (.sl (zs.map fun n => [.int k n]))) v ∧ zs.length ≤ maxLen ∧ (∀ n ∈ zs, (Lit.int k n).wf = true) ∧ ((d = .nil ∧ zs = []) ∨ ∃ rest, d = .slice (lits k zs) rest) := by
  obtain ⟨a0, len, cap, rfl⟩ := okWide_slice ht hval
  obtain ⟨fuel, hf⟩ := hd
  rcases open_ints ht he hc hf with ⟨hcs, hx⟩ | ⟨a, len', cap', zs, hcs, _, hl, hm, hz, hx, hcell, hw⟩
  · have hcs : a0 = none ∧ len = 0 ∧ cap = 0 := by simpa [Value.cells] using hcs
    obtain ⟨rfl, rfl, rfl⟩ := hcs
    refine ⟨[], ⟨rfl, fun E σ => ?_⟩, by simp, by simp, .inl ⟨by cases hx; rfl, rfl⟩⟩
    simp only [AV.rep, PV.rep]
    exact ⟨none, 0, 0, rfl, rfl, Nat.le_refl _, .inl rfl⟩
  · have hcs : a0 = some a ∧ len = len' ∧ cap = cap' := by simpa [Value.cells] using hcs
    obtain ⟨rfl, rfl, rfl⟩ := hcs
    have hz : zs.length = cap := by simpa using hz
    have hlt : (zs.take len).length = len := by rw [List.length_take]; omega
    refine ⟨zs.take len, ⟨rfl, fun E σ => ?_⟩, by omega, fun n hn => hw n (List.mem_of_mem_take hn), .inr ⟨lits k (zs.drop len), by cases hx; rfl⟩⟩
    simp only [AV.rep, PV.rep]
    refine ⟨some a, len, cap, rfl, by rw [List.length_map, hlt], hl, ?_⟩
    by_cases h0 : len = 0
    · left
      subst h0
      simp
    · right
      have hsp : a.spot = none := by
        have h := hcell 0 (by omega)
        unfold World.cell? at h
        split at h
        · split at h
          · cases h
          · rename_i hs
            simpa [Addr.add] using hs
        · cases h
      obtain ⟨b, o, sp⟩ := a
      simp only at hsp
      subst hsp
      refine ⟨b, o, 1, rfl, repEs_mk (fun x hx => ?_) fun i x hx => ?_⟩
      · obtain ⟨n, _, rfl⟩ := List.mem_map.1 hx
        rfl
      · rw [List.getElem?_map] at hx
        cases hi : (zs.take len)[i]? with
        | none => rw [hi] at hx; cases hx
        | some n =>
          rw [hi] at hx
          cases hx
          have hil : i < len := by rw [← hlt]; exact (List.getElem?_eq_some_iff.1 hi).1
          have hc := hcell i (by omega)
          have hn : zs.getD i 0 = n := by
            rw [List.getElem?_take_of_lt hil] at hi
            rw [List.getD, hi]; rfl
          rw [hn] at hc
          simp only [PV.repCs, and_true, Nat.mul_one]
          refine ⟨.int k n, ?_, by simp only [PV.rep]⟩
          simp only [view, allImm, if_true]
          rw [show (⟨b, o, none⟩ : Addr).add i = ⟨b, o + i, none⟩ by unfold Addr.add; split <;> simp_all] at hc
          exact hc
end
end Go.Pw
