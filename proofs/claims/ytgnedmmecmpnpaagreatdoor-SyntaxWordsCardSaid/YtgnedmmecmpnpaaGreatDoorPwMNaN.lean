/- Bytes converted, slices made, slices against nil: operations that read or write memory. -/
import Derived.Test.YtgnedmmecmpnpaaGreatDoorPuM
import Derived.Lib.ConvBytes
import Derived.Laws.MakeOwn
import Derived.MapKept
import Derived.Carry
namespace Go.Pw
variable [Mode]
set_option linter.unusedSimpArgs false
set_option linter.unusedVariables false
set_option linter.unusedSectionVars false

section
variable {P : Program} {ρ : Operand → AV} {ev : Operand → Value} {E : Env} {σ : Look} {tm : Array Value} {w w' : World} {ow : Ow}
/-- the world grows by blocks that nobody writes -/
theorem RE.grown (hR : RE P E σ tm w ow) (h1 : w'.os = w.os) (h2 : w'.tape = w.tape) (h3 : w'.output = w.output) (hd : Mode.loose = false → w.drawn ≤ w'.drawn) (h4 : w.heap.size ≤ w'.heap.size) (h5 : ∀ b, b < w.heap.size → w'.heap[b]? = w.heap[b]?) :
    let ow' : Ow := fun b => if b < w.heap.size then ow b else .imm
    RE P E σ tm w' ow' ∧ Ren (view w ow) (view w' ow') E E σ σ ∧ Evo w ow w' ow' := by
  intro ow'
  have evo : Evo w ow w' ow' := ⟨h1, h2, h3, h4, fun b hb h => ⟨h5 b hb, by simp only [ow']; rw [if_pos hb]; exact h⟩, fun b hb h => ⟨h5 b hb, by simp only [ow']; rw [if_pos hb]; exact h⟩, hd⟩
  have hC : Chg (fun _ => False) E E w w' ow ow' := ⟨evo, fun b k hb h1 h2 _ => ⟨h5 b hb, h1, by simp only [ow']; rw [if_pos hb]; exact h2⟩, fun _ _ => rfl, fun _ _ => rfl⟩
  have := RE.step (W := fun _ => False) (E' := E) (ow' := ow') (σ' := σ) (tm' := tm) hR hC (fun _ _ => rfl) (fun _ h => h.elim) (fun _ _ => rfl) (fun _ h => h.elim) (fun _ h => h.elim) (fun _ _ h => h.elim) (fun _ _ _ _ h => h.elim) (fun _ _ _ _ h => h.elim) (fun _ _ _ _ h => h.elim)
  exact ⟨this.1, this.2, evo⟩
/-- an own row's block gets another mark; the row is written no more -/
theorem RE.markFreeze {k : Key} {st : Nat} {e : TypeId} {xs : List (List PV)} {g cap : Nat} {cur : Array Value} {tag : Nat × Nat} (hR : RE P E σ tm w ow) (hk : σ k = .rw st true e xs) (hh : E.hdr k = .slice (some ⟨g, 0, none⟩) xs.length cap)
    (hlab : E.lab g = some k) (hmine : ow g = .mine) (hg : w.heap[g]? = some (.cells cur e (0, 0))) (hcap : xs.length ≤ cap)
    (hc : ∀ (i : Nat) (x : List PV), xs[i]? = some x → x.length = P.cellsOf e ∧ ∀ (j : Nat) (p : PV), x[j]? = some p → ∃ u, cur[i * P.cellsOf e + j]? = some u ∧ u.oneCell' = true ∧ p.rep (view w ow) u)
    (h1 : w'.os = w.os) (h2 : w'.tape = w.tape) (h3 : w'.output = w.output) (hd : Mode.loose = false → w.drawn ≤ w'.drawn) (h4 : w.heap.size = w'.heap.size) (h5 : ∀ b, b ≠ g → w'.heap[b]? = w.heap[b]?) (h6 : w'.heap[g]? = some (.cells cur e tag)) :
    ∃ ow', RE P E (updL σ [(k, .rw st false e xs)]) tm w' ow' ∧ Ren (view w ow) (view w' ow') E E σ (updL σ [(k, .rw st false e xs)]) ∧ Evo w ow w' ow' ∧ (PV.sl xs).rep (view w' ow') (E.hdr k) := by
  have hkS : ∀ t, k ≠ .S t := fun t e => by have := hR.sk t; rw [← e, hk] at this; simp [KV.stamp] at this
  let ow' : Ow := fun b => if E.lab b = some k ∧ ow b = .mine then .imm else ow b
  have hne : ∀ b, b = g → ow b = .mine := fun b e => by rw [e]; exact hmine
  have evo : Evo w ow w' ow' := by
    refine ⟨h1, h2, h3, by omega, fun b _ hb => ⟨h5 b (fun e => by rw [e, hmine] at hb; cases hb), ?_⟩, fun b _ hb => ⟨h5 b (fun e => by rw [e, hmine] at hb; cases hb), ?_⟩, hd⟩
    · simp only [ow']; split
      · rfl
      · exact hb
    · simp only [ow']; rw [if_neg (fun hh => by rw [hb] at hh; cases hh.2)]; exact hb
  have hC : Chg (fun q => q = k) E E w w' ow ow' :=
    ⟨evo, fun b q _ h1 h2 h3 => ⟨h5 b (fun e => by rw [e, hlab] at h1; exact h3 (Option.some.inj h1).symm), h1, by simp only [ow']; rw [if_neg (fun hh => h3 (by rw [h1] at hh; simpa using hh.1))]; exact h2⟩, fun _ _ => rfl, fun _ _ => rfl⟩
  have hsl : (PV.sl xs).rep (view w' ow') (E.hdr k) := by
    rw [hh]
    refine sl_of_row (cur := cur) (s := P.cellsOf e) (fun o u hu => ?_) (fun i x hx => ⟨(hc i x hx).1, fun j p hp => ?_⟩) hcap
    · unfold view
      rw [if_pos (by simp only [ow']; rw [if_pos ⟨hlab, hmine⟩])]
      unfold World.cell?
      rw [h6]
      exact hu
    · obtain ⟨u, hu1, hu2, hu3⟩ := (hc i x hx).2 j p hp
      exact ⟨u, hu1, hu2, PV.rep_mono evo.view p u hu3⟩
  have := RE.step (W := fun q => q = k) (E' := E) (ow' := ow') (σ' := updL σ [(k, .rw st false e xs)]) (tm' := tm) hR hC
    (fun q hq => by simp only [updL]; rw [if_neg (fun e => hq e.symm)])
    (fun q hq s hs => by
      subst hq
      rw [hk] at hs
      simp [KV.stamp] at hs
      subst hs
      exact ⟨st, by simp [updL, KV.stamp], Nat.le_refl _, fun _ => ⟨rfl, fun _ _ => rfl⟩⟩)
    (fun _ _ => rfl) (fun t ht => absurd ht.symm (hkS t)) (fun d hd => by subst hd; have := hR.bk d; rw [hk] at this; rcases this with ⟨_, _, h⟩ | h | ⟨_, h⟩ <;> cases h) (fun _ t ht => absurd ht.symm (hkS t))
    (fun _ d s cs hd h => by subst hd; simp [updL] at h)
    (fun q s e' ys hq h => by subst hq; simp [updL] at h)
    (fun q s e' ys hq h => by
      subst hq
      simp only [updL, if_true, KV.rw.injEq, true_and] at h
      obtain ⟨_, rfl, rfl⟩ := h
      exact ⟨hsl, fun x hx => by
        obtain ⟨i, hi⟩ := List.getElem?_of_mem hx
        exact (hc i x hi).1⟩)
  exact ⟨ow', this.1, this.2, evo, hsl⟩

theorem repEs_map {h : View} {b : Nat} : ∀ {l : List UInt8} {o : Nat}, (∀ i u, l[i]? = some u → h b (o + i) = some (.int .u8 u.toNat)) → PV.repEs h b o 1 (strCells l)
  | [], o, _ => by simp [strCells, PV.repEs]
  | u :: l, o, hl => by
    simp only [strCells, List.map_cons, PV.repEs, PV.repCs]
    refine ⟨rfl, ⟨⟨_, hl 0 u rfl, by simp [PV.rep]⟩, trivial⟩, ?_⟩
    exact repEs_map (l := l) fun i v hi => by
      have := hl (i + 1) v (by simpa using hi)
      rwa [show o + (i + 1) = o + 1 + i by omega] at this
theorem sto_convert {o : Oper} {src dst : TypeId} {x : Operand} {d : Nat} {e : Eff} (hR : RE P E σ tm w ow) (ho : o.op = .convert src dst x) (hd : o.dst = some d) (hlt : d < tm.size)
    (h : stoR P σ ρ (some d) (.convert src dst x) = some e) (hc : e.cond) (hx : (ρ x).rep (view w ow) E σ (ev x)) : EffOk P E σ tm w ow ev o e.wr := by
  have hop : ∀ (z : Value) (w2 : World), (Go.convert src dst (ev x)).run P w = .ok z w2 → (execOp ev o).run P w = .ok (.value z) w2 := by
    intro z w2 hz
    unfold execOp
    rw [ho]
    simp [hz]
  simp only [stoR] at h
  split at h
  · rename_i l he
    rw [he] at hx
    simp only [AV.rep, PV.rep] at hx
    split at h
    · rename_i hb
      simp only [Option.some.injEq] at h
      subst h
      obtain ⟨el, hb1, hb2⟩ := byteT_spec hb.1
      obtain ⟨ds, hds⟩ := Option.isSome_iff_exists.1 hb.2
      have hrun := Lib.run_convert_string_bytes (P := P) w src dst el ⟨l.toArray⟩ hds hb1 hb2
      obtain ⟨r1, r2, r3⟩ := RE.grown (w' := Lib.bytesWorld w el ⟨l.toArray⟩) hR rfl rfl rfl (fun _ => by show w.drawn ≤ w.drawn + 1; omega) (by rw [Lib.bytesWorld_size]; omega) (fun b hb => Lib.bytesWorld_at_old w el _ b hb)
      refine EffOk.val (wr := []) hd hlt (hop _ _ (by rw [hx]; exact hrun)) r3 r1 ?_ (fun _ _ => rfl)
      simp only [AV.rep, PV.rep]
      have hsz : (⟨l.toArray⟩ : ByteArray).size = l.length := by simp [ByteArray.size]
      refine ⟨_, _, _, rfl, by simp [strCells, hsz], by have := grownCap_ge w (⟨l.toArray⟩ : ByteArray).size 0 el; omega, .inr ⟨w.heap.size, 0, 1, rfl, repEs_map fun i u hi => ?_⟩⟩
      have hil : i < l.length := (List.getElem?_eq_some_iff.1 hi).1
      unfold view
      rw [if_pos (by simp)]
      have := Lib.bytesWorld_cell w el ⟨l.toArray⟩ i (by rw [hsz]; exact hil)
      rw [Nat.zero_add, this]
      simp [List.getD, hi]
    · cases h
  · rename_i k st he
    rw [he] at hx
    split at h
    · rename_i own e' xs hk
      have hk := rowAt_spec hk
      have hval := rf_hdr hx (by rw [hk]; rfl)
      obtain ⟨g0, a, n, c, g1, g2, g3, g4⟩ := row_cells hR hk
      split at h
      · rename_i hb
        split at h
        · rename_i l hl
          simp only [Option.some.injEq] at h
          subst h
          refine EffOk.val (wr := []) (a := .pv (.str l)) hd hlt (hop (.string ⟨l.toArray⟩) w ?_) (Evo.refl _ _) hR (by simp [AV.rep, PV.rep]) (fun _ _ => rfl)
          rw [hval, g1, g2]
          refine bytes_conv (s := 1) (h0 := view w ow) hb.2.1 hb.1 hl (g4.imp id ?_)
          rintro ⟨b, o, rfl, _, hh⟩
          exact ⟨b, o, rfl, rfl, fun i x hi j p hj => by have := hh i x hi j p hj; rwa [hb.2.2] at this⟩
        · cases h
      · split at h
        · rename_i hb
          obtain ⟨rfl, rfl, hb⟩ := hb
          simp only [Option.some.injEq] at h
          subst h
          simp only at hc
          obtain ⟨el, hb1, hb2⟩ := byteT_spec hb
          rcases hR.own k st e' xs hk with ⟨rfl, _⟩ | ⟨g, cap, cur, q1, q2, q3, q4, q5, q6, q7, q8⟩
          · simp at hc
          · have hlt2 : g < w.heap.size := (Array.getElem?_eq_some_iff.1 q4).1
            have hsh : w.shape? g = some (e', cur.size) := by unfold World.shape?; rw [q4]
            have hrun : (Go.convert src src (.slice (some ⟨g, 0, none⟩) xs.length cap)).run P w = .ok (.slice (some ⟨g, 0, none⟩) xs.length cap) (w.freeze ⟨g, cur.size, none⟩ 1) := by
              simp [Go.convert, run_underlying hb1, run_underlying hb2, markStringish, hsh]
            have hfz : ∀ b, b ≠ g → (w.freeze ⟨g, cur.size, none⟩ 1).heap[b]? = w.heap[b]? := by
              intro b hb
              simp [World.freeze, Array.getElem?_modify, Ne.symm hb]
            have hfg : (w.freeze ⟨g, cur.size, none⟩ 1).heap[g]? = some (.cells cur e' (cur.size, cur.size + 1)) := by
              simp [World.freeze, Array.getElem?_modify, q4]
            obtain ⟨ow', r1, r2, r3, r4⟩ := RE.markFreeze (w' := w.freeze ⟨g, cur.size, none⟩ 1) hR hk q1 q2 q3 q4 q5 q8 rfl rfl rfl (fun _ => by simp [World.freeze]) (by simp [World.freeze]) hfz hfg
            refine EffOk.val (wr := [(k, .rw st false e' xs)]) hd hlt (hop _ _ (by rw [hval, q1]; exact hrun)) r3 r1 ?_ (fun _ _ => rfl)
            simp only [AV.rep]
            rw [q1] at r4
            exact r4
        · cases h
    · cases h
  · cases h
theorem sto_nil {o : Oper} {op : BinOp} {t yt : TypeId} {x y : Operand} {d : Nat} {e : Eff} (hR : RE P E σ tm w ow) (ho : o.op = .binOp op t x y yt) (hd : o.dst = some d) (hlt : d < tm.size)
    (h : stoR P σ ρ (some d) (.binOp op t x y yt) = some e) (hev : ∀ v, ev (.const v) = v) (hx : (ρ x).rep (view w ow) E σ (ev x)) : EffOk P E σ tm w ow ev o e.wr := by
  simp only [stoR] at h
  split at h
  · rename_i hn
    split at h
    · rename_i k st he
      rw [he] at hx
      split at h
      · rename_i own e' xs hk
        have hk := rowAt_spec hk
        have hval := rf_hdr hx (by rw [hk]; rfl)
        obtain ⟨g0, a, n, c, g1, g2, g3, g4⟩ := row_cells hR hk
        split at h
        · rename_i c0 a0 hs
          simp only [Option.some.injEq] at h
          subst h
          have hz : ∃ z, (do eqGuard op t x y (ev x) (ev y); binOp op t (ev x) (ev y) : Sem Value).run P w = .ok z w ∧ a0.rep (view w ow) E σ z := by
            rw [isNilC_eval hev hn, hval, g1]
            unfold nilCmp at hs
            split at hs
            · rename_i ht
              split at hs
              · exact anyRes_sound hs ht a n c x y
              · rcases g4 with g4 | ⟨b, o2, rfl, _⟩
                · rename_i heq; rw [g4] at heq; cases heq
                · exact someRes_sound hs ht _ n c x y
              · rename_i heq; cases heq
              · cases hs
            · cases hs
          obtain ⟨z, z1, z2⟩ := hz
          refine EffOk.val (wr := []) hd hlt (w1 := w) (v := z) ?_ (Evo.refl _ _) hR z2 (fun _ _ => rfl)
          unfold execOp
          rw [ho]
          simp only
          rw [Sem.run_bind, z1]
          rfl
        · cases h
      · cases h
    · cases h
  · cases h
theorem sto_make {o : Oper} {t : TypeId} {len cap : Operand} {d : Nat} {e : Eff} (hR : RE P E σ tm w ow) (ho : o.op = .makeSlice t len cap) (hd : o.dst = some d) (hlt : d < tm.size)
    (h : stoR P σ ρ (some d) (.makeSlice t len cap) = some e) (hc : e.cond) (h1 : (ρ len).rep (view w ow) E σ (ev len)) (h2 : (ρ cap).rep (view w ow) E σ (ev cap)) : EffOk P E σ tm w ow ev o e.wr := by
  simp only [stoR] at h
  split at h
  · rename_i k1 n k2 m el e1 e2 hel
    rw [e1] at h1
    rw [e2] at h2
    simp only [AV.rep, PV.rep] at h1 h2
    split at h
    · rename_i z hz
      split at h
      · rename_i hsz
        simp only [Option.some.injEq] at h
        subst h
        obtain ⟨c1, c2, c3, c4⟩ := hc
        unfold zeroP at hz
        split at hz
        · rename_i za hza
          obtain ⟨p1, p2⟩ := toPVs_spec hz
          obtain ⟨i, zv, hi, hiz, hzs, his⟩ := zero_cells (P := P) (e := el) (by rw [hza]; simp [p1, hsz.1])
          have hby : i.bytes = P.bytesOf el := by simp [Program.bytesOf, hi]
          have hrun := run_make (P := P) w t el i zv (elemT_spec hel) hi hiz k1 k2 n m c1 c2 (by rw [hby]; exact c3) c4
          have hzc : ∀ (j : Nat) (p : PV), z[j]? = some p → ∃ u, zv.cells[j]? = some u ∧ u.oneCell' = true ∧ ∀ h : View, p.rep h u := by
            intro j p hj
            have hjl : j < z.length := (List.getElem?_eq_some_iff.1 hj).1
            have hza' : za = zv.cells.toList.map cAV := by
              unfold zeroA at hza
              rw [hi] at hza
              simp [hiz] at hza
              exact hza.symm
            have hjs : j < zv.cells.size := by rw [hzs, ← hsz.1]; exact hjl
            have hu : zv.cells[j]? = some zv.cells[j] := Array.getElem?_eq_getElem hjs
            have hpr : ∀ h : View, p.rep h zv.cells[j] := fun h => p2 j (cAV zv.cells[j]) p (by rw [hza']; simp [hjs]) hj _ h E σ (cAV_rep ..)
            exact ⟨_, hu, PV.one (hpr (view w ow)), hpr⟩
          have hcells : ∀ q, q < m.toNat * i.size → (madeCells zv.cells (m.toNat * i.size))[q]? = zv.cells[q % zv.cells.size]? := by
            intro q hq
            have hpos : 0 < zv.cells.size := by rw [hzs]; omega
            unfold madeCells
            rw [Array.getElem?_map, Array.getElem?_range, if_pos hq]
            simp only [Option.map_some]
            have := Nat.mod_lt q hpos
            rw [getElem!_pos zv.cells (q % zv.cells.size) this, Array.getElem?_eq_getElem this]
          have hle : n.toNat ≤ m.toNat := by omega
          obtain ⟨E', ow', s1, s2, s3, s4, s5⟩ := RE.newRow (K := .RS d 0) (e := el) (xs := List.replicate n.toNat z) (cur := madeCells zv.cells (m.toNat * i.size)) (cap := m.toNat) hR rfl (by simpa using hle) (by unfold maxLen; omega)
            (by rw [size_madeCells, his])
            (fun q x hx => by
              rw [List.getElem?_replicate] at hx
              split at hx
              · rename_i hq
                simp only [Option.some.injEq] at hx
                subst hx
                refine ⟨hsz.1, fun j p hj => ?_⟩
                obtain ⟨u, u1, u2, u3⟩ := hzc j p hj
                have hjl : j < z.length := (List.getElem?_eq_some_iff.1 hj).1
                refine ⟨u, ?_, u2, u3 _⟩
                rw [hcells, hzs]
                · rw [show (q * P.cellsOf el + j) % P.cellsOf el = j by rw [Nat.add_comm, Nat.add_mul_mod_self_right, Nat.mod_eq_of_lt (by omega)]]
                  exact u1
                · rw [his]
                  have : (q + 1) * P.cellsOf el ≤ m.toNat * P.cellsOf el := Nat.mul_le_mul_right _ (by omega)
                  rw [Nat.add_mul] at this
                  omega
              · cases hx)
          refine EffOk.val (wr := [(.RS d 0, .rw (nst (σ (.RS d 0))) true el (List.replicate n.toNat z))]) hd hlt (w1 := w.alloc (.cells (madeCells zv.cells (m.toNat * i.size)) el)) (v := .slice (some ⟨w.heap.size, 0, none⟩) n.toNat m.toNat) ?_ s3 s1 ?_ (fun b _ => congrFun s5 b)
          · unfold execOp
            rw [ho]
            simp [h1, h2, hrun]
          · simp only [AV.rep]
            exact ⟨⟨_, _, _, rfl⟩, _, by simp [updL, KV.stamp], Nat.le_refl _, fun _ => by rw [s4, List.length_replicate]⟩
        · cases hz
      · cases h
    · cases h
  · cases h

theorem repL_app {h : View} {E : Env} {σ : Look} {b : List AV} {m : List Value} (hb : AV.repL h E σ b m) : ∀ {a : List AV} {l : List Value}, AV.repL h E σ a l → AV.repL h E σ (a ++ b) (l ++ m)
  | [], l, ha => by
    simp only [AV.repL] at ha
    subst ha
    exact hb
  | x :: a, l, ha => by
    simp only [AV.repL] at ha
    obtain ⟨v, vs, rfl, h1, h2⟩ := ha
    exact ⟨v, vs ++ m, rfl, h1, repL_app hb h2⟩
theorem mapT_spec {t e : TypeId} (h : mapT P t = some e) : ∃ k, P.underlying t = some (.map k e) ∧ P.underlying k = some .string := by
  unfold mapT at h
  split at h
  · rename_i k e' hu
    split at h
    · rename_i hk
      cases h
      refine ⟨k, hu, ?_⟩
      unfold strT at hk
      split at hk
      · assumption
      · cases hk
    · cases h
  · cases h
theorem findNow_str (s : List UInt8) : ∀ (ks : List (List UInt8)) (l : List MapEntry) (i : Nat), l.map (·.key) = ks.map (fun k => Value.string ⟨k.toArray⟩) →
    Instr.findNow .string (.string ⟨s.toArray⟩) l i = some (match findK ks s with
      | some j => (l[j]?).map fun e => (i + j, e.val)
      | none => none)
  | [], [], i, _ => rfl
  | [], _ :: _, i, h => by cases h
  | _ :: _, [], i, h => by cases h
  | k :: ks, e :: l, i, h => by
    simp only [List.map_cons, List.cons.injEq] at h
    have ih := findNow_str s ks l (i + 1) h.2
    have hsn : Instr.sameNow .string (.string ⟨s.toArray⟩) e.key = some (decide (k = s)) := by
      rw [h.1]
      simp only [Instr.sameNow, Option.some.injEq]
      rw [Bool.eq_iff_iff, Go.MapKept.bytes_beq, decide_eq_true_eq]
      constructor
      · intro h; have := congrArg (fun b : ByteArray => b.data.toList) h; simpa using this.symm
      · rintro rfl; rfl
    unfold Instr.findNow
    rw [hsn]
    unfold findK
    by_cases hks : k = s
    · simp [hks]
    · simp only [hks, decide_false, if_false]
      rw [ih]
      cases findK ks s with
      | none => rfl
      | some j =>
        simp only [Option.map_some, List.getElem?_cons_succ]
        congr 1
        cases l[j]? with
        | none => rfl
        | some e' => simp only [Option.map_some, Option.some.injEq, Prod.mk.injEq, and_true]; omega
theorem run_mapInsert {t k e : TypeId} (hm : P.underlying t = some (.map k e)) (hk : P.underlying k = some .string) {r clock : Nat} {es : Array MapEntry} (hb : w.heap[r]? = some (.map es clock)) (s : List UInt8) (v : Value)
    (hf : Instr.findNow .string (.string ⟨s.toArray⟩) es.toList 0 = some none) :
    (Instr.mapUpdate t (.map (some r)) (.string ⟨s.toArray⟩) v).run P w = .ok () { w with heap := w.heap.setIfInBounds r (.map (es.push { key := .string ⟨s.toArray⟩, val := v, born := clock }) (clock + 1)) } := by
  unfold Instr.mapUpdate
  simp only [Sem.run_bind, run_underlying hm, Result.andThen, Go.MapKept.run_getObj_map hb]
  rw [Go.MapKept.run_checkKey hk (by trivial)]
  simp only [Result.andThen]
  rw [Go.MapKept.run_findKey hk hf]
  simp only [Result.andThen]
  exact Go.MapKept.run_setObj_map _ hb
theorem run_mapLook {t k e : TypeId} (hm : P.underlying t = some (.map k e)) (hk : P.underlying k = some .string) {r clock : Nat} {es : Array MapEntry} (hb : w.heap[r]? = some (.map es clock)) (s : List UInt8) {i : Nat} {v : Value}
    (hf : Instr.findNow .string (.string ⟨s.toArray⟩) es.toList 0 = some (some (i, v))) (ok : Bool) :
    (Instr.lookup t (.map (some r)) (.string ⟨s.toArray⟩) ok).run P w = .ok (if ok = true then .tuple #[v, .bool true] else v) w := by
  unfold Instr.lookup
  simp only [Sem.run_bind, run_underlying hm, Result.andThen, Go.MapKept.run_getObj_map hb, Sem.run_pure]
  rw [Go.MapKept.run_checkKey hk (by trivial)]
  simp only [Result.andThen]
  rw [Go.MapKept.run_findKey hk hf]
  cases ok <;> rfl
theorem run_mapMiss {t k e : TypeId} (hm : P.underlying t = some (.map k e)) (hk : P.underlying k = some .string) {r clock : Nat} {es : Array MapEntry} (hb : w.heap[r]? = some (.map es clock)) (s : List UInt8) {v : Value}
    (hf : Instr.findNow .string (.string ⟨s.toArray⟩) es.toList 0 = some none) (hz : (zeroValue e).run P w = .ok v w) (ok : Bool) :
    (Instr.lookup t (.map (some r)) (.string ⟨s.toArray⟩) ok).run P w = .ok (if ok = true then .tuple #[v, .bool false] else v) w := by
  unfold Instr.lookup
  simp only [Sem.run_bind, run_underlying hm, Result.andThen, Go.MapKept.run_getObj_map hb, Sem.run_pure]
  rw [Go.MapKept.run_checkKey hk (by trivial)]
  simp only [Result.andThen]
  rw [Go.MapKept.run_findKey hk hf]
  simp only [Result.andThen, Sem.run_bind, Sem.run_pure, hz]
theorem okRes_rep {h : View} {a : AV} {v : Value} (ha : a.rep h E σ v) (ok b : Bool) : (okRes ok a b).rep h E σ (if ok = true then .tuple #[v, .bool b] else v) := by
  cases ok with
  | false => exact ha
  | true => exact ⟨[v, .bool b], rfl, v, _, rfl, ha, _, _, rfl, rfl, rfl⟩
theorem zeroV_sound {h : View} {t : TypeId} {z : AV} (hz : zeroV P t = some z) : ∃ v, (zeroValue t).run P w = .ok v w ∧ z.rep h E σ v := by
  unfold zeroV at hz
  cases hi : P.info? t with
  | none => simp [hi] at hz
  | some i =>
    cases hv : i.zero with
    | none => simp [hi, hv] at hz
    | some v =>
      simp [hi, hv] at hz
      subst hz
      exact ⟨v, by simp [zeroValue, typeInfo, hi, hv], cAV_rep ..⟩
theorem sto_makeMap {o : Oper} {T : TypeId} {d : Nat} {e : Eff} (hR : RE P E σ tm w ow) (ho : o.op = .makeMap T none) (hd : o.dst = some d) (hlt : d < tm.size)
    (h : stoR P σ ρ (some d) (.makeMap T none) = some e) : EffOk P E σ tm w ow ev o e.wr := by
  simp only [stoR] at h
  split at h
  · rename_i el hm
    simp only [Option.some.injEq] at h
    subst h
    obtain ⟨E', ow', r1, r2, r3, r4, r5⟩ := RE.newMap (d := d + 1000) hR
    have hrun : (execOp ev o).run P w = .ok (.value (.map (some w.heap.size))) (w.alloc (.map #[] 0)) := by
      unfold execOp
      rw [ho]
      have hmk : (Instr.makeMap T none).run P w = .ok (.map (some w.heap.size)) (w.alloc (.map #[] 0)) := rfl
      simp [hmk]
    refine EffOk.val (wr := [(.B (d + 1000), .bx (nst (σ (.B (d + 1000)))) [.mk []])]) hd hlt hrun r3 r1 ?_ (fun b hb => r5 b (by omega))
    simp only [AV.rep]
    exact ⟨w.heap.size, rfl, _, by simp [updL, KV.stamp], Nat.le_refl _, fun _ => r4.symm⟩
  · cases h
theorem sto_insert {o : Oper} {T : TypeId} {m k v : Operand} {e : Eff} (hR : RE P E σ tm w ow) (ho : o.op = .insert T m k v) (hd : o.dst = none)
    (h : stoR P σ ρ none (.insert T m k v) = some e) (hc : e.cond) (hm : (ρ m).rep (view w ow) E σ (ev m)) (hk : (ρ k).rep (view w ow) E σ (ev k)) (hv : (ρ v).rep (view w ow) E σ (ev v)) : EffOk P E σ tm w ow ev o e.wr := by
  simp only [stoR] at h
  split at h
  · rename_i b st s el e1 e2 hmt
    rw [e1] at hm
    rw [e2] at hk
    split at h
    · rename_i ks vs hb
      simp only [Option.some.injEq] at h
      subst h
      have hb := mapAt_spec hb
      have hval := mref_val hm (by rw [hb]; rfl)
      have hks : ev k = .string ⟨s.toArray⟩ := by simpa [AV.rep, PV.rep] using hk
      obtain ⟨k1, k2, ob, k3, es, clock, rfl, k4, k5⟩ := (hR.box b st _ hb).map
      obtain ⟨kt, u1, u2⟩ := mapT_spec hmt
      have hf : Instr.findNow .string (.string ⟨s.toArray⟩) es.toList 0 = some none := by
        rw [findNow_str s ks es.toList 0 k4, show findK ks s = none from hc]
      have hrun0 := run_mapInsert u1 u2 k3 s (ev v) hf
      obtain ⟨g1, g2⟩ := Go.MapKept.heap_set (o' := .map (es.push { key := .string ⟨s.toArray⟩, val := ev v, born := clock }) (clock + 1)) k3
      obtain ⟨r1, r2, r3⟩ := RE.setMap (ks' := ks ++ [s]) (vs' := vs ++ [ρ v]) (w' := { w with heap := w.heap.setIfInBounds (E.β b) (.map (es.push { key := .string ⟨s.toArray⟩, val := ev v, born := clock }) (clock + 1)) }) hR hb g1 g2 (by simp) rfl rfl rfl rfl
        ⟨_, _, rfl, by simp [k4], by simp only [Array.toList_push, List.map_append, List.map_cons, List.map_nil]; exact repL_app (b := [ρ v]) (m := [ev v]) (by simp only [AV.repL]; exact ⟨_, _, rfl, hv, rfl⟩) k5⟩
      have hrun : (execOp ev o).run P w = .ok .skip { w with heap := w.heap.setIfInBounds (E.β b) (.map (es.push { key := .string ⟨s.toArray⟩, val := ev v, born := clock }) (clock + 1)) } := by
        unfold execOp
        rw [ho]
        simp [hval, hks, hrun0]
      exact ⟨_, Go.undef, _, E, ow, hrun, .inr ⟨rfl, rfl⟩, r3, by rw [hd]; exact r1, fun _ _ => rfl⟩
    · cases h
  · cases h
theorem sto_lookup {o : Oper} {T : TypeId} {m k : Operand} {ok : Bool} {d : Nat} {e : Eff} (hR : RE P E σ tm w ow) (ho : o.op = .lookup T m k ok) (hd : o.dst = some d) (hlt : d < tm.size)
    (h : stoR P σ ρ (some d) (.lookup T m k ok) = some e) (hm : (ρ m).rep (view w ow) E σ (ev m)) (hk : (ρ k).rep (view w ow) E σ (ev k)) : EffOk P E σ tm w ow ev o e.wr := by
  simp only [stoR] at h
  split at h
  · rename_i b st s el e1 e2 hmt
    rw [e1] at hm
    rw [e2] at hk
    split at h
    · rename_i ks vs hb
      have hb := mapAt_spec hb
      have hval := mref_val hm (by rw [hb]; rfl)
      have hks : ev k = .string ⟨s.toArray⟩ := by simpa [AV.rep, PV.rep] using hk
      obtain ⟨k1, k2, ob, k3, es, clock, rfl, k4, k5⟩ := (hR.box b st _ hb).map
      obtain ⟨kt, u1, u2⟩ := mapT_spec hmt
      have hfn := findNow_str s ks es.toList 0 k4
      split at h
      · rename_i i hi
        split at h
        · rename_i a ha
          simp only [Option.some.injEq] at h
          subst h
          obtain ⟨hl, hg⟩ := repL_iff.1 k5
          have hil : i < es.toList.length := by
            have := (List.getElem?_eq_some_iff.1 ha).1
            rw [List.length_map] at hl
            omega
          have hei : es.toList[i]? = some es.toList[i] := List.getElem?_eq_getElem hil
          have hva := hg i a es.toList[i].val ha (by rw [List.getElem?_map, hei]; rfl)
          have hf : Instr.findNow .string (.string ⟨s.toArray⟩) es.toList 0 = some (some (0 + i, es.toList[i].val)) := by
            rw [hfn, hi]
            simp only [hei, Option.map_some]
          have hrun0 := run_mapLook u1 u2 k3 s hf ok
          have hrun : (execOp ev o).run P w = .ok (.value (if ok = true then .tuple #[es.toList[i].val, .bool true] else es.toList[i].val)) w := by
            unfold execOp
            rw [ho]
            simp only [hval, hks]
            simp [hrun0]
          exact EffOk.val (wr := []) hd hlt hrun (Evo.refl _ _) hR (okRes_rep hva ok true) (fun _ _ => rfl)
        · cases h
      · rename_i hi
        split at h
        · rename_i z hz
          simp only [Option.some.injEq] at h
          subst h
          obtain ⟨zv, z1, z2⟩ := zeroV_sound (P := P) (E := E) (σ := σ) (h := view w ow) (w := w) hz
          have hf : Instr.findNow .string (.string ⟨s.toArray⟩) es.toList 0 = some none := by rw [hfn, hi]
          have hrun0 := run_mapMiss u1 u2 k3 s hf z1 ok
          have hrun : (execOp ev o).run P w = .ok (.value (if ok = true then .tuple #[zv, .bool false] else zv)) w := by
            unfold execOp
            rw [ho]
            simp only [hval, hks]
            simp [hrun0]
          exact EffOk.val (wr := []) hd hlt hrun (Evo.refl _ _) hR (okRes_rep z2 ok false) (fun _ _ => rfl)
        · cases h
    · cases h
  · cases h
end
end Go.Pw
namespace Go.Pw
variable [Mode]
set_option linter.unusedSimpArgs false
set_option linter.unusedVariables false
set_option linter.unusedSectionVars false

section
variable {P : Program} {ρ : Operand → AV} {ev : Operand → Value} {E : Env} {σ : Look} {tm : Array Value} {w : World} {ow : Ow}

theorem optRep_ren {h h' : View} {E E' : Env} {σ σ' : Look} (hr : Ren h h' E E' σ σ') {a : Option AV} {v : Option Value} (q : optRep h E σ a v) : optRep h' E' σ' a v := by
  cases a with
  | none => cases v with
    | none => trivial
    | some v => cases q
  | some a => cases v with
    | none => cases q
    | some v => exact AV.rep_ren hr a v q

theorem stoR_sound {o : Oper} {e : Eff} (hR : RE P E σ tm w ow) (hlt : ∀ d, o.dst = some d → d < tm.size)
    (h : stoR P σ ρ o.dst o.op = some e) (hc : e.cond) (hev : ∀ v, ev (.const v) = v) (hr : ∀ x ∈ o.op.operands, (ρ x).rep (view w ow) E σ (ev x)) : EffOk P E σ tm w ow ev o e.wr := by
  cases hd : o.dst with
  | none =>
    rw [hd] at h
    cases ho : o.op <;> rw [ho] at h hr <;> (try (simp [stoR] at h; done))
    case store T x y => exact sto_store hR ho hd h hc (hr x (by simp [Op.operands])) (hr y (by simp [Op.operands]))
    case insert T m k v => exact sto_insert hR ho hd h hc (hr m (by simp [Op.operands])) (hr k (by simp [Op.operands])) (hr v (by simp [Op.operands]))
  | some d =>
    rw [hd] at h
    have hlt := hlt d hd
    cases ho : o.op <;> rw [ho] at h hr <;> (try (simp [stoR] at h; done))
    case assign x => exact sto_assign hR ho hd hlt h (hr x (by simp [Op.operands]))
    case alloc T => exact sto_alloc hR ho hd hlt h
    case makeMap T hint =>
      cases hint with
      | none => exact sto_makeMap hR ho hd hlt h
      | some x => simp [stoR] at h
    case lookup T m k ok => exact sto_lookup hR ho hd hlt h (hr m (by simp [Op.operands])) (hr k (by simp [Op.operands]))
    case box T x => exact sto_box hR ho hd hlt h (hr x (by simp [Op.operands]))
    case convert src dst x => exact sto_convert hR ho hd hlt h hc (hr x (by simp [Op.operands]))
    case binOp op t x y yt => exact sto_nil hR ho hd hlt h hev (hr x (by simp [Op.operands]))
    case makeSlice t len cap => exact sto_make hR ho hd hlt h hc (hr len (by simp [Op.operands])) (hr cap (by simp [Op.operands]))
    case load T x => exact sto_load hR ho hd hlt h hc (hr x (by simp [Op.operands]))
    case buildSlice t len parts => exact sto_buildSlice hR ho hd hlt h (by rw [ho]; exact hr)
    case slice t x lo hi mx =>
      have hx := hr x (by simp [Op.operands])
      have o1 : optRep (view w ow) E σ (lo.map ρ) (lo.map ev) := by
        cases lo with
        | none => trivial
        | some l => exact hr l (by simp [Op.operands])
      have o2 : optRep (view w ow) E σ (hi.map ρ) (hi.map ev) := by
        cases hi with
        | none => trivial
        | some l => exact hr l (by simp [Op.operands])
      have o3 : mx.map ρ = none → mx.map ev = none := by cases mx <;> simp
      have hop : ∀ (w1 w2 : World) z, (Instr.sliceAt t (ev x) (lo.map ev) (hi.map ev) (mx.map ev)).run P w1 = .ok z w2 → (execOp ev o).run P w1 = .ok (.value z) w2 := by
        intro w1 w2 z hz
        unfold execOp
        rw [ho]
        simp [hz]
      simp only [stoR] at h
      split at h
      · rename_i k st he
        rw [he] at hx
        split at h
        · rename_i own e' xs hk
          have hk := rowAt_spec hk
          have hval := rf_hdr hx (by rw [hk]; rfl)
          split at h
          · rename_i c a hs
            simp only [Option.some.injEq] at h
            subst h
            cases own with
            | true =>
              obtain ⟨ow', f1, f2, f3⟩ := RE.freeze hR hk
              have hsl : (PV.sl xs).rep (view w ow') (E.hdr k) := row_shared_rep (k := k) (st := st) (e := e') f1 (by simp [updL])
              obtain ⟨z, z1, z2⟩ := sliceP_sound (P := P) (E := E) (σ := updL σ [(k, .rw st false e' xs)]) (w := w) (ow := ow') hs hc (u := ev x) (by simp only [AV.rep]; rw [hval]; exact hsl)
                (optRep_ren f2 o1) (optRep_ren f2 o2) o3
              exact EffOk.val (wr := [(k, .rw st false e' xs)]) hd hlt (hop _ _ _ z1) f3 f1 z2 (fun _ _ => rfl)
            | false =>
              have hsl := row_shared_rep hR hk
              obtain ⟨z, z1, z2⟩ := sliceP_sound (P := P) (E := E) (σ := σ) (w := w) (ow := ow) hs hc (u := ev x) (by simp only [AV.rep]; rw [hval]; exact hsl) o1 o2 o3
              exact EffOk.val (wr := []) hd hlt (hop _ _ _ z1) (Evo.refl _ _) hR z2 (fun _ _ => rfl)
          · cases h
        · cases h
      · cases h
    case indexAddr t x i =>
      have hx := hr x (by simp [Op.operands])
      have hi := hr i (by simp [Op.operands])
      simp only [stoR] at h
      split at h
      · rename_i k st kk n he1 he2
        rw [he1] at hx
        rw [he2] at hi
        split at h
        · rename_i own e' xs e2 hk hel
          split at h
          · rename_i hsz
            simp only [Option.some.injEq] at h
            subst h
            have hk := rowAt_spec hk
            have hval := rf_hdr hx (by rw [hk]; rfl)
            obtain ⟨hn, hlt'⟩ := hc
            simp only [AV.rep, PV.rep] at hi
            obtain ⟨g0, a, m, c, g1, g2, g3, g4⟩ := row_cells hR hk
            rcases g4 with rfl | ⟨b, q, g5, g6, g7⟩
            · simp at hlt'; omega
            · subst g5
              have hn' : n.toNat < xs.length := by omega
              have hrun : (execOp ev o).run P w = .ok (.value (.pointer (some ⟨b, q + n.toNat * P.cellsOf e', none⟩))) w := by
                unfold execOp
                rw [ho]
                have hsz2 : (sizeOf e2).run P w = .ok (P.cellsOf e') w := by rw [← hsz.1]; exact run_sizeE (by rw [hsz.1]; exact hsz.2)
                simp [hval, g1, hi, Instr.indexAt, asIntOf, run_underlying (elemT_spec hel), hn, hsz2, Addr.add_lit, g2, hlt']
              refine EffOk.val (wr := []) hd hlt hrun (Evo.refl _ _) hR ?_ (fun _ _ => rfl)
              cases own with
              | true =>
                have hq := g6 rfl
                subst hq
                simp only [if_true, AV.rep]
                exact ⟨b, by rw [Nat.zero_add, Nat.add_zero], _, by rw [show updL σ [] k = σ k from rfl, hk]; rfl, Nat.le_refl _, fun _ => ⟨m, c, g1⟩⟩
              | false =>
                simp only [Bool.false_eq_true, if_false, AV.rep, PV.rep]
                have hsh := row_shared_rep hR hk
                rw [g1] at hsh
                simp only [PV.rep, Value.slice.injEq] at hsh
                obtain ⟨a1, n1, c1, ⟨rfl, rfl, rfl⟩, _, _, h5⟩ := hsh
                have hget : xs[n.toNat]? = some (xs.getD n.toNat []) := by simp [List.getD, List.getElem?_eq_getElem hn']
                rcases h5 with rfl | ⟨b', o', s', h6, h7⟩
                · simp at hn'
                · simp only [Option.some.injEq, Addr.mk.injEq, and_true] at h6
                  obtain ⟨rfl, rfl⟩ := h6
                  obtain ⟨k1, k2⟩ := repEs_get h7 hget
                  have : s' = P.cellsOf e' := by rw [← k1]; exact g0 _ (List.mem_of_getElem? hget)
                  subst this
                  exact ⟨b, _, rfl, k2⟩
          · cases h
        · cases h
      · cases h
    case call cl =>
      obtain ⟨callee, args, ts⟩ := cl
      simp only [stoR] at h
      have hr' : ∀ x ∈ args.toList, (ρ x).rep (view w ow) E σ (ev x) := fun x hx => hr x (by simp [Op.operands, Call.operands]; exact .inr (by simpa using hx))
      split at h
      · rename_i s x t tx hargs hts
        have ha : args = #[s, x] := by cases args; simp_all
        have ht : ts = #[t, tx] := by cases ts; simp_all
        subst ha ht
        have hs := hr' s (by simp)
        have hx := hr' x (by simp)
        split at h
        · rename_i el hel
          split at h
          · rename_i ys rd hsrc
            split at h
            · rename_i hz
              split at h
              · rename_i he
                simp only [Option.some.injEq] at h
                subst h
                rw [he] at hs
                simp only [AV.rep] at hs
                obtain ⟨a, hs⟩ := hs
                obtain ⟨news, n1, n2⟩ := srcOf_sound hR hsrc hx hc.1
                exact append_emp hR ho hd hlt hel hz.2 hz.1 hs hc.1 hc.2.1 hc.2.2 n1 n2
              · rename_i k st he
                rw [he] at hs
                split at h
                · rename_i e' xs hk
                  have hk := rowAt_spec hk
                  have hval := rf_hdr hs (by rw [hk]; rfl)
                  split at h
                  · rename_i hek
                    simp only [Option.some.injEq] at h
                    subst h
                    obtain ⟨rfl, hne⟩ := hek
                    obtain ⟨news, n1, n2⟩ := srcOf_sound hR hsrc hx hc.1
                    exact append_own hR ho hd hlt hel hz.2 hz.1 hk hne hval hc.1 hc.2.1 hc.2.2 n1 n2
                  · cases h
                · cases h
              · cases h
            · cases h
          · cases h
        · cases h
      · rename_i x t hargs hts
        have ha : args = #[x] := by cases args; simp_all
        have ht : ts = #[t] := by cases ts; simp_all
        subst ha ht
        have hx := hr' x (by simp)
        split at h
        · rename_i k st he
          rw [he] at hx
          split at h
          · rename_i own e' xs e2 hk hel
            simp only [Option.some.injEq] at h
            subst h
            have hk := rowAt_spec hk
            have hval := rf_hdr hx (by rw [hk]; rfl)
            obtain ⟨g0, a, m, c, g1, g2, g3, g4⟩ := row_cells hR hk
            have hrun : (execOp ev o).run P w = .ok (.value (.int .i64 (xs.length : Int))) w := by
              obtain ⟨dst, op, ty, pos, after, guard⟩ := o
              simp only at ho
              subst ho
              simp [execOp, resolve, invoke, builtin, Builtin.len_, hval, g1, g2, run_underlying (elemT_spec hel), goInt]
            exact EffOk.val (wr := []) hd hlt hrun (Evo.refl _ _) hR (by simp [AV.rep, PV.rep]) (fun _ _ => rfl)
          · cases h
        · cases h
      · cases h

/-! Guards, and conditions of operands. -/
def guardOf (ops : Array Oper) (σ : Look) (o : Oper) : Option (Option Bool) :=
  match o.guard with
  | none => some none
  | some (j, want) => match (ops[j]?).bind (·.dst) with
    | none => none
    | some g => match (σ (.S g)).slot with
      | .pv (.bool b) => some (some (b == want))
      | .when c (.pv (.bool b)) => some (some (c && (b == want)))
      | _ => none

theorem guard_wanted {ops : Array Oper} {o : Oper} {g : Option Bool} (hR : RE P E σ tm w ow) (h : guardOf ops σ o = some g) : Region.wanted o (yielded ops tm) = g.getD true := by
  unfold guardOf at h
  split at h
  · rename_i hg
    simp only [Option.some.injEq] at h
    subst h
    simp [Region.wanted, hg]
  · rename_i j want hg
    split at h
    · cases h
    · rename_i d hd
      have hs := hR.slot d
      split at h
      · rename_i b hb
        simp only [Option.some.injEq] at h
        subst h
        rw [hb] at hs
        simp only [AV.rep, PV.rep] at hs
        have hval : tm[d]? = some (.bool b) := by
          cases ht : tm[d]? with
          | none => simp [Array.getD_eq_getD_getElem?, ht, Go.undef] at hs
          | some v => simp [Array.getD_eq_getD_getElem?, ht] at hs; rw [hs]
        simp [Region.wanted, hg, yielded, hd, hval]
      · rename_i c b hb
        simp only [Option.some.injEq] at h
        subst h
        rw [hb] at hs
        simp only [AV.rep, PV.rep] at hs
        cases c with
        | true =>
          have hs := hs.1 rfl
          have hval : tm[d]? = some (.bool b) := by
            cases ht : tm[d]? with
            | none => simp [Array.getD_eq_getD_getElem?, ht, Go.undef] at hs
            | some v => simp [Array.getD_eq_getD_getElem?, ht] at hs; rw [hs]
          simp [Region.wanted, hg, yielded, hd, hval]
        | false =>
          have hs := hs.2 rfl
          have hy : yielded ops tm j = none := by
            unfold yielded
            rw [hd]
            cases ht : tm[d]? with
            | none => simp [ht]
            | some v =>
              simp [Array.getD_eq_getD_getElem?, ht] at hs
              subst hs
              simp [ht, Go.undef]
          simp [Region.wanted, hg, hy]
      · cases h

def scAll (c : Bool) : List AV → Prop
  | [] => True
  | .when b _ :: l => (c = true → b = true) ∧ scAll c l
  | _ :: l => scAll c l

theorem scAll_mem {c : Bool} : ∀ {l : List AV}, scAll c l → ∀ a ∈ l, a.sc c
  | [], _, a, ha => by cases ha
  | b :: l, h, a, ha => by
    cases b <;> simp only [scAll] at h <;> rcases List.mem_cons.1 ha with rfl | ha <;> first
      | trivial
      | exact scAll_mem h a ha
      | exact h.1
      | exact scAll_mem h.2 a ha

def opTmps (o : Op) : List Key := o.operands.toList.filterMap fun | .tmp t => some (Key.S t) | _ => none

def pickR (c : Bool) (x a b : AV) : Option (Prop × AV) :=
  match x.sv, a.sv, b.sv with
  | .pv (.bool q), .pv (.bool p), .pv (.bool p') => some (x.sc c ∧ a.sc (c && q) ∧ b.sc (c && !q), .pv (.bool (cond q p p')))
  | _, _, _ => none

def onlyS (d : Nat) : St → Option KV
  | [(.S d', v)] => if d = d' then some v else none
  | _ => none

/-- What an operation that calls no Go function does. -/
def stepA (P : Program) (ops : Array Oper) (σ : Look) (o : Oper) : Option Eff :=
  match guardOf ops σ o with
  | none => none
  | some g =>
    match o.op, o.dst with
    | .pick x a b, some d => match pickR (g.getD true) (evA σ x) (evA σ a) (evA σ b) with
      | some (p, r) => some ⟨p, [], [(.S d, .av (if g.isSome then .when (g.getD true) r else r))]⟩
      | none => none
    | op, dst =>
      match pureR P (fun x => (evA σ x).sv) op, dst with
      | some (p, r), some d => some ⟨scAll (g.getD true) (op.operands.toList.map (evA σ)) ∧ (g.getD true = true → p), [], [(.S d, .av (if g.isSome then .when (g.getD true) r else r))]⟩
      | some _, none => none
      | none, dst => match stoR P σ (fun x => (evA σ x).sv) dst op with
        | some e => match g with
          | none => some ⟨scAll true (op.operands.toList.map (evA σ)) ∧ e.cond, e.rd, e.wr⟩
          | some c => match dst with
            | some d => match onlyS d e.wr with
              | some kv => some ⟨scAll c (op.operands.toList.map (evA σ)) ∧ (c = true → e.cond), e.rd, [(.S d, .av (.when c kv.slot))]⟩
              | none => none
            | none => none
        | none => none

end
end Go.Pw
