/- append, and the theorem over all operations on memory of our own. -/
import Derived.Test.YtgnedmmecmpnpaaGreatDoorPwMKL
namespace Go.Pw
variable [Mode]
set_option linter.unusedSimpArgs false
set_option linter.unusedVariables false
set_option linter.unusedSectionVars false

section
variable {P : Program} {ρ : Operand → AV} {ev : Operand → Value} {E : Env} {σ : Look} {tm : Array Value} {w : World} {ow : Ow}

theorem run_append_room_row (t tx ty e : TypeId) (i : TypeInfo) (ht : P.underlying t = some (.slice e)) (hi : P.info? e = some i) (g sLen sCap : Nat) (cur : Array Value) (T : TypeId) (hg : w.heap[g]? = some (.cells cur T (0, 0)))
    (x : Value) (n : Nat) (news : List Value) (hs : Src P i.size tx x n news w) (hroom : sLen + n ≤ sCap) (hfit : sLen * i.size + news.length ≤ cur.size) :
    (Builtin.append_ #[t, tx] ty #[.slice (some ⟨g, 0, none⟩) sLen sCap, x]).run P w = .ok (.slice (some ⟨g, 0, none⟩) (sLen + n) sCap) (w.setRow g (cur.toList.take (sLen * i.size) ++ news ++ cur.toList.drop (sLen * i.size + news.length)).toArray) := by
  have hst := run_storeCells_at P g (sLen * i.size) T news 0 cur w hg (by simpa using hfit) hs.one
  simp only [Nat.add_zero] at hst
  rcases hs.kind with ⟨e', hk⟩ | hk <;> simp [Builtin.append_, run_underlying ht, run_underlying hk, sizeOf, typeInfo, hi, hs.len, hroom, hs.cells, Addr.add_lit, hst]

theorem run_append_none (t tx ty e : TypeId) (i : TypeInfo) (ht : P.underlying t = some (.slice e)) (hi : P.info? e = some i) (a : Option Addr) (x : Value) (hs : Src P i.size tx x 0 [] w) :
    (Builtin.append_ #[t, tx] ty #[.slice a 0 0, x]).run P w = .ok (.slice a 0 0) w := by
  rcases hs.kind with ⟨e', hk⟩ | hk <;> cases a <;> simp [Builtin.append_, run_underlying ht, run_underlying hk, sizeOf, typeInfo, hi, hs.len, hs.cells, storeCells]

theorem RE.drew (h : RE P E σ tm w ow) : RE P E σ tm w.drew ow := ⟨h.sk, h.bk, h.slot, h.box, h.own, h.shared, h.glob.heap rfl⟩

theorem exec_append {o : Oper} {t tx : TypeId} {sx xx : Operand} (ho : o.op = .call ⟨.builtin .append, #[sx, xx], #[t, tx]⟩) :
    (execOp ev o).run P w = (do pure (.value (← Builtin.append_ #[t, tx] o.type #[ev sx, ev xx])) : Sem Next).run P w := by
  obtain ⟨dst, op, ty, pos, after, guard⟩ := o
  simp only at ho
  subst ho
  simp only [execOp, resolve, invoke, builtin, Sem.run_bind, Sem.run_pure, Result.andThen_ok, List.map_toArray, List.map_cons, List.map_nil]

/-- appending where there was nothing -/
theorem append_emp {o : Oper} {t tx el : TypeId} {sx xx : Operand} {d : Nat} {ys : List (List PV)} {a : Option Addr} (hR : RE P E σ tm w ow) (ho : o.op = .call ⟨.builtin .append, #[sx, xx], #[t, tx]⟩) (hd : o.dst = some d) (hlt : d < tm.size)
    (hel : elemT P t = some el) (hz : (zeroA P el).map List.length = some (P.cellsOf el)) (hnz : P.cellsOf el ≠ 0) (hs : ev sx = .slice a 0 0)
    (hys : ∀ y ∈ ys, y.length = P.cellsOf el) (hby : ys.length * P.bytesOf el ≤ 140737488355328) (hlen : ys.length ≤ 9223372036854775807) {news : List Value} (hsrc : Src P (P.cellsOf el) tx (ev xx) ys.length news w)
    (hnews : ∀ (i : Nat) (x : List PV), ys[i]? = some x → ∀ (j : Nat) (p : PV), x[j]? = some p → ∃ u, news[i * P.cellsOf el + j]? = some u ∧ u.oneCell' = true ∧ p.rep (view w ow) u) :
    EffOk P E σ tm w ow ev o [(.S d, .av (.rf (.RS d 0) (nst (σ (.RS d 0))))), (.RS d 0, .rw (nst (σ (.RS d 0))) true el ys)] := by
  obtain ⟨i, z, hi, hiz, hzs, his⟩ := zero_cells hz
  have hby' : i.bytes = P.bytesOf el := by simp [Program.bytesOf, hi]
  have hop := exec_append (P := P) (w := w) (ev := ev) ho
  by_cases h0 : ys = []
  · subst h0
    have hn0 : news = [] := List.eq_nil_of_length_eq_zero (by simpa using hsrc.newsLen)
    subst hn0
    obtain ⟨E', r1, r2, r3, r4⟩ := RE.newNil (K := .RS d 0) el hR rfl hs
    have hrun : (execOp ev o).run P w = .ok (.value (ev sx)) w := by
      rw [hop, hs]
      have := run_append_none (P := P) (w := w) t tx o.type el i (elemT_spec hel) hi a (ev xx) (by rw [his]; exact hsrc)
      simp [this]
    refine EffOk.val (wr := [(.RS d 0, .rw (nst (σ (.RS d 0))) true el [])]) hd hlt hrun (Evo.refl _ _) r1 ?_ (fun b _ => congrFun r4 b)
    simp only [AV.rep]
    exact ⟨⟨_, _, _, hs⟩, _, by simp [updL, KV.stamp], Nat.le_refl _, fun _ => r3.symm⟩
  · have hpos : 0 < ys.length := List.length_pos_iff.2 h0
    have hold : (Builtin.firstCells i.size 0 (.slice a 0 0)).run P w.drew = .ok ([] : List Value).toArray w.drew := by
      cases a <;> simp [Builtin.firstCells, loadCells, loadCellsFrom]
    have hgr := run_append_grow_src (P := P) w t tx o.type el i z (elemT_spec hel) hi hiz a 0 0 [] hold (ev xx) ys.length news (by rw [his]; exact hsrc) (by omega) (by omega) (growslice_fits (by omega) (by rw [hby', Nat.zero_add]; exact hby))
    have hcap1 := grownCap_ge w (0 + ys.length) 0 el
    have hcap2 := grownCap_le_maxLen w (0 + ys.length) 0 el (by unfold maxLen; omega)
    have hRd : RE P E σ tm w.drew ow := hR.drew
    obtain ⟨E', ow', s1, s2, s3, s4, s5⟩ := RE.newRow (K := .RS d 0) (e := el) (xs := ys) (cur := ([] ++ news).toArray ++ Builtin.zeroCells z.cells (grownCap w (0 + ys.length) 0 el - (0 + ys.length))) (cap := grownCap w (0 + ys.length) 0 el) hRd rfl (by omega) hcap2
      (by
        simp only [Array.size_append, List.size_toArray, List.nil_append, size_zeroCells, hzs, hsrc.newsLen, ← Nat.add_mul]
        congr 1
        omega)
      (fun m x hx => ⟨hys x (List.mem_of_getElem? hx), fun j p hp => by
        obtain ⟨u, u1, u2, u3⟩ := hnews m x hx j p hp
        refine ⟨u, ?_, u2, u3⟩
        have hlt' := (List.getElem?_eq_some_iff.1 u1).1
        rw [Array.getElem?_append_left (by simpa using hlt')]
        simpa using u1⟩)
    have hrun : (execOp ev o).run P w = .ok (.value (.slice (some ⟨w.heap.size, 0, none⟩) (0 + ys.length) (grownCap w (0 + ys.length) 0 el))) (w.drew.alloc (.cells (([] ++ news).toArray ++ Builtin.zeroCells z.cells (grownCap w (0 + ys.length) 0 el - (0 + ys.length))) el)) := by
      rw [hop, hs]
      simp only [Sem.run_bind, hgr, Result.andThen_ok, Sem.run_pure]
    have hev : Evo w ow w.drew ow := ⟨rfl, rfl, rfl, Nat.le_refl _, fun _ _ h => ⟨rfl, h⟩, fun _ _ h => ⟨rfl, h⟩, fun _ => Nat.le_succ _⟩
    refine EffOk.val (wr := [(.RS d 0, .rw (nst (σ (.RS d 0))) true el ys)]) hd hlt hrun (hev.trans s3) s1 ?_ (fun b _ => congrFun s5 b)
    simp only [AV.rep]
    exact ⟨⟨_, _, _, rfl⟩, _, by simp [updL, KV.stamp], Nat.le_refl _, fun _ => by rw [s4, Nat.zero_add]; rfl⟩

theorem append_own {o : Oper} {t tx el : TypeId} {sx xx : Operand} {d : Nat} {xs ys : List (List PV)} {k : Key} {st : Nat} (hR : RE P E σ tm w ow) (ho : o.op = .call ⟨.builtin .append, #[sx, xx], #[t, tx]⟩) (hd : o.dst = some d) (hlt : d < tm.size)
    (hel : elemT P t = some el) (hz : (zeroA P el).map List.length = some (P.cellsOf el)) (hnz : P.cellsOf el ≠ 0) (hk : σ k = .rw st true el xs) (hne : k ≠ .RS d 0) (hs : ev sx = E.hdr k)
    (hys : ∀ y ∈ ys, y.length = P.cellsOf el) (hby : (xs.length + ys.length) * P.bytesOf el ≤ 140737488355328) (hlen : xs.length + ys.length ≤ 9223372036854775807) {news : List Value} (hsrc : Src P (P.cellsOf el) tx (ev xx) ys.length news w)
    (hnews : ∀ (i : Nat) (x : List PV), ys[i]? = some x → ∀ (j : Nat) (p : PV), x[j]? = some p → ∃ u, news[i * P.cellsOf el + j]? = some u ∧ u.oneCell' = true ∧ p.rep (view w ow) u) :
    EffOk P E σ tm w ow ev o [(.S d, .av (.rf (.RS d 0) (nst (σ (.RS d 0))))), (.RS d 0, .rw (nst (σ (.RS d 0))) true el (xs ++ ys)), (k, .dead (st + 1))] := by
  rcases hR.own k st el xs hk with ⟨rfl, a, ha⟩ | ⟨g, cap, cur, h1, h2, h3, h4, h5, h6, h7, h8⟩
  · obtain ⟨q1, q2⟩ := RE.kill hR hk
    have hK : updL σ [(k, .dead (st + 1))] (.RS d 0) = σ (.RS d 0) := by simp [updL, hne]
    obtain ⟨nx, v, w', E', ow', e1, e2, e3, e4, e5⟩ := append_emp (ys := ys) q1 ho hd hlt hel hz hnz (by rw [hs, ha]) hys (by simpa using hby) (by simpa using hlen) hsrc hnews
    rw [hK] at e4
    exact ⟨nx, v, w', E', ow', e1, e2, e3, e4, e5⟩
  · obtain ⟨i, z, hi, hiz, hzs, his⟩ := zero_cells hz
    have hby' : i.bytes = P.bytesOf el := by simp [Program.bytesOf, hi]
    have hop := exec_append (P := P) (w := w) (ev := ev) ho
    by_cases hroom : xs.length + ys.length ≤ cap
    · have hfit : xs.length * P.cellsOf el + news.length ≤ cur.size := by
        rw [hsrc.newsLen, h7, ← Nat.add_mul]
        exact Nat.mul_le_mul_right _ hroom
      have hr := run_append_room_row (P := P) (w := w) t tx o.type el i (elemT_spec hel) hi g xs.length cap cur el h4 (ev xx) ys.length news (by rw [his]; exact hsrc) hroom (by rw [his]; exact hfit)
      rw [his] at hr
      obtain ⟨E', r1, r2, r3, r4, r5⟩ := RE.rowTo (K := .RS d 0) (ys := xs ++ ys) (cap := cap) (cur' := (cur.toList.take (xs.length * P.cellsOf el) ++ news ++ cur.toList.drop (xs.length * P.cellsOf el + news.length)).toArray) hR hk hne rfl h2 h3 h4 (by simp; omega) h6
        (by simp only [List.size_toArray, List.length_append, List.length_take, List.length_drop, Array.length_toList]; omega)
        (fun m x hx => by
          by_cases hm : m < xs.length
          · rw [List.getElem?_append_left hm] at hx
            refine ⟨(h8 m x hx).1, fun j p hp => ?_⟩
            obtain ⟨u, u1, u2, u3⟩ := (h8 m x hx).2 j p hp
            have hj : j < P.cellsOf el := by rw [← (h8 m x hx).1]; exact (List.getElem?_eq_some_iff.1 hp).1
            have hb : m * P.cellsOf el + j < xs.length * P.cellsOf el := by
              have : (m + 1) * P.cellsOf el ≤ xs.length * P.cellsOf el := Nat.mul_le_mul_right _ (by omega)
              rw [Nat.add_mul] at this
              omega
            refine ⟨u, ?_, u2, u3⟩
            simp only [List.getElem?_toArray]
            rw [List.append_assoc, List.getElem?_append_left (by simp; omega), List.getElem?_take, if_pos hb]
            simpa using u1
          · rw [List.getElem?_append_right (by omega)] at hx
            refine ⟨hys x (List.mem_of_getElem? hx), fun j p hp => ?_⟩
            obtain ⟨u, u1, u2, u3⟩ := hnews (m - xs.length) x hx j p hp
            have hlt' := (List.getElem?_eq_some_iff.1 u1).1
            refine ⟨u, ?_, u2, u3⟩
            have e1 : m * P.cellsOf el + j = xs.length * P.cellsOf el + ((m - xs.length) * P.cellsOf el + j) := by
              rw [← Nat.add_assoc, ← Nat.add_mul, Nat.add_sub_cancel' (by omega)]
            have hl : (cur.toList.take (xs.length * P.cellsOf el)).length = xs.length * P.cellsOf el := by simp; omega
            simp only [List.getElem?_toArray]
            rw [e1, List.append_assoc, List.getElem?_append_right (by omega), hl, Nat.add_sub_cancel_left, List.getElem?_append_left hlt']
            exact u1)
      have hrun : (execOp ev o).run P w = .ok (.value (.slice (some ⟨g, 0, none⟩) (xs.length + ys.length) cap)) (w.setRow g (cur.toList.take (xs.length * P.cellsOf el) ++ news ++ cur.toList.drop (xs.length * P.cellsOf el + news.length)).toArray) := by
        rw [hop, hs, h1]
        simp only [Sem.run_bind, hr, Result.andThen_ok, Sem.run_pure]
      refine EffOk.val (wr := [(.RS d 0, .rw (nst (σ (.RS d 0))) true el (xs ++ ys)), (k, .dead (st + 1))]) hd hlt hrun r3 r1 ?_ (fun b _ => congrFun r5 b)
      simp only [AV.rep]
      exact ⟨⟨_, _, _, rfl⟩, _, by simp [updL, KV.stamp], Nat.le_refl _, fun _ => by rw [r4, List.length_append]⟩
    · obtain ⟨olds, o1, o2, o3, o4⟩ := flat (h := view w ow) (f := fun m => w.cell? ⟨g, m, none⟩) (s := P.cellsOf el) (ys := xs) (fun m x hx => ⟨(h8 m x hx).1, fun j p hp => by
        obtain ⟨u, u1, _, u3⟩ := (h8 m x hx).2 j p hp
        exact ⟨u, by rw [cell_of_row w g _ cur _ _ h4]; exact u1, u3⟩⟩)
      have hold : (Builtin.firstCells i.size xs.length (.slice (some ⟨g, 0, none⟩) xs.length cap)).run P w.drew = .ok olds.toArray w.drew :=
        run_firstCells_some w.drew i.size xs.length ⟨g, 0, none⟩ xs.length cap olds (by rw [his]; exact o1) (fun j u hu => by rw [Addr.add_lit, Nat.zero_add]; exact o2 j u hu)
      have hgr := run_append_grow_src (P := P) w t tx o.type el i z (elemT_spec hel) hi hiz (some ⟨g, 0, none⟩) xs.length cap olds hold (ev xx) ys.length news (by rw [his]; exact hsrc) (by omega) (by omega) (growslice_fits (by omega) (by rw [hby']; exact hby))
      have hcap1 := grownCap_ge w (xs.length + ys.length) cap el
      have hcap2 := grownCap_le_maxLen w (xs.length + ys.length) cap el (by unfold maxLen; omega)
      obtain ⟨q1, q2⟩ := RE.kill hR hk
      have hK : updL σ [(k, .dead (st + 1))] (.RS d 0) = σ (.RS d 0) := by simp [updL, hne]
      have hRd : RE P E (updL σ [(k, .dead (st + 1))]) tm w.drew ow := q1.drew
      obtain ⟨E', ow', s1, s2, s3, s4, s5⟩ := RE.newRow (K := .RS d 0) (e := el) (xs := xs ++ ys) (cur := (olds ++ news).toArray ++ Builtin.zeroCells z.cells (grownCap w (xs.length + ys.length) cap el - (xs.length + ys.length))) (cap := grownCap w (xs.length + ys.length) cap el) hRd rfl (by simp; omega) hcap2
        (by
          simp only [Array.size_append, List.size_toArray, List.length_append, size_zeroCells, hzs, hsrc.newsLen, o1, ← Nat.add_mul]
          congr 1
          omega)
        (fun m x hx => by
          by_cases hm : m < xs.length
          · rw [List.getElem?_append_left hm] at hx
            refine ⟨(h8 m x hx).1, fun j p hp => ?_⟩
            obtain ⟨u, u1, u2, u3⟩ := o4 m x hx j p hp
            have hlt' := (List.getElem?_eq_some_iff.1 u1).1
            refine ⟨u, ?_, u2, u3⟩
            rw [Array.getElem?_append_left (by simp; omega)]
            simp only [List.getElem?_toArray]
            rw [List.getElem?_append_left hlt']
            exact u1
          · rw [List.getElem?_append_right (by omega)] at hx
            refine ⟨hys x (List.mem_of_getElem? hx), fun j p hp => ?_⟩
            obtain ⟨u, u1, u2, u3⟩ := hnews (m - xs.length) x hx j p hp
            have hlt' := (List.getElem?_eq_some_iff.1 u1).1
            refine ⟨u, ?_, u2, u3⟩
            have e1 : m * P.cellsOf el + j = olds.length + ((m - xs.length) * P.cellsOf el + j) := by
              rw [o1, ← Nat.add_assoc, ← Nat.add_mul, Nat.add_sub_cancel' (by omega)]
            rw [e1, Array.getElem?_append_left (by simp; omega)]
            simp only [List.getElem?_toArray]
            rw [List.getElem?_append_right (by omega), Nat.add_sub_cancel_left]
            exact u1)
      rw [hK] at s1 s2
      have hrun : (execOp ev o).run P w = .ok (.value (.slice (some ⟨w.heap.size, 0, none⟩) (xs.length + ys.length) (grownCap w (xs.length + ys.length) cap el))) (w.drew.alloc (.cells ((olds ++ news).toArray ++ Builtin.zeroCells z.cells (grownCap w (xs.length + ys.length) cap el - (xs.length + ys.length))) el)) := by
        rw [hop, hs, h1]
        simp only [Sem.run_bind, hgr, Result.andThen_ok, Sem.run_pure]
      have hev : Evo w ow w.drew ow := ⟨rfl, rfl, rfl, Nat.le_refl _, fun _ _ h => ⟨rfl, h⟩, fun _ _ h => ⟨rfl, h⟩, fun _ => Nat.le_succ _⟩
      refine EffOk.val (wr := [(.RS d 0, .rw (nst (σ (.RS d 0))) true el (xs ++ ys)), (k, .dead (st + 1))]) hd hlt hrun (hev.trans s3) s1 ?_ (fun b _ => congrFun s5 b)
      simp only [AV.rep]
      exact ⟨⟨_, _, _, rfl⟩, _, by simp [updL, KV.stamp], Nat.le_refl _, fun _ => by rw [s4, List.length_append]; rfl⟩

end
end Go.Pw
