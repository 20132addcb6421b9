/- A call: what is handed over, what comes back, by computation. -/
import Derived.Test.YtjbfdbbmgbekiaaDoorPwO
namespace Go.Pw
variable [Mode]
set_option linter.unusedSimpArgs false
set_option linter.unusedVariables false
set_option linter.unusedSectionVars false

abbrev Lk := List (Key × Key)

def lookL : Lk → Key → Option Key
  | [], _ => none
  | (a, b) :: l, k => if a = k then some b else lookL l k

def Lk.swap (l : Lk) : Lk := l.map fun x => (x.2, x.1)

def ndK : List Key → Bool
  | [] => true
  | k :: l => !l.contains k && ndK l

theorem lookL_mem : ∀ {l : Lk} {a b : Key}, lookL l a = some b → (a, b) ∈ l
  | [], _, _, h => by cases h
  | (x, y) :: l, a, b, h => by
    simp only [lookL] at h
    split at h
    · rename_i e
      simp only [Option.some.injEq] at h
      subst e h
      simp
    · exact List.mem_cons_of_mem _ (lookL_mem h)
theorem lookL_of : ∀ {l : Lk} {a b : Key}, ndK (l.map (·.1)) = true → (a, b) ∈ l → lookL l a = some b
  | [], _, _, _, h => by cases h
  | (x, y) :: l, a, b, hn, h => by
    simp only [List.map_cons, ndK, Bool.and_eq_true, Bool.not_eq_true'] at hn
    simp only [lookL]
    rcases List.mem_cons.1 h with e | h
    · cases e; simp
    · have hne : x ≠ a := by
        rintro rfl
        have : x ∈ l.map (·.1) := List.mem_map.2 ⟨_, h, rfl⟩
        have := hn.1
        simp_all
      rw [if_neg hne]
      exact lookL_of hn.2 h
theorem lookL_bij {l : Lk} (h1 : ndK (l.map (·.1)) = true) (h2 : ndK (l.map (·.2)) = true) (a b : Key) : lookL l a = some b ↔ lookL l.swap b = some a := by
  have h2' : ndK (l.swap.map (·.1)) = true := by
    have : l.swap.map (·.1) = l.map (·.2) := by simp [Lk.swap]
    rw [this]; exact h2
  constructor
  · intro h
    refine lookL_of h2' ?_
    exact List.mem_map.2 ⟨_, lookL_mem h, rfl⟩
  · intro h
    have := lookL_mem h
    obtain ⟨x, hx, e⟩ := List.mem_map.1 this
    cases e
    exact lookL_of h1 hx
theorem look_mem : ∀ {l : St} {k : Key} {v : KV}, look l k = v → v = .none ∨ (k, v) ∈ l
  | [], _, _, h => .inl h.symm
  | (x, y) :: l, k, v, h => by
    simp only [look] at h
    split at h
    · rename_i e
      subst e h
      exact .inr (by simp)
    · rcases look_mem h with h | h
      · exact .inl h
      · exact .inr (List.mem_cons_of_mem _ h)
theorem look_of : ∀ {l : St} {k : Key} {v : KV}, ndK (l.map (·.1)) = true → (k, v) ∈ l → look l k = v
  | [], _, _, _, h => by cases h
  | (x, y) :: l, a, b, hn, h => by
    simp only [List.map_cons, ndK, Bool.and_eq_true, Bool.not_eq_true'] at hn
    simp only [look]
    rcases List.mem_cons.1 h with e | h
    · cases e; simp
    · have hne : x ≠ a := by
        rintro rfl
        have : x ∈ l.map (·.1) := List.mem_map.2 ⟨_, h, rfl⟩
        have := hn.1
        simp_all
      rw [if_neg hne]
      exact look_of hn.2 h
theorem updL_mem : ∀ {wr : St} {σ : Look} {k : Key}, (∃ v, (k, v) ∈ wr) → (k, updL σ wr k) ∈ wr
  | [], _, _, ⟨v, h⟩ => by cases h
  | (x, y) :: l, σ, k, ⟨v, h⟩ => by
    simp only [updL]
    split
    · rename_i e; subst e; simp
    · rename_i e
      rcases List.mem_cons.1 h with e2 | h
      · cases e2; exact absurd rfl e
      · exact List.mem_cons_of_mem _ (updL_mem ⟨v, h⟩)
/-- the first part of a list of writes decides -/
theorem updL_first : ∀ {l1 l2 : St} {σ : Look} {k : Key} {v : KV}, ndK (l1.map (·.1)) = true → (k, v) ∈ l1 → updL σ (l1 ++ l2) k = v
  | [], _, _, _, _, _, h => by cases h
  | (x, y) :: l, l2, σ, a, b, hn, h => by
    simp only [List.map_cons, ndK, Bool.and_eq_true, Bool.not_eq_true'] at hn
    simp only [List.cons_append, updL]
    rcases List.mem_cons.1 h with e | h
    · cases e; simp
    · have hne : x ≠ a := by
        rintro rfl
        have : x ∈ l.map (·.1) := List.mem_map.2 ⟨_, h, rfl⟩
        have := hn.1
        simp_all
      rw [if_neg hne]
      exact updL_first hn.2 h

/-! What is done to the arguments first: rows that the callee only reads are frozen; nil for a row that the callee takes becomes a row. -/
def preArg (σ : Look) (j : Nat) (mv : Option TypeId) (x : AV) : Option (AV × St) :=
  match x with
  | .rf k st => match rowAt σ k st with
    | some (true, e, xs) => if mv.isSome then some (.rf k st, []) else some (.pv (.sl xs), [(k, .rw st false e xs)])
    | some (false, _, xs) => some (.pv (.sl xs), [])
    | none => none
  | .emp => match mv with
    | some e => some (.rf (.RS (2000 + j) 0) (nst (σ (.RS (2000 + j) 0))), [(.RS (2000 + j) 0, .rw (nst (σ (.RS (2000 + j) 0))) true e [])])
    | none => some (.emp, [])
  | .agg cs => match fzCells σ cs with
    | some (ps, w1) => some (.agg (ps.map .pv), w1)
    | none => none
  | x => some (x, [])

def preArgs (σ : Look) (mv : Nat → Option TypeId) : Nat → List AV → Option (List AV × St)
  | _, [] => some ([], [])
  | j, a :: as => match preArg σ j (mv j) a with
    | some (a', w1) => match preArgs (updL σ w1) mv (j + 1) as with
      | some (as', w2) => some (a' :: as', w2 ++ w1)
      | none => none
    | none => none

def plainL (l : List AV) : Bool := l.all plainCell

def pkCell (σ : Look) (d j c : Nat) (a : AV) : Option (AV × St × Lk) :=
  match a with
  | .pv p => some (.pv p, [], [])
  | .emp => some (.emp, [], [])
  | .rf k st => match rowAt σ k st with
    | some (true, e, xs) => some (.rf (.RC j c) 0, [(.RC j c, .rw 0 true e xs)], [(.RC j c, k)])
    | some (false, _, xs) => some (.pv (.sl xs), [], [])
    | none => none
  | .ptr d' off st => if d' = d ∧ (σ (.B d)).stamp = some st then some (.ptr j off 0, [], []) else none
  | .clo f a b => if plainL a && plainL b then some (.clo f a b, [], []) else none
  | _ => none

def pkCells (σ : Look) (d j : Nat) : Nat → List AV → Option (List AV × St × Lk)
  | _, [] => some ([], [], [])
  | c, a :: as => match pkCell σ d j c a with
    | some (a', e1, l1) => match pkCells σ d j (c + 1) as with
      | some (as', e2, l2) => some (a' :: as', e1 ++ e2, l1 ++ l2)
      | none => none
    | none => none

def pkArg (σ : Look) (j : Nat) (x : AV) : Option (AV × St × Lk) :=
  match x with
  | .pv p => some (.pv p, [], [])
  | .emp => some (.emp, [], [])
  | .rf k st => match rowAt σ k st with
    | some (true, e, xs) => some (.rf (.RS j 0) 0, [(.RS j 0, .rw 0 true e xs)], [(.RS j 0, k)])
    | _ => none
  | .ptr d 0 st => match boxAt σ d st with
    | some cs => match pkCells σ d j 0 cs with
      | some (cs', en, l) => some (.ptr j 0 0, (.B j, .bx 0 cs') :: en, (.B j, .B d) :: l)
      | none => none
    | none => none
  | .agg cs => if plainL cs then some (.agg cs, [], []) else none
  | .clo f a b => if plainL a && plainL b then some (.clo f a b, [], []) else none
  | _ => none

def pkArgs (σ : Look) : Nat → List AV → Option (St × St × Lk)
  | _, [] => some ([], [], [])
  | j, a :: as => match pkArg σ j a with
    | some (a', e1, l1) => match pkArgs σ (j + 1) as with
      | some (s2, e2, l2) => some ((.S j, .av a') :: s2, e1 ++ e2, l1 ++ l2)
      | none => none
    | none => none

/-! What comes back. -/
def bkK (lk : Lk) (dst : Option Nat) : Key → Option Key
  | .B j => lookL lk (.B j)
  | .RC j c => match lookL lk (.B j) with
    | some (.B d) => some (.RC d c)
    | _ => none
  | .RS 0 c => dst.map (Key.RS · c)
  | _ => none

def rlOf (lk : Lk) (dst : Option Nat) (ret : St) : Lk := ret.filterMap fun x => (bkK lk dst x.1).map fun k => (x.1, k)

mutual
def unA (σ R : Look) (rl : Lk) : AV → Option AV
  | .undef => some .undef
  | .pv p => some (.pv p)
  | .emp => some .emp
  | .rf K s => match R K with
    | .rw s' true _ _ => if s = s' then (lookL rl K).map fun k => .rf k (nst (σ k)) else none
    | .rw s' false _ xs => if s = s' then some (.pv (.sl xs)) else none
    | _ => none
  | .ptr j off s => match R (.B j), lookL rl (.B j) with
    | .bx s' _, some (.B d) => if s = s' then (σ (.B d)).stamp.map fun st => .ptr d off st else none
    | _, _ => none
  | .agg cs => (unL σ R rl cs).map .agg
  | .tup cs => (unL σ R rl cs).map .tup
  | .clo f a b => match unL σ R rl a, unL σ R rl b with
    | some a', some b' => some (.clo f a' b')
    | _, _ => none
  | _ => none
def unL (σ R : Look) (rl : Lk) : List AV → Option (List AV)
  | [] => some []
  | a :: as => match unA σ R rl a, unL σ R rl as with
    | some a', some as' => some (a' :: as')
    | _, _ => none
end

def unE (σ R : Look) (rl : Lk) : St → Option St
  | [] => some []
  | (K, kv) :: l => match unE σ R rl l with
    | none => none
    | some r => match kv, lookL rl K with
      | .bx _ cs, some (.B d) => match unL σ R rl cs, (σ (.B d)).stamp with
        | some cs', some st => some ((.B d, .bx st cs') :: r)
        | _, _ => none
      | .rw _ true e xs, some k => if isRowKey k then some ((k, .rw (nst (σ k)) true e xs) :: r) else none
      | .bx _ _, _ => none
      | .rw _ true _ _, none => none
      | _, _ => some r

def deads (σ : Look) : Lk → St
  | [] => []
  | (_, k) :: l => match k with
    | .B _ => deads σ l
    | .S _ => deads σ l
    | k => (k, .dead (nst (σ k))) :: deads σ l

def isBKey : Key → Bool
  | .B _ => true
  | _ => false

/-- the checks -/
def okBack (lk rl : Lk) (ret r1 : St) : Bool :=
  ndK (lk.map (·.1)) && ndK (lk.map (·.2)) && ndK (rl.map (·.1)) && ndK (rl.map (·.2)) && ndK (ret.map (·.1)) && ndK (r1.map (·.1)) &&
  lk.all (fun x => match x.1, x.2 with
    | .B j, .B d => decide (j < 1000) && r1.any (fun y => y.1 == .B d)
    | .B _, _ => false
    | _, k => isRowKey k)

structure CallEff where
  inp : St
  wr : St
  rd : List Key

/-- the call's input -/
def callIn (σ : Look) (mv : Nat → Option TypeId) (as : List AV) : Option (St × St × Lk × List AV) :=
  match preArgs σ mv 0 as with
  | some (as', w0) => match pkArgs (updL σ w0) 0 as' with
    | some (sl, en, lk) => if ndK ((sl ++ en).map (·.1)) then some (sl ++ en, w0, lk, as') else none
    | none => none
  | none => none

def callBack (σ1 : Look) (lk : Lk) (dst : Option Nat) (ret : St) : Option St :=
  let rl := rlOf lk dst ret
  match unE σ1 (look ret) rl ret with
  | some r1 => match dst with
    | some d => match unA σ1 (look ret) rl (look ret (.S 0)).slot with
      | some a => if okBack lk rl ret r1 then some ((.S d, .av a) :: r1 ++ deads σ1 lk) else none
      | none => none
    | none => if okBack lk rl ret r1 then some (r1 ++ deads σ1 lk) else none
  | none => none

end Go.Pw
