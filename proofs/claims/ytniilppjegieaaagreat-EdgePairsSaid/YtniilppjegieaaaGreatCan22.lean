/- A reading does not hang on objects that it does not name. No function of the program is mentioned here. -/
import Derived.Test.YtniilppjegieaaaGreatCan20
namespace Go.Can
open Go.RowKit

section
variable {tab : List (Nat × TI)} {s s' : St}

def names (o : Nat) : CV → Bool
  | .osl p _ _ => p == o
  | .optr p _ => p == o
  | _ => false

theorem memAt_mono {c : CV} {cs : List CV} (h : memAt s c = some cs) (hh : ∀ o ob, names o c = true → assoc s.heap o = some ob → assoc s'.heap o = some ob) : memAt s' c = some cs := by
  cases c <;> simp only [memAt] at h ⊢ <;> first | exact h | skip
  rename_i o off
  cases ho : assoc s.heap o with
  | none => rw [ho] at h; cases h
  | some y => rw [hh o y (by simp [names]) ho]; rw [ho] at h; exact h

theorem cslice_mono {t : TypeId} {c r : CV} {lo hi : Option Operand} (h1 : ∀ y, lo = some y → ev s y = ev s' y) (h2 : ∀ y, hi = some y → ev s y = ev s' y) (h : cslice tab s t c lo hi = some r) (hh : ∀ o ob, names o c = true → assoc s.heap o = some ob → assoc s'.heap o = some ob) : cslice tab s' t c lo hi = some r := by
  cases c <;> simp only [cslice, cbound_congr h1, cbound_congr h2] at h ⊢ <;> first | exact h | skip
  rename_i o off n
  cases ho : assoc s.heap o with
  | some y => rw [hh o y (by simp [names]) ho]; rw [ho] at h; exact h
  | none =>
    rw [ho] at h
    exfalso
    split at h
    · split at h
      · rename_i e; cases e
      · cases h
    · cases h

theorem ev_heap (H : List (Nat × Ob)) (x : Operand) : ev { s with heap := H } x = ev s x := by cases x <;> rfl
theorem evs_heap (H : List (Nat × Ob)) (xs : List Operand) : evs { s with heap := H } xs = evs s xs := evs_congr xs fun x _ => ev_heap H x
theorem cparts_heap (H : List (Nat × Ob)) (xs : List (Nat × Operand)) : cparts { s with heap := H } xs = cparts s xs := cparts_congr xs fun x _ => ev_heap H x.2
theorem cbuiltin_heap (H : List (Nat × Ob)) (b : Builtin) (xs : List Operand) (ts : List TypeId) : cbuiltin tab { s with heap := H } b xs ts = cbuiltin tab s b xs ts := by
  unfold cbuiltin
  split
  · split
    · rw [ev_heap]
    · rfl
  · rw [evs_heap]
  · rw [evs_heap]
  · rfl
theorem qval_noheap (op : Op) (h : ∀ x ∈ op.operands, ev s x = ev s' x) (n1 : ∀ t x, op ≠ .load t x) (n2 : ∀ t x lo hi mx, op ≠ .slice t x lo hi mx) : qval tab s op = qval tab s' op := by
  have k := qval_congr (tab := tab) (s := s) (s' := { s' with heap := s.heap }) rfl op (fun x hx => by rw [h x hx]; cases x <;> rfl)
  rw [k]
  cases op <;> first | rfl | skip
  all_goals first | exact absurd rfl (n1 _ _) | exact absurd rfl (n2 _ _ _ _ _) | skip
  case makeFunc f first cap =>
    cases f <;> first | rfl | skip
    simp only [qval, evs_heap]
  all_goals
    simp only [qval, cbuild, ev_heap, evs_heap, cparts_heap, cbuiltin_heap]
theorem qval_mono {op : Op} (h : ∀ x ∈ op.operands, ev s x = ev s' x) {c : CV} (hq : qval tab s op = some c) (hh : ∀ x ∈ op.operands, ∀ v, ev s x = some v → ∀ o ob, names o v = true → assoc s.heap o = some ob → assoc s'.heap o = some ob) : qval tab s' op = some c := by
  cases op
  case load t x =>
    have hx := h x (by simp [Op.operands])
    have hk := hh x (by simp [Op.operands])
    simp only [qval] at hq ⊢
    rw [← hx]
    cases hv : ev s x with
    | none => rw [hv] at hq; simp at hq
    | some d =>
      rw [hv] at hq
      cases ht : assoc tab t with
      | none => rw [ht] at hq; simp at hq
      | some ii =>
        rw [ht] at hq
        simp only at hq ⊢
        cases hy : memAt s d with
        | none => rw [hy] at hq; cases hq
        | some cs => rw [memAt_mono hy (hk d hv)]; rw [hy] at hq; exact hq
  case slice t x lo hi mx =>
    cases mx with
    | some _ => exact hq
    | none =>
      have hx := h x (by simp [Op.operands])
      have hk := hh x (by simp [Op.operands])
      have h1 : ∀ y, lo = some y → ev s y = ev s' y := fun y e => h y (by subst e; simp [Op.operands])
      have h2 : ∀ y, hi = some y → ev s y = ev s' y := fun y e => h y (by subst e; simp [Op.operands])
      simp only [qval] at hq ⊢
      rw [← hx]
      cases hv : ev s x with
      | none => rw [hv] at hq; simp at hq
      | some d => rw [hv] at hq; exact cslice_mono h1 h2 hq (hk d hv)
  all_goals exact (qval_noheap _ h (fun _ _ e => by cases e) (fun _ _ _ _ _ e => by cases e)).symm.trans hq
end
end Go.Can

/- A region that draws, its readings hoisted past new objects and past stores into other objects. No function of the program is mentioned here. -/
namespace Go.Can
open Go.RowKit

section
variable {P : Program} {C : Cx} {s : St} {a : Act} {w : World} {ops : Array Oper} {tab : List (Nat × TI)} {nt : Nat}

def cstH (tab : List (Nat × TI)) (s : St) (t : TypeId) (x : Operand) (v : Operand) : Option (List (Nat × Ob)) :=
  match ev s x, ev s v, assoc tab t with
  | some (.optr o off), some c, some i =>
    match assoc s.heap o with
    | none => none
    | some ob => if isTup c then none else if c.cells.length = i.size ∧ off + c.cells.length ≤ ob.cells.length then some (upd s.heap o { ob with cells := cput ob.cells off c.cells }) else none
  | _, _, _ => none
theorem cstore_cstH {t : TypeId} {x v : Operand} {H : List (Nat × Ob)} (h : cstH tab s t x v = some H) : cstore tab s t x v = some { s with heap := H } := by
  unfold cstH at h
  unfold cstore
  split at h
  · rename_i o off c i e1 e2 e3
    rw [e1, e2, e3]
    simp only
    cases ho : assoc s.heap o with
    | none => rw [ho] at h; cases h
    | some ob =>
      rw [ho] at h
      simp only at h ⊢
      split at h
      · cases h
      · rename_i n1
        rw [if_neg n1]
        split at h
        · rename_i n2; rw [if_pos n2]; cases h; rfl
        · cases h
  · cases h

def isRd : Op → Bool
  | .move _ => true
  | .assign _ => true
  | .load _ _ => true
  | .fieldAddr _ _ _ => true
  | .indexAddr _ _ _ => true
  | .slice _ _ _ _ _ => true
  | .binOp _ _ _ _ _ => true
  | .unOp _ _ _ => true
  | .call c => match c.callee with
    | .builtin .len => true
    | .builtin .min => true
    | .builtin .max => true
    | _ => false
  | _ => false
def eff (tab : List (Nat × TI)) (s : St) (op : Op) : Option (List (Nat × Ob) × Nat × Option CV) :=
  match op with
  | .store t x v => (cstH tab s t x v).map fun H => (H, s.nx, none)
  | .box e x => (aval tab s (.box e x)).map fun r => ((s.nx, r.1) :: s.heap, s.nx + 1, some (r.2 s.nx))
  | .buildSlice t n parts => (aval tab s (.buildSlice t n parts)).map fun r => ((s.nx, r.1) :: s.heap, s.nx + 1, some (r.2 s.nx))
  | op => if isRd op then (qval tab s op).map fun c => (s.heap, s.nx, some c) else none
def stepX (tab : List (Nat × TI)) (nt : Nat) (s : St) (o : Oper) : Option St :=
  if dstOk nt o.dst = true ∧ o.guard = none then (eff tab s o.op).map fun r => putR ⟨s.env, r.1, r.2.1⟩ o.dst r.2.2 else none

theorem stepX_gstep {o : Oper} {s' : St} (h : stepX tab nt s o = some s') : gstep tab nt ops s o = some s' := by
  by_cases hn : isNew o.op = true
  · refine stepA_gstep ?_
    unfold stepX at h
    unfold stepA
    split at h
    · rename_i hc
      rw [if_pos hc, if_pos hn]
      cases hop : o.op <;> rw [hop] at h hn <;> simp only [isNew, Bool.false_eq_true] at hn
      all_goals
        simp only [eff] at h
        rw [Option.map_map] at h
        exact h
    · cases h
  unfold stepX at h
  split at h
  · rename_i hc
    obtain ⟨h1, h2⟩ := hc
    unfold gstep
    rw [if_pos h1, h2]
    simp only
    unfold stepOp
    cases hop : o.op <;> rw [hop] at h hn <;> simp only [eff, isRd, Bool.false_eq_true, if_false, if_true] at h <;> first | cases h | skip
    case move => rw [Option.map_map] at h; exact h
    case assign => rw [Option.map_map] at h; exact h
    case load => rw [Option.map_map] at h; exact h
    case fieldAddr => rw [Option.map_map] at h; exact h
    case indexAddr => rw [Option.map_map] at h; exact h
    case slice => rw [Option.map_map] at h; exact h
    case binOp => rw [Option.map_map] at h; exact h
    case unOp => rw [Option.map_map] at h; exact h
    case box => exact absurd rfl hn
    case buildSlice => exact absurd rfl hn
    case store t x v =>
      cases hs : cstH tab s t x v with
      | none => rw [hs] at h; cases h
      | some H =>
        rw [hs] at h
        cases h
        simp only [cstore_cstH hs]
        rfl
    case call c =>
      obtain ⟨cal, args, ats⟩ := c
      cases cal
      case builtin b =>
        cases b <;> simp only [Bool.false_eq_true, if_false, if_true] at h <;> first | cases h | skip
        all_goals
          simp only [qval] at h
          rw [Option.map_map] at h
          exact h
      all_goals
        simp only [Bool.false_eq_true, if_false] at h
        cases h
  · cases h

theorem cstH_congr {s' : St} {t : TypeId} {x v : Operand} (hh : s.heap = s'.heap) (h1 : ev s x = ev s' x) (h2 : ev s v = ev s' v) : cstH tab s t x v = cstH tab s' t x v := by
  unfold cstH
  rw [h1, h2, hh]
theorem eff_congr {s' : St} (hh : s.heap = s'.heap) (hn : s.nx = s'.nx) (op : Op) (h : ∀ x ∈ op.operands, ev s x = ev s' x) : eff tab s op = eff tab s' op := by
  have hq := qval_congr (tab := tab) hh op h
  have ha := aval_congr (tab := tab) op h
  cases op <;> simp only [eff]
  case store t x v => rw [cstH_congr hh (h x (by simp [Op.operands])) (h v (by simp [Op.operands])), hn]
  all_goals first | rfl | rw [hq, hh, hn] | rw [ha, hh, hn]

theorem stepX_sim {s s' r : St} (h : Sim s s') {o : Oper} (hs : stepX tab nt s o = some r) : ∃ r', stepX tab nt s' o = some r' ∧ Sim r r' := by
  unfold stepX at hs ⊢
  split at hs
  · rename_i hc
    rw [if_pos hc, ← eff_congr h.2.1.symm h.2.2.symm o.op fun x _ => (h.ev x).symm]
    cases he : eff tab s o.op with
    | none => rw [he] at hs; cases hs
    | some q =>
      rw [he] at hs
      cases hs
      refine ⟨_, rfl, fun t => ?_, ?_, ?_⟩
      · rw [assoc_putR, assoc_putR]
        unfold updE
        split
        · rfl
        · exact h.1 t
      · simp only [putR_heap]
      · simp only [putR_heap]
  · cases hs

/-! ### Two operations apart -/
theorem ev_putR {s : St} {d : Option Tmp} {r : Option CV} {H : List (Nat × Ob)} {n : Nat} {o : Oper} (h : ∀ t, d = some t → t ∉ o.looksAt ops) : ∀ x ∈ o.op.operands, ev (putR ⟨s.env, H, n⟩ d r) x = ev s x := by
  intro x hx
  cases x with
  | tmp t =>
    have ht : t ∈ o.looksAt ops := List.mem_append_left _ (List.mem_filterMap.2 ⟨.tmp t, by simpa using hx, rfl⟩)
    show assoc (putR ⟨s.env, H, n⟩ d r).env t = assoc s.env t
    rw [assoc_putR]
    unfold updE
    rw [if_neg fun e => h t e ht]
  | _ => rfl
/-- The object that an operation turns. -/
def turns (s : St) (op : Op) (o : Nat) : Prop := ∃ t x v off, op = .store t x v ∧ ev s x = some (.optr o off)
theorem eff_heap {op : Op} {r : List (Nat × Ob) × Nat × Option CV} (h : eff tab s op = some r) {o : Nat} (hlt : o < s.nx) (ht : ¬ turns s op o) : assoc r.1 o = assoc s.heap o := by
  cases op <;> simp only [eff] at h
  case store t x v =>
    cases hs : cstH tab s t x v with
    | none => rw [hs] at h; cases h
    | some H =>
      rw [hs] at h
      cases h
      unfold cstH at hs
      split at hs
      · rename_i p off c i e1 e2 e3
        split at hs
        · cases hs
        · split at hs
          · cases hs
          · split at hs
            · cases hs
              simp only
              rw [assoc_upd]
              rw [if_neg fun e => ht ⟨t, x, v, off, rfl, by rw [e1, e]⟩]
            · cases hs
      · cases hs
  case box e x =>
    cases ha : aval tab s (.box e x) with
    | none => rw [ha] at h; cases h
    | some q => rw [ha] at h; cases h; simp only [assoc]; rw [if_neg (by omega)]
  case buildSlice t n parts =>
    cases ha : aval tab s (.buildSlice t n parts) with
    | none => rw [ha] at h; cases h
    | some q => rw [ha] at h; cases h; simp only [assoc]; rw [if_neg (by omega)]
  all_goals
    split at h
    · rename_i hr
      first
        | (simp only [isRd, Bool.false_eq_true] at hr; done)
        | (obtain ⟨c, _, e⟩ := Option.map_eq_some_iff.1 h; subst e; rfl)
    · cases h
theorem eff_nx {op : Op} {r : List (Nat × Ob) × Nat × Option CV} (h : eff tab s op = some r) : s.nx ≤ r.2.1 := by
  cases op <;> simp only [eff] at h
  all_goals first
    | (obtain ⟨c, _, e⟩ := Option.map_eq_some_iff.1 h; subst e; simp)
    | (split at h
       · obtain ⟨c, _, e⟩ := Option.map_eq_some_iff.1 h; subst e; simp
       · cases h)

/-- What the reading names: lies below the next number, and oj does not turn it. -/
def Clear (s : St) (oi oj : Oper) : Prop := ∀ x ∈ oi.op.operands, ∀ v, ev s x = some v → ∀ o, names o v = true → o < s.nx ∧ ¬ turns s oj.op o

theorem stepX_swap {oi oj : Oper} {c : CV} {s1 : St} (hap : oi.apart ops oj = true) (hcl : Clear s oi oj) (hq : qval tab s oi.op = some c) (hs : stepX tab nt (s.put oi.dst c) oj = some s1) :
    ∃ s2, stepX tab nt s oj = some s2 ∧ qval tab s2 oi.op = some c ∧ Sim s1 (s2.put oi.dst c) ∧ (∀ x ∈ oi.op.operands, ev s2 x = ev s x) ∧ (∀ t, oj.dst ≠ some t → assoc s2.env t = assoc s.env t) ∧ s.nx ≤ s2.nx := by
  obtain ⟨h1, h2, h3⟩ := Oper.apart_spec hap
  unfold stepX at hs ⊢
  split at hs
  · rename_i hc
    rw [if_pos hc]
    rw [eff_congr (put_heap s _ _).1 (put_heap s _ _).2 oj.op (ev_put h1)] at hs
    cases he : eff tab s oj.op with
    | none => rw [he] at hs; cases hs
    | some r =>
      rw [he] at hs
      cases hs
      have hev := ev_putR (s := s) (d := oj.dst) (r := r.2.2) (H := r.1) (n := r.2.1) h3
      refine ⟨_, rfl, ?_, ⟨fun t => ?_, ?_, ?_⟩, hev, fun t ht => ?_, ?_⟩
      · refine qval_mono (fun x hx => (hev x hx).symm) hq fun x hx v hv o ob hn ho => ?_
        obtain ⟨k1, k2⟩ := hcl x hx v hv o hn
        rw [putR_heap.1]
        rw [eff_heap he k1 k2]
        exact ho
      · show assoc ((putR _ oi.dst (some c)).env) t = _
        rw [assoc_putR, assoc_putR]
        unfold updE
        rw [assoc_putR]
        show (if oi.dst = some t then some c else updE (assoc s.env) oj.dst r.2.2 t) = if oj.dst = some t then r.2.2 else assoc (putR s oi.dst (some c)).env t
        rw [assoc_putR]
        unfold updE
        by_cases e : oi.dst = some t
        · rw [if_pos e, if_neg (h2 t e), if_pos e]
        · rw [if_neg e, if_neg e]
      · rw [(put_heap _ _ _).1, putR_heap.1, putR_heap.1]
      · rw [(put_heap _ _ _).2, putR_heap.2, putR_heap.2]
      · rw [assoc_putR]
        unfold updE
        rw [if_neg ht]
      · rw [putR_heap.2]
        exact eff_nx he
  · cases hs
end
end Go.Can

/- The exploration of a draw with readings hoisted past new objects and stores elsewhere. No function of the program is mentioned here. -/
namespace Go.Can
open Go.RowKit

section
variable {P : Program} {C : Cx} {s : St} {a : Act} {w : World} {ops : Array Oper} {tab : List (Nat × TI)} {nt : Nat}

/-- Every order from here on, operation by operation. -/
def XX (tab : List (Nat × TI)) (nt : Nat) (ops : Array Oper) (K : St → Prop) : Nat → Array Bool → St → Prop
  | 0, listed, s => Region.ready .any ops listed = [] ∧ K s
  | f + 1, listed, s => (Region.ready .any ops listed = [] → K s) ∧ ∀ i ∈ Region.ready .any ops listed, ∃ o s', ops[i]? = some o ∧ stepX tab nt s o = some s' ∧ XX tab nt ops K f (listed.setIfInBounds i true) s'

theorem XX.sim {K : St → Prop} (hK : ∀ s s', Sim s s' → K s → K s') : ∀ (f : Nat) (listed : Array Bool) (s s' : St), Sim s s' → XX tab nt ops K f listed s → XX tab nt ops K f listed s'
  | 0, _, s, s', h, hx => ⟨hx.1, hK s s' h hx.2⟩
  | f + 1, listed, s, s', h, hx => by
    refine ⟨fun he => hK s s' h (hx.1 he), fun i hi => ?_⟩
    obtain ⟨o, s1, ho, hs, hk⟩ := hx.2 i hi
    obtain ⟨s2, h2, h3⟩ := stepX_sim h hs
    exact ⟨o, s2, ho, h2, XX.sim hK f _ s1 s2 h3 hk⟩

def Safe (ops : Array Oper) (listed : Array Bool) (s : St) (oi oj : Oper) : Prop :=
  (∀ t x v, oj.op ≠ .store t x v) ∨ ∃ t y v o off, oj.op = .store t y v ∧ ev s y = some (.optr o off) ∧ (∀ x ∈ oi.op.operands, ∀ u, ev s x = some u → names o u = false) ∧ ∀ j oj', ops[j]? = some oj' → listed.getD j true = false → ∀ tt, y = .tmp tt → oj'.dst ≠ some tt
def Hoist (ops : Array Oper) (i : Nat) (oi : Oper) (listed : Array Bool) (s : St) : Prop :=
  (∀ x ∈ oi.op.operands, ∀ u, ev s x = some u → ∀ o, names o u = true → o < s.nx) ∧
    ∀ j oj, ops[j]? = some oj → j ≠ i → listed.getD j true = false → (∀ e ∈ oj.after, Region.binds .any e = true → e.on ≠ i) → oi.apart ops oj = true ∧ Safe ops listed s oi oj

theorem Hoist.clear {i j : Nat} {oi oj : Oper} {listed : Array Bool} (h : Hoist ops i oi listed s) (hs : Safe ops listed s oi oj) : Clear s oi oj := by
  intro x hx v hv o hn
  refine ⟨h.1 x hx v hv o hn, ?_⟩
  rintro ⟨t, y, u, off, e1, e2⟩
  rcases hs with hs | ⟨t', y', u', o', off', k1, k2, k3, _⟩
  · exact hs t y u e1
  · rw [e1] at k1
    cases k1
    rw [e2] at k2
    cases k2
    have := k3 x hx v hv
    rw [hn] at this
    cases this

theorem getD_unset {i j : Nat} {listed : Array Bool} (h : (listed.setIfInBounds j true).getD i true = false) : listed.getD i true = false := by
  by_cases e : j = i
  · subst e
    rcases Nat.lt_or_ge j listed.size with hl | hl
    · simp [hl] at h
    · simp [Array.getElem?_eq_none hl] at h
  · rwa [getD_set_ne true e] at h

theorem Hoist.next {i j : Nat} {oi oj : Oper} {listed : Array Bool} {s2 : St} (h : Hoist ops i oi listed s) (hj : ops[j]? = some oj) (hl : listed.getD j true = false) (h1 : ∀ x ∈ oi.op.operands, ev s2 x = ev s x) (h2 : ∀ t, oj.dst ≠ some t → assoc s2.env t = assoc s.env t) (h3 : s.nx ≤ s2.nx) : Hoist ops i oi (listed.setIfInBounds j true) s2 := by
  refine ⟨fun x hx u hu o hn => ?_, fun m om hm hne hml hno => ?_⟩
  · rw [h1 x hx] at hu
    have := h.1 x hx u hu o hn
    omega
  · obtain ⟨k1, k2⟩ := h.2 m om hm hne (getD_unset hml) hno
    refine ⟨k1, ?_⟩
    rcases k2 with k2 | ⟨t, y, v, o, off, e1, e2, e3, e4⟩
    · exact .inl k2
    · refine .inr ⟨t, y, v, o, off, e1, ?_, fun x hx u hu => e3 x hx u (by rw [← h1 x hx]; exact hu), fun m' om' hm' hl' => e4 m' om' hm' (getD_unset hl')⟩
      rw [← e2]
      cases y with
      | tmp tt => exact h2 tt (e4 j oj hj hl tt rfl)
      | _ => rfl

theorem stepX_rd {o : Oper} {s' : St} (hr : isRd o.op = true) (h : stepX tab nt s o = some s') : ∃ c, qval tab s o.op = some c ∧ s' = s.put o.dst c := by
  unfold stepX at h
  split at h
  · obtain ⟨r, e1, e2⟩ := Option.map_eq_some_iff.1 h
    have : eff tab s o.op = (qval tab s o.op).map fun c => (s.heap, s.nx, some c) := by
      cases hop : o.op <;> rw [hop] at hr <;> simp only [eff]
      all_goals first
        | (simp only [isRd, Bool.false_eq_true] at hr; done)
        | rw [if_pos hr]
    rw [this] at e1
    obtain ⟨c, k1, k2⟩ := Option.map_eq_some_iff.1 e1
    subst k2
    exact ⟨c, k1, e2.symm⟩
  · cases h

/-- Reading first. -/
theorem XX.hoist {K : St → Prop} (hK : ∀ s s', Sim s s' → K s → K s') {i : Nat} {oi : Oper} (hi : ops[i]? = some oi) {c : CV} : ∀ (f : Nat) (listed : Array Bool) (s : St),
    i ∈ Region.ready .any ops listed → Hoist ops i oi listed s → qval tab s oi.op = some c → (∀ s, qval tab s oi.op = some c → stepX tab nt s oi = some (s.put oi.dst c)) →
    XX tab nt ops K f (listed.setIfInBounds i true) (s.put oi.dst c) → XX tab nt ops K (f + 1) listed s := by
  intro f
  induction f with
  | zero =>
    intro listed s hm _ hq hst hx
    refine ⟨fun he => by rw [he] at hm; simp at hm, fun j hj => ?_⟩
    by_cases e : i = j
    · subst e
      exact ⟨oi, _, hi, hst s hq, hx⟩
    · have := ready_set hj e
      rw [hx.1] at this
      simp at this
  | succ f ih =>
    intro listed s hm hap hq hst hx
    refine ⟨fun he => by rw [he] at hm; simp at hm, fun j hj => ?_⟩
    by_cases e : i = j
    · subst e
      exact ⟨oi, _, hi, hst s hq, hx⟩
    · obtain ⟨oj, s1, ho, hs, hk⟩ := hx.2 j (ready_set hj e)
      obtain ⟨j1, oj', hoj', j2⟩ := mem_ready.1 hj
      have : oj' = oj := Option.some.inj (hoj'.symm.trans ho)
      subst this
      obtain ⟨i1, oi', hoi', i2⟩ := mem_ready.1 hm
      obtain ⟨hij, hsf⟩ := hap.2 j oj' ho (Ne.symm e) j1 fun e' he' hb hon => by
        have := j2 e' he' hb
        rw [hon] at this
        rw [getD_both i1] at this; cases this
      obtain ⟨s2, k1, k2, k3, k4, k5, k6⟩ := stepX_swap hij (hap.clear (j := j) hsf) hq hs
      refine ⟨oj', s2, ho, k1, ih _ s2 (ready_set hm (Ne.symm e)) (hap.next ho j1 k4 k5 k6) k2 hst ?_⟩
      rw [Array.setIfInBounds_comm _ _ (Ne.symm e)]
      exact XX.sim hK f _ s1 _ k3 hk

/-! ### The check -/
def safeB (ops : Array Oper) (listed : Array Bool) (s : St) (oi oj : Oper) : Bool :=
  match oj.op with
  | .store _ y _ => match y with
    | .tmp tt => match assoc s.env tt with
      | some (.optr o _) => (oi.op.operands.toList.all fun x => match ev s x with
          | some u => !names o u
          | none => true) && (List.range ops.size).all fun j => listed.getD j true || match ops[j]? with
          | some oj' => oj'.dst != some tt
          | none => true
      | _ => false
    | _ => false
  | _ => true
def lowB (s : St) (oi : Oper) : Bool := oi.op.operands.toList.all fun x => match ev s x with
  | some (.osl p _ _) => decide (p < s.nx)
  | some (.optr p _) => decide (p < s.nx)
  | _ => true
def hoistB (ops : Array Oper) (listed : Array Bool) (s : St) (i : Nat) : Bool :=
  (Region.ready .any ops listed).contains i && match ops[i]? with
    | none => false
    | some oi => isRd oi.op && lowB s oi && (List.range ops.size).all fun j => j == i || listed.getD j true || match ops[j]? with
      | some oj => oj.after.any (fun e => Region.binds .any e && e.on == i) || (oi.apart ops oj && safeB ops listed s oi oj)
      | none => true

theorem safeB_spec {listed : Array Bool} {oi oj : Oper} (h : safeB ops listed s oi oj = true) : Safe ops listed s oi oj := by
  unfold safeB at h
  split at h
  · rename_i t y v hop
    split at h
    · rename_i tt
      split at h
      · rename_i o off he
        simp only [Bool.and_eq_true, List.all_eq_true, List.mem_range] at h
        refine .inr ⟨t, .tmp tt, v, o, off, hop, he, fun x hx u hu => ?_, fun j oj' hj hl t' ht' => ?_⟩
        · have := h.1 x (by simpa using hx)
          rw [hu] at this
          simpa using this
        · cases ht'
          have := h.2 j (Array.getElem?_eq_some_iff.1 hj).1
          rw [hl, hj] at this
          simpa using this
      · cases h
    · cases h
  · rename_i hn
    exact .inl fun t x v e => hn t x v e
theorem hoistB_spec {i : Nat} {listed : Array Bool} {oi : Oper} (hi : ops[i]? = some oi) (h : hoistB ops listed s i = true) : i ∈ Region.ready .any ops listed ∧ isRd oi.op = true ∧ Hoist ops i oi listed s := by
  unfold hoistB at h
  rw [hi] at h
  simp only [Bool.and_eq_true] at h
  obtain ⟨h1, ⟨h2, h3⟩, h4⟩ := h
  refine ⟨by simpa using h1, h2, fun x hx u hu o hn => ?_, fun j oj hj hne hl hno => ?_⟩
  · have := List.all_eq_true.1 h3 x (by simpa using hx)
    rw [hu] at this
    cases u <;> simp only [names, Bool.false_eq_true] at hn
    · simp only [decide_eq_true_eq] at this; simp only [beq_iff_eq] at hn; omega
    · simp only [decide_eq_true_eq] at this; simp only [beq_iff_eq] at hn; omega
  · have := List.all_eq_true.1 h4 j (List.mem_range.2 (Array.getElem?_eq_some_iff.1 hj).1)
    simp only [hj, Bool.or_eq_true, beq_iff_eq, hne, false_or, hl, Bool.false_eq_true, Bool.and_eq_true] at this
    rcases this with h5 | ⟨h5, h6⟩
    · obtain ⟨e, he, hb⟩ := Array.any_eq_true'.1 h5
      simp only [Bool.and_eq_true, beq_iff_eq] at hb
      exact absurd hb.2 (hno e he hb.1)
    · exact ⟨h5, safeB_spec h6⟩

theorem XX.read {K : St → Prop} {f : Nat} {listed : Array Bool} {i : Nat} {o : Oper} (hb : hoistB ops listed s i = true) (ho : ops[i]? = some o) (h : okS (fun s' => XX tab nt ops (KS K) f (listed.setIfInBounds i true) s') (stepX tab nt s o)) : XX tab nt ops (KS K) (f + 1) listed s := by
  obtain ⟨h1, h2, h3⟩ := hoistB_spec ho hb
  cases hs : stepX tab nt s o with
  | none => rw [hs] at h; exact h.elim
  | some s' =>
    rw [hs] at h
    obtain ⟨c, k1, rfl⟩ := stepX_rd h2 hs
    refine XX.hoist KS.sim ho f listed s h1 h3 k1 (fun u hu => ?_) h
    have hc : dstOk nt o.dst = true ∧ o.guard = none := by
      unfold stepX at hs
      split at hs
      · assumption
      · cases hs
    unfold stepX
    rw [if_pos hc]
    have : eff tab u o.op = (qval tab u o.op).map fun c => (u.heap, u.nx, some c) := by
      cases hop : o.op <;> rw [hop] at h2 <;> simp only [eff]
      all_goals first
        | (simp only [isRd, Bool.false_eq_true] at h2; done)
        | rw [if_pos h2]
    rw [this, hu]
    rfl
theorem XX.one {K : St → Prop} {f : Nat} {listed : Array Bool} {i : Nat} {o : Oper} (hr : Region.ready .any ops listed = [i]) (ho : ops[i]? = some o) (h : okS (fun s' => XX tab nt ops K f (listed.setIfInBounds i true) s') (stepX tab nt s o)) : XX tab nt ops K (f + 1) listed s := by
  refine ⟨fun he => (by rw [hr] at he; cases he), fun k hk => ?_⟩
  rw [hr] at hk
  simp only [List.mem_singleton] at hk
  subst hk
  cases hs : stepX tab nt s o with
  | none => rw [hs] at h; exact h.elim
  | some s' => rw [hs] at h; exact ⟨o, s', ho, hs, h⟩
theorem XX.end {K : St → Prop} {f : Nat} {listed : Array Bool} (hr : Region.ready .any ops listed = []) (h : K s) : XX tab nt ops (KS K) f listed s := by
  cases f with
  | zero => exact ⟨hr, s, Sim.refl s, h⟩
  | succ f => exact ⟨fun _ => ⟨s, Sim.refl s, h⟩, fun i hi => (by rw [hr] at hi; cases hi)⟩

theorem XX.tx (ht : TabOk P tab) {K : St → Prop} : ∀ (f : Nat) (listed : Array Bool) (s : St), XX tab C.nt ops K f listed s → TX P C ops K f listed s
  | 0, _, _, h => h
  | f + 1, listed, s, h => ⟨h.1, fun i hi => by
    obtain ⟨o, s', ho, hs, hk⟩ := h.2 i hi
    exact ⟨o, ho, TL.step ht (stepX_gstep hs) (TL.nil (XX.tx ht f _ s' hk))⟩⟩

/-- **A region that draws**, explored, readings hoisted by XX.read. -/
theorem T.reads (ht : TabOk P tab) (hm : P.follows .mixedOrders = true) {id : Nat} {l : List Oper} {Q : Exit → St → Prop}
    (h : XX tab C.nt l.toArray (KS (Q .normal)) l.length (Array.replicate l.length false) s) : T P C (.region id l.toArray true) s Q := by
  intro a w hr
  refine wp_mono (Q := fun e a' w' => e = .normal ∧ ∃ s', Q .normal s' ∧ Rel C s' a' w') (wp_region_any hm ?_) (fun e a' w' ⟨he, s', k1, k2⟩ => by subst he; exact ⟨s', k1, k2⟩)
  have hx : XX tab C.nt l.toArray (KS (Q .normal)) l.toArray.size (Array.replicate l.toArray.size false) s := by simpa using h
  refine TX_ok (K := KS (Q .normal)) (fun s'' a w hk hr' => ?_) _ _ s a _ (XX.tx ht _ _ s hx) hr.drew
  obtain ⟨s0, hs, hk⟩ := hk
  exact ⟨rfl, s0, hk, hr'.congr (fun t => (hs.1 t).symm) hs.2.1.symm hs.2.2.symm⟩
theorem TX.three {K : St → Prop} {f : Nat} {listed : Array Bool} {i j k : Nat} {o o' o'' : Oper} (hr : Region.ready .any ops listed = [i, j, k]) (ho : ops[i]? = some o) (ho' : ops[j]? = some o') (ho'' : ops[k]? = some o'') (h : TL P C ops [o] s fun s' => TX P C ops K f (listed.setIfInBounds i true) s') (h' : TL P C ops [o'] s fun s' => TX P C ops K f (listed.setIfInBounds j true) s') (h'' : TL P C ops [o''] s fun s' => TX P C ops K f (listed.setIfInBounds k true) s') : TX P C ops K (f + 1) listed s :=
  TX.go i [j, k] hr fun m hm => by
    simp only [List.mem_cons, List.not_mem_nil, or_false] at hm
    rcases hm with rfl | rfl | rfl
    · exact ⟨o, ho, h⟩
    · exact ⟨o', ho', h'⟩
    · exact ⟨o'', ho'', h''⟩
end
end Go.Can
