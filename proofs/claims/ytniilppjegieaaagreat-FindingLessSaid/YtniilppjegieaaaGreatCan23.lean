/- A region that draws, its readings hoisted past new objects and past stores into other objects. No function of the program is mentioned here. -/
import Derived.Test.YtniilppjegieaaaGreatCan22
namespace Go.Can
open Go.RowKit

section
variable {P : Program} {C : Cx} {s : St} {a : Act} {w : World} {ops : Array Oper} {tab : List (Nat × TI)} {nt : Nat}

def cstH (tab : List (Nat × TI)) (s : St) (t : TypeId) (x : Operand) (v : Operand) : Option (List (Nat × Ob)) :=
  match ev s x, ev s v, assoc tab t with
  | some (.optr o off), some c, some i =>
    match assoc s.heap o with
    | none => none
    | some ob => if isTup c then none else if c.cells.length = i.size ∧ off + c.cells.length ≤ ob.cells.length then some (upd s.heap o { ob with cells := cput ob.cells off c.cells }) else none
  | _, _, _ => none
theorem cstore_cstH {t : TypeId} {x v : Operand} {H : List (Nat × Ob)} (h : cstH tab s t x v = some H) : cstore tab s t x v = some { s with heap := H } := by
  unfold cstH at h
  unfold cstore
  split at h
  · rename_i o off c i e1 e2 e3
    rw [e1, e2, e3]
    simp only
    cases ho : assoc s.heap o with
    | none => rw [ho] at h; cases h
    | some ob =>
      rw [ho] at h
      simp only at h ⊢
      split at h
      · cases h
      · rename_i n1
        rw [if_neg n1]
        split at h
        · rename_i n2; rw [if_pos n2]; cases h; rfl
        · cases h
  · cases h

def isRd : Op → Bool
  | .move _ => true
  | .assign _ => true
  | .load _ _ => true
  | .fieldAddr _ _ _ => true
  | .indexAddr _ _ _ => true
  | .slice _ _ _ _ _ => true
  | .binOp _ _ _ _ _ => true
  | .unOp _ _ _ => true
  | .call c => match c.callee with
    | .builtin .len => true
    | .builtin .min => true
    | .builtin .max => true
    | _ => false
  | _ => false
def eff (tab : List (Nat × TI)) (s : St) (op : Op) : Option (List (Nat × Ob) × Nat × Option CV) :=
  match op with
  | .store t x v => (cstH tab s t x v).map fun H => (H, s.nx, none)
  | .box e x => (aval tab s (.box e x)).map fun r => ((s.nx, r.1) :: s.heap, s.nx + 1, some (r.2 s.nx))
  | .buildSlice t n parts => (aval tab s (.buildSlice t n parts)).map fun r => ((s.nx, r.1) :: s.heap, s.nx + 1, some (r.2 s.nx))
  | op => if isRd op then (qval tab s op).map fun c => (s.heap, s.nx, some c) else none
def stepX (tab : List (Nat × TI)) (nt : Nat) (s : St) (o : Oper) : Option St :=
  if dstOk nt o.dst = true ∧ o.guard = none then (eff tab s o.op).map fun r => putR ⟨s.env, r.1, r.2.1⟩ o.dst r.2.2 else none

theorem stepX_gstep {o : Oper} {s' : St} (h : stepX tab nt s o = some s') : gstep tab nt ops s o = some s' := by
  by_cases hn : isNew o.op = true
  · refine stepA_gstep ?_
    unfold stepX at h
    unfold stepA
    split at h
    · rename_i hc
      rw [if_pos hc, if_pos hn]
      cases hop : o.op <;> rw [hop] at h hn <;> simp only [isNew, Bool.false_eq_true] at hn
      all_goals
        simp only [eff] at h
        rw [Option.map_map] at h
        exact h
    · cases h
  unfold stepX at h
  split at h
  · rename_i hc
    obtain ⟨h1, h2⟩ := hc
    unfold gstep
    rw [if_pos h1, h2]
    simp only
    unfold stepOp
    cases hop : o.op <;> rw [hop] at h hn <;> simp only [eff, isRd, Bool.false_eq_true, if_false, if_true] at h <;> first | cases h | skip
    case move => rw [Option.map_map] at h; exact h
    case assign => rw [Option.map_map] at h; exact h
    case load => rw [Option.map_map] at h; exact h
    case fieldAddr => rw [Option.map_map] at h; exact h
    case indexAddr => rw [Option.map_map] at h; exact h
    case slice => rw [Option.map_map] at h; exact h
    case binOp => rw [Option.map_map] at h; exact h
    case unOp => rw [Option.map_map] at h; exact h
    case box => exact absurd rfl hn
    case buildSlice => exact absurd rfl hn
    case store t x v =>
      cases hs : cstH tab s t x v with
      | none => rw [hs] at h; cases h
      | some H =>
        rw [hs] at h
        cases h
        simp only [cstore_cstH hs]
        rfl
    case call c =>
      obtain ⟨cal, args, ats⟩ := c
      cases cal
      case builtin b =>
        cases b <;> simp only [Bool.false_eq_true, if_false, if_true] at h <;> first | cases h | skip
        all_goals
          simp only [qval] at h
          rw [Option.map_map] at h
          exact h
      all_goals
        simp only [Bool.false_eq_true, if_false] at h
        cases h
  · cases h

theorem cstH_congr {s' : St} {t : TypeId} {x v : Operand} (hh : s.heap = s'.heap) (h1 : ev s x = ev s' x) (h2 : ev s v = ev s' v) : cstH tab s t x v = cstH tab s' t x v := by
  unfold cstH
  rw [h1, h2, hh]
theorem eff_congr {s' : St} (hh : s.heap = s'.heap) (hn : s.nx = s'.nx) (op : Op) (h : ∀ x ∈ op.operands, ev s x = ev s' x) : eff tab s op = eff tab s' op := by
  have hq := qval_congr (tab := tab) hh op h
  have ha := aval_congr (tab := tab) op h
  cases op <;> simp only [eff]
  case store t x v => rw [cstH_congr hh (h x (by simp [Op.operands])) (h v (by simp [Op.operands])), hn]
  all_goals first | rfl | rw [hq, hh, hn] | rw [ha, hh, hn]

theorem stepX_sim {s s' r : St} (h : Sim s s') {o : Oper} (hs : stepX tab nt s o = some r) : ∃ r', stepX tab nt s' o = some r' ∧ Sim r r' := by
  unfold stepX at hs ⊢
  split at hs
  · rename_i hc
    rw [if_pos hc, ← eff_congr h.2.1.symm h.2.2.symm o.op fun x _ => (h.ev x).symm]
    cases he : eff tab s o.op with
    | none => rw [he] at hs; cases hs
    | some q =>
      rw [he] at hs
      cases hs
      refine ⟨_, rfl, fun t => ?_, ?_, ?_⟩
      · rw [assoc_putR, assoc_putR]
        unfold updE
        split
        · rfl
        · exact h.1 t
      · simp only [putR_heap]
      · simp only [putR_heap]
  · cases hs

/-! ### Two operations apart -/
theorem ev_putR {s : St} {d : Option Tmp} {r : Option CV} {H : List (Nat × Ob)} {n : Nat} {o : Oper} (h : ∀ t, d = some t → t ∉ o.looksAt ops) : ∀ x ∈ o.op.operands, ev (putR ⟨s.env, H, n⟩ d r) x = ev s x := by
  intro x hx
  cases x with
  | tmp t =>
    have ht : t ∈ o.looksAt ops := List.mem_append_left _ (List.mem_filterMap.2 ⟨.tmp t, by simpa using hx, rfl⟩)
    show assoc (putR ⟨s.env, H, n⟩ d r).env t = assoc s.env t
    rw [assoc_putR]
    unfold updE
    rw [if_neg fun e => h t e ht]
  | _ => rfl
/-- The object that an operation turns. -/
def turns (s : St) (op : Op) (o : Nat) : Prop := ∃ t x v off, op = .store t x v ∧ ev s x = some (.optr o off)
theorem eff_heap {op : Op} {r : List (Nat × Ob) × Nat × Option CV} (h : eff tab s op = some r) {o : Nat} (hlt : o < s.nx) (ht : ¬ turns s op o) : assoc r.1 o = assoc s.heap o := by
  cases op <;> simp only [eff] at h
  case store t x v =>
    cases hs : cstH tab s t x v with
    | none => rw [hs] at h; cases h
    | some H =>
      rw [hs] at h
      cases h
      unfold cstH at hs
      split at hs
      · rename_i p off c i e1 e2 e3
        split at hs
        · cases hs
        · split at hs
          · cases hs
          · split at hs
            · cases hs
              simp only
              rw [assoc_upd]
              rw [if_neg fun e => ht ⟨t, x, v, off, rfl, by rw [e1, e]⟩]
            · cases hs
      · cases hs
  case box e x =>
    cases ha : aval tab s (.box e x) with
    | none => rw [ha] at h; cases h
    | some q => rw [ha] at h; cases h; simp only [assoc]; rw [if_neg (by omega)]
  case buildSlice t n parts =>
    cases ha : aval tab s (.buildSlice t n parts) with
    | none => rw [ha] at h; cases h
    | some q => rw [ha] at h; cases h; simp only [assoc]; rw [if_neg (by omega)]
  all_goals
    split at h
    · rename_i hr
      first
        | (simp only [isRd, Bool.false_eq_true] at hr; done)
        | (obtain ⟨c, _, e⟩ := Option.map_eq_some_iff.1 h; subst e; rfl)
    · cases h
theorem eff_nx {op : Op} {r : List (Nat × Ob) × Nat × Option CV} (h : eff tab s op = some r) : s.nx ≤ r.2.1 := by
  cases op <;> simp only [eff] at h
  all_goals first
    | (obtain ⟨c, _, e⟩ := Option.map_eq_some_iff.1 h; subst e; simp)
    | (split at h
       · obtain ⟨c, _, e⟩ := Option.map_eq_some_iff.1 h; subst e; simp
       · cases h)

/-- What the reading names: lies below the next number, and oj does not turn it. -/
def Clear (s : St) (oi oj : Oper) : Prop := ∀ x ∈ oi.op.operands, ∀ v, ev s x = some v → ∀ o, names o v = true → o < s.nx ∧ ¬ turns s oj.op o

theorem stepX_swap {oi oj : Oper} {c : CV} {s1 : St} (hap : oi.apart ops oj = true) (hcl : Clear s oi oj) (hq : qval tab s oi.op = some c) (hs : stepX tab nt (s.put oi.dst c) oj = some s1) :
    ∃ s2, stepX tab nt s oj = some s2 ∧ qval tab s2 oi.op = some c ∧ Sim s1 (s2.put oi.dst c) ∧ (∀ x ∈ oi.op.operands, ev s2 x = ev s x) ∧ (∀ t, oj.dst ≠ some t → assoc s2.env t = assoc s.env t) ∧ s.nx ≤ s2.nx := by
  obtain ⟨h1, h2, h3⟩ := Oper.apart_spec hap
  unfold stepX at hs ⊢
  split at hs
  · rename_i hc
    rw [if_pos hc]
    rw [eff_congr (put_heap s _ _).1 (put_heap s _ _).2 oj.op (ev_put h1)] at hs
    cases he : eff tab s oj.op with
    | none => rw [he] at hs; cases hs
    | some r =>
      rw [he] at hs
      cases hs
      have hev := ev_putR (s := s) (d := oj.dst) (r := r.2.2) (H := r.1) (n := r.2.1) h3
      refine ⟨_, rfl, ?_, ⟨fun t => ?_, ?_, ?_⟩, hev, fun t ht => ?_, ?_⟩
      · refine qval_mono (fun x hx => (hev x hx).symm) hq fun x hx v hv o ob hn ho => ?_
        obtain ⟨k1, k2⟩ := hcl x hx v hv o hn
        rw [putR_heap.1]
        rw [eff_heap he k1 k2]
        exact ho
      · show assoc ((putR _ oi.dst (some c)).env) t = _
        rw [assoc_putR, assoc_putR]
        unfold updE
        rw [assoc_putR]
        show (if oi.dst = some t then some c else updE (assoc s.env) oj.dst r.2.2 t) = if oj.dst = some t then r.2.2 else assoc (putR s oi.dst (some c)).env t
        rw [assoc_putR]
        unfold updE
        by_cases e : oi.dst = some t
        · rw [if_pos e, if_neg (h2 t e), if_pos e]
        · rw [if_neg e, if_neg e]
      · rw [(put_heap _ _ _).1, putR_heap.1, putR_heap.1]
      · rw [(put_heap _ _ _).2, putR_heap.2, putR_heap.2]
      · rw [assoc_putR]
        unfold updE
        rw [if_neg ht]
      · rw [putR_heap.2]
        exact eff_nx he
  · cases hs
end
end Go.Can
