/- A reading does not hang on objects that it does not name. No function of the program is mentioned here. -/
import Derived.Test.YtniilppjegieaaaGreatCan21
namespace Go.Can
open Go.RowKit

section
variable {tab : List (Nat × TI)} {s s' : St}

def names (o : Nat) : CV → Bool
  | .osl p _ _ => p == o
  | .optr p _ => p == o
  | _ => false

theorem memAt_mono {c : CV} {cs : List CV} (h : memAt s c = some cs) (hh : ∀ o ob, names o c = true → assoc s.heap o = some ob → assoc s'.heap o = some ob) : memAt s' c = some cs := by
  cases c <;> simp only [memAt] at h ⊢ <;> first | exact h | skip
  rename_i o off
  cases ho : assoc s.heap o with
  | none => rw [ho] at h; cases h
  | some y => rw [hh o y (by simp [names]) ho]; rw [ho] at h; exact h

theorem cslice_mono {t : TypeId} {c r : CV} {lo hi : Option Operand} (h1 : ∀ y, lo = some y → ev s y = ev s' y) (h2 : ∀ y, hi = some y → ev s y = ev s' y) (h : cslice tab s t c lo hi = some r) (hh : ∀ o ob, names o c = true → assoc s.heap o = some ob → assoc s'.heap o = some ob) : cslice tab s' t c lo hi = some r := by
  cases c <;> simp only [cslice, cbound_congr h1, cbound_congr h2] at h ⊢ <;> first | exact h | skip
  rename_i o off n
  cases ho : assoc s.heap o with
  | some y => rw [hh o y (by simp [names]) ho]; rw [ho] at h; exact h
  | none =>
    rw [ho] at h
    exfalso
    split at h
    · split at h
      · rename_i e; cases e
      · cases h
    · cases h

theorem ev_heap (H : List (Nat × Ob)) (x : Operand) : ev { s with heap := H } x = ev s x := by cases x <;> rfl
theorem evs_heap (H : List (Nat × Ob)) (xs : List Operand) : evs { s with heap := H } xs = evs s xs := evs_congr xs fun x _ => ev_heap H x
theorem cparts_heap (H : List (Nat × Ob)) (xs : List (Nat × Operand)) : cparts { s with heap := H } xs = cparts s xs := cparts_congr xs fun x _ => ev_heap H x.2
theorem cbuiltin_heap (H : List (Nat × Ob)) (b : Builtin) (xs : List Operand) (ts : List TypeId) : cbuiltin tab { s with heap := H } b xs ts = cbuiltin tab s b xs ts := by
  unfold cbuiltin
  split
  · split
    · rw [ev_heap]
    · rfl
  · rw [evs_heap]
  · rw [evs_heap]
  · rfl
theorem qval_noheap (op : Op) (h : ∀ x ∈ op.operands, ev s x = ev s' x) (n1 : ∀ t x, op ≠ .load t x) (n2 : ∀ t x lo hi mx, op ≠ .slice t x lo hi mx) : qval tab s op = qval tab s' op := by
  have k := qval_congr (tab := tab) (s := s) (s' := { s' with heap := s.heap }) rfl op (fun x hx => by rw [h x hx]; cases x <;> rfl)
  rw [k]
  cases op <;> first | rfl | skip
  all_goals first | exact absurd rfl (n1 _ _) | exact absurd rfl (n2 _ _ _ _ _) | skip
  case makeFunc f first cap =>
    cases f <;> first | rfl | skip
    simp only [qval, evs_heap]
  all_goals
    simp only [qval, cbuild, ev_heap, evs_heap, cparts_heap, cbuiltin_heap]
theorem qval_mono {op : Op} (h : ∀ x ∈ op.operands, ev s x = ev s' x) {c : CV} (hq : qval tab s op = some c) (hh : ∀ x ∈ op.operands, ∀ v, ev s x = some v → ∀ o ob, names o v = true → assoc s.heap o = some ob → assoc s'.heap o = some ob) : qval tab s' op = some c := by
  cases op
  case load t x =>
    have hx := h x (by simp [Op.operands])
    have hk := hh x (by simp [Op.operands])
    simp only [qval] at hq ⊢
    rw [← hx]
    cases hv : ev s x with
    | none => rw [hv] at hq; simp at hq
    | some d =>
      rw [hv] at hq
      cases ht : assoc tab t with
      | none => rw [ht] at hq; simp at hq
      | some ii =>
        rw [ht] at hq
        simp only at hq ⊢
        cases hy : memAt s d with
        | none => rw [hy] at hq; cases hq
        | some cs => rw [memAt_mono hy (hk d hv)]; rw [hy] at hq; exact hq
  case slice t x lo hi mx =>
    cases mx with
    | some _ => exact hq
    | none =>
      have hx := h x (by simp [Op.operands])
      have hk := hh x (by simp [Op.operands])
      have h1 : ∀ y, lo = some y → ev s y = ev s' y := fun y e => h y (by subst e; simp [Op.operands])
      have h2 : ∀ y, hi = some y → ev s y = ev s' y := fun y e => h y (by subst e; simp [Op.operands])
      simp only [qval] at hq ⊢
      rw [← hx]
      cases hv : ev s x with
      | none => rw [hv] at hq; simp at hq
      | some d => rw [hv] at hq; exact cslice_mono h1 h2 hq (hk d hv)
  all_goals exact (qval_noheap _ h (fun _ _ e => by cases e) (fun _ _ _ _ _ e => by cases e)).symm.trans hq
end
end Go.Can
