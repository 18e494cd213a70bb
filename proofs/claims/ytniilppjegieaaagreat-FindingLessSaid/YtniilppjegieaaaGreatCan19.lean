/- A region that draws, all its orders explored: after the moves and places ahead, each operation that is ready may come next. No function of the program is mentioned here. -/
import Derived.Test.YtniilppjegieaaaGreatCan18
namespace Go.Can
open Go.RowKit

section
variable {P : Program} {C : Cx} {s : St} {a : Act} {w : World} {ops : Array Oper} {tab : List (Nat × TI)}

def embedQ (Kw : Act → World → Prop) (Q' : Exit → Act → World → Prop) : Exit → Act → World → Prop
  | .normal => Kw
  | e => Q' e

theorem wp_of_embed {o : Oper} {Kw : Act → World → Prop} {Q' : Exit → Act → World → Prop} (h : o.wp P a w Kw (embedQ Kw Q')) : o.wp P a w Kw Q' := by
  unfold Oper.wp at *
  generalize (execOp a.eval o).run P w = r at *
  cases r with
  | ok n w' =>
    cases n <;> simp only [Oper.upon] at h ⊢ <;>
      first
        | exact h
        | exact Calls.mono h (fun e w'' he => by cases e <;> exact he)
        | exact Rows.mono h (fun _ _ he => he)
  | halt x w' => cases x <;> simp only [Oper.upon] at h ⊢ <;> exact h
theorem wpOp_of_list {i : Nat} {o : Oper} {Kw : Act → World → Prop} {Q' : Exit → Act → World → Prop} (ho : ops[i]? = some o) (h : wpList P ops (embedQ Kw Q') [o] a w) : wpOp P ops Q' i Kw a w := by
  unfold wpOp
  simp only [ho]
  unfold wpList at h
  have e : (wpList P ops (embedQ Kw Q') [] : Act → World → Prop) = Kw := rfl
  rw [e] at h
  split
  · rename_i hw
    rw [if_pos hw] at h
    exact h.imp wp_of_embed fun ⟨h1, h2⟩ => ⟨h1, h2⟩
  · rename_i hw
    rw [if_neg hw] at h
    exact h

/-- Every order from here on. -/
def TX (P : Program) (C : Cx) (ops : Array Oper) (K : St → Prop) : Nat → Array Bool → St → Prop
  | 0, listed, s => Region.ready .any ops listed = [] ∧ K s
  | f + 1, listed, s => (Region.ready .any ops listed = [] → K s) ∧ ∀ i ∈ Region.ready .any ops listed, ∃ o, ops[i]? = some o ∧ TL P C ops [o] s fun s' => TX P C ops K f (listed.setIfInBounds i true) s'

theorem TX_ok {K : St → Prop} {Q' : Exit → Act → World → Prop} (hK : ∀ s a w, K s → Rel C s a w → Q' .normal a w) : ∀ (f : Nat) (listed : Array Bool) (s : St) (a : Act) (w : World), TX P C ops K f listed s → Rel C s a w → wpAny P .any ops Q' f listed a w
  | 0, _, s, a, w, h, hr => ⟨h.1, hK s a w h.2 hr⟩
  | f + 1, listed, s, a, w, h, hr => by
    refine ⟨fun he => hK s a w (h.1 he) hr, fun i hi => ?_⟩
    obtain ⟨o, ho, ht⟩ := h.2 i hi
    exact wpOp_of_list ho (ht a w _ hr fun s' a' w' hs' hr' => TX_ok hK f _ s' a' w' hs' hr')

/-- One turn: the operations that are ready now are rs. -/
theorem TX.go {K : St → Prop} {f : Nat} {listed : Array Bool} (r : Nat) (rs : List Nat) (hr : Region.ready .any ops listed = r :: rs) (h : ∀ i ∈ r :: rs, ∃ o, ops[i]? = some o ∧ TL P C ops [o] s fun s' => TX P C ops K f (listed.setIfInBounds i true) s') : TX P C ops K (f + 1) listed s :=
  ⟨fun he => (by rw [hr] at he; cases he), fun i hi => h i (by rw [hr] at hi; exact hi)⟩
theorem TX.end {K : St → Prop} {f : Nat} {listed : Array Bool} (hr : Region.ready .any ops listed = []) (h : K s) : TX P C ops K f listed s := by
  cases f with
  | zero => exact ⟨hr, h⟩
  | succ f => exact ⟨fun _ => h, fun i hi => (by rw [hr] at hi; cases hi)⟩

/-- **A region that draws, explored**: moves and places first ('pre'), then every order of the rest. -/
theorem T.explore (ht : TabOk P tab) (hm : P.follows .mixedOrders = true) {id : Nat} {l : List Oper} {Q : Exit → St → Prop} (pre : List Nat) (hs : Region.noSelect l.toArray = true) (hp : preO l.toArray pre (Array.replicate l.toArray.size false) = true) (hl : pre.length ≤ l.toArray.size)
    (h : TH P tab C.nt l.toArray pre s fun s' => TX P C l.toArray (Q .normal) (l.toArray.size - pre.length) (listAll pre (Array.replicate l.toArray.size false)) s') : T P C (.region id l.toArray true) s Q := by
  intro a w hr
  refine wp_mono (Q := fun e a' w' => e = .normal ∧ ∃ s', Q .normal s' ∧ Rel C s' a' w') (wp_region_any hm ?_) (fun e a' w' ⟨he, s', k1, k2⟩ => by subst he; exact ⟨s', k1, k2⟩)
  have := pre_any (P := P) (tab := tab) (C := C) (Q' := fun e a' w' => e = .normal ∧ ∃ s', Q .normal s' ∧ Rel C s' a' w') ht hs (fun c a w h => by cases h.1) (g := l.toArray.size - pre.length) pre (Array.replicate l.toArray.size false) s a { w with drawn := w.drawn + 1 } hp hr.drew h
    (fun s' a' hs' hr' => TX_ok (fun s'' a w hk hr => ⟨rfl, s'', hk, hr⟩) _ _ s' a' _ hs' hr')
  rwa [show pre.length + (l.toArray.size - pre.length) = l.toArray.size by omega] at this
end
end Go.Can
