/- A scope in which the run jumps back. No function of the program is mentioned here. -/
import Derived.Test.YtniilppjegieaaaGreatCan14
namespace Go.Can
open Go.RowKit
section
variable {P : Program} {C : Cx} {s : St}

def jumpS (l : Nat) (J : St → Prop) (Q : Exit → St → Prop) : Exit → St → Prop
  | .goto m, s => m = l ∧ J s
  | e, s => Q e s
@[simp] theorem jumpS_goto (l m : Nat) (J : St → Prop) (Q : Exit → St → Prop) (s : St) : jumpS l J Q (.goto m) s = (m = l ∧ J s) := rfl
@[simp] theorem jumpS_normal (l : Nat) (J : St → Prop) (Q : Exit → St → Prop) (s : St) : jumpS l J Q .normal s = Q .normal s := rfl
@[simp] theorem jumpS_ret (l : Nat) (J : St → Prop) (Q : Exit → St → Prop) (s : St) : jumpS l J Q .ret s = Q .ret s := rfl
@[simp] theorem jumpS_exit (l m : Nat) (J : St → Prop) (Q : Exit → St → Prop) (s : St) : jumpS l J Q (.exit m) s = Q (.exit m) s := rfl

/-- A scope with one label: I n: at most n passes more. -/
theorem T.scopeLe {c rest : Code} {Q : Exit → St → Prop} (l : Nat) (I : Nat → St → Prop) (hf : findLabel c l = some rest) (first : T P C c s (jumpS l (fun s' => ∃ m, upTo C (I m) s') Q))
    (pass : ∀ n s, I n s → T P C rest s (jumpS l (fun s' => ∃ m, m < n ∧ upTo C (I m) s') Q)) : T P C (.scope c) s Q := fun a w hr => by
  classical
  let J : Nat → Act → World → Prop := fun n a w => ∃ s, I n s ∧ Rel C s a w
  have hx : ∀ a w, (∃ n, J n a w) → ∃ n, J n a w ∧ ∀ m, J m a w → n ≤ m := fun a w ⟨n, hn⟩ => by
    induction n using Nat.strongRecOn with
    | _ n ih =>
      by_cases h : ∃ m, m < n ∧ J m a w
      · obtain ⟨m, hm, hi⟩ := h; exact ih m hm hi
      · exact ⟨n, hn, fun m hm => Nat.le_of_not_lt fun hlt => h ⟨m, hlt, hm⟩⟩
  let μ : Act → World → Nat := fun a w => if h : ∃ n, J n a w then (hx a w h).choose else 0
  have hμ : ∀ a w (h : ∃ n, J n a w), J (μ a w) a w ∧ ∀ m, J m a w → μ a w ≤ m := fun a w h => by
    simp only [μ, dif_pos h]; exact (hx a w h).choose_spec
  have up : ∀ {n s' a' w'}, upTo C (I n) s' → Rel C s' a' w' → J n a' w' := fun ⟨s'', hi, hl⟩ hr => ⟨s'', hi, hl _ _ hr⟩
  refine wp_scope_jumps l (fun a w => ∃ n, J n a w) μ hf (wp_mono (first a w hr) fun e a' w' q => ?_) fun a w hJ => ?_
  · obtain ⟨s', q, hr'⟩ := q
    cases e with
    | goto m => obtain ⟨e, m, hm⟩ := q; exact ⟨e, m, up hm hr'⟩
    | _ => exact ⟨s', q, hr'⟩
  · obtain ⟨s1, hi, hr1⟩ := (hμ a w hJ).1
    refine wp_mono (pass (μ a w) s1 hi a w hr1) fun e a' w' q => ?_
    obtain ⟨s', q, hr'⟩ := q
    cases e with
    | goto m =>
      obtain ⟨e, m, hm, hi⟩ := q
      exact ⟨e, ⟨m, up hi hr'⟩, Nat.lt_of_le_of_lt ((hμ a' w' ⟨m, up hi hr'⟩).2 m (up hi hr')) hm⟩
    | _ => exact ⟨s', q, hr'⟩
/-- The same, where the label stands ahead of all that follows: the passes are walked once. -/
theorem T.scopeGo {c y : Code} {Q : Exit → St → Prop} (l : Nat) (I : Nat → St → Prop) (hf : findLabel c l = some (.seq .skip y)) (pass : ∀ n s, I n s → T P C y s (jumpS l (fun s' => ∃ m, m < n ∧ upTo C (I m) s') Q))
    (first : (∀ n s, upTo C (I n) s → T P C y s (jumpS l (fun s' => ∃ m, upTo C (I m) s') Q)) → T P C c s (jumpS l (fun s' => ∃ m, upTo C (I m) s') Q)) : T P C (.scope c) s Q :=
  T.scopeLe l I hf (first fun n s ⟨s', hi, hl⟩ => T.le hl (T.post (pass n s' hi) fun e s' q => ⟨s', by
    cases e with
    | goto m => obtain ⟨e, m, _, hm⟩ := q; exact ⟨e, m, hm⟩
    | _ => exact q, Le.refl _⟩)) fun n s hi => T.seq (T.skip (pass n s hi))
end
end Go.Can
