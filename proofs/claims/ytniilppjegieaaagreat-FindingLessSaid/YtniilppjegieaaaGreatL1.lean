/- The plain law of FindingLess: the two orders of findings are one, total and strict. No program in sight. -/
import Derived.Test.YtniilppjegieaaaGreatW4
namespace Go.Proofs.YtniilppjegieaaaGreat
open Go.Can

theorem cmpI_neg (a b : Int) : cmpI b a = - cmpI a b := by
  unfold cmpI
  split <;> split <;> first | rfl | (split <;> first | rfl | omega) | omega
theorem cmpI_zero {a b : Int} : cmpI a b = 0 ↔ a = b := by
  unfold cmpI
  by_cases h1 : a < b
  · rw [if_pos h1]; constructor
    · intro h; cases h
    · intro h; omega
  · by_cases h2 : b < a
    · rw [if_neg h1, if_pos h2]; constructor
      · intro h; cases h
      · intro h; omega
    · rw [if_neg h1, if_neg h2]; constructor
      · intro _; omega
      · intro _; rfl
theorem cmpL_neg : ∀ x y : List Int, cmpL y x = - cmpL x y
  | [], [] => rfl
  | [], _ :: _ => rfl
  | _ :: _, [] => rfl
  | a :: x, b :: y => by
    simp only [cmpL]
    rw [cmpI_neg a b, cmpL_neg x y]
    by_cases h : cmpI a b = 0
    · rw [if_pos h, if_pos (by omega)]
    · rw [if_neg h, if_neg (by omega)]
theorem cmpL_zero : ∀ {x y : List Int}, cmpL x y = 0 ↔ x = y
  | [], [] => by simp [cmpL]
  | [], _ :: _ => by simp [cmpL]
  | _ :: _, [] => by simp [cmpL]
  | a :: x, b :: y => by
    simp only [cmpL]
    by_cases h : cmpI a b = 0
    · rw [if_pos h, cmpL_zero]
      have := cmpI_zero.1 h
      simp [this]
    · rw [if_neg h]
      have : ¬ a = b := fun e => h (cmpI_zero.2 e)
      simp [h, this]
theorem orL_cmpL (k i pc l : Int) (ls : List Int) (k' i' pc' l' : Int) (ls' : List Int) : orL [cmpI k k', cmpI i i', cmpI pc pc', cmpI l l', cmpL ls ls'] = cmpL (k :: i :: pc :: l :: ls) (k' :: i' :: pc' :: l' :: ls') := by
  simp only [orL, cmpL]
  by_cases h1 : cmpI k k' = 0 <;> by_cases h2 : cmpI i i' = 0 <;> by_cases h3 : cmpI pc pc' = 0 <;> by_cases h4 : cmpI l l' = 0 <;> by_cases h5 : cmpL ls ls' = 0 <;> simp [h1, h2, h3, h4, h5]
theorem lessF_ref (k i pc l : Int) (ls : List Int) (k' i' pc' l' : Int) (ls' : List Int) : lessF k i pc l ls k' i' pc' l' ls' = refLess (k :: i :: pc :: l :: ls) (k' :: i' :: pc' :: l' :: ls') := by
  unfold lessF refLess
  rw [orL_cmpL]
theorem sameF_eq (k i pc l : Int) (ls : List Int) (k' i' pc' l' : Int) (ls' : List Int) : sameF k i pc l ls k' i' pc' l' ls' = decide ((k :: i :: pc :: l :: ls) = (k' :: i' :: pc' :: l' :: ls')) := by
  unfold sameF
  simp
theorem refLess_irr (x : List Int) : refLess x x = false := by
  unfold refLess
  rw [cmpL_zero.2 rfl]; rfl
theorem refLess_total (x y : List Int) : (refLess x y || refLess y x) = !decide (x = y) := by
  unfold refLess
  rw [cmpL_neg x y]
  by_cases h : x = y
  · subst h
    rw [cmpL_zero.2 rfl]; simp
  · have h1 : cmpL x y ≠ 0 := fun e => h (cmpL_zero.1 e)
    by_cases h2 : cmpL x y < 0
    · simp [h, h2]
    · have h3 : 0 < cmpL x y := by omega
      simp [h, h3]
theorem refLess_strict (x y : List Int) : (refLess x y && refLess y x) = false := by
  unfold refLess
  rw [cmpL_neg x y]
  by_cases h2 : cmpL x y < 0
  · have : ¬ 0 < cmpL x y := by omega
    simp [this]
  · simp [h2]
end Go.Proofs.YtniilppjegieaaaGreat
