/- The matrix of the edges hangs on which pairs there are, not on their order. No program in sight. -/
import Derived.Test.YtgiphneejidahaaSpec4
namespace Go.Proofs.Ytgiphneejidahaa

theorem stepP_iff (n : Nat) (M : Nat → Nat → Bool) (p : List Int) (x y : Nat) : stepP n M p x y = true ↔ M x y = true ∨ (arrowB n p = true ∧ p = [(x : Int), (y : Int)]) := by
  unfold stepP
  by_cases h : arrowB n p = true
  · obtain ⟨a, b, rfl, _, _⟩ := arrow_nat n p h
    rw [if_pos h]
    simp only [up2, List.getD_cons_zero, List.getD_cons_succ, Int.toNat_natCast]
    by_cases hxy : x = a ∧ y = b
    · obtain ⟨rfl, rfl⟩ := hxy; simp [h]
    · rw [if_neg hxy]
      constructor
      · exact .inl
      · rintro (h1 | ⟨_, h2⟩)
        · exact h1
        · simp at h2; exact absurd ⟨by omega, by omega⟩ hxy
  · rw [if_neg h]; simp [h]
theorem edgeM_iff (n : Nat) (ps : List (List Int)) (x y : Nat) : edgeM n ps x y = true ↔ ∃ p ∈ ps, arrowB n p = true ∧ p = [(x : Int), (y : Int)] := by
  have key : ∀ (ps : List (List Int)) (M : Nat → Nat → Bool), ps.foldl (stepP n) M x y = true ↔ M x y = true ∨ ∃ p ∈ ps, arrowB n p = true ∧ p = [(x : Int), (y : Int)] := by
    intro ps
    induction ps with
    | nil => simp
    | cons p ps ih =>
      intro M
      rw [List.foldl_cons, ih, stepP_iff]
      simp only [List.mem_cons, exists_eq_or_imp, or_assoc]
  unfold edgeM; rw [key]; simp
theorem edgeM_congr (n : Nat) (ps qs : List (List Int)) (h : ∀ p, p ∈ ps ↔ p ∈ qs) : edgeM n ps = edgeM n qs := by
  funext x y
  rw [Bool.eq_iff_iff, edgeM_iff, edgeM_iff]
  simp only [h]
theorem reachM_congr (n : Int) (ps qs : List (List Int)) (h : ∀ p, p ∈ ps ↔ p ∈ qs) : reachM n ps = reachM n qs := by
  unfold reachM; rw [edgeM_congr _ ps qs h]
end Go.Proofs.Ytgiphneejidahaa
