/- The closure is transitive; the two divisions into components are one. No program in sight. -/
import Derived.Test.YtgiphneejidahaaSpec2
namespace Go.Proofs.Ytgiphneejidahaa

theorem rowJ_eq (k i : Nat) (M : Nat → Nat → Bool) : ∀ j, (List.range j).foldl (stepJ k i) M = fun x y => if x = i ∧ y < j then M x y || (M x k && M k y) else M x y
  | 0 => by funext x y; simp
  | j + 1 => by
    rw [foldR_succ, rowJ_eq k i M j]
    funext x y
    unfold stepJ up2
    by_cases hx : x = i
    · subst hx
      by_cases hy : y = j
      · subst hy
        by_cases hk : k < y
        · simp [hk]; cases M x y <;> cases M x k <;> cases M k y <;> simp_all
        · simp [hk]
      · have : (y < j + 1) ↔ (y < j) := by omega
        simp [hy, this]
    · simp [hx]
theorem matI_eq (n k : Nat) (M : Nat → Nat → Bool) : ∀ r, (List.range r).foldl (rowJ n k) M = fun x y => if x < r ∧ y < n then M x y || (M x k && M k y) else M x y
  | 0 => by funext x y; simp
  | r + 1 => by
    rw [foldR_succ, matI_eq n k M r]
    unfold rowJ
    rw [rowJ_eq]
    funext x y
    by_cases hx : x = r
    · subst hx
      by_cases hy : y < n
      · by_cases hk : k < x
        · simp [hy, hk]; cases M x y <;> cases M x k <;> cases M k y <;> simp
        · simp [hy, hk]
      · simp [hy]
    · have : (x < r + 1) ↔ (x < r) := by omega
      simp [hx, this]

/-- After the rounds below k. -/
def warK (n : Nat) (E : Nat → Nat → Bool) (k : Nat) : Nat → Nat → Bool := (List.range k).foldl (matI n) E
theorem warK_succ (n : Nat) (E : Nat → Nat → Bool) (k x y : Nat) (hx : x < n) (hy : y < n) : warK n E (k + 1) x y = (warK n E k x y || (warK n E k x k && warK n E k k y)) := by
  unfold warK; rw [foldR_succ]; unfold matI; rw [matI_eq]; simp [hx, hy]
theorem warK_trans (n : Nat) (E : Nat → Nat → Bool) : ∀ k, k ≤ n → ∀ x y z, x < n → y < k → z < n → warK n E k x y = true → warK n E k y z = true → warK n E k x z = true
  | 0, _, _, _, _, _, h, _, _, _ => by omega
  | k + 1, hk, x, y, z, hx, hy, hz, h1, h2 => by
    have ih := warK_trans n E k (by omega)
    have hkn : k < n := hk
    have hyn : y < n := by omega
    rw [warK_succ n E k _ _ hx hyn] at h1
    rw [warK_succ n E k _ _ hyn hz] at h2
    rw [warK_succ n E k _ _ hx hz]
    generalize hW : warK n E k = W at *
    simp only [Bool.or_eq_true, Bool.and_eq_true] at *
    by_cases hyk : y = k
    · subst hyk
      refine .inr ⟨?_, ?_⟩
      · rcases h1 with h | h
        · exact h
        · exact h.1
      · rcases h2 with h | h
        · exact h
        · exact h.2
    · have hyk' : y < k := by omega
      rcases h1 with h1 | ⟨h1, h1'⟩ <;> rcases h2 with h2 | ⟨h2, h2'⟩
      · exact .inl (ih x y z hx hyk' hz h1 h2)
      · exact .inr ⟨ih x y k hx hyk' hkn h1 h2, h2'⟩
      · exact .inr ⟨h1, ih k y z hkn hyk' hz h1' h2⟩
      · exact .inr ⟨h1, h2'⟩
theorem reachM_trans (n : Int) (ps : List (List Int)) (x y z : Nat) (hx : x < nn n) (hy : y < nn n) (hz : z < nn n) (h1 : reachM n ps x y = true) (h2 : reachM n ps y z = true) : reachM n ps x z = true :=
  warK_trans (nn n) (edgeM (nn n) ps) (nn n) (Nat.le_refl _) x y z hx hy hz h1 h2

def Trans (n : Nat) (M : Nat → Nat → Bool) : Prop := ∀ x y z, x < n → y < n → z < n → M x y = true → M y z = true → M x z = true
section
variable {n : Nat} {M : Nat → Nat → Bool}
theorem both_symm (x y : Nat) : both M x y = both M y x := by unfold both; exact Bool.and_comm _ _
theorem both_trans (ht : Trans n M) {x y z : Nat} (hx : x < n) (hy : y < n) (hz : z < n) (h1 : both M x y = true) (h2 : both M y z = true) : both M x z = true := by
  unfold both at *; simp only [Bool.and_eq_true] at *
  exact ⟨ht x y z hx hy hz h1.1 h2.1, ht z y x hz hy hx h2.2 h1.2⟩
theorem mutB_iff (x y : Nat) : mutB M x y = true ↔ x = y ∨ both M x y = true := by simp [mutB]
theorem mutB_trans (ht : Trans n M) {x y z : Nat} (hx : x < n) (hy : y < n) (hz : z < n) (h1 : mutB M x y = true) (h2 : mutB M y z = true) : mutB M x z = true := by
  rw [mutB_iff] at *
  rcases h1 with rfl | h1
  · exact h2
  · rcases h2 with rfl | h2
    · exact .inr h1
    · exact .inr (both_trans ht hx hy hz h1 h2)
theorem lst_eq (i : Nat) (hno : ∀ j, j < i → both M i j = false) : ∀ j, i < j → lstN M i j = lstR M i j
  | 0, h => by omega
  | j + 1, h => by
    by_cases hj : i < j
    · rw [lstN_succ, lstR_succ _ _ _ hj, lst_eq i hno j hj]
      have : mutB M i j = both M i j := by
        have : i ≠ j := by omega
        simp [mutB, this]
      rw [this]
    · have hij : j = i := by omega
      subst hij
      rw [lstN_succ, lstR_start]
      have h1 : mutB M j j = true := by simp [mutB]
      have h2 : lstN M j j = [] := by
        unfold lstN; rw [List.filter_eq_nil_iff]
        intro x hx
        have hx' := List.mem_range.1 hx
        have := hno x hx'
        simp [mutB, this]; omega
      rw [h1, h2]; rfl
theorem comps_inv (ht : Trans n M) : ∀ i, i ≤ n → (compsF n M i).2 = (refF n M i).2 ∧ (∀ x, x < n → ((compsF n M i).1 x = true ↔ ∃ j, j < i ∧ mutB M j x = true)) ∧ (∀ x, x < n → ((refF n M i).1 x = true ↔ ∃ j, j < i ∧ j < x ∧ both M j x = true))
  | 0, _ => by simp [compsF, refF]
  | i + 1, hi => by
    obtain ⟨h1, h2, h3⟩ := comps_inv ht i (by omega)
    have hin : i < n := hi
    rw [compsF_succ, refF_succ]
    generalize compsF n M i = A at *
    generalize refF n M i = B at *
    obtain ⟨dC, oC⟩ := A
    obtain ⟨dR, oR⟩ := B
    simp only at h1 h2 h3
    subst h1
    have hsame : dC i = true ↔ dR i = true := by
      rw [h2 i hin, h3 i hin]
      constructor
      · rintro ⟨j, hj, hm⟩
        rw [mutB_iff] at hm
        rcases hm with e | hm
        · omega
        · exact ⟨j, hj, hj, hm⟩
      · rintro ⟨j, hj, _, hm⟩
        exact ⟨j, hj, (mutB_iff _ _).2 (.inr hm)⟩
    unfold compStep refStep
    by_cases hd : dC i = true
    · have hr := hsame.1 hd
      simp only [hd, hr, if_true]
      refine ⟨trivial, fun x hx => ?_, fun x hx => ?_⟩
      · rw [h2 x hx]
        constructor
        · rintro ⟨j, hj, hm⟩; exact ⟨j, by omega, hm⟩
        · rintro ⟨j, hj, hm⟩
          by_cases hji : j = i
          · subst hji
            obtain ⟨k, hk, hkm⟩ := (h2 j hin).1 hd
            exact ⟨k, hk, mutB_trans ht (by omega) hin hx hkm hm⟩
          · exact ⟨j, by omega, hm⟩
      · rw [h3 x hx]
        constructor
        · rintro ⟨j, hj, hm⟩; exact ⟨j, by omega, hm⟩
        · rintro ⟨j, hj, hjx, hm⟩
          by_cases hji : j = i
          · subst hji
            obtain ⟨k, hk, _, hkm⟩ := (h3 j hin).1 hr
            exact ⟨k, hk, by omega, both_trans ht (by omega) hin hx hkm hm⟩
          · exact ⟨j, by omega, hjx, hm⟩
    · have hr : ¬ dR i = true := fun h => hd (hsame.2 h)
      simp only [hd, hr, if_false, Bool.false_eq_true]
      have hno : ∀ j, j < i → both M i j = false := fun j hj => by
        cases hb : both M i j with
        | false => rfl
        | true => exact absurd ((h3 i hin).2 ⟨j, hj, hj, by rw [both_symm]; exact hb⟩) hr
      refine ⟨by rw [lst_eq i hno n hin], fun x hx => ?_, fun x hx => ?_⟩
      · simp only [doneJ, Bool.or_eq_true, Bool.and_eq_true, decide_eq_true_eq, h2 x hx]
        constructor
        · rintro (⟨j, hj, hm⟩ | ⟨_, hm⟩)
          · exact ⟨j, by omega, hm⟩
          · exact ⟨i, by omega, hm⟩
        · rintro ⟨j, hj, hm⟩
          by_cases hji : j = i
          · subst hji; exact .inr ⟨hx, hm⟩
          · exact .inl ⟨j, by omega, hm⟩
      · simp only [doneR, Bool.or_eq_true, Bool.and_eq_true, decide_eq_true_eq, h3 x hx]
        constructor
        · rintro (⟨j, hj, hm⟩ | ⟨_, hm⟩)
          · exact ⟨j, by omega, hm⟩
          · exact ⟨i, by omega, hm⟩
        · rintro ⟨j, hj, hm⟩
          by_cases hji : j = i
          · subst hji; exact .inr ⟨hx, hm⟩
          · exact .inl ⟨j, by omega, hm⟩
theorem comps_eq (ht : Trans n M) : comps n M = refComps n M := (comps_inv ht n (Nat.le_refl _)).1
end
end Go.Proofs.Ytgiphneejidahaa
