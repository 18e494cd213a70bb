/- What the functions compute, in plain Lean: components. -/
import Derived.Test.YtgiphneejidahaaSpec
namespace Go.Proofs.Ytgiphneejidahaa

def natI (l : List Nat) : List Int := l.map Int.ofNat
@[simp] theorem natI_length (l : List Nat) : (natI l).length = l.length := by simp [natI]
def both (M : Nat → Nat → Bool) (i j : Nat) : Bool := M i j && M j i
def mutB (M : Nat → Nat → Bool) (i j : Nat) : Bool := decide (i = j) || both M i j
/-- scc: the component of i among the nodes below j; what is done. -/
def lstN (M : Nat → Nat → Bool) (i j : Nat) : List Nat := (List.range j).filter (mutB M i)
def doneJ (d : Nat → Bool) (M : Nat → Nat → Bool) (i j : Nat) : Nat → Bool := fun x => d x || (decide (x < j) && mutB M i x)
def compStep (n : Nat) (M : Nat → Nat → Bool) (st : (Nat → Bool) × List (List Int)) (i : Nat) : (Nat → Bool) × List (List Int) :=
  if st.1 i then st else (doneJ st.1 M i n, st.2 ++ [natI (lstN M i n)])
def compsF (n : Nat) (M : Nat → Nat → Bool) (k : Nat) : (Nat → Bool) × List (List Int) := (List.range k).foldl (compStep n M) (fun _ => false, [])
def comps (n : Nat) (M : Nat → Nat → Bool) : List (List Int) := (compsF n M n).2
theorem lstN_le (M : Nat → Nat → Bool) (i j : Nat) : (lstN M i j).length ≤ j := by
  have := List.length_filter_le (mutB M i) (List.range j)
  simpa [lstN] using this
theorem lstN_succ (M : Nat → Nat → Bool) (i j : Nat) : lstN M i (j + 1) = if mutB M i j then lstN M i j ++ [j] else lstN M i j := by
  unfold lstN; rw [List.range_succ, List.filter_append]; cases h : mutB M i j <;> simp [h]
theorem doneJ_zero (d : Nat → Bool) (M : Nat → Nat → Bool) (i : Nat) : doneJ d M i 0 = d := by funext x; simp [doneJ]
theorem doneJ_succ (d : Nat → Bool) (M : Nat → Nat → Bool) (i j : Nat) : doneJ d M i (j + 1) = if mutB M i j then (fun x => if x = j then true else doneJ d M i j x) else doneJ d M i j := by
  funext x
  unfold doneJ
  by_cases hx : x = j
  · subst hx; cases h : mutB M i x <;> simp [h]
  · have : decide (x < j + 1) = decide (x < j) := by congr 1; simp; omega
    rw [this]; split <;> simp [hx]
theorem compsF_succ (n : Nat) (M : Nat → Nat → Bool) (k : Nat) : compsF n M (k + 1) = compStep n M (compsF n M k) k := foldR_succ _ _ _
theorem compsF_le (n : Nat) (M : Nat → Nat → Bool) : ∀ k, (compsF n M k).2.length ≤ k
  | 0 => by simp [compsF]
  | k + 1 => by
    rw [compsF_succ]; unfold compStep
    have := compsF_le n M k
    split
    · omega
    · simp; omega

/-- The reference: the component of i: i, and those from i+1 to j. -/
def lstR (M : Nat → Nat → Bool) (i j : Nat) : List Nat := i :: (((List.range j).filter fun x => decide (i < x) && both M i x))
def doneR (d : Nat → Bool) (M : Nat → Nat → Bool) (i j : Nat) : Nat → Bool := fun x => d x || (decide (x < j) && (decide (i < x) && both M i x))
def refStep (n : Nat) (M : Nat → Nat → Bool) (st : (Nat → Bool) × List (List Int)) (i : Nat) : (Nat → Bool) × List (List Int) :=
  if st.1 i then st else (doneR st.1 M i n, st.2 ++ [natI (lstR M i n)])
def refF (n : Nat) (M : Nat → Nat → Bool) (k : Nat) : (Nat → Bool) × List (List Int) := (List.range k).foldl (refStep n M) (fun _ => false, [])
def refComps (n : Nat) (M : Nat → Nat → Bool) : List (List Int) := (refF n M n).2
theorem lstR_le (M : Nat → Nat → Bool) (i j : Nat) : (lstR M i j).length ≤ j + 1 := by
  have := List.length_filter_le (fun x => decide (i < x) && both M i x) (List.range j)
  simp at this; simpa [lstR] using this
theorem lstR_succ (M : Nat → Nat → Bool) (i j : Nat) (h : i < j) : lstR M i (j + 1) = if both M i j then lstR M i j ++ [j] else lstR M i j := by
  unfold lstR; rw [List.range_succ, List.filter_append]; cases hb : both M i j <;> simp [hb, h]
theorem lstR_start (M : Nat → Nat → Bool) (i : Nat) : lstR M i (i + 1) = [i] := by
  unfold lstR; congr 1
  rw [List.filter_eq_nil_iff]; intro x hx; have := List.mem_range.1 hx
  simp; omega
theorem doneR_start (d : Nat → Bool) (M : Nat → Nat → Bool) (i : Nat) : doneR d M i (i + 1) = d := by
  funext x; unfold doneR
  by_cases h : x < i + 1
  · have : ¬ i < x := by omega
    simp [this]
  · simp [h]
theorem doneR_succ (d : Nat → Bool) (M : Nat → Nat → Bool) (i j : Nat) (hi : i < j) : doneR d M i (j + 1) = if both M i j then (fun x => if x = j then true else doneR d M i j x) else doneR d M i j := by
  funext x
  unfold doneR
  by_cases hx : x = j
  · subst hx; cases h : both M i x <;> simp [h, hi]
  · have : decide (x < j + 1) = decide (x < j) := by congr 1; simp; omega
    rw [this]; split <;> simp [hx]
theorem refF_succ (n : Nat) (M : Nat → Nat → Bool) (k : Nat) : refF n M (k + 1) = refStep n M (refF n M k) k := foldR_succ _ _ _
theorem refF_le (n : Nat) (M : Nat → Nat → Bool) : ∀ k, (refF n M k).2.length ≤ k
  | 0 => by simp [refF]
  | k + 1 => by
    rw [refF_succ]; unfold refStep
    have := refF_le n M k
    split
    · omega
    · simp; omega
/-- Cyclic: the components in which the first node reaches itself. -/
def headN (l : List Int) : Nat := (l.headD 0).toNat
def cycF (M : Nat → Nat → Bool) (L : List (List Int)) : List (List Int) := L.filter fun l => M (headN l) (headN l)
/-- A list of nodes that is not empty. -/
def isComp (n : Nat) (l : List Int) : Prop := ∃ (x : Nat) (r : List Nat), l = natI (x :: r) ∧ x < n ∧ (∀ y ∈ r, y < n) ∧ r.length < n
theorem lstN_comp (n : Nat) (M : Nat → Nat → Bool) (i : Nat) (h : i < n) : isComp n (natI (lstN M i n)) := by
  have hm : i ∈ lstN M i n := by simp [lstN, mutB, h]
  have hl := lstN_le M i n
  have hlt : ∀ y ∈ lstN M i n, y < n := fun y hy => by simp [lstN] at hy; exact hy.1
  cases hL : lstN M i n with
  | nil => rw [hL] at hm; cases hm
  | cons x r =>
    rw [hL] at hlt hl
    exact ⟨x, r, rfl, hlt x (by simp), fun y hy => hlt y (by simp [hy]), hl⟩
theorem comps_comp (n : Nat) (M : Nat → Nat → Bool) : ∀ k, k ≤ n → ∀ l ∈ (compsF n M k).2, isComp n l
  | 0, _, l, hl => by simp [compsF] at hl
  | k + 1, hk, l, hl => by
    rw [compsF_succ] at hl
    unfold compStep at hl
    split at hl
    · exact comps_comp n M k (by omega) l hl
    · simp only [List.mem_append, List.mem_singleton] at hl
      rcases hl with hl | rfl
      · exact comps_comp n M k (by omega) l hl
      · exact lstN_comp n M k hk
theorem lstR_comp (n : Nat) (M : Nat → Nat → Bool) (i : Nat) (h : i < n) : isComp n (natI (lstR M i n)) := by
  refine ⟨i, _, rfl, h, fun y hy => by simp at hy; exact hy.1, ?_⟩
  have : ((List.range n).filter fun x => decide (i < x) && both M i x).length < (List.range n).length := by
    rw [List.length_filter_lt_length_iff_exists]
    exact ⟨i, by simpa using h, by simp⟩
  simpa using this
theorem ref_comp (n : Nat) (M : Nat → Nat → Bool) : ∀ k, k ≤ n → ∀ l ∈ (refF n M k).2, isComp n l
  | 0, _, l, hl => by simp [refF] at hl
  | k + 1, hk, l, hl => by
    rw [refF_succ] at hl
    unfold refStep at hl
    split at hl
    · exact ref_comp n M k (by omega) l hl
    · simp only [List.mem_append, List.mem_singleton] at hl
      rcases hl with hl | rfl
      · exact ref_comp n M k (by omega) l hl
      · exact lstR_comp n M k hk
end Go.Proofs.Ytgiphneejidahaa
