/- The reference's Levels: ranks rise until none rises any more. No program in sight. -/
import Derived.Test.YtgiphneejidahaaSpec7
namespace Go.Proofs.Ytgiphneejidahaa

def OkP (M E : Nat → Nat → Bool) (g : Nat → Nat) (x y : Nat) : Prop := (mutB M x y = true → g x ≤ g y) ∧ (E x y = true → mutB M x y = false → g x + 1 ≤ g y)
def setN (g : Nat → Nat) (j v : Nat) : Nat → Nat := fun x => if x = j then v else g x
/-- In a pass, ahead of the pair (i, j); 'g0': the ranks at its begin; 'b': one has risen. -/
structure RInv (k : Nat) (M E : Nat → Nat → Bool) (lev : Nat → Nat) (i j : Nat) (b : Bool) (g0 g : Nat → Nat) : Prop where
  le : ∀ y, y < k → g y ≤ lev y
  ge : ∀ y, y < k → g0 y ≤ g y
  up : b = true → ∃ y, y < k ∧ g0 y < g y
  ok : b = false → g = g0 ∧ ∀ x y, x < k → y < k → (x < i ∨ (x = i ∧ y < j)) → OkP M E g x y

section
variable {k : Nat} {M E : Nat → Nat → Bool} {lev : Nat → Nat} {i j : Nat} {b : Bool} {g0 g : Nat → Nat}
theorem RInv.start (h : ∀ y, y < k → g y ≤ lev y) : RInv k M E lev 0 0 false g g :=
  ⟨h, fun _ _ => Nat.le_refl _, fun h => (by cases h), fun _ => ⟨rfl, fun x y _ _ h => by omega⟩⟩
theorem RInv.keep (h : RInv k M E lev i j b g0 g) (ho : OkP M E g i j) : RInv k M E lev i (j + 1) b g0 g :=
  ⟨h.le, h.ge, h.up, fun hb => ⟨(h.ok hb).1, fun x y hx hy hxy => by
    by_cases he : x = i ∧ y = j
    · obtain ⟨rfl, rfl⟩ := he; exact ho
    · exact (h.ok hb).2 x y hx hy (by omega)⟩⟩
theorem RInv.rise (h : RInv k M E lev i j b g0 g) (hj : j < k) {v : Nat} (hv : g j < v) (hl : v ≤ lev j) : RInv k M E lev i (j + 1) true g0 (setN g j v) := by
  refine ⟨fun y hy => ?_, fun y hy => ?_, fun _ => ⟨j, hj, ?_⟩, fun h => (by cases h)⟩
  · unfold setN; split
    · rename_i e; rw [e]; exact hl
    · exact h.le y hy
  · unfold setN; split
    · rename_i e; rw [e]; exact Nat.le_trans (h.ge j hj) (Nat.le_of_lt hv)
    · exact h.ge y hy
  · have := h.ge j hj
    simp only [setN, if_true]; omega
theorem RInv.row (h : RInv k M E lev i k b g0 g) : RInv k M E lev (i + 1) 0 b g0 g :=
  ⟨h.le, h.ge, h.up, fun hb => ⟨(h.ok hb).1, fun x y hx hy hxy => (h.ok hb).2 x y hx hy (by omega)⟩⟩
theorem RInv.sol (h : RInv k M E lev k 0 false g0 g) : Sol k M E g :=
  ⟨fun x y hx hy => ((h.ok rfl).2 x y hx hy (.inl hx)).1, fun x y hx hy => ((h.ok rfl).2 x y hx hy (.inl hx)).2⟩
end

/-- What is still to rise. -/
def rest (k : Nat) (lev g : Nat → Nat) : Nat := ((List.range k).map fun y => lev y - g y).sum
theorem sum_le {f g : Nat → Nat} : ∀ (l : List Nat), (∀ y ∈ l, f y ≤ g y) → (l.map f).sum ≤ (l.map g).sum
  | [], _ => Nat.le_refl _
  | a :: l, h => by
    have := sum_le l fun y hy => h y (by simp [hy])
    have := h a (by simp)
    simp only [List.map_cons, List.sum_cons]; omega
theorem sum_lt {f g : Nat → Nat} : ∀ (l : List Nat), (∀ y ∈ l, f y ≤ g y) → (∃ y ∈ l, f y < g y) → (l.map f).sum < (l.map g).sum
  | [], _, ⟨_, h, _⟩ => by cases h
  | a :: l, h, ⟨y, hy, hlt⟩ => by
    have h1 := sum_le l fun y hy => h y (by simp [hy])
    have h2 := h a (by simp)
    simp only [List.map_cons, List.sum_cons]
    rcases List.mem_cons.1 hy with rfl | hy
    · omega
    · have := sum_lt l (fun y hy => h y (by simp [hy])) ⟨y, hy, hlt⟩
      omega
theorem rest_lt {k : Nat} {lev g0 g : Nat → Nat} (h1 : ∀ y, y < k → g y ≤ lev y) (h2 : ∀ y, y < k → g0 y ≤ g y) (h3 : ∃ y, y < k ∧ g0 y < g y) : rest k lev g < rest k lev g0 := by
  obtain ⟨y, hy, hlt⟩ := h3
  refine sum_lt _ (fun y hy => ?_) ⟨y, by simpa using hy, ?_⟩
  · have := h2 y (by simpa using hy); omega
  · have := h1 y hy; omega
end Go.Proofs.Ytgiphneejidahaa
