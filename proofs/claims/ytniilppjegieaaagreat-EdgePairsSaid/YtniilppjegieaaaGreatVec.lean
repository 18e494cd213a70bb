/- A vector in memory, as a function of the place. No function of the program is mentioned here. -/
import Derived.Test.YtniilppjegieaaaGreatMat
import Derived.Test.YtniilppjegieaaaGreatCan15
namespace Go.Can
open Go.RowKit

def vec (n : Nat) (f : Nat → CV) : List CV := (List.range n).map f
@[simp] theorem vec_length (n : Nat) (f : Nat → CV) : (vec n f).length = n := by simp [vec]
@[simp] theorem vec_at (n : Nat) (f : Nat → CV) (i : Nat) (h : i < (vec n f).length) : (vec n f)[i] = f i := by simp [vec]
theorem vec_get (n : Nat) (f : Nat → CV) (i : Nat) (h : i < n) : (vec n f)[i]? = some (f i) := by simp [vec, h]
theorem vec_rep (n : Nat) (c : CV) : List.replicate n c = vec n fun _ => c := by
  unfold vec; rw [List.map_const', List.length_range]
theorem vec_put (n : Nat) (f : Nat → CV) (i : Nat) (c : CV) (h : i < n) : List.take i (vec n f) ++ c :: List.drop (i + 1) (vec n f) = vec n fun x => if x = i then c else f x := by
  apply List.ext_getElem?
  intro k
  rw [List.getElem?_append]
  simp only [List.length_take, vec_length, Nat.min_eq_left (Nat.le_of_lt h)]
  by_cases hk : k < i
  · rw [if_pos hk, List.getElem?_take, if_pos hk, vec_get _ _ _ (by omega), vec_get _ _ _ (by omega), if_neg (by omega)]
  · rw [if_neg hk]
    by_cases hk2 : k = i
    · subst hk2; rw [vec_get _ _ _ h]; simp
    · rw [show k - i = (k - i - 1) + 1 by omega]
      simp only [List.getElem?_cons_succ, List.getElem?_drop]
      rw [show i + 1 + (k - i - 1) = k by omega]
      by_cases hkn : k < n
      · rw [vec_get _ _ _ hkn, vec_get _ _ _ hkn, if_neg hk2]
      · rw [List.getElem?_eq_none (by rw [vec_length]; omega), List.getElem?_eq_none (by rw [vec_length]; omega)]

/-- A vector of bools, of ints. -/
def vecB (n : Nat) (d : Nat → Bool) : List CV := vec n fun i => .bool (d i)
def vecI (n : Nat) (d : Nat → Int) : List CV := vec n fun i => I64 (d i)
def upd1 {α : Type} (d : Nat → α) (i : Nat) (b : α) : Nat → α := fun x => if x = i then b else d x
@[simp] theorem vecB_length (n : Nat) (d : Nat → Bool) : (vecB n d).length = n := vec_length n _
@[simp] theorem vecI_length (n : Nat) (d : Nat → Int) : (vecI n d).length = n := vec_length n _
@[simp] theorem vecB_at (n : Nat) (d : Nat → Bool) (i : Nat) (h : i < (vecB n d).length) : (vecB n d)[i] = .bool (d i) := vec_at n _ i h
@[simp] theorem vecI_at (n : Nat) (d : Nat → Int) (i : Nat) (h : i < (vecI n d).length) : (vecI n d)[i] = I64 (d i) := vec_at n _ i h
theorem vecB_get (n : Nat) (d : Nat → Bool) (i : Nat) (h : i < n) : (vecB n d)[i]? = some (.bool (d i)) := vec_get n _ i h
theorem vecI_get (n : Nat) (d : Nat → Int) (i : Nat) (h : i < n) : (vecI n d)[i]? = some (I64 (d i)) := vec_get n _ i h
theorem vecB_rep (n : Nat) (b : Bool) : List.replicate n (CV.bool b) = vecB n fun _ => b := vec_rep n _
theorem vecI_rep (n : Nat) (b : Int) : List.replicate n (I64 b) = vecI n fun _ => b := vec_rep n _
theorem vecB_put (n : Nat) (d : Nat → Bool) (i : Nat) (b : Bool) (h : i < n) : List.take i (vecB n d) ++ CV.bool b :: List.drop (i + 1) (vecB n d) = vecB n (upd1 d i b) := by
  unfold vecB; rw [vec_put _ _ _ _ h]; congr 1; funext x; unfold upd1; split <;> rfl
theorem vecI_put (n : Nat) (d : Nat → Int) (i : Nat) (b : Int) (h : i < n) : List.take i (vecI n d) ++ I64 b :: List.drop (i + 1) (vecI n d) = vecI n (upd1 d i b) := by
  unfold vecI; rw [vec_put _ _ _ _ h]; congr 1; funext x; unfold upd1; split <;> rfl

/-- An immutable matrix: its rows and cells. -/
theorem mat2_length (n : Nat) (M : Nat → Nat → Bool) : (mat2 n M).length = n := by simp [mat2]
@[simp] theorem mat2_at (n : Nat) (M : Nat → Nat → Bool) (i : Nat) (h : i < (mat2 n M).length) : (mat2 n M)[i] = (List.range n).map (M i) := by simp [mat2]
theorem mat2_get (n : Nat) (M : Nat → Nat → Bool) (i : Nat) (h : i < n) : (mat2 n M)[i]? = some ((List.range n).map (M i)) := by simp [mat2, h]
@[simp] theorem noRef_vecB (o n : Nat) (d : Nat → Bool) : (vecB n d).all (noRef o) = true := by simp [vecB, vec]
@[simp] theorem refsLt_vecB (o n : Nat) (d : Nat → Bool) : (vecB n d).all (refsLt o) = true := by simp [vecB, vec]
@[simp] theorem tree_vecB (n : Nat) (d : Nat → Bool) : (vecB n d).all tree = true := by simp [vecB, vec]
@[simp] theorem frz_vecB (o n : Nat) (c : List CV) (z : Nat) (d : Nat → Bool) : (vecB n d).map (frzV o c z) = vecB n d := by simp [vecB, vec]
@[simp] theorem noRef_vecI (o n : Nat) (d : Nat → Int) : (vecI n d).all (noRef o) = true := by simp [vecI, vec]
@[simp] theorem refsLt_vecI (o n : Nat) (d : Nat → Int) : (vecI n d).all (refsLt o) = true := by simp [vecI, vec]
@[simp] theorem tree_vecI (n : Nat) (d : Nat → Int) : (vecI n d).all tree = true := by simp [vecI, vec]
@[simp] theorem frz_vecI (o n : Nat) (c : List CV) (z : Nat) (d : Nat → Int) : (vecI n d).map (frzV o c z) = vecI n d := by simp [vecI, vec]
end Go.Can
