/- A square matrix of bools in memory: a slice of rows, each an object of its own. No function of the program is mentioned here. -/
import Derived.Test.YtniilppjegieaaaGreatCan14
namespace Go.Can
open Go.RowKit

/-- Rows 1 .. m, the last one first. -/
def rowsH (e : TypeId) (f : Nat → List CV) : Nat → List (Nat × Ob)
  | 0 => []
  | m + 1 => (m + 1, ⟨e, 1, f m⟩) :: rowsH e f m

theorem assoc_rowsH_zero (e : TypeId) (f : Nat → List CV) (m : Nat) (r : List (Nat × Ob)) : assoc (rowsH e f m ++ r) 0 = assoc r 0 := by
  induction m with
  | zero => rfl
  | succ m ih => simp only [rowsH, List.cons_append, assoc]; rw [if_neg (by omega)]; exact ih
theorem assoc_rowsH (e : TypeId) (f : Nat → List CV) (m k : Nat) (r : List (Nat × Ob)) (h : k < m) : assoc (rowsH e f m ++ r) (k + 1) = some ⟨e, 1, f k⟩ := by
  induction m with
  | zero => omega
  | succ m ih =>
    simp only [rowsH, List.cons_append, assoc]
    by_cases hk : m = k
    · subst hk; simp
    · rw [if_neg (by omega)]; exact ih (by omega)
theorem upd_rowsH_zero (e : TypeId) (f : Nat → List CV) (m : Nat) (r : List (Nat × Ob)) (x : Ob) : upd (rowsH e f m ++ r) 0 x = rowsH e f m ++ upd r 0 x := by
  induction m with
  | zero => rfl
  | succ m ih => simp only [rowsH, List.cons_append, upd]; rw [if_neg (by omega), ih]
theorem rowsH_congr (e : TypeId) (f g : Nat → List CV) (m : Nat) (h : ∀ k, k < m → f k = g k) : rowsH e f m = rowsH e g m := by
  induction m with
  | zero => rfl
  | succ m ih => simp only [rowsH]; rw [h m (by omega), ih fun k hk => h k (by omega)]
theorem upd_rowsH (e : TypeId) (f : Nat → List CV) (m k : Nat) (r : List (Nat × Ob)) (c : List CV) (h : k < m) : upd (rowsH e f m ++ r) (k + 1) ⟨e, 1, c⟩ = rowsH e (fun j => if j = k then c else f j) m ++ r := by
  induction m with
  | zero => omega
  | succ m ih =>
    simp only [rowsH, List.cons_append, upd]
    by_cases hk : m = k
    · subst hk
      simp only [if_true]
      rw [rowsH_congr e (fun j => if j = m then c else f j) f m fun k hk => if_neg (by omega)]
    · rw [if_neg (by omega), if_neg hk, ih (by omega)]

/-- A matrix as a function; one place changed. -/
def upd2 (M : Nat → Nat → Bool) (i j : Nat) (b : Bool) : Nat → Nat → Bool := fun x y => if x = i ∧ y = j then b else M x y
def rowC (n : Nat) (M : Nat → Nat → Bool) (i : Nat) : List CV := (List.range n).map fun j => .bool (M i j)
def outC (n m : Nat) : List CV := (List.range m).map fun k => .osl (k + 1) 0 n
def heapM (eb eo n : Nat) (M : Nat → Nat → Bool) : List (Nat × Ob) := rowsH eb (rowC n M) n ++ [(0, ⟨eo, 1, outC n n⟩)]
def mat2 (n : Nat) (M : Nat → Nat → Bool) : List (List Bool) := (List.range n).map fun i => (List.range n).map (M i)

theorem rowC_get (n : Nat) (M : Nat → Nat → Bool) (i j : Nat) (h : j < n) : (rowC n M i)[j]? = some (.bool (M i j)) := by simp [rowC, h]
theorem rowC_length (n : Nat) (M : Nat → Nat → Bool) (i : Nat) : (rowC n M i).length = n := by simp [rowC]
theorem outC_get (n m k : Nat) (h : k < m) : (outC n m)[k]? = some (.osl (k + 1) 0 n) := by simp [outC, h]
theorem outC_length (n m : Nat) : (outC n m).length = m := by simp [outC]
@[simp] theorem rowC_at (n : Nat) (M : Nat → Nat → Bool) (i j : Nat) (h : j < (rowC n M i).length) : (rowC n M i)[j] = .bool (M i j) := by simp [rowC]
@[simp] theorem outC_at (n m k : Nat) (h : k < (outC n m).length) : (outC n m)[k] = .osl (k + 1) 0 n := by simp [outC]
theorem rowC_put (n : Nat) (M : Nat → Nat → Bool) (i j : Nat) (b : Bool) (h : j < n) : cput (rowC n M i) j [.bool b] = rowC n (upd2 M i j b) i := by
  apply List.ext_getElem?
  intro k
  simp only [cput, List.append_assoc]
  rw [List.getElem?_append]
  simp only [List.length_take, rowC_length, Nat.min_eq_left (Nat.le_of_lt h)]
  by_cases hk : k < j
  · rw [if_pos hk, List.getElem?_take, if_pos hk, rowC_get _ _ _ _ (by omega), rowC_get _ _ _ _ (by omega)]
    simp [upd2]; intro e; omega
  · rw [if_neg hk]
    by_cases hk2 : k = j
    · subst hk2
      rw [rowC_get _ _ _ _ h]; simp [upd2]
    · rw [show k - j = (k - j - 1) + 1 by omega]
      simp only [List.cons_append, List.nil_append, List.getElem?_cons_succ, List.getElem?_drop, List.length_cons, List.length_nil]
      rw [show j + (0 + 1) + (k - j - 1) = k by omega]
      by_cases hkn : k < n
      · rw [rowC_get _ _ _ _ hkn, rowC_get _ _ _ _ hkn]; simp [upd2]; intro e; omega
      · rw [List.getElem?_eq_none (by rw [rowC_length]; omega), List.getElem?_eq_none (by rw [rowC_length]; omega)]
theorem heapM_out (eb eo n : Nat) (M : Nat → Nat → Bool) : assoc (heapM eb eo n M) 0 = some ⟨eo, 1, outC n n⟩ := by
  unfold heapM; rw [assoc_rowsH_zero]; rfl
theorem heapM_row (eb eo n : Nat) (M : Nat → Nat → Bool) (k : Nat) (h : k < n) : assoc (heapM eb eo n M) (k + 1) = some ⟨eb, 1, rowC n M k⟩ := assoc_rowsH _ _ _ _ _ h
theorem heapM_put (eb eo n : Nat) (M : Nat → Nat → Bool) (i j : Nat) (b : Bool) (hi : i < n) (hj : j < n) : upd (heapM eb eo n M) (i + 1) ⟨eb, 1, cput (rowC n M i) j [.bool b]⟩ = heapM eb eo n (upd2 M i j b) := by
  unfold heapM
  rw [upd_rowsH _ _ _ _ _ _ hi, rowC_put _ _ _ _ _ hj]
  congr 1
  refine rowsH_congr _ _ _ _ fun k hk => ?_
  split
  · rename_i e; subst e; rfl
  · rename_i e
    simp only [rowC]
    refine List.map_congr_left fun y hy => ?_
    simp [upd2, e]

theorem heapM_put' (eb eo n : Nat) (M : Nat → Nat → Bool) (i j : Nat) (b : Bool) (hi : i < n) (hj : j < n) : upd (heapM eb eo n M) (i + 1) ⟨eb, 1, List.take j (rowC n M i) ++ .bool b :: List.drop (j + 1) (rowC n M i)⟩ = heapM eb eo n (upd2 M i j b) := by
  have := heapM_put eb eo n M i j b hi hj
  simpa [cput] using this
theorem rows_refs (e : TypeId) (n q : Nat) (M : Nat → Nat → Bool) : ∀ m, (pick (rowsH e (rowC n M) m) []).all (fun x => decide (x.1 < q)) = true := fun _ => rfl
/-! ### While it is made: m of n rows -/
def partC (n m : Nat) : List CV := outC n m ++ List.replicate (n - m) .nilsl
def heapP (eb eo n m : Nat) : List (Nat × Ob) := rowsH eb (rowC n fun _ _ => false) m ++ [(0, ⟨eo, 1, partC n m⟩)]
theorem partC_length (n m : Nat) (h : m ≤ n) : (partC n m).length = n := by simp [partC, outC_length]; omega
theorem partC_put (n m : Nat) (_h : m < n) : cput (partC n m) m [.osl (m + 1) 0 n] = partC n (m + 1) := by
  unfold cput partC
  rw [List.take_append_of_le_length (by rw [outC_length]; exact Nat.le_refl _), List.take_of_length_le (by rw [outC_length]; exact Nat.le_refl _)]
  rw [List.drop_append, outC_length, List.drop_of_length_le (by rw [outC_length]; simp)]
  simp only [List.length_cons, List.length_nil, List.nil_append, List.drop_replicate]
  rw [show m + (0 + 1) - m = 1 by omega]
  simp only [outC, List.range_succ, List.map_append, List.map_cons, List.map_nil]
  congr 2
theorem heapP_out (eb eo n m : Nat) : assoc (heapP eb eo n m) 0 = some ⟨eo, 1, partC n m⟩ := by
  unfold heapP; rw [assoc_rowsH_zero]; rfl
theorem heapP_put (eb eo n m : Nat) (h : m < n) : (m + 1, (⟨eb, 1, List.replicate n (.bool false)⟩ : Ob)) :: upd (heapP eb eo n m) 0 ⟨eo, 1, cput (partC n m) m [.osl (m + 1) 0 n]⟩ = heapP eb eo n (m + 1) := by
  unfold heapP
  rw [upd_rowsH_zero, partC_put _ _ h]
  simp only [rowsH, upd, if_true, List.cons_append]
  congr 3
  simp only [rowC]
  rw [List.map_const', List.length_range]
theorem heapP_put' (eb eo n m : Nat) (h : m < n) : (m + 1, (⟨eb, 1, List.replicate n (.bool false)⟩ : Ob)) :: upd (heapP eb eo n m) 0 ⟨eo, 1, List.take m (partC n m) ++ .osl (m + 1) 0 n :: List.drop (m + 1) (partC n m)⟩ = heapP eb eo n (m + 1) := by
  have := heapP_put eb eo n m h
  simpa [cput] using this
theorem heapP_done (eb eo n : Nat) : heapP eb eo n n = heapM eb eo n fun _ _ => false := by
  simp [heapP, heapM, partC]

/-! ### The matrix becomes immutable -/
theorem frzH_rows (e : TypeId) (o : Nat) (c : List CV) (z : Nat) (f : Nat → List Bool) : ∀ (m : Nat) (r : List (Nat × Ob)), m < o → frzH o c z (rowsH e (fun k => (f k).map CV.bool) m ++ r) = rowsH e (fun k => (f k).map CV.bool) m ++ frzH o c z r
  | 0, _, _ => rfl
  | m + 1, r, h => by
    simp only [rowsH, List.cons_append, frzH]
    rw [if_neg (by omega), frzH_rows e o c z f m r (by omega)]
    simp

theorem Le.mat {C : Cx} (eb eo n : Nat) (M : Nat → Nat → Bool) (t nx : Nat) : Le C ⟨[(t, .osl 0 0 n)], heapM eb eo n M, nx⟩ ⟨[(t, boolss (mat2 n M))], [], nx⟩ := by
  have key : ∀ m, m ≤ n → Le C ⟨[(t, .osl 0 0 n)], rowsH eb (rowC n M) m ++ [(0, ⟨eo, 1, (List.range n).map fun k => if k < m then .osl (k + 1) 0 n else bools ((List.range n).map (M k))⟩)], nx⟩
      ⟨[(t, .osl 0 0 n)], [(0, ⟨eo, 1, (List.range n).map fun k => bools ((List.range n).map (M k))⟩)], nx⟩ := by
    intro m
    induction m with
    | zero => intro _; simp only [rowsH, List.nil_append, Nat.not_lt_zero, if_false]; exact Le.refl _
    | succ m ih =>
      intro hm
      have e0 : rowC n M = fun k => ((List.range n).map (M k)).map CV.bool := by funext k; simp [rowC, Function.comp_def]
      refine Le.trans (Le.frz (o := m + 1) (ob := ⟨eb, 1, rowC n M m⟩) (by simp [rowsH]) (by simp [rowC, Function.comp_def])) ?_
      refine Le.trans ?_ (ih (by omega))
      have : St.frz ⟨[(t, .osl 0 0 n)], rowsH eb (rowC n M) (m + 1) ++ [(0, ⟨eo, 1, (List.range n).map fun k => if k < m + 1 then .osl (k + 1) 0 n else bools ((List.range n).map (M k))⟩)], nx⟩ (m + 1) ⟨eb, 1, rowC n M m⟩ =
          ⟨[(t, .osl 0 0 n)], rowsH eb (rowC n M) m ++ [(0, ⟨eo, 1, (List.range n).map fun k => if k < m then .osl (k + 1) 0 n else bools ((List.range n).map (M k))⟩)], nx⟩ := by
        simp only [St.frz, frzE, frzV, rowsH, List.cons_append, frzH, if_true]
        rw [if_neg (by omega), e0, frzH_rows _ _ _ _ (fun k => (List.range n).map (M k)) m _ (by omega)]
        simp only [frzH]
        rw [if_neg (by omega)]
        congr 5
        rw [frzVs_eq, List.map_map]
        refine List.map_congr_left fun k hk => ?_
        have hkn : k < n := List.mem_range.1 hk
        simp only [Function.comp]
        by_cases h1 : k < m
        · rw [if_pos (by omega), if_pos h1]; simp only [frzV]; rw [if_neg (by omega)]
        · rw [if_neg h1]
          by_cases h2 : k = m
          · subst h2; rw [if_pos (by omega)]; simp [frzV, bools, Function.comp_def, List.take_of_length_le]
          · rw [if_neg (by omega)]; rfl
      rw [this]; exact Le.refl _
  have h1 := key n (Nat.le_refl _)
  have e1 : (List.range n).map (fun k => if k < n then (.osl (k + 1) 0 n : CV) else bools ((List.range n).map (M k))) = outC n n :=
    List.map_congr_left fun k hk => if_pos (List.mem_range.1 hk)
  rw [e1] at h1
  refine Le.trans h1 (Le.trans (Le.frz (o := 0) (ob := ⟨eo, 1, (List.range n).map fun k => bools ((List.range n).map (M k))⟩) (by simp) (by simp)) ?_)
  have : St.frz ⟨[(t, .osl 0 0 n)], [(0, ⟨eo, 1, (List.range n).map fun k => bools ((List.range n).map (M k))⟩)], nx⟩ 0 ⟨eo, 1, (List.range n).map fun k => bools ((List.range n).map (M k))⟩ = ⟨[(t, boolss (mat2 n M))], [], nx⟩ := by
    simp [boolss, mat2, List.take_of_length_le, Function.comp_def]
  rw [this]; exact Le.refl _
end Go.Can
