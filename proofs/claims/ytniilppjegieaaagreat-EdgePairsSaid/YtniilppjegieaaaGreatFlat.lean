/- Rows of records, written out as cells. No function of the program is mentioned here. -/
import Derived.Test.YtniilppjegieaaaGreatCan37
namespace Go.Can
section
variable {α : Type} {f : α → List CV} {n : Nat}
theorem flat_len (hf : ∀ x, (f x).length = n) : ∀ m : List α, (m.flatMap f).length = m.length * n
  | [] => by simp
  | a :: r => by
    have ih := flat_len hf r
    simp only [List.flatMap_cons, List.length_append, hf, ih, List.length_cons, Nat.add_mul]
    omega
theorem flat_take (hf : ∀ x, (f x).length = n) : ∀ (m : List α) (i : Nat), (m.flatMap f).take (i * n) = (m.take i).flatMap f
  | [], i => by simp
  | a :: r, 0 => by simp
  | a :: r, i + 1 => by
    have ih := flat_take hf r i
    simp only [List.take_succ_cons, List.flatMap_cons, ← ih]
    rw [show (i + 1) * n = (f a).length + i * n by rw [hf, Nat.add_mul]; omega, List.take_length_add_append]
theorem flat_drop (hf : ∀ x, (f x).length = n) : ∀ (m : List α) (i : Nat), (m.flatMap f).drop (i * n) = (m.drop i).flatMap f
  | [], i => by simp
  | a :: r, 0 => by simp
  | a :: r, i + 1 => by
    have ih := flat_drop hf r i
    simp only [List.drop_succ_cons, List.flatMap_cons, ← ih]
    rw [show (i + 1) * n = (f a).length + i * n by rw [hf, Nat.add_mul]; omega, List.drop_length_add_append]
theorem flat_at (hf : ∀ x, (f x).length = n) {m : List α} {i : Nat} {e : α} (h : m[i]? = some e) : (m.flatMap f).drop (i * n) = f e ++ (m.drop (i + 1)).flatMap f := by
  rw [flat_drop hf]
  obtain ⟨hi, he⟩ := List.getElem?_eq_some_iff.1 h
  rw [List.drop_eq_getElem_cons hi, he, List.flatMap_cons]
theorem flat_put (hf : ∀ x, (f x).length = n) {m : List α} {i k : Nat} {e e' : α} {c : CV} (h : m[i]? = some e) (hk : k < n) (he : (f e).set k c = f e') : cput (m.flatMap f) (i * n + k) [c] = (m.set i e').flatMap f := by
  obtain ⟨hi, rfl⟩ := List.getElem?_eq_some_iff.1 h
  have h1 : m = m.take i ++ m[i] :: m.drop (i + 1) := by rw [← List.drop_eq_getElem_cons hi, List.take_append_drop]
  have hl : ((m.take i).flatMap f).length = i * n := by
    rw [flat_len hf, List.length_take, Nat.min_eq_left (by omega)]
  unfold cput
  rw [List.set_eq_take_append_cons_drop, if_pos hi, List.flatMap_append, List.flatMap_cons, ← he]
  have hm : m.flatMap f = (m.take i).flatMap f ++ (f m[i] ++ (m.drop (i + 1)).flatMap f) := by
    rw [← List.flatMap_cons, ← List.flatMap_append, ← List.drop_eq_getElem_cons hi, List.take_append_drop]
  rw [hm, ← hl, List.take_length_add_append, List.append_assoc, List.append_assoc]
  congr 1
  have hkl : k < (f m[i]).length := by rw [hf]; exact hk
  rw [List.set_eq_take_append_cons_drop, if_pos hkl]
  rw [List.take_append_of_le_length (by omega)]
  simp only [List.length_singleton, List.append_assoc, List.cons_append, List.nil_append]
  congr 2
  rw [Nat.add_assoc, List.drop_length_add_append, List.drop_append_of_le_length (by omega)]
end
end Go.Can
