/- The components are a partition. No program in sight. -/
import Derived.Test.YtgiphneejidahaaSpec3
namespace Go.Proofs.Ytgiphneejidahaa

def compStepN (n : Nat) (M : Nat → Nat → Bool) (st : (Nat → Bool) × List (List Nat)) (i : Nat) : (Nat → Bool) × List (List Nat) :=
  if st.1 i then st else (doneJ st.1 M i n, st.2 ++ [lstN M i n])
def compsFN (n : Nat) (M : Nat → Nat → Bool) (k : Nat) : (Nat → Bool) × List (List Nat) := (List.range k).foldl (compStepN n M) (fun _ => false, [])
theorem compsFN_succ (n : Nat) (M : Nat → Nat → Bool) (k : Nat) : compsFN n M (k + 1) = compStepN n M (compsFN n M k) k := foldR_succ _ _ _
theorem compsFN_eq (n : Nat) (M : Nat → Nat → Bool) : ∀ k, (compsFN n M k).1 = (compsF n M k).1 ∧ (compsFN n M k).2.map natI = (compsF n M k).2
  | 0 => by simp [compsFN, compsF]
  | k + 1 => by
    obtain ⟨h1, h2⟩ := compsFN_eq n M k
    rw [compsFN_succ, compsF_succ]
    unfold compStepN compStep
    rw [h1]
    split
    · exact ⟨h1, h2⟩
    · simp [h2]

/-- What a division of n nodes is. -/
structure Divides (n : Nat) (M : Nat → Nat → Bool) (L : List (List Nat)) : Prop where
  lt : ∀ l ∈ L, ∀ x ∈ l, x < n
  all : ∀ x, x < n → ∃ l ∈ L, x ∈ l
  muts : ∀ l ∈ L, ∀ x ∈ l, ∀ y, y < n → (y ∈ l ↔ mutB M x y = true)
  apart : L.Pairwise fun l l' => ∀ x, x ∈ l → x ∉ l'
  count : (L.map List.length).sum = n

section
variable {n : Nat} {M : Nat → Nat → Bool}
theorem mutB_symm (x y : Nat) : mutB M x y = mutB M y x := by
  unfold mutB; rw [both_symm x y]; congr 1; simp [eq_comm]
theorem mutB_self (x : Nat) : mutB M x x = true := by simp [mutB]
theorem mem_lstN (i x : Nat) : x ∈ lstN M i n ↔ x < n ∧ mutB M i x = true := by simp [lstN]
theorem countP_or (l : List Nat) (p q : Nat → Bool) (h : ∀ x ∈ l, q x = true → p x = false) : (l.countP fun x => p x || q x) = l.countP p + l.countP q := by
  induction l with
  | nil => rfl
  | cons a l ih =>
    simp only [List.countP_cons]
    rw [ih fun x hx => h x (by simp [hx])]
    have := h a (by simp)
    cases hp : p a <;> cases hq : q a <;> simp_all <;> omega
theorem part_inv (ht : Trans n M) : ∀ i, i ≤ n → (∀ x, x < n → ((compsFN n M i).1 x = true ↔ ∃ l ∈ (compsFN n M i).2, x ∈ l)) ∧ (∀ l ∈ (compsFN n M i).2, ∃ j, j < i ∧ ∀ x, x ∈ l ↔ x < n ∧ mutB M j x = true) ∧
    ((compsFN n M i).2.Pairwise fun l l' => ∀ x, x ∈ l → x ∉ l') ∧ ((compsFN n M i).2.map List.length).sum = (List.range n).countP (compsFN n M i).1
  | 0, _ => by simp [compsFN]
  | i + 1, hi => by
    obtain ⟨h1, h2, h3, h4⟩ := part_inv ht i (by omega)
    have hA := (comps_inv ht i (by omega)).2.1
    rw [← (compsFN_eq n M i).1] at hA
    have hin : i < n := hi
    rw [compsFN_succ]
    generalize compsFN n M i = A at *
    obtain ⟨d, o⟩ := A
    simp only at h1 h2 h3 h4 hA
    unfold compStepN
    by_cases hd : d i = true
    · simp only [hd, if_true]
      exact ⟨h1, fun l hl => by obtain ⟨j, hj, h⟩ := h2 l hl; exact ⟨j, by omega, h⟩, h3, h4⟩
    · simp only [hd, if_false, Bool.false_eq_true]
      have hfresh : ∀ x, x < n → mutB M i x = true → d x = false := fun x hx hm => by
        cases hdx : d x with
        | false => rfl
        | true =>
          obtain ⟨j, hj, hjm⟩ := (hA x hx).1 hdx
          exact absurd ((hA i hin).2 ⟨j, hj, mutB_trans ht (by omega) hx hin hjm (by rw [mutB_symm]; exact hm)⟩) hd
      refine ⟨fun x hx => ?_, fun l hl => ?_, ?_, ?_⟩
      · simp only [doneJ, Bool.or_eq_true, Bool.and_eq_true, decide_eq_true_eq, h1 x hx, List.mem_append, List.mem_singleton]
        constructor
        · rintro (⟨l, hl, hx'⟩ | h)
          · exact ⟨l, .inl hl, hx'⟩
          · exact ⟨_, .inr rfl, (mem_lstN i x).2 h⟩
        · rintro ⟨l, hl | rfl, hx'⟩
          · exact .inl ⟨l, hl, hx'⟩
          · exact .inr ((mem_lstN i x).1 hx')
      · simp only [List.mem_append, List.mem_singleton] at hl
        rcases hl with hl | rfl
        · obtain ⟨j, hj, h⟩ := h2 l hl; exact ⟨j, by omega, h⟩
        · exact ⟨i, by omega, mem_lstN i⟩
      · rw [List.pairwise_append]
        refine ⟨h3, List.pairwise_singleton _ _, fun l hl l' hl' x hx hx' => ?_⟩
        rw [List.mem_singleton] at hl'
        subst hl'
        obtain ⟨hxn, hm⟩ := (mem_lstN i x).1 hx'
        have := (h1 x hxn).2 ⟨l, hl, hx⟩
        rw [hfresh x hxn hm] at this; cases this
      · simp only [List.map_append, List.map_cons, List.map_nil, List.sum_append, List.sum_cons, List.sum_nil, h4]
        have e1 : (List.range n).countP (doneJ d M i n) = (List.range n).countP fun x => d x || mutB M i x := by
          refine List.countP_congr fun x hx => ?_
          have := List.mem_range.1 hx
          simp [doneJ, this]
        rw [e1, countP_or _ _ _ fun x hx hm => hfresh x (List.mem_range.1 hx) hm]
        simp [lstN, List.countP_eq_length_filter]
theorem divides (ht : Trans n M) : Divides n M (compsFN n M n).2 := by
  obtain ⟨h1, h2, h3, h4⟩ := part_inv ht n (Nat.le_refl _)
  have hA := (comps_inv ht n (Nat.le_refl _)).2.1
  rw [← (compsFN_eq n M n).1] at hA
  have hall : ∀ x, x < n → (compsFN n M n).1 x = true := fun x hx => (hA x hx).2 ⟨x, hx, mutB_self x⟩
  refine ⟨fun l hl x hx => ?_, fun x hx => (h1 x hx).1 (hall x hx), fun l hl x hx y hy => ?_, h3, ?_⟩
  · obtain ⟨j, _, h⟩ := h2 l hl; exact ((h x).1 hx).1
  · obtain ⟨j, hj, h⟩ := h2 l hl
    obtain ⟨hxn, hm⟩ := (h x).1 hx
    rw [h y]
    constructor
    · rintro ⟨_, hm'⟩; exact mutB_trans ht hxn hj hy (by rw [mutB_symm]; exact hm) hm'
    · intro hm'; exact ⟨hy, mutB_trans ht hj hxn hy hm hm'⟩
  · rw [h4, List.countP_eq_length.2 fun x hx => hall x (List.mem_range.1 hx)]; simp

/-- The number of the list that a node lies in, after the lists below i. -/
def ofL (L : List (List Nat)) : Nat → Nat → Int
  | 0 => fun _ => 0
  | i + 1 => fun x => if x ∈ L.getD i [] then (i : Int) else ofL L i x
theorem ofL_at {L : List (List Nat)} (hD : Divides n M L) : ∀ i, i ≤ L.length → ∀ j (hj : j < L.length), j < i → ∀ x ∈ L[j], ofL L i x = j
  | 0, _, _, _, h, _, _ => by omega
  | i + 1, hi, j, hj, hji, x, hx => by
    have hil : i < L.length := hi
    have hg : L.getD i [] = L[i] := by simp [List.getD, hil]
    simp only [ofL, hg]
    by_cases hij : j = i
    · subst hij; rw [if_pos hx]
    · have hlt : j < i := by omega
      have := List.pairwise_iff_getElem.1 hD.apart j i hj hil hlt x hx
      rw [if_neg this]
      exact ofL_at hD i (by omega) j hj hlt x hx
theorem ofL_same {L : List (List Nat)} (hD : Divides n M L) (x y : Nat) (hx : x < n) (hy : y < n) : (ofL L L.length x = ofL L L.length y) ↔ mutB M x y = true := by
  obtain ⟨l, hl, hxl⟩ := hD.all x hx
  obtain ⟨l', hl', hyl⟩ := hD.all y hy
  obtain ⟨i, hi, rfl⟩ := List.getElem_of_mem hl
  obtain ⟨j, hj, rfl⟩ := List.getElem_of_mem hl'
  rw [ofL_at hD _ (Nat.le_refl _) i hi hi x hxl, ofL_at hD _ (Nat.le_refl _) j hj hj y hyl]
  rw [← hD.muts _ hl x hxl y hy]
  constructor
  · intro e
    have : i = j := by omega
    subst this; exact hyl
  · intro hyi
    by_cases hij : i = j
    · rw [hij]
    · exfalso
      rcases Nat.lt_or_gt_of_ne hij with h | h
      · exact List.pairwise_iff_getElem.1 hD.apart i j hi hj h y hyi hyl
      · exact List.pairwise_iff_getElem.1 hD.apart j i hj hi h y hyl hyi
/-- While the list i is laid. -/
def ofJ (L : List (List Nat)) (i j : Nat) : Nat → Int := fun x => if x ∈ (L.getD i []).take j then (i : Int) else ofL L i x
theorem ofJ_zero (L : List (List Nat)) (i : Nat) : ofJ L i 0 = ofL L i := by funext x; simp [ofJ]
theorem ofJ_full (L : List (List Nat)) (i j : Nat) (h : j = (L.getD i []).length) : ofJ L i j = ofL L (i + 1) := by
  funext x; subst h; simp [ofJ, ofL, List.take_length]
theorem ofJ_succ (L : List (List Nat)) (i j : Nat) (l : List Nat) (hl : L.getD i [] = l) (hj : j < l.length) : (fun x => if x = l[j] then (i : Int) else ofJ L i j x) = ofJ L i (j + 1) := by
  funext x
  unfold ofJ
  rw [hl, List.take_succ_eq_append_getElem hj]
  simp only [List.mem_append, List.mem_singleton]
  by_cases hx : x = l[j]
  · rw [if_pos hx, if_pos (.inr hx)]
  · rw [if_neg hx]
    by_cases h2 : x ∈ l.take j
    · rw [if_pos h2, if_pos (.inl h2)]
    · rw [if_neg h2, if_neg (by rintro (h | h); exact h2 h; exact hx h)]
/-- The nodes laid before the list i. -/
def cntL (L : List (List Nat)) (i : Nat) : Nat := ((L.take i).map List.length).sum
theorem cntL_succ (L : List (List Nat)) (i : Nat) (h : i < L.length) : cntL L (i + 1) = cntL L i + L[i].length := by
  unfold cntL; rw [List.take_succ_eq_append_getElem h, List.map_append, List.sum_append]; simp only [List.map_cons, List.map_nil, List.sum_cons, List.sum_nil, Nat.add_zero]
theorem cntL_full (L : List (List Nat)) : cntL L L.length = (L.map List.length).sum := by unfold cntL; rw [List.take_length]
theorem cntL_le (L : List (List Nat)) (i : Nat) : cntL L i ≤ (L.map List.length).sum := by
  have : (L.map List.length).sum = cntL L i + ((L.drop i).map List.length).sum := by
    unfold cntL
    rw [← List.sum_append, ← List.map_append, List.take_append_drop]
  omega
end
end Go.Proofs.Ytgiphneejidahaa
