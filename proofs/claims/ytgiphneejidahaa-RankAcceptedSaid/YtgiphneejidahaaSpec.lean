/- What the functions compute, in plain Lean: no program in sight. -/
namespace Go.Proofs.Ytgiphneejidahaa

/-- The number of nodes. -/
def nn (n : Int) : Nat := (max 0 (min n 64)).toNat
theorem nn_le (n : Int) : nn n ≤ 64 := by unfold nn; omega

/-- An edge among n nodes. -/
def arrowB (n : Int) (p : List Int) : Bool := match p with
  | [a, b] => decide (0 ≤ a) && decide (a < n) && decide (0 ≤ b) && decide (b < n)
  | _ => false
def edgesOf (n : Int) (ps : List (List Int)) : List (List Int) := ps.filter (arrowB n)

/-- lockordermade.Pairs. -/
def pairAt (l : List Int) (n : Int) (i : Nat) : List Int := [l.getD (2 * i) 0 % n, l.getD (2 * i + 1) 0 % n]
def pairsOf (l : List Int) (n : Int) : List (List Int) := (List.range (min 20 (l.length / 2))).map (pairAt l n)

/-- One edge more; one step, one row, one round of the closure, all of it, in place. -/
def up2 (M : Nat → Nat → Bool) (i j : Nat) (b : Bool) : Nat → Nat → Bool := fun x y => if x = i ∧ y = j then b else M x y
def stepP (n : Int) (M : Nat → Nat → Bool) (p : List Int) : Nat → Nat → Bool := if arrowB n p then up2 M ((p.getD 0 0).toNat) ((p.getD 1 0).toNat) true else M
def stepJ (k i : Nat) (M : Nat → Nat → Bool) (j : Nat) : Nat → Nat → Bool := up2 M i j (M i j || (M i k && M k j))
def rowJ (n k : Nat) (M : Nat → Nat → Bool) (i : Nat) : Nat → Nat → Bool := (List.range n).foldl (stepJ k i) M
def matI (n : Nat) (M : Nat → Nat → Bool) (k : Nat) : Nat → Nat → Bool := (List.range n).foldl (rowJ n k) M
def warsh (n : Nat) (M : Nat → Nat → Bool) : Nat → Nat → Bool := (List.range n).foldl (matI n) M
def edgeM (n : Nat) (ps : List (List Int)) : Nat → Nat → Bool := ps.foldl (stepP n) fun _ _ => false
def reachM (n : Int) (ps : List (List Int)) : Nat → Nat → Bool := warsh (nn n) (edgeM (nn n) ps)

theorem arrow_nat (k : Nat) (p : List Int) (h : arrowB k p = true) : ∃ a b : Nat, p = [(a : Int), (b : Int)] ∧ a < k ∧ b < k := by
  rcases p with _ | ⟨a, _ | ⟨b, _ | ⟨c, r⟩⟩⟩ <;> simp [arrowB] at h
  exact ⟨a.toNat, b.toNat, by simp; omega, by omega, by omega⟩
theorem edgeM_succ (k : Nat) (ps : List (List Int)) (i : Nat) (h : i < ps.length) : edgeM k (ps.take (i + 1)) = stepP k (edgeM k (ps.take i)) ps[i] := by
  unfold edgeM
  rw [List.take_succ_eq_append_getElem h, List.foldl_append]; rfl
theorem foldR_succ {α : Type} (f : α → Nat → α) (a : α) (k : Nat) : (List.range (k + 1)).foldl f a = f ((List.range k).foldl f a) k := by
  rw [List.range_succ, List.foldl_append]; rfl
end Go.Proofs.Ytgiphneejidahaa
