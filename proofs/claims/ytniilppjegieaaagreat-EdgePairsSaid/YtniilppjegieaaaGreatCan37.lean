/- The only object of one's own gets another number; no function of the program is mentioned here. -/
import Derived.Test.YtniilppjegieaaaGreatCan34
namespace Go.Can
open Go.RowKit

def renV (o q : Nat) : CV → CV
  | .osl p off n => if p = o then .osl q off n else .osl p off n
  | c => c
def renOk (o q : Nat) : CV → Bool
  | .osl p _ _ => p == o || decide (p < q)
  | c => refsLt q c
def renE (o q : Nat) : List (Nat × CV) → List (Nat × CV)
  | [] => []
  | (t, c) :: r => (t, renV o q c) :: renE o q r
theorem assoc_renE {o q : Nat} : ∀ (l : List (Nat × CV)) (t : Nat) (c : CV), assoc (renE o q l) t = some c → ∃ d, assoc l t = some d ∧ c = renV o q d
  | [], _, _, h => by simp [renE, assoc] at h
  | (k, x) :: r, t, c, h => by
    simp only [renE, assoc] at h ⊢
    split at h
    · rename_i e; rw [if_pos e]; cases h; exact ⟨x, rfl, rfl⟩
    · rename_i e; rw [if_neg e]; exact assoc_renE r t c h
attribute [simp] renV renOk renE

theorem Le.renum {C : Cx} {s : St} (o q : Nat) (ob : Ob) (hh : s.heap = [(o, ob)]) (hq : C.n0 ≤ q) (hqo : q ≤ o) (hc : refsLts q ob.cells = true) (he : s.env.all (fun x => renOk o q x.2) = true) : Le C s ⟨renE o q s.env, [(q, ob)], q + 1⟩ := by
  intro a w ⟨σ, hr⟩
  rw [List.all_eq_true] at he
  have ho : assoc s.heap o = some ob := by rw [hh]; simp [assoc]
  obtain ⟨σ', hσ⟩ : ∃ σ' : Nat → Option OB, ∀ x, σ' x = if x = q then σ o else if x < q then σ x else none := ⟨_, fun _ => rfl⟩
  have s1 : σ' q = σ o := by rw [hσ, if_pos rfl]
  have s2 : ∀ x, x < q → σ' x = σ x := fun x hx => by rw [hσ, if_neg (by omega), if_pos hx]
  have hF : ∀ b, FB C σ' [(q, ob)] b → FB C σ s.heap b := by
    rintro b (hb | ⟨x, ob', hx, hb⟩)
    · exact .inl hb
    · simp only [assoc] at hx
      split at hx
      · rename_i e
        have e : x = q := e.symm
        subst e
        simp only [blkOf, s1] at hb
        exact .inr ⟨o, ob, ho, hb⟩
      · cases hx
  have hk : Keeps w w (FB C σ s.heap) (FB C σ' [(q, ob)]) := Keeps.same hF
  refine ⟨σ', hr.dfr, hr.tm, hr.os, hr.tape, hr.output, hr.size, hr.frame, ?_, ?_, ?_, fun x hx => by rw [hσ, if_neg (by simp only at hx; omega), if_neg (by simp only at hx; omega)], fun x hx => by rw [s2 x (Nat.lt_of_lt_of_le hx hq)]; exact hr.old x hx, by simp only; omega, fun x B b hx hB hb => ?_⟩
  · intro t c hc'
    obtain ⟨d, k1, rfl⟩ := assoc_renE _ _ _ hc'
    have hm := he _ (assoc_mem _ _ _ k1)
    obtain ⟨v, k2, k3⟩ := hr.env t d k1
    refine ⟨v, k2, ?_⟩
    have gen : refsLt q d = true → VR w (FB C σ' [(q, ob)]) σ' d v := fun hl => VR.keep hk d v (fun x hx => s2 x (refsLt_ok q d x hl hx)) k3
    cases d with
    | osl p off n =>
      simp only [renV]
      split
      · rename_i e
        subst e
        simp only [VR] at k3 ⊢
        obtain ⟨B, h1, h2⟩ := k3
        exact ⟨B, by rw [s1]; exact h1, h2⟩
      · rename_i e
        refine gen ?_
        simp only [renOk, Bool.or_eq_true, beq_iff_eq, decide_eq_true_eq] at hm
        rcases hm with hm | hm
        · exact absurd hm e
        · simpa [refsLt] using hm
    | _ => exact gen (by simpa only [renOk] using hm)
  · intro x ob' hx
    simp only [assoc] at hx
    split at hx
    · rename_i e
      have e : x = q := e.symm
      subst e
      cases hx
      obtain ⟨B, m1, m2, m3, m4, m5⟩ := hr.obj o ob ho
      refine ⟨B, by rw [s1]; exact m1, m2, m3, m4, fun b hb => ?_⟩
      obtain ⟨cur, n1, n2, n3, n4, n5, n6⟩ := m5 b hb
      exact ⟨cur, n1, n2, n3, n4, n5, VRs.keep hk _ _ (fun p hp => s2 p (refsLts_ok x _ p hc hp)) n6⟩
    · cases hx
  · intro x x' ob1 ob2 b hx hx' _ _
    simp only [assoc] at hx hx'
    split at hx
    · split at hx'
      · omega
      · cases hx'
    · cases hx
  · by_cases e : x = q
    · subst e
      rw [s1] at hB
      exact hr.new o B b (by omega) hB hb
    · by_cases e2 : x < q
      · rw [s2 x e2] at hB
        exact hr.new x B b hx hB hb
      · rw [hσ, if_neg e, if_neg e2] at hB
        cases hB
end Go.Can
