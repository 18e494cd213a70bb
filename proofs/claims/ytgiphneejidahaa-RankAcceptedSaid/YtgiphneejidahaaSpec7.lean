/- Levels: the rounds over the components yield the least ranks that rise along the edges between components. No program in sight. -/
import Derived.Test.YtgiphneejidahaaSpec6
namespace Go.Proofs.Ytgiphneejidahaa

/-- One edge, one round, r rounds. 'F': the component of a node. -/
def stepE (F lv : Nat → Nat) (nx : Nat → Nat) (p : List Int) : Nat → Nat :=
  if F (p.getD 0 0).toNat = F (p.getD 1 0).toNat then nx
  else fun x => if x = F (p.getD 1 0).toNat then max (nx x) (lv (F (p.getD 0 0).toNat) + 1) else nx x
def roundE (F : Nat → Nat) (es : List (List Int)) (lv : Nat → Nat) : Nat → Nat := es.foldl (stepE F lv) lv
def jac (F : Nat → Nat) (es : List (List Int)) : Nat → Nat → Nat
  | 0 => fun _ => 0
  | r + 1 => roundE F es (jac F es r)

section
variable {F lv : Nat → Nat}
theorem stepE_le (nx : Nat → Nat) (p : List Int) (x : Nat) : nx x ≤ stepE F lv nx p x := by
  unfold stepE; split
  · exact Nat.le_refl _
  · dsimp only; split
    · exact Nat.le_max_left _ _
    · exact Nat.le_refl _
theorem foldE_le : ∀ (es : List (List Int)) (nx : Nat → Nat) (x : Nat), nx x ≤ es.foldl (stepE F lv) nx x
  | [], _, _ => Nat.le_refl _
  | p :: es, nx, x => Nat.le_trans (stepE_le nx p x) (foldE_le es _ x)
theorem foldE_edge : ∀ (es : List (List Int)) (nx : Nat → Nat) (a b : Nat), [(a : Int), (b : Int)] ∈ es → F a ≠ F b → lv (F a) + 1 ≤ es.foldl (stepE F lv) nx (F b)
  | [], _, _, _, h, _ => by cases h
  | p :: es, nx, a, b, h, hab => by
    rcases List.mem_cons.1 h with rfl | h
    · refine Nat.le_trans ?_ (foldE_le es _ _)
      simp [stepE, hab]
      exact Nat.le_max_right _ _
    · exact foldE_edge es _ a b h hab
theorem foldE_or : ∀ (es : List (List Int)) (nx : Nat → Nat) (x : Nat), es.foldl (stepE F lv) nx x = nx x ∨ ∃ p ∈ es, F (p.getD 0 0).toNat ≠ F (p.getD 1 0).toNat ∧ F (p.getD 1 0).toNat = x ∧ es.foldl (stepE F lv) nx x = lv (F (p.getD 0 0).toNat) + 1
  | [], _, _ => .inl rfl
  | p :: es, nx, x => by
    rw [List.foldl_cons]
    rcases foldE_or es (stepE F lv nx p) x with h | ⟨q, hq, h1, h2, h3⟩
    · rw [h]
      unfold stepE
      split
      · exact .inl rfl
      · rename_i hne
        dsimp only
        split
        · rename_i hx
          rcases Nat.le_total (lv (F (p.getD 0 0).toNat) + 1) (nx x) with hle | hle
          · exact .inl (Nat.max_eq_left hle)
          · exact .inr ⟨p, by simp, hne, hx.symm, Nat.max_eq_right hle⟩
        · exact .inl rfl
    · exact .inr ⟨q, by simp [hq], h1, h2, h3⟩
end
theorem foldE_succ (F lv nx : Nat → Nat) (es : List (List Int)) (i : Nat) (h : i < es.length) : (es.take (i + 1)).foldl (stepE F lv) nx = stepE F lv ((es.take i).foldl (stepE F lv) nx) es[i] := by
  rw [List.take_succ_eq_append_getElem h, List.foldl_append]; rfl
theorem jac_mono (F : Nat → Nat) (es : List (List Int)) (r x : Nat) : jac F es r x ≤ jac F es (r + 1) x := foldE_le es _ x
theorem jac_or (F : Nat → Nat) (es : List (List Int)) (r x : Nat) : jac F es (r + 1) x = jac F es r x ∨ ∃ p ∈ es, F (p.getD 0 0).toNat ≠ F (p.getD 1 0).toNat ∧ F (p.getD 1 0).toNat = x ∧ jac F es (r + 1) x = jac F es r (F (p.getD 0 0).toNat) + 1 :=
  foldE_or es _ x
/-- What has risen in a round has risen in each one before. -/
theorem jac_rise (F : Nat → Nat) (es : List (List Int)) (hes : ∀ p ∈ es, ∃ a b : Nat, p = [(a : Int), (b : Int)]) : ∀ r x, jac F es r x < jac F es (r + 1) x → r + 1 ≤ jac F es (r + 1) x
  | 0, x, h => by omega
  | r + 1, x, h => by
    rcases jac_or F es (r + 1) x with e | ⟨p, hp, h1, h2, h3⟩
    · omega
    · obtain ⟨a, b, rfl⟩ := hes p hp
      simp only [List.getD_cons_zero, List.getD_cons_succ, Int.toNat_natCast] at h1 h2 h3
      have h4 : jac F es r (F a) + 1 ≤ jac F es (r + 1) (F b) := foldE_edge es _ a b hp h1
      rw [h2] at h4
      have := jac_rise F es hes r (F a) (by omega)
      omega

/-- Ranks that stay within components and rise between them. -/
structure Sol (n : Nat) (M E : Nat → Nat → Bool) (f : Nat → Nat) : Prop where
  same : ∀ x y, x < n → y < n → mutB M x y = true → f x ≤ f y
  edge : ∀ x y, x < n → y < n → E x y = true → mutB M x y = false → f x + 1 ≤ f y

section
variable {n c : Nat} {M E : Nat → Nat → Bool} {F : Nat → Nat} {es : List (List Int)}
theorem jac_least (hes : ∀ p ∈ es, ∃ a b : Nat, p = [(a : Int), (b : Int)] ∧ a < n ∧ b < n ∧ E a b = true) (hF : ∀ x y, x < n → y < n → (F x = F y ↔ mutB M x y = true)) {f : Nat → Nat} (hf : Sol n M E f) :
    ∀ r y, y < n → jac F es r (F y) ≤ f y
  | 0, _, _ => Nat.zero_le _
  | r + 1, y, hy => by
    rcases jac_or F es r (F y) with e | ⟨p, hp, h1, h2, h3⟩
    · rw [e]; exact jac_least hes hF hf r y hy
    · obtain ⟨a, b, rfl, ha, hb, hab⟩ := hes p hp
      simp only [List.getD_cons_zero, List.getD_cons_succ, Int.toNat_natCast] at h1 h2 h3
      have k1 := jac_least hes hF hf r a ha
      have k2 : mutB M a b = false := by
        cases hm : mutB M a b
        · rfl
        · exact absurd ((hF a b ha hb).2 hm) h1
      have k3 := hf.edge a b ha hb hab k2
      have k4 := hf.same b y hb hy ((hF b y hb hy).1 h2)
      omega
theorem jac_sol (hes : ∀ a b : Nat, a < n → b < n → E a b = true → [(a : Int), (b : Int)] ∈ es) (hes' : ∀ p ∈ es, ∃ a b : Nat, p = [(a : Int), (b : Int)]) (hF : ∀ x y, x < n → y < n → (F x = F y ↔ mutB M x y = true)) (r : Nat) (hb : ∀ y, y < n → jac F es (r + 1) (F y) ≤ r) :
    Sol n M E fun y => jac F es r (F y) := by
  refine ⟨fun x y hx hy hm => ?_, fun x y hx hy he hm => ?_⟩
  · rw [(hF x y hx hy).2 hm]; exact Nat.le_refl _
  · have hne : F x ≠ F y := fun e => by rw [(hF x y hx hy).1 e] at hm; cases hm
    have h1 : jac F es r (F x) + 1 ≤ jac F es (r + 1) (F y) := foldE_edge es _ x y (hes x y hx hy he) hne
    rcases Nat.lt_or_ge (jac F es r (F y)) (jac F es (r + 1) (F y)) with hlt | hge
    · have := jac_rise F es hes' r (F y) hlt
      have := hb y hy
      omega
    · exact Nat.le_trans h1 hge
end

theorem countP_lt {α : Type} (p q : α → Bool) : ∀ (l : List α), (∀ x ∈ l, p x = true → q x = true) → (∃ x ∈ l, p x = false ∧ q x = true) → l.countP p + 1 ≤ l.countP q
  | [], _, ⟨x, hx, _⟩ => by cases hx
  | a :: l, h, ⟨x, hx, h1, h2⟩ => by
    have hle : l.countP p ≤ l.countP q := List.countP_mono_left fun y hy => h y (by simp [hy])
    rcases List.mem_cons.1 hx with rfl | hx
    · rw [List.countP_cons_of_neg (by simp [h1]), List.countP_cons_of_pos h2]; omega
    · have ih := countP_lt p q l (fun y hy => h y (by simp [hy])) ⟨x, hx, h1, h2⟩
      cases hp : p a
      · rw [List.countP_cons_of_neg (by simp [hp]), List.countP_cons]; omega
      · rw [List.countP_cons_of_pos hp, List.countP_cons_of_pos (h a (by simp) hp)]; omega

section
variable {n : Nat} {M E : Nat → Nat → Bool} {L : List (List Nat)}
/-- How many components reach a node from without. -/
def above (M : Nat → Nat → Bool) (L : List (List Nat)) (y : Nat) : Nat := (List.range L.length).countP fun i => M ((L.getD i []).headD 0) y && !mutB M ((L.getD i []).headD 0) y
theorem head_mem (hne : ∀ l ∈ L, l ≠ []) (i : Nat) (hi : i < L.length) : (L.getD i []).headD 0 ∈ L[i] := by
  have : L.getD i [] = L[i] := by simp [List.getD, hi]
  rw [this]
  have hn := hne L[i] (List.getElem_mem hi)
  cases hl : L[i] with
  | nil => exact absurd hl hn
  | cons a r => simp
theorem above_sol (hD : Divides n M L) (ht : Trans n M) (hE : ∀ x y, x < n → y < n → E x y = true → M x y = true) (hne : ∀ l ∈ L, l ≠ []) : Sol n M E (above M L) := by
  have hh : ∀ i, i < L.length → (L.getD i []).headD 0 < n := fun i hi => hD.lt L[i] (List.getElem_mem hi) _ (head_mem hne i hi)
  have key : ∀ x y, x < n → y < n → mutB M x y = true → ∀ i, i < L.length → (M ((L.getD i []).headD 0) x && !mutB M ((L.getD i []).headD 0) x) = true → (M ((L.getD i []).headD 0) y && !mutB M ((L.getD i []).headD 0) y) = true := by
    intro x y hx hy hm i hi h
    have hhi := hh i hi
    generalize (L.getD i []).headD 0 = h0 at *
    rw [Bool.and_eq_true, Bool.not_eq_true'] at h ⊢
    refine ⟨?_, ?_⟩
    · rcases (mutB_iff x y).1 hm with rfl | hb
      · exact h.1
      · unfold both at hb
        rw [Bool.and_eq_true] at hb
        exact ht _ _ _ hhi hx hy h.1 hb.1
    · cases hq : mutB M h0 y
      · rfl
      · have := mutB_trans ht hhi hy hx hq (by rw [mutB_symm]; exact hm)
        rw [this] at h; exact absurd h.2 (by simp)
  refine ⟨fun x y hx hy hm => ?_, fun x y hx hy he hm => ?_⟩
  · exact List.countP_mono_left fun i hi => key x y hx hy hm i (by simpa using hi)
  · obtain ⟨j, hj, hjx⟩ := hD.home x hx
    have hxj : x ∈ L[j] := (hjx j hj).2 rfl
    have hhj := head_mem hne j hj
    have hmj : mutB M ((L.getD j []).headD 0) x = true := (hD.muts _ (List.getElem_mem hj) _ hhj x hx).1 hxj
    have hMxy := hE x y hx hy he
    refine countP_lt _ _ _ (fun i hi h => ?_) ⟨j, by simpa using hj, ?_, ?_⟩
    · have hi' : i < L.length := by simpa using hi
      have hhi := hh i hi'
      generalize (L.getD i []).headD 0 = h0 at *
      rw [Bool.and_eq_true, Bool.not_eq_true'] at h ⊢
      refine ⟨ht _ _ _ hhi hx hy h.1 hMxy, ?_⟩
      cases hq : mutB M h0 y
      · rfl
      · exfalso
        rcases (mutB_iff h0 y).1 hq with rfl | hb
        · have : mutB M x h0 = true := (mutB_iff _ _).2 (.inr (by unfold both; rw [hMxy, h.1]; rfl))
          rw [this] at hm; cases hm
        · unfold both at hb
          rw [Bool.and_eq_true] at hb
          have hyx := ht _ _ _ hy hhi hx hb.2 h.1
          have : mutB M x y = true := (mutB_iff _ _).2 (.inr (by unfold both; rw [hMxy, hyx]; rfl))
          rw [this] at hm; cases hm
    · simp only [hmj]; simp
    · have hhn := hh j hj
      generalize (L.getD j []).headD 0 = h0 at *
      rw [Bool.and_eq_true, Bool.not_eq_true']
      refine ⟨?_, ?_⟩
      · rcases (mutB_iff h0 x).1 hmj with rfl | hb
        · exact hMxy
        · unfold both at hb
          rw [Bool.and_eq_true] at hb
          exact ht _ _ _ hhn hx hy hb.1 hMxy
      · cases hq : mutB M h0 y
        · rfl
        · have := mutB_trans ht hx hhn hy (by rw [mutB_symm]; exact hmj) hq
          rw [this] at hm; cases hm
theorem above_lt (hD : Divides n M L) (hne : ∀ l ∈ L, l ≠ []) (y : Nat) (hy : y < n) : above M L y + 1 ≤ L.length := by
  obtain ⟨j, hj, hjy⟩ := hD.home y hy
  have hmj : mutB M ((L.getD j []).headD 0) y = true := (hD.muts _ (List.getElem_mem hj) _ (head_mem hne j hj) y hy).1 ((hjy j hj).2 rfl)
  have := countP_lt (fun i => M ((L.getD i []).headD 0) y && !mutB M ((L.getD i []).headD 0) y) (fun _ => true) (List.range L.length) (fun _ _ _ => rfl) ⟨j, by simpa using hj, by simp only [hmj]; simp, rfl⟩
  simpa [above] using this
end

theorem warK_base (n : Nat) (E : Nat → Nat → Bool) (x y : Nat) (hx : x < n) (hy : y < n) (h : E x y = true) : ∀ k, warK n E k x y = true
  | 0 => h
  | k + 1 => by rw [warK_succ _ _ _ _ _ hx hy, warK_base n E x y hx hy h k]; rfl
theorem reach_edge (n : Int) (ps : List (List Int)) (x y : Nat) (hx : x < nn n) (hy : y < nn n) (h : edgeM (nn n) ps x y = true) : reachM n ps x y = true := warK_base _ _ x y hx hy h _
theorem edges_iff (k : Nat) (ps : List (List Int)) (a b : Nat) : [(a : Int), (b : Int)] ∈ edgesOf k ps ↔ edgeM k ps a b = true := by
  rw [edgeM_iff]
  simp only [edgesOf, List.mem_filter]
  constructor
  · intro h; exact ⟨_, h.1, h.2, rfl⟩
  · rintro ⟨p, h1, h2, rfl⟩; exact ⟨h1, h2⟩

/-- The least ranks. -/
structure Least (n : Nat) (M E : Nat → Nat → Bool) (f : Nat → Nat) : Prop where
  sol : Sol n M E f
  least : ∀ g, Sol n M E g → ∀ y, y < n → f y ≤ g y
theorem Least.eq {n : Nat} {M E : Nat → Nat → Bool} {f g : Nat → Nat} (hf : Least n M E f) (hg : Least n M E g) (y : Nat) (hy : y < n) : f y = g y :=
  Nat.le_antisymm (hf.least g hg.sol y hy) (hg.least f hf.sol y hy)
end Go.Proofs.Ytgiphneejidahaa
