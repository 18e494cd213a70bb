/- A further edge can only unite components. No program in sight. -/
import Derived.Test.YtgiphneejidahaaSpec5
namespace Go.Proofs.Ytgiphneejidahaa

theorem edgeM_mono (n : Nat) (ps qs : List (List Int)) (h : ∀ p ∈ ps, p ∈ qs) (x y : Nat) (he : edgeM n ps x y = true) : edgeM n qs x y = true := by
  rw [edgeM_iff] at he ⊢
  obtain ⟨p, hp, h1, h2⟩ := he
  exact ⟨p, h p hp, h1, h2⟩
theorem warK_mono (n : Nat) (E E' : Nat → Nat → Bool) (h : ∀ x y, E x y = true → E' x y = true) : ∀ k, k ≤ n → ∀ x y, x < n → y < n → warK n E k x y = true → warK n E' k x y = true
  | 0, _, x, y, _, _, hw => h x y hw
  | k + 1, hk, x, y, hx, hy, hw => by
    rw [warK_succ _ _ _ _ _ hx hy, Bool.or_eq_true, Bool.and_eq_true] at hw ⊢
    have ih := warK_mono n E E' h k (by omega)
    rcases hw with hw | ⟨h1, h2⟩
    · exact .inl (ih x y hx hy hw)
    · exact .inr ⟨ih x k hx (by omega) h1, ih k y (by omega) hy h2⟩
theorem reachM_mono (n : Int) (ps qs : List (List Int)) (h : ∀ p ∈ ps, p ∈ qs) (x y : Nat) (hx : x < nn n) (hy : y < nn n) (hr : reachM n ps x y = true) : reachM n qs x y = true :=
  warK_mono (nn n) _ _ (edgeM_mono _ ps qs h) (nn n) (Nat.le_refl _) x y hx hy hr
theorem mutB_mono {n : Nat} {M M' : Nat → Nat → Bool} (h : ∀ x y, x < n → y < n → M x y = true → M' x y = true) (x y : Nat) (hx : x < n) (hy : y < n) (hm : mutB M x y = true) : mutB M' x y = true := by
  rw [mutB_iff] at hm ⊢
  rcases hm with hm | hm
  · exact .inl hm
  · unfold both at hm ⊢
    rw [Bool.and_eq_true] at hm ⊢
    exact .inr ⟨h x y hx hy hm.1, h y x hy hx hm.2⟩

theorem nodup_le {α : Type} [BEq α] [LawfulBEq α] : ∀ (l m : List α), l.Nodup → (∀ x ∈ l, x ∈ m) → l.length ≤ m.length
  | [], _, _, _ => by simp
  | a :: t, m, hn, hs => by
    rw [List.nodup_cons] at hn
    have ha : a ∈ m := hs a (by simp)
    have := nodup_le t (m.erase a) hn.2 fun x hx => (List.mem_erase_of_ne (fun e : x = a => hn.1 (by rw [← e]; exact hx))).2 (hs x (by simp [hx]))
    rw [List.length_erase_of_mem ha] at this
    have : 0 < m.length := List.length_pos_of_mem ha
    simp only [List.length_cons]; omega
theorem pigeon (g : Nat → Nat) (m n : Nat) (h : ∀ j, j < m → ∃ i, i < n ∧ g i = j) : m ≤ n := by
  have := nodup_le (List.range m) ((List.range n).map g) List.nodup_range fun j hj => by
    obtain ⟨i, hi, e⟩ := h j (by simpa using hj)
    exact List.mem_map.2 ⟨i, by simpa using hi, e⟩
  simpa using this

section
variable {n : Nat} {M M' : Nat → Nat → Bool} {L L' : List (List Nat)}
/-- The list in which a node lies. -/
theorem Divides.home (h : Divides n M L) (v : Nat) (hv : v < n) : ∃ j, j < L.length ∧ ∀ i (hi : i < L.length), v ∈ L[i] ↔ i = j := by
  obtain ⟨l, hl, hvl⟩ := h.all v hv
  obtain ⟨j, hj, rfl⟩ := List.getElem_of_mem hl
  refine ⟨j, hj, fun i hi => ⟨fun hvi => ?_, fun e => by subst e; exact hvl⟩⟩
  have hp := List.pairwise_iff_getElem.1 h.apart
  rcases Nat.lt_trichotomy i j with hlt | he | hlt
  · exact absurd hvl (hp i j hi hj hlt v hvi)
  · exact he
  · exact absurd hvi (hp j i hj hi hlt v hvl)
theorem homes (h : Divides n M L) (h' : Divides n M' L') (hne : ∀ l ∈ L, l ≠ []) (hm : ∀ x y, x < n → y < n → mutB M x y = true → mutB M' x y = true) (i : Nat) (hi : i < L.length) :
    ∃ j, j < L'.length ∧ ∀ v ∈ L[i], ∀ k (hk : k < L'.length), v ∈ L'[k] ↔ k = j := by
  have hmem : L[i] ∈ L := List.getElem_mem hi
  obtain ⟨x, hx⟩ := List.exists_mem_of_ne_nil _ (hne _ hmem)
  have hxn := h.lt _ hmem x hx
  obtain ⟨j, hj, hjx⟩ := h'.home x hxn
  refine ⟨j, hj, fun v hv k hk => ?_⟩
  have hvn := h.lt _ hmem v hv
  have h1 := hm x v hxn hvn ((h.muts _ hmem x hx v hvn).1 hv)
  rw [← hjx k hk]
  have hL : L'[k] ∈ L' := List.getElem_mem hk
  constructor
  · intro hvk
    exact (h'.muts _ hL v hvk x hxn).2 (by rw [mutB_symm]; exact h1)
  · intro hxk
    exact (h'.muts _ hL x hxk v hvn).2 h1
theorem unite_le (h : Divides n M L) (h' : Divides n M' L') (hne : ∀ l ∈ L, l ≠ []) (hne' : ∀ l ∈ L', l ≠ []) (hm : ∀ x y, x < n → y < n → mutB M x y = true → mutB M' x y = true) : L'.length ≤ L.length := by
  have key : ∀ i, ∃ j, ∀ (hi : i < L.length), j < L'.length ∧ ∀ v ∈ L[i], ∀ k (hk : k < L'.length), v ∈ L'[k] ↔ k = j := fun i => by
    by_cases hi : i < L.length
    · obtain ⟨j, hj⟩ := homes h h' hne hm i hi
      exact ⟨j, fun _ => hj⟩
    · exact ⟨0, fun h => absurd h hi⟩
  refine pigeon (fun i => Classical.choose (key i)) _ _ fun j hj => ?_
  have hmem : L'[j] ∈ L' := List.getElem_mem hj
  obtain ⟨v, hv⟩ := List.exists_mem_of_ne_nil _ (hne' _ hmem)
  obtain ⟨i, hi, hvi⟩ := h.home v (h'.lt _ hmem v hv)
  refine ⟨i, hi, ?_⟩
  have := (Classical.choose_spec (key i) hi).2 v ((hvi i hi).2 rfl) j hj
  exact (this.1 hv).symm
theorem Divides.pos (h : Divides n M L) (hn : 0 < n) : 0 < L.length := by
  obtain ⟨j, hj, _⟩ := h.home 0 hn
  omega
end

/-- Where a node was found last, after the lists below j and m places of the list j. -/
def atM (h j : Nat) (l : List Nat) (m v : Nat) : Int := if h < j then (h : Int) else if v ∈ l.take m then (j : Int) else -1
theorem atM_zero (h j : Nat) (l : List Nat) (v : Nat) : atM h j l 0 v = if h < j then (h : Int) else -1 := by simp [atM]
theorem atM_succ (h j : Nat) (l : List Nat) (m v : Nat) (hm : m < l.length) (hv : v ∈ l → j = h) : atM h j l (m + 1) v = if l[m] = v then (j : Int) else atM h j l m v := by
  unfold atM
  rw [List.take_succ_eq_append_getElem hm]
  simp only [List.mem_append, List.mem_singleton]
  by_cases he : l[m] = v
  · have : j = h := hv (he ▸ List.getElem_mem hm)
    subst this; simp [he]
  · simp [he, Ne.symm he]
theorem atM_full (h j : Nat) (l : List Nat) (v : Nat) (hv : v ∈ l ↔ j = h) : atM h j l l.length v = if h < j + 1 then (h : Int) else -1 := by
  unfold atM
  rw [List.take_length]
  simp only [hv]
  by_cases h1 : h < j
  · rw [if_pos h1, if_pos (by omega)]
  · rw [if_neg h1]
    by_cases h2 : j = h
    · subst h2; simp
    · rw [if_neg h2, if_neg (by omega)]
end Go.Proofs.Ytgiphneejidahaa
