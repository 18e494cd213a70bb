/- What may be said anew of a state: entries forgotten, objects become immutable, a nil slice becomes an object of one's own; the rules by which walks are typed. No function of the program is mentioned here. -/
import Derived.Test.YtniilppjegieaaaGreatCan11
namespace Go.Can
open Go.RowKit

/-- Whatever is in the state s is in the state s'. -/
def Le (C : Cx) (s s' : St) : Prop := ∀ (a : Act) (w : World), Rel C s a w → Rel C s' a w
section
variable {C : Cx}
theorem Le.refl (s : St) : Le C s s := fun _ _ h => h
theorem Le.trans {s s' s'' : St} (h : Le C s s') (k : Le C s' s'') : Le C s s'' := fun a w hr => k a w (h a w hr)

/-! ### Forgetting -/
def pick {α : Type} (l : List (Nat × α)) : List Nat → List (Nat × α)
  | [] => []
  | t :: r => match assoc l t with
    | some c => (t, c) :: pick l r
    | none => pick l r
theorem assoc_pick {α : Type} (l : List (Nat × α)) : ∀ (ks : List Nat) (t : Nat) (c : α), assoc (pick l ks) t = some c → assoc l t = some c
  | [], _, _, h => by simp [pick, assoc] at h
  | k :: r, t, c, h => by
    simp only [pick] at h
    split at h
    · rename_i x hx
      simp only [assoc] at h
      split at h
      · rename_i e; subst e; cases h; exact hx
      · exact assoc_pick l r t c h
    · exact assoc_pick l r t c h

mutual
def refsLt (n : Nat) : CV → Bool
  | .iter o _ _ => decide (o < n)
  | .mp o _ => decide (o < n)
  | .osl o _ _ => decide (o < n)
  | .optr o _ => decide (o < n)
  | .agg cs => refsLts n cs
  | .fn _ cs => refsLts n cs
  | .iface _ cs => refsLts n cs
  | .tup cs => refsLts n cs
  | _ => true
def refsLts (n : Nat) : List CV → Bool
  | [] => true
  | c :: cs => refsLt n c && refsLts n cs
end
mutual
theorem refsLt_ok (n : Nat) : ∀ (c : CV) (o : Nat), refsLt n c = true → noRef o c = false → o < n
  | .osl p _ _, o, h, hr => by
    have : p = o := by simpa [noRef] using hr
    subst this; simpa [refsLt] using h
  | .optr p _, o, h, hr => by
    have : p = o := by simpa [noRef] using hr
    subst this; simpa [refsLt] using h
  | .agg cs, o, h, hr => refsLts_ok n cs o (by simpa [refsLt] using h) (by simpa [noRef] using hr)
  | .fn _ cs, o, h, hr => refsLts_ok n cs o (by simpa [refsLt] using h) (by simpa [noRef] using hr)
  | .iface _ cs, o, h, hr => refsLts_ok n cs o (by simpa [refsLt] using h) (by simpa [noRef] using hr)
  | .tup cs, o, h, hr => refsLts_ok n cs o (by simpa [refsLt] using h) (by simpa [noRef] using hr)
  | .int _ _, _, _, hr => by simp [noRef] at hr
  | .bool _, _, _, hr => by simp [noRef] at hr
  | .str _, _, _, hr => by simp [noRef] at hr
  | .tsl _ _, _, _, hr => by simp [noRef] at hr
  | .nilsl, _, _, hr => by simp [noRef] at hr
  | .tptr _, _, _, hr => by simp [noRef] at hr
  | .nilptr, _, _, hr => by simp [noRef] at hr
  | .nilfn, _, _, hr => by simp [noRef] at hr
  | .iter p _ _, o, h, hr => by
    simp only [noRef, bne_eq_false_iff_eq] at hr
    subst hr
    simpa [refsLt] using h
  | .mp p _, o, h, hr => by
    simp only [noRef, bne_eq_false_iff_eq] at hr
    subst hr
    simpa [refsLt] using h
theorem refsLts_ok (n : Nat) : ∀ (cs : List CV) (o : Nat), refsLts n cs = true → noRefs o cs = false → o < n
  | [], _, _, hr => by simp [noRefs] at hr
  | c :: cs, o, h, hr => by
    simp only [refsLts, Bool.and_eq_true] at h
    simp only [noRefs, Bool.and_eq_false_iff] at hr
    rcases hr with hr | hr
    · exact refsLt_ok n c o h.1 hr
    · exact refsLts_ok n cs o h.2 hr
end

/-- The slots ks, the objects os, and n as the next number. -/
def St.trim (s : St) (ks os : List Nat) (n : Nat) : St := ⟨pick s.env ks, pick s.heap os, n⟩
def trimOk (s : St) (ks os : List Nat) (n : Nat) : Bool :=
  (pick s.env ks).all (fun x => refsLt n x.2) && (pick s.heap os).all fun x => decide (x.1 < n) && refsLts n x.2.cells

theorem Le.trim {s : St} (ks os : List Nat) (n : Nat) (h : trimOk s ks os n = true) (hn0 : C.n0 ≤ n) : Le C s (s.trim ks os n) := by
  intro a w ⟨σ, hr⟩
  simp only [trimOk, Bool.and_eq_true] at h
  obtain ⟨h1, h2⟩ := h
  rw [List.all_eq_true] at h1 h2
  have hs : ∀ {o}, o < n → (if o < n then σ o else none) = σ o := fun {o} ho => by rw [if_pos ho]
  have hF : ∀ b, FB C (fun o => if o < n then σ o else none) (pick s.heap os) b → FB C σ s.heap b := by
    rintro b (hb | ⟨o, ob, ho, hb⟩)
    · exact .inl hb
    · have := h2 _ (assoc_mem _ _ _ ho)
      simp only [Bool.and_eq_true, decide_eq_true_eq] at this
      simp only [blkOf, hs this.1] at hb
      exact .inr ⟨o, ob, assoc_pick _ _ _ _ ho, hb⟩
  have hk : Keeps w w (FB C σ s.heap) (FB C (fun o => if o < n then σ o else none) (pick s.heap os)) := ⟨fun ad u hf hu => ⟨hu, fun h => hf (hF _ h)⟩, fun r _ hf hu _ => ⟨hu, fun h => hf (hF _ h)⟩⟩
  refine ⟨fun o => if o < n then σ o else none, hr.dfr, hr.tm, hr.os, hr.tape, hr.output, hr.size, hr.frame, ?_, ?_, ?_, ?_, fun o ho => by rw [hs (Nat.lt_of_lt_of_le ho hn0)]; exact hr.old o ho, hn0, fun o B b ho hB hb => ?_⟩
  · intro t c hc
    have hm := h1 _ (assoc_mem _ _ _ hc)
    obtain ⟨v, k1, k2⟩ := hr.env t c (assoc_pick _ _ _ _ hc)
    exact ⟨v, k1, VR.keep hk c v (fun o ho => hs (refsLt_ok n c o hm ho)) k2⟩
  · intro o ob ho
    have hm := h2 _ (assoc_mem _ _ _ ho)
    simp only [Bool.and_eq_true, decide_eq_true_eq] at hm
    obtain ⟨B, m1, m2, m3, m4, m5⟩ := hr.obj o ob (assoc_pick _ _ _ _ ho)
    refine ⟨B, by simp only [hs hm.1]; exact m1, m2, m3, m4, fun b hb => ?_⟩
    obtain ⟨cur, n1, n2, n3, n4, n5, n6⟩ := m5 b hb
    exact ⟨cur, n1, n2, n3, n4, n5, VRs.keep hk _ _ (fun p hp => hs (refsLts_ok n _ p hm.2 hp)) n6⟩
  · intro o o' ob ob' b ho ho' hb hb'
    have hm := h2 _ (assoc_mem _ _ _ ho)
    have hm' := h2 _ (assoc_mem _ _ _ ho')
    simp only [Bool.and_eq_true, decide_eq_true_eq] at hm hm'
    simp only [blkOf, hs hm.1] at hb
    simp only [blkOf, hs hm'.1] at hb'
    exact hr.inj o o' ob ob' b (assoc_pick _ _ _ _ ho) (assoc_pick _ _ _ _ ho') hb hb'
  · intro o ho
    simp only [St.trim] at ho
    rw [if_neg (by omega)]
  · split at hB
    · exact hr.new o B b ho hB hb
    · cases hB

/-- Slots forgotten, the heap as it is. -/
theorem Le.env {s : St} (ks : List Nat) : Le C s { s with env := pick s.env ks } := by
  intro a w ⟨σ, hr⟩
  exact ⟨σ, hr.dfr, hr.tm, hr.os, hr.tape, hr.output, hr.size, hr.frame, fun t c hc => hr.env t c (assoc_pick _ _ _ _ hc), hr.obj, hr.inj, hr.nx, hr.old, hr.low, hr.new⟩

/-! ### An object becomes immutable -/
mutual
def frzV (o : Nat) (cells : List CV) (sz : Nat) : CV → CV
  | .osl p off n => if p = o then .tsl ((cells.drop off).take (n * sz)) n else .osl p off n
  | .optr p off => if p = o then .tptr (cells.drop off) else .optr p off
  | .agg cs => .agg (frzVs o cells sz cs)
  | .fn f cs => .fn f (frzVs o cells sz cs)
  | .iface f cs => .iface f (frzVs o cells sz cs)
  | .tup cs => .tup (frzVs o cells sz cs)
  | .int k n => .int k n
  | .bool b => .bool b
  | .str b => .str b
  | .tsl cs n => .tsl cs n
  | .nilsl => .nilsl
  | .tptr cs => .tptr cs
  | .nilptr => .nilptr
  | .nilfn => .nilfn
  | .iter k s p => .iter k s p
  | .mp k es => .mp k es
  | .any => .any
def frzVs (o : Nat) (cells : List CV) (sz : Nat) : List CV → List CV
  | [] => []
  | c :: cs => frzV o cells sz c :: frzVs o cells sz cs
end
theorem frz_one {o : Nat} {cells : List CV} {sz : Nat} : ∀ c, one (frzV o cells sz c) = one c
  | .osl p off n => by simp only [frzV]; split <;> rfl
  | .optr p off => by simp only [frzV]; split <;> rfl
  | .agg _ => rfl
  | .fn _ _ => rfl
  | .iface _ _ => rfl
  | .tup _ => rfl
  | .int _ _ => rfl
  | .bool _ => rfl
  | .str _ => rfl
  | .tsl _ _ => rfl
  | .nilsl => rfl
  | .any => rfl
  | .tptr _ => rfl
  | .nilptr => rfl
  | .nilfn => rfl
  | .iter _ _ _ => rfl
  | .mp _ _ => rfl
theorem frz_ones {o : Nat} {cells : List CV} {sz : Nat} : ∀ cs : List CV, (frzVs o cells sz cs).all one = cs.all one
  | [] => rfl
  | c :: cs => by simp only [frzVs, List.all_cons, frz_one, frz_ones cs]
theorem frz_length {o : Nat} {cells : List CV} {sz : Nat} : ∀ cs : List CV, (frzVs o cells sz cs).length = cs.length
  | [] => rfl
  | c :: cs => by simp only [frzVs, List.length_cons, frz_length cs]

def frzE (o : Nat) (cells : List CV) (sz : Nat) : List (Nat × CV) → List (Nat × CV)
  | [] => []
  | (t, c) :: r => (t, frzV o cells sz c) :: frzE o cells sz r
def frzH (o : Nat) (cells : List CV) (sz : Nat) : List (Nat × Ob) → List (Nat × Ob)
  | [] => []
  | (p, x) :: r => if p = o then frzH o cells sz r else (p, { x with cells := frzVs o cells sz x.cells }) :: frzH o cells sz r
def St.frz (s : St) (o : Nat) (ob : Ob) : St := ⟨frzE o ob.cells ob.sz s.env, frzH o ob.cells ob.sz s.heap, s.nx⟩

theorem assoc_frzE {o : Nat} {cells : List CV} {sz : Nat} : ∀ (l : List (Nat × CV)) (t : Nat) (c : CV), assoc (frzE o cells sz l) t = some c → ∃ d, assoc l t = some d ∧ c = frzV o cells sz d
  | [], _, _, h => by simp [frzE, assoc] at h
  | (k, x) :: r, t, c, h => by
    simp only [frzE, assoc] at h ⊢
    split at h
    · rename_i e; rw [if_pos e]; cases h; exact ⟨x, rfl, rfl⟩
    · rename_i e; rw [if_neg e]; exact assoc_frzE r t c h
theorem assoc_frzH {o : Nat} {cells : List CV} {sz : Nat} : ∀ (l : List (Nat × Ob)) (p : Nat) (x : Ob), assoc (frzH o cells sz l) p = some x → p ≠ o ∧ ∃ y, assoc l p = some y ∧ x = { y with cells := frzVs o cells sz y.cells }
  | [], _, _, h => by simp [frzH, assoc] at h
  | (k, y) :: r, p, x, h => by
    simp only [frzH] at h
    split at h
    · rename_i hk
      obtain ⟨h1, z, h2, h3⟩ := assoc_frzH r p x h
      refine ⟨h1, z, ?_, h3⟩
      simp only [assoc]
      rw [if_neg (fun e => h1 (by rw [← e, hk]))]; exact h2
    · rename_i hk
      simp only [assoc] at h
      split at h
      · rename_i e
        cases h
        subst e
        exact ⟨hk, y, by simp [assoc], rfl⟩
      · rename_i e
        obtain ⟨h1, z, h2, h3⟩ := assoc_frzH r p x h
        exact ⟨h1, z, by simp only [assoc]; rw [if_neg e]; exact h2, h3⟩

section
variable {w : World} {F F' : Nat → Prop} {σ : Nat → Option OB} {o sz : Nat} {cells : List CV} {B : OB}
mutual
theorem frzV_ok (hk : Keeps w w F F') (hB : σ o = some B) (hsz : B.sz = sz) (hm : ∀ b, B.blk = some b → ∀ k, MRt w F' (cells.drop k) ⟨b, k, none⟩) : ∀ (c : CV) (v : Value), VR w F σ c v → VR w F' σ (frzV o cells sz c) v
  | .osl p off n, v, hv => by
    simp only [frzV]
    split
    · rename_i e; subst e
      simp only [VR] at hv
      obtain ⟨B', hB', hv⟩ := hv
      rw [hB] at hB'; cases hB'
      split at hv
      · obtain ⟨rfl, rfl, rfl⟩ := hv
        simp only [VR, VRt]
        exact ⟨none, 0, rfl, Nat.le_refl _, Nat.zero_le _, .inl ⟨trivial, by simp⟩⟩
      · rename_i b hb
        obtain ⟨cap, rfl, h1, h2, _⟩ := hv
        simp only [VR, VRt]
        exact ⟨_, cap, rfl, h1, h2, .inr ⟨_, rfl, MRt.take _ _ _ (hm b hb off)⟩⟩
    · exact VR.keep hk _ _ (fun _ _ => rfl) hv
  | .optr p off, v, hv => by
    simp only [frzV]
    split
    · rename_i e; subst e
      simp only [VR] at hv
      obtain ⟨B', b, hB', hb, rfl⟩ := hv
      rw [hB] at hB'; cases hB'
      simp only [VR, VRt]
      exact ⟨_, rfl, hm b hb off⟩
    · exact VR.keep hk _ _ (fun _ _ => rfl) hv
  | .agg cs, v, hv => by
    simp only [frzV, VR] at hv ⊢
    obtain ⟨vs, e, r, h1⟩ := hv
    exact ⟨vs, e, frzVs_ok hk hB hsz hm cs vs r, by rw [frz_ones]; exact h1⟩
  | .fn f cs, v, hv => by
    simp only [frzV, VR] at hv ⊢
    obtain ⟨vs, e, r⟩ := hv
    exact ⟨vs, e, frzVs_ok hk hB hsz hm cs vs r⟩
  | .iface f cs, v, hv => by
    simp only [frzV, VR] at hv ⊢
    obtain ⟨vs, e, r⟩ := hv
    exact ⟨vs, e, frzVs_ok hk hB hsz hm cs vs r⟩
  | .tup cs, v, hv => by
    simp only [frzV, VR] at hv ⊢
    obtain ⟨vs, e, r⟩ := hv
    exact ⟨vs, e, frzVs_ok hk hB hsz hm cs vs r⟩
  | .int k n, v, hv => by simp only [frzV]; exact VR.keep hk _ _ (fun _ _ => rfl) hv
  | .bool b, v, hv => by simp only [frzV]; exact VR.keep hk _ _ (fun _ _ => rfl) hv
  | .str b, v, hv => by simp only [frzV]; exact VR.keep hk _ _ (fun _ _ => rfl) hv
  | .tsl cs n, v, hv => by simp only [frzV]; exact VR.keep hk _ _ (fun _ _ => rfl) hv
  | .nilsl, v, hv => by simp only [frzV]; exact VR.keep hk _ _ (fun _ _ => rfl) hv
  | .tptr cs, v, hv => by simp only [frzV]; exact VR.keep hk _ _ (fun _ _ => rfl) hv
  | .nilptr, v, hv => by simp only [frzV]; exact VR.keep hk _ _ (fun _ _ => rfl) hv
  | .nilfn, v, hv => by simp only [frzV]; exact VR.keep hk _ _ (fun _ _ => rfl) hv
  | .iter _ _ _, v, hv => by simp only [frzV]; exact VR.keep hk _ _ (fun _ _ => rfl) hv
  | .mp _ _, v, hv => by simp only [frzV]; exact VR.keep hk _ _ (fun _ _ => rfl) hv
  | .any, v, hv => by simpa [frzV, VR] using hv
theorem frzVs_ok (hk : Keeps w w F F') (hB : σ o = some B) (hsz : B.sz = sz) (hm : ∀ b, B.blk = some b → ∀ k, MRt w F' (cells.drop k) ⟨b, k, none⟩) : ∀ (cs : List CV) (vs : List Value), VRs w F σ cs vs → VRs w F' σ (frzVs o cells sz cs) vs
  | [], _, hv => by simpa [frzVs, VRs] using hv
  | c :: cs, vs, hv => by
    simp only [frzVs, VRs] at hv ⊢
    obtain ⟨v, r, e, h1, h2⟩ := hv
    exact ⟨v, r, e, frzV_ok hk hB hsz hm c v h1, frzVs_ok hk hB hsz hm cs r h2⟩
end
end

theorem RelAt.frz {C : Cx} {σ : Nat → Option OB} {a : Act} {w : World} {s : St} (hr : RelAt C σ s a w) {o : Nat} {ob : Ob} (ho : assoc s.heap o = some ob) (ht : trees ob.cells = true) : RelAt C σ (s.frz o ob) a w := by
  obtain ⟨B, hB, hsz, hn, h1, h5⟩ := hr.obj o ob ho
  have hF : ∀ b, FB C σ (frzH o ob.cells ob.sz s.heap) b → FB C σ s.heap b := by
    rintro b (hb | ⟨p, x, hp, hb⟩)
    · exact .inl hb
    · obtain ⟨_, y, hy, _⟩ := assoc_frzH _ _ _ hp
      exact .inr ⟨p, y, hy, hb⟩
  have hk : Keeps w w (FB C σ s.heap) (FB C σ (frzH o ob.cells ob.sz s.heap)) := ⟨fun ad u hf hu => ⟨hu, fun h => hf (hF _ h)⟩, fun r _ hf hu _ => ⟨hu, fun h => hf (hF _ h)⟩⟩
  have hm : ∀ b, B.blk = some b → ∀ k, MRt w (FB C σ (frzH o ob.cells ob.sz s.heap)) (ob.cells.drop k) ⟨b, k, none⟩ := fun b hb k => by
    obtain ⟨cur, k1, k2, k3, k4, k5, k6⟩ := h5 b hb
    have hnb : ¬ FB C σ (frzH o ob.cells ob.sz s.heap) b := by
      rintro (hf | ⟨p, x, hp, hbp⟩)
      · exact k3 hf
      · obtain ⟨hne, y, hy, _⟩ := assoc_frzH _ _ _ hp
        exact hne (hr.inj p o y ob b hy ho hbp (by simp [blkOf, hB, hb]))
    have h2 : MRt w (FB C σ (frzH o ob.cells ob.sz s.heap)) ob.cells ⟨b, 0, none⟩ := MRt_of_cells _ _ _ (VRts.keep hk.1 _ _ (VRs.to_tree _ _ ht k6)) h1 hnb fun j u hu => by
      rw [add_lit, Nat.zero_add, cell_of_row w b j cur _ _ k1]
      rw [List.getElem?_take] at hu
      split at hu
      · simpa using hu
      · cases hu
    have := h2.drop k
    rwa [add_lit, Nat.zero_add] at this
  refine ⟨hr.dfr, hr.tm, hr.os, hr.tape, hr.output, hr.size, hr.frame, ?_, ?_, ?_, hr.nx, hr.old, hr.low, hr.new⟩
  · intro t c hc
    obtain ⟨d, hd, rfl⟩ := assoc_frzE _ _ _ hc
    obtain ⟨v, k1, k2⟩ := hr.env t d hd
    exact ⟨v, k1, frzV_ok hk hB hsz hm d v k2⟩
  · intro p x hp
    obtain ⟨hne, y, hy, rfl⟩ := assoc_frzH _ _ _ hp
    obtain ⟨B', m1, m2, m3, m4, m5⟩ := hr.obj p y hy
    refine ⟨B', m1, m2, fun hn => ?_, by rw [frz_ones]; exact m4, fun b hb => ?_⟩
    · rw [m3 hn]; rfl
    · obtain ⟨cur, n1, n2, n3, n4, n5, n6⟩ := m5 b hb
      refine ⟨cur, n1, n2, n3, n4, by rw [frz_length]; exact n5, ?_⟩
      rw [frz_length]
      exact frzVs_ok hk hB hsz hm _ _ n6
  · intro p q x y b hp hq hb hb'
    obtain ⟨_, x', hx, _⟩ := assoc_frzH _ _ _ hp
    obtain ⟨_, y', hy, _⟩ := assoc_frzH _ _ _ hq
    exact hr.inj p q x' y' b hx hy hb hb'
theorem Le.frz {s : St} {o : Nat} {ob : Ob} (ho : assoc s.heap o = some ob) (ht : trees ob.cells = true) : Le C s (s.frz o ob) := fun _ _ ⟨σ, hr⟩ => ⟨σ, hr.frz ho ht⟩

/-! ### A nil slice becomes an object of one's own, with no cells -/
def St.own (s : St) (t : Nat) (e : TypeId) (sz : Nat) : St := { env := upd s.env t (.osl s.nx 0 0), heap := (s.nx, ⟨e, sz, []⟩) :: s.heap, nx := s.nx + 1 }
theorem Le.own {s : St} (t : Nat) (e : TypeId) (sz : Nat) (ht : assoc s.env t = some .nilsl) : Le C s (s.own t e sz) := by
  intro a w ⟨σ, hr⟩
  obtain ⟨h1, h2⟩ := hr.fresh (World.grownBy.refl w none) (ob := ⟨e, sz, []⟩) (B := ⟨none, 0, sz⟩) rfl rfl (fun _ => rfl) (fun b hb => by cases hb)
  refine ⟨_, h1.dfr, h1.tm, h1.os, h1.tape, h1.output, h1.size, h1.frame, ?_, h1.obj, h1.inj, h1.nx, h1.old, h1.low, h1.new⟩
  intro u c hc
  simp only [St.own] at hc
  rw [assoc_upd] at hc
  split at hc
  · rename_i eu; subst eu
    rw [ht] at hc
    simp only [Option.map_some, Option.some.injEq] at hc
    subst hc
    obtain ⟨v, k1, k2⟩ := hr.env t _ ht
    simp only [VR] at k2
    subst k2
    refine ⟨_, k1, ?_⟩
    simp only [VR]
    exact ⟨_, sig_same, by simp⟩
  · exact h1.env u c hc

/-! ### The rules, up to what may be said anew -/
section
variable {P : Program} {C : Cx} {s : St} {ops : Array Oper} {tab : List (Nat × TI)}

theorem T.le {s' : St} {c : Code} {Q : Exit → St → Prop} (h : Le C s s') (ht : T P C c s' Q) : T P C c s Q := fun a w hr => ht a w (h a w hr)
theorem T.post {c : Code} {Q Q' : Exit → St → Prop} (h : T P C c s Q') (hq : ∀ e s', Q' e s' → ∃ s'', Q e s'' ∧ Le C s' s'') : T P C c s Q := fun a w hr =>
  wp_mono (h a w hr) fun e a' w' ⟨s', q, r⟩ => by
    obtain ⟨s'', q', l⟩ := hq e s' q
    exact ⟨s'', q', l a' w' r⟩
theorem TL.le {s' : St} {l : List Oper} {K : St → Prop} (h : Le C s s') (ht : TL P C ops l s' K) : TL P C ops l s K := fun a w Q hr hQ => ht a w Q (h a w hr) hQ

/-- I n, up to what may be said anew. -/
def upTo (C : Cx) (I : St → Prop) (s : St) : Prop := ∃ s', I s' ∧ Le C s s'

theorem T.loopLe {c : Code} {Q : Exit → St → Prop} (I : Nat → St → Prop) {n : Nat} (h₀ : upTo C (I n) s) (round : ∀ n s, I n s → T P C c s (thenS (fun s' => ∃ m, m < n ∧ upTo C (I m) s') Q)) : T P C (.loop c) s Q := by
  obtain ⟨s', h0, l0⟩ := h₀
  refine T.le l0 (T.loop I h0 fun n s hi => T.post (round n s hi) fun e s' q => ?_)
  cases e with
  | normal =>
    obtain ⟨m, hm, s'', hi, hl⟩ := q
    exact ⟨s'', ⟨m, hm, hi⟩, hl⟩
  | _ => exact ⟨s', q, Le.refl _⟩

/-- The results, up to what may be said anew. -/
def doneLe (C : Cx) (tab : List (Nat × TI)) (f : Func) (r : CV) : Exit → St → Prop
  | .normal, s => upTo C (fun s => cresults tab f s = some r) s
  | .ret, s => upTo C (fun s => cresults tab f s = some r) s
  | _, _ => False
theorem PureCall.of_TLe (ht0 : TabOk P tab) {f : FuncId} {fn : Func} {c : Code} {args : List CV} {r : CV} (hf : P.funcs[f]? = some fn) (hb : fn.body = some c) (hn : (fn.name == "runtime.NumGoroutine") = false)
    (ha : args.length ≤ fn.ntmps) (ht : tree r = true) (h : ∀ C : Cx, C.nt = fn.ntmps → C.n0 = 0 → T P C c (enter args) (doneLe C tab fn r)) : PureCall P f args r :=
  PureCall.of_T ht0 hf hb hn ha ht fun C hC hC0 => T.post (h C hC hC0) fun e s' q => by
    cases e with
    | normal => exact q
    | ret => exact q
    | _ => exact q.elim

/-! ### Running till a call -/
def isCall (o : Oper) : Bool := match o.op with
  | .call c => match c.callee with
    | .builtin _ => false
    | _ => true
  | _ => false
/-- Is the guard met? -/
def guardS (ops : Array Oper) (s : St) (o : Oper) : Option Bool := match o.guard with
  | none => some true
  | some (j, want) => match (ops[j]?).bind (·.dst) with
    | none => none
    | some t => guardV (assoc s.env t) want
def goL (tab : List (Nat × TI)) (nt : Nat) (ops : Array Oper) (K : List Oper → St → Prop) : List Oper → St → Prop
  | [], s => K [] s
  | o :: r, s => if isCall o then
      match guardS ops s o with
      | some false => okS (goL tab nt ops K r) (gstep tab nt ops s o)
      | _ => K (o :: r) s
    else okS (goL tab nt ops K r) (gstep tab nt ops s o)

theorem goL_ok (ht : TabOk P tab) {K : St → Prop} : ∀ (l : List Oper) (s : St), goL tab C.nt ops (fun r s' => TL P C ops r s' K) l s → TL P C ops l s K
  | [], _, h => h
  | o :: r, s, h => by
    have fin : okS (goL tab C.nt ops (fun r s' => TL P C ops r s' K) r) (gstep tab C.nt ops s o) → TL P C ops (o :: r) s K := fun h => by
      cases hs : gstep tab C.nt ops s o with
      | none => rw [hs] at h; exact h.elim
      | some s' => rw [hs] at h; exact TL.step ht hs (goL_ok ht r s' h)
    unfold goL at h
    split at h
    · split at h
      · exact fin h
      · exact h
    · exact fin h
theorem TL.runs (ht : TabOk P tab) {K : St → Prop} {l : List Oper} (h : ∀ K' : List Oper → St → Prop, (∀ r s', TL P C ops r s' K → K' r s') → goL tab C.nt ops K' l s) : TL P C ops l s K :=
  goL_ok ht l s (h _ fun _ _ h => h)

theorem guardV_true {e : Option CV} {want : Bool} (h : guardV e want = some true) : e = some (.bool want) := by
  unfold guardV at h
  split at h
  · rename_i b
    simp only [Option.some.injEq, beq_iff_eq] at h; subst h; rfl
  · cases h
  · cases h
def hstep (tab : List (Nat × TI)) (nt : Nat) (ops : Array Oper) (s : St) (o : Oper) : Option St :=
  if dstOk nt o.dst then
    match o.guard with
    | none => (qval tab s o.op).map (s.put o.dst)
    | some (j, want) => match (ops[j]?).bind (·.dst) with
      | none => none
      | some t => match guardV (assoc s.env t) want with
        | some true => (qval tab s o.op).map (s.put o.dst)
        | some false => some (s.put o.dst (.tup []))
        | none => none
  else none

theorem hstep_ok {nt : Nat} {o : Oper} {s' : St} (h : hstep tab nt ops s o = some s') : ∃ r, QStep P tab nt ops s o r ∧ putR s o.dst r = s' := by
  unfold hstep at h
  split at h
  · rename_i hd
    split at h
    · rename_i hg
      obtain ⟨c, hc, rfl⟩ := Option.map_eq_some_iff.1 h
      exact ⟨some c, ⟨hd, .inr ⟨.inl hg, c, rfl, .inl hc⟩⟩, rfl⟩
    · rename_i j want hg
      split at h
      · cases h
      rename_i t hj
      split at h
      · rename_i hb
        obtain ⟨c, hc, rfl⟩ := Option.map_eq_some_iff.1 h
        exact ⟨some c, ⟨hd, .inr ⟨.inr ⟨j, want, t, hg, hj, guardV_true hb⟩, c, rfl, .inl hc⟩⟩, rfl⟩
      · rename_i hb
        cases h
        exact ⟨some (.tup []), ⟨hd, .inl ⟨j, want, t, hg, hj, hb, rfl⟩⟩, rfl⟩
      · cases h
  · cases h

def goH (tab : List (Nat × TI)) (nt : Nat) (ops : Array Oper) (K : List Nat → St → Prop) : List Nat → St → Prop
  | [], s => K [] s
  | i :: r, s => match ops[i]? with
    | none => False
    | some o => if isCall o then
        match guardS ops s o with
        | some false => okS (goH tab nt ops K r) (hstep tab nt ops s o)
        | _ => K (i :: r) s
      else okS (goH tab nt ops K r) (hstep tab nt ops s o)
theorem goH_ok {nt : Nat} {K : St → Prop} : ∀ (l : List Nat) (s : St), goH tab nt ops (fun r s' => TH P tab nt ops r s' K) l s → TH P tab nt ops l s K
  | [], _, h => h
  | i :: r, s, h => by
    unfold goH at h
    split at h
    · exact h.elim
    rename_i o ho
    have fin : okS (goH tab nt ops (fun r s' => TH P tab nt ops r s' K) r) (hstep tab nt ops s o) → TH P tab nt ops (i :: r) s K := fun h => by
      cases hs : hstep tab nt ops s o with
      | none => rw [hs] at h; exact h.elim
      | some s' =>
        rw [hs] at h
        obtain ⟨x, k1, k2⟩ := hstep_ok (P := P) hs
        exact ⟨o, x, ho, k1, by rw [k2]; exact goH_ok r s' h⟩
    split at h
    · split at h
      · exact fin h
      · exact h
    · exact fin h
theorem TH.runs {nt : Nat} {K : St → Prop} {l : List Nat} (h : ∀ K' : List Nat → St → Prop, (∀ r s', TH P tab nt ops r s' K → K' r s') → goH tab nt ops K' l s) : TH P tab nt ops l s K :=
  goH_ok l s (h _ fun _ _ h => h)
theorem TH.call {nt : Nat} {K : St → Prop} {i : Nat} {r : List Nat} {o : Oper} {c : Call} {x : CV} (hi : ops[i]? = some o) (hd : dstOk nt o.dst = true) (hg : guardS ops s o = some true) (ho : o.op = .call c) (hc : CallQ P s c x) (h : TH P tab nt ops r (s.put o.dst x) K) :
    TH P tab nt ops (i :: r) s K := by
  refine ⟨o, some x, hi, ⟨hd, .inr ⟨?_, x, rfl, .inr ⟨c, ho, hc⟩⟩⟩, h⟩
  unfold guardS at hg
  split at hg
  · rename_i e; exact .inl e
  · rename_i j want e
    split at hg
    · cases hg
    rename_i t hj
    exact .inr ⟨j, want, t, e, hj, guardV_true hg⟩
end
end
end Go.Can
