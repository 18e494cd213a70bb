/- Stores, new blocks and appends: how the relation is carried over them. No function of the program is mentioned here. -/
import Derived.Test.YtniilppjegieaaaGreatCan5
import Derived.Maps.AppendAt
namespace Go.Can
open Go.RowKit

section
variable {P : Program} {C : Cx} {σ : Nat → Option OB} {s : St} {a : Act} {w : World}

theorem FB_upd (H : List (Nat × Ob)) (o : Nat) (x : Ob) : FB C σ (upd H o x) = FB C σ H := by
  funext b
  apply propext
  unfold FB
  constructor
  · rintro (h | ⟨p, ob, h, hb⟩)
    · exact .inl h
    · rw [assoc_upd] at h
      split at h
      · rename_i e; subst e
        obtain ⟨y, hy, _⟩ := Option.map_eq_some_iff.1 h
        exact .inr ⟨o, y, hy, hb⟩
      · exact .inr ⟨p, ob, h, hb⟩
  · rintro (h | ⟨p, ob, h, hb⟩)
    · exact .inl h
    · by_cases e : o = p
      · subst e; exact .inr ⟨o, x, by rw [assoc_upd, if_pos rfl, h]; rfl, hb⟩
      · exact .inr ⟨p, ob, by rw [assoc_upd, if_neg e]; exact h, hb⟩

theorem keeps_row {F : Nat → Prop} {b : Nat} {cs : Array Value} (hb : F b) : Keeps w (w.setRow b cs) F F :=
  ⟨fun ad u hf hu => ⟨by rw [World.cell?_of_block (w := w) (setRow_other w b ad.block cs (fun e => hf (e ▸ hb)))]; exact hu, hf⟩,
   fun r _ hf hu _ => ⟨by rw [setRow_other w b r cs (fun e => hf (e ▸ hb))]; exact hu, hf⟩⟩
theorem keeps_alloc {F F' : Nat → Prop} (hF : ∀ b, F' b → F b ∨ w.heap.size ≤ b) (o : Obj) : Keeps w (w.alloc o) F F' := by
  refine ⟨fun ad u hf hu => ?_, fun r _ hf hu _ => ?_⟩
  · have hlt := World.block_lt_of_cell? w ad hu
    refine ⟨by rw [World.cell?_alloc_lt w o ad hlt]; exact hu, fun h => ?_⟩
    rcases hF _ h with h | h
    · exact hf h
    · omega
  · have hlt := (Array.getElem?_eq_some_iff.1 hu).1
    refine ⟨by rw [heap_alloc_old w o r hlt]; exact hu, fun h => ?_⟩
    rcases hF _ h with h | h
    · exact hf h
    · omega
theorem keeps_drew {F : Nat → Prop} : Keeps w w.drew F F := ⟨fun _ _ hf hu => ⟨hu, hf⟩, fun _ _ hf hu _ => ⟨hu, hf⟩⟩
theorem keeps_grown {w' : World} {row : Option Nat} {F F' : Nat → Prop} (hg : w.grownBy w' row) (hr : ∀ b, row = some b → F b) (hF : ∀ b, F' b → F b ∨ w.heap.size ≤ b) : Keeps w w' F F' := by
  refine ⟨fun ad u hf hu => ?_, fun r _ hf hu _ => ?_⟩
  · have hlt := World.block_lt_of_cell? w ad hu
    refine ⟨by rw [World.cell?_of_block (w := w) (hg.block ad.block hlt (fun e => hf (hr _ e.symm)))]; exact hu, fun h => ?_⟩
    rcases hF _ h with h | h
    · exact hf h
    · omega
  · have hlt := (Array.getElem?_eq_some_iff.1 hu).1
    refine ⟨by rw [hg.block r hlt (fun e => hf (hr _ e.symm))]; exact hu, fun h => ?_⟩
    rcases hF _ h with h | h
    · exact hf h
    · omega

mutual
theorem VR.refs {F : Nat → Prop} : ∀ (c : CV) (v : Value) (o : Nat), VR w F σ c v → noRef o c = false → ∃ B, σ o = some B
  | .int _ _, _, _, _, h => by simp [noRef] at h
  | .bool _, _, _, _, h => by simp [noRef] at h
  | .str _, _, _, _, h => by simp [noRef] at h
  | .nilsl, _, _, _, h => by simp [noRef] at h
  | .nilptr, _, _, _, h => by simp [noRef] at h
  | .nilfn, _, _, _, h => by simp [noRef] at h
  | .iter p _ _, v, o, hv, h => by
    simp only [noRef, bne_eq_false_iff_eq] at h
    subst h
    simp only [VR] at hv
    obtain ⟨B, r, hB, _⟩ := hv
    exact ⟨B, hB⟩
  | .mp p _, v, o, hv, h => by
    simp only [noRef, bne_eq_false_iff_eq] at h
    subst h
    simp only [VR] at hv
    obtain ⟨B, r, arr, clock, hB, _⟩ := hv
    exact ⟨B, hB⟩
  | .tsl _ _, _, _, _, h => by simp [noRef] at h
  | .tptr _, _, _, _, h => by simp [noRef] at h
  | .agg cs, v, o, hv, h => by
    simp only [VR] at hv
    obtain ⟨vs, _, r, _⟩ := hv
    exact VRs.refs cs vs o r (by simpa [noRef] using h)
  | .fn _ cs, v, o, hv, h => by
    simp only [VR] at hv
    obtain ⟨vs, _, r⟩ := hv
    exact VRs.refs cs vs o r (by simpa [noRef] using h)
  | .iface _ cs, v, o, hv, h => by
    simp only [VR] at hv
    obtain ⟨vs, _, r⟩ := hv
    exact VRs.refs cs vs o r (by simpa [noRef] using h)
  | .tup cs, v, o, hv, h => by
    simp only [VR] at hv
    obtain ⟨vs, _, r⟩ := hv
    exact VRs.refs cs vs o r (by simpa [noRef] using h)
  | .osl p _ _, v, o, hv, h => by
    simp only [VR] at hv
    obtain ⟨B, hB, _⟩ := hv
    have : p = o := by simpa [noRef] using h
    subst this; exact ⟨B, hB⟩
  | .optr p _, v, o, hv, h => by
    simp only [VR] at hv
    obtain ⟨B, b, hB, _⟩ := hv
    have : p = o := by simpa [noRef] using h
    subst this; exact ⟨B, hB⟩
theorem VRs.refs {F : Nat → Prop} : ∀ (cs : List CV) (vs : List Value) (o : Nat), VRs w F σ cs vs → noRefs o cs = false → ∃ B, σ o = some B
  | [], _, _, _, h => by simp [noRefs] at h
  | c :: cs, vs, o, hv, h => by
    simp only [VRs] at hv
    obtain ⟨v, r, _, h1, h2⟩ := hv
    simp only [noRefs, Bool.and_eq_false_iff] at h
    rcases h with h | h
    · exact VR.refs c v o h1 h
    · exact VRs.refs cs r o h2 h
end

/-- The world after a store into an object's row. -/
theorem RelAt.write (h : RelAt C σ s a w) {o : Nat} {ob : Ob} {B : OB} {b : Nat} (ho : assoc s.heap o = some ob) (hB : σ o = some B) (hb : B.blk = some b) {cs' : List CV} {us' : List Value}
    (hl : us'.length = B.room) (hl' : cs'.length ≤ us'.length) (hr : VRs w (FB C σ s.heap) σ cs' (us'.take cs'.length)) (h1 : cs'.all one = true) :
    RelAt C σ { s with heap := upd s.heap o { ob with cells := cs' } } a (w.setRow b us'.toArray) := by
  obtain ⟨B', e1, e2, e3, _, e5⟩ := h.obj o ob ho
  rw [hB] at e1; cases e1
  obtain ⟨cur, k1, k2, k3, k4, k5, k6⟩ := e5 b hb
  have hFb : FB C σ s.heap b := .inr ⟨o, ob, ho, by simp [blkOf, hB, hb]⟩
  have hk : Keeps w (w.setRow b us'.toArray) (FB C σ s.heap) (FB C σ s.heap) := keeps_row hFb
  refine ⟨h.dfr, h.tm, h.os, h.tape, h.output, by rw [size_setRow]; exact h.size, ?_, ?_, ?_, ?_, h.nx, h.old, h.low, h.new⟩
  · intro b' hb' hown
    rw [setRow_other w b b' _ (fun e => ?_)]
    · exact h.frame b' hb' hown
    · subst e
      rcases k4 with k4 | k4
      · exact hown k4
      · omega
  · intro t c hc
    obtain ⟨v, h1, h2⟩ := h.env t c hc
    simp only [FB_upd]
    exact ⟨v, h1, VR.keep hk c v (fun _ _ => rfl) h2⟩
  · intro o' ob' ho'
    rw [assoc_upd] at ho'
    split at ho'
    · rename_i e; subst e
      rw [ho] at ho'
      cases ho'
      refine ⟨B, hB, e2, (fun hn => by rw [hb] at hn; cases hn), h1, fun b' hb' => ?_⟩
      rw [hb] at hb'; cases hb'
      refine ⟨us'.toArray, setRow_heap w b cur _ _ _ k1, by simpa using hl, k3, k4, by simpa using hl', ?_⟩
      simp only [FB_upd]
      exact VRs.keep hk _ _ (fun _ _ => rfl) (by simpa using hr)
    · rename_i e
      obtain ⟨B', m1, m2, m3, m4, m5⟩ := h.obj o' ob' ho'
      refine ⟨B', m1, m2, m3, m4, fun b' hb' => ?_⟩
      obtain ⟨cur', n1, n2, n3, n4, n5, n6⟩ := m5 b' hb'
      have hne : b' ≠ b := fun eb => e (h.inj o o' ob ob' b ho ho' (by simp [blkOf, hB, hb]) (by simp [blkOf, m1, hb', eb]))
      refine ⟨cur', by rw [setRow_other w b b' _ hne]; exact n1, n2, n3, n4, n5, ?_⟩
      simp only [FB_upd]
      exact VRs.keep hk _ _ (fun _ _ => rfl) n6
  · intro o1 o2 ob1 ob2 b' h1 h2 h3 h4
    have : ∀ {p : Nat} {x y : Ob}, assoc (upd s.heap o x) p = some y → ∃ z, assoc s.heap p = some z := fun {p x y} hp => by
      rw [assoc_upd] at hp
      split at hp
      · rename_i e; subst e
        obtain ⟨z, hz, _⟩ := Option.map_eq_some_iff.1 hp
        exact ⟨z, hz⟩
      · exact ⟨_, hp⟩
    obtain ⟨z1, hz1⟩ := this h1
    obtain ⟨z2, hz2⟩ := this h2
    exact h.inj o1 o2 z1 z2 b' hz1 hz2 h3 h4

/-- The places after a new object. -/
def sig (σ : Nat → Option OB) (o : Nat) (B : OB) : Nat → Option OB := fun p => if p = o then some B else σ p

theorem sig_ref {F : Nat → Prop} {c : CV} {v : Value} {o : Nat} {B : OB} (hn : σ o = none) (h : VR w F σ c v) : ∀ p, noRef p c = false → sig σ o B p = σ p := fun p hp => by
  obtain ⟨B', hB'⟩ := VR.refs c v p h hp
  unfold sig
  split
  · rename_i e; subst e; rw [hn] at hB'; cases hB'
  · rfl
theorem sig_refs {F : Nat → Prop} {cs : List CV} {vs : List Value} {o : Nat} {B : OB} (hn : σ o = none) (h : VRs w F σ cs vs) : ∀ p, noRefs p cs = false → sig σ o B p = σ p := fun p hp => by
  obtain ⟨B', hB'⟩ := VRs.refs cs vs p h hp
  unfold sig
  split
  · rename_i e; subst e; rw [hn] at hB'; cases hB'
  · rfl

/-- A new object by the number m, in a world that has grown by its block at most. -/
theorem RelAt.freshAt (h : RelAt C σ s a w) {m nx' : Nat} (hn : σ m = none) (hm0 : C.n0 ≤ m) (hmx : m < nx') (hxx : s.nx ≤ nx') {w' : World} (hg : w.grownBy w' none) {ob : Ob} {B : OB} (hsz : B.sz = ob.sz) (h1 : ob.cells.all one = true) (hnone : B.blk = none → ob.cells = [])
    (hsome : ∀ b, B.blk = some b → w.heap.size ≤ b ∧ ∃ cur : Array Value, w'.heap[b]? = some (.cells cur ob.elem (0, 0)) ∧ cur.size = B.room ∧ ob.cells.length ≤ cur.size ∧ VRs w (FB C σ s.heap) σ ob.cells (cur.toList.take ob.cells.length)) :
    RelAt C (sig σ m B) { s with heap := (m, ob) :: s.heap, nx := nx' } a w' ∧ (∀ c v, VR w (FB C σ s.heap) σ c v → VR w' (FB C (sig σ m B) ((m, ob) :: s.heap)) (sig σ m B) c v) := by
  have hold : ∀ {p x}, assoc s.heap p = some x → p ≠ m := fun {p x} hp e => by
    subst e
    obtain ⟨B', e1, _⟩ := h.obj _ _ hp
    rw [hn] at e1; cases e1
  have hs' : sig σ m B m = some B := by simp [sig]
  have hs : ∀ {p}, p ≠ m → sig σ m B p = σ p := fun {p} hp => by simp [sig, hp]
  have hF : ∀ b, FB C (sig σ m B) ((m, ob) :: s.heap) b → FB C σ s.heap b ∨ w.heap.size ≤ b := by
    rintro b (hb | ⟨p, x, hp, hb⟩)
    · exact .inl (.inl hb)
    · simp only [assoc] at hp
      split at hp
      · rename_i e; subst e
        simp only [blkOf, hs', Option.bind_some] at hb
        exact .inr (hsome b hb).1
      · have := hold hp
        simp only [blkOf, hs this] at hb
        exact .inl (.inr ⟨p, x, hp, hb⟩)
  have hk : Keeps w w' (FB C σ s.heap) (FB C (sig σ m B) ((m, ob) :: s.heap)) := keeps_grown hg (fun b e => by cases e) hF
  refine ⟨⟨h.dfr, h.tm, hg.os.trans h.os, hg.tape.trans h.tape, hg.output.trans h.output, Nat.le_trans h.size hg.size, ?_, ?_, ?_, ?_, ?_, ?_, Nat.le_trans h.low hxx, fun o B' b ho hB' hb => ?_⟩, fun c v hv => VR.keep hk c v (sig_ref hn hv) hv⟩
  · intro b hb hown
    rw [hg.block b (Nat.lt_of_lt_of_le hb h.size) (by simp)]
    exact h.frame b hb hown
  · intro t c hc
    obtain ⟨v, k1, k2⟩ := h.env t c hc
    exact ⟨v, k1, VR.keep hk c v (sig_ref hn k2) k2⟩
  · intro p x hp
    simp only [assoc] at hp
    split at hp
    · rename_i e; subst e; cases hp
      refine ⟨B, hs', hsz, hnone, h1, fun b hb => ?_⟩
      obtain ⟨k0, cur, k1, k2, k3, k4⟩ := hsome b hb
      refine ⟨cur, k1, k2, fun hf => ?_, .inr (Nat.le_trans h.size k0), k3, VRs.keep hk _ _ (sig_refs hn k4) k4⟩
      have := C.hF b hf
      have := h.size
      omega
    · have hne := hold hp
      obtain ⟨B', m1, m2, m3, m4, m5⟩ := h.obj p x hp
      refine ⟨B', by rw [hs hne]; exact m1, m2, m3, m4, fun b hb => ?_⟩
      obtain ⟨cur, n1, n2, n3, n4, n5, n6⟩ := m5 b hb
      exact ⟨cur, by rw [hg.block b (Array.getElem?_eq_some_iff.1 n1).1 (by simp)]; exact n1, n2, n3, n4, n5, VRs.keep hk _ _ (sig_refs hn n6) n6⟩
  · intro p q x y b hp hq hbp hbq
    have key : ∀ {r z}, assoc s.heap r = some z → blkOf σ r = some b → b < w.heap.size := fun {r z} hr hbr => by
      obtain ⟨B', m1, _, _, _, m5⟩ := h.obj r z hr
      obtain ⟨cur, n1, _⟩ := m5 b (by simpa [blkOf, m1] using hbr)
      exact (Array.getElem?_eq_some_iff.1 n1).1
    simp only [assoc] at hp hq
    split at hp <;> split at hq
    · rename_i e1 e2; rw [← e1, ← e2]
    · rename_i e1 e2
      subst e1
      have := hold hq
      simp only [blkOf, hs', Option.bind_some] at hbp
      have k1 := (hsome b hbp).1
      have k2 := key hq (by simpa only [blkOf, hs this] using hbq)
      omega
    · rename_i e1 e2
      subst e2
      have := hold hp
      simp only [blkOf, hs', Option.bind_some] at hbq
      have k1 := (hsome b hbq).1
      have k2 := key hp (by simpa only [blkOf, hs this] using hbp)
      omega
    · have m1 := hold hp
      have m2 := hold hq
      exact h.inj p q x y b hp hq (by simpa only [blkOf, hs m1] using hbp) (by simpa only [blkOf, hs m2] using hbq)
  · intro p hp
    have : p ≠ m := fun e => by subst e; exact absurd hp (by simp only; omega)
    rw [hs this]
    exact h.nx p (Nat.le_trans hxx hp)
  · intro p hp
    have := h.low
    rw [hs (show p ≠ m by omega)]
    exact h.old p hp
  · by_cases e : o = m
    · subst e; rw [hs'] at hB'; cases hB'; exact .inr (Nat.le_trans h.size (hsome b hb).1)
    · rw [hs e] at hB'; exact h.new o B' b ho hB' hb

/-- A new object, in a world that has grown by its block at most. -/
theorem RelAt.fresh (h : RelAt C σ s a w) {w' : World} (hg : w.grownBy w' none) {ob : Ob} {B : OB} (hsz : B.sz = ob.sz) (h1 : ob.cells.all one = true) (hnone : B.blk = none → ob.cells = [])
    (hsome : ∀ b, B.blk = some b → w.heap.size ≤ b ∧ ∃ cur : Array Value, w'.heap[b]? = some (.cells cur ob.elem (0, 0)) ∧ cur.size = B.room ∧ ob.cells.length ≤ cur.size ∧ VRs w (FB C σ s.heap) σ ob.cells (cur.toList.take ob.cells.length)) :
    RelAt C (sig σ s.nx B) { s with heap := (s.nx, ob) :: s.heap, nx := s.nx + 1 } a w' ∧ (∀ c v, VR w (FB C σ s.heap) σ c v → VR w' (FB C (sig σ s.nx B) ((s.nx, ob) :: s.heap)) (sig σ s.nx B) c v) :=
  h.freshAt (h.nx s.nx (Nat.le_refl _)) h.low (Nat.lt_succ_self _) (Nat.le_succ _) hg hsz h1 hnone hsome

theorem grown_alloc (o : Obj) : w.grownBy (w.alloc o) none := World.grownBy_alloc w o none

/-! ### store -/
def cstore (tab : List (Nat × TI)) (s : St) (t : TypeId) (x : Operand) (v : Operand) : Option St :=
  match ev s x, ev s v, assoc tab t with
  | some (.optr o off), some c, some i =>
    match assoc s.heap o with
    | none => none
    | some ob => if isTup c then none else if c.cells.length = i.size ∧ off + c.cells.length ≤ ob.cells.length then some { s with heap := upd s.heap o { ob with cells := cput ob.cells off c.cells } } else none
  | _, _, _ => none

theorem cput_length (cells : List CV) (off : Nat) (cs : List CV) (h : off + cs.length ≤ cells.length) : (cput cells off cs).length = cells.length := by
  simp [cput]; omega

theorem cstore_ok {tab : List (Nat × TI)} (ht : TabOk P tab) (h : RelAt C σ s a w) {o : Oper} {t : TypeId} {x v : Operand} (ho : o.op = .store t x v) {s' : St} (hc : cstore tab s t x v = some s') :
    ∃ w', (execOp a.eval o).run P w = .ok .skip w' ∧ RelAt C σ s' a w' ∧ w'.heap.size = w.heap.size := by
  unfold cstore at hc
  split at hc
  · rename_i ob' off c i hx hv hi
    split at hc
    · cases hc
    rename_i ob hob
    split at hc
    · cases hc
    rename_i htup
    split at hc
    · rename_i hlen
      cases hc
      have kx := ev_ok h hx
      have kv := ev_ok h hv
      simp only [VR] at kx
      obtain ⟨B, b, hB, hb, kx⟩ := kx
      obtain ⟨B', e1, e2, _, e4, e5⟩ := h.obj _ ob hob
      rw [hB] at e1; cases e1
      obtain ⟨cur, k1, k2, k3, k4, k5, k6⟩ := e5 b hb
      obtain ⟨f1, f2⟩ := VR.flat c _ (fun cs e => by subst e; simp [isTup] at htup) (fun k s p e => by subst e; simp [isTup] at htup) (fun k es e => by subst e; simp [isTup] at htup) kv
      have fl := VRs.length _ _ f1
      obtain ⟨f, z, g1, g2, _⟩ := (ht t i hi).info
      have hst := run_storeCells_at P b off ob.elem (a.eval v).cells.toList 0 cur w k1 (by rw [fl]; omega) (VRs.one_cells _ _ f2 f1)
      simp only [Nat.add_zero] at hst
      refine ⟨_, ?_, h.write hob hB hb (us' := cur.toList.take off ++ (a.eval v).cells.toList ++ cur.toList.drop (off + (a.eval v).cells.toList.length)) ?_ ?_ ?_ (cput_one off e4 f2), by simp⟩
      · have hsz : (a.eval v).cells.size = f.size := by rw [g2, ← hlen.1, ← fl]; simp
        simp only [execOp, ho, Instr.storeAt, kx, Instr.sureAddr, storeVar, Sem.run_bind, Sem.run_pure, Result.andThen_ok, run_size g1]
        rw [if_neg (by simp [hsz])]
        simp only [hst, Result.andThen_ok]
      · simp [fl]; omega
      · rw [cput_length _ _ _ hlen.2]; simp [fl]; omega
      · rw [cput_length _ _ _ hlen.2]
        have := cput_ok k6 off f1
        have e : (cur.toList.take off ++ (a.eval v).cells.toList ++ cur.toList.drop (off + (a.eval v).cells.toList.length)).take ob.cells.length =
            (cur.toList.take ob.cells.length).take off ++ (a.eval v).cells.toList ++ (cur.toList.take ob.cells.length).drop (off + (a.eval v).cells.toList.length) := by
          have hcl : ob.cells.length ≤ cur.toList.length := by simpa using k5
          generalize (a.eval v).cells.toList = us at *
          rw [List.take_append, List.take_append]
          simp only [List.length_append, List.length_take, List.take_take, List.drop_take]
          rw [Nat.min_eq_right (show off ≤ ob.cells.length by omega), Nat.min_eq_left (show off ≤ cur.toList.length by omega), List.take_of_length_le (show us.length ≤ ob.cells.length - off by omega)]
          congr 2
          · rw [Nat.min_eq_left (show off ≤ ob.cells.length by omega)]
        rw [e]
        exact this
    · cases hc
  · cases hc
end
end Go.Can
