/- Further operations: conversions, interfaces, maps that are only made, ranges over strings, appends onto a beginning and onto nil. No function of the program is mentioned here. -/
import Derived.Test.YtniilppjegieaaaGreatCan25
import Derived.Laws.IdiomStrings
namespace Go.Can
open Go.RowKit

section
variable {P : Program} {C : Cx} {σ : Nat → Option OB} {s : St} {a : Act} {w : World} {ops : Array Oper} {tab : List (Nat × TI)}

/-- The operation leads from the one state to the other. -/
def XOk (P : Program) (C : Cx) (o : Oper) (s s' : St) : Prop := ∀ a w, Rel C s a w →
  ∃ w', ((∃ z, (execOp a.eval o).run P w = .ok (.value z) w' ∧ Rel C s' (a.put o.dst z) w') ∨ ((execOp a.eval o).run P w = .ok .skip w' ∧ Rel C s' (a.put o.dst undef) w'))
theorem XOk.le {o : Oper} {s1 s' : St} (hl : Le C s s1) (h : XOk P C o s1 s') : XOk P C o s s' := fun a w hr => h a w (hl a w hr)
theorem XOk.of_step (ht : TabOk P tab) {o : Oper} {s' : St} (hd : dstOk C.nt o.dst = true) (h : stepOp tab s o = some s') : XOk P C o s s' := fun _ _ hr => stepOp_ok ht hr hd h
theorem execX {o : Oper} {l : List Oper} {K : St → Prop} {s' : St} (hg : guardS ops s o = some true) (hx : XOk P C o s s') (h : TL P C ops l s' K) : TL P C ops (o :: l) s K := by
  intro a w Q hr hQ
  have hw : Region.wanted o (yielded ops a.tmps) = true := by
    unfold guardS at hg
    split at hg
    · rename_i e; simp [Region.wanted, e]
    · rename_i j want e
      split at hg
      · cases hg
      rename_i t hj
      exact wanted_of hr e hj hg
  unfold wpList
  rw [if_pos hw]
  refine .inl ?_
  obtain ⟨w', h1 | h1⟩ := hx a w hr
  · obtain ⟨z, k1, k2⟩ := h1
    unfold Oper.wp
    rw [k1]
    exact h _ _ Q k2 hQ
  · obtain ⟨k1, k2⟩ := h1
    unfold Oper.wp
    rw [k1]
    exact h _ _ Q k2 hQ

/-! ### Conversions that turn nothing -/
def bytesOf : List CV → Option (List UInt8)
  | [] => some []
  | .int .u8 n :: r => if 0 ≤ n ∧ n < 256 then (bytesOf r).map (UInt8.ofNat n.toNat :: ·) else none
  | _ => none
theorem bytesOf_ok {F : Nat → Prop} : ∀ (cs : List CV) (l : List UInt8) (us : List Value), bytesOf cs = some l → VRs w F σ cs us → us = l.map fun b => Value.int .u8 (b.toNat : Int)
  | [], l, us, h, hr => by
    simp only [bytesOf] at h
    cases h
    simpa [VRs] using hr
  | c :: cs, l, us, h, hr => by
    simp only [VRs] at hr
    obtain ⟨v, r, rfl, h1, h2⟩ := hr
    unfold bytesOf at h
    split at h
    · rename_i e; cases e
    · rename_i n r' e
      cases e
      split at h
      · rename_i hn
        obtain ⟨l', h3, rfl⟩ := Option.map_eq_some_iff.1 h
        simp only [VR] at h1
        subst h1
        rw [bytesOf_ok cs l' r h3 h2]
        simp only [List.map_cons, List.cons.injEq, Value.int.injEq, true_and, and_true]
        have : (UInt8.ofNat n.toNat).toNat = n.toNat := by
          have e : (UInt8.ofNat n.toNat).toNat = n.toNat % 256 := UInt8.toNat_ofNat'
          rw [e]
          omega
        rw [this]
        omega
      · cases h
    · cases h
def cconv (tab : List (Nat × TI)) (s : St) (a b : TypeId) (x : Operand) : Option CV :=
  match ev s x, tdAt tab a, tdAt tab b with
  | some (.int _ n), some _, some (.int k) => some (.int k (k.wrap n))
  | some (.str v), some _, some .str => some (.str v)
  | some c, some (.sl e), some .str => match tdAt tab e, cells? s c with
    | some (.int .u8), some (cs, m) => if cs.length = m then (bytesOf cs).map fun l => .str ⟨l.toArray⟩ else none
    | _, _ => none
  | _, _, _ => none
theorem tdAt_und (ht : TabOk P tab) {t : TypeId} {d : TD} (h : tdAt tab t = some d) : ∃ i, assoc tab t = some i ∧ i.d = d ∧ ∃ u, P.underlying t = some u ∧ tdOf u = d := by
  obtain ⟨i, h1, h2⟩ := Option.map_eq_some_iff.1 h
  obtain ⟨u, h3, h4⟩ := (ht t i h1).und
  exact ⟨i, h1, h2, u, h3, h4.trans h2⟩
theorem und_int {t : TypeId} {k : IntKind} (ht : TabOk P tab) (h : tdAt tab t = some (.int k)) : P.underlying t = some (.int k) := by
  obtain ⟨_, _, _, u, h1, h2⟩ := tdAt_und ht h
  cases u <;> simp only [tdOf] at h2 <;> first | cases h2 | skip
  exact h1
theorem cconv_ok (ht : TabOk P tab) (h : RelAt C σ s a w) {t u : TypeId} {x : Operand} {c : CV} (hc : cconv tab s t u x = some c) : ∃ z, (convert t u (a.eval x)).run P w = .ok z w ∧ VR w (FB C σ s.heap) σ c z := by
  unfold cconv at hc
  split at hc
  · rename_i k0 n d k hx h1 h2
    cases hc
    have hv := ev_ok h hx
    simp only [VR] at hv
    obtain ⟨_, _, _, ud, g1, _⟩ := tdAt_und ht h1
    have g2 := und_int ht h2
    refine ⟨.int k (k.wrap n), ?_, VR_int _ _⟩
    rw [hv]
    simp [convert, run_underlying g1, run_underlying g2, Conv.intToInt]
  · rename_i v d hx h1 h2
    cases hc
    have hv := ev_ok h hx
    simp only [VR] at hv
    obtain ⟨_, _, _, ud, g1, _⟩ := tdAt_und ht h1
    obtain ⟨i, i1, i2, _⟩ := tdAt_und ht h2
    have g2 := und_str (ht u i i1) i2
    refine ⟨.string v, ?_, VR_str _⟩
    rw [hv]
    simp [convert, run_underlying g1, run_underlying g2]
  · rename_i c' e _ hx h1 h2
    split at hc
    · rename_i cs m he hcs
      split at hc
      · rename_i hlen
        obtain ⟨l, hl, rfl⟩ := Option.map_eq_some_iff.1 hc
        obtain ⟨i1, a1, a2, _⟩ := tdAt_und ht h1
        obtain ⟨i2, b1, b2, _⟩ := tdAt_und ht h2
        have g1 := und_sl (ht t i1 a1) a2
        have g2 := und_str (ht u i2 b1) b2
        have g3 := und_int ht he
        obtain ⟨us, k1, _, k3⟩ := cells?_ok h (ev_ok h hx) hcs
        have hus := bytesOf_ok _ _ _ hl k1
        have hll : l.length = m := by
          have := VRs.length _ _ k1
          rw [hus, List.length_map] at this
          omega
        refine ⟨.string ⟨l.toArray⟩, ?_, VR_str _⟩
        rcases k3 with ⟨cp, e1, e2, e3⟩ | ⟨ad, cp, e1, e2⟩
        · have : l = [] := List.eq_nil_of_length_eq_zero (by omega)
          subst this
          rw [e1, run_convert_bytes_string w t u e none 0 cp g1 g3 g2]
          rfl
        · rw [e1]
          subst hll
          refine run_convert_bytes_back w t u e ad cp l g1 g3 g2 fun j hj => ?_
          refine e2 j _ ?_
          rw [hus]
          simp [hj]
      · cases hc
    · cases hc
  · cases hc

/-! ### Conversions that make or mark memory -/
def cbytes (b : ByteArray) : List CV := b.data.toList.map fun x => .int .u8 (x.toNat : Int)
theorem cbytes_ok {F : Nat → Prop} (b : ByteArray) : VRts w F (cbytes b) (b.data.toList.map fun x => Value.int .u8 (x.toNat : Int)) ∧ (cbytes b).all one = true := by
  unfold cbytes
  generalize b.data.toList = l
  induction l with
  | nil => simp [VRts]
  | cons x r ih =>
    simp only [List.map_cons, VRts, List.all_cons, ih.2, Bool.and_true]
    exact ⟨⟨_, _, rfl, by simp [VRt], ih.1⟩, rfl⟩
theorem rel_put {o : Oper} (hd : dstOk C.nt o.dst = true) (h : RelAt C σ s a w) {c : CV} {v : Value} (hv : VR w (FB C σ s.heap) σ c v) : Rel C (s.put o.dst c) (a.put o.dst v) w :=
  ⟨σ, h.put (fun t e => by rw [h.tm]; rw [e] at hd; simpa [dstOk] using hd) hv⟩

/-- '[]byte(s)' of a string: a new row, read as immutable. -/
theorem str_bytes_ok (ht : TabOk P tab) {o : Oper} {t u e : TypeId} {x : Operand} {b : ByteArray} (hd : dstOk C.nt o.dst = true) (ho : o.op = .convert t u x) (hx : ev s x = some (.str b)) (h1 : tdAt tab t = some .str) (h2 : tdAt tab u = some (.sl e)) (h3 : tdAt tab e = some (.int .u8)) (hm : b.size ≤ 1000000) :
    XOk P C o s (s.put o.dst (.tsl (cbytes b) b.size)) := by
  rintro a w ⟨σ, h⟩
  obtain ⟨i1, a1, a2, _⟩ := tdAt_und ht h1
  obtain ⟨i2, b1, b2, _⟩ := tdAt_und ht h2
  have g1 := und_str (ht t i1 a1) a2
  have g2 := und_sl (ht u i2 b1) b2
  have g3 := und_int ht h3
  have hv := ev_ok h hx
  simp only [VR] at hv
  have hrun := run_bytes_of_string (P := P) w t u e b g1 g2 g3
  have hb : Below w.heap.size w (w.drew.alloc (.cells (bytesRow b (grownCap w b.size 0 e)) e ((bytesRow b (grownCap w b.size 0 e)).size, (bytesRow b (grownCap w b.size 0 e)).size + 1))) :=
    ⟨rfl, rfl, rfl, by simp, fun k hk => heap_alloc_old w.drew _ k hk⟩
  have hnew : (w.drew.alloc (.cells (bytesRow b (grownCap w b.size 0 e)) e ((bytesRow b (grownCap w b.size 0 e)).size, (bytesRow b (grownCap w b.size 0 e)).size + 1))).heap[w.heap.size]? = some (.cells (bytesRow b (grownCap w b.size 0 e)) e ((bytesRow b (grownCap w b.size 0 e)).size, (bytesRow b (grownCap w b.size 0 e)).size + 1)) := heap_alloc_new w.drew _
  revert hb hnew
  generalize hw' : (w.drew.alloc (.cells (bytesRow b (grownCap w b.size 0 e)) e ((bytesRow b (grownCap w b.size 0 e)).size, (bytesRow b (grownCap w b.size 0 e)).size + 1))) = w'
  rw [hw'] at hrun
  intro hb hnew
  refine ⟨w', .inl ⟨.slice (some ⟨w.heap.size, 0, none⟩) b.size (grownCap w b.size 0 e), by simp [execOp, ho, hv, hrun], rel_put hd (h.below hb) ?_⟩⟩
  obtain ⟨k1, k2⟩ := cbytes_ok (w := w') (F := FB C σ s.heap) b
  simp only [VR, VRt]
  have hge : b.size ≤ grownCap w b.size 0 e := grownCap_ge w b.size 0 e
  refine ⟨_, _, rfl, hge, grownCap_le_maxLen w _ _ _ (by simp only [maxLen]; omega), .inr ⟨_, rfl, ?_⟩⟩
  refine MRt_of_cells _ _ _ k1 k2 (fun hf => ?_) fun j v hj => ?_
  · have := FB_lt h _ hf
    simp at this
  · rw [add_lit, Nat.zero_add, cell_of_row w' _ _ _ _ _ hnew]
    rw [List.getElem?_map] at hj
    obtain ⟨y, hy, rfl⟩ := Option.map_eq_some_iff.1 hj
    have hlt : j < b.data.size := by simpa using (List.getElem?_eq_some_iff.1 hy).1
    rw [bytesRow_at b _ j hlt]
    have : y = b.data[j] := by
      have := (List.getElem?_eq_some_iff.1 hy).2
      simpa using this.symm
    rw [this]

/-- '[]byte(b)' of an own slice of bytes: the object becomes immutable, its row is marked. -/
def frzOp (s : St) (o : Nat) (ob : Ob) (d : Option Tmp) (off n : Nat) : St := (s.frz o ob).put d (.tsl ((ob.cells.drop off).take (n * ob.sz)) n)
theorem mark_ok (ht : TabOk P tab) {o : Oper} {t e : TypeId} {x : Operand} {p off n : Nat} {ob : Ob} (hd : dstOk C.nt o.dst = true) (ho : o.op = .convert t t x) (hx : ev s x = some (.osl p off n)) (hn : 0 < n) (h2 : tdAt tab t = some (.sl e)) (h3 : tdAt tab e = some (.int .u8))
    (hob : assoc s.heap p = some ob) (htr : trees ob.cells = true) : XOk P C o s (frzOp s p ob o.dst off n) := by
  rintro a w ⟨σ, h⟩
  obtain ⟨i2, b1, b2, _⟩ := tdAt_und ht h2
  have g2 := und_sl (ht t i2 b1) b2
  have g3 := und_int ht h3
  have hv := ev_ok h hx
  have hfv := hv
  simp only [VR] at hv
  obtain ⟨B, hB, hv⟩ := hv
  obtain ⟨B', e1, e2, e3, e4, e5⟩ := h.obj p ob hob
  rw [hB] at e1; cases e1
  cases hblk : B.blk with
  | none => rw [hblk] at hv; simp only at hv; omega
  | some b =>
    rw [hblk] at hv
    simp only at hv
    obtain ⟨cap, hv, c1, c2, c3, c4⟩ := hv
    obtain ⟨cur, n1, n2, n3, n4, n5, n6⟩ := e5 b hblk
    have hlt := (Array.getElem?_eq_some_iff.1 n1).1
    have hsh : w.shape? b = some (ob.elem, cur.size) := by unfold World.shape?; rw [n1]
    let w' : World := w.freeze ⟨b, cur.size, none⟩ 1
    have hw' : w'.heap = w.heap.modify b (fun | .cells c elem (lo, hi) => .cells c elem (if lo == hi then (cur.size, cur.size + 1) else (min lo cur.size, max hi (cur.size + 1))) | o => o) := rfl
    have hother : ∀ k, k ≠ b → w'.heap[k]? = w.heap[k]? := fun k hk => by
      rw [hw', Array.getElem?_modify, if_neg (Ne.symm hk)]
    have hself : w'.heap[b]? = some (.cells cur ob.elem (cur.size, cur.size + 1)) := by
      rw [hw', Array.getElem?_modify, if_pos rfl, n1]
      rfl
    have hcell : ∀ ad, w'.cell? ad = w.cell? ad := fun ad => by
      by_cases hk : ad.block = b
      · unfold World.cell?
        rw [hk, hself, n1]
      · exact World.cell?_of_block (hother _ hk)
    have hk : ∀ F : Nat → Prop, Keeps w w' F F := fun F => ⟨fun ad u hf hu => ⟨by rw [hcell]; exact hu, hf⟩, fun r x hf hu hx => by
      have hne : r ≠ b := fun e => by subst e; rw [n1] at hu; cases hu; exact hx _ _ _ rfl
      exact ⟨by rw [hother r hne]; exact hu, hf⟩⟩
    have h' := h.frz hob htr
    have hnb : ∀ q y, assoc (s.frz p ob).heap q = some y → blkOf σ q ≠ some b := fun q y hq hb => by
      obtain ⟨hne, z, hz, _⟩ := assoc_frzH _ _ _ hq
      exact hne (h.inj q p z ob b hz hob hb (by simp [blkOf, hB, hblk]))
    have h2' : RelAt C σ (s.frz p ob) a w' := by
      refine ⟨h'.dfr, h'.tm, h'.os, h'.tape, h'.output, ?_, ?_, ?_, ?_, h'.inj, h'.nx, h'.old, h'.low, h'.new⟩
      · rw [hw', Array.size_modify]; exact h'.size
      · intro k hk1 hk2
        rw [hother k (fun e => ?_)]
        · exact h'.frame k hk1 hk2
        · subst e
          rcases n4 with n4 | n4
          · exact hk2 n4
          · omega
      · intro t c hc
        obtain ⟨v, k1, k2⟩ := h'.env t c hc
        exact ⟨v, k1, VR.keep (hk _) c v (fun _ _ => rfl) k2⟩
      · intro q y hq
        obtain ⟨B2, m1, m2, m3, m4, m5⟩ := h'.obj q y hq
        refine ⟨B2, m1, m2, m3, m4, fun b2 hb2 => ?_⟩
        obtain ⟨cur2, q1, q2, q3, q4, q5, q6⟩ := m5 b2 hb2
        have hne : b2 ≠ b := fun e => hnb q y hq (by simp [blkOf, m1, hb2, e])
        exact ⟨cur2, by rw [hother b2 hne]; exact q1, q2, q3, q4, q5, VRs.keep (hk _) _ _ (fun _ _ => rfl) q6⟩
    have hval : VR w' (FB C σ (s.frz p ob).heap) σ (.tsl ((ob.cells.drop off).take (n * ob.sz)) n) (a.eval x) := by
      cases x with
      | tmp t =>
        have hfz : assoc (s.frz p ob).env t = some (.tsl ((ob.cells.drop off).take (n * ob.sz)) n) := by
          have hx' : assoc s.env t = some (.osl p off n) := hx
          have : ∀ l : List (Nat × CV), assoc l t = some (.osl p off n) → assoc (frzE p ob.cells ob.sz l) t = some (.tsl ((ob.cells.drop off).take (n * ob.sz)) n) := by
            intro l
            induction l with
            | nil => intro h; cases h
            | cons y r ih =>
              obtain ⟨k, c⟩ := y
              intro hl
              simp only [frzE, List.map_cons, assoc] at hl ⊢
              split at hl
              · rename_i e; cases hl; rw [if_pos e]; simp [frzV]
              · rename_i e; rw [if_neg e]; exact ih hl
          exact this s.env hx'
        obtain ⟨v, k1, k2⟩ := h2'.env t _ hfz
        have : a.eval (.tmp t) = v := by simp [Act.eval, k1]
        rw [this]
        exact k2
      | const v => exact absurd hx (by
          simp only [ev]
          intro hc
          have := constCV_ok (w := w) (F := fun _ => False) hc
          simp [VRt] at this)
      | func f => cases hx
      | global g => cases hx
    have hrun : (execOp a.eval o).run P w = .ok (.value (a.eval x)) w' := by
      rw [hv]
      simp [execOp, ho, hv, convert, run_underlying g2, run_underlying g3, markStringish, hsh, w']
    exact ⟨w', .inl ⟨_, hrun, rel_put hd h2' hval⟩⟩

/-! ### Interfaces, maps that are only made, cap of nil -/
theorem iface_ok (ht : TabOk P tab) {o : Oper} {t : TypeId} {x : Operand} {c : CV} {d : TD} (hd : dstOk C.nt o.dst = true) (ho : o.op = .makeInterface t x) (hx : ev s x = some c) (h1 : tdAt tab t = some d) (hn : d = .oth → False) : XOk P C o s (s.put o.dst (.iface t [c])) := by
  rintro a w ⟨σ, h⟩
  obtain ⟨i1, a1, a2, u, g1, g2⟩ := tdAt_und ht h1
  have hv := ev_ok h hx
  refine ⟨w, .inl ⟨.iface t (a.eval x), ?_, rel_put hd h ?_⟩⟩
  · have hu : (underlying t).run P w = .ok u w := run_und g1 w
    have : (Instr.makeInterface t (a.eval x)).run P w = .ok (.iface t (a.eval x)) w := by
      unfold Instr.makeInterface
      simp only [Sem.run_bind, hu, Result.andThen_ok]
      cases u <;> first | rfl | (exact absurd g2.symm hn)
    simp [execOp, ho, this]
  · simp only [VR, VRs]
    exact ⟨[a.eval x], rfl, a.eval x, [], rfl, hv, rfl⟩
theorem cap_ok (ht : TabOk P tab) {o : Oper} {cl : Call} {t e : TypeId} {x : Operand} (hd : dstOk C.nt o.dst = true) (ho : o.op = .call cl) (hcl : cl.callee = .builtin .cap) (hargs : cl.args = #[x]) (hts : cl.argTypes = #[t]) (hx : ev s x = some .nilsl) (h1 : tdAt tab t = some (.sl e)) : XOk P C o s (s.put o.dst (.int .i64 0)) := by
  rintro a w ⟨σ, h⟩
  obtain ⟨i1, a1, a2, _⟩ := tdAt_und ht h1
  have g1 := und_sl (ht t i1 a1) a2
  have hv := ev_ok h hx
  simp only [VR] at hv
  refine ⟨w, .inl ⟨.int .i64 0, ?_, rel_put hd h (VR_int _ _)⟩⟩
  simp [execOp, ho, resolve, hcl, hargs, hts, invoke, builtin, Builtin.cap_, run_underlying g1, hv, goInt]

/-! ### Ranges over strings; maps -/
/-- A new block that is no row of cells, under a new number. -/
theorem RelAt.special (h : RelAt C σ s a w) (x : Obj) : RelAt C (sig σ s.nx ⟨some w.heap.size, 0, 0⟩) ⟨s.env, s.heap, s.nx + 1⟩ a (w.alloc x) ∧ ¬ FB C (sig σ s.nx ⟨some w.heap.size, 0, 0⟩) s.heap w.heap.size := by
  have hn : σ s.nx = none := h.nx s.nx (Nat.le_refl _)
  have hg : w.grownBy (w.alloc x) none := grown_alloc _
  have hold : ∀ {p x}, assoc s.heap p = some x → p ≠ s.nx := fun {p x} hp e => by
    subst e
    obtain ⟨B', e1, _⟩ := h.obj _ _ hp
    rw [hn] at e1; cases e1
  have hsg : ∀ {p}, p ≠ s.nx → sig σ s.nx ⟨some w.heap.size, 0, 0⟩ p = σ p := fun {p} hp => by simp [sig, hp]
  have hF : ∀ b', FB C (sig σ s.nx ⟨some w.heap.size, 0, 0⟩) s.heap b' → FB C σ s.heap b' := by
    rintro b' (hb | ⟨p, y, hp, hb⟩)
    · exact .inl hb
    · simp only [blkOf, hsg (hold hp)] at hb
      exact .inr ⟨p, y, hp, hb⟩
  have hk : Keeps w (w.alloc x) (FB C σ s.heap) (FB C (sig σ s.nx ⟨some w.heap.size, 0, 0⟩) s.heap) := keeps_grown hg (fun b e => by cases e) fun b' hb' => .inl (hF b' hb')
  refine ⟨⟨h.dfr, h.tm, h.os, h.tape, h.output, Nat.le_trans h.size hg.size, ?_, ?_, ?_, ?_, ?_, ?_, Nat.le_trans h.low (Nat.le_succ _), ?_⟩, fun hf => ?_⟩
  · intro k hk1 hk2
    rw [hg.block k (Nat.lt_of_lt_of_le hk1 h.size) (by simp)]
    exact h.frame k hk1 hk2
  · intro t c hc
    obtain ⟨v, k1, k2⟩ := h.env t c hc
    exact ⟨v, k1, VR.keep hk c v (sig_ref hn k2) k2⟩
  · intro q y hq
    obtain ⟨B2, m1, m2, m3, m4, m5⟩ := h.obj q y hq
    refine ⟨B2, by rw [hsg (hold hq)]; exact m1, m2, m3, m4, fun b2 hb2 => ?_⟩
    obtain ⟨cur2, q1, q2, q3, q4, q5, q6⟩ := m5 b2 hb2
    exact ⟨cur2, by rw [hg.block b2 (Array.getElem?_eq_some_iff.1 q1).1 (by simp)]; exact q1, q2, q3, q4, q5, VRs.keep hk _ _ (sig_refs hn q6) q6⟩
  · intro p q y z b' hp hq hbp hbq
    simp only [blkOf, hsg (hold hp)] at hbp
    simp only [blkOf, hsg (hold hq)] at hbq
    exact h.inj p q y z b' hp hq hbp hbq
  · intro p hp
    have : p ≠ s.nx := fun e => by subst e; exact absurd hp (by simp)
    rw [hsg this]
    exact h.nx p (Nat.le_of_succ_le hp)
  · intro p hp
    have := h.low
    rw [hsg (show p ≠ s.nx by omega)]
    exact h.old p hp
  · intro p B b' hp hB hb
    by_cases e : p = s.nx
    · subst e
      rw [sig_same] at hB; cases hB
      simp only [Option.some.injEq] at hb
      subst hb
      exact .inr h.size
    · rw [hsg e] at hB; exact h.new p B b' hp hB hb
  · have := FB_lt h _ (hF _ hf)
    omega
theorem map_ok {o : Oper} {t : TypeId} (hd : dstOk C.nt o.dst = true) (ho : o.op = .makeMap t none) : XOk P C o s (St.put ⟨s.env, s.heap, s.nx + 1⟩ o.dst (.mp s.nx [])) := by
  rintro a w ⟨σ, h⟩
  obtain ⟨h', hf⟩ := h.special (.map #[] 0)
  refine ⟨w.alloc (.map #[] 0), .inl ⟨.map (some w.heap.size), ?_, rel_put hd h' ?_⟩⟩
  · simp [execOp, ho, Instr.makeMap]
  · simp only [VR]
    exact ⟨_, w.heap.size, #[], 0, sig_same, rfl, rfl, heap_alloc_new w _, rfl, List.nodup_nil, hf⟩
theorem range_ok (ht : TabOk P tab) {o : Oper} {t : TypeId} {x : Operand} {b : ByteArray} (hd : dstOk C.nt o.dst = true) (ho : o.op = .range t x) (hx : ev s x = some (.str b)) (h1 : tdAt tab t = some .str) : XOk P C o s (St.put ⟨s.env, s.heap, s.nx + 1⟩ o.dst (.iter s.nx b 0)) := by
  rintro a w ⟨σ, h⟩
  obtain ⟨i1, a1, a2, _⟩ := tdAt_und ht h1
  have g1 := und_str (ht t i1 a1) a2
  have hv := ev_ok h hx
  simp only [VR] at hv
  obtain ⟨h', hf⟩ := h.special (.stringIter b 0)
  refine ⟨w.alloc (.stringIter b 0), .inl ⟨.pointer (some ⟨w.heap.size, 0, none⟩), ?_, rel_put hd h' ?_⟩⟩
  · simp [execOp, ho, Instr.range, run_underlying g1, hv]
  · simp only [VR]
    exact ⟨_, w.heap.size, sig_same, rfl, rfl, heap_alloc_new w _, hf⟩
def isIter (k : Nat) : CV → Bool
  | .iter k' _ _ => k' == k
  | _ => false
def nextE (k : Nat) (b : ByteArray) (p : Nat) : List (Nat × CV) → List (Nat × CV)
  | [] => []
  | (t, c) :: r => (t, if isIter k c then .iter k b p else c) :: nextE k b p r
theorem assoc_nextE {k : Nat} {b : ByteArray} {p : Nat} : ∀ (l : List (Nat × CV)) (t : Nat) (c : CV), assoc (nextE k b p l) t = some c → ∃ d, assoc l t = some d ∧ c = if isIter k d then .iter k b p else d
  | [], t, c, h => by simp [nextE, assoc] at h
  | (u, d) :: r, t, c, h => by
    simp only [nextE, assoc] at h ⊢
    split at h
    · rename_i e; cases h; rw [if_pos e]; exact ⟨d, rfl, rfl⟩
    · rename_i e; rw [if_neg e]; exact assoc_nextE r t c h
def isMap : CV → Bool
  | .mp _ _ => true
  | _ => false
def nextOk (s : St) (k : Nat) : Bool := (s.env.all fun x => noIter x.2 || isIter k x.2 || isMap x.2) && s.heap.all fun x => noIters x.2.cells
/-- The next character. -/
def cnext (s : St) (d : Option Tmp) (k : Nat) (b : ByteArray) (p : Nat) : Option St :=
  if p < b.size then if nextOk s k then some (St.put { s with env := nextE k b (p + (Utf8.decode b p).2) s.env } d (.tup [.bool true, .int .i64 p, .int .i32 (Utf8.decode b p).1])) else none
  else some (s.put d (.tup [.bool false]))
theorem next_ok {o : Oper} {x : Operand} {k p : Nat} {b : ByteArray} {s' : St} (hd : dstOk C.nt o.dst = true) (ho : o.op = .next x true) (hx : ev s x = some (.iter k b p)) (hk0 : C.n0 ≤ k) (hs : cnext s o.dst k b p = some s') : XOk P C o s s' := by
  rintro a w ⟨σ, h⟩
  have hv := ev_ok h hx
  simp only [VR] at hv
  obtain ⟨B, r, hB, hb, hv, hr, hf⟩ := hv
  have hget : w.heap[r]? = some (.stringIter b p) := hr
  have hrl := (Array.getElem?_eq_some_iff.1 hr).1
  unfold cnext at hs
  split at hs
  · rename_i hlt
    split at hs
    · rename_i hok
      cases hs
      simp only [nextOk, Bool.and_eq_true, List.all_eq_true, Bool.or_eq_true] at hok
      let w' : World := { w with heap := w.heap.setIfInBounds r (.stringIter b (p + (Utf8.decode b p).2)) }
      have hother : ∀ j, j ≠ r → w'.heap[j]? = w.heap[j]? := fun j hj => by
        simp [w', Ne.symm hj]
      have hself : w'.heap[r]? = some (.stringIter b (p + (Utf8.decode b p).2)) := by
        simp [w', hrl]
      have hsz : w'.heap.size = w.heap.size := by simp [w']
      have hkc : ∀ F : Nat → Prop, KeepsC w w' F F := fun F ad u hf hu => by
        have hne : ad.block ≠ r := fun e => by
          unfold World.cell? at hu
          rw [e, hr] at hu
          cases hu
        exact ⟨by rw [World.cell?_of_block (hother _ hne)]; exact hu, hf⟩
      have h' : RelAt C σ { s with env := nextE k b (p + (Utf8.decode b p).2) s.env } a w' := by
        refine ⟨h.dfr, h.tm, h.os, h.tape, h.output, by rw [hsz]; exact h.size, ?_, ?_, ?_, h.inj, h.nx, h.old, h.low, h.new⟩
        · intro j hj1 hj2
          rw [hother j (fun e => ?_)]
          · exact h.frame j hj1 hj2
          · subst e
            rcases h.new k B j hk0 hB hb with n4 | n4
            · exact hj2 n4
            · omega
        · intro t c hc
          obtain ⟨d, hd', rfl⟩ := assoc_nextE _ _ _ hc
          obtain ⟨v, k1, k2⟩ := h.env t d hd'
          refine ⟨v, k1, ?_⟩
          by_cases hi : isIter k d = true
          · rw [if_pos hi]
            cases d <;> simp only [isIter, Bool.false_eq_true] at hi
            rename_i k' b' p'
            have : k' = k := by simpa using hi
            subst this
            simp only [VR] at k2 ⊢
            obtain ⟨B2, r2, q1, q2, q3, q4, q5⟩ := k2
            rw [hB] at q1; cases q1
            rw [hb] at q2; cases q2
            exact ⟨B, r, hB, hb, q3, hself, q5⟩
          · rw [if_neg hi]
            rcases hok.1 _ (assoc_mem _ _ _ hd') with (q | q) | q
            · exact VR.keepN (hkc _) _ _ q k2
            · exact absurd q hi
            · cases d <;> simp only [isMap, Bool.false_eq_true] at q
              simp only [VR] at k2 ⊢
              obtain ⟨B2, r2, arr, clock, q1, q2, q3, q4, q5, q6, q7⟩ := k2
              have hne : r2 ≠ r := fun e => by rw [e, hr] at q4; cases q4
              exact ⟨B2, r2, arr, clock, q1, q2, q3, by rw [hother r2 hne]; exact q4, q5, q6, q7⟩
        · intro q y hq
          obtain ⟨B2, m1, m2, m3, m4, m5⟩ := h.obj q y hq
          refine ⟨B2, m1, m2, m3, m4, fun b2 hb2 => ?_⟩
          obtain ⟨cur2, q1, q2, q3, q4, q5, q6⟩ := m5 b2 hb2
          have hne : b2 ≠ r := fun e => by subst e; rw [hr] at q1; cases q1
          exact ⟨cur2, by rw [hother b2 hne]; exact q1, q2, q3, q4, q5, VRs.keepN (hkc _) _ _ (hok.2 _ (assoc_mem _ _ _ hq)) q6⟩
      refine ⟨w', .inl ⟨.tuple #[.bool true, goInt p, .int .i32 (Utf8.decode b p).1], ?_, rel_put hd h' ?_⟩⟩
      · simp [execOp, ho, hv, Instr.next, getObj, setObj, Sem.run, hget, hlt, w']
      · simp only [VR, VRs]
        exact ⟨[_, _, _], rfl, _, _, rfl, rfl, _, _, rfl, rfl, _, _, rfl, rfl, rfl⟩
    · cases hs
  · rename_i hge
    cases hs
    refine ⟨w, .inl ⟨.tuple #[.bool false], ?_, rel_put hd h ?_⟩⟩
    · simp [execOp, ho, hv, Instr.next, getObj, Sem.run, hget, hge]
    · simp only [VR, VRs]
      exact ⟨[_], rfl, _, _, rfl, rfl, rfl⟩
end
end Go.Can
