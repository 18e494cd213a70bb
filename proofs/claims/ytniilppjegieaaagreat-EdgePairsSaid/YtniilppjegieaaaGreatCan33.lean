/- A region that draws, run in one order: what the other orders do is the same, where the operations that are not ordered keep apart. No function of the program is mentioned here. -/
import Derived.Test.YtniilppjegieaaaGreatCan32
namespace Go.Can
open Go.RowKit

def PcOk (P : Program) (pc : FuncId → List CV → Option CV) : Prop := ∀ g cs r, pc g cs = some r → PureCall P g cs r

section
variable {P : Program} {C : Cx} {σ : Nat → Option OB} {s s' : St} {a : Act} {w : World} {ops : Array Oper} {tab : List (Nat × TI)} {mt : Meths} {pc : FuncId → List CV → Option CV} {call : Caller}

theorem ev_view {o : Oper} (h : ∀ t ∈ o.looksAt ops, assoc s'.env t = assoc s.env t) : ∀ x ∈ o.op.operands, ev s' x = ev s x := fun x hx => by
  cases x with
  | tmp t => exact h t (List.mem_append_left _ (List.mem_filterMap.2 ⟨.tmp t, by simpa using hx, rfl⟩))
  | _ => rfl
theorem guard_view {o : Oper} (h : ∀ t ∈ o.looksAt ops, assoc s'.env t = assoc s.env t) : guardS ops s' o = guardS ops s o := by
  unfold guardS
  cases hg : o.guard with
  | none => rfl
  | some q =>
    obtain ⟨j, want⟩ := q
    simp only
    cases hj : (ops[j]?).bind (·.dst) with
    | none => rfl
    | some t => simp only; rw [h t (by simp [Oper.looksAt, hg, hj])]
theorem callTo_view {c : Call} (h : ∀ x ∈ c.operands, ev s' x = ev s x) : callTo mt s' c = callTo mt s c := by
  have ha : evs s' c.args.toList = evs s c.args.toList := evs_congr _ fun x hx => h x (by simp only [Call.operands, Array.mem_append]; exact .inr (by simpa using hx))
  unfold callTo
  split
  · rename_i f hf
    unfold callArgs
    rw [hf]
    simp only
    rw [h f (by simp [Call.operands, hf]), ha]
  · rename_i r name hr
    rw [h r (by simp [Call.operands, hr]), ha]
  · rfl
theorem aval2_view {op : Op} (h : ∀ x ∈ op.operands, ev s' x = ev s x) : aval2 tab s' op = aval2 tab s op := by
  cases op <;> simp only [aval2] <;> first | exact aval_congr _ h | skip
  case makeSlice t l c => rw [h l (by simp [Op.operands]), h c (by simp [Op.operands])]
theorem cells?_view {c : CV} (h : ∀ o, names o c = true → assoc s'.heap o = assoc s.heap o) : cells? s' c = cells? s c := by
  unfold cells?
  split <;> first | rfl | skip
  rename_i o off n
  rw [h o (by simp [names])]
theorem obOf_view {c : CV} (h : ∀ o, names o c = true → assoc s'.heap o = assoc s.heap o) : obOf s' c = obOf s c := by
  unfold obOf
  split <;> first | rfl | skip
  rename_i o off n
  rw [h o (by simp [names])]

theorem rel_put' {o : Oper} (hd : dstOk C.nt o.dst = true) (h : RelAt C σ s a w) {c : CV} {v : Value} (hv : VR w (FB C σ s.heap) σ c v) : RelAt C σ (s.put o.dst c) (a.put o.dst v) w :=
  h.put (fun t e => by rw [h.tm]; rw [e] at hd; simpa [dstOk] using hd) hv

theorem fs_eta (s : St) : fs s = ⟨assoc s.env, assoc s.heap, s.nx⟩ := rfl
theorem fs_of {s s' : St} (h1 : ∀ t, assoc s.env t = assoc s'.env t) (h2 : ∀ p, assoc s.heap p = assoc s'.heap p) (h3 : s.nx = s'.nx) : fs s = fs s' := by
  unfold fs
  rw [funext h1, funext h2, h3]
/-- A state changed in its heap, then a slot written: as a functional state. -/
theorem fs_put_heap {s : St} {H : List (Nat × Ob)} {n k : Nat} {d : Option Tmp} {r : Option CV} {w : List (Nat × Option Ob)} (hH : ∀ p, assoc H p = updH (assoc s.heap) w p) (hn : n = s.nx + k) : fs (putR ⟨s.env, H, n⟩ d r) = ap d ⟨r, w, k⟩ (fs s) := by
  unfold fs ap
  congr 1
  · funext t; exact assoc_putR t
  · funext p; rw [putR_heap.1]; exact hH p
  · rw [putR_heap.2]; exact hn

/-- The callee's surroundings, where it is handed a part of the memory alone. -/
def Cx.innerF (C : Cx) (w : World) (σ : Nat → Option OB) (H rest : List (Nat × Ob)) (nt : Nat) (hF : ∀ b, FB C σ rest b → b < w.heap.size) (n : Nat) : Cx :=
  ⟨w, FB C σ rest, fun b => ∃ o ob, assoc H o = some ob ∧ blkOf σ o = some b, hF, nt, σ, n⟩
/-- H and rest are the parts of a heap. -/
structure Parts (H rest G : List (Nat × Ob)) : Prop where
  l : ∀ o ob, assoc H o = some ob → assoc G o = some ob
  r : ∀ o ob, assoc rest o = some ob → assoc G o = some ob
  lr : ∀ o ob, assoc G o = some ob → assoc H o = some ob ∨ assoc rest o = some ob
  d : ∀ o ob ob', assoc H o = some ob → assoc rest o = some ob' → False
theorem FB_parts {H rest G : List (Nat × Ob)} (hp : Parts H rest G) {b : Nat} : FB C σ G b ↔ FB C σ rest b ∨ ∃ o ob, assoc H o = some ob ∧ blkOf σ o = some b := by
  constructor
  · rintro (h | ⟨o, ob, ho, hb⟩)
    · exact .inl (.inl h)
    · rcases hp.lr o ob ho with h | h
      · exact .inr ⟨o, ob, h, hb⟩
      · exact .inl (.inr ⟨o, ob, h, hb⟩)
  · rintro ((h | ⟨o, ob, ho, hb⟩) | ⟨o, ob, ho, hb⟩)
    · exact .inl h
    · exact .inr ⟨o, ob, hp.r o ob ho, hb⟩
    · exact .inr ⟨o, ob, hp.l o ob ho, hb⟩
theorem RelAt.innerF (h : RelAt C σ s a w) {H rest : List (Nat × Ob)} (hp : Parts H rest s.heap) (hF : ∀ b, FB C σ rest b → b < w.heap.size) (nt : Nat) {args : List CV} {vs : List Value} (hv : VRs w (FB C σ s.heap) σ args vs) (ha : args.length ≤ nt) :
    RelAt (C.innerF w σ H rest nt hF s.nx) σ ⟨(enter args).env, H, s.nx⟩ { tmps := vs.toArray ++ Array.replicate (nt - vs.toArray.size) undef, defers := [] } w := by
  have hl := VRs.length _ _ hv
  have hFB : ∀ b, FB (C.innerF w σ H rest nt hF s.nx) σ H b → FB C σ s.heap b := fun b hb => by
    rw [FB_parts hp]
    exact hb
  refine ⟨rfl, by simp [Cx.innerF]; omega, rfl, rfl, rfl, Nat.le_refl _, fun _ _ _ => rfl, ?_, ?_, fun o o' ob ob' b h1 h2 => h.inj o o' ob ob' b (hp.l _ _ h1) (hp.l _ _ h2), h.nx, fun _ _ => rfl, Nat.le_refl _, fun o B b ho hB _ => (by rw [h.nx o ho] at hB; cases hB)⟩
  · intro t c hc
    obtain ⟨_, h2⟩ := assoc_zip args 0 t c hc
    obtain ⟨v, h3, h4⟩ := VRs.get _ _ hv t c (by simpa using h2)
    refine ⟨v, ?_, VR.keep (Keeps.same hFB) _ _ (fun _ _ => rfl) h4⟩
    have hlt := (List.getElem?_eq_some_iff.1 h3).1
    simp only
    rw [Array.getElem?_append_left (by simpa using hlt)]
    simpa using h3
  · intro o ob ho
    obtain ⟨B, m1, m2, m3, m4, m5⟩ := h.obj o ob (hp.l o ob ho)
    refine ⟨B, m1, m2, m3, m4, fun b hb => ?_⟩
    obtain ⟨cur, n1, n2, n3, n4, n5, n6⟩ := m5 b hb
    refine ⟨cur, n1, n2, ?_, .inl ⟨o, ob, ho, by simp [blkOf, m1, hb]⟩, n5, VRs.keep (Keeps.same hFB) _ _ (fun _ _ => rfl) n6⟩
    rintro (hf | ⟨o', ob', ho', hb'⟩)
    · exact n3 hf
    · have : o' = o := h.inj o' o ob' ob b (hp.r _ _ ho') (hp.l _ _ ho) hb' (by simp [blkOf, m1, hb])
      subst this
      exact hp.d _ _ _ ho ho'
theorem RelAt.backF (h : RelAt C σ s a w) {H rest : List (Nat × Ob)} (hp : Parts H rest s.heap) {hF : ∀ b, FB C σ rest b → b < w.heap.size} {nt : Nat} {σ' : Nat → Option OB} {s1 : St} {a' : Act} {w' : World} (h' : RelAt (C.innerF w σ H rest nt hF s.nx) σ' s1 a' w') (hd : ∀ o ob ob', assoc s1.heap o = some ob → assoc rest o = some ob' → False) :
    RelAt C σ' ⟨s.env, s1.heap ++ rest, s1.nx⟩ a w' ∧ ∀ c v, VR w' (FB (C.innerF w σ H rest nt hF s.nx) σ' s1.heap) σ' c v → VR w' (FB C σ' (s1.heap ++ rest)) σ' c v := by
  have hown : ∀ b, b < w.heap.size → (¬ ∃ o ob, assoc H o = some ob ∧ blkOf σ o = some b) → w'.heap[b]? = w.heap[b]? := fun b hb hn => h'.frame b hb hn
  have hlt : ∀ {o ob}, assoc s.heap o = some ob → o < s.nx := fun {o ob} ho => by
    refine Nat.lt_of_not_le fun hle => ?_
    obtain ⟨B, e1, _⟩ := h.obj o ob ho
    rw [h.nx o hle] at e1; cases e1
  have hsame : ∀ {o}, o < s.nx → σ' o = σ o := fun {o} ho => h'.old o ho
  have hobj : ∀ o ob b, assoc s1.heap o = some ob → blkOf σ' o = some b → (∃ o ob, assoc H o = some ob ∧ blkOf σ o = some b) ∨ w.heap.size ≤ b := fun o ob b ho hb => by
    obtain ⟨B, m1, _, _, _, m5⟩ := h'.obj o ob ho
    obtain ⟨cur, _, _, _, n4, _⟩ := m5 b (by simpa [blkOf, m1] using hb)
    exact n4
  have hnot : ∀ o ob b, assoc s1.heap o = some ob → blkOf σ' o = some b → ¬ FB C σ rest b := fun o ob b ho hb => by
    obtain ⟨B, m1, _, _, _, m5⟩ := h'.obj o ob ho
    obtain ⟨cur, _, _, n3, _⟩ := m5 b (by simpa [blkOf, m1] using hb)
    exact n3
  have hrest : ∀ {o ob b}, assoc rest o = some ob → (blkOf σ' o = some b ↔ blkOf σ o = some b) := fun {o ob b} ho => by
    unfold blkOf; rw [hsame (hlt (hp.r _ _ ho))]
  have hFe : ∀ b, FB C σ' (s1.heap ++ rest) b ↔ FB (C.innerF w σ H rest nt hF s.nx) σ' s1.heap b := fun b => by
    constructor
    · rintro (hb | ⟨o, ob, ho, hb⟩)
      · exact .inl (.inl hb)
      · rw [assoc_app] at ho
        split at ho
        · rename_i y hy; cases ho; exact .inr ⟨o, _, hy, hb⟩
        · exact .inl (.inr ⟨o, ob, ho, (hrest ho).1 hb⟩)
    · rintro ((hb | ⟨o, ob, ho, hb⟩) | ⟨o, ob, ho, hb⟩)
      · exact .inl hb
      · refine .inr ⟨o, ob, ?_, (hrest ho).2 hb⟩
        rw [assoc_app]
        split
        · rename_i y hy; exact (hd _ _ _ hy ho).elim
        · exact ho
      · exact .inr ⟨o, ob, by rw [assoc_app, ho], hb⟩
  have hkw : Keeps w w' (FB C σ s.heap) (FB C σ' (s1.heap ++ rest)) := by
    have hno : ∀ b, ¬ FB C σ s.heap b → ¬ ∃ o ob, assoc H o = some ob ∧ blkOf σ o = some b := fun b hf hx => hf ((FB_parts hp).2 (.inr hx))
    have hF2 : ∀ b, b < w.heap.size → ¬ FB C σ s.heap b → ¬ FB C σ' (s1.heap ++ rest) b := fun b hb hf hx => by
      rw [hFe] at hx
      rcases hx with hx | ⟨o, ob, ho, hbb⟩
      · exact hf ((FB_parts hp).2 (.inl hx))
      · rcases hobj o ob b ho hbb with h1 | h1
        · exact hno b hf h1
        · omega
    refine ⟨fun ad u hf hu => ?_, fun r _ hf hu _ => ?_⟩
    · have hl := World.block_lt_of_cell? w ad hu
      exact ⟨by rw [World.cell?_of_block (w := w) (hown ad.block hl (hno _ hf))]; exact hu, hF2 _ hl hf⟩
    · have hl := (Array.getElem?_eq_some_iff.1 hu).1
      exact ⟨by rw [hown r hl (hno _ hf)]; exact hu, hF2 _ hl hf⟩
  have hownC : ∀ b, (∃ o ob, assoc H o = some ob ∧ blkOf σ o = some b) → C.own b ∨ C.w0.heap.size ≤ b := fun b ⟨o, ob, ho, hb⟩ => by
    obtain ⟨B, m1, _, _, _, m5⟩ := h.obj o ob (hp.l _ _ ho)
    obtain ⟨cur, _, _, _, n4, _⟩ := m5 b (by simpa [blkOf, m1] using hb)
    exact n4
  refine ⟨⟨h.dfr, h.tm, h'.os.trans h.os, h'.tape.trans h.tape, h'.output.trans h.output, Nat.le_trans h.size h'.size, ?_, ?_, ?_, ?_, h'.nx, fun o ho => (h'.old o (Nat.lt_of_lt_of_le ho h.low)).trans (h.old o ho), Nat.le_trans h.low h'.low, fun o B b ho hB hb => ?_⟩, fun c v hv => VR.keep (Keeps.same fun b hb => (hFe b).1 hb) _ _ (fun _ _ => rfl) hv⟩
  · intro b hb hno
    rw [hown b (Nat.lt_of_lt_of_le hb h.size) fun hx => ?_]
    · exact h.frame b hb hno
    · rcases hownC b hx with h1 | h1
      · exact hno h1
      · omega
  · intro t c hc
    obtain ⟨v, k1, k2⟩ := h.env t c hc
    refine ⟨v, k1, VR.keep hkw _ _ (fun o ho => ?_) k2⟩
    refine h'.old o (Nat.lt_of_not_le fun hle => ?_)
    obtain ⟨B, hB⟩ := VR.refs _ _ o k2 ho
    rw [h.nx o hle] at hB; cases hB
  · intro o ob ho
    rw [assoc_app] at ho
    split at ho
    · rename_i y hy
      cases ho
      obtain ⟨B, m1, m2, m3, m4, m5⟩ := h'.obj o _ hy
      refine ⟨B, m1, m2, m3, m4, fun b hb => ?_⟩
      obtain ⟨cur, n1, n2, n3, n4, n5, n6⟩ := m5 b hb
      refine ⟨cur, n1, n2, fun hf => n3 (.inl hf), ?_, n5, VRs.keep (Keeps.same fun b hb => (hFe b).1 hb) _ _ (fun _ _ => rfl) n6⟩
      rcases n4 with n4 | n4
      · exact hownC b n4
      · exact .inr (Nat.le_trans h.size n4)
    · have hs := hp.r _ _ ho
      obtain ⟨B, m1, m2, m3, m4, m5⟩ := h.obj o ob hs
      refine ⟨B, by rw [hsame (hlt hs)]; exact m1, m2, m3, m4, fun b hb => ?_⟩
      obtain ⟨cur, n1, n2, n3, n4, n5, n6⟩ := m5 b hb
      have hbl := (Array.getElem?_eq_some_iff.1 n1).1
      have hno : ¬ ∃ o' ob', assoc H o' = some ob' ∧ blkOf σ o' = some b := by
        rintro ⟨o', ob', ho', hb'⟩
        have : o' = o := h.inj o' o ob' ob b (hp.l _ _ ho') hs hb' (by simp [blkOf, m1, hb])
        subst this
        exact hp.d _ _ _ ho' ho
      refine ⟨cur, by rw [hown b hbl hno]; exact n1, n2, n3, n4, n5, VRs.keep hkw _ _ (fun p hpn => ?_) n6⟩
      refine h'.old p (Nat.lt_of_not_le fun hle => ?_)
      obtain ⟨B2, hB2⟩ := VRs.refs _ _ p n6 hpn
      rw [h.nx p hle] at hB2; cases hB2
  · intro o o' ob ob' b ho ho' hb hb'
    rw [assoc_app] at ho ho'
    have cross : ∀ {p q x y}, assoc s1.heap p = some x → blkOf σ' p = some b → assoc rest q = some y → blkOf σ' q = some b → False := fun {p q x y} h1 h2 h3 h4 =>
      hnot p x b h1 h2 (.inr ⟨q, y, h3, (hrest h3).1 h4⟩)
    cases c1 : assoc s1.heap o with
    | some y =>
      cases c2 : assoc s1.heap o' with
      | some y' => exact h'.inj o o' y y' b c1 c2 hb hb'
      | none =>
        rw [c2] at ho'
        exact (cross c1 hb ho' hb').elim
    | none =>
      rw [c1] at ho
      cases c2 : assoc s1.heap o' with
      | some y' => exact (cross c2 hb' ho hb).elim
      | none =>
        rw [c2] at ho'
        exact h.inj o o' ob ob' b (hp.r _ _ ho) (hp.r _ _ ho') ((hrest ho).1 hb) ((hrest ho').1 hb')
  · rcases Nat.lt_or_ge o s.nx with hl | hge
    · rw [hsame hl] at hB; exact h.new o B b ho hB hb
    · rcases h'.new o B b hge hB hb with n4 | n4
      · exact hownC b n4
      · exact .inr (Nat.le_trans h.size n4)

/-- A call in a part of the caller's own memory. -/
theorem body_wp (ht0 : TabOk P tab) {o : Oper} {g : FuncId} {cs : List CV} {R : CV → St → Prop} {H rest : List (Nat × Ob)} (hp : Parts H rest s.heap) (he : Ent P C s o g cs) (hb : Body P tab g cs H s.nx R) (hR : ∀ r s1, R r s1 → ∀ o ob ob', assoc s1.heap o = some ob → assoc rest o = some ob' → False) (h : RelAt C σ s a w) (K : Act → World → Prop) (Q : Exit → Act → World → Prop)
    (hK : ∀ r s1 v w' σ', R r s1 → RelAt C σ' ⟨s.env, s1.heap ++ rest, s1.nx⟩ a w' → VR w' (FB C σ' (s1.heap ++ rest)) σ' r v → (∀ p, p < s.nx → σ' p = σ p) → K (a.put o.dst v) w') : o.wp P a w K Q := by
  obtain ⟨fn, code, hf, hbody, hn, hlen, hT⟩ := hb
  obtain ⟨vs, ent, hall⟩ := he σ a w h
  have hF : ∀ b, FB C σ rest b → b < w.heap.size := fun b hb => FB_lt h b ((FB_parts hp).2 (.inl hb))
  have h0 := h.innerF hp hF fn.ntmps hall hlen
  have hcalls : Calls P g vs.toArray w fun e w' => ∃ v r s', e = .returned v ∧ R r s' ∧ ∃ σ', RelAt C σ' ⟨s.env, s'.heap ++ rest, s'.nx⟩ a w' ∧ VR w' (FB C σ' (s'.heap ++ rest)) σ' r v ∧ (∀ p, p < s.nx → σ' p = σ p) := by
    refine calls_of_wp hf hbody (wp_mono (hT (C.innerF w σ H rest fn.ntmps hF s.nx) rfl rfl _ _ ⟨_, h0⟩) fun e a' w' ⟨s1, q, σ1, hr1⟩ => ?_)
    have fin : upTo (C.innerF w σ H rest fn.ntmps hF s.nx) (fun s' => ∃ r, cresults tab fn s' = some r ∧ R r s') s1 → a'.defers = [] ∧ ∃ v, (results fn a'.tmps).run P w' = .ok v w' ∧ (∃ v_1 r s', Ending.returned v = .returned v_1 ∧ R r s' ∧ ∃ σ', RelAt C σ' ⟨s.env, s'.heap ++ rest, s'.nx⟩ a w' ∧ VR w' (FB C σ' (s'.heap ++ rest)) σ' r v_1 ∧ (∀ p, p < s.nx → σ' p = σ p)) := fun ⟨s2, ⟨r, q1, q2⟩, hl⟩ => by
      obtain ⟨σ2, hr2⟩ := hl _ _ ⟨σ1, hr1⟩
      obtain ⟨v, k1, k2⟩ := cresults_ok (P := P) ht0 hr2 q1
      obtain ⟨b1, b2⟩ := h.backF hp hr2 (hR r s2 q2)
      exact ⟨hr2.dfr, v, k1, v, r, s2, rfl, q2, σ2, b1, b2 _ _ k2, hr2.old⟩
    cases e with
    | normal => exact fin q
    | ret => exact fin q
    | exit _ => exact q.elim
    | goto _ => exact q.elim
    | panic _ => exact q.elim
    | outgrown => exact q.elim
  unfold Oper.wp
  rw [ent]
  refine hcalls.mono fun e w' ⟨v, r, s', he, hR, σ', hr', hv, ho⟩ => ?_
  subst he
  exact hK r s' v w' σ' hR hr' hv ho

theorem eff1_ok (ht : TabOk P tab) (hmt : MethsOk P mt) (hcl : CallerOk P tab call) (hpc : PcOk P pc) {i m : Nat} {o : Oper} {E : Ef} {rs : List Nat} {nb : Bool} {ab : Option (Nat × Nat)} {lo up : Nat} (h : eff1 tab mt ops call pc lo up m s o = some (E, rs, nb, ab)) (hd : dstOk C.nt o.dst = true) (hi : ops[i]? = some o)
    (hag : Agree ⟨o.looksAt ops, rs, nb, ab⟩ (fs s') (fs s)) (hr : RelAt C σ s' a w) (hm : σ m = none) (hm0 : C.n0 ≤ m) (hmx : m < s'.nx) {Q' : Exit → Act → World → Prop} (K : Act → World → Prop)
    (hK : ∀ a' w' σ' s'', fs s'' = ap o.dst E (fs s') → RelAt C σ' s'' a' w' → (∀ p, p ≠ m → p < s'.nx → σ' p = σ p) → K a' w') : wpOp P ops Q' i K a w := by
  have hslots : ∀ t ∈ o.looksAt ops, assoc s'.env t = assoc s.env t := hag.1
  have hobj : ∀ p ∈ rs, assoc s'.heap p = assoc s.heap p := hag.2.1
  have hev := ev_view hslots
  have hgd := guard_view (ops := ops) hslots
  have hd' : ∀ t, o.dst = some t → t < a.tmps.size := fun t e => by rw [hr.tm]; rw [e] at hd; simpa [dstOk] using hd
  unfold eff1 at h
  unfold wpOp
  simp only [hi]
  split at h
  · cases h
  · rename_i hg
    cases h
    rw [hg] at hgd
    have hw : Region.wanted o (yielded ops a.tmps) = false := by
      unfold guardS at hgd
      split at hgd
      · cases hgd
      · rename_i j want e
        split at hgd
        · cases hgd
        rename_i t hj
        exact wanted_of ⟨σ, hr⟩ e hj hgd
    rw [if_neg (by simp [hw])]
    exact hK _ _ σ (s'.put o.dst (.tup [])) (fs_put _ _ _) (hr.put hd' (by simp only [VR, VRs]; exact ⟨[], rfl, rfl⟩)) fun _ _ _ => rfl
  · rename_i hg
    rw [hg] at hgd
    have hw := wanted_true (ops := ops) ⟨σ, hr⟩ hgd
    rw [if_pos hw]
    refine .inl ?_
    split at h
    · rename_i c hu
      have hop := userCall_op hu
      split at h
      · rename_i g cs hc
        have hcv : callTo mt s' c = some (g, cs) := by
          rw [callTo_view (fun x hx => hev x (by rw [hop]; exact hx)), hc]
        split at h
        · rename_i r hp
          cases h
          split at hp
          · rename_i htr
            have hP := hpc g cs _ hp
            exact pure_wp (Ent.to hmt hop hcv hP.1) htr hP hr _ _ fun v w' hr' hv => hK _ _ σ (s'.put o.dst _) (fs_put _ _ _) (rel_put' hd hr' hv) fun _ _ _ => rfl
          · cases hp
        · split at h
          · rename_i x H n hx
            split at h
            · rename_i hn
              cases h
              obtain ⟨hn, hin⟩ := hn
              have hB := hcl _ _ _ _ _ _ _ hx
              have hE : Enters P g := by
                obtain ⟨fn, c, h1, h2, h3, _⟩ := hB
                exact ⟨fn, h1, h3, by simp [h2]⟩
              have hnn : s'.nx = s.nx := hag.2.2.1 rfl
              have hag4 : ∀ p, inH lo up (namesLs cs) p = true → assoc s'.heap p = assoc s.heap p := fun p hp => by
                simp only [inH, Bool.or_eq_true, decide_eq_true_eq, List.contains_eq_mem] at hp
                rcases hp with (hp | hp) | hp
                · exact hag.2.2.2 _ rfl p (.inl hp)
                · exact hag.2.2.2 _ rfl p (.inr hp)
                · exact hobj p hp
              have hsub : ∀ p, assoc (subH lo up (namesLs cs) s.heap) p = if inH lo up (namesLs cs) p then assoc s'.heap p else none := fun p => by
                rw [assoc_subH]
                split
                · rename_i hp; rw [hag4 p hp]
                · rfl
              have hparts : Parts (subH lo up (namesLs cs) s.heap) (notH lo up (namesLs cs) s'.heap) s'.heap := by
                refine ⟨fun p y hp => ?_, fun p y hp => ?_, fun p y hp => ?_, fun p y z hp hq => ?_⟩
                · rw [hsub] at hp
                  split at hp
                  · exact hp
                  · cases hp
                · rw [assoc_notH] at hp
                  split at hp
                  · cases hp
                  · exact hp
                · rw [hsub, assoc_notH]
                  split
                  · exact .inl hp
                  · exact .inr hp
                · rw [hsub] at hp
                  rw [assoc_notH] at hq
                  split at hp
                  · rename_i hi'; rw [if_pos hi'] at hq; cases hq
                  · cases hp
              have hkeys : ∀ p y, assoc H p = some y → inH lo up (namesLs cs) p = true := fun p y hp => by
                have := List.all_eq_true.1 hin _ (assoc_mem _ _ _ hp)
                exact this
              rw [← hnn] at hB
              refine body_wp ht hparts (Ent.to hmt hop hcv hE) hB (fun r s1 hR p y z hp hq => ?_) hr _ _ fun r s1 v w' σ' hR hr' hv hold => ?_
              · obtain ⟨_, e1, _⟩ := hR
                rw [e1] at hp
                rw [assoc_notH, if_pos (hkeys p y hp)] at hq
                cases hq
              · obtain ⟨rfl, e1, e2⟩ := hR
                refine hK _ _ σ' (putR ⟨s'.env, s1.heap ++ notH lo up (namesLs cs) s'.heap, s1.nx⟩ o.dst (some r)) ?_ (rel_put' hd hr' hv) fun p _ hlt => hold p hlt
                refine fs_put_heap (s := s') (fun p => ?_) (by rw [e2, hnn]; omega)
                rw [e1, assoc_app, assoc_notH]
                have hdw := diffW_ok (subH lo up (namesLs cs) s.heap) H p
                unfold updH at hdw ⊢
                by_cases hi' : inH lo up (namesLs cs) p = true
                · rw [if_pos hi']
                  cases hc2 : assoc (diffW (subH lo up (namesLs cs) s.heap) H) p with
                  | some y =>
                    rw [hc2] at hdw
                    simp only at hdw ⊢
                    rw [hdw]
                    cases assoc H p <;> rfl
                  | none =>
                    rw [hc2] at hdw
                    simp only at hdw ⊢
                    rw [hsub, if_pos hi'] at hdw
                    rw [hdw]
                    cases assoc H p <;> rfl
                · rw [if_neg hi']
                  have hH : assoc H p = none := by
                    cases hc2 : assoc H p with
                    | none => rfl
                    | some y => exact absurd (hkeys p y hc2) hi'
                  rw [hH]
                  simp only
                  cases hc2 : assoc (diffW (subH lo up (namesLs cs) s.heap) H) p with
                  | none => rfl
                  | some y =>
                    exfalso
                    have hS : assoc (subH lo up (namesLs cs) s.heap) p = none := by rw [hsub, if_neg hi']
                    exact diffW_keys hS hH hc2
            · cases h
          · cases h
      · cases h
    · split at h
      · rename_i c hq
        cases h
        have hq' : qval tab s' o.op = some c := by
          by_cases hl : (∃ t x, o.op = .load t x) ∨ ∃ t x lo hi mx, o.op = .slice t x lo hi mx
          · refine qval_mono (s := s) (fun x hx => (hev x hx).symm) hq fun x hx v hv p ob hn hp => ?_
            rw [hobj p ?_]
            · exact hp
            · rcases hl with ⟨t, y, e⟩ | ⟨t, y, lo, hi', mx, e⟩
              · have : rdsQ s o.op = rds s o.op := by rw [e]; rfl
                rw [this]; exact mem_rds hx hv hn
              · have : rdsQ s o.op = rds s o.op := by rw [e]; rfl
                rw [this]; exact mem_rds hx hv hn
          · rw [← qval_noheap (s := s) o.op (fun x hx => (hev x hx).symm) (fun t x e => hl (.inl ⟨t, x, e⟩)) (fun t x lo hi mx e => hl (.inr ⟨t, x, lo, hi, mx, e⟩))]
            exact hq
        obtain ⟨z, k1, k2⟩ := qval_ok ht hr o hq'
        unfold Oper.wp
        rw [k1]
        exact hK _ _ σ (s'.put o.dst c) (fs_put _ _ _) (rel_put' hd hr k2) fun _ _ _ => rfl
      · split at h
        · rename_i ob f hv
          cases h
          have hv' : aval2 tab s' o.op = some (ob, f) := by rw [aval2_view hev, hv]
          obtain ⟨z, w', B, k1, k2⟩ := newsAt_ok ht hr hm hm0 hmx hd' hv'
          unfold Oper.wp
          rw [k1]
          refine hK _ _ _ _ ?_ k2 fun p hp _ => by simp [sig, hp]
          exact fs_put_heap (s := s') (k := 0) (d := o.dst) (r := some (f m)) (fun p => by simp only [assoc, updH]; by_cases e : m = p <;> simp [e]) rfl
        · split at h
          · rename_i t x v hop
            split at h
            · rename_i p ob hc
              cases h
              have hx : ev s' x = ev s x := hev x (by rw [hop]; simp [Op.operands])
              have hv : ev s' v = ev s v := hev v (by rw [hop]; simp [Op.operands])
              unfold cstO at hc
              split at hc
              · rename_i p' off c i' h1 h2 h3
                split at hc
                · cases hc
                · rename_i ob' hob
                  split at hc
                  · cases hc
                  · rename_i htup
                    split at hc
                    · rename_i hlen
                      cases hc
                      have hob' : assoc s'.heap p = some ob' := by rw [hobj p (by simp)]; exact hob
                      have hst : cstore tab s' t x v = some { s' with heap := upd s'.heap p { ob' with cells := cput ob'.cells off c.cells } } := by
                        unfold cstore
                        rw [hx, hv, h1, h2, h3]
                        simp only [hob']
                        rw [if_neg htup, if_pos hlen]
                      obtain ⟨w', k1, k2, _⟩ := cstore_ok ht hr hop hst
                      unfold Oper.wp
                      rw [k1]
                      refine hK _ _ σ _ ?_ (k2.del undef) fun _ _ _ => rfl
                      refine fs_put_heap (s := s') (k := 0) (d := o.dst) (r := none) (fun q => ?_) rfl
                      rw [assoc_upd]
                      simp only [updH, assoc]
                      by_cases e : p = q
                      · rw [if_pos e, if_pos e, ← e, hob']; rfl
                      · rw [if_neg e, if_neg e]
                    · cases hc
              · cases hc
            · cases h
          · rename_i cl hop
            split at h
            · rename_i x y t t' hcl2 ha hts
              split at h
              · rename_i e
                subst e
                split at h
                · rename_i p q hp hq
                  split at h
                  · rename_i ob k rm hc
                    cases h
                    have toA : ∀ {α : Type} {x : Array α} {l : List α}, x.toList = l → x = l.toArray := fun {α x l} e => by rw [← e]
                    have hargs := toA ha
                    have hx : ev s' x = some p := by rw [hev x (by rw [hop]; simp [Op.operands, Call.operands, hargs])]; exact hp
                    have hy : ev s' y = some q := by rw [hev y (by rw [hop]; simp [Op.operands, Call.operands, hargs])]; exact hq
                    have hn : s'.nx = s.nx := hag.2.2.1 rfl
                    have hc' : appCore tab t p (obOf s' p) (cells? s' q) = some (ob, k, rm) := by
                      rw [obOf_view (fun o' ho' => hobj o' (List.mem_append_left _ (names_L ho'))), cells?_view (fun o' ho' => hobj o' (List.mem_append_right _ (names_L ho')))]
                      exact hc
                    have happ := appCore_ok (d := o.dst) hx hy hc'
                    obtain ⟨z, w', B, k1, k2⟩ := cappend_ok ht hr hd' hop hcl2 hargs (toA hts) happ
                    unfold Oper.wp
                    rw [k1]
                    refine hK _ _ _ _ ?_ k2 fun p hp hlt => by simp [sig, Nat.ne_of_lt hlt]
                    have hpp : fs (putR ⟨s'.env, (s'.nx, ob) :: delO s'.heap rm, s'.nx + 1⟩ o.dst (some (.osl s'.nx 0 k))) = ap o.dst ⟨some (.osl s'.nx 0 k), (s'.nx, some ob) :: rmL rm, 1⟩ (fs s') := by
                      refine fs_put_heap (s := s') (k := 1) (fun r => ?_) rfl
                      simp only [assoc, updH]
                      by_cases e : s'.nx = r
                      · rw [if_pos e, if_pos e]
                      · rw [if_neg e, if_neg e]
                        cases rm with
                        | none => simp only [delO, rmL, assoc]
                        | some o2 =>
                          simp only [delO, rmL, assoc_dele, assoc]
                          by_cases e2 : o2 = r
                          · rw [if_pos e2, if_pos e2]
                          · rw [if_neg e2, if_neg e2]
                    rw [← hn]
                    exact hpp
                  · cases h
                · cases h
              · cases h
            · cases h
          · cases h
end
end Go.Can
