/- A call that is walked in the caller's own memory: objects may be handed over, turned and come back. No function of the program is mentioned here. -/
import Derived.Test.YtniilppjegieaaaGreatCan15
namespace Go.Can
open Go.RowKit

/-- The results and the memory. -/
def doneR (C : Cx) (tab : List (Nat × TI)) (f : Func) (R : CV → St → Prop) : Exit → St → Prop
  | .normal, s => upTo C (fun s' => ∃ r, cresults tab f s' = some r ∧ R r s') s
  | .ret, s => upTo C (fun s' => ∃ r, cresults tab f s' = some r ∧ R r s') s
  | _, _ => False

/-- A function's body, entered with these objects. -/
def Body (P : Program) (tab : List (Nat × TI)) (f : FuncId) (args : List CV) (H : List (Nat × Ob)) (n : Nat) (R : CV → St → Prop) : Prop :=
  ∃ fn c, P.funcs[f]? = some fn ∧ fn.body = some c ∧ (fn.name == "runtime.NumGoroutine") = false ∧ args.length ≤ fn.ntmps ∧
    ∀ C : Cx, C.nt = fn.ntmps → C.n0 = n → T P C c ⟨(enter args).env, H, n⟩ (doneR C tab fn R)

theorem Body.of_T {P : Program} {tab : List (Nat × TI)} {f : FuncId} {fn : Func} {c : Code} {args : List CV} {H : List (Nat × Ob)} {n : Nat} {R : CV → St → Prop} (hf : P.funcs[f]? = some fn) (hb : fn.body = some c) (hn : (fn.name == "runtime.NumGoroutine") = false)
    (ha : args.length ≤ fn.ntmps) (h : ∀ C : Cx, C.nt = fn.ntmps → C.n0 = n → T P C c ⟨(enter args).env, H, n⟩ (doneR C tab fn R)) : Body P tab f args H n R := ⟨fn, c, hf, hb, hn, ha, h⟩

/-- A contract without memory from a body's triple. -/
theorem Body.pure {P : Program} {tab : List (Nat × TI)} (ht0 : TabOk P tab) {f : FuncId} {args : List CV} {R : CV → St → Prop} {r : CV} (h : Body P tab f args [] 0 R) (ht : tree r = true) (hR : ∀ (C : Cx) t c H n, R c ⟨t, H, n⟩ → ∀ fn : Func, cresults tab fn ⟨t, H, n⟩ = some c → upTo C (fun s' => cresults tab fn s' = some r) ⟨t, H, n⟩) : PureCall P f args r := by
  obtain ⟨fn, c, hf, hb, hn, ha, h⟩ := h
  refine PureCall.of_TLe ht0 hf hb hn ha ht fun C hC hC0 => T.post (h C hC hC0) fun e s' q => ?_
  have key : ∀ s', upTo C (fun s' => ∃ r, cresults tab fn s' = some r ∧ R r s') s' → upTo C (fun s => cresults tab fn s = some r) s' := fun s' ⟨s'', ⟨r', h1, h2⟩, hl⟩ =>
    upTo.le hl (hR C s''.env r' s''.heap s''.nx h2 fn h1)
  cases e with
  | normal => exact ⟨s', key _ q, Le.refl _⟩
  | ret => exact ⟨s', key _ q, Le.refl _⟩
  | _ => exact q.elim

section
variable {P : Program} {C : Cx} {σ σ' : Nat → Option OB} {s s' : St} {a a' : Act} {w w' : World} {ops : Array Oper} {tab : List (Nat × TI)}

/-- The callee's surroundings. -/
def Cx.inner (C : Cx) (w : World) (σ : Nat → Option OB) (H : List (Nat × Ob)) (nt : Nat) (hF : ∀ b, C.F b → b < w.heap.size) (n : Nat) : Cx :=
  ⟨w, C.F, fun b => ∃ o ob, assoc H o = some ob ∧ blkOf σ o = some b, hF, nt, σ, n⟩

theorem own_inner (h : RelAt C σ s a w) {b : Nat} (hb : ∃ o ob, assoc s.heap o = some ob ∧ blkOf σ o = some b) : b < w.heap.size ∧ ¬ C.F b ∧ (C.own b ∨ C.w0.heap.size ≤ b) := by
  obtain ⟨o, ob, ho, hb⟩ := hb
  obtain ⟨B, m1, _, _, _, m5⟩ := h.obj o ob ho
  obtain ⟨cur, n1, _, n3, n4, _⟩ := m5 b (by simpa [blkOf, m1] using hb)
  exact ⟨(Array.getElem?_eq_some_iff.1 n1).1, n3, n4⟩

theorem RelAt.inner (h : RelAt C σ s a w) (hF : ∀ b, C.F b → b < w.heap.size) (nt : Nat) {args : List CV} {vs : List Value} (hv : VRs w (FB C σ s.heap) σ args vs) (ha : args.length ≤ nt) :
    RelAt (C.inner w σ s.heap nt hF s.nx) σ ⟨(enter args).env, s.heap, s.nx⟩ { tmps := vs.toArray ++ Array.replicate (nt - vs.toArray.size) undef, defers := [] } w := by
  have hl := VRs.length _ _ hv
  refine ⟨rfl, by simp [Cx.inner]; omega, rfl, rfl, rfl, Nat.le_refl _, fun _ _ _ => rfl, ?_, ?_, h.inj, h.nx, fun _ _ => rfl, Nat.le_refl _, fun o B b ho hB _ => (by rw [h.nx o ho] at hB; cases hB)⟩
  · intro t c hc
    obtain ⟨_, h2⟩ := assoc_zip args 0 t c hc
    obtain ⟨v, h3, h4⟩ := VRs.get _ _ hv t c (by simpa using h2)
    refine ⟨v, ?_, h4⟩
    have hlt := (List.getElem?_eq_some_iff.1 h3).1
    simp only
    rw [Array.getElem?_append_left (by simpa using hlt)]
    simpa using h3
  · intro o ob ho
    obtain ⟨B, m1, m2, m3, m4, m5⟩ := h.obj o ob ho
    refine ⟨B, m1, m2, m3, m4, fun b hb => ?_⟩
    obtain ⟨cur, n1, n2, n3, n4, n5, n6⟩ := m5 b hb
    exact ⟨cur, n1, n2, n3, .inl ⟨o, ob, ho, by simp [blkOf, m1, hb]⟩, n5, n6⟩

theorem RelAt.back (h : RelAt C σ s a w) {hF : ∀ b, C.F b → b < w.heap.size} {nt : Nat} (h' : RelAt (C.inner w σ s.heap nt hF s.nx) σ' s' a' w') : RelAt C σ' ⟨s.env, s'.heap, s'.nx⟩ a w' := by
  have hown : ∀ b, b < w.heap.size → (¬ ∃ o ob, assoc s.heap o = some ob ∧ blkOf σ o = some b) → w'.heap[b]? = w.heap[b]? := fun b hb hn => h'.frame b hb hn
  have hobj : ∀ o ob b, assoc s'.heap o = some ob → blkOf σ' o = some b → (∃ o ob, assoc s.heap o = some ob ∧ blkOf σ o = some b) ∨ w.heap.size ≤ b := fun o ob b ho hb => by
    obtain ⟨B, m1, _, _, _, m5⟩ := h'.obj o ob ho
    obtain ⟨cur, _, _, _, n4, _⟩ := m5 b (by simpa [blkOf, m1] using hb)
    exact n4
  refine ⟨h.dfr, h.tm, h'.os.trans h.os, h'.tape.trans h.tape, h'.output.trans h.output, Nat.le_trans h.size h'.size, ?_, ?_, ?_, h'.inj, h'.nx, fun o ho => (h'.old o (Nat.lt_of_lt_of_le ho h.low)).trans (h.old o ho), Nat.le_trans h.low h'.low, fun o B b ho hB hb => ?_⟩
  · intro b hb hno
    rw [hown b (Nat.lt_of_lt_of_le hb h.size) fun hx => ?_]
    · exact h.frame b hb hno
    · rcases (own_inner h hx).2.2 with h1 | h1
      · exact hno h1
      · omega
  · intro t c hc
    obtain ⟨v, k1, k2⟩ := h.env t c hc
    refine ⟨v, k1, VR.keep ⟨fun ad u hf hu => ?_, fun r _ hf hu _ => ?_⟩ _ _ (fun o ho => ?_) k2⟩
    case refine_3 =>
      refine h'.old o (Nat.lt_of_not_le fun hle => ?_)
      obtain ⟨B, hB⟩ := VR.refs _ _ o k2 ho
      rw [h.nx o hle] at hB; cases hB
    · have hlt := World.block_lt_of_cell? w ad hu
      have hno : ¬ ∃ o ob, assoc s.heap o = some ob ∧ blkOf σ o = some ad.block := fun hx => hf (.inr hx)
      refine ⟨by rw [World.cell?_of_block (w := w) (hown ad.block hlt hno)]; exact hu, ?_⟩
      rintro (hx | ⟨o, ob, ho, hb⟩)
      · exact hf (.inl hx)
      · rcases hobj o ob _ ho hb with h1 | h1
        · exact hno h1
        · omega
    · have hlt := (Array.getElem?_eq_some_iff.1 hu).1
      have hno : ¬ ∃ o ob, assoc s.heap o = some ob ∧ blkOf σ o = some r := fun hx => hf (.inr hx)
      refine ⟨by rw [hown r hlt hno]; exact hu, ?_⟩
      rintro (hx | ⟨o, ob, ho, hb⟩)
      · exact hf (.inl hx)
      · rcases hobj o ob _ ho hb with h1 | h1
        · exact hno h1
        · omega
  · intro o ob ho
    obtain ⟨B, m1, m2, m3, m4, m5⟩ := h'.obj o ob ho
    refine ⟨B, m1, m2, m3, m4, fun b hb => ?_⟩
    obtain ⟨cur, n1, n2, n3, n4, n5, n6⟩ := m5 b hb
    refine ⟨cur, n1, n2, n3, ?_, n5, n6⟩
    rcases n4 with n4 | n4
    · exact (own_inner h n4).2.2
    · exact .inr (Nat.le_trans h.size n4)
  · rcases Nat.lt_or_ge o s.nx with hlt | hge
    · rw [h'.old o hlt] at hB; exact h.new o B b ho hB hb
    · rcases h'.new o B b hge hB hb with n4 | n4
      · exact (own_inner h n4).2.2
      · exact .inr (Nat.le_trans h.size n4)

theorem TL.callB (ht0 : TabOk P tab) {o : Oper} {l : List Oper} {c : Call} {g : FuncId} {cs : List CV} {K : St → Prop} {R : CV → St → Prop} (hd : dstOk C.nt o.dst = true) (hg : guardS ops s o = some true) (ho : o.op = .call c) (hca : callArgs s c = some (g, cs)) (hb : Body P tab g cs s.heap s.nx R)
    (hK : ∀ r s', R r s' → TL P C ops l (St.put ⟨s.env, s'.heap, s'.nx⟩ o.dst r) K) : TL P C ops (o :: l) s K := by
  intro a w Q hr hQ
  have hw : Region.wanted o (yielded ops a.tmps) = true := by
    unfold guardS at hg
    split at hg
    · rename_i e; simp [Region.wanted, e]
    · rename_i j want e
      split at hg
      · cases hg
      rename_i t hj
      exact wanted_of hr e hj hg
  obtain ⟨σ, hr⟩ := hr
  unfold wpList
  rw [if_pos hw]
  refine .inl ?_
  obtain ⟨fn, code, hf, hbody, hn, hlen, hT⟩ := hb
  unfold callArgs at hca
  split at hca
  · rename_i f hcal
    split at hca
    · rename_i g' caps cs' hfe hcs
      cases hca
      have hfv := ev_ok hr hfe
      simp only [VR] at hfv
      obtain ⟨us, e, hu⟩ := hfv
      have hargs := evs_ok hr _ _ hcs
      have hall := VRs.append _ _ _ _ hargs hu
      have ent : (execOp a.eval o).run P w = .ok (.enter g (c.args.toList.map a.eval ++ us).toArray) w := by
        have e2 : (c.args.toList.map a.eval).toArray = c.args.map a.eval := by rw [← List.map_toArray]
        simp only [execOp, ho, resolve, hcal, e, Deferred.ofValue, Sem.run_bind, Sem.run_pure, Result.andThen_ok, invoke, callFunc, run_program, hf, hn, hbody, Bool.false_eq_true, if_false, Option.isNone_some]
        rw [← e2]
        simp
      have hF : ∀ b, C.F b → b < w.heap.size := fun b hb => Nat.lt_of_lt_of_le (C.hF b hb) hr.size
      have h0 := hr.inner hF fn.ntmps hall hlen
      have hcalls : Calls P g (c.args.toList.map a.eval ++ us).toArray w fun e w' => ∃ v r s', e = .returned v ∧ R r s' ∧ ∃ σ', RelAt C σ' ⟨s.env, s'.heap, s'.nx⟩ a w' ∧ VR w' (FB C σ' s'.heap) σ' r v := by
        refine calls_of_wp hf hbody (wp_mono (hT (C.inner w σ s.heap fn.ntmps hF s.nx) rfl rfl _ _ ⟨_, h0⟩) fun e a' w' ⟨s1, q, σ1, hr1⟩ => ?_)
        have fin : upTo (C.inner w σ s.heap fn.ntmps hF s.nx) (fun s' => ∃ r, cresults tab fn s' = some r ∧ R r s') s1 → a'.defers = [] ∧ ∃ v, (results fn a'.tmps).run P w' = .ok v w' ∧ (∃ v_1 r s', Ending.returned v = .returned v_1 ∧ R r s' ∧ ∃ σ', RelAt C σ' ⟨s.env, s'.heap, s'.nx⟩ a w' ∧ VR w' (FB C σ' s'.heap) σ' r v_1) := fun ⟨s2, ⟨r, q1, q2⟩, hl⟩ => by
          obtain ⟨σ2, hr2⟩ := hl _ _ ⟨σ1, hr1⟩
          obtain ⟨v, k1, k2⟩ := cresults_ok (P := P) ht0 hr2 q1
          exact ⟨hr2.dfr, v, k1, v, r, s2, rfl, q2, σ2, hr.back hr2, k2⟩
        cases e with
        | normal => exact fin q
        | ret => exact fin q
        | exit _ => exact q.elim
        | goto _ => exact q.elim
        | panic _ => exact q.elim
        | outgrown => exact q.elim
      unfold Oper.wp
      rw [ent]
      refine hcalls.mono fun e w' ⟨v, r, s', he, hR, σ', hr', hv⟩ => ?_
      subst he
      refine hK r s' hR _ w' Q ⟨σ', hr'.put ?_ hv⟩ hQ
      intro t e
      rw [hr'.tm]
      rw [e] at hd
      simpa [dstOk] using hd
    · cases hca
  · cases hca
end

theorem assoc_frzE' {o : Nat} {cells : List CV} {sz : Nat} : ∀ (l : List (Nat × CV)) (t : Nat) (c : CV), assoc l t = some c → assoc (frzE o cells sz l) t = some (frzV o cells sz c)
  | [], _, _, h => by simp [assoc] at h
  | (k, x) :: r, t, c, h => by
    simp only [frzE, assoc] at h ⊢
    split at h
    · rename_i e; rw [if_pos e]; cases h; rfl
    · rename_i e; rw [if_neg e]; exact assoc_frzE' r t c h
/-- The result is a slice of a fresh object of immutable cells: handed out as its own. -/
def OwnR (o n : Nat) (e : TypeId) (z : Nat) (cells : List CV) (nx : Nat) (r : CV) (s : St) : Prop := r = .osl o 0 n ∧ s.heap = [(o, ⟨e, z, cells⟩)] ∧ s.nx = nx
end Go.Can
