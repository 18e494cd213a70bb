/- Results made immutable all the way down; calls by their entry (plain calls and calls through interfaces). No function of the program is mentioned here. -/
import Derived.Test.YtniilppjegieaaaGreatCan29
import Derived.Test.YtniilppjegieaaaGreatCan26
namespace Go.Can
open Go.RowKit

def mapO (g : CV → Option CV) : List CV → Option (List CV)
  | [] => some []
  | c :: cs => match g c with
    | some d => match mapO g cs with
      | some ds => some (d :: ds)
      | none => none
    | none => none
/-- The value with all own objects in it written out. -/
def deep (H : List (Nat × Ob)) : Nat → CV → Option CV
  | 0, _ => none
  | f + 1, c => if tree c then some c else match c with
    | .osl o off n => match assoc H o with
      | some ob => match (if trees ob.cells then some ob.cells else mapO (deep H f) ob.cells) with
        | some cells => some (.tsl ((cells.drop off).take (n * ob.sz)) n)
        | none => none
      | none => none
    | .optr o off => match assoc H o with
      | some ob => match (if trees ob.cells then some ob.cells else mapO (deep H f) ob.cells) with
        | some cells => some (.tptr (cells.drop off))
        | none => none
      | none => none
    | .agg cs => match mapO (deep H f) cs with
      | some ds => some (.agg ds)
      | none => none
    | .iface t cs => match mapO (deep H f) cs with
      | some ds => some (.iface t ds)
      | none => none
    | .fn g cs => match mapO (deep H f) cs with
      | some ds => some (.fn g ds)
      | none => none
    | .tup cs => match mapO (deep H f) cs with
      | some ds => some (.tup ds)
      | none => none
    | _ => none

section
variable {P : Program} {C : Cx} {σ : Nat → Option OB} {s : St} {a : Act} {w : World} {ops : Array Oper} {tab : List (Nat × TI)}

theorem mapO_ok {F F' : Nat → Prop} {g : CV → Option CV} (hg : ∀ c d v, g c = some d → VR w F σ c v → VRt w F' d v ∧ one d = one c) : ∀ (cs ds : List CV) (vs : List Value), mapO g cs = some ds → VRs w F σ cs vs → VRts w F' ds vs ∧ ds.all one = cs.all one
  | [], ds, vs, h, hv => by
    simp only [mapO] at h
    cases h
    exact ⟨by simpa [VRs, VRts] using hv, rfl⟩
  | c :: cs, ds, vs, h, hv => by
    simp only [mapO] at h
    split at h
    · rename_i d h1
      split at h
      · rename_i ds' h2
        cases h
        simp only [VRs, VRts] at hv ⊢
        obtain ⟨v, r, e, k1, k2⟩ := hv
        obtain ⟨q1, q2⟩ := hg c d v h1 k1
        obtain ⟨q3, q4⟩ := mapO_ok hg cs ds' r h2 k2
        exact ⟨⟨v, r, e, q1, q3⟩, by simp only [List.all_cons, q2, q4]⟩
      · cases h
    · cases h
theorem deep_ok (h : RelAt C σ s a w) : ∀ (f : Nat) (c d : CV) (v : Value), deep s.heap f c = some d → VR w (FB C σ s.heap) σ c v → VRt w C.F d v ∧ one d = one c
  | 0, _, _, _, h, _ => by simp [deep] at h
  | f + 1, c, d, v, hd, hv => by
    have ih := deep_ok h f
    have hk : KeepsC w w (FB C σ s.heap) C.F := fun ad u hf hu => ⟨hu, fun hF => hf (.inl hF)⟩
    have obj : ∀ {o ob B b cells}, assoc s.heap o = some ob → σ o = some B → B.blk = some b → (if trees ob.cells then some ob.cells else mapO (deep s.heap f) ob.cells) = some cells → ∀ k, MRt w C.F (cells.drop k) ⟨b, k, none⟩ := fun {o ob B b cells} ho hB hb ht k => by
      obtain ⟨B', e1, _, _, e4, e5⟩ := h.obj o ob ho
      rw [hB] at e1; cases e1
      obtain ⟨cur, k1, k2, k3, k4, k5, k6⟩ := e5 b hb
      have h1 : VRts w C.F cells (cur.toList.take ob.cells.length) ∧ cells.all one = true := by
        split at ht
        · rename_i htr
          cases ht
          exact ⟨VRts.keep hk _ _ (VRs.to_tree _ _ htr k6), e4⟩
        · obtain ⟨q1, q2⟩ := mapO_ok ih _ _ _ ht k6
          exact ⟨q1, q2.trans e4⟩
      have hl : cells.length = ob.cells.length := by
        rw [← VRts.length _ _ h1.1, VRs.length _ _ k6]
      have h2 : MRt w C.F cells ⟨b, 0, none⟩ := MRt_of_cells _ _ _ h1.1 h1.2 k3 fun j u hu => by
        rw [add_lit, Nat.zero_add, cell_of_row w b j cur _ _ k1]
        rw [List.getElem?_take] at hu
        split at hu
        · simpa using hu
        · cases hu
      have := h2.drop k
      rwa [add_lit, Nat.zero_add] at this
    simp only [deep] at hd
    split at hd
    · rename_i ht
      cases hd
      exact ⟨VRt.keep hk _ _ (VR.to_tree _ _ ht hv), rfl⟩
    · split at hd
      · rename_i o off n _
        split at hd
        · rename_i ob ho
          split at hd
          · rename_i cells hc
            cases hd
            refine ⟨?_, rfl⟩
            simp only [VR] at hv
            obtain ⟨B, hB, hv⟩ := hv
            split at hv
            · obtain ⟨rfl, rfl, rfl⟩ := hv
              simp only [VRt]
              exact ⟨none, 0, rfl, Nat.le_refl _, Nat.zero_le _, .inl ⟨trivial, by simp⟩⟩
            · rename_i b hb
              obtain ⟨cap, rfl, h1, h2, _⟩ := hv
              simp only [VRt]
              exact ⟨_, cap, rfl, h1, h2, .inr ⟨_, rfl, MRt.take _ _ _ (obj ho hB hb hc off)⟩⟩
          · cases hd
        · cases hd
      · rename_i o off _
        split at hd
        · rename_i ob ho
          split at hd
          · rename_i cells hc
            cases hd
            refine ⟨?_, rfl⟩
            simp only [VR] at hv
            obtain ⟨B, b, hB, hb, rfl⟩ := hv
            simp only [VRt]
            exact ⟨_, rfl, obj ho hB hb hc off⟩
          · cases hd
        · cases hd
      · rename_i cs
        split at hd
        · rename_i ds hds
          cases hd
          simp only [VR] at hv
          obtain ⟨vs, e, r, h1⟩ := hv
          obtain ⟨q1, q2⟩ := mapO_ok ih _ _ _ hds r
          simp only [VRt]
          exact ⟨⟨vs, e, q1, q2.trans h1⟩, rfl⟩
        · cases hd
      · rename_i t cs
        split at hd
        · rename_i ds hds
          cases hd
          simp only [VR] at hv
          obtain ⟨vs, e, r⟩ := hv
          obtain ⟨q1, q2⟩ := mapO_ok ih _ _ _ hds r
          simp only [VRt]
          exact ⟨⟨vs, e, q1⟩, rfl⟩
        · cases hd
      · rename_i g cs
        split at hd
        · rename_i ds hds
          cases hd
          simp only [VR] at hv
          obtain ⟨vs, e, r⟩ := hv
          obtain ⟨q1, q2⟩ := mapO_ok ih _ _ _ hds r
          simp only [VRt]
          exact ⟨⟨vs, e, q1⟩, rfl⟩
        · cases hd
      · rename_i cs
        split at hd
        · rename_i ds hds
          cases hd
          simp only [VR] at hv
          obtain ⟨vs, e, r⟩ := hv
          obtain ⟨q1, q2⟩ := mapO_ok ih _ _ _ hds r
          simp only [VRt]
          exact ⟨⟨vs, e, q1⟩, rfl⟩
        · cases hd
      · cases hd

/-- The results, written out. -/
def doneD (tab : List (Nat × TI)) (f : Func) (r : CV) : Exit → St → Prop
  | .normal, s => ∃ r0 k, cresults tab f s = some r0 ∧ deep s.heap k r0 = some r
  | .ret, s => ∃ r0 k, cresults tab f s = some r0 ∧ deep s.heap k r0 = some r
  | _, _ => False
theorem PureCall.of_deep (ht0 : TabOk P tab) {f : FuncId} {fn : Func} {c : Code} {args : List CV} {r : CV} (hf : P.funcs[f]? = some fn) (hb : fn.body = some c) (hn : (fn.name == "runtime.NumGoroutine") = false)
    (ha : args.length ≤ fn.ntmps) (h : ∀ C : Cx, C.nt = fn.ntmps → C.n0 = 0 → T P C c (enter args) (doneD tab fn r)) : PureCall P f args r := by
  refine ⟨⟨fn, hf, hn, by simp [hb]⟩, fun F vs w hF hv => ?_⟩
  have hl := VRts.length _ _ hv
  let C : Cx := ⟨w, F, fun _ => False, hF, fn.ntmps, fun _ => none, 0⟩
  have h0 : RelAt C (fun _ => none) (enter args) { tmps := vs.toArray ++ Array.replicate (fn.ntmps - vs.toArray.size) undef, defers := [] } w := by
    refine ⟨rfl, by simp [C]; omega, rfl, rfl, rfl, Nat.le_refl _, fun _ _ _ => rfl, ?_, ?_, ?_, fun _ _ => rfl, fun _ h => absurd h (Nat.not_lt_zero _), Nat.zero_le _, fun _ _ _ _ h => by cases h⟩
    · intro t c hc
      obtain ⟨_, h2⟩ := assoc_zip args 0 t c hc
      obtain ⟨v, h3, h4⟩ := VRts.get _ _ hv t c (by simpa using h2)
      refine ⟨v, ?_, VR.of_tree _ _ (VRt.keep (Keeps.same fun b hb => ?_).1 c v h4)⟩
      · have hlt := (List.getElem?_eq_some_iff.1 h3).1
        simp only
        rw [Array.getElem?_append_left (by simpa using hlt)]
        simpa using h3
      · rcases hb with hF | ⟨o, ob, ho, _⟩
        · exact hF
        · simp [enter, assoc] at ho
    · intro o ob ho; simp [enter, assoc] at ho
    · intro o o' ob ob' b ho; simp [enter, assoc] at ho
  refine calls_of_wp hf hb (wp_mono (h C rfl rfl _ _ ⟨_, h0⟩) fun e a' w' ⟨s', q, σ, hr⟩ => ?_)
  have fin : (∃ r0 k, cresults tab fn s' = some r0 ∧ deep s'.heap k r0 = some r) → a'.defers = [] ∧ ∃ v, (results fn a'.tmps).run P w' = .ok v w' ∧ (∃ v_1, Ending.returned v = .returned v_1 ∧ Below w.heap.size w w' ∧ VRt w' F r v_1) := fun ⟨r0, k, hq, hd⟩ => by
    obtain ⟨v, k1, k2⟩ := cresults_ok (P := P) ht0 hr hq
    exact ⟨hr.dfr, v, k1, v, rfl, ⟨hr.os, hr.tape, hr.output, hr.size, fun k hk => hr.frame k hk (fun hx => hx)⟩, (deep_ok hr _ _ _ _ hd k2).1⟩
  cases e with
  | normal => exact fin q
  | ret => exact fin q
  | exit _ => exact q.elim
  | goto _ => exact q.elim
  | panic _ => exact q.elim
  | outgrown => exact q.elim

/-! ### Calls by their entry -/
/-- The operation enters g with these arguments. -/
def Ent (P : Program) (C : Cx) (s : St) (o : Oper) (g : FuncId) (cs : List CV) : Prop :=
  ∀ σ a w, RelAt C σ s a w → ∃ vs : List Value, (execOp a.eval o).run P w = .ok (.enter g vs.toArray) w ∧ VRs w (FB C σ s.heap) σ cs vs
theorem Ent.value {o : Oper} {c : Call} {g : FuncId} {cs : List CV} (ho : o.op = .call c) (hca : callArgs s c = some (g, cs)) (he : Enters P g) : Ent P C s o g cs := by
  intro σ a w hr
  obtain ⟨fn, h1, h2, h3⟩ := he
  unfold callArgs at hca
  split at hca
  · rename_i f hcal
    split at hca
    · rename_i g' caps cs' hfe hcs
      cases hca
      have hfv := ev_ok hr hfe
      simp only [VR] at hfv
      obtain ⟨us, e, hu⟩ := hfv
      have hargs := evs_ok hr _ _ hcs
      refine ⟨c.args.toList.map a.eval ++ us, ?_, VRs.append _ _ _ _ hargs hu⟩
      have e2 : (c.args.toList.map a.eval).toArray = c.args.map a.eval := by rw [← List.map_toArray]
      simp only [execOp, ho, resolve, hcal, e, Deferred.ofValue, Sem.run_bind, Sem.run_pure, Result.andThen_ok, invoke, callFunc, run_program, h1, h2, h3, Bool.false_eq_true, if_false]
      rw [← e2]
      simp
    · cases hca
  · cases hca
/-- What is told of a method's row: a type, a name, the function. -/
structure MethRow (P : Program) (t : TypeId) (name : String) (g : FuncId) : Prop where
  row : ∃ i m, P.info? t = some i ∧ i.methods.find? (·.name == name) = some m ∧ m.path.toList = [] ∧ m.path.isEmpty = true ∧ m.func = some (g, false)
  und : ∃ d, P.underlying t = some d ∧ ∀ e, d ≠ .pointer e
abbrev Meths := List ((Nat × String) × FuncId)
def MethsOk (P : Program) (mt : Meths) : Prop := ∀ x ∈ mt, MethRow P x.1.1 x.1.2 x.2
def mlook : Meths → Nat → String → Option FuncId
  | [], _, _ => none
  | ((t, n), g) :: r, u, m => if t = u ∧ n = m then some g else mlook r u m
theorem mlook_mem : ∀ (mt : Meths) (u : Nat) (m : String) (g : FuncId), mlook mt u m = some g → ((u, m), g) ∈ mt
  | [], _, _, _, h => by simp [mlook] at h
  | ((t, n), g') :: r, u, m, g, h => by
    simp only [mlook] at h
    split at h
    · rename_i e; obtain ⟨rfl, rfl⟩ := e; cases h; exact List.mem_cons_self
    · exact List.mem_cons_of_mem _ (mlook_mem r u m g h)
def callTo (mt : Meths) (s : St) (c : Call) : Option (FuncId × List CV) := match c.callee with
  | .value _ => callArgs s c
  | .invoke r name => match ev s r, evs s c.args.toList with
    | some (.iface t [x]), some cs => match mlook mt t name with
      | some g => some (g, x :: cs)
      | none => none
    | _, _ => none
  | _ => none
theorem run_method {t : TypeId} {name : String} {g : FuncId} (h : MethRow P t name g) (v : Value) (n : Nat) (w : World) : (method (n + 1) t v name).run P w = .ok (g, v) w := by
  obtain ⟨⟨i, m, h1, h2, h3, h4, h5⟩, d, h6, h7⟩ := h
  unfold method
  simp only [Sem.run_bind, run_info h1, Result.andThen_ok, h2, h3, follow, Sem.run_pure, h5, receiverAt, run_und h6, Place.get]
theorem Ent.to {mt : Meths} (hmt : MethsOk P mt) {o : Oper} {c : Call} {g : FuncId} {cs : List CV} (ho : o.op = .call c) (hca : callTo mt s c = some (g, cs)) (he : Enters P g) : Ent P C s o g cs := by
  unfold callTo at hca
  split at hca
  · exact Ent.value ho hca he
  · rename_i r name hcal
    split at hca
    · rename_i t x cs' hr hcs
      split at hca
      · rename_i g' hm
        cases hca
        intro σ a w h
        obtain ⟨fn, h1, h2, h3⟩ := he
        have hv := ev_ok h hr
        simp only [VR, VRs] at hv
        obtain ⟨vs, e, v, r', rfl, hv, rfl⟩ := hv
        simp only [List.headD_cons] at e
        have hargs := evs_ok h _ _ hcs
        refine ⟨v :: c.args.toList.map a.eval, ?_, by simp only [VRs]; exact ⟨v, _, rfl, hv, hargs⟩⟩
        have e2 : (c.args.toList.map a.eval).toArray = c.args.map a.eval := by rw [← List.map_toArray]
        have hme := run_method (hmt _ (mlook_mem _ _ _ _ hm)) v (P.types.size + 99) w
        have hme' : (method (P.types.size + Made.depth) t v name).run P w = .ok (g, v) w := hme
        have hex : (#[Value.iface t v] ++ c.args.map a.eval)[0]? = some (Value.iface t v) := by rw [Array.getElem?_append_left (by simp)]; rfl
        have hex2 : (#[Value.iface t v] ++ c.args.map a.eval).extract 1 (#[Value.iface t v] ++ c.args.map a.eval).size = c.args.map a.eval := by
          apply Array.ext'
          simp [List.take_of_length_le]
        simp only [execOp, ho, resolve, hcal, e, Sem.run_bind, Sem.run_pure, Result.andThen_ok, invoke, hex, hex2, callMethod, run_program, hme', callFunc, h1, h2, h3, Bool.false_eq_true, if_false]
        rw [← e2]
        simp
      · cases hca
    · cases hca
  · cases hca

theorem wanted_true {o : Oper} (hr : Rel C s a w) (hg : guardS ops s o = some true) : Region.wanted o (yielded ops a.tmps) = true := by
  unfold guardS at hg
  split at hg
  · rename_i e; simp [Region.wanted, e]
  · rename_i j want e
    split at hg
    · cases hg
    rename_i t hj
    exact wanted_of hr e hj hg

/-- A call in the caller's own memory. -/
theorem callE (ht0 : TabOk P tab) {o : Oper} {l : List Oper} {g : FuncId} {cs : List CV} {K : St → Prop} {R : CV → St → Prop} (hd : dstOk C.nt o.dst = true) (hg : guardS ops s o = some true) (he : Ent P C s o g cs) (hb : Body P tab g cs s.heap s.nx R)
    (hK : ∀ r s', R r s' → TL P C ops l (St.put ⟨s.env, s'.heap, s'.nx⟩ o.dst r) K) : TL P C ops (o :: l) s K := by
  intro a w Q hr hQ
  have hw := wanted_true (ops := ops) hr hg
  obtain ⟨σ, hr⟩ := hr
  unfold wpList
  rw [if_pos hw]
  refine .inl ?_
  obtain ⟨fn, code, hf, hbody, hn, hlen, hT⟩ := hb
  obtain ⟨vs, ent, hall⟩ := he σ a w hr
  have hF : ∀ b, C.F b → b < w.heap.size := fun b hb => Nat.lt_of_lt_of_le (C.hF b hb) hr.size
  have h0 := hr.inner hF fn.ntmps hall hlen
  have hcalls : Calls P g vs.toArray w fun e w' => ∃ v r s', e = .returned v ∧ R r s' ∧ ∃ σ', RelAt C σ' ⟨s.env, s'.heap, s'.nx⟩ a w' ∧ VR w' (FB C σ' s'.heap) σ' r v := by
    refine calls_of_wp hf hbody (wp_mono (hT (C.inner w σ s.heap fn.ntmps hF s.nx) rfl rfl _ _ ⟨_, h0⟩) fun e a' w' ⟨s1, q, σ1, hr1⟩ => ?_)
    have fin : upTo (C.inner w σ s.heap fn.ntmps hF s.nx) (fun s' => ∃ r, cresults tab fn s' = some r ∧ R r s') s1 → a'.defers = [] ∧ ∃ v, (results fn a'.tmps).run P w' = .ok v w' ∧ (∃ v_1 r s', Ending.returned v = .returned v_1 ∧ R r s' ∧ ∃ σ', RelAt C σ' ⟨s.env, s'.heap, s'.nx⟩ a w' ∧ VR w' (FB C σ' s'.heap) σ' r v_1) := fun ⟨s2, ⟨r, q1, q2⟩, hl⟩ => by
      obtain ⟨σ2, hr2⟩ := hl _ _ ⟨σ1, hr1⟩
      obtain ⟨v, k1, k2⟩ := cresults_ok (P := P) ht0 hr2 q1
      exact ⟨hr2.dfr, v, k1, v, r, s2, rfl, q2, σ2, hr.back hr2, k2⟩
    cases e with
    | normal => exact fin q
    | ret => exact fin q
    | exit _ => exact q.elim
    | goto _ => exact q.elim
    | panic _ => exact q.elim
    | outgrown => exact q.elim
  unfold Oper.wp
  rw [ent]
  refine hcalls.mono fun e w' ⟨v, r, s', he, hR, σ', hr', hv⟩ => ?_
  subst he
  refine hK r s' hR _ w' Q ⟨σ', hr'.put ?_ hv⟩ hQ
  intro t e
  rw [hr'.tm]
  rw [e] at hd
  simpa [dstOk] using hd

/-- A call with immutable arguments, from any list that begins with it. -/
theorem pure_wp {o : Oper} {g : FuncId} {cs : List CV} {r : CV} (he : Ent P C s o g cs) (ht : trees cs = true) (hp : PureCall P g cs r) (h : RelAt C σ s a w) (K : Act → World → Prop) (Q : Exit → Act → World → Prop)
    (hK : ∀ v w', RelAt C σ s a w' → VR w' (FB C σ s.heap) σ r v → K (a.put o.dst v) w') : o.wp P a w K Q := by
  obtain ⟨vs, ent, hall⟩ := he σ a w h
  unfold Oper.wp
  rw [ent]
  refine (hp.2 (FB C σ s.heap) _ w (FB_lt h) (VRs.to_tree _ _ ht hall)).mono fun e w' ⟨v, he, hb, hv⟩ => ?_
  subst he
  exact hK v w' (h.below hb) (VR.of_tree _ _ hv)
theorem pureE {o : Oper} {l : List Oper} {g : FuncId} {cs : List CV} {r : CV} {K : St → Prop} (hd : dstOk C.nt o.dst = true) (hg : guardS ops s o = some true) (he : Ent P C s o g cs) (ht : trees cs = true) (hp : PureCall P g cs r) (h : TL P C ops l (s.put o.dst r) K) : TL P C ops (o :: l) s K := by
  intro a w Q hr hQ
  have hw := wanted_true (ops := ops) hr hg
  obtain ⟨σ, hr⟩ := hr
  unfold wpList
  rw [if_pos hw]
  refine .inl (pure_wp he ht hp hr _ _ fun v w' hr' hv => h _ _ Q (rel_put hd hr' hv) hQ)
end
end Go.Can
