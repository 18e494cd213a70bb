/- Contracts of functions that turn nothing which was there; calls; regions that draw their order. No function of the program is mentioned here. -/
import Derived.Test.YtniilppjegieaaaGreatCan8
namespace Go.Can
open Go.RowKit

/-- The function is one with a body, entered by a plain call. -/
def Enters (P : Program) (f : FuncId) : Prop := ∃ fn, P.funcs[f]? = some fn ∧ (fn.name == "runtime.NumGoroutine") = false ∧ fn.body.isNone = false

/-- Called with immutable arguments, in whatever world: it returns r, and nothing that was there has turned. -/
def PureCall (P : Program) (f : FuncId) (args : List CV) (r : CV) : Prop :=
  Enters P f ∧ ∀ (F : Nat → Prop) (vs : List Value) (w : World), (∀ b, F b → b < w.heap.size) → VRts w F args vs →
    Calls P f vs.toArray w fun e w' => ∃ v, e = .returned v ∧ Below w.heap.size w w' ∧ VRt w' F r v

mutual
/-- No memory in it. -/
def scalar : CV → Bool
  | .int _ _ => true
  | .bool _ => true
  | .str _ => true
  | .nilsl => true
  | .nilptr => true
  | .nilfn => true
  | .agg cs => scalars cs
  | .tup cs => scalars cs
  | _ => false
def scalars : List CV → Bool
  | [] => true
  | c :: cs => scalar c && scalars cs
end
mutual
theorem VRt.scalar {w w' : World} {F F' : Nat → Prop} : ∀ (c : CV) (v : Value), Can.scalar c = true → VRt w F c v → VRt w' F' c v
  | .int _ _, _, _, h => by simpa [VRt] using h
  | .bool _, _, _, h => by simpa [VRt] using h
  | .str _, _, _, h => by simpa [VRt] using h
  | .nilsl, _, _, h => by simpa [VRt] using h
  | .nilptr, _, _, h => by simpa [VRt] using h
  | .nilfn, _, _, h => by simpa [VRt] using h
  | .agg cs, v, hs, h => by
    simp only [VRt, Can.scalar] at h hs ⊢
    obtain ⟨vs, e, r, h1⟩ := h
    exact ⟨vs, e, VRts.scalar cs vs hs r, h1⟩
  | .tup cs, v, hs, h => by
    simp only [VRt, Can.scalar] at h hs ⊢
    obtain ⟨vs, e, r⟩ := h
    exact ⟨vs, e, VRts.scalar cs vs hs r⟩
  | .tsl _ _, _, hs, _ => by simp [Can.scalar] at hs
  | .tptr _, _, hs, _ => by simp [Can.scalar] at hs
  | .fn _ _, _, hs, _ => by simp [Can.scalar] at hs
  | .iface _ _, _, hs, _ => by simp [Can.scalar] at hs
  | .iter _ _ _, _, hs, _ => by simp [Can.scalar] at hs
  | .mp _ _, _, hs, _ => by simp [Can.scalar] at hs
  | .osl _ _ _, _, hs, _ => by simp [Can.scalar] at hs
  | .optr _ _, _, hs, _ => by simp [Can.scalar] at hs
theorem VRts.scalar {w w' : World} {F F' : Nat → Prop} : ∀ (cs : List CV) (vs : List Value), scalars cs = true → VRts w F cs vs → VRts w' F' cs vs
  | [], _, _, h => by simpa [VRts] using h
  | c :: cs, vs, hs, h => by
    simp only [VRts, scalars, Bool.and_eq_true] at h hs ⊢
    obtain ⟨v, r, e, h1, h2⟩ := h
    exact ⟨v, r, e, VRt.scalar c v hs.1 h1, VRts.scalar cs r hs.2 h2⟩
end

/-- An argument as the callee reads it: an own slice whose cells are immutable is lent. -/
def lend (s : St) : CV → Option CV
  | .osl o off n => match assoc s.heap o with
    | some ob => if trees ob.cells then some (.tsl ((ob.cells.drop off).take (n * ob.sz)) n) else none
    | none => none
  | .optr o off => match assoc s.heap o with
    | some ob => if trees ob.cells then some (.tptr (ob.cells.drop off)) else none
    | none => none
  | c => if tree c then some c else none
def lends (s : St) : List CV → Option (List CV)
  | [] => some []
  | c :: cs => match lend s c, lends s cs with
    | some d, some ds => some (d :: ds)
    | _, _ => none

section
variable {P : Program} {C : Cx} {σ : Nat → Option OB} {s : St} {a : Act} {w : World} {ops : Array Oper} {tab : List (Nat × TI)}

theorem RelAt.below (h : RelAt C σ s a w) {w' : World} (hb : Below w.heap.size w w') : RelAt C σ s a w' := by
  have hg : w.grownBy w' none := ⟨hb.os, hb.tape, hb.output, hb.size, fun k hk _ => hb.block k hk⟩
  have hk : Keeps w w' (FB C σ s.heap) (FB C σ s.heap) := keeps_grown hg (fun b e => by cases e) fun b hb => .inl hb
  refine ⟨h.dfr, h.tm, hg.os.trans h.os, hg.tape.trans h.tape, hg.output.trans h.output, Nat.le_trans h.size hg.size, ?_, ?_, ?_, h.inj, h.nx, h.old, h.low, h.new⟩
  · intro b hb' hown
    rw [hb.block b (Nat.lt_of_lt_of_le hb' h.size)]
    exact h.frame b hb' hown
  · intro t c hc
    obtain ⟨v, k1, k2⟩ := h.env t c hc
    exact ⟨v, k1, VR.keep hk c v (fun _ _ => rfl) k2⟩
  · intro o ob ho
    obtain ⟨B, m1, m2, m3, m4, m5⟩ := h.obj o ob ho
    refine ⟨B, m1, m2, m3, m4, fun b hb' => ?_⟩
    obtain ⟨cur, n1, n2, n3, n4, n5, n6⟩ := m5 b hb'
    exact ⟨cur, by rw [hb.block b (Array.getElem?_eq_some_iff.1 n1).1]; exact n1, n2, n3, n4, n5, VRs.keep hk _ _ (fun _ _ => rfl) n6⟩

theorem FB_lt (h : RelAt C σ s a w) : ∀ b, FB C σ s.heap b → b < w.heap.size := by
  rintro b (hb | ⟨o, ob, ho, hb⟩)
  · exact Nat.lt_of_lt_of_le (C.hF b hb) h.size
  · obtain ⟨B', m1, _, _, _, m5⟩ := h.obj o ob ho
    obtain ⟨cur, n1, _⟩ := m5 b (by simpa [blkOf, m1] using hb)
    exact (Array.getElem?_eq_some_iff.1 n1).1

theorem MRt_of_cells {F : Nat → Prop} : ∀ (cs : List CV) (us : List Value) (ad : Addr), VRts w F cs us → cs.all one = true → ¬ F ad.block → (∀ j u, us[j]? = some u → w.cell? (ad.add j) = some u) → MRt w F cs ad
  | [], _, _, _, _, _, _ => by simp [MRt]
  | c :: cs, us, ad, hr, h1, hF, hc => by
    simp only [VRts] at hr
    obtain ⟨v, r, rfl, h2, h3⟩ := hr
    simp only [List.all_cons, Bool.and_eq_true] at h1
    simp only [MRt]
    refine ⟨⟨v, by have := hc 0 v rfl; rwa [add_zero] at this, hF, h2⟩, h1.1, MRt_of_cells cs r _ h3 h1.2 (by rw [add_block]; exact hF) fun j u hu => ?_⟩
    rw [add_add, Nat.add_comm]
    exact hc (j + 1) u (by simpa using hu)

/-- What is lent reads in the caller's world, the caller's own objects being no one's to forbid. -/
theorem lend_ok (h : RelAt C σ s a w) {c d : CV} {v : Value} (hv : VR w (FB C σ s.heap) σ c v) (hl : lend s c = some d) : VRt w C.F d v := by
  have hk : Keeps w w (FB C σ s.heap) C.F := ⟨fun ad u hf hu => ⟨hu, fun hF => hf (.inl hF)⟩, fun r _ hf hu _ => ⟨hu, fun hF => hf (.inl hF)⟩⟩
  have obj : ∀ {o ob B b}, assoc s.heap o = some ob → σ o = some B → B.blk = some b → trees ob.cells = true → ∀ k, MRt w C.F (ob.cells.drop k) ⟨b, k, none⟩ := fun {o ob B b} ho hB hb ht k => by
    obtain ⟨B', e1, _, _, e4, e5⟩ := h.obj o ob ho
    rw [hB] at e1; cases e1
    obtain ⟨cur, k1, k2, k3, k4, k5, k6⟩ := e5 b hb
    have h1 := VRts.keep hk.1 _ _ (VRs.to_tree _ _ ht k6)
    have h2 : MRt w C.F ob.cells ⟨b, 0, none⟩ := MRt_of_cells _ _ _ h1 e4 k3 fun j u hu => by
      rw [add_lit, Nat.zero_add, cell_of_row w b j cur _ _ k1]
      rw [List.getElem?_take] at hu
      split at hu
      · simpa using hu
      · cases hu
    have := h2.drop k
    rwa [add_lit, Nat.zero_add] at this
  unfold lend at hl
  split at hl
  · rename_i o off n
    split at hl
    · rename_i ob ho
      split at hl
      · rename_i ht
        cases hl
        simp only [VR] at hv
        obtain ⟨B, hB, hv⟩ := hv
        split at hv
        · obtain ⟨rfl, rfl, rfl⟩ := hv
          simp only [VRt]
          exact ⟨none, 0, rfl, Nat.le_refl _, Nat.zero_le _, .inl ⟨trivial, by simp⟩⟩
        · rename_i b hb
          obtain ⟨cap, rfl, h1, h2, _⟩ := hv
          simp only [VRt]
          exact ⟨_, cap, rfl, h1, h2, .inr ⟨_, rfl, MRt.take _ _ _ (obj ho hB hb ht off)⟩⟩
      · cases hl
    · cases hl
  · rename_i o off
    split at hl
    · rename_i ob ho
      split at hl
      · rename_i ht
        cases hl
        simp only [VR] at hv
        obtain ⟨B, b, hB, hb, rfl⟩ := hv
        simp only [VRt]
        exact ⟨_, rfl, obj ho hB hb ht off⟩
      · cases hl
    · cases hl
  · split at hl
    · rename_i ht
      cases hl
      exact VRt.keep hk.1 _ _ (VR.to_tree _ _ ht hv)
    · cases hl

theorem lends_ok (h : RelAt C σ s a w) : ∀ (cs ds : List CV) (vs : List Value), VRs w (FB C σ s.heap) σ cs vs → lends s cs = some ds → VRts w C.F ds vs
  | [], ds, vs, hv, hl => by simp only [lends] at hl; cases hl; simpa [VRs, VRts] using hv
  | c :: cs, ds, vs, hv, hl => by
    simp only [lends] at hl
    split at hl
    · rename_i d ds' h1 h2
      cases hl
      simp only [VRs, VRts] at hv ⊢
      obtain ⟨v, r, e, k1, k2⟩ := hv
      exact ⟨v, r, e, lend_ok h k1 h1, lends_ok h cs ds' r k2 h2⟩
    · cases hl

/-- A call of a Go function by a value that is known, as an operation yields it: the arguments, and what comes back. -/
def callArgs (s : St) (c : Call) : Option (FuncId × List CV) :=
  match c.callee with
  | .value f => match ev s f, evs s c.args.toList with
    | some (.fn g caps), some cs => some (g, cs ++ caps)
    | _, _ => none
  | _ => none

/-- One call, heap untouched: immutable arguments; or a result without memory, and own objects lent. -/
def CallQ (P : Program) (s : St) (c : Call) (r : CV) : Prop :=
  ∃ g cs, callArgs s c = some (g, cs) ∧ ((trees cs = true ∧ PureCall P g cs r) ∨ ∃ ds, lends s cs = some ds ∧ PureCall P g ds r ∧ scalar r = true)

theorem CallQ_ok (h : RelAt C σ s a w) {o : Oper} {c : Call} (ho : o.op = .call c) {r : CV} (hc : CallQ P s c r) (K : Act → World → Prop) (Q : Exit → Act → World → Prop)
    (hK : ∀ v w', RelAt C σ s a w' → VR w' (FB C σ s.heap) σ r v → K (a.put o.dst v) w') : o.wp P a w K Q := by
  obtain ⟨g, cs, hca, hp⟩ := hc
  unfold callArgs at hca
  split at hca
  · rename_i f hcal
    split at hca
    · rename_i g' caps cs' hf hcs
      cases hca
      have hfv := ev_ok h hf
      simp only [VR] at hfv
      obtain ⟨us, e, hu⟩ := hfv
      have hargs := evs_ok h _ _ hcs
      have hall := VRs.append _ _ _ _ hargs hu
      have ent : ∀ {cs}, PureCall P g cs r → (execOp a.eval o).run P w = .ok (.enter g (c.args.toList.map a.eval ++ us).toArray) w := fun hp => by
        obtain ⟨⟨fn, h1, h2, h3⟩, _⟩ := hp
        have e2 : (c.args.toList.map a.eval).toArray = c.args.map a.eval := by rw [← List.map_toArray]
        simp only [execOp, ho, resolve, hcal, e, Deferred.ofValue, Sem.run_bind, Sem.run_pure, Result.andThen_ok, invoke, callFunc, run_program, h1, h2, h3, Bool.false_eq_true, if_false]
        rw [← e2]
        simp
      rcases hp with ⟨ht, hp⟩ | ⟨ds, hl, hp, hsc⟩
      · unfold Oper.wp
        rw [ent hp]
        refine (hp.2 (FB C σ s.heap) _ w (FB_lt h) (VRs.to_tree _ _ ht hall)).mono fun e w' ⟨v, he, hb, hv⟩ => ?_
        subst he
        exact hK v w' (h.below hb) (VR.of_tree _ _ hv)
      · unfold Oper.wp
        rw [ent hp]
        refine (hp.2 C.F _ w (fun b hb => Nat.lt_of_lt_of_le (C.hF b hb) h.size) (lends_ok h _ _ _ hall hl)).mono fun e w' ⟨v, he, hb, hv⟩ => ?_
        subst he
        exact hK v w' (h.below hb) (VR.of_tree _ _ (VRt.scalar _ _ hsc hv))
    · cases hca
  · cases hca

theorem TL.call {o : Oper} {l : List Oper} {c : Call} {r : CV} {K : St → Prop} (hd : dstOk C.nt o.dst = true) (hg : o.guard = none) (ho : o.op = .call c) (hc : CallQ P s c r) (h : TL P C ops l (s.put o.dst r) K) : TL P C ops (o :: l) s K := by
  intro a w Q hr hQ
  obtain ⟨σ, hr⟩ := hr
  unfold wpList
  rw [if_pos (by simp [Region.wanted, hg])]
  refine .inl (CallQ_ok hr ho hc _ _ fun v w' hr' hv => h _ _ Q ⟨σ, hr'.put ?_ hv⟩ hQ)
  intro t e
  rw [hr'.tm]
  rw [e] at hd
  simpa [dstOk] using hd

/-- The same with a guard that is known to be met. -/
theorem TL.callG {o : Oper} {l : List Oper} {c : Call} {r : CV} {K : St → Prop} {j : Nat} {want : Bool} {t : Tmp} (hd : dstOk C.nt o.dst = true) (hg : o.guard = some (j, want)) (hj : (ops[j]?).bind (·.dst) = some t) (ht : assoc s.env t = some (.bool want)) (ho : o.op = .call c) (hc : CallQ P s c r) (h : TL P C ops l (s.put o.dst r) K) :
    TL P C ops (o :: l) s K := by
  intro a w Q hr hQ
  have hy := yielded_of hr hj ht
  obtain ⟨σ, hr⟩ := hr
  unfold wpList
  rw [if_pos (by simp [Region.wanted, hg, hy])]
  refine .inl (CallQ_ok hr ho hc _ _ fun v w' hr' hv => h _ _ Q ⟨σ, hr'.put ?_ hv⟩ hQ)
  intro t e
  rw [hr'.tm]
  rw [e] at hd
  simpa [dstOk] using hd

/-! ### From a triple to a contract -/
def enter (args : List CV) : St := { env := args.zipIdx.map (fun x => (x.2, x.1)), heap := [], nx := 0 }

theorem assoc_zip : ∀ (args : List CV) (k t : Nat) (c : CV), assoc ((args.zipIdx k).map fun x => (x.2, x.1)) t = some c → k ≤ t ∧ args[t - k]? = some c
  | [], _, _, _, h => by simp [assoc] at h
  | x :: args, k, t, c, h => by
    simp only [List.zipIdx_cons, List.map_cons, assoc] at h
    split at h
    · rename_i e; subst e; cases h; exact ⟨Nat.le_refl _, by simp⟩
    · rename_i e
      obtain ⟨h1, h2⟩ := assoc_zip args (k + 1) t c h
      refine ⟨by omega, ?_⟩
      rw [show t - k = (t - (k + 1)) + 1 by omega]
      simpa using h2

/-- The results of a frame, canonically. -/
def cres1 (tab : List (Nat × TI)) (s : St) : ResultVar → Option CV
  | .tmp t => assoc s.env t
  | .cell a ty => match assoc s.env a, assoc tab ty with
    | some c, some i => match memAt s c with
      | some cs => cload i cs
      | none => none
    | _, _ => none
def cresL (tab : List (Nat × TI)) (s : St) : List ResultVar → Option (List CV)
  | [] => some []
  | r :: rs => match cres1 tab s r, cresL tab s rs with
    | some c, some cs => some (c :: cs)
    | _, _ => none
def oneOrTup : List CV → CV
  | [c] => c
  | cs => .tup cs
def cresults (tab : List (Nat × TI)) (f : Func) (s : St) : Option CV := match cresL tab s f.results.toList with
  | some cs => some (oneOrTup cs)
  | none => none

def resAt (tmps : Array Value) : ResultVar → Sem Value
  | .tmp t => pure (tmps.getD t undef)
  | .cell a t => do loadVar t (← asAddr (tmps.getD a undef))
theorem cresL_ok (ht : TabOk P tab) (h : RelAt C σ s a w) : ∀ (rs : List ResultVar) (cs : List CV), cresL tab s rs = some cs → ∃ vs, (rs.mapM (resAt a.tmps)).run P w = .ok vs w ∧ VRs w (FB C σ s.heap) σ cs vs
  | [], cs, hc => by simp only [cresL] at hc; cases hc; exact ⟨[], by simp, by simp [VRs]⟩
  | r :: rs, cs, hc => by
    simp only [cresL] at hc
    split at hc
    · rename_i c cs' h1 h2
      cases hc
      obtain ⟨vs, k1, k2⟩ := cresL_ok ht h rs cs' h2
      have key : ∃ v, (resAt a.tmps r).run P w = .ok v w ∧ VR w (FB C σ s.heap) σ c v := by
        cases r with
        | tmp t =>
          obtain ⟨v, m1, m2⟩ := h.env t c h1
          exact ⟨v, by simp [resAt, Array.getD_eq_getD_getElem?, m1], m2⟩
        | cell x ty =>
          simp only [cres1] at h1
          split at h1
          · rename_i d i hd hi
            split at h1
            · rename_i cells hm
              obtain ⟨v, m1, m2⟩ := h.env x d hd
              obtain ⟨ad, rfl, hcells⟩ := memAt_ok h m2 hm
              obtain ⟨u, n1, n2⟩ := cload_ok (P := P) (ht ty i hi) hcells h1
              exact ⟨u, by simp [resAt, Array.getD_eq_getD_getElem?, m1, asAddr, n1], n2⟩
            · cases h1
          · cases h1
      obtain ⟨v, m1, m2⟩ := key
      refine ⟨v :: vs, ?_, ?_⟩
      · simp only [List.mapM_cons, Sem.run_bind, m1, k1, Result.andThen_ok, Sem.run_pure]
      · simp only [VRs]; exact ⟨v, vs, rfl, m2, k2⟩
    · cases hc
theorem cresults_ok (ht : TabOk P tab) (h : RelAt C σ s a w) {f : Func} {r : CV} (hr : cresults tab f s = some r) : ∃ v, (results f a.tmps).run P w = .ok v w ∧ VR w (FB C σ s.heap) σ r v := by
  unfold cresults at hr
  split at hr
  · rename_i cs hcs
    cases hr
    obtain ⟨vs, k1, k2⟩ := cresL_ok ht h _ _ hcs
    have hl := VRs.length _ _ k2
    have hm : (f.results.mapM (resAt a.tmps)).run P w = .ok vs.toArray w := by
      rw [Array.mapM_eq_mapM_toList]
      simp only [Sem.run_map, k1, Result.andThen_ok]
    have e : results f a.tmps = (do let vs ← f.results.mapM (resAt a.tmps); pure (if h : vs.size = 1 then vs[0] else .tuple vs)) := by
      unfold results
      congr 1
    rw [e]
    simp only [Sem.run_bind, hm, Result.andThen_ok, Sem.run_pure]
    refine ⟨_, rfl, ?_⟩
    match cs, vs, hl, k2 with
    | [c], [v], _, k2 =>
      simp only [VRs] at k2
      obtain ⟨_, _, e, h1, _⟩ := k2
      cases e
      simpa [oneOrTup] using h1
    | [], [], _, _ => simp [oneOrTup, VR, VRs]
    | c :: d :: cs, v :: u :: vs, _, k2 =>
      simp only [oneOrTup]
      rw [dif_neg (by simp)]
      simp only [VR]
      exact ⟨v :: u :: vs, rfl, k2⟩
  · cases hr

def doneS (tab : List (Nat × TI)) (f : Func) (r : CV) : Exit → St → Prop
  | .normal, s => cresults tab f s = some r
  | .ret, s => cresults tab f s = some r
  | _, _ => False

/-- **A contract from a triple over the body.** (The result immutable: freeze it before the return.) -/
theorem PureCall.of_T (ht0 : TabOk P tab) {f : FuncId} {fn : Func} {c : Code} {args : List CV} {r : CV} (hf : P.funcs[f]? = some fn) (hb : fn.body = some c) (hn : (fn.name == "runtime.NumGoroutine") = false)
    (ha : args.length ≤ fn.ntmps) (ht : tree r = true) (h : ∀ C : Cx, C.nt = fn.ntmps → C.n0 = 0 → T P C c (enter args) (doneS tab fn r)) : PureCall P f args r := by
  refine ⟨⟨fn, hf, hn, by simp [hb]⟩, fun F vs w hF hv => ?_⟩
  have hl := VRts.length _ _ hv
  let C : Cx := ⟨w, F, fun _ => False, hF, fn.ntmps, fun _ => none, 0⟩
  have h0 : RelAt C (fun _ => none) (enter args) { tmps := vs.toArray ++ Array.replicate (fn.ntmps - vs.toArray.size) undef, defers := [] } w := by
    refine ⟨rfl, by simp [C]; omega, rfl, rfl, rfl, Nat.le_refl _, fun _ _ _ => rfl, ?_, ?_, ?_, fun _ _ => rfl, fun _ h => absurd h (Nat.not_lt_zero _), Nat.zero_le _, fun _ _ _ _ h => by cases h⟩
    · intro t c hc
      obtain ⟨_, h2⟩ := assoc_zip args 0 t c hc
      obtain ⟨v, h3, h4⟩ := VRts.get _ _ hv t c (by simpa using h2)
      refine ⟨v, ?_, VR.of_tree _ _ (VRt.keep (Keeps.same fun b hb => ?_).1 c v h4)⟩
      · have hlt := (List.getElem?_eq_some_iff.1 h3).1
        simp only
        rw [Array.getElem?_append_left (by simpa using hlt)]
        simpa using h3
      · rcases hb with hF | ⟨o, ob, ho, _⟩
        · exact hF
        · simp [enter, assoc] at ho
    · intro o ob ho; simp [enter, assoc] at ho
    · intro o o' ob ob' b ho; simp [enter, assoc] at ho
  refine calls_of_wp hf hb (wp_mono (h C rfl rfl _ _ ⟨_, h0⟩) fun e a' w' ⟨s', q, σ, hr⟩ => ?_)
  have fin : cresults tab fn s' = some r → a'.defers = [] ∧ ∃ v, (results fn a'.tmps).run P w' = .ok v w' ∧ (∃ v_1, Ending.returned v = .returned v_1 ∧ Below w.heap.size w w' ∧ VRt w' F r v_1) := fun hq => by
    obtain ⟨v, k1, k2⟩ := cresults_ok (P := P) ht0 hr hq
    refine ⟨hr.dfr, v, k1, v, rfl, ⟨hr.os, hr.tape, hr.output, hr.size, fun k hk => hr.frame k hk (fun hx => hx)⟩, ?_⟩
    exact VRt.keep (Keeps.same fun _ hF => .inl hF).1 _ _ (VR.to_tree _ _ ht k2)
  cases e with
  | normal => exact fin q
  | ret => exact fin q
  | exit _ => exact q.elim
  | goto _ => exact q.elim
  | panic _ => exact q.elim
  | outgrown => exact q.elim
end

/-! ### How a walk is typed: the continuation behind a name -/
theorem stepL_nil {tab : List (Nat × TI)} {nt : Nat} {ops : Array Oper} {s : St} : stepL tab nt ops [] s = some s := rfl
theorem stepL_cons {tab : List (Nat × TI)} {nt : Nat} {ops : Array Oper} {o : Oper} {l : List Oper} {s : St} : stepL tab nt ops (o :: l) s = (gstep tab nt ops s o).bind (stepL tab nt ops l) := by
  simp only [stepL]
  cases gstep tab nt ops s o <;> rfl
def okS (K : St → Prop) : Option St → Prop
  | some s => K s
  | none => False
section
variable {P : Program} {C : Cx} {s : St} {ops : Array Oper} {tab : List (Nat × TI)}
theorem TL.go (ht : TabOk P tab) {l : List Oper} {K : St → Prop} (h : okS K (stepL tab C.nt ops l s)) : TL P C ops l s K := by
  cases hs : stepL tab C.nt ops l s with
  | none => rw [hs] at h; exact h.elim
  | some s' => rw [hs] at h; exact TL.run ht hs h
/-- One operation, the rest behind a name. -/
theorem TL.one (ht : TabOk P tab) {o : Oper} {l : List Oper} {K : St → Prop} (h : ∀ K' : St → Prop, (∀ s', TL P C ops l s' K → K' s') → okS K' (gstep tab C.nt ops s o)) : TL P C ops (o :: l) s K := by
  have := h _ fun _ h => h
  cases hs : gstep tab C.nt ops s o with
  | none => rw [hs] at this; exact this.elim
  | some s' => rw [hs] at this; exact TL.step ht hs this
/-- A region and what follows. -/
theorem T.go {id : Nat} {l : List Oper} {Q : Exit → St → Prop} (ht : TabOk P tab) (h : ∀ K : St → Prop, (∀ s', Q .normal s' → K s') → okS K (stepL tab C.nt l.toArray l s)) : T P C (.region id l.toArray false) s Q :=
  T.region (TL.go ht (h _ fun _ h => h))
theorem T.seqgo {id : Nat} {l : List Oper} {y : Code} {Q : Exit → St → Prop} (ht : TabOk P tab) (h : ∀ K : St → Prop, (∀ s', T P C y s' Q → K s') → okS K (stepL tab C.nt l.toArray l s)) : T P C (.seq (.region id l.toArray false) y) s Q :=
  T.seq (T.region (TL.go ht (h _ fun _ h => h)))
end
end Go.Can
