/- The interpreter with all of this: further operations, calls through interfaces, pure calls, draws by one order. No function of the program is mentioned here. -/
import Derived.Test.YtniilppjegieaaaGreatCan34
import Derived.Test.YtniilppjegieaaaGreatCan27
import Derived.Test.YtniilppjegieaaaGreatCan36
namespace Go.Can
open Go.RowKit

/-- How a region that draws is to be run. -/
inductive OrcE where
  | old (pre ord tail : List Nat)
  | tr (ord : List Nat) (dyn : List (Nat × Nat))
structure IP where
  tab : List (Nat × TI)
  mt : Meths
  al : FuncId → Bool
  pu : FuncId → Bool
  orc : FuncId → Nat → Option OrcE
  kns : List (FuncId × List CV × CV)
  mi : List MI := []
  ei : List EI := []
/-- A call that is known. -/
def knl : List (FuncId × List CV × CV) → FuncId → List CV → Option CV
  | [], _, _ => none
  | (h, ds, r) :: l, g, cs => if (h == g && ceqs ds cs) = true then some r else knl l g cs
abbrev PCaller := FuncId → List CV → Option CV
def ostepX (I : IP) (n0 nt : Nat) (ops : Array Oper) (call : Caller) (pcall : PCaller) (o : Oper) (s : St) : Option St :=
  match userCall o with
  | none => match gstep I.tab nt ops s o with
    | some s' => some s'
    | none => match guardS ops s o with
      | some true => if dstOk nt o.dst = true then match xstep n0 I.tab s o with
          | some s' => some s'
          | none => match mstep I.mi n0 s o with
            | some s' => some s'
            | none => match estep I.ei s o with
              | some s' => some s'
              | none => astep I.tab s o
        else none
      | _ => none
  | some c => match guardS ops s o with
    | some true => if dstOk nt o.dst = true then match callTo I.mt s c with
        | some (g, cs) => match (if trees cs then pcall g cs else none) with
          | some r => some (s.put o.dst r)
          | none => match call g cs s.heap s.nx with
            | some (x, H, n) => some (St.put ⟨s.env, H, n⟩ o.dst x)
            | none => none
        | none => none
      else none
    | _ => gstep I.tab nt ops s o
def lrunX (I : IP) (n0 nt : Nat) (ops : Array Oper) (call : Caller) (pcall : PCaller) : List Oper → St → Option St
  | [], s => some s
  | o :: r, s => match ostepX I n0 nt ops call pcall o s with
    | some s' => lrunX I n0 nt ops call pcall r s'
    | none => none
def drX (I : IP) (call : Caller) (pcall : PCaller) (g : FuncId) (n0 nt : Nat) (id : Nat) (ops : Array Oper) (s : St) : Option St := match I.orc g id with
  | none => none
  | some (.old pre ord tail) => match qrun I.tab nt ops (pre ++ ord) s with
    | none => none
    | some s' => lrunX I n0 nt ops call pcall (tail.map (ops.getD · default)) s'
  | some (.tr ord dyn) => xdraw I.tab I.mt nt ops call pcall ord dyn s
/-- The check of a region, once. -/
def gdX (I : IP) (g : FuncId) (id : Nat) (ops : Array Oper) (d : Bool) : Bool := !d || match I.orc g id with
  | some (.old pre ord tail) => drawB ops pre ord tail
  | some (.tr ord dyn) => traceS ops ord dyn
  | none => true
def regX (I : IP) (call : Caller) (pcall : PCaller) (g : FuncId) (n0 nt : Nat) (id : Nat) (ops : Array Oper) (d : Bool) (s : St) : Option St :=
  if d then drX I call pcall g n0 nt id ops s else lrunX I n0 nt ops call pcall ops.toList s

def callOf (I : IP) (go : FuncId → List CV → List (Nat × Ob) → Nat → Option (Func × St)) : Caller := fun g cs H n => match go g cs H n with
  | some (fn, s) => match cresults I.tab fn s with
    | some r => some (r, s.heap, s.nx)
    | none => none
  | none => none
def pureOf (I : IP) (go : FuncId → List CV → List (Nat × Ob) → Nat → Option (Func × St)) : PCaller := fun g cs => match knl I.kns g cs with
  | some r => some r
  | none => if I.pu g then match go g cs [] 0 with
    | some (fn, s) => match cresults I.tab fn s with
      | some r => deep s.heap 60 r
      | none => none
    | none => none
    else none
/-- Bodies by fuel: the function and the state at its end. -/
def goX (P : Program) (I : IP) : Nat → FuncId → List CV → List (Nat × Ob) → Nat → Option (Func × St)
  | 0, _, _, _, _ => none
  | f + 1, g, cs, H, n => match P.funcs[g]? with
    | none => none
    | some fn => match fn.body with
      | none => none
      | some c => if (fn.name == "runtime.NumGoroutine") = false ∧ cs.length ≤ fn.ntmps ∧ I.al g = true then
          match crun (regX I (callOf I (goX P I f)) (pureOf I (goX P I f)) g n fn.ntmps) f c ⟨(enter cs).env, H, n⟩ with
          | some (.normal, s') => some (fn, s')
          | some (.ret, s') => some (fn, s')
          | _ => none
        else none

section
variable {P : Program} {C : Cx} {s : St} {I : IP} {ops : Array Oper} {call : Caller} {pcall : PCaller}

structure IOk (P : Program) (I : IP) : Prop where
  kn : ∀ x ∈ I.kns, PureCall P x.1 x.2.1 x.2.2
  tab : TabOk P I.tab
  mt : MethsOk P I.mt
  mi : MIok P I.mi
  ei : EIok P I.ei
  md : P.follows .mixedOrders = true
  gd : ∀ g fn c, I.al g = true → P.funcs[g]? = some fn → fn.body = some c → goodC (gdX I g) c = true

theorem ostepX_ok (hI : IOk P I) (hc : CallerOk P I.tab call) (hp : PcOk P pcall) {o : Oper} {l : List Oper} {s' : St} {K : St → Prop} (h : ostepX I C.n0 C.nt ops call pcall o s = some s') (hk : TL P C ops l s' K) : TL P C ops (o :: l) s K := by
  unfold ostepX at h
  split at h
  · split at h
    · rename_i s1 h1
      cases h
      exact TL.step hI.tab h1 hk
    · split at h
      · rename_i hg
        split at h
        · rename_i hd
          split at h
          · rename_i s1 h1
            cases h
            exact execX hg (xstep_ok hI.tab hd h1) hk
          · split at h
            · rename_i s1 h1
              cases h
              exact execX hg (mstep_ok hI.mi hd h1) hk
            · split at h
              · rename_i s1 h1
                cases h
                exact execX hg (estep_ok hI.ei hd h1) hk
              · exact execX hg (astep_ok hI.tab hd h) hk
        · cases h
      · cases h
  · rename_i c hu
    have hop := userCall_op hu
    split at h
    · rename_i hg
      split at h
      · rename_i hd
        split at h
        · rename_i g cs hca
          split at h
          · rename_i r hr
            cases h
            split at hr
            · rename_i ht
              have hP := hp g cs r hr
              exact pureE hd hg (Ent.to hI.mt hop hca hP.1) ht hP hk
            · cases hr
          · split at h
            · rename_i x H n hx
              cases h
              have hB := hc _ _ _ _ _ _ _ hx
              have hE : Enters P g := by
                obtain ⟨fn, c, h1, h2, h3, _⟩ := hB
                exact ⟨fn, h1, h3, by simp [h2]⟩
              refine callE hI.tab hd hg (Ent.to hI.mt hop hca hE) hB ?_
              rintro r s1 ⟨rfl, rfl, rfl⟩
              exact hk
            · cases h
        · cases h
      · cases h
    · exact TL.step hI.tab h hk
theorem lrunX_ok (hI : IOk P I) (hc : CallerOk P I.tab call) (hp : PcOk P pcall) : ∀ (l : List Oper) (s s' : St), lrunX I C.n0 C.nt ops call pcall l s = some s' → TL P C ops l s fun x => x = s'
  | [], s, s', h => by
    simp only [lrunX] at h
    cases h
    exact TL.nil rfl
  | o :: r, s, s', h => by
    simp only [lrunX] at h
    split at h
    · rename_i s1 h1
      exact ostepX_ok hI hc hp h1 (lrunX_ok hI hc hp r s1 s' h)
    · cases h
theorem drX_ok (hI : IOk P I) (hc : CallerOk P I.tab call) (hp : PcOk P pcall) (g : FuncId) (id : Nat) (ops : Array Oper) (s s' : St) (hg : gdX I g id ops true = true) (h : drX I call pcall g C.n0 C.nt id ops s = some s') : T P C (.region id ops true) s fun e x => e = .normal ∧ x = s' := by
  unfold drX at h
  unfold gdX at hg
  split at h
  · cases h
  · rename_i pre ord tail ho
    rw [ho] at hg
    split at h
    · cases h
    · rename_i s1 h1
      have hB : drawB ops.toList.toArray pre ord tail = true := by simpa using hg
      have hl := lrunX_ok (ops := ops) hI hc hp _ _ _ h
      have := T.draw (P := P) (C := C) (s := s) (id := id) (l := ops.toList) (Q := fun e x => e = .normal ∧ x = s') hI.tab hI.md pre ord tail hB (qrun_ok (pre ++ ord) s s1 (by simpa using h1) (by
        intro a w Q hr hQ
        have k := hl a w Q hr fun x a' w' hx hr' => hQ x a' w' ⟨rfl, hx⟩ hr'
        simpa using k))
      simpa using this
  · rename_i ord dyn ho
    rw [ho] at hg
    exact T.trace hI.tab hI.mt hc hp hI.md (by simpa using hg) h
theorem regX_ok (hI : IOk P I) (hc : CallerOk P I.tab call) (hp : PcOk P pcall) (g : FuncId) : RegOk P C (gdX I g) (regX I call pcall g C.n0 C.nt) := by
  intro id ops d s s' hg h
  unfold regX at h
  cases d with
  | true => exact drX_ok hI hc hp g id ops s s' hg (by simpa using h)
  | false =>
    have hl := lrunX_ok (ops := ops.toList.toArray) hI hc hp ops.toList s s' (by simpa using h)
    simpa using TL.again (id := id) hl

/-- What a run of a body says. -/
def GoOk (P : Program) (go : FuncId → List CV → List (Nat × Ob) → Nat → Option (Func × St)) : Prop := ∀ g cs H n fn s', go g cs H n = some (fn, s') → ∃ c, P.funcs[g]? = some fn ∧ fn.body = some c ∧ (fn.name == "runtime.NumGoroutine") = false ∧ cs.length ≤ fn.ntmps ∧
  ∀ C : Cx, C.nt = fn.ntmps → C.n0 = n → T P C c ⟨(enter cs).env, H, n⟩ fun e x => (e = .normal ∨ e = .ret) ∧ x = s'
theorem callOf_ok {go : FuncId → List CV → List (Nat × Ob) → Nat → Option (Func × St)} (h : GoOk P go) : CallerOk P I.tab (callOf I go) := by
  intro g cs H n x H' n' hx
  unfold callOf at hx
  split at hx
  · rename_i fn s' hg
    split at hx
    · rename_i r hr
      cases hx
      obtain ⟨c, h1, h2, h3, h4, h5⟩ := h _ _ _ _ _ _ hg
      refine Body.of_T h1 h2 h3 h4 fun C hC hC0 => T.mono (h5 C hC hC0) ?_
      rintro e x ⟨rfl | rfl, rfl⟩ <;> exact upTo.here ⟨_, hr, rfl, rfl, rfl⟩
    · cases hx
  · cases hx
theorem knl_mem : ∀ (l : List (FuncId × List CV × CV)) (g : FuncId) (cs : List CV) (r : CV), knl l g cs = some r → (g, cs, r) ∈ l
  | [], _, _, _, h => by simp [knl] at h
  | (h', ds, r') :: l, g, cs, r, h => by
    simp only [knl] at h
    split at h
    · rename_i e
      simp only [Bool.and_eq_true, beq_iff_eq] at e
      cases h
      rw [ceqs_ok _ _ e.2, e.1]
      exact List.mem_cons_self
    · exact List.mem_cons_of_mem _ (knl_mem l g cs r h)
theorem pureOf_ok (ht : TabOk P I.tab) (hk : ∀ x ∈ I.kns, PureCall P x.1 x.2.1 x.2.2) {go : FuncId → List CV → List (Nat × Ob) → Nat → Option (Func × St)} (h : GoOk P go) : PcOk P (pureOf I go) := by
  intro g cs r hx
  unfold pureOf at hx
  split at hx
  · rename_i r' hk'
    cases hx
    exact hk _ (knl_mem _ _ _ _ hk')
  · split at hx
    · split at hx
      · rename_i fn s' hg
        split at hx
        · rename_i r0 hr
          obtain ⟨c, h1, h2, h3, h4, h5⟩ := h _ _ _ _ _ _ hg
          refine PureCall.of_deep ht h1 h2 h3 h4 fun C hC hC0 => T.mono (h5 C hC hC0) ?_
          rintro e x ⟨rfl | rfl, rfl⟩ <;> exact ⟨r0, 60, hr, hx⟩
        · cases hx
      · cases hx
    · cases hx
theorem goX_ok (hI : IOk P I) : ∀ f, GoOk P (goX P I f)
  | 0 => fun _ _ _ _ _ _ h => by simp [goX] at h
  | f + 1 => fun g cs H n fn s' h => by
    have ih := goX_ok hI f
    simp only [goX] at h
    split at h
    · cases h
    · rename_i fn' hf
      split at h
      · cases h
      · rename_i c hb
        split at h
        · rename_i hcond
          cases hx : crun (regX I (callOf I (goX P I f)) (pureOf I (goX P I f)) g n fn'.ntmps) f c ⟨(enter cs).env, H, n⟩ with
          | none => rw [hx] at h; cases h
          | some q =>
            rw [hx] at h
            obtain ⟨e3, s1⟩ := q
            have hT : ∀ C : Cx, C.nt = fn'.ntmps → C.n0 = n → T P C c ⟨(enter cs).env, H, n⟩ fun e x => e = e3 ∧ x = s1 := fun C hC hC0 => by
              have hR : RegOk P C (gdX I g) (regX I (callOf I (goX P I f)) (pureOf I (goX P I f)) g C.n0 C.nt) := regX_ok hI (callOf_ok ih) (pureOf_ok hI.tab hI.kn ih) g
              rw [hC, hC0] at hR
              exact T.mono (crun_ok hR f c _ _ (hI.gd g fn' c hcond.2.2 hf hb) hx) fun e x he => he
            cases e3 <;> simp only at h <;> first | cases h | skip
            all_goals
              exact ⟨c, hf, hb, hcond.1, hcond.2.1, fun C hC hC0 => T.mono (hT C hC hC0) fun e x he => ⟨by simp [he.1], he.2⟩⟩
        · cases h
/-- A pure call, run. -/
theorem pureX (hI : IOk P I) (f : Nat) {g : FuncId} {cs : List CV} {r : CV} (h : pureOf I (goX P I f) g cs = some r) : PureCall P g cs r := pureOf_ok hI.tab hI.kn (goX_ok hI f) g cs r h
end

/-! ### The checks, once for a program -/
def gdAll (P : Program) (I : IP) (l : List Nat) : Bool := l.all fun g => match P.funcs[g]? with
  | some fn => match fn.body with
    | some c => goodC (gdX I g) c
    | none => true
  | none => true
theorem gdAll_kns {P : Program} (I : IP) (kns : List (FuncId × List CV × CV)) (l : List Nat) : gdAll P { I with kns := kns } l = gdAll P I l := rfl
theorem gdAll_ok {P : Program} {I : IP} {l : List Nat} (h : gdAll P I l = true) (hl : ∀ g, I.al g = true → g ∈ l) : ∀ g fn c, I.al g = true → P.funcs[g]? = some fn → fn.body = some c → goodC (gdX I g) c = true := fun g fn c ha hf hb => by
  have := List.all_eq_true.1 h g (hl g ha)
  simp only [hf, hb] at this
  exact this
def methB (P : Program) (t : Nat) (name : String) (g : FuncId) : Bool := match P.info? t with
  | some i => match i.methods.find? (·.name == name) with
    | some m => match m.path.toList, m.func with
      | [], some (h, false) => h == g && match P.underlying t with
        | some (.pointer _) => false
        | some _ => true
        | none => false
      | _, _ => false
    | none => false
  | none => false
theorem methB_ok {P : Program} {t : Nat} {name : String} {g : FuncId} (h : methB P t name g = true) : MethRow P t name g := by
  unfold methB at h
  split at h
  · rename_i i hi
    split at h
    · rename_i m hm
      split at h
      · rename_i k hp hf
        simp only [Bool.and_eq_true, beq_iff_eq] at h
        obtain ⟨rfl, h2⟩ := h
        refine ⟨⟨i, m, hi, hm, hp, by rw [Array.isEmpty_iff_size_eq_zero, ← Array.length_toList, hp]; rfl, hf⟩, ?_⟩
        split at h2
        · cases h2
        · rename_i d hn hd
          exact ⟨d, hd, fun e he => hn e (by rw [he])⟩
        · cases h2
      · cases h
    · cases h
  · cases h
def methAll (P : Program) (mt : Meths) : Bool := mt.all fun x => methB P x.1.1 x.1.2 x.2
theorem methAll_ok {P : Program} {mt : Meths} (h : methAll P mt = true) : MethsOk P mt := fun x hx => methB_ok (List.all_eq_true.1 h x hx)
end Go.Can
