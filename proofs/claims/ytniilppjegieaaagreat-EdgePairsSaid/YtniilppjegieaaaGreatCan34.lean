/- **A region that draws, by one order.** No function of the program is mentioned here. -/
import Derived.Test.YtniilppjegieaaaGreatCan33
namespace Go.Can
open Go.RowKit

abbrev Er := Ef × List Nat × Bool × Option (Nat × Nat)
instance : Inhabited Er := ⟨(⟨none, [], 0⟩, [], false, none)⟩
/-- May the operation turn memory? -/
def loudX (o : Oper) : Bool := match o.op with
  | .alloc _ => true
  | .box _ _ => true
  | .buildSlice _ _ _ => true
  | .makeSlice _ _ _ => true
  | .store _ _ _ => true
  | .call c => match c.callee with
    | .builtin .append => true
    | .builtin _ => false
    | _ => true
  | _ => false
/-- Does it look at slots alone? -/
def slotX (o : Oper) : Bool := !loudX o && match o.op with
  | .load _ _ => false
  | .slice _ _ _ _ _ => false
  | _ => true
def ordX (ops : Array Oper) : List Nat → List Nat → Bool
  | _, [] => true
  | pre, i :: r => (match ops[i]? with
      | some o => o.after.all fun e => !Region.binds .any e || pre.contains e.on
      | none => false) && ordX ops (i :: pre) r
def pairX (ops : Array Oper) (dyn : List (Nat × Nat)) (i j : Nat) : Bool := match ops[i]?, ops[j]? with
  | some oi, some oj => waitsT ops ops.size j i || (oi.apart ops oj && (dyn.contains (i, j) || (!loudX oi && !loudX oj) || slotX oi || slotX oj))
  | _, _ => false
def pairsX (ops : Array Oper) (dyn : List (Nat × Nat)) : List Nat → Bool
  | [] => true
  | i :: r => (r.all fun j => pairX ops dyn i j) && pairsX ops dyn r
/-- The check of an order, once for a region. -/
def traceS (ops : Array Oper) (ord : List Nat) (dyn : List (Nat × Nat)) : Bool :=
  decide ord.Nodup && ((List.range ops.size).all fun j => ord.contains j) && (ord.all fun i => decide (i < ops.size)) && ordX ops [] ord && pairsX ops dyn ord
def rngB (w : List (Nat × Option Ob)) : Option (Nat × Nat) → Bool
  | none => true
  | some r => w.all fun p => decide (r.1 ≤ p.1) && decide (p.1 < r.2)
theorem rngB_none (w : List (Nat × Option Ob)) : rngB w none = true := rfl
theorem rngB_nil (r : Option (Nat × Nat)) : rngB [] r = true := by cases r <;> rfl
def indB (x y : Er) : Bool :=
  (x.1.w.all fun p => !y.2.1.contains p.1 && (y.1.w.all fun q => q.1 != p.1)) && (y.1.w.all fun q => !x.2.1.contains q.1) && (!y.2.2.1 || x.1.k == 0) && (!x.2.2.1 || y.1.k == 0) && rngB x.1.w y.2.2.2 && rngB y.1.w x.2.2.2
def dynB (l : List (Nat × Er)) (dyn : List (Nat × Nat)) : Bool := dyn.all fun p => match assoc l p.1, assoc l p.2 with
  | some x, some y => indB x y
  | _, _ => false
def trun (tab : List (Nat × TI)) (mt : Meths) (nt : Nat) (ops : Array Oper) (call : Caller) (pc : FuncId → List CV → Option CV) (N : Nat) : List Nat → St → Option (List (Nat × Er) × St)
  | [], s => some ([], s)
  | i :: r, s => match ops[i]? with
    | none => none
    | some o => if dstOk nt o.dst = true then match eff1 tab mt ops call pc N (N + ops.size) (N + i) s o with
        | none => none
        | some x => match trun tab mt nt ops call pc N r (apS o.dst x.1 s) with
          | none => none
          | some (l, s') => some ((i, x) :: l, s')
      else none
def xdraw (tab : List (Nat × TI)) (mt : Meths) (nt : Nat) (ops : Array Oper) (call : Caller) (pc : FuncId → List CV → Option CV) (ord : List Nat) (dyn : List (Nat × Nat)) (s : St) : Option St :=
  match trun tab mt nt ops call pc s.nx ord { s with nx := s.nx + ops.size } with
  | none => none
  | some (l, s') => if dynB l dyn = true then some s' else none

section
variable {P : Program} {C : Cx} {s s' : St} {ops : Array Oper} {tab : List (Nat × TI)} {mt : Meths} {pc : FuncId → List CV → Option CV} {call : Caller}

def TRun (tab : List (Nat × TI)) (mt : Meths) (nt : Nat) (ops : Array Oper) (call : Caller) (pc : FuncId → List CV → Option CV) (N : Nat) (res : Nat → Er) : List Nat → St → St → Prop
  | [], s, s' => s = s'
  | i :: r, s, s' => ∃ o, ops[i]? = some o ∧ dstOk nt o.dst = true ∧ eff1 tab mt ops call pc N (N + ops.size) (N + i) s o = some (res i) ∧ TRun tab mt nt ops call pc N res r (apS o.dst (res i).1 s) s'
theorem TRun.ext {nt N : Nat} {res res' : Nat → Er} : ∀ (l : List Nat) (s s' : St), (∀ i ∈ l, res i = res' i) → TRun tab mt nt ops call pc N res l s s' → TRun tab mt nt ops call pc N res' l s s'
  | [], _, _, _, h => h
  | i :: r, s, s', he, ⟨o, h1, h2, h3, h4⟩ => by
    have e := he i (by simp)
    rw [e] at h3 h4
    exact ⟨o, h1, h2, h3, TRun.ext r _ s' (fun j hj => he j (by simp [hj])) h4⟩
theorem trun_ok {nt N : Nat} : ∀ (ord : List Nat) (s s' : St) (l : List (Nat × Er)), ord.Nodup → trun tab mt nt ops call pc N ord s = some (l, s') → TRun tab mt nt ops call pc N (fun i => (assoc l i).getD default) ord s s'
  | [], s, s', l, _, h => by
    simp only [trun, Option.some.injEq, Prod.mk.injEq] at h
    exact h.2
  | i :: r, s, s', l, hn, h => by
    rw [List.nodup_cons] at hn
    simp only [trun] at h
    split at h
    · cases h
    · rename_i o ho
      split at h
      · rename_i hd
        split at h
        · cases h
        · rename_i x hx
          split at h
          · cases h
          · rename_i l' s1 hr
            cases h
            have ih := trun_ok r _ _ l' hn.2 hr
            have e0 : ((assoc ((i, x) :: l') i).getD default) = x := by simp [assoc]
            refine ⟨o, ho, hd, by simp only [e0]; exact hx, ?_⟩
            simp only [e0]
            refine TRun.ext r _ _ (fun j hj => ?_) ih
            have : i ≠ j := fun e => hn.1 (by subst e; exact hj)
            simp [assoc, this]
      · cases h
theorem TRun.at_ {nt N : Nat} {res : Nat → Er} : ∀ (pre : List Nat) (i : Nat) (post : List Nat) (s s' : St), TRun tab mt nt ops call pc N res (pre ++ i :: post) s s' →
    ∃ o sm, ops[i]? = some o ∧ dstOk nt o.dst = true ∧ eff1 tab mt ops call pc N (N + ops.size) (N + i) sm o = some (res i) ∧ fs sm = foldL (dstAt ops) (fun j => (res j).1) (fun _ => true) pre (fs s)
  | [], i, post, s, s', ⟨o, h1, h2, h3, _⟩ => ⟨o, s, h1, h2, h3, rfl⟩
  | k :: pre, i, post, s, s', ⟨o, h1, h2, h3, h4⟩ => by
    obtain ⟨o', sm, k1, k2, k3, k4⟩ := TRun.at_ pre i post _ s' h4
    refine ⟨o', sm, k1, k2, k3, ?_⟩
    rw [k4, fs_apS]
    have : dstAt ops k = o.dst := by simp [dstAt, h1]
    simp only [foldL, if_true, this]
theorem TRun.fin {nt N : Nat} {res : Nat → Er} : ∀ (l : List Nat) (s s' : St), TRun tab mt nt ops call pc N res l s s' → fs s' = foldL (dstAt ops) (fun j => (res j).1) (fun _ => true) l (fs s)
  | [], s, s', h => by cases h; rfl
  | k :: l, s, s', ⟨o, h1, h2, h3, h4⟩ => by
    rw [TRun.fin l _ s' h4, fs_apS]
    have : dstAt ops k = o.dst := by simp [dstAt, h1]
    simp only [foldL, if_true, this]

theorem quiet_eff {lo hi m : Nat} {o : Oper} {x : Er} (h : eff1 tab mt ops call pc lo hi m s o = some x) (hl : loudX o = false) : x.1.w = [] ∧ x.1.k = 0 ∧ x.2.2.1 = false ∧ x.2.2.2 = none := by
  unfold eff1 at h
  split at h
  · cases h
  · cases h; exact ⟨rfl, rfl, rfl, rfl⟩
  · split at h
    · rename_i c hu
      have hop := userCall_op hu
      exfalso
      unfold userCall at hu
      rw [hop] at hu
      simp only at hu
      simp only [loudX, hop] at hl
      cases hcl : c.callee <;> rw [hcl] at hu hl <;> simp at hu hl
    · split at h
      · cases h; exact ⟨rfl, rfl, rfl, rfl⟩
      · split at h
        · rename_i ob f hv
          exfalso
          revert hl hv
          cases hop : o.op <;> simp [loudX, hop, aval2, aval]
        · split at h
          · rename_i hop; simp [loudX, hop] at hl
          · rename_i cl hop
            split at h
            · rename_i hcl _ _
              simp [loudX, hop, hcl] at hl
            · cases h
          · cases h
theorem slot_eff {lo hi m : Nat} {o : Oper} {x : Er} (h : eff1 tab mt ops call pc lo hi m s o = some x) (hl : slotX o = true) : x.2.1 = [] := by
  simp only [slotX, Bool.and_eq_true, Bool.not_eq_true'] at hl
  obtain ⟨hl, hs⟩ := hl
  unfold eff1 at h
  split at h
  · cases h
  · cases h; rfl
  · split at h
    · rename_i c hu
      have hop := userCall_op hu
      exfalso
      unfold userCall at hu
      rw [hop] at hu
      simp only at hu
      simp only [loudX, hop] at hl
      cases hcl : c.callee <;> rw [hcl] at hu hl <;> simp at hu hl
    · split at h
      · cases h
        simp only
        unfold rdsQ
        split
        · rename_i hop; simp [hop] at hs
        · rename_i hop; simp [hop] at hs
        · rfl
      · split at h
        · cases h; rfl
        · split at h
          · rename_i hop; simp [loudX, hop] at hl
          · rename_i cl hop
            split at h
            · rename_i hcl _ _
              simp [loudX, hop, hcl] at hl
            · cases h
          · cases h
theorem ind_of {d d' : Option Tmp} {V V' : List Nat} {x y : Er} (h : indB x y = true) (s1 : ∀ t, d = some t → t ∉ V') (s2 : ∀ t, d' = some t → t ∉ V) (s3 : ∀ t, d = some t → d' ≠ some t) : Ind d d' x.1 y.1 ⟨V, x.2.1, x.2.2.1, x.2.2.2⟩ ⟨V', y.2.1, y.2.2.1, y.2.2.2⟩ := by
  simp only [indB, Bool.and_eq_true, List.all_eq_true, Bool.not_eq_true', bne_iff_ne, Bool.or_eq_true, beq_iff_eq] at h
  obtain ⟨⟨⟨⟨⟨h1, h2⟩, h3⟩, h4⟩, h5⟩, h6⟩ := h
  refine ⟨s1, s2, s3, fun o z hz ho => ?_, fun o z hz ho => ?_, fun o z hz => ?_, fun hn => ?_, fun hn => ?_, fun rr hn => ?_, fun rr hn => ?_⟩
  · have := (h1 _ (assoc_mem _ _ _ hz)).1
    simp at this
    exact this ho
  · have := h2 _ (assoc_mem _ _ _ hz)
    simp at this
    exact this ho
  · have := (h1 _ (assoc_mem _ _ _ hz)).2
    cases h7 : assoc y.1.w o with
    | none => rfl
    | some u =>
      have h8 := this _ (assoc_mem _ _ _ h7)
      simp at h8
  · rcases h3 with h3 | h3
    · have hn' : y.2.2.1 = true := hn
      rw [hn'] at h3; cases h3
    · exact h3
  · rcases h4 with h4 | h4
    · have hn' : x.2.2.1 = true := hn
      rw [hn'] at h4; cases h4
    · exact h4
  · have hn' : y.2.2.2 = Option.some rr := hn
    rw [hn'] at h5
    simp only [rngB, List.all_eq_true, Bool.and_eq_true, decide_eq_true_eq] at h5
    exact fun o z hz => h5 _ (assoc_mem _ _ _ hz)
  · have hn' : x.2.2.2 = Option.some rr := hn
    rw [hn'] at h6
    simp only [rngB, List.all_eq_true, Bool.and_eq_true, decide_eq_true_eq] at h6
    exact fun o z hz => h6 _ (assoc_mem _ _ _ hz)
theorem ordX_spec : ∀ (l acc : List Nat), ordX ops acc l = true → ∀ pre i post, l = pre ++ i :: post → ∀ oi, ops[i]? = some oi → ∀ e ∈ oi.after, Region.binds .any e = true → e.on ∈ acc ∨ e.on ∈ pre
  | [], _, _, pre, i, post, h, _, _, _, _, _ => by simp at h
  | k :: r, acc, hx, pre, i, post, h, oi, hoi, e, he, hb => by
    simp only [ordX, Bool.and_eq_true] at hx
    cases pre with
    | nil =>
      simp only [List.nil_append, List.cons.injEq] at h
      obtain ⟨rfl, _⟩ := h
      have h1 := hx.1
      rw [hoi] at h1
      simp only [Array.all_eq_true_iff_forall_mem] at h1
      have := h1 e he
      simp only [hb, Bool.not_true, Bool.false_or, List.contains_eq_mem, decide_eq_true_eq] at this
      exact .inl this
    | cons p pre =>
      simp only [List.cons_append, List.cons.injEq] at h
      obtain ⟨rfl, h⟩ := h
      rcases ordX_spec r (k :: acc) hx.2 pre i post h oi hoi e he hb with h2 | h2
      · rcases List.mem_cons.1 h2 with e2 | h2
        · exact .inr (by simp [e2])
        · exact .inl h2
      · exact .inr (List.mem_cons_of_mem _ h2)
theorem pairsX_spec {dyn : List (Nat × Nat)} : ∀ (l : List Nat), pairsX ops dyn l = true → ∀ pre i post, l = pre ++ i :: post → ∀ j ∈ post, pairX ops dyn i j = true
  | [], _, pre, i, post, h, _, _ => by simp at h
  | k :: r, hx, pre, i, post, h, j, hj => by
    simp only [pairsX, Bool.and_eq_true, List.all_eq_true] at hx
    cases pre with
    | nil =>
      simp only [List.nil_append, List.cons.injEq] at h
      obtain ⟨rfl, rfl⟩ := h
      exact hx.1 j hj
    | cons p pre =>
      simp only [List.cons_append, List.cons.injEq] at h
      exact pairsX_spec r hx.2 pre i post h.2 j hj

theorem T.trace (ht : TabOk P tab) (hmt : MethsOk P mt) (hcl : CallerOk P tab call) (hpc : PcOk P pc) (hm : P.follows .mixedOrders = true) {id : Nat} {ord : List Nat} {dyn : List (Nat × Nat)} (hS : traceS ops ord dyn = true) (h : xdraw tab mt C.nt ops call pc ord dyn s = Option.some s') :
    T P C (.region id ops true) s fun e x => e = .normal ∧ x = s' := by
  intro a w ⟨σ, hr⟩
  unfold xdraw at h
  split at h
  · cases h
  rename_i l sF hrun
  split at h
  · rename_i hdyn
    cases h
    simp only [traceS, Bool.and_eq_true, decide_eq_true_eq, List.all_eq_true, List.contains_eq_mem] at hS
    obtain ⟨⟨⟨⟨hn, hcov⟩, hlt⟩, hox⟩, hpx⟩ := hS
    have hcov' : ∀ j, j < ops.size → j ∈ ord := fun j hj => hcov j (List.mem_range.2 hj)
    have hT := trun_ok ord _ _ l hn hrun
    generalize hres : (fun i => (assoc l i).getD default) = res at hT
    let x0 : FS := fs { s with nx := s.nx + ops.size }
    let V : Nat → Vw := fun i => ⟨(match ops[i]? with | Option.some o => o.looksAt ops | none => []), (res i).2.1, (res i).2.2.1, (res i).2.2.2⟩
    let R : Array Bool → FS → Act → World → Prop := fun listed x a w => ∃ s σ', fs s = x ∧ RelAt C σ' s a w ∧ x0.n ≤ s.nx ∧ ∀ j, j < ops.size → listed.getD j false = false → σ' (x0.n - ops.size + j) = none
    have hN : x0.n - ops.size = s.nx := by simp only [x0, fs]; omega
    have hlow := hr.low
    have hstart : RelAt C σ { s with nx := s.nx + ops.size } a { w with drawn := w.drawn + 1 } := by
      obtain ⟨σ2, h2⟩ : Rel C s a { w with drawn := w.drawn + 1 } := Rel.drew ⟨σ, hr⟩
      exact ⟨hr.dfr, hr.tm, hr.os, hr.tape, hr.output, hr.size, hr.frame, fun t c hc => (by
        obtain ⟨v, k1, k2⟩ := hr.env t c hc
        exact ⟨v, k1, VR.keep keeps_drew c v (fun _ _ => rfl) k2⟩), fun o ob ho => (by
        obtain ⟨B, m1, m2, m3, m4, m5⟩ := hr.obj o ob ho
        refine ⟨B, m1, m2, m3, m4, fun b hb => ?_⟩
        obtain ⟨cur, n1, n2, n3, n4, n5, n6⟩ := m5 b hb
        exact ⟨cur, n1, n2, n3, n4, n5, VRs.keep keeps_drew _ _ (fun _ _ => rfl) n6⟩), hr.inj, fun o ho => hr.nx o (by simp only [ge_iff_le] at ho ⊢; omega), hr.old, by simp only; omega, hr.new⟩
    refine wp_mono (Q := fun e a' w' => e = .normal ∧ Rel C s' a' w') (wp_region_any hm ?_) (fun e a' w' ⟨he, hr'⟩ => ⟨s', ⟨he, rfl⟩, hr'⟩)
    have hdst : ∀ {k ok}, ops[k]? = Option.some ok → dstAt ops k = ok.dst := fun {k ok} h => by simp [dstAt, h]
    refine trace_any (P := P) (ops := ops) (ord := ord) (dst := dstAt ops) (E := fun j => (res j).1) (V := V) (x0 := x0) (R := R) (Q' := fun e a' w' => e = .normal ∧ Rel C s' a' w') hn hcov' hlt ?_ ?_ ?_ ?_ ops.size _ _ _ (by simp) ?_ ?_ ?_
    · intro pre i post ho oi hoi e he hb
      rcases ordX_spec ord [] hox pre i post ho oi hoi e he hb with h1 | h1
      · cases h1
      · exact h1
    · intro pre i post ho j hj
      have hp := pairsX_spec ord hpx pre i post ho j hj
      unfold pairX at hp
      split at hp
      · rename_i oi oj hoi hoj
        simp only [Bool.or_eq_true, Bool.and_eq_true] at hp
        rcases hp with hp | ⟨hap, hp⟩
        · exact .inl (waitsT_beh _ _ _ hp)
        · refine .inr ?_
          obtain ⟨a1, a2, a3⟩ := Oper.apart_spec hap
          obtain ⟨o1, sm1, q1, q2, q3, q4⟩ := TRun.at_ pre i post _ _ (ho ▸ hT)
          have : o1 = oi := Option.some.inj (q1.symm.trans hoi)
          subst this
          obtain ⟨p1, p2, hpp⟩ := List.append_of_mem hj
          have ho2 : ord = (pre ++ i :: p1) ++ j :: p2 := by rw [ho, hpp]; simp
          obtain ⟨o2, sm2, r1, r2, r3, r4⟩ := TRun.at_ (pre ++ i :: p1) j p2 _ _ (ho2 ▸ hT)
          have : o2 = oj := Option.some.inj (r1.symm.trans hoj)
          subst this
          have hV : V i = ⟨o1.looksAt ops, (res i).2.1, (res i).2.2.1, (res i).2.2.2⟩ := by simp only [V, hoi]
          have hV' : V j = ⟨o2.looksAt ops, (res j).2.1, (res j).2.2.1, (res j).2.2.2⟩ := by simp only [V, hoj]
          rw [hV, hV', hdst hoi, hdst hoj]
          have hb : indB (res i) (res j) = true := by
            rcases hp with ((hp | hp) | hp) | hp
            · have hm := List.all_eq_true.1 hdyn (i, j) (by simpa using hp)
              simp only at hm
              rw [← hres]
              split at hm
              · rename_i x y h1 h2
                simp only [h1, h2, Option.getD_some]
                exact hm
              · cases hm
            · simp only [Bool.not_eq_true', Bool.and_eq_true] at hp
              obtain ⟨u1, u2, u3, u4⟩ := quiet_eff q3 hp.1
              obtain ⟨v1, v2, v3, v4⟩ := quiet_eff r3 hp.2
              simp [indB, rngB_nil, rngB_none, u1, u2, u3, u4, v1, v2, v3, v4]
            · have hl : loudX o1 = false := by simp only [slotX, Bool.and_eq_true, Bool.not_eq_true'] at hp; exact hp.1
              obtain ⟨u1, u2, u3, u4⟩ := quiet_eff q3 hl
              simp [indB, rngB_nil, rngB_none, u1, u2, u3, u4, slot_eff q3 hp]
            · have hl : loudX o2 = false := by simp only [slotX, Bool.and_eq_true, Bool.not_eq_true'] at hp; exact hp.1
              obtain ⟨u1, u2, u3, u4⟩ := quiet_eff r3 hl
              simp [indB, rngB_nil, rngB_none, u1, u2, u3, u4, slot_eff r3 hp]
          exact ind_of hb a1 a3 a2
      · cases hp
    · intro pre i post ho listed x a w K hsz hui ⟨s1, σ1, e1, hr1, hle, hfree⟩ hag hK
      obtain ⟨o, sm, q1, q2, q3, q4⟩ := TRun.at_ pre i post _ _ (ho ▸ hT)
      have hil := hlt i (by rw [ho]; simp)
      have hV : V i = ⟨o.looksAt ops, (res i).2.1, (res i).2.2.1, (res i).2.2.2⟩ := by simp only [V, q1]
      subst e1
      rw [hV, ← q4] at hag
      have hx0 : x0.n = s.nx + ops.size := rfl
      refine eff1_ok ht hmt hcl hpc (m := s.nx + i) q3 q2 q1 hag hr1 (by have := hfree i hil hui; rwa [hN] at this) (by omega) (by omega) K fun a' w' σ' s'' h1 h2 h3 => ?_
      refine hK a' w' ⟨s'', σ', by rw [h1, hdst q1], h2, ?_, fun j hj hl => ?_⟩
      · have : (fs s'').n = (fs s1).n + (res i).1.k := by rw [h1]; rfl
        simp only [fs] at this
        omega
      · rw [hN]
        have hij : i ≠ j := fun e => by
          subst e
          rw [Array.getD_eq_getD_getElem?] at hl
          simp [hsz, hil] at hl
        rw [h3 (s.nx + j) (by omega) (by omega)]
        have := hfree j hj (by rwa [getD_set_ne false hij] at hl)
        rwa [hN] at this
    · rintro listed a w ⟨s1, σ1, e1, hr1, _, _⟩
      refine ⟨rfl, σ1, hr1.congrF ?_⟩
      rw [e1, TRun.fin ord _ _ hT]
    · intro j oj _ hl
      rw [getD_rep] at hl; cases hl
    · have : ord.length = ops.size := by
        have h1 : ord.Perm (List.range ops.size) := (List.perm_ext_iff_of_nodup hn List.nodup_range).2 fun j => ⟨fun hj => List.mem_range.2 (hlt j hj), fun hj => hcov' j (List.mem_range.1 hj)⟩
        simpa using h1.length_eq
      rw [← this, List.countP_eq_length]
      intro j _
      rw [getD_rep]; rfl
    · refine ⟨{ s with nx := s.nx + ops.size }, σ, ?_, hstart, Nat.le_refl _, fun j hj _ => ?_⟩
      · rw [foldL_congr ord x0 (L' := fun _ => false) fun i _ => getD_rep _ _, foldL_none]
      · rw [hN]
        exact hr.nx _ (by omega)
  · cases h
end
end Go.Can
