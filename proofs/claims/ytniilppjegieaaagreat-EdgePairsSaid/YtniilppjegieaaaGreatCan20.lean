/- A region that draws, its loads hoisted past new objects: where nothing else turns memory than new objects, reading comes first without loss. No function of the program is mentioned here. -/
import Derived.Test.YtniilppjegieaaaGreatCan17
namespace Go.Can
open Go.RowKit

section
variable {P : Program} {C : Cx} {s : St} {a : Act} {w : World} {ops : Array Oper} {tab : List (Nat × TI)} {nt : Nat}

/-- The new object of an operation, and its name's value by the object's number. -/
def aval (tab : List (Nat × TI)) (s : St) : Op → Option (Ob × (Nat → CV))
  | .box e x => match ev s x with
    | some c => if isTup c then none else some (⟨e, 0, c.cells⟩, fun m => .optr m 0)
    | none => none
  | .buildSlice t len parts => match tdAt tab t with
    | some (.sl e) => match assoc tab e, cparts s parts.toList with
      | some ie, some cs => if len * ie.size ≤ 16777216 ∧ len ≤ 16777216 then (cfill (fun i => some (i * ie.size, ie.size)) (czeros ie.zero len) cs).map fun out => (⟨e, ie.size, out⟩, fun m => .osl m 0 len) else none
      | _, _ => none
    | _ => none
  | _ => none
def isNew : Op → Bool
  | .box _ _ => true
  | .buildSlice _ _ _ => true
  | _ => false
def isRead : Op → Bool
  | .move _ => true
  | .assign _ => true
  | .load _ _ => true
  | .fieldAddr _ _ _ => true
  | .indexAddr _ _ _ => true
  | _ => false
def St.push (s : St) (ob : Ob) : St := { s with heap := (s.nx, ob) :: s.heap, nx := s.nx + 1 }
def stepA (tab : List (Nat × TI)) (nt : Nat) (s : St) (o : Oper) : Option St :=
  if dstOk nt o.dst = true ∧ o.guard = none then
    if isNew o.op then (aval tab s o.op).map fun r => (s.push r.1).put o.dst (r.2 s.nx)
    else if isRead o.op then (qval tab s o.op).map (s.put o.dst) else none
  else none

theorem stepA_gstep {o : Oper} {s' : St} (h : stepA tab nt s o = some s') : gstep tab nt ops s o = some s' := by
  unfold stepA at h
  split at h
  · rename_i hc
    obtain ⟨h1, h2⟩ := hc
    unfold gstep
    rw [if_pos h1, h2]
    simp only
    unfold stepOp
    cases hop : o.op <;> rw [hop] at h <;> simp only [isNew, isRead, Bool.false_eq_true, if_false, if_true] at h <;> first | cases h | skip
    case move => exact h
    case assign => exact h
    case load => exact h
    case fieldAddr => exact h
    case indexAddr => exact h
    case box e x =>
      simp only [aval] at h
      simp only [cbox]
      cases hx : ev s x with
      | none => rw [hx] at h; cases h
      | some c =>
        rw [hx] at h
        simp only at h ⊢
        split at h
        · cases h
        · rename_i hn
          rw [if_neg hn]
          exact h
    case buildSlice t len parts =>
      simp only [aval] at h
      simp only [cbuildSlice]
      cases ht : tdAt tab t with
      | none => rw [ht] at h; cases h
      | some d =>
        rw [ht] at h
        cases d <;> simp only at h ⊢ <;> first | cases h | skip
        rename_i e
        cases he : assoc tab e with
        | none => rw [he] at h; cases h
        | some ie =>
          rw [he] at h
          cases hp : cparts s parts.toList with
          | none => rw [hp] at h; cases h
          | some cs =>
            rw [hp] at h
            simp only at h ⊢
            split at h
            · rename_i hb
              rw [if_pos hb]
              cases hf : cfill (fun i => some (i * ie.size, ie.size)) (czeros ie.zero len) cs with
              | none => rw [hf] at h; cases h
              | some out => rw [hf] at h; exact h
            · cases h
  · cases h

theorem aval_congr {s' : St} (op : Op) (h : ∀ x ∈ op.operands, ev s x = ev s' x) : aval tab s op = aval tab s' op := by
  cases op <;> first | rfl | skip
  case box e x => simp only [aval]; rw [h x (by simp [Op.operands])]
  case buildSlice t len parts =>
    simp only [aval]
    rw [cparts_congr parts.toList fun x hx => h x.2 (by simp only [Op.operands]; simp only [List.mem_toArray, List.mem_map]; exact ⟨x, hx, rfl⟩)]

/-- The same but for the order of the slots. -/
def Sim (s s' : St) : Prop := (∀ t, assoc s'.env t = assoc s.env t) ∧ s'.heap = s.heap ∧ s'.nx = s.nx
theorem Sim.refl (s : St) : Sim s s := ⟨fun _ => rfl, rfl, rfl⟩
theorem Sim.trans {s s' s'' : St} (h : Sim s s') (k : Sim s' s'') : Sim s s'' := ⟨fun t => (k.1 t).trans (h.1 t), k.2.1.trans h.2.1, k.2.2.trans h.2.2⟩
theorem Sim.symm {s s' : St} (h : Sim s s') : Sim s' s := ⟨fun t => (h.1 t).symm, h.2.1.symm, h.2.2.symm⟩
theorem Sim.ev {s s' : St} (h : Sim s s') (x : Operand) : ev s' x = ev s x := by
  cases x <;> first | exact h.1 _ | rfl
theorem Sim.put {s s' : St} (h : Sim s s') (d : Option Tmp) (c : CV) : Sim (s.put d c) (s'.put d c) := by
  have e : ∀ s : St, s.put d c = putR s d (some c) := fun _ => rfl
  refine ⟨fun t => ?_, ?_, ?_⟩
  · rw [e, e, assoc_putR, assoc_putR]
    unfold updE
    split
    · rfl
    · exact h.1 t
  · cases d <;> exact h.2.1
  · cases d <;> exact h.2.2
theorem Sim.push {s s' : St} (h : Sim s s') (ob : Ob) : Sim (s.push ob) (s'.push ob) := ⟨h.1, by simp [St.push, h.2.1, h.2.2], by simp [St.push, h.2.2]⟩
theorem stepA_sim {s s' r : St} (h : Sim s s') {o : Oper} (hs : stepA tab nt s o = some r) : ∃ r', stepA tab nt s' o = some r' ∧ Sim r r' := by
  unfold stepA at hs ⊢
  split at hs
  · rename_i hc
    rw [if_pos hc]
    split at hs
    · rename_i hn
      rw [if_pos hn, ← aval_congr o.op fun x _ => (h.ev x).symm]
      cases ha : aval tab s o.op with
      | none => rw [ha] at hs; cases hs
      | some q =>
        rw [ha] at hs
        cases hs
        exact ⟨_, rfl, by rw [h.2.2]; exact (h.push _).put _ _⟩
    · rename_i hn
      rw [if_neg hn]
      split at hs
      · rename_i hq
        rw [if_pos hq, ← qval_congr h.2.1.symm o.op fun x _ => (h.ev x).symm]
        cases ha : qval tab s o.op with
        | none => rw [ha] at hs; cases hs
        | some q =>
          rw [ha] at hs
          cases hs
          exact ⟨_, rfl, h.put _ _⟩
      · cases hs
  · cases hs

def Fresh (s : St) : Prop := ∀ o ob, assoc s.heap o = some ob → o < s.nx
theorem Rel.fresh (h : Rel C s a w) : Fresh s := by
  obtain ⟨σ, h⟩ := h
  intro o ob ho
  obtain ⟨B, hB, _⟩ := h.obj o ob ho
  rcases Nat.lt_or_ge o s.nx with hl | hl
  · exact hl
  · rw [h.nx o hl] at hB; cases hB
theorem Fresh.push (h : Fresh s) (ob : Ob) : Fresh (s.push ob) := by
  intro o x ho
  simp only [St.push, assoc] at ho ⊢
  split at ho
  · omega
  · have := h o x ho; omega
theorem put_heap (s : St) (d : Option Tmp) (c : CV) : (s.put d c).heap = s.heap ∧ (s.put d c).nx = s.nx := by cases d <;> exact ⟨rfl, rfl⟩
theorem Fresh.put (h : Fresh s) (d : Option Tmp) (c : CV) : Fresh (s.put d c) := by
  intro o x ho
  rw [(put_heap s d c).1] at ho
  rw [(put_heap s d c).2]
  exact h o x ho

/-- A reading stays when a new object comes. -/
theorem qval_push (hf : Fresh s) (ob : Ob) {op : Op} (hr : isRead op = true) {c : CV} (h : qval tab s op = some c) : qval tab (s.push ob) op = some c := by
  have hev : ∀ x, ev (s.push ob) x = ev s x := fun x => by cases x <;> rfl
  have hm : ∀ x cs, memAt s x = some cs → memAt (s.push ob) x = some cs := fun x cs hx => by
    cases x <;> simp only [memAt] at hx ⊢ <;> first | exact hx | skip
    rename_i o off
    cases ho : assoc s.heap o with
    | none => rw [ho] at hx; cases hx
    | some y =>
      have := hf o y ho
      rw [ho] at hx
      simp only [St.push, assoc]
      rw [if_neg (by omega), ho]
      exact hx
  cases op <;> simp only [isRead, Bool.false_eq_true] at hr
  case move x => exact h
  case assign x => exact h
  case fieldAddr t x f => simp only [qval] at h ⊢; rw [hev]; exact h
  case indexAddr t x i => simp only [qval] at h ⊢; rw [hev, hev]; exact h
  case load t x =>
    simp only [qval] at h ⊢
    rw [hev]
    cases hx : ev s x with
    | none => rw [hx] at h; simp at h
    | some d =>
      rw [hx] at h
      cases ht : assoc tab t with
      | none => rw [ht] at h; simp at h
      | some ii =>
        rw [ht] at h
        simp only at h ⊢
        cases hy : memAt s d with
        | none => rw [hy] at h; cases h
        | some cs => rw [hm d cs hy]; rw [hy] at h; exact h

theorem put_swap {d e : Option Tmp} {c x : CV} (h : ∀ t, d = some t → e ≠ some t) : Sim ((s.put d c).put e x) ((s.put e x).put d c) := by
  have eq : ∀ (s : St) d c, s.put d c = putR s d (some c) := fun _ _ _ => rfl
  refine ⟨fun t => ?_, ?_, ?_⟩
  · rw [eq, eq, eq, eq, assoc_putR, assoc_putR]
    unfold updE
    rw [assoc_putR, assoc_putR]
    unfold updE
    by_cases h1 : d = some t
    · rw [if_pos h1, if_neg (h t h1), if_pos h1]
    · rw [if_neg h1, if_neg h1]
  · cases d <;> cases e <;> rfl
  · cases d <;> cases e <;> rfl
theorem put_push (d : Option Tmp) (c : CV) (ob : Ob) : (s.put d c).push ob = (s.push ob).put d c := by cases d <;> rfl
theorem ev_put {d : Option Tmp} {c : CV} {o : Oper} (h : ∀ t, d = some t → t ∉ o.looksAt ops) : ∀ x ∈ o.op.operands, ev (s.put d c) x = ev s x := by
  intro x hx
  cases x with
  | tmp t =>
    have ht : t ∈ o.looksAt ops := List.mem_append_left _ (List.mem_filterMap.2 ⟨.tmp t, by simpa using hx, rfl⟩)
    have e : assoc (putR s d (some c)).env t = assoc s.env t := by
      rw [assoc_putR]
      unfold updE
      rw [if_neg fun e => h t e ht]
    exact e
  | _ => rfl

theorem stepA_swap {oi oj : Oper} {c : CV} {s1 : St} (hap : oi.apart ops oj = true) (hf : Fresh s) (hr : isRead oi.op = true) (hq : qval tab s oi.op = some c) (hs : stepA tab nt (s.put oi.dst c) oj = some s1) :
    ∃ s2, stepA tab nt s oj = some s2 ∧ qval tab s2 oi.op = some c ∧ Sim s1 (s2.put oi.dst c) ∧ Fresh s2 := by
  obtain ⟨h1, h2, h3⟩ := Oper.apart_spec hap
  unfold stepA at hs ⊢
  split at hs
  · rename_i hc
    rw [if_pos hc]
    split at hs
    · rename_i hn
      rw [if_pos hn]
      rw [aval_congr oj.op (ev_put h1)] at hs
      cases ha : aval tab s oj.op with
      | none => rw [ha] at hs; cases hs
      | some q =>
        rw [ha] at hs
        cases hs
        refine ⟨_, rfl, ?_, ?_, (hf.push q.1).put _ _⟩
        · rw [qval_congr (s' := s.push q.1) (put_heap _ _ _).1 oi.op (ev_put h3)]
          exact qval_push hf _ hr hq
        · have e : ((s.put oi.dst c).push q.1).put oj.dst (q.2 (s.put oi.dst c).nx) = ((s.push q.1).put oi.dst c).put oj.dst (q.2 s.nx) := by rw [put_push, (put_heap _ _ _).2]
          show Sim (((s.put oi.dst c).push q.1).put oj.dst (q.2 (s.put oi.dst c).nx)) _
          rw [e]
          exact put_swap h2
    · rename_i hn
      rw [if_neg hn]
      split at hs
      · rename_i hr'
        rw [if_pos hr']
        rw [qval_congr (put_heap s _ _).1 oj.op (ev_put h1)] at hs
        cases ha : qval tab s oj.op with
        | none => rw [ha] at hs; cases hs
        | some q =>
          rw [ha] at hs
          cases hs
          refine ⟨_, rfl, ?_, put_swap h2, hf.put _ _⟩
          rw [qval_congr (put_heap s _ _).1 oi.op (ev_put h3)]
          exact hq
      · cases hs
  · cases hs

theorem stepA_read {o : Oper} {c : CV} (hr : isRead o.op = true) (hg : o.guard = none) (hd : dstOk nt o.dst = true) (hq : qval tab s o.op = some c) : stepA tab nt s o = some (s.put o.dst c) := by
  have hnn : ¬ isNew o.op = true := by
    intro hn
    cases hop : o.op <;> rw [hop] at hr hn <;> first | (simp only [isNew, Bool.false_eq_true] at hn; done) | simp only [isRead, Bool.false_eq_true] at hr
  unfold stepA
  rw [if_pos ⟨hd, hg⟩, if_neg hnn, if_pos hr, hq]
  rfl

/-- Every order from here on, operation by operation. -/
def XA (tab : List (Nat × TI)) (nt : Nat) (ops : Array Oper) (K : St → Prop) : Nat → Array Bool → St → Prop
  | 0, listed, s => Region.ready .any ops listed = [] ∧ K s
  | f + 1, listed, s => (Region.ready .any ops listed = [] → K s) ∧ ∀ i ∈ Region.ready .any ops listed, ∃ o s', ops[i]? = some o ∧ stepA tab nt s o = some s' ∧ XA tab nt ops K f (listed.setIfInBounds i true) s'

theorem XA.sim {K : St → Prop} (hK : ∀ s s', Sim s s' → K s → K s') : ∀ (f : Nat) (listed : Array Bool) (s s' : St), Sim s s' → XA tab nt ops K f listed s → XA tab nt ops K f listed s'
  | 0, _, s, s', h, hx => ⟨hx.1, hK s s' h hx.2⟩
  | f + 1, listed, s, s', h, hx => by
    refine ⟨fun he => hK s s' h (hx.1 he), fun i hi => ?_⟩
    obtain ⟨o, s1, ho, hs, hk⟩ := hx.2 i hi
    obtain ⟨s2, h2, h3⟩ := stepA_sim h hs
    exact ⟨o, s2, ho, h2, XA.sim hK f _ s1 s2 h3 hk⟩

theorem ready_set {i j : Nat} {listed : Array Bool} (h : j ∈ Region.ready .any ops listed) (hne : i ≠ j) : j ∈ Region.ready .any ops (listed.setIfInBounds i true) := by
  obtain ⟨h1, o, ho, h2⟩ := mem_ready.1 h
  exact mem_ready.2 ⟨by rw [getD_set_ne true hne]; exact h1, o, ho, fun e he hb => getD_set_true (h2 e he hb)⟩

/-- Reading first. -/
theorem XA.hoist {K : St → Prop} (hK : ∀ s s', Sim s s' → K s → K s') {i : Nat} {oi : Oper} (hi : ops[i]? = some oi) (hr : isRead oi.op = true) (hg : oi.guard = none) (hd : dstOk nt oi.dst = true) {c : CV} : ∀ (f : Nat) (listed : Array Bool) (s : St),
    i ∈ Region.ready .any ops listed → (∀ j oj, ops[j]? = some oj → j ≠ i → listed.getD j true = false → (∀ e ∈ oj.after, Region.binds .any e = true → e.on ≠ i) → oi.apart ops oj = true) → Fresh s → qval tab s oi.op = some c →
    XA tab nt ops K f (listed.setIfInBounds i true) (s.put oi.dst c) → XA tab nt ops K (f + 1) listed s := by
  intro f
  induction f with
  | zero =>
    intro listed s hm hap hf hq hx
    refine ⟨fun he => by rw [he] at hm; simp at hm, fun j hj => ?_⟩
    by_cases e : i = j
    · subst e
      exact ⟨oi, _, hi, stepA_read hr hg hd hq, hx⟩
    · have := ready_set hj e
      rw [hx.1] at this
      simp at this
  | succ f ih =>
    intro listed s hm hap hf hq hx
    refine ⟨fun he => by rw [he] at hm; simp at hm, fun j hj => ?_⟩
    by_cases e : i = j
    · subst e
      exact ⟨oi, _, hi, stepA_read hr hg hd hq, hx⟩
    · obtain ⟨oj, s1, ho, hs, hk⟩ := hx.2 j (ready_set hj e)
      obtain ⟨j1, oj', hoj', j2⟩ := mem_ready.1 hj
      have : oj' = oj := Option.some.inj (hoj'.symm.trans ho)
      subst this
      obtain ⟨i1, oi', hoi', i2⟩ := mem_ready.1 hm
      have hij := hap j oj' ho (Ne.symm e) j1 fun e' he' hb hon => by
        have := j2 e' he' hb
        rw [hon] at this
        rw [getD_both i1] at this; cases this
      obtain ⟨s2, k1, k2, k3, k4⟩ := stepA_swap hij hf hr hq hs
      refine ⟨oj', s2, ho, k1, ih _ s2 (ready_set hm (Ne.symm e)) (fun m om hom hne hl hno => hap m om hom hne ?_ hno) k4 k2 ?_⟩
      · by_cases e2 : j = m
        · subst e2
          cases hl' : listed.getD j true with
          | false => rfl
          | true => rw [hl'] at j1; cases j1
        · rwa [getD_set_ne true e2] at hl
      · rw [Array.setIfInBounds_comm _ _ (Ne.symm e)]
        exact XA.sim hK f _ s1 _ k3 hk

/-- Readings that may come first. -/
def preR (ops : Array Oper) : List Nat → Array Bool → Bool
  | [], _ => true
  | i :: r, listed => (Region.ready .any ops listed).contains i && Region.free .any ops listed i && (match ops[i]? with
      | some o => o.guard.isNone && isRead o.op
      | none => false) && preR ops r (listed.setIfInBounds i true)

theorem XA.pre {K : St → Prop} (hK : ∀ s s', Sim s s' → K s → K s') {g : Nat} : ∀ (pre : List Nat) (L0 : Array Bool) (s : St), preR ops pre L0 = true → Fresh s →
    TH P tab nt ops pre s (fun s' => XA tab nt ops K g (listAll pre L0) s') → XA tab nt ops K (pre.length + g) L0 s
  | [], L0, s, _, _, hk => by rw [List.length_nil, Nat.zero_add]; exact hk
  | i :: r, L0, s, hp, hf, hk => by
    simp only [preR, Bool.and_eq_true] at hp
    obtain ⟨⟨⟨h1, h2⟩, h3⟩, h4⟩ := hp
    obtain ⟨o, res, ho, hq, hk'⟩ := hk
    rw [ho] at h3
    simp only [Bool.and_eq_true] at h3
    have hg : o.guard = none := by simpa using h3.1
    obtain ⟨hd, hq⟩ := hq
    rcases hq with ⟨j, want, t, e1, _⟩ | ⟨_, c, rfl, hc⟩
    · rw [hg] at e1; cases e1
    · rcases hc with hc | ⟨cl, e, _⟩
      · rw [show (i :: r).length + g = (r.length + g) + 1 by simp; omega]
        exact XA.hoist hK ho h3.2 hg hd (r.length + g) L0 s (by simpa using h1) (Region.free_spec ho h2) hf hc (XA.pre hK r _ _ h4 (hf.put _ _) hk')
      · rw [e] at h3; simp [isRead] at h3

theorem XA.tx (ht : TabOk P tab) {K : St → Prop} : ∀ (f : Nat) (listed : Array Bool) (s : St), XA tab C.nt ops K f listed s → TX P C ops K f listed s
  | 0, _, _, h => h
  | f + 1, listed, s, h => ⟨h.1, fun i hi => by
    obtain ⟨o, s', ho, hs, hk⟩ := h.2 i hi
    exact ⟨o, ho, TL.step ht (stepA_gstep hs) (TL.nil (XA.tx ht f _ s' hk))⟩⟩

def KS (K : St → Prop) (s : St) : Prop := ∃ s0, Sim s0 s ∧ K s0
theorem KS.sim {K : St → Prop} (s s' : St) (h : Sim s s') (hk : KS K s) : KS K s' := by
  obtain ⟨s0, h0, k⟩ := hk
  exact ⟨s0, h0.trans h, k⟩

/-- **A region that draws and makes new objects**: readings first ('pre'), then every order of the rest. -/
theorem T.news (ht : TabOk P tab) (hm : P.follows .mixedOrders = true) {id : Nat} {l : List Oper} {Q : Exit → St → Prop} (pre : List Nat) (hp : preR l.toArray pre (Array.replicate l.toArray.size false) = true) (hl : pre.length ≤ l.toArray.size)
    (h : TH P tab C.nt l.toArray pre s fun s' => XA tab C.nt l.toArray (KS (Q .normal)) (l.toArray.size - pre.length) (listAll pre (Array.replicate l.toArray.size false)) s') : T P C (.region id l.toArray true) s Q := by
  intro a w hr
  refine wp_mono (Q := fun e a' w' => e = .normal ∧ ∃ s', Q .normal s' ∧ Rel C s' a' w') (wp_region_any hm ?_) (fun e a' w' ⟨he, s', k1, k2⟩ => by subst he; exact ⟨s', k1, k2⟩)
  have hx := XA.pre (P := P) KS.sim pre (Array.replicate l.toArray.size false) s hp hr.fresh h
  rw [show pre.length + (l.toArray.size - pre.length) = l.toArray.size by omega] at hx
  refine TX_ok (fun s'' a w ⟨s0, hs, hk⟩ hr' => ⟨rfl, s0, hk, hr'.congr (fun t => (hs.1 t).symm) hs.2.1.symm hs.2.2.symm⟩) _ _ s a _ (XA.tx ht _ _ s hx) hr.drew

theorem XA.go {K : St → Prop} {f : Nat} {listed : Array Bool} (r : Nat) (rs : List Nat) (hr : Region.ready .any ops listed = r :: rs) (h : ∀ i ∈ r :: rs, ∃ o s', ops[i]? = some o ∧ stepA tab nt s o = some s' ∧ XA tab nt ops K f (listed.setIfInBounds i true) s') : XA tab nt ops K (f + 1) listed s :=
  ⟨fun he => (by rw [hr] at he; cases he), fun i hi => h i (by rw [hr] at hi; exact hi)⟩
theorem XA.end {K : St → Prop} {f : Nat} {listed : Array Bool} (hr : Region.ready .any ops listed = []) (h : K s) : XA tab nt ops (KS K) f listed s := by
  cases f with
  | zero => exact ⟨hr, s, Sim.refl s, h⟩
  | succ f => exact ⟨fun _ => ⟨s, Sim.refl s, h⟩, fun i hi => (by rw [hr] at hi; cases hi)⟩
end
end Go.Can

/- Steps of explored draws, for walks. No function of the program is mentioned here. -/
namespace Go.Can
open Go.RowKit

section
variable {P : Program} {C : Cx} {s : St} {ops : Array Oper} {tab : List (Nat × TI)} {nt : Nat} {K : St → Prop} {f : Nat} {listed : Array Bool}

theorem XA.step {i : Nat} {o : Oper} (ho : ops[i]? = some o) (h : okS (fun s' => XA tab nt ops K f (listed.setIfInBounds i true) s') (stepA tab nt s o)) : ∃ o s', ops[i]? = some o ∧ stepA tab nt s o = some s' ∧ XA tab nt ops K f (listed.setIfInBounds i true) s' := by
  cases hs : stepA tab nt s o with
  | none => rw [hs] at h; exact h.elim
  | some s' => rw [hs] at h; exact ⟨o, s', ho, hs, h⟩
theorem XA.one {i : Nat} {o : Oper} (hr : Region.ready .any ops listed = [i]) (ho : ops[i]? = some o) (h : okS (fun s' => XA tab nt ops K f (listed.setIfInBounds i true) s') (stepA tab nt s o)) : XA tab nt ops K (f + 1) listed s :=
  XA.go i [] hr fun k hk => by
    simp only [List.mem_singleton] at hk
    subst hk
    exact XA.step ho h
theorem XA.two {i j : Nat} {o o' : Oper} (hr : Region.ready .any ops listed = [i, j]) (ho : ops[i]? = some o) (ho' : ops[j]? = some o') (h : okS (fun s' => XA tab nt ops K f (listed.setIfInBounds i true) s') (stepA tab nt s o)) (h' : okS (fun s' => XA tab nt ops K f (listed.setIfInBounds j true) s') (stepA tab nt s o')) : XA tab nt ops K (f + 1) listed s :=
  XA.go i [j] hr fun k hk => by
    simp only [List.mem_cons, List.not_mem_nil, or_false] at hk
    rcases hk with rfl | rfl
    · exact XA.step ho h
    · exact XA.step ho' h'
theorem TX.one {i : Nat} {o : Oper} (hr : Region.ready .any ops listed = [i]) (ho : ops[i]? = some o) (h : TL P C ops [o] s fun s' => TX P C ops K f (listed.setIfInBounds i true) s') : TX P C ops K (f + 1) listed s :=
  TX.go i [] hr fun k hk => by
    simp only [List.mem_singleton] at hk
    subst hk
    exact ⟨o, ho, h⟩
theorem TX.two {i j : Nat} {o o' : Oper} (hr : Region.ready .any ops listed = [i, j]) (ho : ops[i]? = some o) (ho' : ops[j]? = some o') (h : TL P C ops [o] s fun s' => TX P C ops K f (listed.setIfInBounds i true) s') (h' : TL P C ops [o'] s fun s' => TX P C ops K f (listed.setIfInBounds j true) s') : TX P C ops K (f + 1) listed s :=
  TX.go i [j] hr fun k hk => by
    simp only [List.mem_cons, List.not_mem_nil, or_false] at hk
    rcases hk with rfl | rfl
    · exact ⟨o, ho, h⟩
    · exact ⟨o', ho', h'⟩
end
end Go.Can
