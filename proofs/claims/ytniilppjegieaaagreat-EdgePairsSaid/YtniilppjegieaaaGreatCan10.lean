/- Regions that draw their order: whatever order is drawn, the state behind the region is the one of the order in which it was walked. No function of the program is mentioned here. -/
import Derived.Test.YtniilppjegieaaaGreatCan9
namespace Go.Can
open Go.RowKit

theorem Rel.congr {C : Cx} {s s' : St} {a : Act} {w : World} (h : Rel C s a w) (he : ∀ t, assoc s'.env t = assoc s.env t) (hh : s'.heap = s.heap) (hn : s'.nx = s.nx) : Rel C s' a w := by
  obtain ⟨σ, h⟩ := h
  refine ⟨σ, h.dfr, h.tm, h.os, h.tape, h.output, h.size, h.frame, ?_, ?_, ?_, ?_, h.old, by rw [hn]; exact h.low, h.new⟩
  · intro t c hc
    rw [he] at hc
    rw [hh]
    exact h.env t c hc
  · rw [hh]; exact h.obj
  · rw [hh]; exact h.inj
  · rw [hn]; exact h.nx
theorem Rel.drew {C : Cx} {s : St} {a : Act} {w : World} (h : Rel C s a w) : Rel C s a { w with drawn := w.drawn + 1 } := by
  obtain ⟨σ, h⟩ := h
  exact ⟨σ, h.below (w' := w.drew) ⟨rfl, rfl, rfl, Nat.le_refl _, fun _ _ => rfl⟩⟩

/-! ### What an operation yields hangs on what it looks at -/
section
variable {P : Program} {tab : List (Nat × TI)} {s s' : St}

theorem evs_congr : ∀ (xs : List Operand), (∀ x ∈ xs, ev s x = ev s' x) → evs s xs = evs s' xs
  | [], _ => rfl
  | x :: r, h => by
    simp only [evs]
    rw [h x (by simp), evs_congr r fun y hy => h y (by simp [hy])]
theorem cparts_congr : ∀ (xs : List (Nat × Operand)), (∀ x ∈ xs, ev s x.2 = ev s' x.2) → cparts s xs = cparts s' xs
  | [], _ => rfl
  | (i, x) :: r, h => by
    simp only [cparts]
    rw [h (i, x) (by simp), cparts_congr r fun y hy => h y (by simp [hy])]
theorem cbound_congr {x : Option Operand} (h : ∀ y, x = some y → ev s y = ev s' y) (d : Nat) : cbound s x d = cbound s' x d := by
  cases x with
  | none => rfl
  | some y => simp only [cbound]; rw [h y rfl]
theorem memAt_congr (hh : s.heap = s'.heap) (c : CV) : memAt s c = memAt s' c := by
  unfold memAt; rw [hh]
theorem cslice_congr (hh : s.heap = s'.heap) {lo hi : Option Operand} (h1 : ∀ y, lo = some y → ev s y = ev s' y) (h2 : ∀ y, hi = some y → ev s y = ev s' y) (t : TypeId) (c : CV) : cslice tab s t c lo hi = cslice tab s' t c lo hi := by
  unfold cslice
  rw [hh]
  simp only [cbound_congr h1, cbound_congr h2]
theorem lend_congr (hh : s.heap = s'.heap) (c : CV) : lend s c = lend s' c := by
  unfold lend; rw [hh]
theorem lends_congr (hh : s.heap = s'.heap) : ∀ cs, lends s cs = lends s' cs
  | [] => rfl
  | c :: cs => by simp only [lends]; rw [lend_congr hh, lends_congr hh cs]

theorem qval_congr (hh : s.heap = s'.heap) (op : Op) (h : ∀ x ∈ op.operands, ev s x = ev s' x) : qval tab s op = qval tab s' op := by
  cases op
  case move x => exact h x (by simp [Op.operands])
  case assign x => exact h x (by simp [Op.operands])
  case pick c x y =>
    simp only [qval]
    rw [h c (by simp [Op.operands]), h x (by simp [Op.operands]), h y (by simp [Op.operands])]
  case binOp op t x y yt =>
    simp only [qval]
    rw [h x (by simp [Op.operands]), h y (by simp [Op.operands])]
  case unOp op t x => simp only [qval]; rw [h x (by simp [Op.operands])]
  case load t x => simp only [qval]; rw [h x (by simp [Op.operands])]; simp only [memAt_congr hh]
  case slice t x lo hi mx =>
    have h1 : ∀ y, lo = some y → ev s y = ev s' y := fun y e => h y (by subst e; simp [Op.operands])
    have h2 : ∀ y, hi = some y → ev s y = ev s' y := fun y e => h y (by subst e; simp [Op.operands])
    cases mx with
    | none => simp only [qval]; rw [h x (by simp [Op.operands])]; simp only [cslice_congr hh h1 h2]
    | some _ => rfl
  case fieldAddr t x f => simp only [qval]; rw [h x (by simp [Op.operands])]
  case field t x f => simp only [qval]; rw [h x (by simp [Op.operands])]
  case indexAddr t x i => simp only [qval]; rw [h x (by simp [Op.operands]), h i (by simp [Op.operands])]
  case index t x i => simp only [qval]; rw [h x (by simp [Op.operands]), h i (by simp [Op.operands])]
  case extract x i => simp only [qval]; rw [h x (by simp [Op.operands])]
  case makeFunc f first cap =>
    cases f <;> first | rfl | skip
    simp only [qval]
    rw [evs_congr cap.toList fun x hx => h x (by simp only [Op.operands, Array.mem_append]; exact .inr (by simpa using hx))]
  case nilCheck x => simp only [qval]; rw [h x (by simp [Op.operands])]
  case build t parts =>
    simp only [qval, cbuild]
    rw [cparts_congr parts.toList fun x hx => h x.2 (by simp only [Op.operands]; simp only [List.mem_toArray, List.mem_map]; exact ⟨x, hx, rfl⟩)]
  case call c =>
    simp only [qval]
    split
    · rename_i b hb
      have ha : ∀ x ∈ c.args.toList, ev s x = ev s' x := fun x hx => h x (by simp only [Op.operands, Call.operands, Array.mem_append]; exact .inr (by simpa using hx))
      unfold cbuiltin
      split
      · split
        · rename_i x t e _
          rw [ha x (by rw [e]; simp)]
        · rfl
      · rw [evs_congr _ ha]
      · rw [evs_congr _ ha]
      · rfl
    · rfl
  all_goals rfl

theorem CallQ.congr (hh : s.heap = s'.heap) {c : Call} {r : CV} (h : ∀ x ∈ c.operands, ev s x = ev s' x) (hc : CallQ P s c r) : CallQ P s' c r := by
  obtain ⟨g, cs, h1, h2⟩ := hc
  have ha : ∀ x ∈ c.args.toList, ev s x = ev s' x := fun x hx => h x (by simp only [Call.operands, Array.mem_append]; exact .inr (by simpa using hx))
  refine ⟨g, cs, ?_, ?_⟩
  · rw [← h1]
    unfold callArgs
    split
    · rename_i f hf
      rw [h f (by simp [Call.operands, hf]), evs_congr _ ha]
    · rfl
  · rcases h2 with h2 | ⟨ds, k1, k2⟩
    · exact .inl h2
    · exact .inr ⟨ds, by rw [← lends_congr hh]; exact k1, k2⟩
end

def putR (s : St) (d : Option Tmp) : Option CV → St
  | some c => s.put d c
  | none => s.del d

/-- An operation that leaves memory alone: it is skipped (none), or yields. -/
def QStep (P : Program) (tab : List (Nat × TI)) (nt : Nat) (ops : Array Oper) (s : St) (o : Oper) (r : Option CV) : Prop :=
  dstOk nt o.dst = true ∧
    ((∃ j want t, o.guard = some (j, want) ∧ (ops[j]?).bind (·.dst) = some t ∧ guardV (assoc s.env t) want = some false ∧ r = some (.tup [])) ∨
     ((o.guard = none ∨ ∃ j want t, o.guard = some (j, want) ∧ (ops[j]?).bind (·.dst) = some t ∧ assoc s.env t = some (.bool want)) ∧
        ∃ c, r = some c ∧ (qval tab s o.op = some c ∨ ∃ cl, o.op = .call cl ∧ CallQ P s cl c)))

section
variable {P : Program} {C : Cx} {s : St} {a : Act} {w : World} {ops : Array Oper} {tab : List (Nat × TI)}

theorem QStep_ok (ht : TabOk P tab) (hr : Rel C s a w) {i : Nat} {o : Oper} (hi : ops[i]? = some o) {r : Option CV} (hq : QStep P tab C.nt ops s o r) {K : Act → World → Prop} {Q : Exit → Act → World → Prop}
    (hK : ∀ a' w', Rel C (putR s o.dst r) a' w' → K a' w') : wpOp P ops Q i K a w := by
  obtain ⟨hd, hq⟩ := hq
  unfold wpOp
  simp only [hi]
  rcases hq with ⟨j, want, t, hg, hj, hb, rfl⟩ | ⟨hg, c, rfl, hc⟩
  · rw [if_neg (by simp [wanted_of hr hg hj hb])]
    exact hK _ _ (hr.skip hd)
  · have hw : Region.wanted o (yielded ops a.tmps) = true := by
      rcases hg with hg | ⟨j, want, t, hg, hj, hb⟩
      · simp [Region.wanted, hg]
      · simp [Region.wanted, hg, yielded_of hr hj hb]
    rw [if_pos hw]
    refine .inl ?_
    obtain ⟨σ, hr⟩ := hr
    have hd' : ∀ {w'} (_ : RelAt C σ s a w') t, o.dst = some t → t < a.tmps.size := fun {w'} h t e => by
      rw [h.tm]
      rw [e] at hd
      simpa [dstOk] using hd
    rcases hc with hc | ⟨cl, ho, hc⟩
    · obtain ⟨z, k1, k2⟩ := qval_ok ht hr o hc
      unfold Oper.wp
      rw [k1]
      exact hK _ _ ⟨σ, hr.put (hd' hr) k2⟩
    · exact CallQ_ok hr ho hc _ _ fun v w' hr' hv => hK _ _ ⟨σ, hr'.put (hd' hr') hv⟩

theorem QStep.congr {s' : St} {o : Oper} {r : Option CV} (hh : s.heap = s'.heap) (h : ∀ t ∈ o.looksAt ops, assoc s.env t = assoc s'.env t) (hq : QStep P tab C.nt ops s o r) : QStep P tab C.nt ops s' o r := by
  obtain ⟨hd, hq⟩ := hq
  have hg : ∀ j want t, o.guard = some (j, want) → (ops[j]?).bind (·.dst) = some t → assoc s.env t = assoc s'.env t := fun j want t hg hj => h t (by simp [Oper.looksAt, hg, hj])
  have hx : ∀ x ∈ o.op.operands, ev s x = ev s' x := fun x hx => by
    cases x with
    | tmp t => exact h t (List.mem_append_left _ (List.mem_filterMap.2 ⟨.tmp t, by simpa using hx, rfl⟩))
    | _ => rfl
  refine ⟨hd, ?_⟩
  rcases hq with ⟨j, want, t, e1, e2, e3, e5⟩ | ⟨e1, c, e2, e3⟩
  · exact .inl ⟨j, want, t, e1, e2, by rw [← hg j want t e1 e2]; exact e3, e5⟩
  · refine .inr ⟨?_, c, e2, ?_⟩
    · rcases e1 with e1 | ⟨j, want, t, f1, f2, f3⟩
      · exact .inl e1
      · exact .inr ⟨j, want, t, f1, f2, by rw [← hg j want t f1 f2]; exact f3⟩
    · rcases e3 with e3 | ⟨cl, f1, f2⟩
      · exact .inl (by rw [← qval_congr hh o.op hx]; exact e3)
      · exact .inr ⟨cl, f1, f2.congr hh fun x hx' => hx x (by rw [f1]; exact hx')⟩

/-- The operations of a list of places, one after the other, none of which turns memory. -/
def TH (P : Program) (tab : List (Nat × TI)) (nt : Nat) (ops : Array Oper) : List Nat → St → (St → Prop) → Prop
  | [], s, K => K s
  | i :: r, s, K => ∃ o res, ops[i]? = some o ∧ QStep P tab nt ops s o res ∧ TH P tab nt ops r (putR s o.dst res) K

def QRun (P : Program) (tab : List (Nat × TI)) (nt : Nat) (ops : Array Oper) (res : Nat → Option CV) : List Nat → St → St → Prop
  | [], s, s' => s = s'
  | i :: r, s, s' => ∃ o, ops[i]? = some o ∧ QStep P tab nt ops s o (res i) ∧ QRun P tab nt ops res r (putR s o.dst (res i)) s'

theorem QRun.ext {nt : Nat} {res res' : Nat → Option CV} : ∀ (l : List Nat) (s s' : St), (∀ i ∈ l, res i = res' i) → QRun P tab nt ops res l s s' → QRun P tab nt ops res' l s s'
  | [], _, _, _, h => h
  | i :: r, s, s', he, h => by
    obtain ⟨o, h1, h2, h3⟩ := h
    have e := he i (by simp)
    rw [e] at h2 h3
    exact ⟨o, h1, h2, QRun.ext r _ s' (fun j hj => he j (by simp [hj])) h3⟩

theorem TH.run {nt : Nat} {K : St → Prop} : ∀ (l : List Nat) (s : St), l.Nodup → TH P tab nt ops l s K → ∃ res s', QRun P tab nt ops res l s s' ∧ K s'
  | [], s, _, h => ⟨fun _ => none, s, rfl, h⟩
  | i :: r, s, hn, h => by
    obtain ⟨o, x, h1, h2, h3⟩ := h
    rw [List.nodup_cons] at hn
    obtain ⟨res, s', k1, k2⟩ := TH.run r _ hn.2 h3
    refine ⟨fun j => if j = i then x else res j, s', ⟨o, h1, by simpa using h2, ?_⟩, k2⟩
    simp only [if_true]
    exact QRun.ext r _ s' (fun j hj => by rw [if_neg (fun e => hn.1 (by subst e; exact hj))]) k1

/-! ### The frame behind a set of the operations -/
def updE (E : Nat → Option CV) (d : Option Tmp) (r : Option CV) : Nat → Option CV := fun t => if d = some t then r else E t
def dstAt (ops : Array Oper) (i : Nat) : Option Tmp := (ops[i]?).bind (·.dst)
def envOf (ops : Array Oper) (res : Nat → Option CV) (L : Nat → Bool) : List Nat → (Nat → Option CV) → Nat → Option CV
  | [], E => E
  | i :: r, E => envOf ops res L r (if L i then updE E (dstAt ops i) (res i) else E)

theorem envOf_at {res : Nat → Option CV} {L L' : Nat → Bool} {t : Nat} : ∀ (l : List Nat) (E E' : Nat → Option CV), E t = E' t → (∀ i ∈ l, dstAt ops i = some t → L i = L' i) → envOf ops res L l E t = envOf ops res L' l E' t
  | [], _, _, h, _ => h
  | i :: r, E, E', h, hl => by
    simp only [envOf]
    refine envOf_at r _ _ ?_ fun j hj => hl j (by simp [hj])
    by_cases hd : dstAt ops i = some t
    · rw [hl i (by simp) hd]
      split
      · simp [updE, hd]
      · exact h
    · have : ∀ (b : Bool) (X : Nat → Option CV), (if b then updE X (dstAt ops i) (res i) else X) t = X t := fun b X => by
        cases b <;> simp [updE, hd]
      rw [this, this]; exact h

theorem envOf_append {res : Nat → Option CV} {L : Nat → Bool} : ∀ (l m : List Nat) (E : Nat → Option CV), envOf ops res L (l ++ m) E = envOf ops res L m (envOf ops res L l E)
  | [], _, _ => rfl
  | i :: r, m, E => by simp only [List.cons_append, envOf]; exact envOf_append r m _

theorem envOf_none {res : Nat → Option CV} {L : Nat → Bool} : ∀ (l : List Nat) (E : Nat → Option CV), (∀ i ∈ l, L i = false) → envOf ops res L l E = E
  | [], _, _ => rfl
  | i :: r, E, h => by
    simp only [envOf]
    rw [h i (by simp)]
    exact envOf_none r _ fun j hj => h j (by simp [hj])

theorem assoc_putR {s : St} {d : Option Tmp} {r : Option CV} (t : Nat) : assoc (putR s d r).env t = updE (assoc s.env) d r t := by
  cases r with
  | none =>
    cases d with
    | none => simp [putR, St.del, updE]
    | some x => simp [putR, St.del, updE, assoc_dele]
  | some c =>
    cases d with
    | none => simp [putR, St.put, updE]
    | some x =>
      simp only [putR, St.put, updE, assoc, assoc_dele, Option.some.injEq]
      split <;> rfl
theorem putR_heap {s : St} {d : Option Tmp} {r : Option CV} : (putR s d r).heap = s.heap ∧ (putR s d r).nx = s.nx := by
  cases r <;> cases d <;> exact ⟨rfl, rfl⟩

/-- Along the run: the frame at each place. -/
theorem QRun.at_ {nt : Nat} {res : Nat → Option CV} : ∀ (pre post : List Nat) (s s' : St), QRun P tab nt ops res (pre ++ post) s s' → ∃ m, QRun P tab nt ops res pre s m ∧ QRun P tab nt ops res post m s'
  | [], _, s, s', h => ⟨s, rfl, h⟩
  | i :: r, post, s, s', h => by
    obtain ⟨o, h1, h2, h3⟩ := h
    obtain ⟨m, k1, k2⟩ := QRun.at_ r post _ s' h3
    exact ⟨m, ⟨o, h1, h2, k1⟩, k2⟩
theorem QRun.env {nt : Nat} {res : Nat → Option CV} : ∀ (l : List Nat) (s s' : St), QRun P tab nt ops res l s s' → (∀ t, assoc s'.env t = envOf ops res (fun _ => true) l (assoc s.env) t) ∧ s'.heap = s.heap ∧ s'.nx = s.nx
  | [], s, s', h => by cases h; exact ⟨fun _ => rfl, rfl, rfl⟩
  | i :: r, s, s', h => by
    obtain ⟨o, h1, h2, h3⟩ := h
    obtain ⟨k1, k2, k3⟩ := QRun.env r _ s' h3
    refine ⟨fun t => ?_, k2.trans putR_heap.1, k3.trans putR_heap.2⟩
    rw [k1]
    simp only [envOf, if_true]
    have : dstAt ops i = o.dst := by simp [dstAt, h1]
    rw [this]
    exact envOf_at r _ _ (assoc_putR t) fun _ _ _ => rfl

/-! ### The check -/
def headO (md : Region.Mode) (ops : Array Oper) : List Nat → Array Bool → Bool
  | [], _ => true
  | i :: r, listed => (Region.ready md ops listed).contains i && Region.free md ops listed i && headO md ops r (listed.setIfInBounds i true)
def listAll : List Nat → Array Bool → Array Bool
  | [], l => l
  | i :: r, l => listAll r (l.setIfInBounds i true)
def sinkO (md : Region.Mode) (ops : Array Oper) (t : Nat) : List Nat → Bool
  | [] => true
  | i :: r => (Region.waitsFor md ops t i || r.any fun j => Region.waitsFor md ops j i) && sinkO md ops t r
def seqO (md : Region.Mode) (ops : Array Oper) : List Nat → Array Bool → Bool
  | [], listed => (Region.ready md ops listed).isEmpty
  | k :: r, listed => decide (Region.ready md ops listed = [k]) && seqO md ops r (listed.setIfInBounds k true)
theorem getD_listAll : ∀ (l : List Nat) (a : Array Bool) (j : Nat), (listAll l a).size = a.size ∧ ((listAll l a).getD j false = true ↔ a.getD j false = true ∨ (j ∈ l ∧ j < a.size))
  | [], a, j => by simp [listAll]
  | i :: r, a, j => by
    obtain ⟨h1, h2⟩ := getD_listAll r (a.setIfInBounds i true) j
    simp only [listAll]
    refine ⟨by simpa using h1, ?_⟩
    rw [h2]
    by_cases hij : i = j
    · subst hij
      by_cases hl : i < a.size
      · simp [hl]
      · simp [hl]
    · rw [getD_set_ne false hij]
      simp [Ne.symm hij]

theorem wpAny_of_seqO {md : Region.Mode} {Q' : Exit → Act → World → Prop} : ∀ (idx : List Nat) (listed : Array Bool) (a : Act) (w : World), (∀ i ∈ idx, i < ops.size) → seqO md ops idx listed = true →
    wpList P ops Q' (idx.map (ops.getD · default)) a w → wpAny P md ops Q' idx.length listed a w
  | [], _, _, _, _, hB, h => ⟨by simpa [seqO] using hB, h⟩
  | k :: r, listed, a, w, hlt, hB, h => by
    simp only [seqO, Bool.and_eq_true, decide_eq_true_eq] at hB
    refine ⟨fun h1 => (by rw [hB.1] at h1; cases h1), fun i hi => ?_⟩
    rw [hB.1] at hi
    have hik : i = k := by simpa using hi
    subst hik
    have hi' := hlt i (by simp)
    have h0 : ops[i]? = some (ops.getD i default) := by simp [hi']
    have hw : wpOp P ops Q' i (wpList P ops Q' (r.map (ops.getD · default))) a w := by
      unfold wpOp
      simp only [h0]
      simpa only [List.map_cons, wpList] using h
    exact wpOp_mono (fun a' w' h' => wpAny_of_seqO r _ a' w' (fun j hj => hlt j (by simp [hj])) hB.2 h') hw
end
end Go.Can
