/- Regions that draw their order: the theorem. No function of the program is mentioned here. -/
import Derived.Test.YtniilppjegieaaaGreatCan10
namespace Go.Can
open Go.RowKit

section
variable {P : Program} {C : Cx} {s : St} {a : Act} {w : World} {ops : Array Oper} {tab : List (Nat × TI)}

theorem headO_split {md : Region.Mode} : ∀ (pre : List Nat) (i : Nat) (post : List Nat) (L : Array Bool), headO md ops (pre ++ i :: post) L = true →
    (Region.ready md ops (listAll pre L)).contains i = true ∧ Region.free md ops (listAll pre L) i = true
  | [], i, post, L, h => by
    simp only [List.nil_append, headO, Bool.and_eq_true] at h
    exact h.1
  | k :: pre, i, post, L, h => by
    simp only [List.cons_append, headO, Bool.and_eq_true] at h
    simp only [listAll]
    exact headO_split pre i post _ h.2

theorem count_set : ∀ (ord : List Nat) (i : Nat) (listed : Array Bool), ord.Nodup → i ∈ ord → i < listed.size → listed.getD i false = false →
    (ord.countP fun j => !(listed.setIfInBounds i true).getD j false) + 1 = ord.countP fun j => !listed.getD j false
  | [], _, _, _, h, _, _ => by cases h
  | k :: r, i, listed, hn, hi, hlt, hu => by
    rw [List.nodup_cons] at hn
    simp only [List.countP_cons]
    by_cases hk : k = i
    · subst hk
      have h1 : ((listed.setIfInBounds k true).getD k false) = true := by simp [hlt]
      have h2 : (r.countP fun j => !(listed.setIfInBounds k true).getD j false) = r.countP fun j => !listed.getD j false := by
        refine List.countP_congr fun j hj => ?_
        rw [getD_set_ne false (fun e => hn.1 (by subst e; exact hj))]
      rw [h1, h2, hu]; simp
    · have hir : i ∈ r := by
        rcases List.mem_cons.1 hi with e | e
        · exact absurd e.symm hk
        · exact e
      have := count_set r i listed hn.2 hir hlt hu
      rw [getD_set_ne false (Ne.symm hk)]
      omega

structure HInv (ops : Array Oper) (L0 : Array Bool) (ord : List Nat) (listed : Array Bool) : Prop where
  size : listed.size = ops.size
  closed : ∀ j oj, ops[j]? = some oj → listed.getD j false = true → ∀ e ∈ oj.after, Region.binds .any e = true → listed.getD e.on false = true
  sub : ∀ j, listed.getD j false = true → L0.getD j false = true ∨ j ∈ ord
  mono : ∀ j, L0.getD j false = true → listed.getD j false = true

theorem HInv.set {L0 : Array Bool} {ord : List Nat} {listed : Array Bool} {i : Nat} (inv : HInv ops L0 ord listed) (hi : i ∈ Region.ready .any ops listed) (hio : i ∈ ord) : HInv ops L0 ord (listed.setIfInBounds i true) := by
  obtain ⟨_, oi, hoi, hall⟩ := mem_ready.1 hi
  refine ⟨by simp [inv.size], fun j oj hj hl e he hb => ?_, fun j hj => ?_, fun j hj => getD_set_true (inv.mono j hj)⟩
  · by_cases hij : i = j
    · subst hij
      have : oj = oi := Option.some.inj (hj.symm.trans hoi)
      subst this
      exact getD_set_true (hall e he hb)
    · rw [getD_set_ne false hij] at hl
      exact getD_set_true (inv.closed j oj hj hl e he hb)
  · by_cases hij : i = j
    · subst hij; exact .inr hio
    · rw [getD_set_ne false hij] at hj
      exact inv.sub j hj

theorem sink_listed {L0 : Array Bool} {ord : List Nat} {listed : Array Bool} {t : Nat} (inv : HInv ops L0 ord listed) (ht : t ∈ Region.ready .any ops listed) : ∀ (l : List Nat), sinkO .any ops t l = true → ∀ i ∈ l, listed.getD i false = true
  | [], _, i, hi => by cases hi
  | k :: r, h, i, hi => by
    simp only [sinkO, Bool.and_eq_true, Bool.or_eq_true] at h
    have hr := sink_listed inv ht r h.2
    rcases List.mem_cons.1 hi with e | hi
    · subst e
      rcases h.1 with h1 | h1
      · obtain ⟨_, ot, hot, hall⟩ := mem_ready.1 ht
        obtain ⟨o', ho', e, he, hb, rfl⟩ := Region.waitsFor_spec h1
        have : o' = ot := Option.some.inj (ho'.symm.trans hot)
        subst this
        exact hall e he hb
      · obtain ⟨j, hj, hw⟩ := List.any_eq_true.1 h1
        obtain ⟨o', ho', e, he, hb, rfl⟩ := Region.waitsFor_spec hw
        exact inv.closed j o' ho' (hr j hj) e he hb
    · exact hr i hi

theorem getD_rep (m j : Nat) : (Array.replicate m false).getD j false = false := getD_replicate_false m j

theorem unlisted_true {listed : Array Bool} {j : Nat} (hs : j < listed.size) (h : listed.getD j false = false) : listed.getD j true = false := getD_in hs h

/-- Two places of the head, the first listed ahead of the second: the second waits for the first, or they are apart. -/
theorem head_apart {L0 : Array Bool} (hs0 : L0.size = ops.size) {ord pre post : List Nat} (h0 : ∀ j ∈ ord, L0.getD j false = false) {i j : Nat} {oi oj : Oper} (hord : ord = pre ++ i :: post) (hh : headO .any ops ord L0 = true) (hn : ord.Nodup) (hj : j ∈ post) (hoi : ops[i]? = some oi) (hoj : ops[j]? = some oj) :
    (∃ e ∈ oj.after, Region.binds .any e = true ∧ e.on = i) ∨ oi.apart ops oj = true := by
  subst hord
  obtain ⟨_, hf⟩ := headO_split pre i post _ hh
  by_cases hw : ∃ e ∈ oj.after, Region.binds .any e = true ∧ e.on = i
  · exact .inl hw
  · refine .inr (Region.free_spec hoi hf j oj hoj ?_ ?_ fun e he hb hon => hw ⟨e, he, hb, hon⟩)
    · intro e; subst e
      rw [List.nodup_append] at hn
      exact (List.nodup_cons.1 hn.2.1).1 hj
    · obtain ⟨h1, h2⟩ := getD_listAll pre L0 j
      refine unlisted_true ?_ ?_
      · rw [h1, hs0]; exact (Array.getElem?_eq_some_iff.1 hoj).1
      · cases hl : (listAll pre L0).getD j false with
        | false => rfl
        | true =>
          rw [h2, h0 j (by simp [hj])] at hl
          rcases hl with hl | hl
          · cases hl
          · rw [List.nodup_append] at hn
            exact absurd rfl (hn.2.2 j hl.1 j (List.mem_cons_of_mem _ hj))

theorem head_any (ht : TabOk P tab) {L0 : Array Bool} (hs0 : L0.size = ops.size) {ord : List Nat} {res : Nat → Option CV} {s0 sN : St} (hrun : QRun P tab C.nt ops res ord s0 sN) (hn : ord.Nodup) (h00 : ∀ j ∈ ord, L0.getD j false = false) (hh : headO .any ops ord L0 = true)
    (htail : ∀ j, j < ops.size → j ∉ ord → L0.getD j false = false → sinkO .any ops j ord = true ∨ ∃ u, u ∉ ord ∧ L0.getD u false = false ∧ Region.waitsFor .any ops j u = true) {Q' : Exit → Act → World → Prop} {g : Nat}
    (hend : ∀ a w, Rel C sN a w → wpAny P .any ops Q' g (listAll ord L0) a w) :
    ∀ (m : Nat) (listed : Array Bool) (a : Act) (w : World), HInv ops L0 ord listed → (ord.countP fun j => !listed.getD j false) = m →
      (∃ s : St, s.heap = s0.heap ∧ s.nx = s0.nx ∧ (∀ t, assoc s.env t = envOf ops res (fun i => listed.getD i false) ord (assoc s0.env) t) ∧ Rel C s a w) → wpAny P .any ops Q' (m + g) listed a w := by
  have hops : ∀ i ∈ ord, ∃ o, ops[i]? = some o := fun i hi => by
    obtain ⟨pre, post, rfl⟩ := List.append_of_mem hi
    obtain ⟨_, _, k2⟩ := QRun.at_ pre (i :: post) s0 sN hrun
    obtain ⟨o, h, _⟩ := k2
    exact ⟨o, h⟩
  have hlt : ∀ i ∈ ord, i < ops.size := fun i hi => by
    obtain ⟨o, h⟩ := hops i hi
    exact (Array.getElem?_eq_some_iff.1 h).1
  intro m
  induction m with
  | zero =>
    intro listed a w inv hc ⟨s, e1, e2, e3, hr⟩
    have hall : ∀ j ∈ ord, listed.getD j false = true := fun j hj => by
      have := List.countP_eq_zero.1 hc j hj
      simpa using this
    have hL : listed = listAll ord L0 := by
      obtain ⟨k1, _⟩ := getD_listAll ord L0 0
      refine Array.ext (by rw [k1, inv.size, hs0]) fun j h1 h2 => ?_
      obtain ⟨_, k2⟩ := getD_listAll ord L0 j
      have g1 : listed.getD j false = listed[j] := by simp [h1]
      have g2 : (listAll ord L0).getD j false = (listAll ord L0)[j] := by simp [h2]
      rw [← g1, ← g2]
      rw [Bool.eq_iff_iff, k2]
      constructor
      · intro h
        rcases inv.sub j h with h' | h'
        · exact .inl h'
        · exact .inr ⟨h', by rw [hs0, ← inv.size]; exact h1⟩
      · rintro (h | h)
        · exact inv.mono j h
        · exact hall j h.1
    rw [Nat.zero_add, hL]
    refine hend a w (hr.congr ?_ ?_ ?_)
    · intro t
      obtain ⟨k1, _⟩ := QRun.env ord s0 sN hrun
      rw [k1, e3]
      exact envOf_at ord _ _ rfl fun i hi _ => (hall i hi).symm
    · obtain ⟨_, k2, _⟩ := QRun.env ord s0 sN hrun; rw [k2, e1]
    · obtain ⟨_, _, k3⟩ := QRun.env ord s0 sN hrun; rw [k3, e2]
  | succ m ih =>
    intro listed a w inv hc ⟨s, e1, e2, e3, hr⟩
    have hex : ∃ i ∈ ord, listed.getD i false = false := by
      have : 0 < ord.countP fun j => !listed.getD j false := by omega
      obtain ⟨i, hi, h⟩ := List.countP_pos_iff.1 this
      exact ⟨i, hi, by simpa using h⟩
    rw [show m + 1 + g = (m + g) + 1 by omega]
    refine ⟨fun h0 => ?_, fun i hi => ?_⟩
    · -- the first of the head that is not listed may come up
      exfalso
      have : ∀ (l pre : List Nat), ord = pre ++ l → (∀ j ∈ pre, listed.getD j false = true) → (∃ i ∈ l, listed.getD i false = false) → False := by
        intro l
        induction l with
        | nil => rintro pre _ _ ⟨i, hi, _⟩; cases hi
        | cons k r ihl =>
          intro pre ho hp hx
          cases hk : listed.getD k false with
          | true =>
            refine ihl (pre ++ [k]) (by simp [ho]) ?_ ?_
            · intro j hj
              rcases List.mem_append.1 hj with hj | hj
              · exact hp j hj
              · have : j = k := by simpa using hj
                subst this; exact hk
            · obtain ⟨i, hi, hu⟩ := hx
              rcases List.mem_cons.1 hi with e | hi
              · subst e; rw [hk] at hu; cases hu
              · exact ⟨i, hi, hu⟩
          | false =>
            obtain ⟨hrd, _⟩ := headO_split pre k r _ (ho ▸ hh)
            have hrd' : k ∈ Region.ready .any ops (listAll pre L0) := by simpa using hrd
            obtain ⟨_, ok, hok, hall⟩ := mem_ready.1 hrd'
            have : k ∈ Region.ready .any ops listed := by
              refine mem_ready.2 ⟨unlisted_true ?_ hk, ok, hok, fun e he hb => ?_⟩
              · rw [inv.size]; exact hlt k (by rw [ho]; simp)
              · have h1 := hall e he hb
                obtain ⟨_, k2⟩ := getD_listAll pre L0 e.on
                rw [k2] at h1
                rcases h1 with h1 | h1
                · exact inv.mono _ h1
                · exact hp _ h1.1
            rw [h0] at this
            cases this
      exact this ord [] rfl (by simp) hex
    · by_cases hio : i ∈ ord
      · obtain ⟨pre, post, hord⟩ := List.append_of_mem hio
        obtain ⟨oi, hoi⟩ := hops i hio
        have hui : listed.getD i false = false := getD_both (mem_ready.1 hi).1
        obtain ⟨_, oi', hoi', hready⟩ := mem_ready.1 hi
        have hee : oi' = oi := Option.some.inj (hoi'.symm.trans hoi)
        subst hee
        obtain ⟨sm, q1, q2⟩ := QRun.at_ pre (i :: post) s0 sN (hord ▸ hrun)
        obtain ⟨o', ho', hq, _⟩ := q2
        have hee : o' = oi' := Option.some.inj (ho'.symm.trans hoi)
        subst hee
        obtain ⟨m1, m2, m3⟩ := QRun.env pre s0 sm q1
        have hnd := hn
        rw [hord, List.nodup_append, List.nodup_cons] at hnd
        have hdst : ∀ {k ok}, ops[k]? = some ok → dstAt ops k = ok.dst := fun {k ok} h => by simp [dstAt, h]
        -- who comes behind i and is listed is apart from i
        have hpost : ∀ k ∈ post, listed.getD k false = true → ∃ ok, ops[k]? = some ok ∧ o'.apart ops ok = true := fun k hk hl => by
          obtain ⟨ok, hok⟩ := hops k (by rw [hord]; simp [hk])
          rcases head_apart hs0 h00 hord hh hn hk hoi hok with ⟨e, he, hb, hon⟩ | hap
          · have := inv.closed k ok hok hl e he hb
            rw [hon, hui] at this; cases this
          · exact ⟨ok, hok, hap⟩
        -- who stands ahead of i and is not listed is apart from i
        have hpre : ∀ k ∈ pre, listed.getD k false = false → ∃ ok, ops[k]? = some ok ∧ ok.apart ops o' = true := fun k hk hl => by
          obtain ⟨p1, p2, hp⟩ := List.append_of_mem hk
          obtain ⟨ok, hok⟩ := hops k (by rw [hord, hp]; simp)
          have ho2 : ord = p1 ++ k :: (p2 ++ i :: post) := by rw [hord, hp]; simp
          rcases head_apart hs0 h00 ho2 hh hn (by simp) hok hoi with ⟨e, he, hb, hon⟩ | hap
          · have := hready e he hb
            rw [hon, hl] at this; cases this
          · exact ⟨ok, hok, hap⟩
        have hlook : ∀ t ∈ o'.looksAt ops, assoc sm.env t = assoc s.env t := fun t htl => by
          rw [m1, e3, hord, envOf_append]
          simp only [envOf]
          have hi0 : listed.getD i false = false := hui
          simp only [hi0, Bool.false_eq_true, if_false]
          have s1 : envOf ops res (fun i => listed.getD i false) post (envOf ops res (fun i => listed.getD i false) pre (assoc s0.env)) t = envOf ops res (fun _ => false) post (envOf ops res (fun i => listed.getD i false) pre (assoc s0.env)) t :=
            envOf_at post _ _ rfl fun k hk hd => by
              cases hl : listed.getD k false with
              | false => rfl
              | true =>
                obtain ⟨ok, hok, hap⟩ := hpost k hk hl
                obtain ⟨_, _, h3⟩ := Oper.apart_spec hap
                rw [hdst hok] at hd
                exact absurd htl (h3 t hd)
          rw [s1, envOf_none post _ (fun _ _ => rfl)]
          refine envOf_at pre _ _ rfl fun k hk hd => ?_
          cases hl : listed.getD k false with
          | true => rfl
          | false =>
            obtain ⟨ok, hok, hap⟩ := hpre k hk hl
            obtain ⟨h1, _, _⟩ := Oper.apart_spec hap
            rw [hdst hok] at hd
            exact absurd htl (h1 t hd)
        have hq' : QStep P tab C.nt ops s o' (res i) := hq.congr (by rw [m2, e1]) hlook
        refine QStep_ok ht hr hoi hq' fun a' w' hr' => ?_
        have hil : i < listed.size := by rw [inv.size]; exact hlt i hio
        refine ih _ a' w' (inv.set hi hio) ?_ ⟨_, by rw [putR_heap.1, e1], by rw [putR_heap.2, e2], fun t => ?_, hr'⟩
        · have := count_set ord i listed hn hio hil hui
          omega
        · rw [assoc_putR, hord, envOf_append]
          simp only [envOf]
          have hself : (listed.setIfInBounds i true).getD i false = true := by simp [hil]
          simp only [hself, if_true]
          have hX : envOf ops res (fun j => (listed.setIfInBounds i true).getD j false) pre (assoc s0.env) = envOf ops res (fun j => listed.getD j false) pre (assoc s0.env) := funext fun u =>
            envOf_at pre _ _ rfl fun k hk _ => getD_set_ne false (fun e => by subst e; exact hnd.2.2 i hk i (by simp) rfl)
          have hY : ∀ (E : Nat → Option CV) u, envOf ops res (fun j => (listed.setIfInBounds i true).getD j false) post E u = envOf ops res (fun j => listed.getD j false) post E u := fun E u =>
            envOf_at post _ _ rfl fun k hk _ => getD_set_ne false (fun e => by subst e; exact hnd.2.1.1 hk)
          rw [hX, hY, hdst hoi]
          unfold updE
          rw [e3, hord, envOf_append]
          simp only [envOf, hui, Bool.false_eq_true, if_false]
          by_cases hd : o'.dst = some t
          · rw [if_pos hd]
            have s1 : envOf ops res (fun j => listed.getD j false) post (fun u => if o'.dst = some u then res i else envOf ops res (fun j => listed.getD j false) pre (assoc s0.env) u) t = envOf ops res (fun _ => false) post (fun u => if o'.dst = some u then res i else envOf ops res (fun j => listed.getD j false) pre (assoc s0.env) u) t :=
              envOf_at post _ _ rfl fun k hk hdk => by
                cases hl : listed.getD k false with
                | false => rfl
                | true =>
                  obtain ⟨ok, hok, hap⟩ := hpost k hk hl
                  obtain ⟨_, h2, _⟩ := Oper.apart_spec hap
                  rw [hdst hok] at hdk
                  exact absurd hdk (h2 t hd)
            rw [s1, envOf_none post _ (fun _ _ => rfl)]
            simp [hd]
          · rw [if_neg hd]
            exact envOf_at post _ _ (by simp [hd]) fun _ _ _ => rfl
      · exfalso
        obtain ⟨i0, hi0, hu0⟩ := hex
        obtain ⟨_, ot, hot, hall⟩ := mem_ready.1 hi
        have hl0 : L0.getD i false = false := by
          cases hl : L0.getD i false with
          | false => rfl
          | true =>
            have := inv.mono i hl
            rw [getD_both (mem_ready.1 hi).1] at this; cases this
        rcases htail i (Array.getElem?_eq_some_iff.1 hot).1 hio hl0 with h1 | ⟨u, hu, hu', hw⟩
        · have := sink_listed inv hi ord h1 i0 hi0
          rw [hu0] at this; cases this
        · obtain ⟨o', ho', e, he, hb, rfl⟩ := Region.waitsFor_spec hw
          have : o' = ot := Option.some.inj (ho'.symm.trans hot)
          subst this
          rcases inv.sub _ (hall e he hb) with h | h
          · rw [hu'] at h; cases h
          · exact hu h

/-- Moves and places ahead of everything else: they hang on nothing in memory. -/
def preO (ops : Array Oper) : List Nat → Array Bool → Bool
  | [], _ => true
  | i :: r, listed => (Region.ready .any ops listed).contains i && Region.free .any ops listed i && (match ops[i]? with
      | some o => o.guard.isNone && (match o.op with | .move _ => true | .indexAddr _ _ _ => true | .fieldAddr _ _ _ => true | _ => false)
      | none => false) && preO ops r (listed.setIfInBounds i true)

theorem pre_any (ht : TabOk P tab) (hsel : Region.noSelect ops = true) {Q' : Exit → Act → World → Prop} (hQ : ∀ c a w, ¬ Q' (.panic c) a w) {g : Nat} {K : St → Prop} : ∀ (pre : List Nat) (L0 : Array Bool) (s : St) (a : Act) (w : World), preO ops pre L0 = true → Rel C s a w →
    TH P tab C.nt ops pre s K → (∀ s' a', K s' → Rel C s' a' w → wpAny P .any ops Q' g (listAll pre L0) a' w) → wpAny P .any ops Q' (pre.length + g) L0 a w
  | [], L0, s, a, w, _, hr, hk, hend => by rw [List.length_nil, Nat.zero_add]; exact hend s a hk hr
  | i :: r, L0, s, a, w, hp, hr, hk, hend => by
    simp only [preO, Bool.and_eq_true] at hp
    obtain ⟨⟨⟨h1, h2⟩, h3⟩, h4⟩ := hp
    obtain ⟨o, res, ho, hq, hk'⟩ := hk
    rw [ho] at h3
    simp only [Bool.and_eq_true] at h3
    have hg : o.guard = none := by simpa using h3.1
    obtain ⟨hd, hq⟩ := hq
    rcases hq with ⟨j, want, t, e1, _⟩ | ⟨_, c, rfl, hc⟩
    · rw [hg] at e1; cases e1
    · obtain ⟨σ, hr⟩ := hr
      have hv : ∃ v, (∀ w, (execOp a.eval o).run P w = .ok (.value v) w) ∧ VR w (FB C σ s.heap) σ c v := by
        rcases hc with hc | ⟨cl, e, _⟩
        · cases hop : o.op <;> rw [hop] at h3 <;> simp at h3
          case move x =>
            rw [hop] at hc
            exact ⟨a.eval x, fun w => by simp [execOp, hop], ev_ok hr hc⟩
          case indexAddr t x i =>
            rw [hop] at hc
            simp only [qval] at hc
            split at hc
            · rename_i c' k n hx hi
              have hn := ev_ok hr hi
              simp only [VR] at hn
              obtain ⟨z, k1, k2⟩ := cindex_ok (P := P) (k := k) ht (ev_ok hr hx) hc
              exact ⟨z, fun w => by simp [execOp, hop, hn, k1], k2⟩
            · cases hc
          case fieldAddr t x f =>
            rw [hop] at hc
            simp only [qval] at hc
            split at hc
            · rename_i c' hx
              obtain ⟨z, k1, k2⟩ := cfieldAddr_ok (P := P) ht (ev_ok hr hx) hc
              exact ⟨z, fun w => by simp [execOp, hop, k1], k2⟩
            · cases hc
        · rw [e] at h3; simp at h3
      obtain ⟨v, hv1, hv2⟩ := hv
      have hy : Yields P ops o v a := .inl ⟨by simp [Region.wanted, hg], hv1⟩
      rw [show (i :: r).length + g = (r.length + g) + 1 by simp; omega]
      refine wpAny_take ho hsel h2 h1 (fun c a w h => absurd h (hQ c _ w)) hy ?_
      refine pre_any ht hsel hQ r (L0.setIfInBounds i true) _ _ w h4 ⟨σ, hr.put ?_ hv2⟩ hk' (fun s' a' hs' hr' => hend s' a' hs' hr')
      intro t e
      rw [hr.tm]
      rw [e] at hd
      simpa [dstOk] using hd

/-- The order of a walk: moves first ('pre'), then 'ord', then 'tail'. -/
def drawB (ops : Array Oper) (pre ord tail : List Nat) : Bool :=
  let L1 := listAll pre (Array.replicate ops.size false)
  Region.noSelect ops && preO ops pre (Array.replicate ops.size false) && headO .any ops ord L1 && decide (pre ++ ord).Nodup && seqO .any ops tail (listAll ord L1) &&
  decide (pre.length + (ord.length + tail.length) = ops.size) && tail.all (fun t => decide (t < ops.size) && !ord.contains t && !pre.contains t && (sinkO .any ops t ord || tail.any fun u => Region.waitsFor .any ops t u)) &&
  (List.range ops.size).all fun j => pre.contains j || ord.contains j || tail.contains j

theorem TH.split {nt : Nat} {K : St → Prop} : ∀ (l m : List Nat) (s : St), TH P tab nt ops (l ++ m) s K → TH P tab nt ops l s fun s' => TH P tab nt ops m s' K
  | [], _, _, h => h
  | _ :: l, m, _, ⟨o, r, h1, h2, h3⟩ => ⟨o, r, h1, h2, TH.split l m _ h3⟩

theorem pre_inv : ∀ (pre : List Nat) (L0 : Array Bool), L0.size = ops.size → preO ops pre L0 = true → (∀ j oj, ops[j]? = some oj → L0.getD j false = true → ∀ e ∈ oj.after, Region.binds .any e = true → L0.getD e.on false = true) →
    ∀ j oj, ops[j]? = some oj → (listAll pre L0).getD j false = true → ∀ e ∈ oj.after, Region.binds .any e = true → (listAll pre L0).getD e.on false = true
  | [], L0, _, _, h => h
  | i :: r, L0, hs, hp, h => by
    simp only [preO, Bool.and_eq_true] at hp
    obtain ⟨⟨⟨h1, _⟩, _⟩, h4⟩ := hp
    have hi : i ∈ Region.ready .any ops L0 := by simpa using h1
    obtain ⟨_, oi, hoi, hall⟩ := mem_ready.1 hi
    refine pre_inv r _ (by simpa using hs) h4 fun j oj hj hl e he hb => ?_
    by_cases hij : i = j
    · subst hij
      have : oj = oi := Option.some.inj (hj.symm.trans hoi)
      subst this
      exact getD_set_true (hall e he hb)
    · rw [getD_set_ne false hij] at hl
      exact getD_set_true (h j oj hj hl e he hb)

/-- **A region that draws**: moves; then operations in the order 'ord', none of which turns memory; then those of 'tail', whose order is forced. -/
theorem T.draw (ht : TabOk P tab) (hm : P.follows .mixedOrders = true) {id : Nat} {l : List Oper} {Q : Exit → St → Prop} (pre ord tail : List Nat) (hB : drawB l.toArray pre ord tail = true)
    (h : TH P tab C.nt l.toArray (pre ++ ord) s fun s' => TL P C l.toArray (tail.map (l.toArray.getD · default)) s' (Q .normal)) : T P C (.region id l.toArray true) s Q := by
  intro a w hr
  simp only [drawB, Bool.and_eq_true, decide_eq_true_eq] at hB
  obtain ⟨⟨⟨⟨⟨⟨⟨h0, hp⟩, h1⟩, h2⟩, h3⟩, h4⟩, h5⟩, h6⟩ := hB
  have hnd := List.nodup_append.1 h2
  have hL : ∀ j, (listAll pre (Array.replicate l.toArray.size false)).getD j false = true → j ∈ pre := fun j hj => by
    obtain ⟨_, k2⟩ := getD_listAll pre (Array.replicate l.toArray.size false) j
    rw [k2, getD_rep] at hj
    rcases hj with hj | hj
    · cases hj
    · exact hj.1
  have hLf : ∀ j, j ∉ pre → (listAll pre (Array.replicate l.toArray.size false)).getD j false = false := fun j hj => by
    cases hl : (listAll pre (Array.replicate l.toArray.size false)).getD j false with
    | false => rfl
    | true => exact absurd (hL j hl) hj
  have hs0 : (listAll pre (Array.replicate l.toArray.size false)).size = l.toArray.size := by rw [(getD_listAll pre _ 0).1]; simp
  refine wp_mono (Q := fun e a' w' => e = .normal ∧ ∃ s', Q .normal s' ∧ Rel C s' a' w') (wp_region_any hm ?_) (fun e a' w' ⟨he, s', k1, k2⟩ => by subst he; exact ⟨s', k1, k2⟩)
  have htl : ∀ t ∈ tail, t < l.toArray.size ∧ t ∉ ord ∧ t ∉ pre := fun t ht => by
    have := List.all_eq_true.1 h5 t ht
    simp only [Bool.and_eq_true, decide_eq_true_eq, Bool.not_eq_true', List.contains_eq_mem, decide_eq_false_iff_not] at this
    exact ⟨this.1.1.1, this.1.1.2, this.1.2⟩
  have htail : ∀ j, j < l.toArray.size → j ∉ ord → (listAll pre (Array.replicate l.toArray.size false)).getD j false = false →
      sinkO .any l.toArray j ord = true ∨ ∃ u, u ∉ ord ∧ (listAll pre (Array.replicate l.toArray.size false)).getD u false = false ∧ Region.waitsFor .any l.toArray j u = true := fun j hj hjo hjl => by
    have := List.all_eq_true.1 h6 j (List.mem_range.2 hj)
    simp only [Bool.or_eq_true, List.contains_eq_mem, decide_eq_true_eq] at this
    rcases this with (e | e) | e
    · exfalso
      obtain ⟨_, k2⟩ := getD_listAll pre (Array.replicate l.toArray.size false) j
      have := k2.2 (.inr ⟨e, by simpa using hj⟩)
      rw [hjl] at this; cases this
    · exact absurd e hjo
    · have h7 := List.all_eq_true.1 h5 j e
      simp only [Bool.and_eq_true, Bool.or_eq_true] at h7
      rcases h7.2 with h8 | h8
      · exact .inl h8
      · obtain ⟨u, hu, hw⟩ := List.any_eq_true.1 h8
        exact .inr ⟨u, (htl u hu).2.1, hLf u (htl u hu).2.2, hw⟩
  have hfin := pre_any (P := P) (tab := tab) (C := C) (Q' := fun e a' w' => e = .normal ∧ ∃ s', Q .normal s' ∧ Rel C s' a' w') ht h0 (fun c a w h => by cases h.1) (g := ord.length + tail.length) pre (Array.replicate l.toArray.size false) s a { w with drawn := w.drawn + 1 } hp hr.drew (TH.split pre ord s h) (fun s1 a1 hk1 hr1 => by
    obtain ⟨res, sN, hrun, hN⟩ := TH.run ord s1 hnd.2.1 hk1
    refine head_any (g := tail.length) ht hs0 hrun hnd.2.1 (fun j hj => hLf j fun e => hnd.2.2 j e j hj rfl) h1 htail (fun a w hr => wpAny_of_seqO tail _ a w (fun i hi => (htl i hi).1) h3 (hN a w _ hr fun s' _ _ hk hr' => ⟨rfl, s', hk, hr'⟩))
      ord.length _ a1 _ ⟨hs0, pre_inv pre _ (by simp) hp fun j oj _ hl => (by rw [getD_rep] at hl; cases hl), fun j hl => .inl hl, fun j hl => hl⟩
      (by rw [List.countP_eq_length]; intro j hj; rw [hLf j fun e => hnd.2.2 j e j hj rfl]; rfl)
      ⟨s1, rfl, rfl, fun t => by rw [envOf_none ord _ (fun i hi => hLf i fun e => hnd.2.2 i e i hi rfl)], hr1⟩)
  rw [h4] at hfin
  exact hfin
end
end Go.Can
