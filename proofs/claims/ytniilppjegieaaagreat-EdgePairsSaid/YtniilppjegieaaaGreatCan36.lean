/- Maps whose keys and values hold no memory: lookups and updates. No function of the program is mentioned here. -/
import Derived.Test.YtniilppjegieaaaGreatCan29
import Derived.Maps.Keyed
import Derived.WideKeyPair
import Derived.Laws.StructEq
namespace Go.Can
open Go.RowKit

def clo1 : Value → Bool
  | .int _ _ => true
  | .bool _ => true
  | .string _ => true
  | _ => false
def clo : Value → Bool
  | .agg cs => cs.toList.all clo1
  | v => clo1 v
def veq1 : Value → Value → Bool
  | .int k a, .int j b => decide (k = j) && a == b
  | .bool a, .bool b => a == b
  | .string a, .string b => a.data.toList == b.data.toList
  | _, _ => false
def veqs : List Value → List Value → Bool
  | [], [] => true
  | a :: r, b :: q => veq1 a b && veqs r q
  | _, _ => false
def veq : Value → Value → Bool
  | .agg a, .agg b => veqs a.toList b.toList
  | a, b => veq1 a b
theorem veq1_ok {a b : Value} (h : veq1 a b = true) : a = b := by
  unfold veq1 at h
  split at h
  · simp only [Bool.and_eq_true, decide_eq_true_eq, beq_iff_eq] at h
    rw [h.1, h.2]
  · simp only [beq_iff_eq] at h; rw [h]
  · rename_i a b
    have h2 : a.data = b.data := Array.toList_inj.1 (by simpa using h)
    rw [ByteArray.ext h2]
  · cases h
theorem veqs_ok : ∀ (a b : List Value), veqs a b = true → a = b
  | [], [], _ => rfl
  | [], _ :: _, h => by simp [veqs] at h
  | _ :: _, [], h => by simp [veqs] at h
  | a :: r, b :: q, h => by
    simp only [veqs, Bool.and_eq_true] at h
    rw [veq1_ok h.1, veqs_ok r q h.2]
theorem veq_ok {a b : Value} (h : veq a b = true) : a = b := by
  unfold veq at h
  split at h
  · rename_i a b
    rw [Array.toList_inj.1 (veqs_ok _ _ h)]
  · exact veq1_ok h
theorem veq1_self {a : Value} (h : clo1 a = true) : veq1 a a = true := by
  cases a <;> simp_all [clo1, veq1]
theorem veqs_self : ∀ (l : List Value), l.all clo1 = true → veqs l l = true
  | [], _ => rfl
  | a :: r, h => by
    simp only [List.all_cons, Bool.and_eq_true] at h
    simp [veqs, veq1_self h.1, veqs_self r h.2]
theorem veq_self {a : Value} (h : clo a = true) : veq a a = true := by
  cases a <;> simp only [clo, clo1, Bool.false_eq_true] at h <;> simp only [veq] <;> first
    | exact veqs_self _ h
    | exact veq1_self rfl

def mget (kv : Value) : List (Value × Value) → Option Value
  | [] => none
  | (k, v) :: r => if veq kv k = true then some v else mget kv r
def mset (kv vv : Value) : List (Value × Value) → List (Value × Value)
  | [] => [(kv, vv)]
  | (k, v) :: r => if veq kv k = true then (kv, vv) :: r else (k, v) :: mset kv vv r
theorem mget_mem {kv : Value} : ∀ (es : List (Value × Value)) (v : Value), mget kv es = some v → (kv, v) ∈ es
  | [], _, h => by simp [mget] at h
  | (k, u) :: r, v, h => by
    simp only [mget] at h
    split at h
    · rename_i e; rw [veq_ok e]; cases h; exact List.mem_cons_self
    · exact List.mem_cons_of_mem _ (mget_mem r v h)
theorem mget_none {kv : Value} (hc : clo kv = true) : ∀ (es : List (Value × Value)), mget kv es = none → ∀ x ∈ es, x.1 ≠ kv
  | [], _, x, hx => by cases hx
  | (k, u) :: r, h, x, hx => by
    simp only [mget] at h
    split at h
    · cases h
    · rename_i e
      rcases List.mem_cons.1 hx with rfl | hx
      · intro e2; subst e2; exact e (veq_self hc)
      · exact mget_none hc r h x hx
theorem mget_uniq {kv : Value} (hc : clo kv = true) : ∀ (es : List (Value × Value)), (es.map (·.1)).Nodup → ∀ v, (kv, v) ∈ es → mget kv es = some v
  | [], _, v, hx => by cases hx
  | (k, u) :: r, hn, v, hx => by
    simp only [List.map_cons, List.nodup_cons] at hn
    simp only [mget]
    rcases List.mem_cons.1 hx with e | hx
    · cases e; rw [if_pos (veq_self hc)]
    · rw [if_neg (fun e => hn.1 (List.mem_map.2 ⟨(kv, v), hx, veq_ok e⟩))]
      exact mget_uniq hc r hn.2 v hx
theorem mset_keys {kv vv : Value} : ∀ (es : List (Value × Value)) (x : Value × Value), x ∈ mset kv vv es → x.1 = kv ∨ x ∈ es
  | [], x, h => by simp only [mset, List.mem_singleton] at h; exact .inl (by rw [h])
  | (k, u) :: r, x, h => by
    simp only [mset] at h
    split at h
    · rcases List.mem_cons.1 h with e | h
      · exact .inl (by rw [e])
      · exact .inr (List.mem_cons_of_mem _ h)
    · rcases List.mem_cons.1 h with e | h
      · exact .inr (by rw [e]; exact List.mem_cons_self)
      · rcases mset_keys r x h with h | h
        · exact .inl h
        · exact .inr (List.mem_cons_of_mem _ h)
theorem mset_nodup {kv vv : Value} (hc : clo kv = true) : ∀ (es : List (Value × Value)), (es.map (·.1)).Nodup → ((mset kv vv es).map (·.1)).Nodup
  | [], _ => by simp [mset]
  | (k, u) :: r, hn => by
    simp only [List.map_cons, List.nodup_cons] at hn
    simp only [mset]
    split
    · rename_i e
      have := veq_ok e
      subst this
      simpa using hn
    · rename_i e
      simp only [List.map_cons, List.nodup_cons]
      refine ⟨fun hm => ?_, mset_nodup hc r hn.2⟩
      obtain ⟨x, hx, e2⟩ := List.mem_map.1 hm
      rcases mset_keys r x hx with h | h
      · rw [h] at e2; subst e2; exact e (veq_self hc)
      · exact hn.1 (List.mem_map.2 ⟨x, h, e2⟩)

/-- The value of a reading that holds no memory. -/
def cv1 : CV → Option Value
  | .int k n => some (.int k n)
  | .bool b => some (.bool b)
  | .str s => some (.string s)
  | _ => none
def cvs : List CV → Option (List Value)
  | [] => some []
  | c :: r => match cv1 c, cvs r with
    | some v, some vs => some (v :: vs)
    | _, _ => none
def cvVal : CV → Option Value
  | .agg cs => match cvs cs with
    | some vs => some (.agg vs.toArray)
    | none => none
  | c => cv1 c
section
variable {P : Program} {C : Cx} {σ : Nat → Option OB} {s : St} {a : Act} {w : World} {ops : Array Oper} {tab : List (Nat × TI)}

theorem cv1_ok {F : Nat → Prop} {c : CV} {v u : Value} (h : cv1 c = some v) (hv : VR w F σ c u) : u = v ∧ clo1 v = true := by
  cases c <;> simp only [cv1] at h <;> first | cases h | skip
  all_goals
    simp only [VR] at hv
    exact ⟨hv, rfl⟩
theorem cvs_ok {F : Nat → Prop} : ∀ (cs : List CV) (vs us : List Value), cvs cs = some vs → VRs w F σ cs us → us = vs ∧ vs.all clo1 = true
  | [], vs, us, h, hv => by
    simp only [cvs] at h
    cases h
    simp only [VRs] at hv
    exact ⟨hv, rfl⟩
  | c :: cs, vs, us, h, hv => by
    simp only [cvs] at h
    split at h
    · rename_i v vs' h1 h2
      cases h
      simp only [VRs] at hv
      obtain ⟨u, r, rfl, k1, k2⟩ := hv
      obtain ⟨q1, q2⟩ := cv1_ok h1 k1
      obtain ⟨q3, q4⟩ := cvs_ok cs vs' r h2 k2
      exact ⟨by rw [q1, q3], by simp [q2, q4]⟩
    · cases h
theorem cvVal_ok {F : Nat → Prop} {c : CV} {v u : Value} (h : cvVal c = some v) (hv : VR w F σ c u) : u = v ∧ clo v = true := by
  unfold cvVal at h
  split at h
  · rename_i cs
    split at h
    · rename_i vs hvs
      cases h
      simp only [VR] at hv
      obtain ⟨us, rfl, hr, _⟩ := hv
      obtain ⟨q1, q2⟩ := cvs_ok _ _ _ hvs hr
      exact ⟨by rw [q1], by simpa [clo] using q2⟩
    · cases h
  · obtain ⟨q1, q2⟩ := cv1_ok h hv
    refine ⟨q1, ?_⟩
    cases v <;> simp_all [clo, clo1]

/-- What is told of a map's type. -/
structure MapT (P : Program) (t kt et : TypeId) (kb : Value → Bool) (zv : Value) : Prop where
  und : P.underlying t = some (.map kt et)
  keyed : Go.Maps.Keyed P kt
  key : ∀ v, kb v = true → ∃ l, keyOf P kt v = some l
  zero : ∃ f, P.info? et = some f ∧ f.zero = some zv

theorem lookup_ok {t kt et : TypeId} {kb : Value → Bool} {zv : Value} (M : MapT P t kt et kb zv) {o : Oper} {x y : Operand} {k : Nat} {es : List (Value × Value)} {cy c : CV} {kv : Value} (hd : dstOk C.nt o.dst = true) (ho : o.op = .lookup t x y false)
    (hx : ev s x = some (.mp k es)) (hy : ev s y = some cy) (hk : cvVal cy = some kv) (hkb : kb kv = true) (hes : (es.all fun e => kb e.1) = true)
    (hc : (match mget kv es with | some v => constCV1 v | none => constCV1 zv) = some c) : XOk P C o s (s.put o.dst c) := by
  rintro a w ⟨σ, h⟩
  have hv := ev_ok h hx
  simp only [VR] at hv
  obtain ⟨B, r, arr, clock, hB, hb, hv, hr, hmap, hnd, hf⟩ := hv
  obtain ⟨hkv, hclo⟩ := cvVal_ok hk (ev_ok h hy)
  obtain ⟨l, hl⟩ := M.key kv hkb
  have hkeys : ∀ e ∈ arr.toList, ∃ l, keyOf P kt e.key = some l := fun e he => by
    have : (e.key, e.val) ∈ es := by rw [← hmap]; exact List.mem_map.2 ⟨e, he, rfl⟩
    exact M.key _ (List.all_eq_true.1 hes _ this)
  have hget : (getObj r).run P w = .ok (.map arr clock) w := by simp [getObj, Sem.run, hr]
  have hchk := M.keyed.check w arr.isEmpty hl
  obtain ⟨f, g1, g2⟩ := M.zero
  have hrun : ∃ u, (Instr.lookup t (.map (some r)) kv false).run P w = .ok u w ∧ constCV1 u = some c := by
    rcases M.keyed.find w hl arr.toList hkeys with ⟨hf1, hf2⟩ | ⟨j, e, hf1, hf2, hf3⟩
    · have hno : mget kv es = none := by
        cases hm : mget kv es with
        | none => rfl
        | some v =>
          exfalso
          have := mget_mem es v hm
          rw [← hmap] at this
          obtain ⟨e, he, e2⟩ := List.mem_map.1 this
          simp only [Prod.mk.injEq] at e2
          exact hf2 e he e2.1
      rw [hno] at hc
      refine ⟨zv, ?_, hc⟩
      have hzr := run_zero (P := P) g1 g2 w
      simp [Instr.lookup, run_und M.und, hget, hchk, hf1, hzr]
    · have hmem : (kv, e.val) ∈ es := by
        rw [← hmap]
        exact List.mem_map.2 ⟨e, List.mem_of_getElem? hf2, by rw [hf3]⟩
      rw [mget_uniq hclo es hnd _ hmem] at hc
      refine ⟨e.val, ?_, hc⟩
      simp [Instr.lookup, run_und M.und, hget, hchk, hf1]
  obtain ⟨u, k1, k2⟩ := hrun
  refine ⟨w, .inl ⟨u, ?_, rel_put hd h (VR.of_tree _ _ (constCV1_ok k2).1)⟩⟩
  simp [execOp, ho, hv, hkv, k1]

def isMp (k : Nat) : CV → Bool
  | .mp k' _ => k' == k
  | _ => false
def isIt : CV → Bool
  | .iter _ _ _ => true
  | _ => false
def mpE (k : Nat) (es : List (Value × Value)) : List (Nat × CV) → List (Nat × CV)
  | [] => []
  | (t, c) :: r => (t, if isMp k c then .mp k es else c) :: mpE k es r
theorem assoc_mpE {k : Nat} {es : List (Value × Value)} : ∀ (l : List (Nat × CV)) (t : Nat) (c : CV), assoc (mpE k es l) t = some c → ∃ d, assoc l t = some d ∧ c = if isMp k d then .mp k es else d
  | [], t, c, h => by simp [mpE, assoc] at h
  | (u, d) :: r, t, c, h => by
    simp only [mpE, assoc] at h ⊢
    split at h
    · rename_i e; cases h; rw [if_pos e]; exact ⟨d, rfl, rfl⟩
    · rename_i e; rw [if_neg e]; exact assoc_mpE r t c h
def updOk (s : St) (k : Nat) : Bool := (s.env.all fun x => noIter x.2 || isMp k x.2 || isIt x.2) && s.heap.all fun x => noIters x.2.cells
theorem mset_absent {kv vv : Value} : ∀ (es : List (Value × Value)), (∀ x ∈ es, x.1 ≠ kv) → mset kv vv es = es ++ [(kv, vv)]
  | [], _ => rfl
  | (k, u) :: r, h => by
    simp only [mset]
    rw [if_neg (fun e => h (k, u) List.mem_cons_self (veq_ok e).symm), mset_absent r fun x hx => h x (List.mem_cons_of_mem _ hx)]
    rfl
theorem mset_at {kv vv : Value} (hc : clo kv = true) : ∀ (es : List (Value × Value)) (j : Nat) (v : Value), (es.map (·.1)).Nodup → es[j]? = some (kv, v) → mset kv vv es = es.set j (kv, vv)
  | [], j, v, _, h => by simp at h
  | (k, u) :: r, 0, v, _, h => by
    simp only [List.getElem?_cons_zero, Option.some.injEq, Prod.mk.injEq] at h
    simp only [mset, h.1]
    rw [if_pos (veq_self hc)]
    rfl
  | (k, u) :: r, j + 1, v, hn, h => by
    simp only [List.map_cons, List.nodup_cons] at hn
    simp only [List.getElem?_cons_succ] at h
    simp only [mset]
    rw [if_neg (fun e => hn.1 (List.mem_map.2 ⟨(kv, v), List.mem_of_getElem? h, veq_ok e⟩)), mset_at hc r j v hn.2 h]
    rfl
theorem mapUpd_ok {t kt et : TypeId} {kb : Value → Bool} {zv : Value} (M : MapT P t kt et kb zv) {o : Oper} {x y v : Operand} {k : Nat} {es : List (Value × Value)} {cy cv : CV} {kv vv : Value} (hd : dstOk C.nt o.dst = true) (ho : o.op = .mapUpdate t x y v)
    (hx : ev s x = some (.mp k es)) (hy : ev s y = some cy) (hk : cvVal cy = some kv) (hv0 : ev s v = some cv) (hvv : cvVal cv = some vv) (hkb : kb kv = true) (hes : (es.all fun e => kb e.1) = true) (hk0 : C.n0 ≤ k) (hok : updOk s k = true) :
    XOk P C o s (St.del { s with env := mpE k (mset kv vv es) s.env } o.dst) := by
  rintro a w ⟨σ, h⟩
  have hv := ev_ok h hx
  simp only [VR] at hv
  obtain ⟨B, r, arr, clock, hB, hb, hv, hr, hmap, hnd, hf⟩ := hv
  obtain ⟨hkv, hclo⟩ := cvVal_ok hk (ev_ok h hy)
  obtain ⟨hval, _⟩ := cvVal_ok hvv (ev_ok h hv0)
  obtain ⟨l, hl⟩ := M.key kv hkb
  have hrl := (Array.getElem?_eq_some_iff.1 hr).1
  have hkeys : ∀ e ∈ arr.toList, ∃ l, keyOf P kt e.key = some l := fun e he => by
    have : (e.key, e.val) ∈ es := by rw [← hmap]; exact List.mem_map.2 ⟨e, he, rfl⟩
    exact M.key _ (List.all_eq_true.1 hes _ this)
  have hget : (getObj r).run P w = .ok (.map arr clock) w := by simp [getObj, Sem.run, hr]
  have hset : ∀ q, (setObj r q).run P w = .ok () { w with heap := w.heap.setIfInBounds r q } := fun q => by simp [setObj, Sem.run, hr]
  have hchk := M.keyed.check w false hl
  have hrun : ∃ arr' clock', (Instr.mapUpdate t (.map (some r)) kv vv).run P w = .ok () { w with heap := w.heap.setIfInBounds r (.map arr' clock') } ∧ arr'.toList.map (fun e => (e.key, e.val)) = mset kv vv es := by
    rcases M.keyed.find w hl arr.toList hkeys with ⟨hf1, hf2⟩ | ⟨j, e, hf1, hf2, hf3⟩
    · refine ⟨arr.push { key := kv, val := vv, born := clock }, clock + 1, ?_, ?_⟩
      · simp [Instr.mapUpdate, run_und M.und, hget, hchk, hf1, hset]
      · rw [mset_absent es fun x hx => by
          rw [← hmap] at hx
          obtain ⟨e, he, rfl⟩ := List.mem_map.1 hx
          exact hf2 e he, ← hmap]
        simp
    · have hstay := M.keyed.stays w hl
      have hj : arr[j]? = some e := by simpa using hf2
      refine ⟨arr.modify j fun e => { e with key := kv, val := vv }, clock, ?_, ?_⟩
      · simp [Instr.mapUpdate, run_und M.und, hget, hchk, hf1, hj, hf3, hstay, hset]
      · have hj2 : es[j]? = some (kv, e.val) := by
          rw [← hmap, List.getElem?_map, hf2]
          simp [hf3]
        rw [mset_at hclo es j e.val hnd hj2, ← hmap]
        apply List.ext_getElem?
        intro i
        simp only [List.getElem?_map, List.getElem?_set, Array.getElem?_toList, Array.getElem?_modify, List.length_map, Array.length_toList]
        by_cases hij : j = i
        · subst hij
          have hjl := (Array.getElem?_eq_some_iff.1 hj).1
          rw [if_pos rfl, if_pos rfl, if_pos hjl, hj]
          rfl
        · rw [if_neg hij, if_neg hij]
  obtain ⟨arr', clock', k1, k2⟩ := hrun
  simp only [updOk, Bool.and_eq_true, List.all_eq_true, Bool.or_eq_true] at hok
  generalize hw' : ({ w with heap := w.heap.setIfInBounds r (.map arr' clock') } : World) = w' at k1
  have hother : ∀ j, j ≠ r → w'.heap[j]? = w.heap[j]? := fun j hj => by simp [← hw', Ne.symm hj]
  have hself : w'.heap[r]? = some (.map arr' clock') := by simp [← hw', hrl]
  have hsz : w'.heap.size = w.heap.size := by simp [← hw']
  have hkc : ∀ F : Nat → Prop, KeepsC w w' F F := fun F ad u hf hu => by
    have hne : ad.block ≠ r := fun e => by
      unfold World.cell? at hu
      rw [e, hr] at hu
      cases hu
    exact ⟨by rw [World.cell?_of_block (hother _ hne)]; exact hu, hf⟩
  have h' : RelAt C σ { s with env := mpE k (mset kv vv es) s.env } a w' := by
    refine ⟨h.dfr, h.tm, (by rw [← hw']; exact h.os), (by rw [← hw']; exact h.tape), (by rw [← hw']; exact h.output), by rw [hsz]; exact h.size, ?_, ?_, ?_, h.inj, h.nx, h.old, h.low, h.new⟩
    · intro j hj1 hj2
      rw [hother j (fun e => ?_)]
      · exact h.frame j hj1 hj2
      · subst e
        rcases h.new k B j hk0 hB hb with n4 | n4
        · exact hj2 n4
        · omega
    · intro t c hc
      obtain ⟨d, hd', rfl⟩ := assoc_mpE _ _ _ hc
      obtain ⟨v, q1, q2⟩ := h.env t d hd'
      refine ⟨v, q1, ?_⟩
      by_cases hi : isMp k d = true
      · rw [if_pos hi]
        cases d <;> simp only [isMp, Bool.false_eq_true] at hi
        rename_i k' es'
        have : k' = k := by simpa using hi
        subst this
        simp only [VR] at q2 ⊢
        obtain ⟨B2, r2, arr2, clock2, m1, m2, m3, m4, m5, m6, m7⟩ := q2
        rw [hB] at m1; cases m1
        rw [hb] at m2; cases m2
        exact ⟨B, r, arr', clock', hB, hb, m3, hself, k2, mset_nodup hclo es hnd, m7⟩
      · rw [if_neg hi]
        rcases hok.1 _ (assoc_mem _ _ _ hd') with (q | q) | q
        · exact VR.keepN (hkc _) _ _ q q2
        · exact absurd q hi
        · cases d <;> simp only [isIt, Bool.false_eq_true] at q
          simp only [VR] at q2 ⊢
          obtain ⟨B2, r2, m1, m2, m3, m4, m5⟩ := q2
          have hne : r2 ≠ r := fun e => by rw [e, hr] at m4; cases m4
          exact ⟨B2, r2, m1, m2, m3, by rw [hother r2 hne]; exact m4, m5⟩
    · intro q y hq
      obtain ⟨B2, m1, m2, m3, m4, m5⟩ := h.obj q y hq
      refine ⟨B2, m1, m2, m3, m4, fun b2 hb2 => ?_⟩
      obtain ⟨cur2, q1, q2, q3, q4, q5, q6⟩ := m5 b2 hb2
      have hne : b2 ≠ r := fun e => by subst e; rw [hr] at q1; cases q1
      exact ⟨cur2, by rw [hother b2 hne]; exact q1, q2, q3, q4, q5, VRs.keepN (hkc _) _ _ (hok.2 _ (assoc_mem _ _ _ hq)) q6⟩
  refine ⟨w', .inr ⟨?_, σ, h'.del undef⟩⟩
  simp [execOp, ho, hv, hkv, hval, k1]

/-- A type of maps, with a check of keys. -/
structure MI where
  t : Nat
  kt : Nat
  et : Nat
  kb : Value → Bool
  zv : Value
def MIok (P : Program) (l : List MI) : Prop := ∀ x ∈ l, MapT P x.t x.kt x.et x.kb x.zv
def mil : List MI → Nat → Option MI
  | [], _ => none
  | x :: r, t => if x.t = t then some x else mil r t
theorem mil_mem : ∀ (l : List MI) (t : Nat) (x : MI), mil l t = some x → x ∈ l ∧ x.t = t
  | [], _, _, h => by simp [mil] at h
  | y :: r, t, x, h => by
    simp only [mil] at h
    split at h
    · rename_i e; cases h; exact ⟨List.mem_cons_self, e⟩
    · obtain ⟨h1, h2⟩ := mil_mem r t x h; exact ⟨List.mem_cons_of_mem _ h1, h2⟩
def mstep (mi : List MI) (n0 : Nat) (s : St) (o : Oper) : Option St :=
  match o.op with
  | .lookup t x y false => match mil mi t, ev s x, ev s y with
    | some M, some (.mp _ es), some cy => match cvVal cy with
      | some kv => if M.kb kv = true ∧ (es.all fun e => M.kb e.1) = true then
          match (match mget kv es with | some v => constCV1 v | none => constCV1 M.zv) with
          | some c => some (s.put o.dst c)
          | none => none
        else none
      | none => none
    | _, _, _ => none
  | .mapUpdate t x y v => match mil mi t, ev s x, ev s y, ev s v with
    | some M, some (.mp k es), some cy, some cv => match cvVal cy, cvVal cv with
      | some kv, some vv => if M.kb kv = true ∧ (es.all fun e => M.kb e.1) = true ∧ n0 ≤ k ∧ updOk s k = true then some (St.del { s with env := mpE k (mset kv vv es) s.env } o.dst) else none
      | _, _ => none
    | _, _, _, _ => none
  | _ => none
theorem mstep_ok {mi : List MI} (hM : MIok P mi) {o : Oper} {s' : St} (hd : dstOk C.nt o.dst = true) (h : mstep mi C.n0 s o = some s') : XOk P C o s s' := by
  unfold mstep at h
  split at h
  · rename_i t x y ho
    split at h
    · rename_i M k es cy h1 h2 h3
      obtain ⟨m1, m2⟩ := mil_mem _ _ _ h1
      have hT := hM M m1
      rw [m2] at hT
      split at h
      · rename_i kv h4
        split at h
        · rename_i hc
          split at h
          · rename_i c h5
            cases h
            exact lookup_ok hT hd ho h2 h3 h4 hc.1 hc.2 h5
          · cases h
        · cases h
      · cases h
    · cases h
  · rename_i t x y v ho
    split at h
    · rename_i M k es cy cv h1 h2 h3 h4
      obtain ⟨m1, m2⟩ := mil_mem _ _ _ h1
      have hT := hM M m1
      rw [m2] at hT
      split at h
      · rename_i kv vv h5 h6
        split at h
        · rename_i hc
          cases h
          exact mapUpd_ok hT hd ho h2 h3 h5 h4 h6 hc.1 hc.2.1 hc.2.2.1 hc.2.2.2
        · cases h
      · cases h
    · cases h
  · cases h
/-- Keys that are pairs of integers. -/
def inI (n : Int) : Bool := decide (-9223372036854775808 ≤ n) && decide (n ≤ 9223372036854775807)
def pairB : Value → Bool
  | .agg cs => match cs.toList with
    | [.int .i64 a, .int .i64 b] => inI a && inI b
    | _ => false
  | _ => false
theorem mapT_pair {t kt it et : TypeId} {zv : Value} (hu : P.underlying t = some (.map kt et)) (A : Go.WideMaps.ArrKey P kt it 2) (hi : P.underlying it = some (.int .i64)) (hsz : ∃ m, P.types.size = m + 1) (hz : ∃ f, P.info? et = some f ∧ f.zero = some zv) : MapT P t kt et pairB zv := by
  refine ⟨hu, Go.Maps.Keyed.of_law A.law, fun v hv => ?_, hz⟩
  unfold pairB at hv
  split at hv
  · rename_i cs
    split at hv
    · rename_i a b hcs
      simp only [Bool.and_eq_true, inI, decide_eq_true_eq] at hv
      have hcs2 : cs = #[.int .i64 a, .int .i64 b] := Array.ext' hcs
      rw [hcs2]
      have wf : ∀ n : Int, -9223372036854775808 ≤ n ∧ n ≤ 9223372036854775807 → (Lit.int .i64 n).wf = true := fun n hn => by
        simp [Lit.wf, IntKind.min, IntKind.max, IntKind.signed, IntKind.bits]
        omega
      exact ⟨_, Go.WideMaps.keyOf_pair A hi hsz (wf a hv.1) (wf b hv.2)⟩
    · cases hv
  · cases hv
/-- A record of four integers. -/
def rec4 : Value → Bool
  | .agg cs => match cs.toList with
    | [.int .i64 _, .int .i64 _, .int .i64 _, .int .i64 _] => true
    | _ => false
  | _ => false
theorem rec4_ok {v : Value} (h : rec4 v = true) : ∃ a b c d : Int, v = .agg #[.int .i64 a, .int .i64 b, .int .i64 c, .int .i64 d] := by
  unfold rec4 at h
  split at h
  · rename_i cs
    split at h
    · rename_i a b c d hcs
      exact ⟨a, b, c, d, by rw [show cs = #[.int .i64 a, .int .i64 b, .int .i64 c, .int .i64 d] from Array.ext' hcs]⟩
    · cases h
  · cases h
theorem eqFields4 {ti : TypeId} {f0 f1 f2 f3 : Field} (hi : P.underlying ti = some (.int .i64)) (h0 : f0.type = ti ∧ f0.offset = 0 ∧ f0.name ≠ "_") (h1 : f1.type = ti ∧ f1.offset = 1 ∧ f1.name ≠ "_") (h2 : f2.type = ti ∧ f2.offset = 2 ∧ f2.name ≠ "_") (h3 : f3.type = ti ∧ f3.offset = 3 ∧ f3.name ≠ "_") (a b c d a' b' c' d' : Int) :
    (Op.eqFields 9999 #[.int .i64 a, .int .i64 b, .int .i64 c, .int .i64 d] #[.int .i64 a', .int .i64 b', .int .i64 c', .int .i64 d'] [f0, f1, f2, f3]).run P w = .ok (a == a' && (b == b' && (c == c' && d == d'))) w := by
  have hp : ∀ (xs : Array Value) (i : Nat) (v : Value), xs[i]? = some v → (part ti xs i).run P w = .ok v w := fun xs i v hv => by
    simp [part, isAgg, run_und hi, hv]
  have p0 : ∀ x y z u : Value, (part ti #[x, y, z, u] 0).run P w = .ok x w := fun x y z u => hp _ 0 _ rfl
  have p1 : ∀ x y z u : Value, (part ti #[x, y, z, u] 1).run P w = .ok y w := fun x y z u => hp _ 1 _ rfl
  have p2 : ∀ x y z u : Value, (part ti #[x, y, z, u] 2).run P w = .ok z w := fun x y z u => hp _ 2 _ rfl
  have p3 : ∀ x y z u : Value, (part ti #[x, y, z, u] 3).run P w = .ok u w := fun x y z u => hp _ 3 _ rfl
  have he : ∀ x y : Int, (Op.equalIn 9999 ti (.int .i64 x) (.int .i64 y)).run P w = .ok (x == y) w := fun x y => run_equalIn_int w 9998 ti .i64 .i64 x y hi
  obtain ⟨t0, o0, n0⟩ := h0
  obtain ⟨t1, o1, n1⟩ := h1
  obtain ⟨t2, o2, n2⟩ := h2
  obtain ⟨t3, o3, n3⟩ := h3
  simp only [Op.eqFields, t0, o0, t1, o1, t2, o2, t3, o3, n0, n1, n2, n3, ne_eq, not_false_eq_true, if_true, Sem.run_bind, Sem.run_ite, p0, p1, p2, p3, he, Result.andThen_ok, Sem.run_pure]
  by_cases e0 : a = a' <;> by_cases e1 : b = b' <;> by_cases e2 : c = c' <;> by_cases e3 : d = d' <;> simp [e0, e1, e2, e3]

/-- What is told of a type whose values are compared. -/
structure EqT (P : Program) (t : TypeId) (kb : Value → Bool) : Prop where
  eq : ∀ (w : World) (x y : Value), kb x = true → kb y = true → (Op.equalIn 10000 t x y).run P w = .ok (veq x y) w
  guard : P.eqGuardType P.depth t = false
  agg : ∀ x, kb x = true → ∃ cs, x = .agg cs
theorem eqT_rec4 {t ti : TypeId} {f0 f1 f2 f3 : Field} (ht : P.underlying t = some (.struct (P.fieldsOf t))) (hf : (P.fieldsOf t).toList = [f0, f1, f2, f3]) (hs : P.stoodInHeld t = false) (hi : P.underlying ti = some (.int .i64)) (h0 : f0.type = ti ∧ f0.offset = 0 ∧ f0.name ≠ "_") (h1 : f1.type = ti ∧ f1.offset = 1 ∧ f1.name ≠ "_") (h2 : f2.type = ti ∧ f2.offset = 2 ∧ f2.name ≠ "_") (h3 : f3.type = ti ∧ f3.offset = 3 ∧ f3.name ≠ "_") (hg : P.eqGuardType P.depth t = false) : EqT P t rec4 := by
  refine ⟨fun w x y hx hy => ?_, hg, fun x hx => ?_⟩
  · obtain ⟨a, b, c, d, rfl⟩ := rec4_ok hx
    obtain ⟨a', b', c', d', rfl⟩ := rec4_ok hy
    rw [run_equalIn_agg w 9999 t _ _ ht hs, hf, eqFields4 hi h0 h1 h2 h3]
    simp [veq, veqs, veq1]
  · obtain ⟨a, b, c, d, rfl⟩ := rec4_ok hx
    exact ⟨_, rfl⟩
structure EI where
  t : Nat
  kb : Value → Bool
def EIok (P : Program) (l : List EI) : Prop := ∀ x ∈ l, EqT P x.t x.kb
def eil : List EI → Nat → Option EI
  | [], _ => none
  | x :: r, t => if x.t = t then some x else eil r t
theorem eil_mem : ∀ (l : List EI) (t : Nat) (x : EI), eil l t = some x → x ∈ l ∧ x.t = t
  | [], _, _, h => by simp [eil] at h
  | y :: r, t, x, h => by
    simp only [eil] at h
    split at h
    · rename_i e; cases h; exact ⟨List.mem_cons_self, e⟩
    · obtain ⟨h1, h2⟩ := eil_mem r t x h; exact ⟨List.mem_cons_of_mem _ h1, h2⟩
def estep (ei : List EI) (s : St) (o : Oper) : Option St :=
  match o.op with
  | .binOp op t x y _ => match eil ei t, ev s x, ev s y with
    | some E, some cx, some cy => match cvVal cx, cvVal cy with
      | some vx, some vy => if E.kb vx = true ∧ E.kb vy = true then match op with
          | .eql => some (s.put o.dst (.bool (veq vx vy)))
          | .neq => some (s.put o.dst (.bool (!(veq vx vy))))
          | _ => none
        else none
      | _, _ => none
    | _, _, _ => none
  | _ => none
theorem estep_ok {ei : List EI} (hE : EIok P ei) {o : Oper} {s' : St} (hd : dstOk C.nt o.dst = true) (h : estep ei s o = some s') : XOk P C o s s' := by
  unfold estep at h
  split at h
  · rename_i op t x y q ho
    split at h
    · rename_i E cx cy h1 h2 h3
      obtain ⟨m1, m2⟩ := eil_mem _ _ _ h1
      have hT := hE E m1
      rw [m2] at hT
      split at h
      · rename_i vx vy h4 h5
        split at h
        · rename_i hc
          rintro a w ⟨σ, hr⟩
          obtain ⟨e1, _⟩ := cvVal_ok h4 (ev_ok hr h2)
          obtain ⟨e2, _⟩ := cvVal_ok h5 (ev_ok hr h3)
          obtain ⟨xs, rfl⟩ := hT.agg vx hc.1
          obtain ⟨ys, rfl⟩ := hT.agg vy hc.2
          have hq := hT.eq w _ _ hc.1 hc.2
          split at h
          · cases h
            refine ⟨w, .inl ⟨.bool (veq (.agg xs) (.agg ys)), ?_, rel_put hd hr (VR_bool _)⟩⟩
            simp only [execOp, ho, e1, e2, Sem.run_bind, run_eqGuard_agg w _ t x y xs ys hT.guard, Result.andThen_ok, run_eql_struct, hq, Sem.run_pure]
          · cases h
            refine ⟨w, .inl ⟨.bool (!(veq (.agg xs) (.agg ys))), ?_, rel_put hd hr (VR_bool _)⟩⟩
            simp only [execOp, ho, e1, e2, Sem.run_bind, run_eqGuard_agg w _ t x y xs ys hT.guard, Result.andThen_ok, run_neq_struct, hq, Sem.run_pure]
          · cases h
        · cases h
      · cases h
    · cases h
  · cases h

/-- 'p[:]' of an array of one's own: the array becomes immutable. -/
def frzA (s : St) (p : Nat) (ob : Ob) (d : Option Tmp) (n : Nat) : St := (s.frz p ob).put d (.tsl ob.cells n)
theorem slA_ok (ht : TabOk P tab) {o : Oper} {t e : TypeId} {x : Operand} {p n : Nat} {ob : Ob} {ie : TI} (hd : dstOk C.nt o.dst = true) (ho : o.op = .slice t x none none none) (hx : ev s x = some (.optr p 0)) (h2 : tdAt tab t = some (.arr n e)) (hie : assoc tab e = some ie)
    (hn : 0 < n) (hm : n ≤ 1000000) (hob : assoc s.heap p = some ob) (htr : trees ob.cells = true) : XOk P C o s (frzA s p ob o.dst n) := by
  rintro a w ⟨σ, h⟩
  obtain ⟨i2, b1, b2, _⟩ := tdAt_und ht h2
  have g2 := und_arr (ht t i2 b1) b2
  obtain ⟨f, z, g3, _⟩ := (ht e ie hie).info
  have h' := h.frz hob htr
  have hfz : ∃ v, a.eval x = v ∧ VR w (FB C σ (s.frz p ob).heap) σ (.tptr ob.cells) v := by
    cases x with
    | tmp t =>
      have hx' : assoc s.env t = some (.optr p 0) := hx
      have : ∀ l : List (Nat × CV), assoc l t = some (.optr p 0) → assoc (frzE p ob.cells ob.sz l) t = some (.tptr ob.cells) := by
        intro l
        induction l with
        | nil => intro h; cases h
        | cons y r ih =>
          obtain ⟨k, c⟩ := y
          intro hl
          simp only [frzE, List.map_cons, assoc] at hl ⊢
          split at hl
          · rename_i e; cases hl; rw [if_pos e]; simp [frzV]
          · rename_i e; rw [if_neg e]; exact ih hl
      obtain ⟨v, k1, k2⟩ := h'.env t _ (this s.env hx')
      exact ⟨v, by simp [Act.eval, k1], k2⟩
    | const v => exact absurd hx (by
        simp only [ev]
        intro hc
        have := constCV_ok (w := w) (F := fun _ => False) hc
        simp [VRt] at this)
    | func f => cases hx
    | global g => cases hx
  obtain ⟨v, hv, hvr⟩ := hfz
  simp only [VR, VRt] at hvr
  obtain ⟨ad, rfl, hmr⟩ := hvr
  refine ⟨w, .inl ⟨.slice (some ad) n n, ?_, rel_put hd h' ?_⟩⟩
  · have hsb : (Instr.sliceBounds false n n none none none).run P w = .ok (0, n, n) w := by simp [Instr.sliceBounds]
    have hne : ¬ n = 0 := by omega
    have : (Instr.sliceAt t (.pointer (some ad)) none none none).run P w = .ok (.slice (some ad) n n) w := by
      simp [Instr.sliceAt, run_und g2, Instr.sureAddr, hsb, run_size g3, hne, add_zero]
    simp [execOp, ho, hv, this]
  · simp only [VR, VRt]
    exact ⟨_, n, rfl, Nat.le_refl _, by simp only [maxLen]; omega, .inr ⟨ad, rfl, hmr⟩⟩
def astep (tab : List (Nat × TI)) (s : St) (o : Oper) : Option St :=
  match o.op with
  | .slice t x none none none => match ev s x, tdAt tab t with
    | some (.optr p 0), some (.arr n e) => match assoc tab e, assoc s.heap p with
      | some _, some ob => if 0 < n ∧ n ≤ 1000000 ∧ trees ob.cells = true then some (frzA s p ob o.dst n) else none
      | _, _ => none
    | _, _ => none
  | _ => none
theorem astep_ok (ht : TabOk P tab) {o : Oper} {s' : St} (hd : dstOk C.nt o.dst = true) (h : astep tab s o = some s') : XOk P C o s s' := by
  unfold astep at h
  split at h
  · rename_i t x ho
    split at h
    · rename_i p n e hx h2
      split at h
      · rename_i ie ob h3 h4
        split at h
        · rename_i hc
          cases h
          exact slA_ok ht hd ho hx h2 h3 hc.1 hc.2.1 h4 hc.2.2
        · cases h
      · cases h
    · cases h
  · cases h
end
theorem isSome_of {P : Program} {et : TypeId} {zv : Value} (h : (P.info? et).bind (·.zero) = some zv) : ∃ f, P.info? et = some f ∧ f.zero = some zv := by
  obtain ⟨f, h1, h2⟩ := Option.bind_eq_some_iff.1 h
  exact ⟨f, h1, h2⟩
def fldB (ti i : Nat) (f : Field) : Bool := f.type == ti && f.offset == i && f.name != "_"
theorem fldB_ok {ti i : Nat} {f : Field} (h : fldB ti i f = true) : f.type = ti ∧ f.offset = i ∧ f.name ≠ "_" := by
  simp only [fldB, Bool.and_eq_true, beq_iff_eq, bne_iff_ne] at h
  exact ⟨h.1.1, h.1.2, h.2⟩
def rec4B (P : Program) (t ti : Nat) : Bool := match (P.fieldsOf t).toList with
  | [f0, f1, f2, f3] => fldB ti 0 f0 && fldB ti 1 f1 && fldB ti 2 f2 && fldB ti 3 f3
  | _ => false
theorem eqT_rec4' {P : Program} {t ti : TypeId} (h : rec4B P t ti = true) (ht : P.underlying t = some (.struct (P.fieldsOf t))) (hs : P.stoodInHeld t = false) (hi : P.underlying ti = some (.int .i64)) (hg : P.eqGuardType P.depth t = false) : EqT P t rec4 := by
  unfold rec4B at h
  split at h
  · rename_i f0 f1 f2 f3 hf
    simp only [Bool.and_eq_true] at h
    exact eqT_rec4 ht hf hs hi (fldB_ok h.1.1.1) (fldB_ok h.1.1.2) (fldB_ok h.1.2) (fldB_ok h.2) hg
  · cases h
end Go.Can
