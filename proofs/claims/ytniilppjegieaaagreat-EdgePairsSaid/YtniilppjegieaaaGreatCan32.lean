/- The operations of a region that draws, as effects: what each does where what it looks at is the same. No function of the program is mentioned here. -/
import Derived.Test.YtniilppjegieaaaGreatCan31
namespace Go.Can
open Go.RowKit

def fs (s : St) : FS := ⟨assoc s.env, assoc s.heap, s.nx⟩
def applyW : List (Nat × Option Ob) → List (Nat × Ob) → List (Nat × Ob)
  | [], H => H
  | (o, some x) :: r, H => (o, x) :: dele (applyW r H) o
  | (o, none) :: r, H => dele (applyW r H) o
theorem assoc_applyW (H : List (Nat × Ob)) : ∀ (w : List (Nat × Option Ob)) (p : Nat), assoc (applyW w H) p = updH (assoc H) w p
  | [], p => rfl
  | (o, some x) :: r, p => by
    simp only [applyW, assoc, updH]
    by_cases e : o = p
    · rw [if_pos e, if_pos e]
    · rw [if_neg e, if_neg e, assoc_dele, if_neg e, assoc_applyW H r p, updH]
  | (o, none) :: r, p => by
    simp only [applyW, assoc, updH]
    rw [assoc_dele]
    by_cases e : o = p
    · rw [if_pos e, if_pos e]
    · rw [if_neg e, if_neg e, assoc_applyW H r p, updH]
def apS (d : Option Tmp) (E : Ef) (s : St) : St := putR ⟨s.env, applyW E.w s.heap, s.nx + E.k⟩ d E.r
theorem fs_apS (d : Option Tmp) (E : Ef) (s : St) : fs (apS d E s) = ap d E (fs s) := by
  unfold fs apS ap
  congr 1
  · funext t; exact assoc_putR t
  · funext p; rw [putR_heap.1]; exact assoc_applyW s.heap E.w p
  · rw [putR_heap.2]
theorem fs_put (s : St) (d : Option Tmp) (c : CV) : fs (s.put d c) = ap d ⟨some c, [], 0⟩ (fs s) := fs_apS d ⟨some c, [], 0⟩ s

def namesL : CV → List Nat
  | .osl o _ _ => [o]
  | .optr o _ => [o]
  | _ => []
theorem names_L {o : Nat} {c : CV} (h : names o c = true) : o ∈ namesL c := by
  cases c <;> simp_all [names, namesL]
def rds (s : St) (op : Op) : List Nat := op.operands.toList.flatMap fun x => match ev s x with
  | some v => namesL v
  | none => []
theorem mem_rds {s : St} {op : Op} {x : Operand} {v : CV} {o : Nat} (hx : x ∈ op.operands) (hv : ev s x = some v) (hn : names o v = true) : o ∈ rds s op := by
  unfold rds
  refine List.mem_flatMap.2 ⟨x, by simpa using hx, ?_⟩
  rw [hv]
  exact names_L hn

/-- The objects that an operation without effect on memory looks at. -/
def rdsQ (s : St) (op : Op) : List Nat := match op with
  | .load _ _ => rds s op
  | .slice _ _ _ _ _ => rds s op
  | _ => []
/-- The new object of an operation, and its name's value by the object's number. -/
def aval2 (tab : List (Nat × TI)) (s : St) : Op → Option (Ob × (Nat → CV))
  | .alloc e => match assoc tab e with
    | some ie => some (⟨e, 0, ie.zero⟩, fun m => .optr m 0)
    | none => none
  | .makeSlice t l c => match tdAt tab t, ev s l, ev s c with
    | some (.sl e), some (.int _ n), some (.int _ m) => match assoc tab e with
      | some ie => if n = m ∧ 0 ≤ n ∧ (ie.bytes : Int) * n ≤ 281474976710656 ∧ n ≤ 9223372036854775807 then some (⟨e, ie.size, czeros ie.zero n.toNat⟩, fun m => .osl m 0 n.toNat) else none
      | none => none
    | _, _, _ => none
  | op => aval tab s op
def cstO (tab : List (Nat × TI)) (s : St) (t : TypeId) (x v : Operand) : Option (Nat × Ob) :=
  match ev s x, ev s v, assoc tab t with
  | some (.optr p off), some c, some i => match assoc s.heap p with
    | none => none
    | some ob => if isTup c then none else if c.cells.length = i.size ∧ off + c.cells.length ≤ ob.cells.length then some (p, { ob with cells := cput ob.cells off c.cells }) else none
  | _, _, _ => none
def obOf (s : St) : CV → Option Ob
  | .osl o _ _ => assoc s.heap o
  | _ => none
/-- An append: the new object, its length, the number that goes. -/
def appCore (tab : List (Nat × TI)) (t : TypeId) (p : CV) (obp : Option Ob) (src : Option (List CV × Nat)) : Option (Ob × Nat × Option Nat) :=
  match tdAt tab t with
  | some (.sl e) => match assoc tab e, src with
    | some ie, some (news, m) => if 0 < ie.size ∧ 0 < ie.bytes ∧ news.length = m * ie.size then
        match p with
        | .nilsl => if m * ie.bytes ≤ 140737488355328 then some (⟨e, ie.size, news⟩, m, none) else none
        | .osl o off n => match obp with
          | none => none
          | some ob => if off = 0 ∧ ob.elem = e ∧ ob.sz = ie.size ∧ n * ie.size = ob.cells.length ∧ (n + m) * ie.bytes ≤ 140737488355328 then some ({ ob with cells := ob.cells ++ news }, n + m, some o) else none
        | _ => none
      else none
    | _, _ => none
  | _ => none
def rmL : Option Nat → List (Nat × Option Ob)
  | some o => [(o, none)]
  | none => []
def delO (H : List (Nat × Ob)) : Option Nat → List (Nat × Ob)
  | some o => dele H o
  | none => H
theorem appCore_ok {tab : List (Nat × TI)} {s : St} {d : Option Tmp} {t : TypeId} {x y : Operand} {p q : CV} {ob : Ob} {k : Nat} {rm : Option Nat} (hx : ev s x = some p) (hy : ev s y = some q) (h : appCore tab t p (obOf s p) (cells? s q) = some (ob, k, rm)) :
    cappend tab s d t x y = some (St.put { env := s.env, heap := (s.nx, ob) :: delO s.heap rm, nx := s.nx + 1 } d (.osl s.nx 0 k)) := by
  unfold appCore at h
  unfold cappend
  split at h
  · rename_i e ht
    split at h
    · rename_i ie news m h1 h2
      split at h
      · rename_i hc
        split at h
        · split at h
          · rename_i hb
            cases h
            simp only [ht, hx, hy, h1, h2]
            rw [if_pos hc, if_pos hb]
            rfl
          · cases h
        · rename_i o off n
          split at h
          · cases h
          · rename_i ob' hob
            split at h
            · rename_i hb
              cases h
              simp only [obOf] at hob
              simp only [ht, hx, hy, h1, h2]
              rw [if_pos hc]
              simp only [hob]
              rw [if_pos hb]
              rfl
            · cases h
        · cases h
      · cases h
    · cases h
  · cases h

mutual
def ceq : CV → CV → Bool
  | .int k n, .int k' n' => decide (k = k') && n == n'
  | .bool a, .bool b => a == b
  | .str a, .str b => a.data.toList == b.data.toList
  | .agg a, .agg b => ceqs a b
  | .tsl a n, .tsl b m => n == m && ceqs a b
  | .nilsl, .nilsl => true
  | .tptr a, .tptr b => ceqs a b
  | .nilptr, .nilptr => true
  | .fn f a, .fn g b => f == g && ceqs a b
  | .nilfn, .nilfn => true
  | .iface f a, .iface g b => f == g && ceqs a b
  | .tup a, .tup b => ceqs a b
  | .osl o f n, .osl p g m => o == p && f == g && n == m
  | .optr o f, .optr p g => o == p && f == g
  | .any, .any => true
  | _, _ => false
def ceqs : List CV → List CV → Bool
  | [], [] => true
  | a :: r, b :: q => ceq a b && ceqs r q
  | _, _ => false
end
mutual
theorem ceq_ok : ∀ (a b : CV), ceq a b = true → a = b
  | .int k n, b, h => by cases b <;> simp_all [ceq]
  | .bool a, b, h => by cases b <;> simp_all [ceq]
  | .str a, b, h => by
    cases b <;> simp only [ceq, Bool.false_eq_true] at h
    rename_i b
    have : a.data.toList = b.data.toList := by simpa using h
    have h2 : a.data = b.data := Array.toList_inj.1 this
    have : a = b := ByteArray.ext h2
    rw [this]
  | .agg a, b, h => by
    cases b <;> simp only [ceq, Bool.false_eq_true] at h
    rw [ceqs_ok _ _ h]
  | .tsl a n, b, h => by
    cases b <;> simp only [ceq, Bool.false_eq_true, Bool.and_eq_true, beq_iff_eq] at h
    rw [ceqs_ok _ _ h.2, h.1]
  | .nilsl, b, h => by cases b <;> simp_all [ceq]
  | .tptr a, b, h => by
    cases b <;> simp only [ceq, Bool.false_eq_true] at h
    rw [ceqs_ok _ _ h]
  | .nilptr, b, h => by cases b <;> simp_all [ceq]
  | .fn f a, b, h => by
    cases b <;> simp only [ceq, Bool.false_eq_true, Bool.and_eq_true, beq_iff_eq] at h
    rw [ceqs_ok _ _ h.2, h.1]
  | .nilfn, b, h => by cases b <;> simp_all [ceq]
  | .iface f a, b, h => by
    cases b <;> simp only [ceq, Bool.false_eq_true, Bool.and_eq_true, beq_iff_eq] at h
    rw [ceqs_ok _ _ h.2, h.1]
  | .iter _ _ _, b, h => by cases b <;> simp_all [ceq]
  | .mp _ _, b, h => by cases b <;> simp_all [ceq]
  | .tup a, b, h => by
    cases b <;> simp only [ceq, Bool.false_eq_true] at h
    rw [ceqs_ok _ _ h]
  | .osl o f n, b, h => by cases b <;> simp_all [ceq]
  | .optr o f, b, h => by cases b <;> simp_all [ceq]
  | .any, b, h => by cases b <;> simp_all [ceq]
theorem ceqs_ok : ∀ (a b : List CV), ceqs a b = true → a = b
  | [], b, h => by cases b <;> simp_all [ceqs]
  | x :: r, b, h => by
    cases b with
    | nil => simp [ceqs] at h
    | cons y q =>
      simp only [ceqs, Bool.and_eq_true] at h
      rw [ceq_ok x y h.1, ceqs_ok r q h.2]
end
def oeq : Option Ob → Option Ob → Bool
  | some a, some b => a.elem == b.elem && a.sz == b.sz && ceqs a.cells b.cells
  | none, none => true
  | _, _ => false
theorem oeq_ok {a b : Option Ob} (h : oeq a b = true) : a = b := by
  cases a <;> cases b <;> simp only [oeq, Bool.false_eq_true, Bool.and_eq_true, beq_iff_eq] at h
  · rfl
  · rename_i x y
    obtain ⟨⟨h1, h2⟩, h3⟩ := h
    have h4 := ceqs_ok _ _ h3
    cases x; cases y
    simp only at h1 h2 h4
    subst h1; subst h2; subst h4
    rfl
/-- What differs between two heaps. -/
def diffL (H H' : List (Nat × Ob)) : List (Nat × Ob) → List (Nat × Option Ob) → List (Nat × Option Ob)
  | [], l => l
  | (o, _) :: r, l => if oeq (assoc H o) (assoc H' o) then diffL H H' r l else (o, assoc H' o) :: diffL H H' r l
def diffW (H H' : List (Nat × Ob)) : List (Nat × Option Ob) := diffL H H' H' (diffL H H' H [])
theorem assoc_diffL (H H' : List (Nat × Ob)) : ∀ (l : List (Nat × Ob)) (m : List (Nat × Option Ob)) (p : Nat) (y : Option Ob), (∀ p y, assoc m p = some y → y = assoc H' p) → assoc (diffL H H' l m) p = some y → y = assoc H' p
  | [], m, p, y, hm, h => hm p y h
  | (o, _) :: r, m, p, y, hm, h => by
    simp only [diffL] at h
    split at h
    · exact assoc_diffL H H' r m p y hm h
    · simp only [assoc] at h
      split at h
      · rename_i e; cases h; rw [e]
      · exact assoc_diffL H H' r m p y hm h
theorem diffL_none (H H' : List (Nat × Ob)) : ∀ (l : List (Nat × Ob)) (m : List (Nat × Option Ob)) (p : Nat), assoc (diffL H H' l m) p = none → assoc m p = none ∧ (assoc l p = none ∨ assoc H p = assoc H' p)
  | [], m, p, h => ⟨h, .inl rfl⟩
  | (o, _) :: r, m, p, h => by
    simp only [diffL] at h
    split at h
    · rename_i he
      obtain ⟨h1, h2⟩ := diffL_none H H' r m p h
      refine ⟨h1, ?_⟩
      simp only [assoc]
      by_cases e : o = p
      · subst e; exact .inr (oeq_ok he)
      · rw [if_neg e]; exact h2
    · simp only [assoc] at h
      split at h
      · cases h
      · rename_i e
        obtain ⟨h1, h2⟩ := diffL_none H H' r m p h
        refine ⟨h1, ?_⟩
        simp only [assoc]
        rw [if_neg e]; exact h2
theorem diffW_ok (H H' : List (Nat × Ob)) (p : Nat) : updH (assoc H) (diffW H H') p = assoc H' p := by
  unfold updH diffW
  cases h : assoc (diffL H H' H' (diffL H H' H [])) p with
  | some y =>
    simp only
    exact assoc_diffL H H' H' _ p y (fun q z hz => assoc_diffL H H' H [] q z (fun _ _ h => by cases h) hz) h
  | none =>
    simp only
    obtain ⟨h1, h2⟩ := diffL_none H H' H' _ p h
    obtain ⟨_, h3⟩ := diffL_none H H' H [] p h1
    rcases h2 with h2 | h2
    · rcases h3 with h3 | h3
      · rw [h2, h3]
      · exact h3
    · exact h2

theorem diffL_keys (H H' : List (Nat × Ob)) {p : Nat} {y : Option Ob} : ∀ (l : List (Nat × Ob)) (m : List (Nat × Option Ob)), assoc l p = none → assoc m p = none → assoc (diffL H H' l m) p = some y → False
  | [], m, _, hm, h => by simp only [diffL] at h; rw [hm] at h; cases h
  | (o, x) :: r, m, hl, hm, h => by
    simp only [assoc] at hl
    split at hl
    · cases hl
    · rename_i e
      simp only [diffL] at h
      split at h
      · exact diffL_keys H H' r m hl hm h
      · simp only [assoc] at h
        rw [if_neg e] at h
        exact diffL_keys H H' r m hl hm h
theorem diffW_keys {H H' : List (Nat × Ob)} {p : Nat} {y : Option Ob} (h1 : assoc H p = none) (h2 : assoc H' p = none) (h : assoc (diffW H H') p = some y) : False := by
  unfold diffW at h
  refine diffL_keys H H' H' _ h2 ?_ h
  cases hc : assoc (diffL H H' H []) p with
  | none => rfl
  | some z => exact (diffL_keys H H' H [] h1 rfl hc).elim
/-- The numbers named in values, on the surface. -/
def namesLs (cs : List CV) : List Nat := cs.flatMap fun c => match c with
  | .agg ds => ds.flatMap namesL
  | c => namesL c
def inH (lo hi : Nat) (keep : List Nat) (o : Nat) : Bool := decide (o < lo) || decide (hi ≤ o) || keep.contains o
/-- The heap without the numbers of a range, but for some. -/
def subH (lo hi : Nat) (keep : List Nat) : List (Nat × Ob) → List (Nat × Ob)
  | [] => []
  | (o, x) :: r => if inH lo hi keep o then (o, x) :: subH lo hi keep r else subH lo hi keep r
def notH (lo hi : Nat) (keep : List Nat) : List (Nat × Ob) → List (Nat × Ob)
  | [] => []
  | (o, x) :: r => if inH lo hi keep o then notH lo hi keep r else (o, x) :: notH lo hi keep r
theorem assoc_subH (lo hi : Nat) (keep : List Nat) : ∀ (H : List (Nat × Ob)) (p : Nat), assoc (subH lo hi keep H) p = if inH lo hi keep p then assoc H p else none
  | [], p => by simp [subH, assoc]
  | (o, x) :: r, p => by
    simp only [subH]
    by_cases e : o = p
    · subst e
      by_cases h : inH lo hi keep o = true
      · simp [h, assoc]
      · rw [if_neg h, assoc_subH lo hi keep r o]
        simp [h]
    · split
      · simp only [assoc]; rw [if_neg e, if_neg e]; exact assoc_subH lo hi keep r p
      · simp only [assoc]; rw [if_neg e]; exact assoc_subH lo hi keep r p
theorem assoc_notH (lo hi : Nat) (keep : List Nat) : ∀ (H : List (Nat × Ob)) (p : Nat), assoc (notH lo hi keep H) p = if inH lo hi keep p then none else assoc H p
  | [], p => by simp [notH, assoc]
  | (o, x) :: r, p => by
    simp only [notH]
    by_cases e : o = p
    · subst e
      by_cases h : inH lo hi keep o = true
      · rw [if_pos h, assoc_notH lo hi keep r o]
        simp [h]
      · simp [h, assoc]
    · split
      · simp only [assoc]; rw [if_neg e]; exact assoc_notH lo hi keep r p
      · simp only [assoc]; rw [if_neg e, if_neg e]; exact assoc_notH lo hi keep r p
theorem assoc_app {α : Type} : ∀ (l m : List (Nat × α)) (p : Nat), assoc (l ++ m) p = match assoc l p with
    | some y => some y
    | none => assoc m p
  | [], _, _ => rfl
  | (o, x) :: r, m, p => by
    simp only [List.cons_append, assoc]
    by_cases e : o = p
    · rw [if_pos e, if_pos e]
    · rw [if_neg e, if_neg e]; exact assoc_app r m p

/-- What an operation does from here: its effect; the objects that it looks at; whether it looks at the next number. -/
def eff1 (tab : List (Nat × TI)) (mt : Meths) (ops : Array Oper) (call : Caller) (pc : FuncId → List CV → Option CV) (lo hi m : Nat) (s : St) (o : Oper) : Option (Ef × List Nat × Bool × Option (Nat × Nat)) :=
  match guardS ops s o with
  | none => none
  | some false => some (⟨some (.tup []), [], 0⟩, [], false, none)
  | some true => match userCall o with
    | some c => match callTo mt s c with
      | some (g, cs) => match (if trees cs then pc g cs else none) with
        | some r => some (⟨some r, [], 0⟩, [], false, none)
        | none => match call g cs (subH lo hi (namesLs cs) s.heap) s.nx with
          | some (x, H, n) => if s.nx ≤ n ∧ (H.all fun y => inH lo hi (namesLs cs) y.1) = true then some (⟨some x, diffW (subH lo hi (namesLs cs) s.heap) H, n - s.nx⟩, namesLs cs, true, some (lo, hi)) else none
          | none => none
      | none => none
    | none => match qval tab s o.op with
      | some c => some (⟨some c, [], 0⟩, rdsQ s o.op, false, none)
      | none => match aval2 tab s o.op with
        | some (ob, f) => some (⟨some (f m), [(m, some ob)], 0⟩, [], false, none)
        | none => match o.op with
          | .store t x v => match cstO tab s t x v with
            | some (p, ob) => some (⟨none, [(p, some ob)], 0⟩, [p], false, none)
            | none => none
          | .call cl => match cl.callee, cl.args.toList, cl.argTypes.toList with
            | .builtin .append, [x, y], [t, t'] => if t = t' then match ev s x, ev s y with
                | some p, some q => match appCore tab t p (obOf s p) (cells? s q) with
                  | some (ob, k, rm) => some (⟨some (.osl s.nx 0 k), (s.nx, some ob) :: rmL rm, 1⟩, namesL p ++ namesL q, true, none)
                  | none => none
                | _, _ => none
              else none
            | _, _, _ => none
          | _ => none

section
variable {P : Program} {C : Cx} {σ : Nat → Option OB} {s : St} {a : Act} {w : World} {ops : Array Oper} {tab : List (Nat × TI)} {mt : Meths} {pc : FuncId → List CV → Option CV}

theorem RelAt.congrF (h : RelAt C σ s a w) {s' : St} (he : fs s' = fs s) : RelAt C σ s' a w := by
  unfold fs at he
  simp only [FS.mk.injEq] at he
  obtain ⟨h1, h2, h3⟩ := he
  have hFB : FB C σ s'.heap = FB C σ s.heap := by
    unfold FB
    rw [h2]
  refine ⟨h.dfr, h.tm, h.os, h.tape, h.output, h.size, h.frame, ?_, ?_, ?_, ?_, h.old, by rw [h3]; exact h.low, h.new⟩
  · intro t c hc
    rw [h1] at hc
    rw [hFB]
    exact h.env t c hc
  · intro o ob ho
    rw [h2] at ho
    have := h.obj o ob ho
    unfold ObR at this ⊢
    rw [hFB]
    exact this
  · intro o o' ob ob' b ho ho'
    rw [h2] at ho ho'
    exact h.inj o o' ob ob' b ho ho'
  · intro o ho
    rw [h3] at ho
    exact h.nx o ho

theorem allocAt_ok (h : RelAt C σ s a w) {m : Nat} (hm : σ m = none) (hm0 : C.n0 ≤ m) (hmx : m < s.nx) {e : TypeId} {sz : Nat} {cs : List CV} {us : Array Value} (hr : VRs w (FB C σ s.heap) σ cs us.toList) (h1 : cs.all one = true) :
    RelAt C (sig σ m ⟨some w.heap.size, us.size, sz⟩) { s with heap := (m, ⟨e, sz, cs⟩) :: s.heap } a (w.alloc (.cells us e)) := by
  have hl := VRs.length _ _ hr
  refine (h.freshAt hm hm0 hmx (Nat.le_refl _) (grown_alloc _) (ob := ⟨e, sz, cs⟩) (B := ⟨some w.heap.size, us.size, sz⟩) rfl h1 (by simp) fun b hb => ?_).1
  simp only [Option.some.injEq] at hb
  subst hb
  exact ⟨Nat.le_refl _, us, heap_alloc_new w _, rfl, by simp only; simp at hl; omega, by simp only; rw [← hl, List.take_of_length_le (Nat.le_refl _)]; exact hr⟩
theorem newsAt_ok (ht : TabOk P tab) (h : RelAt C σ s a w) {m : Nat} (hm : σ m = none) (hm0 : C.n0 ≤ m) (hmx : m < s.nx) {o : Oper} (hd : ∀ t, o.dst = some t → t < a.tmps.size) {ob : Ob} {f : Nat → CV} (hv : aval2 tab s o.op = some (ob, f)) :
    ∃ z w' B, (execOp a.eval o).run P w = .ok (.value z) w' ∧ RelAt C (sig σ m B) (St.put { s with heap := (m, ob) :: s.heap } o.dst (f m)) (a.put o.dst z) w' := by
  cases ho : o.op <;> rw [ho] at hv <;> simp only [aval2, aval] at hv <;> first | cases hv | skip
  case alloc e =>
    split at hv
    · rename_i ie hie
      cases hv
      obtain ⟨fi, z, g1, _, _, g4, g5⟩ := (ht e ie hie).info
      obtain ⟨k1, k2⟩ := constCVs_ok (w := w) (F := FB C σ s.heap) _ _ g5
      have hnew := allocAt_ok h hm hm0 hmx (e := e) (sz := 0) (VRs.of_tree _ _ k1) k2
      refine ⟨.pointer (some ⟨w.heap.size, 0, none⟩), _, _, ?_, hnew.put hd ?_⟩
      · simp [execOp, ho, Instr.alloc, run_zero g1 g4, newVar, newRow]
      · simp only [VR]; exact ⟨_, _, sig_same, rfl, rfl⟩
    · cases hv
  case box e x =>
    split at hv
    · rename_i c hx
      split at hv
      · cases hv
      · rename_i htup
        cases hv
        obtain ⟨f1, f2⟩ := VR.flat c _ (fun cs e => by subst e; simp [isTup] at htup) (fun k s p e => by subst e; simp [isTup] at htup) (fun k es e => by subst e; simp [isTup] at htup) (ev_ok h hx)
        have hnew := allocAt_ok h hm hm0 hmx (e := e) (sz := 0) f1 f2
        refine ⟨.pointer (some ⟨w.heap.size, 0, none⟩), _, _, ?_, hnew.put hd ?_⟩
        · simp [execOp, ho, Instr.box, newVar, newRow]
        · simp only [VR]; exact ⟨_, _, sig_same, rfl, rfl⟩
    · cases hv
  case buildSlice t len parts =>
    split at hv
    · rename_i e hd'
      obtain ⟨it, hit, hd'⟩ := Option.map_eq_some_iff.1 hd'
      split at hv
      · rename_i ie cs hie hcs
        split at hv
        · rename_i hb
          obtain ⟨out, hout, hv⟩ := Option.map_eq_some_iff.1 hv
          cases hv
          obtain ⟨fi, z, g1, g2, g3, g4, g5⟩ := (ht e ie hie).info
          obtain ⟨k1, k2⟩ := constCVs_ok (w := w) (F := FB C σ s.heap) _ _ g5
          have hsz : z.cells.size = ie.size := by rw [← (ht e ie hie).len, ← VRts.length _ _ k1]; simp
          have hz := zeros_ok (σ := σ) (VRs.of_tree _ _ k1) len
          obtain ⟨l1, l2⟩ := cparts_ok h _ _ hcs
          obtain ⟨us, m1, m2, m3⟩ := cfill_ok _ cs (parts.toList.map fun p => (p.1, a.eval p.2)) _ out (madeCells z.cells (len * z.cells.size)) (by simpa using l1) l2 hz (zeros_one k2 len) hout
          have hnew := allocAt_ok h hm hm0 hmx (e := e) (sz := ie.size) m2 m3
          have hus : us.size = len * ie.size := by
            have := VRs.length _ _ m2
            rw [cfill_length _ _ _ _ hout, czeros_length, (ht e ie hie).len] at this
            simpa using this
          have hp : (parts.map fun (x : Nat × Operand) => (x.1, a.eval x.2)).toList = parts.toList.map fun (p : Nat × Operand) => (p.1, a.eval p.2) := by simp
          rw [hsz] at m1
          refine ⟨.slice (some ⟨w.heap.size, 0, none⟩) len len, _, _, ?_, hnew.put hd ?_⟩
          · simp only [execOp, ho, Instr.buildSlice, Sem.run_bind, run_und (und_sl (ht t it hit) hd'), Result.andThen_ok, run_size g1, g2, hp]
            rw [if_neg (by have := hb.1; omega)]
            by_cases h0 : len * ie.size = 0
            · have e0 : madeCells z.cells 0 = #[] := by simp [madeCells]
              have e2 : (Array.range 0).map (fun _ => (default : Value)) = #[] := by simp [Array.range_zero']
              rw [h0, e0] at m1
              simp [h0, e2, m1, newRow]
            · have e1 : (Array.range (len * ie.size)).map (fun x => z.cells[x % z.cells.size]!) = madeCells z.cells (len * ie.size) := rfl
              simp [h0, run_zero g1 g4, e1, m1, newRow]
          · simp only [VR]
            exact ⟨_, sig_same, len, rfl, Nat.le_refl _, by have := hb.2; simp only [maxLen]; omega, by simp [hus], fun _ => hus.symm⟩
        · cases hv
      · cases hv
    · cases hv
  case makeSlice t l c =>
    split at hv
    · rename_i e k n k' m' hd' hl hmm
      obtain ⟨it, hit, hd'⟩ := Option.map_eq_some_iff.1 hd'
      split at hv
      · rename_i ie hie
        split at hv
        · rename_i hb
          obtain ⟨rfl, h0, hby, h63⟩ := hb
          cases hv
          obtain ⟨fi, z, g1, g2, g3, g4, g5⟩ := (ht e ie hie).info
          obtain ⟨k1, k2⟩ := constCVs_ok (w := w) (F := FB C σ s.heap) _ _ g5
          have kl := ev_ok h hl
          have kc := ev_ok h hmm
          simp only [VR] at kl kc
          have hsz : fi.size = z.cells.size := by rw [g2, ← (ht e ie hie).len, ← VRts.length _ _ k1]; simp
          have hz := zeros_ok (σ := σ) (VRs.of_tree _ _ k1) n.toNat
          have hr := run_make (P := P) w t e fi z (und_sl (ht t it hit) hd') g1 g4 k k' n n h0 (Int.le_refl _) (by rw [g3]; exact hby) h63
          have hnew := allocAt_ok h hm hm0 hmx (e := e) (sz := ie.size) hz (zeros_one k2 n.toNat)
          have hrm : z.cells.size = ie.size := by rw [← hsz, g2]
          rw [hsz] at hr
          refine ⟨.slice (some ⟨w.heap.size, 0, none⟩) n.toNat n.toNat, _, _, by simp only [execOp, ho, kl, kc, Sem.run_bind, hr, Result.andThen_ok, Sem.run_pure], hnew.put hd ?_⟩
          simp only [VR]
          refine ⟨_, sig_same, n.toNat, rfl, Nat.le_refl _, by simp only [maxLen]; omega, ?_, fun _ => ?_⟩
          · simp [size_madeCells, hrm]
          · simp [size_madeCells, hrm]
        · cases hv
      · cases hv
    · cases hv
end
end Go.Can
