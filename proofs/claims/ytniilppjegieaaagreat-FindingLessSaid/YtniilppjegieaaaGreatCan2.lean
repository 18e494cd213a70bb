/- Canonical states, their relation to the real frame and world, and the operations that turn nothing in memory. No function of the program is mentioned here. -/
import Derived.Test.YtniilppjegieaaaGreatCan1
namespace Go.Can
open Go.RowKit

def assoc {α : Type} : List (Nat × α) → Nat → Option α
  | [], _ => none
  | (k, v) :: r, t => if k = t then some v else assoc r t
def dele {α : Type} : List (Nat × α) → Nat → List (Nat × α)
  | [], _ => []
  | (k, v) :: r, t => if k = t then dele r t else (k, v) :: dele r t
def upd {α : Type} : List (Nat × α) → Nat → α → List (Nat × α)
  | [], _, _ => []
  | (k, v) :: r, t, x => if k = t then (k, x) :: r else (k, v) :: upd r t x

theorem assoc_dele {α : Type} (l : List (Nat × α)) (t u : Nat) : assoc (dele l t) u = if t = u then none else assoc l u := by
  induction l with
  | nil => simp [dele, assoc]
  | cons x r ih =>
    obtain ⟨k, v⟩ := x
    simp only [dele]
    split
    · rename_i hk; subst hk; rw [ih]; split
      · rfl
      · rename_i hu; simp [assoc, hu]
    · rename_i hk; simp only [assoc]; split
      · rename_i hu; subst hu; simp [Ne.symm hk]
      · exact ih
theorem assoc_upd {α : Type} (l : List (Nat × α)) (t u : Nat) (x : α) : assoc (upd l t x) u = if t = u then (assoc l t).map fun _ => x else assoc l u := by
  induction l with
  | nil => simp [upd, assoc]
  | cons y r ih =>
    obtain ⟨k, v⟩ := y
    simp only [upd]
    split
    · rename_i hk; subst hk; simp only [assoc, if_true]; split
      · rename_i hu; simp
      · rfl
    · rename_i hk; simp only [assoc, hk, if_false]; rw [ih]; split
      · rename_i hu; subst hu; simp [Ne.symm hk]
      · rfl

structure Ob where
  elem : TypeId
  sz : Nat
  cells : List CV

structure St where
  env : List (Nat × CV)
  heap : List (Nat × Ob)
  nx : Nat

def St.put (s : St) (d : Option Tmp) (c : CV) : St :=
  match d with
  | some t => { s with env := (t, c) :: dele s.env t }
  | none => s
def St.del (s : St) (d : Option Tmp) : St :=
  match d with
  | some t => { s with env := dele s.env t }
  | none => s

/-- What stands around a call: the world in which it began, the blocks that are no one's to read as immutable, the blocks that the call may write; the places of the objects that were there when it began (their numbers lie below n0): they stay. -/
structure Cx where
  w0 : World
  F : Nat → Prop
  own : Nat → Prop
  hF : ∀ b, F b → b < w0.heap.size
  nt : Nat
  σ0 : Nat → Option OB
  n0 : Nat

def blkOf (σ : Nat → Option OB) (o : Nat) : Option Nat := (σ o).bind (·.blk)
def FB (C : Cx) (σ : Nat → Option OB) (H : List (Nat × Ob)) (b : Nat) : Prop := C.F b ∨ ∃ o ob, assoc H o = some ob ∧ blkOf σ o = some b

def ObR (C : Cx) (w : World) (σ : Nat → Option OB) (H : List (Nat × Ob)) (o : Nat) (ob : Ob) : Prop :=
  ∃ B, σ o = some B ∧ B.sz = ob.sz ∧ (B.blk = none → ob.cells = []) ∧ ob.cells.all one = true ∧
    ∀ b, B.blk = some b → ∃ cur : Array Value, w.heap[b]? = some (.cells cur ob.elem (0, 0)) ∧ cur.size = B.room ∧ ¬ C.F b ∧ (C.own b ∨ C.w0.heap.size ≤ b) ∧
      ob.cells.length ≤ cur.size ∧ VRs w (FB C σ H) σ ob.cells (cur.toList.take ob.cells.length)

structure RelAt (C : Cx) (σ : Nat → Option OB) (s : St) (a : Act) (w : World) : Prop where
  dfr : a.defers = []
  tm : a.tmps.size = C.nt
  os : w.os = C.w0.os
  tape : w.tape = C.w0.tape
  output : w.output = C.w0.output
  size : C.w0.heap.size ≤ w.heap.size
  frame : ∀ b, b < C.w0.heap.size → ¬ C.own b → w.heap[b]? = C.w0.heap[b]?
  env : ∀ t c, assoc s.env t = some c → ∃ v, a.tmps[t]? = some v ∧ VR w (FB C σ s.heap) σ c v
  obj : ∀ o ob, assoc s.heap o = some ob → ObR C w σ s.heap o ob
  inj : ∀ o o' ob ob' b, assoc s.heap o = some ob → assoc s.heap o' = some ob' → blkOf σ o = some b → blkOf σ o' = some b → o = o'
  nx : ∀ o, s.nx ≤ o → σ o = none
  old : ∀ o, o < C.n0 → σ o = C.σ0 o
  low : C.n0 ≤ s.nx
  new : ∀ o B b, C.n0 ≤ o → σ o = some B → B.blk = some b → C.own b ∨ C.w0.heap.size ≤ b

def Rel (C : Cx) (s : St) (a : Act) (w : World) : Prop := ∃ σ, RelAt C σ s a w

section
variable {C : Cx} {σ : Nat → Option OB} {s : St} {a : Act} {w : World}

theorem get_put {a : Act} {d t : Nat} {v : Value} : (a.put (some d) v).tmps[t]? = if d = t then (if t < a.tmps.size then some v else none) else a.tmps[t]? := by
  simp only [Act.put]
  rw [Array.getElem?_setIfInBounds]
  split
  · rename_i h; subst h; rfl
  · rfl

/-- A slot is written. (The frame must have it.) -/
theorem RelAt.put (h : RelAt C σ s a w) {d : Option Tmp} {c : CV} {v : Value} (hd : ∀ t, d = some t → t < a.tmps.size) (hv : VR w (FB C σ s.heap) σ c v) : RelAt C σ (s.put d c) (a.put d v) w := by
  cases d with
  | none => exact h
  | some d =>
    refine ⟨h.dfr, by simpa [Act.put] using h.tm, h.os, h.tape, h.output, h.size, h.frame, ?_, h.obj, h.inj, h.nx, h.old, h.low, h.new⟩
    intro t c' hc
    rw [get_put]
    simp only [St.put, assoc] at hc
    split at hc
    · rename_i e; subst e; cases hc
      rw [if_pos rfl, if_pos (hd _ rfl)]
      exact ⟨v, rfl, hv⟩
    · rename_i e
      rw [assoc_dele, if_neg e] at hc
      rw [if_neg e]
      exact h.env t c' hc
theorem RelAt.del (h : RelAt C σ s a w) {d : Option Tmp} (v : Value) : RelAt C σ (s.del d) (a.put d v) w := by
  cases d with
  | none => exact h
  | some d =>
    refine ⟨h.dfr, by simpa [Act.put] using h.tm, h.os, h.tape, h.output, h.size, h.frame, ?_, h.obj, h.inj, h.nx, h.old, h.low, h.new⟩
    intro t c' hc
    rw [get_put]
    simp only [St.del] at hc
    rw [assoc_dele] at hc
    split at hc
    · cases hc
    · rename_i e
      rw [if_neg e]
      exact h.env t c' hc

/-! ### Constants, operands -/
def constCV1 : Value → Option CV
  | .int k n => some (.int k n)
  | .bool b => some (.bool b)
  | .string s => some (.str s)
  | .pointer none => some .nilptr
  | .slice none 0 0 => some .nilsl
  | .nilFunc => some .nilfn
  | .nilIface => some .any
  | _ => none
def constCVs : List Value → Option (List CV)
  | [] => some []
  | v :: r => match constCV1 v, constCVs r with
    | some c, some cs => some (c :: cs)
    | _, _ => none
def constCV : Value → Option CV
  | .agg cs => (constCVs cs.toList).map CV.agg
  | .tuple vs => if vs.isEmpty then some (.tup []) else none
  | v => constCV1 v

theorem constCV1_ok {F : Nat → Prop} {v : Value} {c : CV} (h : constCV1 v = some c) : VRt w F c v ∧ one c = true := by
  unfold constCV1 at h
  split at h <;> first | (cases h; simp [VRt, one, Value.oneCell']; done) | (cases h)
theorem constCVs_ok {F : Nat → Prop} : ∀ (vs : List Value) (cs : List CV), constCVs vs = some cs → VRts w F cs vs ∧ cs.all one = true
  | [], cs, h => by simp only [constCVs] at h; cases h; simp [VRts]
  | v :: r, cs, h => by
    simp only [constCVs] at h
    split at h
    · rename_i c cs' h1 h2
      cases h
      obtain ⟨k1, k2⟩ := constCV1_ok (w := w) (F := F) h1
      obtain ⟨k3, k4⟩ := constCVs_ok (F := F) r cs' h2
      simp only [VRts]
      exact ⟨⟨v, r, rfl, k1, k3⟩, by simp [k2, k4]⟩
    · cases h
theorem constCV_ok {F : Nat → Prop} {v : Value} {c : CV} (h : constCV v = some c) : VRt w F c v := by
  unfold constCV at h
  split at h
  · rename_i cs
    obtain ⟨x, h1, h2⟩ := Option.map_eq_some_iff.1 h
    subst h2
    obtain ⟨k1, k2⟩ := constCVs_ok (w := w) (F := F) _ _ h1
    simp only [VRt]
    exact ⟨cs.toList, by simp, k1, k2⟩
  · rename_i vs
    split at h
    · rename_i he
      cases h
      simp only [VRt, VRts]
      exact ⟨[], by simpa using he, rfl⟩
    · cases h
  · exact (constCV1_ok h).1

def ev (s : St) : Operand → Option CV
  | .tmp t => assoc s.env t
  | .const v => constCV v
  | .func f => some (.fn f [])
  | .global _ => none
def evs (s : St) : List Operand → Option (List CV)
  | [] => some []
  | x :: r => match ev s x, evs s r with
    | some c, some cs => some (c :: cs)
    | _, _ => none

theorem ev_ok (h : RelAt C σ s a w) {x : Operand} {c : CV} (he : ev s x = some c) : VR w (FB C σ s.heap) σ c (a.eval x) := by
  cases x with
  | tmp t =>
    obtain ⟨v, h1, h2⟩ := h.env t c he
    simp only [Act.eval]
    have : a.tmps.getD t undef = v := by simp [Array.getD_eq_getD_getElem?, h1]
    rw [this]; exact h2
  | const v => exact VR.of_tree _ _ (constCV_ok he)
  | func f => cases he; simp only [VR]; exact ⟨[], rfl, rfl⟩
  | global g => cases he
theorem evs_ok (h : RelAt C σ s a w) : ∀ (xs : List Operand) (cs : List CV), evs s xs = some cs → VRs w (FB C σ s.heap) σ cs (xs.map a.eval)
  | [], cs, he => by simp only [evs] at he; cases he; rfl
  | x :: r, cs, he => by
    simp only [evs] at he
    split at he
    · rename_i c cs' h1 h2
      cases he
      simp only [VRs]
      exact ⟨_, _, rfl, ev_ok h h1, evs_ok h r cs' h2⟩
    · cases he
end

/-! ### What is told of a type -/
inductive TD where
  | int (k : IntKind)
  | bool
  | str
  | sl (e : TypeId)
  | strct (fs : List (Nat × TypeId))
  | arr (n : Nat) (e : TypeId)
  | ptr (e : TypeId)
  | func
  | oth
def tdOf : TypeDesc → TD
  | .int k => .int k
  | .bool => .bool
  | .string => .str
  | .slice e => .sl e
  | .struct fs => .strct (fs.toList.map fun f => (f.offset, f.type))
  | .array n e => .arr n e
  | .pointer e => .ptr e
  | .func _ _ _ => .func
  | _ => .oth
structure TI where
  d : TD
  size : Nat
  bytes : Nat
  zero : List CV
def TI.agg (i : TI) : Bool := match i.d with
  | .strct _ => true
  | .arr _ _ => true
  | _ => false
structure TIok (P : Program) (t : TypeId) (i : TI) : Prop where
  info : ∃ f z, P.info? t = some f ∧ f.size = i.size ∧ f.bytes = i.bytes ∧ f.zero = some z ∧ constCVs z.cells.toList = some i.zero
  und : ∃ d, P.underlying t = some d ∧ tdOf d = i.d
  len : i.zero.length = i.size
def TabOk (P : Program) (tab : List (Nat × TI)) : Prop := ∀ t i, assoc tab t = some i → TIok P t i

theorem TIok.mk' {P : Program} {t : TypeId} {i : TI} (h1 : (P.info? t).map (fun f => (f.size, f.bytes, f.zero.map fun z => constCVs z.cells.toList)) = some (i.size, i.bytes, some (some i.zero)))
    (h2 : (P.underlying t).map tdOf = some i.d) (h3 : i.zero.length = i.size) : TIok P t i := by
  obtain ⟨f, e1, e2⟩ := Option.map_eq_some_iff.1 h1
  obtain ⟨d, e3, e4⟩ := Option.map_eq_some_iff.1 h2
  simp only [Prod.mk.injEq] at e2
  obtain ⟨z, e5, e6⟩ := Option.map_eq_some_iff.1 e2.2.2
  exact ⟨⟨f, z, e1, e2.1, e2.2.1, e5, e6⟩, ⟨d, e3, e4⟩, h3⟩
theorem TabOk.nil {P : Program} : TabOk P [] := fun _ _ h => by cases h
theorem TabOk.cons {P : Program} {t : Nat} {i : TI} {r : List (Nat × TI)} (h : TIok P t i) (hr : TabOk P r) : TabOk P ((t, i) :: r) := fun u j hj => by
  simp only [assoc] at hj
  split at hj
  · rename_i e; subst e; cases hj; exact h
  · exact hr u j hj

theorem run_und {P : Program} {t : TypeId} {d : TypeDesc} (h : P.underlying t = some d) (w : World) : (underlying t).run P w = .ok d w := run_underlying h w
theorem run_info {P : Program} {t : TypeId} {f : TypeInfo} (h : P.info? t = some f) (w : World) : (typeInfo t).run P w = .ok f w := by
  simp [typeInfo, h]
theorem run_size {P : Program} {t : TypeId} {f : TypeInfo} (h : P.info? t = some f) (w : World) : (sizeOf t).run P w = .ok f.size w := by
  simp [sizeOf, run_info h]

/-! ### The operations that turn nothing in memory -/
def arith (op : BinOp) (k : IntKind) (a b : Int) : Option CV :=
  match op with
  | .add => some (.int k (k.wrap (a + b)))
  | .sub => some (.int k (k.wrap (a - b)))
  | .mul => some (.int k (k.wrap (a * b)))
  | .quo => if b = 0 then none else some (.int k (k.wrap (a.tdiv b)))
  | .rem => if b = 0 then none else some (.int k (a.tmod b))
  | .and => some (.int k (k.wrap (BitVec.ofInt k.bits a &&& BitVec.ofInt k.bits b).toNat))
  | .or => some (.int k (k.wrap (BitVec.ofInt k.bits a ||| BitVec.ofInt k.bits b).toNat))
  | .xor => some (.int k (k.wrap (BitVec.ofInt k.bits a ^^^ BitVec.ofInt k.bits b).toNat))
  | .andNot => some (.int k (k.wrap (BitVec.ofInt k.bits a &&& ~~~ BitVec.ofInt k.bits b).toNat))
  | .eql => some (.bool (a == b))
  | .neq => some (.bool (a != b))
  | .lss => some (.bool (decide (a < b)))
  | .leq => some (.bool (decide (a ≤ b)))
  | .gtr => some (.bool (decide (a > b)))
  | .geq => some (.bool (decide (a ≥ b)))
  | _ => none
def strOp (op : BinOp) (x y : ByteArray) : Option CV :=
  match op with
  | .add => if x.size + y.size ≤ 9223372036854775807 then some (.str (x ++ y)) else none
  | .eql => some (.bool (x.toList == y.toList))
  | .neq => some (.bool (!(x.toList == y.toList)))
  | .lss => some (.bool (Op.bytesLess x.toList y.toList))
  | .leq => some (.bool (Op.bytesLess x.toList y.toList || x.toList == y.toList))
  | .gtr => some (.bool (!(Op.bytesLess x.toList y.toList || x.toList == y.toList)))
  | .geq => some (.bool (!Op.bytesLess x.toList y.toList))
  | _ => none
/-- Is the one nil, held against the other? -/
def isNil : CV → Option Bool
  | .nilsl => some true
  | .nilptr => some true
  | .nilfn => some true
  | .tsl _ n => if n = 0 then none else some false
  | .osl _ _ n => if n = 0 then none else some false
  | .tptr _ => some false
  | .optr _ _ => some false
  | .fn _ _ => some false
  | _ => none
def cbin (op : BinOp) (d : TD) : CV → CV → Option CV
  | .int k a, .int k' b => match op with
    | .shl => if b < 0 then none else some (.int k (k.wrap (a * 2 ^ (min b.toNat k.bits))))
    | .shr => if b < 0 then none else some (.int k (a.fdiv (2 ^ (min b.toNat k.bits))))
    | op => if k = k' then arith op k a b else none
  | .str x, .str y => strOp op x y
  | .bool a, .bool b => match d, op with
    | .bool, .eql => some (.bool (a == b))
    | .bool, .neq => some (.bool (!(a == b)))
    | _, _ => none
  | _, _ => none

theorem VR_int {w : World} {F : Nat → Prop} {σ : Nat → Option OB} (k : IntKind) (n : Int) : VR w F σ (.int k n) (.int k n) := by simp [VR]
theorem VR_bool {w : World} {F : Nat → Prop} {σ : Nat → Option OB} (b : Bool) : VR w F σ (.bool b) (.bool b) := by simp [VR]
theorem VR_str {w : World} {F : Nat → Prop} {σ : Nat → Option OB} (b : ByteArray) : VR w F σ (.str b) (.string b) := by simp [VR]

theorem arith_ok {P : Program} {w : World} {op : BinOp} {k : IntKind} {xt : TypeId} {a b : Int} {c : CV} (hs1 : op ≠ .shl) (hs2 : op ≠ .shr) (h : arith op k a b = some c) {F : Nat → Prop} {σ : Nat → Option OB} :
    ∃ v, (binOp op xt (.int k a) (.int k b)).run P w = .ok v w ∧ VR w F σ c v := by
  cases op <;> simp only [arith] at h
  case add => cases h; exact ⟨_, by simp [binOp, Op.intArith], VR_int _ _⟩
  case sub => cases h; exact ⟨_, by simp [binOp, Op.intArith], VR_int _ _⟩
  case mul => cases h; exact ⟨_, by simp [binOp, Op.intArith], VR_int _ _⟩
  case quo =>
    split at h
    · cases h
    · cases h; rename_i hb; exact ⟨_, by simp [binOp, Op.intDiv, hb], VR_int _ _⟩
  case rem =>
    split at h
    · cases h
    · cases h; rename_i hb; exact ⟨_, by simp [binOp, Op.intDiv, hb], VR_int _ _⟩
  case and => cases h; exact ⟨_, by simp [binOp, Op.intBits], VR_int _ _⟩
  case or => cases h; exact ⟨_, by simp [binOp, Op.intBits], VR_int _ _⟩
  case xor => cases h; exact ⟨_, by simp [binOp, Op.intBits], VR_int _ _⟩
  case andNot => cases h; exact ⟨_, by simp [binOp, Op.intBits], VR_int _ _⟩
  case eql => cases h; exact ⟨_, by simp [binOp, Op.intCmp], VR_bool _⟩
  case neq => cases h; exact ⟨_, by simp [binOp, Op.intCmp], VR_bool _⟩
  case lss => cases h; exact ⟨_, by simp [binOp, Op.intCmp], VR_bool _⟩
  case leq => cases h; exact ⟨_, by simp [binOp, Op.intCmp], VR_bool _⟩
  case gtr => cases h; exact ⟨_, by simp [binOp, Op.intCmp], VR_bool _⟩
  case geq => cases h; exact ⟨_, by simp [binOp, Op.intCmp], VR_bool _⟩
  all_goals first | cases h | exact absurd rfl hs1 | exact absurd rfl hs2

theorem strOp_ok {P : Program} {w : World} {op : BinOp} {xt : TypeId} {a b : ByteArray} {c : CV} (h : strOp op a b = some c) {F : Nat → Prop} {σ : Nat → Option OB} :
    ∃ v, (binOp op xt (.string a) (.string b)).run P w = .ok v w ∧ VR w F σ c v := by
  cases op <;> simp only [strOp] at h
  case add =>
    split at h
    · rename_i hb
      cases h
      refine ⟨_, ?_, VR_str _⟩
      have hm : IntKind.i64.max = 9223372036854775807 := by simp [IntKind.max, IntKind.signed, IntKind.bits]
      simp only [binOp, Op.stringOp, hm]
      rw [if_neg (by omega)]; rfl
    · cases h
  case eql => cases h; exact ⟨_, by simp [binOp, Op.stringOp], VR_bool _⟩
  case neq => cases h; exact ⟨_, by simp [binOp, Op.stringOp], VR_bool _⟩
  case lss => cases h; exact ⟨_, by simp [binOp, Op.stringOp], VR_bool _⟩
  case leq => cases h; exact ⟨_, by simp [binOp, Op.stringOp], VR_bool _⟩
  case gtr => cases h; exact ⟨_, by simp [binOp, Op.stringOp], VR_bool _⟩
  case geq => cases h; exact ⟨_, by simp [binOp, Op.stringOp], VR_bool _⟩
  all_goals cases h
end Go.Can
