/- The value of an operation that turns nothing in memory ('qval'), and that the model yields it. No function of the program is mentioned here. -/
import Derived.Test.YtniilppjegieaaaGreatCan3
namespace Go.Can
open Go.RowKit

def cnilEq (d : Option TD) (p q : CV) : Option Bool :=
  match d, q with
  | some (.sl _), .nilsl => match p with
    | .nilsl => some true
    | .tsl _ n => if n = 0 then none else some false
    | .osl _ _ n => if n = 0 then none else some false
    | _ => none
  | some (.ptr _), .nilptr => match p with
    | .nilptr => some true
    | .tptr _ => some false
    | .optr _ _ => some false
    | _ => none
  | some .func, .nilfn => match p with
    | .nilfn => some true
    | .fn _ _ => some false
    | _ => none
  | _, _ => none
def cbinT (tab : List (Nat × TI)) (op : BinOp) (t : TypeId) (p q : CV) : Option CV :=
  match p, q with
  | .int _ _, .int _ _ => cbin op .oth p q
  | .str _, .str _ => cbin op .oth p q
  | .bool _, .bool _ => match tdAt tab t with
    | some d => cbin op d p q
    | none => none
  | _, _ => match op with
    | .eql => (cnilEq (tdAt tab t) p q).map CV.bool
    | .neq => (cnilEq (tdAt tab t) p q).map fun b => CV.bool (!b)
    | _ => none

def cun (op : UnOp) (p : CV) : Option CV :=
  match op, p with
  | .not, .bool b => some (.bool (!b))
  | .neg, .int k n => some (.int k (k.wrap (0 - n)))
  | _, _ => none

def cbuiltin (tab : List (Nat × TI)) (s : St) (b : Builtin) (args : List Operand) (ts : List TypeId) : Option CV :=
  match b with
  | .len => match args, ts with
    | [x], [t] => match ev s x with
      | some c => clen tab t c
      | none => none
    | _, _ => none
  | .min => match evs s args with
    | some (.int k x :: r) => cfoldI imin k x r
    | _ => none
  | .max => match evs s args with
    | some (.int k x :: r) => cfoldI imax k x r
    | _ => none
  | _ => none

def qval (tab : List (Nat × TI)) (s : St) : Op → Option CV
  | .move x => ev s x
  | .assign x => ev s x
  | .pick c x y => match ev s c with
    | some (.bool b) => if b then ev s x else ev s y
    | _ => none
  | .binOp op t x y _ => match ev s x, ev s y with
    | some p, some q => cbinT tab op t p q
    | _, _ => none
  | .unOp op _ x => match ev s x with
    | some p => cun op p
    | none => none
  | .load t x => match ev s x, assoc tab t with
    | some c, some i => match memAt s c with
      | some cs => cload i cs
      | none => none
    | _, _ => none
  | .slice t x lo hi none => match ev s x with
    | some c => cslice tab s t c lo hi
    | none => none
  | .fieldAddr t x f => match ev s x with
    | some c => cfieldAddr tab t c f
    | none => none
  | .field t x f => match ev s x with
    | some c => cfield tab t c f
    | none => none
  | .indexAddr t x i => match ev s x, ev s i with
    | some c, some (.int _ n) => cindex tab t c n
    | _, _ => none
  | .index t x i => match ev s x, ev s i with
    | some c, some (.int _ n) => cindexv tab t c n
    | _, _ => none
  | .extract x i => match ev s x with
    | some (.tup vs) => vs[i]?
    | _ => none
  | .makeFunc (.func f) first captured => if first.isEmpty then (evs s captured.toList).map (CV.fn f) else none
  | .nilCheck x => match ev s x with
    | some (.optr o p) => some (.optr o p)
    | some (.tptr cs) => some (.tptr cs)
    | some (.fn f cs) => some (.fn f cs)
    | _ => none
  | .build t parts => cbuild tab s t parts.toList
  | .call c => match c.callee with
    | .builtin b => cbuiltin tab s b c.args.toList c.argTypes.toList
    | _ => none
  | _ => none

section
variable {P : Program} {C : Cx} {σ : Nat → Option OB} {s : St} {a : Act} {w : World}

theorem cbin_ok {F : Nat → Prop} {op : BinOp} {t : TypeId} {p q c : CV} {u v : Value} (hp : VR w F σ p u) (hq : VR w F σ q v) (d : TD) (hd : d = .bool → P.underlying t = some .bool) (hc : cbin op d p q = some c) :
    ∃ x, (binOp op t u v).run P w = .ok x w ∧ VR w F σ c x := by
  unfold cbin at hc
  split at hc
  · rename_i k a k' b
    simp only [VR] at hp hq
    subst hp hq
    split at hc
    · split at hc
      · cases hc
      · rename_i hb
        cases hc
        exact ⟨_, by simp [binOp, Op.shift, hb], VR_int _ _⟩
    · split at hc
      · cases hc
      · rename_i hb
        cases hc
        exact ⟨_, by simp [binOp, Op.shift, hb], VR_int _ _⟩
    · rename_i h1 h2
      split at hc
      · rename_i hk
        subst hk
        exact arith_ok (fun e => h1 e) (fun e => h2 e) hc
      · cases hc
  · simp only [VR] at hp hq
    subst hp hq
    exact strOp_ok hc
  · rename_i b b'
    simp only [VR] at hp hq
    subst hp hq
    split at hc
    · cases hc
      exact ⟨_, run_eql_bool w t b b' (hd rfl), VR_bool _⟩
    · cases hc
      exact ⟨_, run_neq_bool w t b b' (hd rfl), VR_bool _⟩
    · cases hc
  · cases hc

theorem und_ptr {t e : TypeId} {i : TI} (hT : TIok P t i) (hd : i.d = .ptr e) : P.underlying t = some (.pointer e) := by
  obtain ⟨d, h1, h2⟩ := hT.und
  rw [hd] at h2
  cases d <;> simp only [tdOf] at h2 <;> first | cases h2 | skip
  exact h1
theorem und_func {t : TypeId} {i : TI} (hT : TIok P t i) (hd : i.d = .func) : ∃ x y z, P.underlying t = some (.func x y z) := by
  obtain ⟨d, h1, h2⟩ := hT.und
  rw [hd] at h2
  cases d <;> simp only [tdOf] at h2 <;> first | cases h2 | skip
  exact ⟨_, _, _, h1⟩

theorem run_equalIn_sl (d : Nat) {t e : TypeId} (h : P.underlying t = some (.slice e)) (A : Option Addr) (n cap : Nat) : (Op.equalIn (d + 1) t (.slice A n cap) (.slice none 0 0)).run P w = .ok A.isNone w := by
  cases A <;> simp [Op.equalIn, run_und h]
theorem run_equalIn_ptr (d : Nat) {t e : TypeId} (h : P.underlying t = some (.pointer e)) (A : Option Addr) : (Op.equalIn (d + 1) t (.pointer A) (.pointer none)).run P w = .ok A.isNone w := by
  cases A <;> simp [Op.equalIn, run_und h]
theorem run_equalIn_fn (d : Nat) {t : TypeId} {x y : Array TypeId} {z : Bool} (h : P.underlying t = some (.func x y z)) (f : Fn) (u v : Array Value) : (Op.equalIn (d + 1) t (.func f u v) .nilFunc).run P w = .ok false w := by
  simp [Op.equalIn, run_und h]
theorem run_equalIn_nilfn (d : Nat) {t : TypeId} {x y : Array TypeId} {z : Bool} (h : P.underlying t = some (.func x y z)) : (Op.equalIn (d + 1) t .nilFunc .nilFunc).run P w = .ok true w := by
  simp [Op.equalIn, run_und h]

theorem cnilEq_ok {tab : List (Nat × TI)} (ht : TabOk P tab) {F : Nat → Prop} {t : TypeId} {p q : CV} {u v : Value} {b : Bool} (hp : VR w F σ p u) (hq : VR w F σ q v) (hc : cnilEq (tdAt tab t) p q = some b) :
    (Op.equal t u v).run P w = .ok b w ∧ (∀ cs, u ≠ .agg cs) ∧ u ≠ .nilIface ∧
      (∀ k n, u ≠ .int k n) ∧ (∀ k n, u ≠ .float k n) ∧ (∀ k x y, u ≠ .complex k x y) ∧ (∀ x, u ≠ .string x) := by
  unfold cnilEq at hc
  split at hc
  · rename_i e hd
    obtain ⟨it, hit, hd⟩ := Option.map_eq_some_iff.1 hd
    have hu := und_sl (ht t it hit) hd
    simp only [VR] at hq
    subst hq
    have key : ∃ A n cap, u = .slice A n cap ∧ (A = none ↔ b = true) := by
      split at hc
      · cases hc; simp only [VR] at hp; subst hp; exact ⟨_, _, _, rfl, by simp⟩
      · rename_i cs n
        split at hc
        · cases hc
        · rename_i hn
          cases hc
          simp only [VR, VRt] at hp
          obtain ⟨A, cap, rfl, _, _, h4⟩ := hp
          rcases h4 with ⟨h4, _⟩ | ⟨ad, rfl, _⟩
          · exact absurd h4 hn
          · exact ⟨_, _, _, rfl, by simp⟩
      · rename_i o off n
        split at hc
        · cases hc
        · rename_i hn
          cases hc
          simp only [VR] at hp
          obtain ⟨B, _, hp⟩ := hp
          split at hp
          · exact absurd hp.2.2 hn
          · obtain ⟨cap, rfl, _⟩ := hp
            exact ⟨_, _, _, rfl, by simp⟩
      · cases hc
    obtain ⟨A, n, cap, rfl, hA⟩ := key
    refine ⟨?_, by simp, by simp, by simp, by simp, by simp, by simp⟩
    have e : A.isNone = b := by
      cases A with
      | none => simp [hA.1 rfl]
      | some ad => cases b; rfl; exact absurd (hA.2 rfl) (by simp)
    rw [← e]
    exact run_equalIn_sl 9999 hu A n cap
  · rename_i e hd
    obtain ⟨it, hit, hd⟩ := Option.map_eq_some_iff.1 hd
    have hu := und_ptr (ht t it hit) hd
    simp only [VR] at hq
    subst hq
    have key : ∃ A, u = .pointer A ∧ (A = none ↔ b = true) := by
      split at hc
      · cases hc; simp only [VR] at hp; subst hp; exact ⟨_, rfl, by simp⟩
      · cases hc
        simp only [VR, VRt] at hp
        obtain ⟨ad, rfl, _⟩ := hp
        exact ⟨_, rfl, by simp⟩
      · cases hc
        simp only [VR] at hp
        obtain ⟨B, b, _, _, rfl⟩ := hp
        exact ⟨_, rfl, by simp⟩
      · cases hc
    obtain ⟨A, rfl, hA⟩ := key
    refine ⟨?_, by simp, by simp, by simp, by simp, by simp, by simp⟩
    have e : A.isNone = b := by
      cases A with
      | none => simp [hA.1 rfl]
      | some ad => cases b; rfl; exact absurd (hA.2 rfl) (by simp)
    rw [← e]
    exact run_equalIn_ptr 9999 hu A
  · rename_i hd
    obtain ⟨it, hit, hd⟩ := Option.map_eq_some_iff.1 hd
    obtain ⟨x, y, z, hu⟩ := und_func (ht t it hit) hd
    simp only [VR] at hq
    subst hq
    split at hc
    · cases hc
      simp only [VR] at hp
      subst hp
      refine ⟨?_, by simp, by simp, by simp, by simp, by simp, by simp⟩
      exact run_equalIn_nilfn 9999 hu
    · cases hc
      simp only [VR] at hp
      obtain ⟨vs, rfl, _⟩ := hp
      refine ⟨?_, by simp, by simp, by simp, by simp, by simp, by simp⟩
      exact run_equalIn_fn 9999 hu _ _ _
    · cases hc
  · cases hc

theorem run_eqGuard {op : BinOp} {t : TypeId} {x y : Operand} {u v : Value} (h1 : ∀ cs, u ≠ .agg cs) (h2 : u ≠ .nilIface) : (eqGuard op t x y u v).run P w = .ok () w := by
  unfold eqGuard
  split
  all_goals first
    | (rw [if_pos (by rfl)]; rfl)
    | (rw [if_neg (by simp)]
       split
       · exact absurd rfl h2
       · exact absurd rfl (h1 _)
       · rfl)
theorem run_binOp_equal {t : TypeId} {u v : Value} {b : Bool} (he : (Op.equal t u v).run P w = .ok b w) (h1 : ∀ k n, u ≠ .int k n) (h2 : ∀ k n, u ≠ .float k n) (h3 : ∀ k x y, u ≠ .complex k x y) (h4 : ∀ x, u ≠ .string x) :
    (binOp .eql t u v).run P w = .ok (.bool b) w ∧ (binOp .neq t u v).run P w = .ok (.bool (!b)) w := by
  constructor
  · unfold binOp
    split <;> first | exact absurd rfl (h1 _ _) | exact absurd rfl (h2 _ _) | exact absurd rfl (h3 _ _ _) | exact absurd rfl (h4 _) | (simp_all; done)
  · unfold binOp
    split <;> first | exact absurd rfl (h1 _ _) | exact absurd rfl (h2 _ _) | exact absurd rfl (h3 _ _ _) | exact absurd rfl (h4 _) | (simp_all; done)

theorem scalar_guard {F : Nat → Prop} {p : CV} {u : Value} (hp : VR w F σ p u) (h : ∀ cs, p ≠ .agg cs) (ha : p ≠ .any) : (∀ cs, u ≠ .agg cs) ∧ u ≠ .nilIface := by
  cases p <;> simp only [VR, VRt] at hp
  case agg cs => exact absurd rfl (h cs)
  case tsl => obtain ⟨A, cap, rfl, _⟩ := hp; simp
  case tptr => obtain ⟨ad, rfl, _⟩ := hp; simp
  case fn => obtain ⟨vs, rfl, _⟩ := hp; simp
  case iface => obtain ⟨vs, rfl, _⟩ := hp; simp
  case iter => obtain ⟨B, r, _, _, rfl, _⟩ := hp; simp
  case mp => obtain ⟨B, r, arr, clock, _, _, rfl, _⟩ := hp; simp
  case tup => obtain ⟨vs, rfl, _⟩ := hp; simp
  case osl =>
    obtain ⟨B, _, hp⟩ := hp
    split at hp
    · obtain ⟨rfl, _⟩ := hp; simp
    · obtain ⟨cap, rfl, _⟩ := hp; simp
  case optr => obtain ⟨B, b, _, _, rfl⟩ := hp; simp
  case any => exact absurd rfl ha
  all_goals (subst hp; simp)

theorem cbinT_ok {tab : List (Nat × TI)} (ht : TabOk P tab) {F : Nat → Prop} {op : BinOp} {t : TypeId} {p q c : CV} {u v : Value} (hp : VR w F σ p u) (hq : VR w F σ q v) (hc : cbinT tab op t p q = some c) :
    ∃ z, (∀ x y, (eqGuard op t x y u v).run P w = .ok () w) ∧ (binOp op t u v).run P w = .ok z w ∧ VR w F σ c z := by
  have fin : ∀ (_ : ∀ cs, p ≠ .agg cs) (_ : p ≠ .any) (d : TD), (d = .bool → P.underlying t = some .bool) → cbin op d p q = some c → ∃ z, (∀ x y, (eqGuard op t x y u v).run P w = .ok () w) ∧ (binOp op t u v).run P w = .ok z w ∧ VR w F σ c z := fun hn hn' d hd h => by
    obtain ⟨h1, h2⟩ := scalar_guard hp hn hn'
    obtain ⟨z, k1, k2⟩ := cbin_ok hp hq d hd h
    exact ⟨z, fun _ _ => run_eqGuard h1 h2, k1, k2⟩
  unfold cbinT at hc
  split at hc
  · exact fin (by simp) (by simp) _ (by simp) hc
  · exact fin (by simp) (by simp) _ (by simp) hc
  · split at hc
    · rename_i d hd
      obtain ⟨it, hit, hd⟩ := Option.map_eq_some_iff.1 hd
      exact fin (by simp) (by simp) d (fun e => und_bool (ht t it hit) (by rw [hd, e])) hc
    · cases hc
  · split at hc
    · obtain ⟨b, hb, rfl⟩ := Option.map_eq_some_iff.1 hc
      obtain ⟨h1, h3, h4, h5, h6, h7, h8⟩ := cnilEq_ok ht hp hq hb
      exact ⟨_, fun _ _ => run_eqGuard h3 h4, (run_binOp_equal h1 h5 h6 h7 h8).1, VR_bool _⟩
    · obtain ⟨b, hb, rfl⟩ := Option.map_eq_some_iff.1 hc
      obtain ⟨h1, h3, h4, h5, h6, h7, h8⟩ := cnilEq_ok ht hp hq hb
      exact ⟨_, fun _ _ => run_eqGuard h3 h4, (run_binOp_equal h1 h5 h6 h7 h8).2, VR_bool _⟩
    · cases hc

theorem cun_ok {F : Nat → Prop} {op : UnOp} {p c : CV} {u : Value} (hp : VR w F σ p u) (hc : cun op p = some c) : ∃ z, (Op.unary op u).run P w = .ok z w ∧ VR w F σ c z := by
  unfold cun at hc
  split at hc
  · cases hc; simp only [VR] at hp; subst hp; exact ⟨_, by simp [Op.unary], VR_bool _⟩
  · cases hc; simp only [VR] at hp; subst hp; exact ⟨_, by simp [Op.unary, Op.intArith], VR_int _ _⟩
  · cases hc

theorem VRs_head {F : Nat → Prop} {k : IntKind} {x : Int} {cs : List CV} {vs : List Value} (h : VRs w F σ (.int k x :: cs) vs) : ∃ r, vs = .int k x :: r ∧ VRs w F σ cs r := by
  simp only [VRs] at h
  obtain ⟨v, r, rfl, h1, h2⟩ := h
  simp only [VR] at h1
  subst h1
  exact ⟨r, rfl, h2⟩

theorem cbuiltin_ok {tab : List (Nat × TI)} (ht : TabOk P tab) (h : RelAt C σ s a w) {b : Builtin} {args : List Operand} {ts : Array TypeId} {ty : TypeId} {c : CV} (hc : cbuiltin tab s b args ts.toList = some c) :
    ∃ z, (∀ cons, (builtin b ts ty cons (args.map a.eval).toArray).run P w = .ok (.value z) w) ∧ VR w (FB C σ s.heap) σ c z := by
  unfold cbuiltin at hc
  split at hc
  · split at hc
    · rename_i x t htl
      split at hc
      · rename_i c' he
        obtain ⟨u, k1, k2⟩ := clen_ok (P := P) (ty := ty) ht (ev_ok h he) hc
        have : ts = #[t] := by rw [← Array.toArray_toList (xs := ts), htl]
        subst this
        exact ⟨u, fun _ => by simp [builtin, k1], k2⟩
      · cases hc
    · cases hc
  · split at hc
    · rename_i k x r he
      obtain ⟨rs, e, hr⟩ := VRs_head (evs_ok h _ _ he)
      obtain ⟨u, k1, k2⟩ := cmin_ok (P := P) _ _ _ _ hr hc
      exact ⟨u, fun _ => by simp [builtin, Builtin.min_, e, k1], k2⟩
    · cases hc
  · split at hc
    · rename_i k x r he
      obtain ⟨rs, e, hr⟩ := VRs_head (evs_ok h _ _ he)
      obtain ⟨u, k1, k2⟩ := cmax_ok (P := P) _ _ _ _ hr hc
      exact ⟨u, fun _ => by simp [builtin, Builtin.max_, e, k1], k2⟩
    · cases hc
  · cases hc

/-- **What 'qval' says, the model does**, and memory stays. -/
theorem qval_ok {tab : List (Nat × TI)} (ht : TabOk P tab) (h : RelAt C σ s a w) (o : Oper) {c : CV} (hc : qval tab s o.op = some c) :
    ∃ z, (execOp a.eval o).run P w = .ok (.value z) w ∧ VR w (FB C σ s.heap) σ c z := by
  obtain ⟨dst, op, ty, pos, after, guard⟩ := o
  unfold qval at hc
  simp only at hc
  split at hc
  · exact ⟨_, by simp [execOp], ev_ok h hc⟩
  · exact ⟨_, by simp [execOp], ev_ok h hc⟩
  · rename_i c' x y
    split at hc
    · rename_i b he
      have hb := ev_ok h he
      simp only [VR] at hb
      split at hc
      · rename_i hbt
        subst hbt
        exact ⟨_, by simp [execOp, hb, asBool], ev_ok h hc⟩
      · rename_i hbt
        rw [Bool.not_eq_true] at hbt
        subst hbt
        exact ⟨_, by simp [execOp, hb, asBool], ev_ok h hc⟩
    · cases hc
  · split at hc
    · rename_i p q hp hq
      obtain ⟨z, k0, k1, k2⟩ := cbinT_ok (P := P) ht (ev_ok h hp) (ev_ok h hq) hc
      exact ⟨z, by simp only [execOp, Sem.run_bind, k0, k1, Result.andThen_ok, Sem.run_pure], k2⟩
    · cases hc
  · split at hc
    · rename_i p hp
      obtain ⟨z, k1, k2⟩ := cun_ok (P := P) (ev_ok h hp) hc
      exact ⟨z, by simp [execOp, k1], k2⟩
    · cases hc
  · split at hc
    · rename_i c' i hx hi
      split at hc
      · rename_i cs hm
        obtain ⟨ad, e, hcs⟩ := memAt_ok h (ev_ok h hx) hm
        obtain ⟨z, k1, k2⟩ := cload_ok (P := P) (ht _ i hi) hcs hc
        exact ⟨z, by simp [execOp, Instr.loadAt, e, Instr.sureAddr, k1], k2⟩
      · cases hc
    · cases hc
  · split at hc
    · rename_i c' hx
      obtain ⟨z, k1, k2⟩ := cslice_ok (P := P) ht h (ev_ok h hx) hc
      exact ⟨z, by simp [execOp, k1], k2⟩
    · cases hc
  · split at hc
    · rename_i c' hx
      obtain ⟨z, k1, k2⟩ := cfieldAddr_ok (P := P) ht (ev_ok h hx) hc
      exact ⟨z, by simp [execOp, k1], k2⟩
    · cases hc
  · split at hc
    · rename_i c' hx
      obtain ⟨z, k1, k2⟩ := cfield_ok (P := P) ht (ev_ok h hx) hc
      exact ⟨z, by simp [execOp, k1], k2⟩
    · cases hc
  · split at hc
    · rename_i c' k n hx hi
      have hn := ev_ok h hi
      simp only [VR] at hn
      obtain ⟨z, k1, k2⟩ := cindex_ok (P := P) (k := k) ht (ev_ok h hx) hc
      exact ⟨z, by simp [execOp, hn, k1], k2⟩
    · cases hc
  · split at hc
    · rename_i c' k n hx hi
      have hn := ev_ok h hi
      simp only [VR] at hn
      obtain ⟨z, k1, k2⟩ := cindexv_ok (P := P) (k := k) ht (ev_ok h hx) hc
      exact ⟨z, by simp [execOp, hn, k1], k2⟩
    · cases hc
  · split at hc
    · rename_i vs hx
      have hv := ev_ok h hx
      simp only [VR] at hv
      obtain ⟨us, e, hr⟩ := hv
      obtain ⟨z, k1, k2⟩ := VRs.get _ _ hr _ _ hc
      exact ⟨z, by simp [execOp, e, Instr.extract, k1], k2⟩
    · cases hc
  · rename_i f first captured
    split at hc
    · rename_i hf
      obtain ⟨cs, hcs, rfl⟩ := Option.map_eq_some_iff.1 hc
      have := evs_ok h _ _ hcs
      have e : first = #[] := by simpa using hf
      subst e
      refine ⟨.func (.func f) #[] (captured.map a.eval), by simp [execOp, Instr.makeFunc], ?_⟩
      simp only [VR]
      exact ⟨captured.toList.map a.eval, by rw [← List.map_toArray], this⟩
    · cases hc
  · split at hc
    · rename_i o p hx
      cases hc
      have hv := ev_ok h hx
      have hv' := hv
      simp only [VR] at hv'
      obtain ⟨B, b, _, _, e⟩ := hv'
      exact ⟨_, by simp only [execOp, e]; rfl, by rw [← e]; exact hv⟩
    · rename_i cs hx
      cases hc
      have hv := ev_ok h hx
      have hv' := hv
      simp only [VR, VRt] at hv'
      obtain ⟨ad, e, _⟩ := hv'
      exact ⟨_, by simp only [execOp, e]; rfl, by rw [← e]; exact hv⟩
    · rename_i f cs hx
      cases hc
      have hv := ev_ok h hx
      have hv' := hv
      simp only [VR] at hv'
      obtain ⟨vs, e, _⟩ := hv'
      exact ⟨_, by simp only [execOp, e]; rfl, by rw [← e]; exact hv⟩
    · cases hc
  · rename_i t parts
    obtain ⟨z, k1, k2⟩ := cbuild_ok (P := P) ht h hc
    refine ⟨z, ?_, k2⟩
    have e : (parts.map fun (x : Nat × Operand) => (x.1, a.eval x.2)) = (parts.toList.map fun (p : Nat × Operand) => (p.1, a.eval p.2)).toArray := by
      rw [← List.map_toArray]
    simp only [execOp, e, Sem.run_bind, k1, Result.andThen_ok, Sem.run_pure]
  · rename_i cl
    split at hc
    · rename_i b hcal
      obtain ⟨z, k1, k2⟩ := cbuiltin_ok (P := P) (ty := ty) ht h hc
      refine ⟨z, ?_, k2⟩
      have e : (cl.args.toList.map a.eval).toArray = cl.args.map a.eval := by rw [← List.map_toArray]
      rw [e] at k1
      simp only [execOp, resolve, hcal, Sem.run_bind, Sem.run_pure, Result.andThen_ok, invoke, k1]
    · cases hc
  · cases hc
end
end Go.Can
