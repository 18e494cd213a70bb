/- One operation as a step of canonical states; what may be said anew of a state; triples over codes. No function of the program is mentioned here. -/
import Derived.Test.YtniilppjegieaaaGreatCan7
namespace Go.Can
open Go.RowKit

section
variable {P : Program} {C : Cx} {σ : Nat → Option OB} {s : St} {a : Act} {w : World}

/-! ### copy -/
def ccopy (tab : List (Nat × TI)) (s : St) (d : Option Tmp) (t : TypeId) (x y : Operand) : Option St :=
  match tdAt tab t, ev s x, ev s y with
  | some (.sl e), some (.osl o off n), some q =>
    match assoc tab e, cells? s q, assoc s.heap o with
    | some ie, some (news, m), some ob =>
      if 0 < n ∧ ob.sz = ie.size ∧ news.length = m * ie.size ∧ off + n * ie.size ≤ ob.cells.length then
        some (St.put { s with heap := upd s.heap o { ob with cells := cput ob.cells off (news.take ((min m n) * ie.size)) } } d (.int .i64 (min m n : Nat)))
      else none
    | _, _, _ => none
  | _, _, _ => none

theorem ccopy_ok {tab : List (Nat × TI)} (ht : TabOk P tab) (h : RelAt C σ s a w) {o : Oper} {cl : Call} {t t' : TypeId} {x y : Operand} (hd : ∀ t, o.dst = some t → t < a.tmps.size) (ho : o.op = .call cl) (hcl : cl.callee = .builtin .copy) (hargs : cl.args = #[x, y]) (hts : cl.argTypes = #[t, t'])
    {s' : St} (hc : ccopy tab s o.dst t x y = some s') : ∃ z w', (execOp a.eval o).run P w = .ok (.value z) w' ∧ Rel C s' (a.put o.dst z) w' := by
  unfold ccopy at hc
  split at hc
  · rename_i e o' off n q hd' hp hq
    obtain ⟨it, hit, hd'⟩ := Option.map_eq_some_iff.1 hd'
    split at hc
    · rename_i ie news m ob hie hcs hob
      split at hc
      · rename_i hb
        obtain ⟨q1, q2, q3, q4⟩ := hb
        cases hc
        obtain ⟨f, z, g1, g2, _⟩ := (ht e ie hie).info
        have hu := und_sl (ht t it hit) hd'
        obtain ⟨us, u1, u2, u3⟩ := cells?_ok h (ev_ok h hq) hcs
        have ul := VRs.length _ _ u1
        have hx := ev_ok h hp
        simp only [VR] at hx
        obtain ⟨B, hB, hx⟩ := hx
        obtain ⟨B0, e1, e2, _, e4, e5⟩ := h.obj _ ob hob
        rw [hB] at e1; cases e1
        split at hx
        · obtain ⟨_, _, h0⟩ := hx; omega
        rename_i b hbb
        obtain ⟨cap, ex, c1, c2, c3, c4⟩ := hx
        obtain ⟨cur, n1, n2, n3, n4, n5, n6⟩ := e5 b hbb
        have hk : (us.take ((min m n) * ie.size)).length = min m n * ie.size := by
          rw [List.length_take, ul, q3]
          have : min m n * ie.size ≤ m * ie.size := Nat.mul_le_mul_right _ (Nat.min_le_left _ _)
          omega
        have hkn : min m n * ie.size ≤ n * ie.size := Nat.mul_le_mul_right _ (Nat.min_le_right _ _)
        have u1' := VRs.take ((min m n) * ie.size) _ _ u1
        have u2' : (news.take ((min m n) * ie.size)).all one = true := by
          rw [List.all_eq_true] at u2 ⊢
          exact fun x hx => u2 x (List.mem_of_mem_take hx)
        have hst := run_storeCells_at P b off ob.elem (us.take ((min m n) * ie.size)) 0 cur w n1 (by rw [hk]; omega) (VRs.one_cells _ _ u2' u1')
        simp only [Nat.add_zero] at hst
        have hnl : (news.take ((min m n) * ie.size)).length = min m n * ie.size := by rw [← VRs.length _ _ u1', hk]
        have hw := h.write hob hB hbb (cs' := cput ob.cells off (news.take ((min m n) * ie.size))) (us' := cur.toList.take off ++ us.take ((min m n) * ie.size) ++ cur.toList.drop (off + (us.take ((min m n) * ie.size)).length)) (by simp [hk]; omega)
          (by rw [cput_length _ _ _ (by omega)]; simp [hk]; omega) (by
            rw [cput_length _ _ _ (by omega)]
            have := cput_ok n6 off u1'
            have ee : (cur.toList.take off ++ us.take ((min m n) * ie.size) ++ cur.toList.drop (off + (us.take ((min m n) * ie.size)).length)).take ob.cells.length =
                (cur.toList.take ob.cells.length).take off ++ us.take ((min m n) * ie.size) ++ (cur.toList.take ob.cells.length).drop (off + (us.take ((min m n) * ie.size)).length) := by
              have hcl : ob.cells.length ≤ cur.toList.length := by simpa using n5
              generalize us.take ((min m n) * ie.size) = vs at *
              rw [List.take_append, List.take_append]
              simp only [List.length_append, List.length_take, List.take_take, List.drop_take]
              rw [Nat.min_eq_right (show off ≤ ob.cells.length by omega), Nat.min_eq_left (show off ≤ cur.toList.length by omega), List.take_of_length_le (show vs.length ≤ ob.cells.length - off by omega)]
              congr 2
              · rw [Nat.min_eq_left (show off ≤ ob.cells.length by omega)]
            rw [ee]
            exact this) (cput_one off e4 u2')
        refine ⟨.int .i64 (min m n : Nat), _, ?_, _, hw.put hd (VR_int _ _)⟩
        have hfirst : ∀ k, k = min m n → (Builtin.firstCells ie.size k (a.eval y)).run P w = .ok (us.take (k * ie.size)).toArray w := by
          rintro k rfl
          rcases u3 with ⟨c, e, rfl, rfl⟩ | ⟨ad, c, e, hcell⟩
          · simp [e, Builtin.firstCells]
          · rw [e]
            exact run_firstCells_some (P := P) w ie.size _ ad m c _ hk fun j x hx => by
              rw [List.getElem?_take] at hx
              split at hx
              · exact hcell j x hx
              · cases hx
        have hlen : (Builtin.lenOf (a.eval y)).run P w = .ok m w := by
          rcases u3 with ⟨c, e, rfl, rfl⟩ | ⟨ad, c, e, hcell⟩ <;> simp [e, Builtin.lenOf]
        have hmin : Nat.min m n = min m n := rfl
        simp only [execOp, ho, resolve, hcl, hargs, hts, Sem.run_bind, Sem.run_pure, Result.andThen_ok, invoke, builtin, Builtin.copy_, List.map_toArray, List.map_cons, List.map_nil]
        simp only [List.getElem?_toArray, List.getElem?_cons_zero, List.getElem?_cons_succ, Sem.run_bind, run_und hu, ex, Result.andThen_ok, hlen, run_size g1, g2, hmin, hfirst _ rfl, hst, Sem.run_pure, goInt]
      · cases hc
    · cases hc
  · cases hc
/-! ### clear -/
theorem upd_self {α : Type} : ∀ (l : List (Nat × α)) (t : Nat) (x : α), assoc l t = some x → upd l t x = l
  | [], _, _, h => by simp [assoc] at h
  | (k, v) :: r, t, x, h => by
    simp only [assoc] at h
    simp only [upd]
    split at h
    · rename_i e; cases h; rw [if_pos e]
    · rename_i e; rw [if_neg e, upd_self r t x h]

def cclear (tab : List (Nat × TI)) (s : St) (d : Option Tmp) (t : TypeId) (x : Operand) : Option St :=
  match tdAt tab t, ev s x with
  | some (.sl e), some (.osl o off n) =>
    match assoc tab e, assoc s.heap o with
    | some ie, some ob =>
      if ob.sz = ie.size ∧ off + n * ie.size ≤ ob.cells.length then
        some (St.put { s with heap := upd s.heap o { ob with cells := cput ob.cells off (czeros ie.zero n) } } d (.tup []))
      else none
    | _, _ => none
  | some (.sl _), some .nilsl => some (s.put d (.tup []))
  | _, _ => none

theorem cclear_ok {tab : List (Nat × TI)} (ht : TabOk P tab) (h : RelAt C σ s a w) {o : Oper} {cl : Call} {t : TypeId} {x : Operand} (hd : ∀ t, o.dst = some t → t < a.tmps.size) (ho : o.op = .call cl) (hcl : cl.callee = .builtin .clear) (hargs : cl.args = #[x]) (hts : cl.argTypes = #[t])
    {s' : St} (hc : cclear tab s o.dst t x = some s') : ∃ z w', (execOp a.eval o).run P w = .ok (.value z) w' ∧ Rel C s' (a.put o.dst z) w' := by
  have hu0 : ∀ {w' : World} {d : Option Tmp} {s : St}, VR w' (FB C σ s.heap) σ (.tup []) (.tuple #[]) := fun {w' d s} => by
    simp only [VR]; exact ⟨[], rfl, rfl⟩
  unfold cclear at hc
  split at hc
  · rename_i e o' off n hd' hp
    obtain ⟨it, hit, hd'⟩ := Option.map_eq_some_iff.1 hd'
    split at hc
    · rename_i ie ob hie hob
      split at hc
      · rename_i hb
        obtain ⟨q1, q2⟩ := hb
        cases hc
        obtain ⟨f, z, g1, g2, _, g4, g5⟩ := (ht e ie hie).info
        obtain ⟨k1, k2⟩ := constCVs_ok (w := w) (F := FB C σ s.heap) _ _ g5
        have hu := und_sl (ht t it hit) hd'
        have hx := ev_ok h hp
        simp only [VR] at hx
        obtain ⟨B, hB, hx⟩ := hx
        obtain ⟨B0, e1, e2, e3, e4, e5⟩ := h.obj _ ob hob
        rw [hB] at e1; cases e1
        have hzl : (czeros ie.zero n).length = n * ie.size := by rw [czeros_length, (ht e ie hie).len]
        have none_case : n = 0 → upd s.heap o' { ob with cells := cput ob.cells off (czeros ie.zero n) } = s.heap := fun hn => by
          subst hn
          have : cput ob.cells off (czeros ie.zero 0) = ob.cells := by simp [cput, czeros]
          rw [this]; exact upd_self _ _ _ hob
        split at hx
        · obtain ⟨ex, rfl, rfl⟩ := hx
          rw [none_case rfl]
          refine ⟨.tuple #[], w, ?_, _, h.put hd (hu0 (d := none) (s := s))⟩
          simp only [execOp, ho, resolve, hcl, hargs, hts, Sem.run_bind, Sem.run_pure, Result.andThen_ok, invoke, builtin, Builtin.clear_, List.map_toArray, List.map_cons, List.map_nil]
          simp only [List.getElem?_toArray, List.getElem?_cons_zero, Sem.run_bind, run_und hu, ex, Result.andThen_ok, Sem.run_pure]
        · rename_i b hbb
          obtain ⟨cap, ex, c1, c2, c3, c4⟩ := hx
          obtain ⟨cur, n1, n2, n3, n4, n5, n6⟩ := e5 b hbb
          by_cases hn : n = 0
          · subst hn
            rw [none_case rfl]
            refine ⟨.tuple #[], w, ?_, _, h.put hd (hu0 (d := none) (s := s))⟩
            simp only [execOp, ho, resolve, hcl, hargs, hts, Sem.run_bind, Sem.run_pure, Result.andThen_ok, invoke, builtin, Builtin.clear_, List.map_toArray, List.map_cons, List.map_nil]
            simp only [List.getElem?_toArray, List.getElem?_cons_zero, Sem.run_bind, run_und hu, ex, Result.andThen_ok, Sem.run_pure]
          · have hsz : z.cells.size = ie.size := by rw [← (ht e ie hie).len, ← VRts.length _ _ k1]; simp
            have hz := zeros_ok (σ := σ) (VRs.of_tree _ _ k1) n
            have hz1 := zeros_one k2 n
            have hul : (Builtin.zeroCells z.cells n).toList = (madeCells z.cells (n * z.cells.size)).toList := rfl
            have hlen : (madeCells z.cells (n * z.cells.size)).toList.length = n * ie.size := by simp [size_madeCells, hsz]
            have hst := run_storeCells_at P b off ob.elem (madeCells z.cells (n * z.cells.size)).toList 0 cur w n1 (by rw [hlen]; omega) (VRs.one_cells _ _ hz1 hz)
            simp only [Nat.add_zero] at hst
            have hw := h.write hob hB hbb (cs' := cput ob.cells off (czeros ie.zero n)) (us' := cur.toList.take off ++ (madeCells z.cells (n * z.cells.size)).toList ++ cur.toList.drop (off + (madeCells z.cells (n * z.cells.size)).toList.length)) (by simp only [List.length_append, List.length_take, List.length_drop, hlen]; simp; omega)
              (by rw [cput_length _ _ _ (by omega)]; simp only [List.length_append, List.length_take, List.length_drop, hlen]; simp; omega) (by
                rw [cput_length _ _ _ (by omega)]
                have := cput_ok n6 off hz
                have ee : (cur.toList.take off ++ (madeCells z.cells (n * z.cells.size)).toList ++ cur.toList.drop (off + (madeCells z.cells (n * z.cells.size)).toList.length)).take ob.cells.length =
                    (cur.toList.take ob.cells.length).take off ++ (madeCells z.cells (n * z.cells.size)).toList ++ (cur.toList.take ob.cells.length).drop (off + (madeCells z.cells (n * z.cells.size)).toList.length) := by
                  have hcl : ob.cells.length ≤ cur.toList.length := by simpa using n5
                  generalize (madeCells z.cells (n * z.cells.size)).toList = vs at *
                  rw [List.take_append, List.take_append]
                  simp only [List.length_append, List.length_take, List.take_take, List.drop_take]
                  rw [Nat.min_eq_right (show off ≤ ob.cells.length by omega), Nat.min_eq_left (show off ≤ cur.toList.length by omega), List.take_of_length_le (show vs.length ≤ ob.cells.length - off by omega)]
                  congr 2
                  · rw [Nat.min_eq_left (show off ≤ ob.cells.length by omega)]
                rw [ee]
                exact this) (cput_one off e4 hz1)
            refine ⟨.tuple #[], _, ?_, _, hw.put hd (hu0 (d := none) (s := { s with heap := upd s.heap o' { ob with cells := cput ob.cells off (czeros ie.zero n) } }))⟩
            obtain ⟨m, rfl⟩ : ∃ m, n = m + 1 := ⟨n - 1, by omega⟩
            simp only [execOp, ho, resolve, hcl, hargs, hts, Sem.run_bind, Sem.run_pure, Result.andThen_ok, invoke, builtin, Builtin.clear_, List.map_toArray, List.map_cons, List.map_nil]
            simp only [List.getElem?_toArray, List.getElem?_cons_zero, Sem.run_bind, run_und hu, ex, Result.andThen_ok, run_zero g1 g4, hul, hst, Sem.run_pure]
      · cases hc
    · cases hc
  · rename_i e hd' hp
    obtain ⟨it, hit, hd'⟩ := Option.map_eq_some_iff.1 hd'
    cases hc
    have hu := und_sl (ht t it hit) hd'
    have ex := ev_ok h hp
    simp only [VR] at ex
    refine ⟨.tuple #[], w, ?_, _, h.put hd (hu0 (d := none) (s := s))⟩
    simp only [execOp, ho, resolve, hcl, hargs, hts, Sem.run_bind, Sem.run_pure, Result.andThen_ok, invoke, builtin, Builtin.clear_, List.map_toArray, List.map_cons, List.map_nil]
    simp only [List.getElem?_toArray, List.getElem?_cons_zero, Sem.run_bind, run_und hu, ex, Result.andThen_ok, Sem.run_pure]
  · cases hc
end

/-! ### One operation -/
def dstOk (nt : Nat) (d : Option Tmp) : Bool := match d with
  | some t => decide (t < nt)
  | none => true

def stepB (tab : List (Nat × TI)) (s : St) (d : Option Tmp) (c : Call) : Option St :=
  match c.callee with
  | .builtin .append => match c.args.toList, c.argTypes.toList with
    | [x, y], [t, t'] => if t = t' then cappend tab s d t x y else none
    | _, _ => none
  | .builtin .copy => match c.args.toList, c.argTypes.toList with
    | [x, y], [t, _] => ccopy tab s d t x y
    | _, _ => none
  | .builtin .clear => match c.args.toList, c.argTypes.toList with
    | [x], [t] => cclear tab s d t x
    | _, _ => none
  | .builtin b => (cbuiltin tab s b c.args.toList c.argTypes.toList).map (s.put d)
  | _ => none

def stepOp (tab : List (Nat × TI)) (s : St) (o : Oper) : Option St :=
  match o.op with
  | .store t x v => (cstore tab s t x v).map (·.del o.dst)
  | .makeSlice t l c => cmake tab s o.dst t l c
  | .alloc e => calloc tab s o.dst e
  | .box e x => cbox s o.dst e x
  | .buildSlice t len parts => cbuildSlice tab s o.dst t len parts.toList
  | .call c => stepB tab s o.dst c
  | op => (qval tab s op).map (s.put o.dst)

/-- Is a guard met? A guard whose own operation was skipped is not met. -/
def guardV (e : Option CV) (want : Bool) : Option Bool := match e with
  | some (.bool b) => some (b == want)
  | some (.tup []) => some false
  | _ => none
/-- With its guard. -/
def gstep (tab : List (Nat × TI)) (nt : Nat) (ops : Array Oper) (s : St) (o : Oper) : Option St :=
  if dstOk nt o.dst then
    match o.guard with
    | none => stepOp tab s o
    | some (j, want) => match (ops[j]?).bind (·.dst) with
      | none => none
      | some t => match guardV (assoc s.env t) want with
        | some true => stepOp tab s o
        | some false => some (s.put o.dst (.tup []))
        | none => none
  else none

def stepL (tab : List (Nat × TI)) (nt : Nat) (ops : Array Oper) : List Oper → St → Option St
  | [], s => some s
  | o :: r, s => match gstep tab nt ops s o with
    | some s' => stepL tab nt ops r s'
    | none => none

section
variable {P : Program} {C : Cx} {s : St} {a : Act} {w : World} {ops : Array Oper} {tab : List (Nat × TI)}

theorem stepOp_ok (ht : TabOk P tab) (h : Rel C s a w) {o : Oper} (hd : dstOk C.nt o.dst = true) {s' : St} (hs : stepOp tab s o = some s') :
    ∃ w', ((∃ z, (execOp a.eval o).run P w = .ok (.value z) w' ∧ Rel C s' (a.put o.dst z) w') ∨ ((execOp a.eval o).run P w = .ok .skip w' ∧ Rel C s' (a.put o.dst undef) w')) := by
  obtain ⟨σ, h⟩ := h
  have hd' : ∀ t, o.dst = some t → t < a.tmps.size := fun t e => by
    rw [h.tm]
    rw [e] at hd
    simpa [dstOk] using hd
  have quiet : ∀ c, qval tab s o.op = some c → s.put o.dst c = s' → ∃ w', ((∃ z, (execOp a.eval o).run P w = .ok (.value z) w' ∧ Rel C s' (a.put o.dst z) w') ∨ ((execOp a.eval o).run P w = .ok .skip w' ∧ Rel C s' (a.put o.dst undef) w')) := fun c hc e => by
    obtain ⟨z, k1, k2⟩ := qval_ok ht h o hc
    exact ⟨w, .inl ⟨z, k1, σ, e ▸ h.put hd' k2⟩⟩
  unfold stepOp at hs
  split at hs
  · rename_i t x v ho
    obtain ⟨s1, h1, rfl⟩ := Option.map_eq_some_iff.1 hs
    obtain ⟨w', k1, k2, _⟩ := cstore_ok ht h ho h1
    exact ⟨w', .inr ⟨k1, σ, k2.del undef⟩⟩
  · rename_i t l c ho
    obtain ⟨z, w', k1, k2⟩ := cmake_ok ht h hd' ho hs
    exact ⟨w', .inl ⟨z, k1, k2⟩⟩
  · rename_i e ho
    obtain ⟨z, w', k1, k2⟩ := calloc_ok ht h hd' ho hs
    exact ⟨w', .inl ⟨z, k1, k2⟩⟩
  · rename_i e x ho
    obtain ⟨z, w', k1, k2⟩ := cbox_ok (P := P) h hd' ho hs
    exact ⟨w', .inl ⟨z, k1, k2⟩⟩
  · rename_i t len parts ho
    obtain ⟨z, w', k1, k2⟩ := cbuildSlice_ok ht h hd' ho hs
    exact ⟨w', .inl ⟨z, k1, k2⟩⟩
  · rename_i cl ho
    unfold stepB at hs
    split at hs
    · rename_i hcl
      split at hs
      · rename_i x y t t' ha hts
        split at hs
        · rename_i e; subst e
          obtain ⟨z, w', _, k1, k2⟩ := cappend_ok ht h hd' ho hcl (by rw [← Array.toArray_toList (xs := cl.args), ha]) (by rw [← Array.toArray_toList (xs := cl.argTypes), hts]) hs
          exact ⟨w', .inl ⟨z, k1, _, k2⟩⟩
        · cases hs
      · cases hs
    · rename_i hcl
      split at hs
      · rename_i x y t t' ha hts
        obtain ⟨z, w', k1, k2⟩ := ccopy_ok ht h hd' ho hcl (by rw [← Array.toArray_toList (xs := cl.args), ha]) (by rw [← Array.toArray_toList (xs := cl.argTypes), hts]) hs
        exact ⟨w', .inl ⟨z, k1, k2⟩⟩
      · cases hs
    · rename_i hcl
      split at hs
      · rename_i x t ha hts
        obtain ⟨z, w', k1, k2⟩ := cclear_ok ht h hd' ho hcl (by rw [← Array.toArray_toList (xs := cl.args), ha]) (by rw [← Array.toArray_toList (xs := cl.argTypes), hts]) hs
        exact ⟨w', .inl ⟨z, k1, k2⟩⟩
      · cases hs
    · rename_i b _ _ _ hcl
      obtain ⟨c, hc, e⟩ := Option.map_eq_some_iff.1 hs
      exact quiet c (by rw [ho]; simp only [qval, hcl]; exact hc) e
    · cases hs
  · obtain ⟨c, hc, e⟩ := Option.map_eq_some_iff.1 hs
    exact quiet c hc e

theorem yielded_of (h : Rel C s a w) {j : Nat} {t : Tmp} {b : Bool} (hj : (ops[j]?).bind (·.dst) = some t) (he : assoc s.env t = some (.bool b)) : yielded ops a.tmps j = some b := by
  obtain ⟨σ, h⟩ := h
  obtain ⟨v, h1, h2⟩ := h.env t _ he
  simp only [VR] at h2
  subst h2
  simp [yielded, hj, h1]

theorem wanted_of (h : Rel C s a w) {o : Oper} {j : Nat} {want : Bool} {t : Tmp} {b : Bool} (hg : o.guard = some (j, want)) (hj : (ops[j]?).bind (·.dst) = some t) (he : guardV (assoc s.env t) want = some b) : Region.wanted o (yielded ops a.tmps) = b := by
  unfold guardV at he
  split at he
  · rename_i b' hb
    cases he
    simp [Region.wanted, hg, yielded_of h hj hb]
  · rename_i hb
    cases he
    obtain ⟨σ, h⟩ := h
    obtain ⟨v, h1, h2⟩ := h.env t _ hb
    simp only [VR] at h2
    obtain ⟨vs, rfl, h3⟩ := h2
    simp [Region.wanted, hg, yielded, hj, h1]
  · cases he
theorem Rel.skip (h : Rel C s a w) {d : Option Tmp} (hd : dstOk C.nt d = true) : Rel C (s.put d (.tup [])) (a.put d undef) w := by
  obtain ⟨σ, h⟩ := h
  refine ⟨σ, h.put (fun t e => ?_) ?_⟩
  · rw [h.tm]
    rw [e] at hd
    simpa [dstOk] using hd
  · exact ⟨[], rfl, rfl⟩

/-- A list of operations, from a canonical state: whatever comes behind is asked in the states of K. -/
def TL (P : Program) (C : Cx) (ops : Array Oper) (l : List Oper) (s : St) (K : St → Prop) : Prop :=
  ∀ a w (Q : Exit → Act → World → Prop), Rel C s a w → (∀ s' a' w', K s' → Rel C s' a' w' → Q .normal a' w') → wpList P ops Q l a w

theorem TL.nil {K : St → Prop} (h : K s) : TL P C ops [] s K := fun _ _ _ hr hQ => hQ _ _ _ h hr

theorem TL.step (ht : TabOk P tab) {o : Oper} {l : List Oper} {K : St → Prop} {s' : St} (hs : gstep tab C.nt ops s o = some s') (h : TL P C ops l s' K) : TL P C ops (o :: l) s K := by
  intro a w Q hr hQ
  have run : ∀ {s'}, dstOk C.nt o.dst = true → Region.wanted o (yielded ops a.tmps) = true → stepOp tab s o = some s' → TL P C ops l s' K → wpList P ops Q (o :: l) a w := fun {s'} hd hw hs h => by
    unfold wpList
    rw [if_pos hw]
    refine .inl ?_
    obtain ⟨w', h1 | h1⟩ := stepOp_ok ht hr hd hs
    · obtain ⟨z, k1, k2⟩ := h1
      unfold Oper.wp
      rw [k1]
      exact h _ _ Q k2 hQ
    · obtain ⟨k1, k2⟩ := h1
      unfold Oper.wp
      rw [k1]
      exact h _ _ Q k2 hQ
  unfold gstep at hs
  split at hs
  · rename_i hd
    split at hs
    · rename_i hg
      exact run hd (by simp [Region.wanted, hg]) hs h
    · rename_i j want hg
      split at hs
      · cases hs
      rename_i t hj
      split at hs
      · rename_i hb
        exact run hd (wanted_of hr hg hj hb) hs h
      · rename_i hb
        cases hs
        unfold wpList
        rw [if_neg (by simp [wanted_of hr hg hj hb])]
        exact h _ _ Q (hr.skip hd) hQ
      · cases hs
  · cases hs

theorem TL.run (ht : TabOk P tab) {K : St → Prop} : ∀ {l : List Oper} {s s' : St}, stepL tab C.nt ops l s = some s' → K s' → TL P C ops l s K
  | [], s, s', hs, hk => by simp only [stepL] at hs; cases hs; exact TL.nil hk
  | o :: l, s, s', hs, hk => by
    simp only [stepL] at hs
    split at hs
    · rename_i s1 h1
      exact TL.step ht h1 (TL.run ht hs hk)
    · cases hs

/-- Codes. -/
def T (P : Program) (C : Cx) (c : Code) (s : St) (Q : Exit → St → Prop) : Prop :=
  ∀ a w, Rel C s a w → c.wp P (fun e a' w' => ∃ s', Q e s' ∧ Rel C s' a' w') a w

/-- What follows a normal end, and the other ends. -/
def thenS (K : St → Prop) (Q : Exit → St → Prop) : Exit → St → Prop
  | .normal, s => K s
  | e, s => Q e s

theorem T.mono {c : Code} {Q Q' : Exit → St → Prop} (h : T P C c s Q) (hq : ∀ e s', Q e s' → Q' e s') : T P C c s Q' := fun a w hr =>
  wp_mono (h a w hr) fun e _ _ ⟨s', q, r⟩ => ⟨s', hq e s' q, r⟩

theorem T.region {id : Nat} {l : List Oper} {Q : Exit → St → Prop} (h : TL P C l.toArray l s (Q .normal)) : T P C (.region id l.toArray false) s Q := fun a w hr =>
  wp_region_lit (h a w _ hr fun s' _ _ hk hr' => ⟨s', hk, hr'⟩)

theorem T.seq {x y : Code} {Q : Exit → St → Prop} (h : T P C x s (thenS (fun s' => T P C y s' Q) Q)) : T P C (.seq x y) s Q := fun a w hr =>
  wp_seq (wp_mono (h a w hr) fun e a' w' ⟨s', q, r⟩ => by
    cases e with
    | normal => exact q a' w' r
    | _ => exact ⟨s', q, r⟩)

theorem T.cond {c : Operand} {x y : Code} {b : Bool} {Q : Exit → St → Prop} (hc : ev s c = some (.bool b)) (h : T P C (if b then x else y) s Q) : T P C (.cond c x y) s Q := fun a w hr => by
  have hr0 := hr
  obtain ⟨σ, hr'⟩ := hr0
  have := ev_ok hr' hc
  simp only [VR] at this
  exact wp_cond this (h a w hr)

theorem T.skip {Q : Exit → St → Prop} (h : Q .normal s) : T P C .skip s Q := fun _ _ hr => wp_skip ⟨s, h, hr⟩
theorem T.exit {id : Nat} {Q : Exit → St → Prop} (h : Q (.exit id) s) : T P C (.exit id) s Q := fun _ _ hr => wp_exit ⟨s, h, hr⟩
theorem T.ret {Q : Exit → St → Prop} (h : Q .ret s) : T P C .ret s Q := fun _ _ hr => wp_ret ⟨s, h, hr⟩
theorem T.label {l : Nat} {Q : Exit → St → Prop} (h : Q .normal s) : T P C (.label l) s Q := fun _ _ hr => wp_label ⟨s, h, hr⟩
theorem T.goto {l : Nat} {Q : Exit → St → Prop} (h : Q (.goto l) s) : T P C (.goto l) s Q := fun _ _ hr => wp_goto ⟨s, h, hr⟩

def blockS (id : Nat) (Q : Exit → St → Prop) : Exit → St → Prop
  | .exit i, s => if i = id then Q .normal s else Q (.exit i) s
  | e, s => Q e s

theorem T.block {id : Nat} {c : Code} {Q : Exit → St → Prop} (h : T P C c s (blockS id Q)) : T P C (.block id c) s Q := fun a w hr =>
  wp_block (wp_mono (h a w hr) fun e a' w' ⟨s', q, r⟩ => by
    cases e with
    | exit i =>
      simp only [Exit.inBlock, blockS] at q ⊢
      split
      · rename_i e; rw [if_pos e] at q; exact ⟨s', q, r⟩
      · rename_i e; rw [if_neg e] at q; exact ⟨s', q, r⟩
    | _ => exact ⟨s', q, r⟩)

theorem wp_loop_ix {c : Code} {Q : Exit → Act → World → Prop} (I : Nat → Act → World → Prop) {n : Nat} (h₀ : I n a w)
    (round : ∀ n a w, I n a w → c.wp P (Exit.then (fun a' w' => ∃ m, m < n ∧ I m a' w') Q) a w) : (Code.loop c).wp P Q a w := by
  classical
  have hx : ∀ a w, (∃ n, I n a w) → ∃ n, I n a w ∧ ∀ m, I m a w → n ≤ m := fun a w ⟨n, hn⟩ => by
    induction n using Nat.strongRecOn with
    | _ n ih =>
      by_cases h : ∃ m, m < n ∧ I m a w
      · obtain ⟨m, hm, hi⟩ := h; exact ih m hm hi
      · exact ⟨n, hn, fun m hm => Nat.le_of_not_lt fun hlt => h ⟨m, hlt, hm⟩⟩
  let μ : Act → World → Nat := fun a w => if h : ∃ n, I n a w then (hx a w h).choose else 0
  have hμ : ∀ a w (h : ∃ n, I n a w), I (μ a w) a w ∧ ∀ m, I m a w → μ a w ≤ m := fun a w h => by
    simp only [μ, dif_pos h]; exact (hx a w h).choose_spec
  refine wp_loop (fun a w => ∃ n, I n a w) μ ⟨n, h₀⟩ fun a w hI => ?_
  refine wp_mono (round (μ a w) a w (hμ a w hI).1) fun e a' w' q => ?_
  cases e with
  | normal =>
    obtain ⟨m, hm, hi⟩ := q
    exact ⟨⟨m, hi⟩, Nat.lt_of_le_of_lt ((hμ a' w' ⟨m, hi⟩).2 m hi) hm⟩
  | _ => exact q

/-- A loop: I n: at most n rounds more. -/
theorem T.loop {c : Code} {Q : Exit → St → Prop} (I : Nat → St → Prop) {n : Nat} (h₀ : I n s) (round : ∀ n s, I n s → T P C c s (thenS (fun s' => ∃ m, m < n ∧ I m s') Q)) : T P C (.loop c) s Q := fun a w hr =>
  wp_loop_ix (fun n a w => ∃ s, I n s ∧ Rel C s a w) ⟨s, h₀, hr⟩ fun n a w ⟨s, hi, hr⟩ => wp_mono (round n s hi a w hr) fun e a' w' ⟨s', q, r⟩ => by
    cases e with
    | normal => obtain ⟨m, hm, hi⟩ := q; exact ⟨m, hm, s', hi, r⟩
    | _ => exact ⟨s', q, r⟩
end
end Go.Can
