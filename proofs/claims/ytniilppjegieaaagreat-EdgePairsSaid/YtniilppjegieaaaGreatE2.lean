/- Contracts for EdgePairs: the reference's Pairs. -/
import Derived.Test.YtniilppjegieaaaGreatE1
import Derived.Test.YtniilppjegieaaaGreatCan34
namespace Go.Can
open Go.RowKit
section
variable {P : Program} {C : Cx} {s : St} {ops : Array Oper} {tab : List (Nat × TI)}
/-- A nil slice is a slice without elements. -/
theorem Le.nil0 {s : St} (t : Nat) (h : assoc s.env t = some .nilsl) : Le C s { s with env := upd s.env t (.tsl [] 0) } := by
  intro a w ⟨σ, hr⟩
  refine ⟨σ, hr.dfr, hr.tm, hr.os, hr.tape, hr.output, hr.size, hr.frame, fun u c hc => ?_, hr.obj, hr.inj, hr.nx, hr.old, hr.low, hr.new⟩
  rw [assoc_upd] at hc
  split at hc
  · rename_i e
    subst e
    rw [h] at hc
    cases hc
    obtain ⟨v, k1, k2⟩ := hr.env _ _ h
    simp only [VR] at k2
    subst k2
    exact ⟨_, k1, by simp only [VR, VRt]; exact ⟨none, 0, rfl, Nat.le_refl _, Nat.zero_le _, .inl ⟨trivial, trivial⟩⟩⟩
  · exact hr.env u c hc
def oN : Option CV → List Nat
  | some v => namesL v
  | none => []
def oNO (s : St) : Option Operand → List Nat
  | some x => oN (ev s x)
  | none => []
theorem rds_eq (s : St) (op : Op) : rds s op = op.operands.toList.flatMap fun x => oN (ev s x) := rfl
theorem rds_load (s : St) (t : TypeId) (x : Operand) : rds s (.load t x) = oN (ev s x) := by
  rw [rds_eq]
  exact List.append_nil _
theorem rds_slice (s : St) (t : TypeId) (x : Operand) (a b c : Option Operand) : rds s (.slice t x a b c) = oN (ev s x) ++ oNO s a ++ oNO s b ++ oNO s c := by
  rw [rds_eq]
  cases a <;> cases b <;> cases c <;> simp [Op.operands, oNO]
def noCall : Caller := fun _ _ _ _ => none
def noPure : FuncId → List CV → Option CV := fun _ _ => none
def kX (Q : Exit → St → Prop) : Option St → Prop
  | some s => Q .normal s
  | none => False
@[congr] theorem kX_congr {Q : Exit → St → Prop} {o o' : Option St} (h : o = o') : kX Q o = kX Q o' := by rw [h]
/-- A region without calls, by one order. -/
theorem T.trace' (ht : TabOk P tab) (hm : P.follows .mixedOrders = true) {id : Nat} {l : List Oper} {Q : Exit → St → Prop} (ord : List Nat) (dyn : List (Nat × Nat)) (hS : traceS l.toArray ord dyn = true) (h : kX Q (xdraw tab [] C.nt l.toArray noCall noPure ord dyn s)) : T P C (.region id l.toArray true) s Q := by
  cases hx : xdraw tab [] C.nt l.toArray noCall noPure ord dyn s with
  | none => rw [hx] at h; exact h.elim
  | some s' =>
    rw [hx] at h
    refine T.mono (T.trace ht (mt := []) (fun x hx => by cases hx) (call := noCall) (fun _ _ _ _ _ _ _ h => by cases h) (pc := noPure) (fun _ _ _ h => by cases h) hm hS hx) ?_
    rintro e x ⟨rfl, rfl⟩
    exact h
end
end Go.Can
namespace Go.Proofs.YtniilppjegieaaaGreat
open Go.Can

abbrev Ed := Int × Int × Int × Int
def edC (e : Ed) : List CV := [.int .i64 e.1, .int .i64 e.2.1, .int .i64 e.2.2.1, .int .i64 e.2.2.2]
def edg (l : List Ed) : CV := .tsl (l.flatMap edC) l.length
theorem drop_ed : ∀ (l : List Ed) (i : Nat) (e : Ed), l[i]? = some e → (l.flatMap edC).drop (i * 4) = edC e ++ (l.drop (i + 1)).flatMap edC
  | [], i, e, h => by simp at h
  | a :: r, 0, e, h => by
    simp only [List.getElem?_cons_zero, Option.some.injEq] at h
    subst h
    simp
  | a :: r, i + 1, e, h => by
    simp only [List.getElem?_cons_succ] at h
    have := drop_ed r i e h
    rw [show (i + 1) * 4 = 4 + i * 4 by omega, ← List.drop_drop]
    simpa [edC] using this
def row (p : Int × Int) : CV := ints [p.1, p.2]
@[simp] theorem frz_row (o : Nat) (cs : List CV) (n : Nat) (p : Int × Int) : frzV o cs n (row p) = row p := by simp [row]
@[simp] theorem frz_c_row (o : Nat) (cs : List CV) (n : Nat) : frzV o cs n ∘ row = row := funext fun p => frz_row o cs n p
@[simp] theorem tree_row (p : Int × Int) : tree (row p) = true := by simp [row, ints]
@[simp] theorem noRef_row (o : Nat) (p : Int × Int) : noRef o (row p) = true := by simp [row, ints]
theorem tree_rows {ps : List (Int × Int)} {x : CV} (h : x ∈ ps.map row) : tree x = true := by
  obtain ⟨p, _, rfl⟩ := List.mem_map.1 h
  exact tree_row p
def prs (ps : List (Int × Int)) : CV := .tsl (ps.map row) ps.length
def ltP (p q : Int × Int) : Bool := decide (p.1 < q.1) || (p.1 == q.1 && decide (p.2 < q.2))
/-- How many of the first ones are less. -/
def cnt (p : Int × Int) (ps : List (Int × Int)) : Nat := (ps.takeWhile fun q => ltP q p).length
def insP (ps : List (Int × Int)) (p : Int × Int) : List (Int × Int) := if ps[cnt p ps]? = some p then ps else ps.take (cnt p ps) ++ p :: ps.drop (cnt p ps)
def refP (l : List Ed) : List (Int × Int) := l.foldl (fun ps e => insP ps (e.1, e.2.1)) []
theorem cnt_eq {p : Int × Int} : ∀ (ps : List (Int × Int)) (k : Nat), k ≤ ps.length → (∀ j q, j < k → ps[j]? = some q → ltP q p = true) → (∀ q, ps[k]? = some q → ltP q p = false) → cnt p ps = k
  | [], k, hk, _, _ => by simp [cnt]; simp at hk; omega
  | a :: r, 0, _, _, h => by
    have := h a rfl
    simp [cnt, this]
  | a :: r, k + 1, hk, h1, h2 => by
    have ha := h1 0 a (by omega) rfl
    have := cnt_eq r k (by simpa using hk) (fun j q hj hq => h1 (j + 1) q (by omega) (by simpa using hq)) (fun q hq => h2 q (by simpa using hq))
    simp only [cnt] at this ⊢
    simp [ha, this]

theorem insP_len (ps : List (Int × Int)) (p : Int × Int) : (insP ps p).length ≤ ps.length + 1 := by
  unfold insP
  split
  · omega
  · simp; omega
theorem refP_len : ∀ (l : List Ed) (n : Nat), l.length ≤ n → (refP l).length ≤ n := by
  have : ∀ (l : List Ed) (ps : List (Int × Int)), (l.foldl (fun ps e => insP ps (e.1, e.2.1)) ps).length ≤ ps.length + l.length := by
    intro l
    induction l with
    | nil => intro ps; simp
    | cons a r ih =>
      intro ps
      have h1 := ih (insP ps (a.1, a.2.1))
      have h2 := insP_len ps (a.1, a.2.1)
      simp only [List.foldl_cons, List.length_cons]
      omega
  intro l n hn
  have := this l []
  simp only [refP, List.length_nil] at this ⊢
  omega

def b6 (k : Nat) (e : Ed) (ps : List (Int × Int)) : Bool := match ps[k]? with
  | some q => ltP q (e.1, e.2.1)
  | none => false
def b8 (k : Nat) (e : Ed) (ps : List (Int × Int)) : Bool := match ps[k]? with
  | some q => q.1 == e.1 && q.2 == e.2.1
  | none => false
def Hl (k : Nat) (ps : List (Int × Int)) (p : Int × Int) : Prop := ∀ j q, j < k → ps[j]? = some q → ltP q p = true
def J6 (k i : Nat) (e : Ed) (ps : List (Int × Int)) (l : List Ed) : St → Prop := fun s => s = ⟨[(57, .bool (b6 k e ps)), (5, .int .i64 k), (4, .int .i64 i), (3, prs ps), (0, edg l)], [], 0⟩
def J8 (k i : Nat) (e : Ed) (ps : List (Int × Int)) (l : List Ed) : St → Prop := fun s => s = ⟨[(91, .bool (b8 k e ps)), (5, .int .i64 k), (4, .int .i64 i), (3, prs ps), (0, edg l)], [], 0⟩

set_option maxHeartbeats 8000000 in
set_option maxRecDepth 10000 in
theorem c8_ok (l : List Ed) (hl : l.length ≤ 1000000) : PureCall Tryz.prog 8 [edg l] (prs (refP l)) := by
  refine PureCall.of_TLe tabOk Tryz.func8 rfl (by kernel_rfl) (by simp [Tryz.ntmps8]) rfl fun C hC hC0 => ?_
  rw [Tryz.ntmps8] at hC
  refine T.seq (T.go' tabOk ?_)
  simp [hC]
  refine T.seq (T.go' tabOk ?_)
  simp [hC]
  refine T.seq (T.seq (T.go' tabOk ?_))
  simp [hC, edg]
  refine T.block ?_
  refine T.loopLe (fun m s => ∃ i : Nat, m = l.length - i ∧ i ≤ l.length ∧ s = ⟨[(4, .int .i64 i), (3, prs (refP (l.take i))), (0, edg l)], [], 0⟩) (n := l.length) ?_ ?_
  · refine upTo.le (Le.nil0 3 rfl) (upTo.trim [4, 3, 0] [] 0 rfl (by omega) ⟨0, rfl, Nat.zero_le _, ?_⟩)
    simp [prs, refP, edg]
  · rintro n s ⟨i, rfl, hi, rfl⟩
    generalize hps : refP (l.take i) = ps
    refine T.seq (T.seq (T.go' tabOk ?_))
    simp [hC, edg, prs]
    refine T.cond_if rfl (fun h => ?_) (fun h => ?_)
    · have hil : i < l.length := by simpa using h
      obtain ⟨e, he⟩ : ∃ e, l[i]? = some e := ⟨l[i], List.getElem?_eq_getElem hil⟩
      have hd := drop_ed l i e he
      refine T.skip ?_
      simp
      have hlen : ps.length ≤ i := by rw [← hps]; exact refP_len _ _ (by simp; omega)
      refine T.seq (T.block (T.seq (T.go' tabOk ?_)))
      simp [hC]
      refine T.seq (T.block ?_)
      refine T.loopLe (fun m s => ∃ k : Nat, m = ps.length - k ∧ k ≤ ps.length ∧ Hl k ps (e.1, e.2.1) ∧ s = ⟨[(5, .int .i64 k), (4, .int .i64 i), (3, prs ps), (0, edg l)], [], 0⟩) (n := ps.length) ?_ ?_
      · refine upTo.trim [5, 4, 3, 0] [] 0 rfl (by omega) ⟨0, rfl, Nat.zero_le _, fun j q hj => absurd hj (Nat.not_lt_zero _), ?_⟩
        simp [prs, edg]
      · rintro n s ⟨k, rfl, hk, hlt, rfl⟩
        refine T.seq (T.cut (J6 k i e ps l) ?_ ?_)
        · refine T.draw' tabOk follows [] [0, 1, 2, 3, 4, 5, 6, 7, 8, 9, 10, 11, 12, 13, 14, 15, 16, 17, 18, 19, 20, 21, 22, 23, 24, 25, 26, 27, 28, 29, 30, 31, 32, 33, 34, 35, 36, 37, 38, 39, 40, 41, 42, 43, 44, 45] [] (by kernel_rfl) ?_
          by_cases hkl : k < ps.length
          · have hq : ps[k]? = some ps[k] := List.getElem?_eq_getElem hkl
            by_cases h1 : ps[k].1 < e.1
            · simp [hC, prs, edg, hkl, hil, hd, edC, row, ints, h1]
              refine upTo.le (Le.env [57, 5, 4, 3, 0]) (upTo.here ?_)
              simp [J6, J8, b6, b8, ltP, prs, edg, row, ints, edC, hkl, h1]
            · by_cases h2 : ps[k].1 = e.1
              · by_cases h3 : ps[k].2 < e.2.1
                · simp [hC, prs, edg, hkl, hil, hd, edC, row, ints, h2, h3]
                  refine upTo.le (Le.env [57, 5, 4, 3, 0]) (upTo.here ?_)
                  simp [J6, J8, b6, b8, ltP, prs, edg, row, ints, edC, hkl, h1, h2, h3]
                · simp [hC, prs, edg, hkl, hil, hd, edC, row, ints, h2, h3]
                  refine upTo.le (Le.env [57, 5, 4, 3, 0]) (upTo.here ?_)
                  simp [J6, J8, b6, b8, ltP, prs, edg, row, ints, edC, hkl, h1, h2, h3]
              · have h2' : (ps[k].1 == e.1) = false := by simpa using h2
                simp [hC, prs, edg, hkl, hil, hd, edC, row, ints, h1, h2, h2']
                refine upTo.le (Le.env [57, 5, 4, 3, 0]) (upTo.here ?_)
                simp [J6, J8, b6, b8, ltP, prs, edg, row, ints, edC, hkl, h1, h2, h2']
          · have hke : k = ps.length := by omega
            subst hke
            simp [hC, prs, edg, edC, row, ints]
            refine upTo.le (Le.env [57, 5, 4, 3, 0]) (upTo.here ?_)
            simp [J6, J8, b6, b8, ltP, prs, edg, row, ints, edC]
        · rintro s rfl
          refine T.cond_if rfl (fun h => ?_) (fun h => ?_)
          · refine T.skip ?_
            simp
            have hkl : k < ps.length := by
              by_cases hkl : k < ps.length
              · exact hkl
              · rw [b6, List.getElem?_eq_none (by omega)] at h; simp at h
            have hw := w64 ((k : Int) + 1) (by omega) (by omega)
            refine T.block (T.go' tabOk ?_)
            simp [hC, hw]
            refine ⟨_, ?_, upTo.trim [5, 4, 3, 0] [] 0 rfl (by omega) ⟨k + 1, rfl, hkl, ?_, ?_⟩⟩
            · omega
            · intro j q hj hq
              by_cases e1 : j = k
              · subst e1
                rw [b6, hq] at h
                simpa using h
              · exact hlt j q (by omega) hq
            · simp [prs, edg]
          · refine T.exit ?_
            simp
            have hcnt : cnt (e.1, e.2.1) ps = k := cnt_eq ps k hk hlt fun q hq => by
              rw [b6, hq] at h
              simpa using h
            have hw := w64 ((i : Int) + 1) (by omega) (by omega)
            have hnext : refP (l.take (i + 1)) = insP ps (e.1, e.2.1) := by
              rw [List.take_add_one, he]
              simp [refP, ← hps]
            refine T.seq (T.cut (J8 k i e ps l) ?_ ?_)
            · refine T.draw' tabOk follows [] [0, 1, 2, 3, 4, 5, 6, 7, 8, 9, 10, 11, 12, 13, 14, 15, 16, 17, 18, 19, 20, 21, 22, 23, 24, 25, 26, 27, 28, 29, 30, 31] [] (by kernel_rfl) ?_
              by_cases hkl : k < ps.length
              · by_cases h1 : ps[k].1 = e.1
                · simp [hC, prs, edg, hkl, hil, hd, edC, row, ints, h1]
                  refine upTo.le (Le.env [91, 5, 4, 3, 0]) (upTo.here ?_)
                  simp [J8, b8, prs, edg, row, ints, edC, hkl, h1]
                · have h1' : (ps[k].1 == e.1) = false := by simpa using h1
                  simp [hC, prs, edg, hkl, hil, hd, edC, row, ints, h1, h1']
                  refine upTo.le (Le.env [91, 5, 4, 3, 0]) (upTo.here ?_)
                  simp [J8, b8, prs, edg, row, ints, edC, hkl, h1, h1']
              · have hke : k = ps.length := by omega
                subst hke
                simp [hC, prs, edg, edC, row, ints]
                refine upTo.le (Le.env [91, 5, 4, 3, 0]) (upTo.here ?_)
                simp [J8, b8, prs, edg, row, ints, edC]
            · rintro s rfl
              refine T.cond_if rfl (fun h8 => ?_) (fun h8 => ?_)
              · refine T.exit ?_
                simp
                refine T.go' tabOk ?_
                simp [hC, hw]
                refine ⟨_, ?_, upTo.trim [4, 3, 0] [] 0 rfl (by omega) ⟨i + 1, rfl, hil, ?_⟩⟩
                · omega
                · have hin : insP ps (e.1, e.2.1) = ps := by
                    unfold insP
                    rw [hcnt, if_pos]
                    unfold b8 at h8
                    split at h8
                    · rename_i q hq
                      simp at h8
                      rw [hq, ← h8.1, ← h8.2]
                    · simp at h8
                  simp [prs, edg, hnext, hin]
              · refine T.skip ?_
                simp
                have hin : insP ps (e.1, e.2.1) = ps.take k ++ (e.1, e.2.1) :: ps.drop k := by
                  unfold insP
                  rw [hcnt, if_neg]
                  intro hq
                  rw [b8, hq] at h8
                  simp at h8
                refine T.trace' tabOk follows [0, 1, 2, 3, 4, 5, 6, 7, 8, 9, 10, 11, 12, 13, 14, 15, 16, 17, 18, 19, 20, 21, 22] [(17, 20), (16, 20), (15, 20), (4, 20), (4, 16), (4, 15), (4, 14), (4, 9), (3, 16), (3, 15), (0, 20), (0, 16), (0, 15), (0, 14), (0, 9), (0, 3)] (by kernel_rfl) ?_
                have m1 : min k ps.length = k := Nat.min_eq_left hk
                have m2 : k * 24 ≤ 140737488355328 := by omega
                have m3 : (k + 1) * 24 ≤ 140737488355328 := by omega
                have m4 : (k + 1 + (ps.length - k)) * 24 ≤ 140737488355328 := by omega
                have m5 : ps.length - k ≤ ps.length := by omega
                have m6 : ((ps.map row).drop k).take (ps.length - k) = (ps.map row).drop k := List.take_of_length_le (by simp)
                simp [xdraw, trun, eff1, hC, guardS, userCall, callTo, aval2, aval, rdsQ, rds_load, rds_slice, oN, oNO, namesL, appCore, obOf, rmL, apS, putR, applyW, cells?, prs, edg, hil, hk, hd, edC, m1, m2, m3, m4]
                rw [if_pos (by simp [dynB, indB, rngB, assoc])]
                simp [kX]
                refine T.go' tabOk ?_
                simp [hC, hw]
                refine ⟨l.length - (i + 1), by omega, upTo.le (Le.env [4, 3, 0]) ?_⟩
                simp
                refine upTo.le (Le.frz (o := 15) (ob := ⟨3, 1, [.int .i64 e.1, .int .i64 e.2.1]⟩) (by simp) (by simp)) ?_
                simp
                refine upTo.le (Le.frz (o := 25) (ob := ⟨31, 1, ps.take k |>.map row |> (· ++ row (e.1, e.2.1) :: (ps.drop k).map row)⟩) ?_ ?_) ?_
                · simp [row, ints, m6]
                · simp
                  exact ⟨fun x hx => tree_rows (List.mem_of_mem_take hx), fun x hx => tree_rows (List.mem_of_mem_drop hx)⟩
                · refine upTo.trim [4, 3, 0] [] 0 (by simp [m6]) (by simp [hC0]) ⟨i + 1, rfl, hil, ?_⟩
                  simp [prs, edg, hnext, hin, m6, m1]
                  exact ⟨List.take_of_length_le (by simp; omega), by omega⟩
    · refine T.exit ?_
      have hil : i = l.length := by
        have : ¬ i < l.length := by simpa using h
        omega
      subst hil
      simp at hps
      simp [hC, hps]
      refine T.seq (T.go' tabOk ?_)
      simp [hC]
      refine T.ret ?_
      refine upTo.here ?_
      simp [Tryz.results8, prs]
end Go.Proofs.YtniilppjegieaaaGreat
