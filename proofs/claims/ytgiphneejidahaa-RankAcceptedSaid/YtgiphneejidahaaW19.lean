/- rank.Check, the reference's direct and CheckRank. -/
import Derived.Test.YtgiphneejidahaaW18
namespace Go.Proofs.Ytgiphneejidahaa
open Go.Can

def dirB (n : Int) (ps : List (List Int)) (a b : Int) : Bool := ps.any fun p => arrowB n p && decide (p = [a, b])
def riseB (r : List Int) (p : List Int) : Bool := decide (r.getD (p.getD 0 0).toNat 0 < r.getD (p.getD 1 0).toNat 0)
def checkB (n : Int) (ps : List (List Int)) (r : List Int) : Bool := decide (r.length = nn n) && (edgesOf (nn n) ps).all (riseB r)
theorem any_step {α : Type} (p : α → Bool) (l : List α) (i : Nat) (h : i < l.length) : (l.drop i).any p = (p l[i] || (l.drop (i + 1)).any p) := by
  rw [List.drop_eq_getElem_cons h, List.any_cons]
theorem all_step {α : Type} (p : α → Bool) (l : List α) (i : Nat) (h : i < l.length) : (l.drop i).all p = (p l[i] && (l.drop (i + 1)).all p) := by
  rw [List.drop_eq_getElem_cons h, List.all_cons]

set_option maxHeartbeats 4000000 in
set_option maxRecDepth 10000 in
theorem c44_ok (n : Int) (ps : List (List Int)) (x y : Int) (hl : ps.length ≤ 1000000) : PureCall Try.prog 44 [.int .i64 n, intss ps, .int .i64 x, .int .i64 y] (.bool (dirB n ps x y)) := by
  refine PureCall.of_TLe Try.func44 rfl (by kernel_rfl) (by simp [Try.ntmps44]) rfl fun C hC => ?_
  rw [Try.ntmps44] at hC
  refine T.seq (T.go' tabOk ?_)
  simp [hC]
  refine T.seq (T.seq (T.go' tabOk ?_))
  simp [hC]
  refine T.block ?_
  refine T.loopLe (fun m s => ∃ i : Nat, m = ps.length - i ∧ i ≤ ps.length ∧ dirB n ps x y = (ps.drop i).any (fun p => arrowB n p && decide (p = [x, y])) ∧ s = ⟨[(9, .int .i64 i), (0, .int .i64 n), (1, intss ps), (2, .int .i64 x), (3, .int .i64 y)], [], 0⟩) (n := ps.length) ?_ ?_
  · refine upTo.le (Le.env [9, 0, 1, 2, 3]) (upTo.here ⟨0, rfl, Nat.zero_le _, ?_, ?_⟩)
    · simp [dirB]
    · simp [intss]
  · rintro w s ⟨i, rfl, hi, hd, rfl⟩
    refine T.seq (T.seq (T.go' tabOk ?_))
    simp [hC, intss]
    refine T.cond_if rfl (fun h => ?_) (fun h => ?_)
    · have hip : i < ps.length := by simpa using h
      have hw := w64 ((i : Int) + 1) (by omega) (by omega)
      rw [any_step _ ps i hip] at hd
      have ep : ps[i]? = some ps[i] := List.getElem?_eq_getElem hip
      generalize hpi : ps[i] = p at *
      refine T.skip ?_
      simp
      refine T.le (Le.env [9, 0, 1, 2, 3]) ?_
      simp
      refine T.seq (T.block (T.cut (fun s => s = ⟨[(41, .bool (arrowB n p && decide (p = [x, y]))), (9, .int .i64 i), (0, .int .i64 n), (1, intss ps), (2, .int .i64 x), (3, .int .i64 y)], [], 0⟩) (T.go' tabOk ?_) ?_))
      · simp [hC, intss, hip, hpi]
        refine TL.call (by simp [hC]) rfl rfl (CallQ.of rfl rfl (c41_ok n p)) (TL.go' tabOk ?_)
        cases har : arrowB n p
        · simp [hC]
          refine upTo.le (Le.env [41, 9, 0, 1, 2, 3]) (upTo.here ?_)
          simp
        · have htwo : ∃ a b, p = [a, b] := by
            unfold arrowB at har
            split at har
            · exact ⟨_, _, rfl⟩
            · cases har
          obtain ⟨a, b, rfl⟩ := htwo
          by_cases hax : a = x
          · simp [hC, hip, hpi, ints, hax]
            refine upTo.le (Le.env [41, 9, 0, 1, 2, 3]) (upTo.here ?_)
            simp [Bool.beq_eq_decide_eq]
          · have hax' : (a == x) = false := by simp [hax]
            simp [hC, hip, hpi, ints, hax']
            refine upTo.le (Le.env [41, 9, 0, 1, 2, 3]) (upTo.here ?_)
            simp [hax]
      · rintro s rfl
        refine T.cond_if rfl (fun h => ?_) (fun h => ?_)
        · rw [h, Bool.true_or] at hd
          refine T.seq (T.go' tabOk ?_)
          simp [hC]
          refine T.ret ?_
          refine upTo.here ?_
          simp [Try.results44, hd]
        · rw [h, Bool.false_or] at hd
          refine T.skip ?_
          simp
          refine T.go' tabOk ?_
          simp [hC, hw]
          refine ⟨_, ?_, upTo.le (Le.env [9, 0, 1, 2, 3]) (upTo.here ⟨i + 1, rfl, hip, hd, ?_⟩)⟩
          · omega
          · simp [intss]
    · have hip : i = ps.length := by simp at h; omega
      rw [hip, List.drop_length, List.any_nil] at hd
      refine T.exit ?_
      simp
      refine T.seq (T.go' tabOk ?_)
      simp [hC]
      refine T.ret ?_
      refine upTo.here ?_
      simp [Try.results44, hd]

set_option maxHeartbeats 4000000 in
set_option maxRecDepth 10000 in
theorem c34_ok (n : Int) (ps : List (List Int)) (r : List Int) (hl : ps.length ≤ 1000000) : PureCall Try.prog 34 [.int .i64 n, intss ps, ints r] (.bool (checkB n ps r)) := by
  refine PureCall.of_TLe Try.func34 rfl (by kernel_rfl) (by simp [Try.ntmps34]) rfl fun C hC => ?_
  rw [Try.ntmps34] at hC
  refine T.seq (T.go' tabOk ?_)
  simp [hC]
  refine T.seq (T.go' tabOk ?_)
  simp [hC]
  refine TL.call (by simp [hC]) rfl rfl (CallQ.of rfl rfl (c42_ok n)) (TL.go' tabOk ?_)
  have hk64 := nn_le n
  unfold checkB
  generalize nn n = k at *
  simp [hC]
  refine T.seq (T.seq (T.go' tabOk ?_))
  simp [hC, ints]
  refine T.cond_if rfl (fun h => ?_) (fun h => ?_)
  · have hne : r.length ≠ k := by simp at h; omega
    refine T.seq (T.go' tabOk ?_)
    simp [hC]
    refine T.ret ?_
    refine upTo.here ?_
    simp [Try.results34, hne]
  · have heq : r.length = k := by simp at h; omega
    subst heq
    refine T.skip ?_
    simp
    refine T.seq (T.seq (T.go' tabOk ?_))
    simp [hC]
    refine TL.call (by simp [hC]) rfl rfl (CallQ.of rfl rfl (c43_ok r.length ps hl)) (TL.go' tabOk ?_)
    have hes : ∀ p ∈ edgesOf r.length ps, ∃ a b : Nat, p = [(a : Int), (b : Int)] ∧ a < r.length ∧ b < r.length := fun p hp => arrow_nat r.length p (List.mem_filter.1 hp).2
    have hel : (edgesOf r.length ps).length ≤ ps.length := List.length_filter_le _ _
    generalize edgesOf r.length ps = es at *
    simp [hC, intss]
    refine T.block ?_
    refine T.loopLe (fun m s => ∃ i : Nat, m = es.length - i ∧ i ≤ es.length ∧ es.all (riseB r) = (es.drop i).all (riseB r) ∧ s = ⟨[(19, .int .i64 i), (18, .int .i64 es.length), (17, intss es), (2, ints r)], [], 0⟩) (n := es.length) ?_ ?_
    · refine upTo.le (Le.env [19, 18, 17, 2]) (upTo.here ⟨0, rfl, Nat.zero_le _, ?_, ?_⟩)
      · simp
      · simp [intss, ints]
    · rintro w s ⟨i, rfl, hi, hd, rfl⟩
      refine T.seq (T.go' tabOk ?_)
      simp [hC]
      refine T.seq (T.cond_if rfl (fun h => ?_) (fun h => ?_))
      · have hip : i < es.length := by simpa using h
        have hw := w64 ((i : Int) + 1) (by omega) (by omega)
        rw [all_step _ es i hip] at hd
        have ep : es[i]? = some es[i] := List.getElem?_eq_getElem hip
        obtain ⟨a, b, hab, ha, hb⟩ := hes _ (List.getElem_mem hip)
        generalize hpi : es[i] = p at *
        subst hab
        have ea : r[a]? = some r[a] := List.getElem?_eq_getElem ha
        have eb : r[b]? = some r[b] := List.getElem?_eq_getElem hb
        have hrb : riseB r [(a : Int), (b : Int)] = decide (r[a] < r[b]) := by simp [riseB, List.getD, ea, eb]
        generalize hra : r[a] = ra at *
        generalize hrb' : r[b] = rb at *
        refine T.skip ?_
        simp
        refine T.seq (T.block (T.seq (T.go' tabOk ?_)))
        simp [hC, intss, hip, hpi]
        refine T.seq (T.draw' tabOk follows [] [0, 1, 2, 3, 4, 5, 6, 7, 8, 9, 10, 11, 12] [] (by kernel_rfl) ?_)
        simp [hC, ints, ha, hb, hra, hrb']
        refine T.cond_if rfl (fun h => ?_) (fun h => ?_)
        · have hle : rb ≤ ra := by simpa using h
          have hf : riseB r [(a : Int), (b : Int)] = false := by rw [hrb]; simp; omega
          rw [hf, Bool.false_and] at hd
          refine T.seq (T.go' tabOk ?_)
          simp [hC]
          refine T.ret ?_
          refine upTo.here ?_
          simp [Try.results34, hd]
        · have hle : ¬ rb ≤ ra := by simpa using h
          have hf : riseB r [(a : Int), (b : Int)] = true := by rw [hrb]; simp; omega
          rw [hf, Bool.true_and] at hd
          refine T.skip ?_
          simp
          refine T.go' tabOk ?_
          simp [hC, hw]
          refine ⟨_, ?_, upTo.le (Le.env [19, 18, 17, 2]) (upTo.here ⟨i + 1, rfl, hip, hd, ?_⟩)⟩
          · omega
          · simp
      · have hip : i = es.length := by simp at h; omega
        rw [hip, List.drop_length, List.all_nil] at hd
        refine T.exit ?_
        simp
        refine T.seq (T.go' tabOk ?_)
        simp [hC]
        refine T.ret ?_
        refine upTo.here ?_
        simp [Try.results34, hd]

def riseFrom (k : Nat) (ps : List (List Int)) (r : List Int) (i : Nat) : Bool := ((ps.drop i).filter (arrowB k)).all (riseB r)
theorem riseFrom_zero (k : Nat) (ps : List (List Int)) (r : List Int) : (edgesOf k ps).all (riseB r) = riseFrom k ps r 0 := by simp [riseFrom, edgesOf]
theorem riseFrom_end (k : Nat) (ps : List (List Int)) (r : List Int) : riseFrom k ps r ps.length = true := by simp [riseFrom]
theorem riseFrom_step (k : Nat) (ps : List (List Int)) (r : List Int) (i : Nat) (h : i < ps.length) : riseFrom k ps r i = (!(arrowB k ps[i] && !riseB r ps[i]) && riseFrom k ps r (i + 1)) := by
  unfold riseFrom
  rw [List.drop_eq_getElem_cons h, List.filter_cons]
  cases arrowB k ps[i] <;> simp

set_option maxHeartbeats 4000000 in
set_option maxRecDepth 10000 in
theorem c35_ok (n : Int) (ps : List (List Int)) (r : List Int) (hl : ps.length ≤ 1000000) : PureCall Try.prog 35 [.int .i64 n, intss ps, ints r] (.bool (checkB n ps r)) := by
  refine PureCall.of_TLe Try.func35 rfl (by kernel_rfl) (by simp [Try.ntmps35]) rfl fun C hC => ?_
  rw [Try.ntmps35] at hC
  refine T.seq (T.go' tabOk ?_)
  simp [hC]
  refine T.seq (T.go' tabOk ?_)
  simp [hC]
  refine TL.call (by simp [hC]) rfl rfl (CallQ.of rfl rfl (c40_ok n)) (TL.go' tabOk ?_)
  have hk64 := nn_le n
  unfold checkB
  rw [riseFrom_zero]
  generalize nn n = k at *
  simp [hC]
  refine T.seq (T.seq (T.go' tabOk ?_))
  simp [hC]
  refine T.block ?_
  refine T.loopLe (fun m s => ∃ i : Nat, m = ps.length - i ∧ i ≤ ps.length ∧ (r.length = k → riseFrom k ps r 0 = riseFrom k ps r i) ∧ s = ⟨[(7, .int .i64 i), (0, .int .i64 k), (1, intss ps), (2, ints r)], [], 0⟩) (n := ps.length) ?_ ?_
  · refine upTo.le (Le.env [7, 0, 1, 2]) (upTo.here ⟨0, rfl, Nat.zero_le _, fun _ => rfl, ?_⟩)
    simp
  · rintro w s ⟨i, rfl, hi, hd, rfl⟩
    refine T.seq (T.cut (fun s => s = ⟨[(19, .bool (decide (i < ps.length) && decide (r.length = k))), (7, .int .i64 i), (0, .int .i64 k), (1, intss ps), (2, ints r)], [], 0⟩) (T.go' tabOk ?_) ?_)
    · by_cases h1 : i < ps.length
      · simp [hC, intss, h1, ints]
        refine upTo.le (Le.env [19, 7, 0, 1, 2]) (upTo.here ?_)
        have hz : ((r.length : Int) == (k : Int)) = decide (r.length = k) := by rw [Bool.eq_iff_iff]; simp; omega
        simp [hz]
      · simp [hC, intss, h1, ints]
        refine upTo.le (Le.env [19, 7, 0, 1, 2]) (upTo.here ?_)
        simp
    · rintro s rfl
      refine T.cond_if rfl (fun h => ?_) (fun h => ?_)
      · simp only [Bool.and_eq_true, decide_eq_true_eq] at h
        obtain ⟨hip, heq⟩ := h
        subst heq
        have hd := hd rfl
        have hw := w64 ((i : Int) + 1) (by omega) (by omega)
        rw [riseFrom_step _ ps r i hip] at hd
        have ep : ps[i]? = some ps[i] := List.getElem?_eq_getElem hip
        generalize hpi : ps[i] = p at *
        refine T.skip ?_
        simp
        refine T.le (Le.env [7, 0, 1, 2]) ?_
        simp
        refine T.seq (T.block (T.cut (fun s => s = ⟨[(48, .bool (arrowB r.length p && !riseB r p)), (7, .int .i64 i), (0, .int .i64 r.length), (1, intss ps), (2, ints r)], [], 0⟩) (T.draw' tabOk follows [] [0, 1, 2, 3, 4, 5, 6, 7, 8, 9, 10, 11, 12, 13, 14, 15, 16, 17, 18, 19, 20, 21, 22, 23, 24, 25, 26] [] (by kernel_rfl) ?_) ?_))
        · simp [hC, intss, hip, hpi]
          refine TH.call rfl rfl rfl rfl (CallQ.of rfl rfl (c41_ok r.length p)) (TH.go' ?_)
          cases har : arrowB r.length p
          · simp [hC]
            refine upTo.le (Le.env [48, 7, 0, 1, 2]) (upTo.here ?_)
            simp
          · obtain ⟨a, b, rfl, ha, hb⟩ := arrow_nat r.length p har
            have ea : r[a]? = some r[a] := List.getElem?_eq_getElem ha
            have eb : r[b]? = some r[b] := List.getElem?_eq_getElem hb
            have hrb : riseB r [(a : Int), (b : Int)] = decide (r[a] < r[b]) := by simp [riseB, List.getD, ea, eb]
            generalize hra : r[a] = ra at *
            generalize hrb' : r[b] = rb at *
            simp [hC, hip, hpi, ints, ha, hb, hra, hrb']
            refine upTo.le (Le.env [48, 7, 0, 1, 2]) (upTo.here ?_)
            simp [hrb]
            rw [Bool.eq_iff_iff]; simp
        · rintro s rfl
          refine T.cond_if rfl (fun h => ?_) (fun h => ?_)
          · rw [h, Bool.not_true, Bool.false_and] at hd
            refine T.seq (T.go' tabOk ?_)
            simp [hC]
            refine T.ret ?_
            refine upTo.here ?_
            simp [Try.results35, hd]
          · rw [h, Bool.not_false, Bool.true_and] at hd
            refine T.skip ?_
            simp
            refine T.go' tabOk ?_
            simp [hC, hw]
            refine ⟨_, ?_, upTo.le (Le.env [7, 0, 1, 2]) (upTo.here ⟨i + 1, rfl, hip, hd, ?_⟩)⟩
            · omega
            · simp [intss]
      · refine T.exit ?_
        simp
        refine T.seq (T.go' tabOk ?_)
        simp [hC, ints]
        refine T.ret ?_
        refine upTo.here ?_
        by_cases heq : r.length = k
        · have hd := hd heq
          have hip : i = ps.length := by simp [heq] at h; omega
          rw [hip, riseFrom_end] at hd
          simp [Try.results35, heq, hd]
        · have : ((r.length : Int) == (k : Int)) = false := by simp; omega
          simp [Try.results35, heq, this]
end Go.Proofs.Ytgiphneejidahaa
