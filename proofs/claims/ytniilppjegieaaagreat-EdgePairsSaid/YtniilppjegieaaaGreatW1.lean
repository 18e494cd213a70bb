/- Contracts: comparisons. -/
import Derived.Test.YtniilppjegieaaaGreatTab
namespace Go.Proofs.YtniilppjegieaaaGreat
open Go.Can

def cmpI (a b : Int) : Int := if a < b then -1 else if b < a then 1 else 0
def cmpL : List Int → List Int → Int
  | [], [] => 0
  | [], _ :: _ => -1
  | _ :: _, [] => 1
  | a :: x, b :: y => if cmpI a b = 0 then cmpL x y else cmpI a b

theorem c65_ok (x : Int) : PureCall Tryz.prog 65 [.int .i64 x] (.bool false) := by
  refine PureCall.of_TLe tabOk Tryz.func65 rfl (by kernel_rfl) (by simp [Tryz.ntmps65]) rfl fun C hC hC0 => ?_
  rw [Tryz.ntmps65] at hC
  refine T.seq (T.go' tabOk ?_)
  simp [hC]
  refine T.seq (T.go' tabOk ?_)
  simp [hC]
  refine T.ret ?_
  refine upTo.here ?_
  simp [Tryz.results65]

theorem c26_ok (x y : Int) : PureCall Tryz.prog 26 [.int .i64 x, .int .i64 y] (.int .i64 (cmpI x y)) := by
  refine PureCall.of_TLe tabOk Tryz.func26 rfl (by kernel_rfl) (by simp [Tryz.ntmps26]) rfl fun C hC hC0 => ?_
  rw [Tryz.ntmps26] at hC
  refine T.seq (T.go' tabOk ?_)
  simp [hC]
  refine T.seq (T.go' tabOk ?_)
  simp [hC]
  refine TL.call (by simp [hC]) rfl rfl (CallQ.of rfl rfl (c65_ok x)) (TL.go' tabOk ?_)
  simp [hC]
  refine T.seq (T.go' tabOk ?_)
  simp [hC]
  refine TL.call (by simp [hC]) rfl rfl (CallQ.of rfl rfl (c65_ok y)) (TL.go' tabOk ?_)
  simp [hC]
  refine T.seq (T.seq (T.go' tabOk ?_))
  simp [hC]
  refine T.cond_false rfl ?_
  refine T.skip ?_
  simp
  refine T.seq (T.seq (T.go' tabOk ?_))
  simp [hC]
  refine T.cond_false rfl ?_
  refine T.skip ?_
  simp
  refine T.seq (T.seq (T.go' tabOk ?_))
  simp [hC]
  refine T.cond_if rfl (fun h => ?_) (fun h => ?_)
  · have h1 : x < y := by simpa using h
    refine T.seq (T.go' tabOk ?_)
    simp [hC]
    refine T.ret ?_
    refine upTo.here ?_
    simp [Tryz.results26, cmpI, h1]
  · have h1 : ¬ x < y := by simpa using h
    refine T.skip ?_
    simp
    refine T.seq (T.seq (T.go' tabOk ?_))
    simp [hC]
    refine T.cond_if rfl (fun h => ?_) (fun h => ?_)
    · have h2 : y < x := by simpa using h
      refine T.seq (T.go' tabOk ?_)
      simp [hC]
      refine T.ret ?_
      refine upTo.here ?_
      simp [Tryz.results26, cmpI, h1, h2]
    · have h2 : ¬ y < x := by simpa using h
      refine T.skip ?_
      simp
      refine T.seq (T.go' tabOk ?_)
      simp [hC]
      refine T.ret ?_
      refine upTo.here ?_
      simp [Tryz.results26, cmpI, h1, h2]

theorem cmpL_step (x y : List Int) (i : Nat) (hx : i < x.length) (hy : i < y.length) : cmpL (x.drop i) (y.drop i) = if cmpI x[i] y[i] = 0 then cmpL (x.drop (i + 1)) (y.drop (i + 1)) else cmpI x[i] y[i] := by
  rw [List.drop_eq_getElem_cons hx, List.drop_eq_getElem_cons hy]; rfl

set_option maxHeartbeats 4000000 in
set_option maxRecDepth 10000 in
theorem c16_ok (x y : List Int) (hx : x.length ≤ 4611686018427387904) (_hy : y.length ≤ 4611686018427387904) : PureCall Tryz.prog 16 [ints x, ints y] (.int .i64 (cmpL x y)) := by
  refine PureCall.of_TLe tabOk Tryz.func16 rfl (by kernel_rfl) (by simp [Tryz.ntmps16]) rfl fun C hC hC0 => ?_
  rw [Tryz.ntmps16] at hC
  refine T.seq (T.go' tabOk ?_)
  simp [hC]
  refine T.seq (T.seq (T.go' tabOk ?_))
  simp [hC, ints]
  refine T.block ?_
  refine T.loopLe (fun m s => ∃ i : Nat, m = x.length - i ∧ i ≤ x.length ∧ i ≤ y.length ∧ cmpL x y = cmpL (x.drop i) (y.drop i) ∧ s = ⟨[(11, .int .i64 i), (10, .int .i64 x.length), (9, ints x), (0, ints x), (1, ints y)], [], 0⟩) (n := x.length) ?_ ?_
  · refine upTo.le (Le.env [11, 10, 9, 0, 1]) (upTo.here ⟨0, rfl, Nat.zero_le _, Nat.zero_le _, ?_, ?_⟩)
    · simp
    · simp [ints]
  · rintro w s ⟨i, rfl, hi, hiy, hc, rfl⟩
    refine T.seq (T.go' tabOk ?_)
    simp [hC]
    refine T.seq (T.cond_if rfl (fun h => ?_) (fun h => ?_))
    · have hix : i < x.length := by simpa using h
      have hw := w64 ((i : Int) + 1) (by omega) (by omega)
      have ex : x[i]? = some x[i] := List.getElem?_eq_getElem hix
      refine T.skip ?_
      simp
      refine T.le (Le.env [11, 10, 9, 0, 1]) ?_
      simp
      refine T.seq (T.block (T.seq (T.go' tabOk ?_)))
      simp [hC, ints, hix]
      refine T.seq (T.seq (T.go' tabOk ?_))
      simp [hC]
      refine T.cond_if rfl (fun h => ?_) (fun h => ?_)
      · have hyi : y.length ≤ i := by simpa using h
        refine T.seq (T.go' tabOk ?_)
        simp [hC]
        refine T.ret ?_
        refine upTo.here ?_
        have : cmpL x y = 1 := by
          rw [hc, List.drop_eq_getElem_cons hix, List.drop_of_length_le hyi]; rfl
        simp [Tryz.results16, this]
      · have hyi : i < y.length := by simpa using h
        have ey : y[i]? = some y[i] := List.getElem?_eq_getElem hyi
        rw [cmpL_step x y i hix hyi] at hc
        generalize hxx : x[i] = u at *
        generalize hyy : y[i] = v at *
        refine T.skip ?_
        simp
        refine T.seq (T.go' tabOk ?_)
        simp [hC, hyi, hyy]
        refine T.seq (T.go' tabOk ?_)
        simp [hC]
        refine TL.call (by simp [hC]) rfl rfl (CallQ.of rfl rfl (c26_ok u v)) (TL.go' tabOk ?_)
        simp [hC]
        refine T.seq (T.go' tabOk ?_)
        simp [hC]
        refine T.cond_if rfl (fun h => ?_) (fun h => ?_)
        · have hne : cmpI u v ≠ 0 := by simpa using h
          refine T.seq (T.go' tabOk ?_)
          simp [hC]
          refine T.ret ?_
          refine upTo.here ?_
          rw [if_neg hne] at hc
          simp [Tryz.results16, hc]
        · have heq : cmpI u v = 0 := by simpa using h
          rw [if_pos heq] at hc
          refine T.skip ?_
          simp
          refine T.go' tabOk ?_
          simp [hC, hw]
          refine ⟨_, ?_, upTo.le (Le.env [11, 10, 9, 0, 1]) (upTo.here ⟨i + 1, rfl, hix, hyi, hc, ?_⟩)⟩
          · omega
          · simp
    · have hix : i = x.length := by simp at h; omega
      subst hix
      refine T.exit ?_
      simp
      refine T.seq (T.seq (T.go' tabOk ?_))
      simp [hC, ints]
      refine T.cond_if rfl (fun h => ?_) (fun h => ?_)
      · have hlt : x.length < y.length := by simpa using h
        refine T.seq (T.go' tabOk ?_)
        simp [hC]
        refine T.ret ?_
        refine upTo.here ?_
        have : cmpL x y = -1 := by
          rw [hc, List.drop_length, List.drop_eq_getElem_cons hlt]; rfl
        simp [Tryz.results16, this]
      · have hlt : ¬ x.length < y.length := by simpa using h
        refine T.skip ?_
        simp
        refine T.seq (T.go' tabOk ?_)
        simp [hC]
        refine T.ret ?_
        refine upTo.here ?_
        have : cmpL x y = 0 := by
          rw [hc, List.drop_length, List.drop_of_length_le (by omega)]; rfl
        simp [Tryz.results16, this]

set_option maxRecDepth 10000 in
theorem c14_ok (a b : List Int) (ha : a.length ≤ 4611686018427387904) : PureCall Tryz.prog 14 [ints a, ints b] (.bool (decide (a = b))) := by
  refine PureCall.of_TLe tabOk Tryz.func14 rfl (by kernel_rfl) (by simp [Tryz.ntmps14]) rfl fun C hC hC0 => ?_
  rw [Tryz.ntmps14] at hC
  refine T.seq (T.go' tabOk ?_)
  simp [hC]
  refine T.seq (T.seq (T.go' tabOk ?_))
  simp [hC, ints]
  refine T.cond_if rfl (fun h => ?_) (fun h => ?_)
  · refine T.seq (T.go' tabOk ?_)
    simp [hC]
    refine T.ret ?_
    refine upTo.here ?_
    simp [Tryz.results14]
    intro e; subst e; simp at h
  · refine T.skip ?_
    have hl : a.length = b.length := by simp at h; omega
    refine T.seq (T.seq (T.go' tabOk ?_))
    simp [hC]
    refine T.block ?_
    refine T.loopLe (fun m s => ∃ i, m = a.length - i ∧ i ≤ a.length ∧ (∀ j, j < i → a[j]? = b[j]?) ∧ s = ⟨[(5, .int .i64 i), (0, ints a), (1, ints b)], [], 0⟩) (n := a.length) ?_ ?_
    · refine upTo.trim [5, 0, 1] [] 0 rfl (by omega) ⟨0, rfl, Nat.zero_le _, by simp, ?_⟩
      simp [ints]
    · rintro n s ⟨i, rfl, hi, hj, rfl⟩
      refine T.seq (T.seq (T.go' tabOk ?_))
      simp [hC, ints]
      refine T.cond_if rfl (fun h => ?_) (fun h => ?_)
      · refine T.skip ?_
        have hib : i < a.length := by simpa using h
        simp
        have ea : a[i]? = some a[i] := List.getElem?_eq_getElem hib
        have eb : b[i]? = some b[i] := List.getElem?_eq_getElem (by omega)
        refine T.seq (T.block (T.seq (T.draw' tabOk follows [] [0, 1, 2, 3, 4, 5, 6, 7, 8] [] (by kernel_rfl) ?_)))
        simp [hC, hib, ← hl]
        refine T.cond_if rfl (fun h => ?_) (fun h => ?_)
        · refine T.seq (T.go' tabOk ?_)
          simp [hC]
          refine T.ret ?_
          refine upTo.here ?_
          simp [Tryz.results14]
          intro e; subst e; simp at h
        · refine T.skip ?_
          simp
          refine T.go' tabOk ?_
          simp [hC]
          refine ⟨_, ?_, upTo.trim [5, 0, 1] [] 0 rfl (by omega) ⟨i + 1, rfl, hib, ?_, ?_⟩⟩
          · omega
          · intro j hj'
            by_cases e : j = i
            · subst e; rw [ea, eb]; simpa using h
            · exact hj j (by omega)
          · simp
            rw [w64 _ (by omega) (by omega)]
      · refine T.exit ?_
        simp
        refine T.seq (T.go' tabOk ?_)
        simp [hC]
        refine T.ret ?_
        refine upTo.here ?_
        simp [Tryz.results14]
        have : i = a.length := by simp at h; omega
        subst this
        refine List.ext_getElem? fun j => ?_
        by_cases hjl : j < a.length
        · exact hj j hjl
        · rw [List.getElem?_eq_none (by omega), List.getElem?_eq_none (by omega)]

end Go.Proofs.YtniilppjegieaaaGreat
