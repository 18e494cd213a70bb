/- Contracts for EdgePairs: Within, SameLists. -/
import Derived.Test.YtniilppjegieaaaGreatW1
import Derived.Test.YtniilppjegieaaaGreatMat
namespace Go.Proofs.YtniilppjegieaaaGreat
open Go.Can

theorem c5_ok (x : Int) : PureCall Tryz.prog 5 [.int .i64 x, .int .i64 5] (.int .i64 (x % 5)) := by
  refine PureCall.of_TLe tabOk Tryz.func5 rfl (by kernel_rfl) (by simp [Tryz.ntmps5]) rfl fun C hC hC0 => ?_
  rw [Tryz.ntmps5] at hC
  refine T.seq (T.go' tabOk ?_)
  simp [hC]
  have h1 : (x.tmod 5 + 5).tmod 5 = x % 5 := by
    rcases Int.le_total 0 x with h | h
    · rw [Int.tmod_eq_emod_of_nonneg h, Int.tmod_eq_emod_of_nonneg (by omega)]; omega
    · have : x.tmod 5 = -((-x) % 5) := by
        have := Int.neg_tmod (-x) 5
        rw [Int.neg_neg] at this
        rw [this, Int.tmod_eq_emod_of_nonneg (by omega)]
      rw [this, Int.tmod_eq_emod_of_nonneg (by omega)]; omega
  have hb1 : -5 < x.tmod 5 := by
    have := Int.lt_tmod_of_pos x (show (0 : Int) < 5 by omega)
    omega
  have hb2 : x.tmod 5 < 5 := Int.tmod_lt_of_pos x (by omega)
  have hw := w64 (x.tmod 5 + 5) (by omega) (by omega)
  refine T.seq (T.go' tabOk ?_)
  simp [hC, hw]
  refine T.ret ?_
  refine upTo.here ?_
  simp [Tryz.results5, h1]

theorem c6_ok (a b : List (List Int)) (ha : a.length ≤ 4611686018427387904) (ha' : ∀ l ∈ a, l.length ≤ 4611686018427387904) : PureCall Tryz.prog 6 [intss a, intss b] (.bool (decide (a = b))) := by
  refine PureCall.of_TLe tabOk Tryz.func6 rfl (by kernel_rfl) (by simp [Tryz.ntmps6]) rfl fun C hC hC0 => ?_
  rw [Tryz.ntmps6] at hC
  refine T.seq (T.go' tabOk ?_)
  simp [hC]
  refine T.seq (T.seq (T.go' tabOk ?_))
  simp [hC, intss]
  refine T.cond_if rfl (fun h => ?_) (fun h => ?_)
  · refine T.seq (T.go' tabOk ?_)
    simp [hC]
    refine T.ret ?_
    refine upTo.here ?_
    simp [Tryz.results6]
    intro e; subst e; simp at h
  · refine T.skip ?_
    have hl : a.length = b.length := by simp at h; omega
    refine T.seq (T.seq (T.go' tabOk ?_))
    simp [hC]
    refine T.block ?_
    refine T.loopLe (fun m s => ∃ i, m = a.length - i ∧ i ≤ a.length ∧ (∀ j, j < i → a[j]? = b[j]?) ∧ s = ⟨[(5, .int .i64 i), (0, intss a), (1, intss b)], [], 0⟩) (n := a.length) ?_ ?_
    · refine upTo.trim [5, 0, 1] [] 0 rfl (by omega) ⟨0, rfl, Nat.zero_le _, by simp, ?_⟩
      simp [intss]
    · rintro n s ⟨i, rfl, hi, hj, rfl⟩
      refine T.seq (T.seq (T.go' tabOk ?_))
      simp [hC, intss]
      refine T.cond_if rfl (fun h => ?_) (fun h => ?_)
      · refine T.skip ?_
        have hib : i < a.length := by simpa using h
        simp
        have ea : a[i]? = some a[i] := List.getElem?_eq_getElem hib
        have eb : b[i]? = some b[i] := List.getElem?_eq_getElem (by omega)
        refine T.seq (T.block (T.seq (T.draw' tabOk follows [] [0, 1, 2, 3, 4, 5, 6, 7, 8, 9] [] (by kernel_rfl) ?_)))
        simp [hC, hib, ← hl]
        refine TH.call rfl rfl rfl rfl (CallQ.of rfl rfl (c14_ok a[i] b[i] (ha' _ (List.getElem_mem hib)))) (TH.go' ?_)
        simp [hC]
        refine T.cond_if rfl (fun h => ?_) (fun h => ?_)
        · refine T.seq (T.go' tabOk ?_)
          simp [hC]
          refine T.ret ?_
          refine upTo.here ?_
          simp [Tryz.results6]
          intro e; subst e; simp at h
        · refine T.skip ?_
          simp
          refine T.go' tabOk ?_
          simp [hC]
          refine ⟨_, ?_, upTo.trim [5, 0, 1] [] 0 rfl (by omega) ⟨i + 1, rfl, hib, ?_, ?_⟩⟩
          · omega
          · intro j hj'
            by_cases e : j = i
            · subst e; rw [ea, eb]; simpa using h
            · exact hj j (by omega)
          · simp
            rw [w64 _ (by omega) (by omega)]
      · refine T.exit ?_
        simp
        refine T.seq (T.go' tabOk ?_)
        simp [hC]
        refine T.ret ?_
        refine upTo.here ?_
        simp [Tryz.results6]
        have : i = a.length := by simp at h; omega
        subst this
        refine List.ext_getElem? fun j => ?_
        by_cases hjl : j < a.length
        · exact hj j hjl
        · rw [List.getElem?_eq_none (by omega), List.getElem?_eq_none (by omega)]

end Go.Proofs.YtniilppjegieaaaGreat
