/- Contracts: SameInts, SameLists, Pairs, direct. -/
import Derived.Test.YtgiphneejidahaaW1
namespace Go.Proofs.Ytgiphneejidahaa
open Go.Can

set_option maxRecDepth 10000 in
theorem c30_ok (a b : List Int) (ha : a.length ≤ 4611686018427387904) : PureCall Try.prog 30 [ints a, ints b] (.bool (decide (a = b))) := by
  refine PureCall.of_TLe Try.func30 rfl (by kernel_rfl) (by simp [Try.ntmps30]) rfl fun C hC => ?_
  rw [Try.ntmps30] at hC
  refine T.seq (T.go' tabOk ?_)
  simp [hC]
  refine T.seq (T.seq (T.go' tabOk ?_))
  simp [hC, ints]
  refine T.cond_if rfl (fun h => ?_) (fun h => ?_)
  · refine T.seq (T.go' tabOk ?_)
    simp [hC]
    refine T.ret ?_
    refine upTo.here ?_
    simp [Try.results30]
    intro e; subst e; simp at h
  · refine T.skip ?_
    have hl : a.length = b.length := by simp at h; omega
    refine T.seq (T.seq (T.go' tabOk ?_))
    simp [hC]
    refine T.block ?_
    refine T.loopLe (fun m s => ∃ i, m = a.length - i ∧ i ≤ a.length ∧ (∀ j, j < i → a[j]? = b[j]?) ∧ s = ⟨[(5, .int .i64 i), (0, ints a), (1, ints b)], [], 0⟩) (n := a.length) ?_ ?_
    · refine upTo.trim [5, 0, 1] [] 0 rfl ⟨0, rfl, Nat.zero_le _, by simp, ?_⟩
      simp [ints]
    · rintro n s ⟨i, rfl, hi, hj, rfl⟩
      refine T.seq (T.seq (T.go' tabOk ?_))
      simp [hC, ints]
      refine T.cond_if rfl (fun h => ?_) (fun h => ?_)
      · refine T.skip ?_
        have hib : i < a.length := by simpa using h
        simp
        have ea : a[i]? = some a[i] := List.getElem?_eq_getElem hib
        have eb : b[i]? = some b[i] := List.getElem?_eq_getElem (by omega)
        refine T.seq (T.block (T.seq (T.draw' tabOk follows [] [0, 1, 2, 3, 4, 5, 6, 7, 8] [] (by kernel_rfl) ?_)))
        simp [hC, hib, ← hl]
        refine T.cond_if rfl (fun h => ?_) (fun h => ?_)
        · refine T.seq (T.go' tabOk ?_)
          simp [hC]
          refine T.ret ?_
          refine upTo.here ?_
          simp [Try.results30]
          intro e; subst e; simp at h
        · refine T.skip ?_
          simp
          refine T.go' tabOk ?_
          simp [hC]
          refine ⟨_, ?_, upTo.trim [5, 0, 1] [] 0 rfl ⟨i + 1, rfl, hib, ?_, ?_⟩⟩
          · omega
          · intro j hj'
            by_cases e : j = i
            · subst e; rw [ea, eb]; simpa using h
            · exact hj j (by omega)
          · simp
            rw [w64 _ (by omega) (by omega)]
      · refine T.exit ?_
        simp
        refine T.seq (T.go' tabOk ?_)
        simp [hC]
        refine T.ret ?_
        refine upTo.here ?_
        simp [Try.results30]
        have : i = a.length := by simp at h; omega
        subst this
        refine List.ext_getElem? fun j => ?_
        by_cases hjl : j < a.length
        · exact hj j hjl
        · rw [List.getElem?_eq_none (by omega), List.getElem?_eq_none (by omega)]

set_option maxRecDepth 10000 in
theorem c16_ok (a b : List (List Int)) (ha : a.length ≤ 4611686018427387904) (ha' : ∀ l ∈ a, l.length ≤ 4611686018427387904) : PureCall Try.prog 16 [intss a, intss b] (.bool (decide (a = b))) := by
  refine PureCall.of_TLe Try.func16 rfl (by kernel_rfl) (by simp [Try.ntmps16]) rfl fun C hC => ?_
  rw [Try.ntmps16] at hC
  refine T.seq (T.go' tabOk ?_)
  simp [hC]
  refine T.seq (T.seq (T.go' tabOk ?_))
  simp [hC, intss]
  refine T.cond_if rfl (fun h => ?_) (fun h => ?_)
  · refine T.seq (T.go' tabOk ?_)
    simp [hC]
    refine T.ret ?_
    refine upTo.here ?_
    simp [Try.results16]
    intro e; subst e; simp at h
  · refine T.skip ?_
    have hl : a.length = b.length := by simp at h; omega
    refine T.seq (T.seq (T.go' tabOk ?_))
    simp [hC]
    refine T.block ?_
    refine T.loopLe (fun m s => ∃ i, m = a.length - i ∧ i ≤ a.length ∧ (∀ j, j < i → a[j]? = b[j]?) ∧ s = ⟨[(5, .int .i64 i), (0, intss a), (1, intss b)], [], 0⟩) (n := a.length) ?_ ?_
    · refine upTo.trim [5, 0, 1] [] 0 rfl ⟨0, rfl, Nat.zero_le _, by simp, ?_⟩
      simp [intss]
    · rintro n s ⟨i, rfl, hi, hj, rfl⟩
      refine T.seq (T.seq (T.go' tabOk ?_))
      simp [hC, intss]
      refine T.cond_if rfl (fun h => ?_) (fun h => ?_)
      · refine T.skip ?_
        have hib : i < a.length := by simpa using h
        simp
        have ea : a[i]? = some a[i] := List.getElem?_eq_getElem hib
        have eb : b[i]? = some b[i] := List.getElem?_eq_getElem (by omega)
        refine T.seq (T.block (T.seq (T.draw' tabOk follows [] [0, 1, 2, 3, 4, 5, 6, 7, 8, 9] [] (by kernel_rfl) ?_)))
        simp [hC, hib, ← hl]
        refine TH.call rfl rfl rfl rfl (CallQ.of rfl rfl (c30_ok a[i] b[i] (ha' _ (List.getElem_mem hib)))) (TH.go' ?_)
        simp [hC]
        refine T.cond_if rfl (fun h => ?_) (fun h => ?_)
        · refine T.seq (T.go' tabOk ?_)
          simp [hC]
          refine T.ret ?_
          refine upTo.here ?_
          simp [Try.results16]
          intro e; subst e; simp at h
        · refine T.skip ?_
          simp
          refine T.go' tabOk ?_
          simp [hC]
          refine ⟨_, ?_, upTo.trim [5, 0, 1] [] 0 rfl ⟨i + 1, rfl, hib, ?_, ?_⟩⟩
          · omega
          · intro j hj'
            by_cases e : j = i
            · subst e; rw [ea, eb]; simpa using h
            · exact hj j (by omega)
          · simp
            rw [w64 _ (by omega) (by omega)]
      · refine T.exit ?_
        simp
        refine T.seq (T.go' tabOk ?_)
        simp [hC]
        refine T.ret ?_
        refine upTo.here ?_
        simp [Try.results16]
        have : i = a.length := by simp at h; omega
        subst this
        refine List.ext_getElem? fun j => ?_
        by_cases hjl : j < a.length
        · exact hj j hjl
        · rw [List.getElem?_eq_none (by omega), List.getElem?_eq_none (by omega)]
end Go.Proofs.Ytgiphneejidahaa
