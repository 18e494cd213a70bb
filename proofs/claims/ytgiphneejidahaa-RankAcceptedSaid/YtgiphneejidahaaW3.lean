/- Contracts: Pairs. -/
import Derived.Test.YtgiphneejidahaaW2
namespace Go.Proofs.Ytgiphneejidahaa
open Go.Can

set_option maxRecDepth 10000 in
theorem c15_ok (l : List Int) (n : Int) (h0 : 0 < n) (h1 : n ≤ 4611686018427387904) (hl : l.length ≤ 9223372036854775807) : PureCall Try.prog 15 [ints l, .int .i64 n] (intss (pairsOf l n)) := by
  refine PureCall.of_TLe Try.func15 rfl (by kernel_rfl) (by simp [Try.ntmps15]) rfl fun C hC => ?_
  rw [Try.ntmps15] at hC
  refine T.seq (T.go' tabOk ?_)
  simp [hC]
  refine T.seq (T.go' tabOk ?_)
  simp [hC]
  refine T.seq (T.seq (T.go' tabOk ?_))
  simp [hC]
  refine T.block ?_
  refine T.loopLe (fun m s => ∃ k : Nat, m = min 20 (l.length / 2) - k ∧ k ≤ min 20 (l.length / 2) ∧ s = ⟨[(5, .osl 0 0 k), (6, .int .i64 (2 * k : Nat)), (0, ints l), (1, .int .i64 n)], [(0, ⟨22, 1, ((List.range k).map (pairAt l n)).map ints⟩)], 1⟩) (n := min 20 (l.length / 2)) ?_ ?_
  · refine upTo.le (Le.own 5 22 1 (by simp)) (upTo.trim [5, 6, 0, 1] [0] 1 (by simp) ⟨0, rfl, Nat.zero_le _, ?_⟩)
    simp
  · rintro m s ⟨k, rfl, hk, rfl⟩
    refine T.seq (T.seq (T.go' tabOk ?_))
    obtain ⟨i, hi⟩ : ∃ i, i = 2 * k := ⟨_, rfl⟩
    rw [← hi]
    have hw := w64 ((i : Int) + 1) (by omega) (by omega)
    have hw2 := w64 ((i : Int) + 2) (by omega) (by omega)
    by_cases hlt : k < min 20 (l.length / 2)
    · have c1 : ((i : Int) + 1 < (l.length : Int)) := by omega
      have c2 : ((i : Int) < 40) := by omega
      have c3 : i < l.length := by omega
      have c4 : (0 : Int) ≤ (i : Int) + 1 := by omega
      have c5 : ((i : Int) + 1).toNat = i + 1 := by omega
      have e1 : l[i]? = some l[i] := List.getElem?_eq_getElem c3
      have e2 : l[i + 1]? = some l[i + 1] := List.getElem?_eq_getElem (by omega)
      simp [hC, ints, hw, c1, c2]
      refine T.cond_true rfl ?_
      refine T.skip ?_
      simp
      refine T.seq ?_
      refine T.block ?_
      refine T.draw' tabOk follows [0, 1, 2, 5, 7, 8, 12] [3, 4, 6, 9, 10, 11, 13] [14, 15, 16, 17] (by kernel_rfl) ?_
      simp [hC, c3]
      refine TH.call rfl rfl rfl rfl (CallQ.of rfl rfl (c23_ok l[i] n h0 h1)) (TH.go' ?_)
      simp [hw, c1, c4, c5, e2]
      refine TH.call rfl rfl rfl rfl (CallQ.of rfl rfl (c23_ok l[i + 1] n h0 h1)) (TH.go' ?_)
      have c6 : (k + 1) * 24 ≤ 140737488355328 := by omega
      simp [hC, c6]
      refine T.go' tabOk ?_
      simp [hC, hw2]
      refine ⟨_, ?_, upTo.le (Le.trim [5, 6, 0, 1] [0, 1] 3 (by simp)) (upTo.le (Le.frz (o := 1) (ob := ⟨3, 1, [I64 (l[i] % n), I64 (l[i + 1] % n)]⟩) (by simp) (by simp)) (upTo.trim [5, 6, 0, 1] [0] 1 (by simp) ⟨k + 1, rfl, ?_, ?_⟩))⟩
      · omega
      · omega
      · simp [List.range_succ, ints, pairAt, ← hi, e1, e2]
        omega
    · have hk' : k = min 20 (l.length / 2) := by omega
      have c0 : ¬ ((i : Int) + 1 < (l.length : Int) ∧ (i : Int) < 40) := by omega
      by_cases c1 : (i : Int) + 1 < (l.length : Int)
      · have c2 : ¬ (i : Int) < 40 := fun h => c0 ⟨c1, h⟩
        simp [hC, ints, hw, c1, c2]
        refine T.cond_false rfl ?_
        refine T.exit ?_
        simp
        refine T.le (Le.to [5] [0] 1 (by simp) rfl) ?_
        refine T.seq (T.go' tabOk ?_)
        simp [hC]
        refine T.ret ?_
        refine upTo.le (Le.frz (o := 0) (ob := ⟨22, 1, (List.range k).map (ints ∘ pairAt l n)⟩) (by simp) (by simp)) (upTo.here ?_)
        simp [Try.results15, pairsOf, intss, hk', List.take_of_length_le]
      · simp [hC, ints, hw, c1]
        refine T.cond_false rfl ?_
        refine T.exit ?_
        simp
        refine T.le (Le.to [5] [0] 1 (by simp) rfl) ?_
        refine T.seq (T.go' tabOk ?_)
        simp [hC]
        refine T.ret ?_
        refine upTo.le (Le.frz (o := 0) (ob := ⟨22, 1, (List.range k).map (ints ∘ pairAt l n)⟩) (by simp) (by simp)) (upTo.here ?_)
        simp [Try.results15, pairsOf, intss, hk', List.take_of_length_le]
end Go.Proofs.Ytgiphneejidahaa
