/- Contracts of the smallest functions. -/
import Derived.Test.YtgiphneejidahaaTab
import Derived.Test.YtgiphneejidahaaSpec
namespace Go.Proofs.Ytgiphneejidahaa
open Go.Can

theorem within_arith (x n : Int) (h0 : 0 < n) (h1 : n ≤ 4611686018427387904) : (IntKind.i64.wrap (x.tmod n + n)).tmod n = x % n := by
  have hb : -n < x.tmod n ∧ x.tmod n < n := ⟨by have := Int.lt_tmod_of_pos x h0; omega, Int.tmod_lt_of_pos x h0⟩
  rw [IntWalk.i64_in _ (by omega)]
  rw [Int.tmod_eq_emod_of_nonneg (by omega)]
  rw [Int.add_emod_right]
  rw [Int.tmod_def]
  simp

theorem c23_ok (x n : Int) (h0 : 0 < n) (h1 : n ≤ 4611686018427387904) : PureCall Try.prog 23 [.int .i64 x, .int .i64 n] (.int .i64 (x % n)) := by
  refine PureCall.of_TLe Try.func23 rfl (by kernel_rfl) (by simp [Try.ntmps23]) rfl fun C hC => ?_
  have hn : n ≠ 0 := by omega
  have ha := within_arith x n h0 h1
  rw [Try.ntmps23] at hC
  refine T.seq (T.go' tabOk ?_)
  simp [hC]
  refine T.seq (T.go' tabOk ?_)
  simp [hC, hn]
  refine T.ret ?_
  refine upTo.here ?_
  simp [Try.results23]
  exact ha

theorem c14_ok (x : Int) : PureCall Try.prog 14 [.int .i64 x] (.int .i64 (x % 13)) := by
  refine PureCall.of_TLe Try.func14 rfl (by kernel_rfl) (by simp [Try.ntmps14]) rfl fun C hC => ?_
  rw [Try.ntmps14] at hC
  refine T.seq (T.go' tabOk ?_)
  simp [hC]
  refine T.seq (T.go' tabOk ?_)
  simp [hC]
  refine TL.call (by simp [hC]) rfl rfl (CallQ.of rfl rfl (c23_ok x 13 (by omega) (by omega))) (TL.go' tabOk ?_)
  simp [hC]
  refine T.ret ?_
  refine upTo.here ?_
  simp [Try.results14]

theorem c26_ok (x : Int) : PureCall Try.prog 26 [.int .i64 x] (.int .i64 (x % 11)) := by
  refine PureCall.of_TLe Try.func26 rfl (by kernel_rfl) (by simp [Try.ntmps26]) rfl fun C hC => ?_
  rw [Try.ntmps26] at hC
  refine T.seq (T.go' tabOk ?_)
  simp [hC]
  refine T.seq (T.go' tabOk ?_)
  simp [hC]
  refine TL.call (by simp [hC]) rfl rfl (CallQ.of rfl rfl (c23_ok x 11 (by omega) (by omega))) (TL.go' tabOk ?_)
  simp [hC]
  refine T.ret ?_
  refine upTo.here ?_
  simp [Try.results26]

theorem c40_ok (n : Int) : PureCall Try.prog 40 [.int .i64 n] (.int .i64 (nn n)) := by
  refine PureCall.of_TLe Try.func40 rfl (by kernel_rfl) (by simp [Try.ntmps40]) rfl fun C hC => ?_
  rw [Try.ntmps40] at hC
  refine T.seq (T.go' tabOk ?_)
  simp [hC]
  refine T.seq (T.go' tabOk ?_)
  simp [hC]
  refine T.ret ?_
  refine upTo.here ?_
  simp [Try.results40, nn]
  split <;> split <;> omega

theorem c42_ok (n : Int) : PureCall Try.prog 42 [.int .i64 n] (.int .i64 (nn n)) := by
  refine PureCall.of_TLe Try.func42 rfl (by kernel_rfl) (by simp [Try.ntmps42]) rfl fun C hC => ?_
  rw [Try.ntmps42] at hC
  refine T.seq (T.go' tabOk ?_)
  simp [hC]
  refine T.seq (T.go' tabOk ?_)
  simp [hC]
  refine T.ret ?_
  refine upTo.here ?_
  simp [Try.results42, nn]
  split <;> split <;> omega

set_option maxRecDepth 10000 in
theorem c41_ok (n : Int) (p : List Int) : PureCall Try.prog 41 [.int .i64 n, ints p] (.bool (arrowB n p)) := by
  refine PureCall.of_TLe Try.func41 rfl (by kernel_rfl) (by simp [Try.ntmps41]) rfl fun C hC => ?_
  rw [Try.ntmps41] at hC
  refine T.seq (T.go' tabOk ?_)
  simp [hC]
  refine T.seq (T.go' tabOk ?_)
  rcases p with _ | ⟨a, _ | ⟨b, _ | ⟨c, r⟩⟩⟩
  · simp [hC, ints]
    refine T.ret ?_
    refine upTo.here ?_
    simp [Try.results41, arrowB]
  · simp [hC, ints]
    refine T.ret ?_
    refine upTo.here ?_
    simp [Try.results41, arrowB]
  · by_cases h1 : 0 ≤ a <;> by_cases h2 : a < n <;> by_cases h3 : 0 ≤ b <;> by_cases h4 : b < n
    all_goals
      simp [hC, ints, h1, h2, h3, h4]
      refine T.ret ?_
      refine upTo.here ?_
      simp [Try.results41, arrowB, h1, h2, h3, h4]
  · have hne : ¬ ((r.length : Int) + 1 + 1 + 1 = 2) := by omega
    simp [hC, ints]
    refine T.ret ?_
    refine upTo.here ?_
    simp [Try.results41, arrowB]
end Go.Proofs.Ytgiphneejidahaa
