/- Law SccReaches. -/
import Derived.Test.YtgiphneejidahaaW12
namespace Go.Proofs.Ytgiphneejidahaa
open Go.Can

theorem nn_nat (k : Nat) (h : k ≤ 64) : nn (k : Int) = k := by unfold nn; omega

set_option maxHeartbeats 4000000 in
set_option maxRecDepth 10000 in
theorem c5_ok (n : Int) (l : List Int) (a b : Int) (sure : Bool) (hl : l.length ≤ 9223372036854775807) : PureCall Try.prog 5 [.int .i64 n, ints l, .int .i64 a, .int .i64 b, .bool sure] (.bool true) := by
  refine PureCall.of_TLe Try.func5 rfl (by kernel_rfl) (by simp [Try.ntmps5]) rfl fun C hC => ?_
  rw [Try.ntmps5] at hC
  refine T.seq (T.go' tabOk ?_)
  simp [hC]
  refine T.seq (T.go' tabOk ?_)
  simp [hC]
  refine TL.call (by simp [hC]) rfl rfl (CallQ.of rfl rfl (c14_ok n)) (TL.go' tabOk ?_)
  simp [hC]
  have hk0 := Int.emod_nonneg n (show (13 : Int) ≠ 0 by decide)
  have hk1 := Int.emod_lt_of_pos n (show (0 : Int) < 13 by decide)
  obtain ⟨k, hk⟩ : ∃ k : Nat, n % 13 = k := ⟨(n % 13).toNat, by omega⟩
  rw [hk] at hk0 hk1 ⊢
  have hnn := nn_nat k (by omega)
  refine T.seq (T.go' tabOk ?_)
  simp [hC]
  generalize hx : (if (k : Int) < 1 then (1 : Int) else k) = mx
  have hmx : 0 < mx ∧ mx ≤ 4611686018427387904 := by
    split at hx <;> omega
  refine TL.call (by simp [hC]) rfl rfl (CallQ.of rfl rfl (c15_ok l mx hmx.1 hmx.2 hl)) (TL.go' tabOk ?_)
  have hps := pairsOf_le l mx
  generalize pairsOf l mx = ps at *
  have hpl : ps.length ≤ 4611686018427387904 := by omega
  simp [hC]
  refine T.cut (fun s => ∃ x y : Int, s = ⟨[(2, .int .i64 x), (3, .int .i64 y), (0, .int .i64 k), (11, intss ps)], [], 0⟩) (T.seq (T.go' tabOk ?_)) ?_
  · cases sure
    · simp [hC]
      refine T.cond_true rfl ?_
      refine T.go' tabOk ?_
      simp [hC]
      have ha0 := Int.emod_nonneg a (show (15 : Int) ≠ 0 by decide)
      have hb0 := Int.emod_nonneg b (show (15 : Int) ≠ 0 by decide)
      have hwa := w64 (a % 15 - 1) (by omega) (by have := Int.emod_lt_of_pos a (show (0 : Int) < 15 by decide); omega)
      have hwb := w64 (b % 15 - 1) (by omega) (by have := Int.emod_lt_of_pos b (show (0 : Int) < 15 by decide); omega)
      refine TL.call (by simp [hC]) rfl rfl (CallQ.of rfl rfl (c23_ok a 15 (by decide) (by decide))) (TL.go' tabOk ?_)
      simp [hC, hwa]
      refine TL.call (by simp [hC]) rfl rfl (CallQ.of rfl rfl (c23_ok b 15 (by decide) (by decide))) (TL.go' tabOk ?_)
      simp [hC, hwb]
      refine upTo.le (Le.env [2, 3, 0, 11]) (upTo.here ⟨a % 15 - 1, b % 15 - 1, ?_⟩)
      simp
    · simp [hC]
      refine T.cond_false rfl ?_
      refine T.skip ?_
      simp
      refine upTo.le (Le.env [2, 3, 0, 11]) (upTo.here ⟨a, b, ?_⟩)
      simp
  · rintro s ⟨x, y, rfl⟩
    refine T.seq (T.go' tabOk ?_)
    simp [hC]
    refine TL.call (by simp [hC]) rfl rfl (CallQ.of rfl rfl (c24_ok k ps hpl)) (TL.go' tabOk ?_)
    simp [hC, hnn]
    have h25 := c25_ok k ps x y hpl
    unfold reachB at h25
    rw [hnn] at h25
    generalize reachM k ps = M at *
    have hml := mat2_length k M
    have hw1 := w64 ((k : Int) - 1) (by omega) (by omega)
    refine T.cut (fun s => s = ⟨[(13, .bool (decide (0 ≤ x) && decide (x < k) && decide (0 ≤ y) && decide (y < k) && M x.toNat y.toNat)), (2, .int .i64 x), (3, .int .i64 y), (0, .int .i64 k), (11, intss ps)], [], 0⟩) (T.go' tabOk ?_) ?_
    · by_cases h1 : 0 ≤ x
      · by_cases h2 : x < k
        · obtain ⟨i, rfl⟩ : ∃ i : Nat, x = i := ⟨x.toNat, by omega⟩
          have hx : i < k := by omega
          have gx := mat2_get k M i hx
          by_cases h3 : 0 ≤ y
          · by_cases h4 : y < k
            · obtain ⟨j, rfl⟩ : ∃ j : Nat, y = j := ⟨y.toNat, by omega⟩
              have hy : j < k := by omega
              have hm1 : (if (k : Int) - 1 < i then (k : Int) - 1 else i) = i := by split <;> omega
              have hm2 : (if (k : Int) - 1 < j then (k : Int) - 1 else j) = j := by split <;> omega
              have hm3 : ∀ i : Nat, (if 0 < i then (i : Int) else 0) = i := fun i => by split <;> omega
              simp [hC, boolss, bools, hml, hx, hy, hw1, hm1, hm2, hm3]
              refine upTo.le (Le.env [13, 2, 3, 0, 11]) (upTo.here ?_)
              simp
            · simp [hC, boolss, hml, hx, h3, h4]
              refine upTo.le (Le.env [13, 2, 3, 0, 11]) (upTo.here ?_)
              simp
          · simp [hC, boolss, hml, hx, h3]
            refine upTo.le (Le.env [13, 2, 3, 0, 11]) (upTo.here ?_)
            simp
        · simp [hC, boolss, hml, h1, h2]
          refine upTo.le (Le.env [13, 2, 3, 0, 11]) (upTo.here ?_)
          simp
      · simp [hC, boolss, hml, h1]
        refine upTo.le (Le.env [13, 2, 3, 0, 11]) (upTo.here ?_)
        simp
    · rintro s rfl
      generalize (decide (0 ≤ x) && decide (x < k) && decide (0 ≤ y) && decide (y < k) && M x.toNat y.toNat) = B at *
      refine T.seq (T.go' tabOk ?_)
      simp [hC]
      refine TL.call (by simp [hC]) rfl rfl (CallQ.of rfl rfl h25) (TL.go' tabOk ?_)
      simp [hC]
      refine TL.callG (by simp [hC]) rfl rfl rfl rfl (CallQ.of rfl rfl c21_ok) (TL.go' tabOk ?_)
      simp [hC]
      refine T.ret ?_
      refine upTo.here ?_
      simp [Try.results5]
end Go.Proofs.Ytgiphneejidahaa
