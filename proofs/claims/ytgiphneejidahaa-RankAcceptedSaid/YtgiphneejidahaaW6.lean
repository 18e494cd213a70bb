/- Contracts: components. -/
import Derived.Test.YtgiphneejidahaaW5
import Derived.Test.YtgiphneejidahaaVec
import Derived.Test.YtgiphneejidahaaSpec2
import Derived.Test.YtgiphneejidahaaCan16
namespace Go.Proofs.Ytgiphneejidahaa
open Go.Can

set_option maxHeartbeats 4000000 in
set_option maxRecDepth 10000 in
theorem c37_body (k : Nat) (M : Nat → Nat → Bool) (hk64 : k ≤ 64) : Body Try.prog 37 [boolss (mat2 k M)] [] 0 (OwnR 1 (comps k M).length 22 1 ((comps k M).map ints) 2) := by
  refine Body.of_T Try.func37 rfl (by kernel_rfl) (by simp [Try.ntmps37]) fun C hC => ?_
  rw [Try.ntmps37] at hC
  have b1 : (24 : Int) * (k : Int) ≤ 281474976710656 := by omega
  have b2 : (k : Int) ≤ 9223372036854775807 := by omega
  have b3 : (k : Int) ≤ 281474976710656 := by omega
  have hml := mat2_length k M
  refine T.seq (T.go' tabOk ?_)
  simp [hC]
  refine T.seq (T.go' tabOk ?_)
  simp [hC]
  refine T.seq (T.go' tabOk ?_)
  simp [hC, boolss, hml, b2, b3]
  refine T.seq (T.seq (T.go' tabOk ?_))
  simp [hC]
  refine T.block ?_
  refine T.loopLe (fun m s => ∃ i : Nat, m = k - i ∧ i ≤ k ∧ s = ⟨[(13, .int .i64 i), (12, .int .i64 k), (3, .osl 1 0 (compsF k M i).2.length), (4, .osl 0 0 k), (0, boolss (mat2 k M))], [(1, ⟨22, 1, (compsF k M i).2.map ints⟩), (0, ⟨4, 1, vecB k (compsF k M i).1⟩)], 2⟩) (n := k) ?_ ?_
  · refine upTo.le (Le.own 3 22 1 rfl) ?_
    refine upTo.trim [13, 12, 3, 4, 0] [1, 0] 2 (by simp) ⟨0, rfl, Nat.zero_le _, ?_⟩
    simp [boolss, hml, compsF, vecB_rep]
  · rintro m s ⟨i, rfl, hi, rfl⟩
    generalize hD : compsF k M i = D
    have hDl : D.2.length ≤ i := by rw [← hD]; exact compsF_le k M i
    have hS := compsF_succ k M i
    rw [hD] at hS
    obtain ⟨d, out⟩ := D
    simp only at hDl
    refine T.seq (T.go' tabOk ?_)
    simp [hC]
    refine T.seq (T.cond_if rfl (fun h => ?_) (fun h => ?_))
    · have hik : i < k := by simpa using h
      have hwi := w64 ((i : Int) + 1) (by omega) (by omega)
      refine T.skip ?_
      simp
      refine T.seq (T.block (T.seq (T.go' tabOk ?_)))
      simp [hC]
      refine T.seq (T.seq (T.go' tabOk ?_))
      simp [hC, hik]
      refine T.cond_if rfl (fun h => ?_) (fun h => ?_)
      · refine T.exit ?_
        simp
        refine T.go' tabOk ?_
        simp [hC, hwi]
        refine ⟨_, ?_, upTo.le (Le.env [13, 12, 3, 4, 0]) (upTo.here ⟨i + 1, rfl, hik, ?_⟩)⟩
        · omega
        · have hd : d i = true := by simpa using h
          simp [hS, compStep, hd]
      · have hd : d i = false := by simpa using h
        refine T.skip ?_
        simp
        refine T.seq (T.go' tabOk ?_)
        simp [hC]
        refine T.seq (T.seq (T.go' tabOk ?_))
        simp [hC, boolss, hml]
        refine T.block ?_
        refine T.loopLe (fun m s => ∃ j : Nat, m = k - j ∧ j ≤ k ∧ s = ⟨[(22, .int .i64 j), (21, .int .i64 k), (6, .osl 2 0 (lstN M i j).length), (5, .int .i64 i), (13, .int .i64 i), (12, .int .i64 k), (3, .osl 1 0 out.length), (4, .osl 0 0 k), (0, boolss (mat2 k M))], [(2, ⟨3, 1, (natI (lstN M i j)).map I64⟩), (1, ⟨22, 1, out.map ints⟩), (0, ⟨4, 1, vecB k (doneJ d M i j)⟩)], 3⟩) (n := k) ?_ ?_
        · refine upTo.le (Le.own 6 3 1 rfl) ?_
          refine upTo.trim [22, 21, 6, 5, 13, 12, 3, 4, 0] [2, 1, 0] 3 (by simp) ⟨0, rfl, Nat.zero_le _, ?_⟩
          simp [boolss, hml, lstN, doneJ_zero, natI]
        · rintro m s ⟨j, rfl, hj, rfl⟩
          refine T.seq (T.go' tabOk ?_)
          simp [hC]
          refine T.seq (T.cond_if rfl (fun h => ?_) (fun h => ?_))
          · have hjk : j < k := by simpa using h
            have hwj := w64 ((j : Int) + 1) (by omega) (by omega)
            have gi := mat2_get k M i hik
            have gj := mat2_get k M j hjk
            refine T.skip ?_
            simp
            refine T.seq (T.block (T.seq (T.go' tabOk ?_)))
            simp [hC]
            refine T.cut (fun s => s = ⟨[(45, .bool (mutB M i j)), (7, .int .i64 j), (22, .int .i64 j), (21, .int .i64 k), (6, .osl 2 0 (lstN M i j).length), (5, .int .i64 i), (13, .int .i64 i), (12, .int .i64 k), (3, .osl 1 0 out.length), (4, .osl 0 0 k), (0, boolss (mat2 k M))], [(2, ⟨3, 1, (natI (lstN M i j)).map I64⟩), (1, ⟨22, 1, out.map ints⟩), (0, ⟨4, 1, vecB k (doneJ d M i j)⟩)], 3⟩) (T.go' tabOk ?_) ?_
            · by_cases hij : i = j
              · subst hij
                simp [hC]
                refine upTo.le (Le.env [45, 7, 22, 21, 6, 5, 13, 12, 3, 4, 0]) (upTo.here ?_)
                simp [mutB, boolss, hml]
              · have hb : ((i : Int) == (j : Int)) = false := by simp; omega
                cases q1 : M i j <;> cases q2 : M j i
                all_goals
                  simp [hC, boolss, bools, hml, hb, q1, q2, hik, hjk]
                  refine upTo.le (Le.env [45, 7, 22, 21, 6, 5, 13, 12, 3, 4, 0]) (upTo.here ?_)
                  simp [mutB, both, hij, q1, q2]
            · rintro s rfl
              refine T.cond_if rfl (fun h => ?_) (fun h => ?_)
              · have hm : mutB M i j = true := h
                have hL := lstN_le M i j
                have hb8 : ((((lstN M i j).length : Nat) : Int) + 1) * 8 ≤ 140737488355328 := by omega
                have hb8' : ((lstN M i j).length + 1) * 8 ≤ 140737488355328 := by omega
                refine T.go' tabOk ?_
                simp [hC, hjk, hb8', vecB_put k _ j true hjk, Nat.succ_le_of_lt hjk]
                refine T.go' tabOk ?_
                simp [hC, hwj]
                refine ⟨_, ?_, upTo.trim [22, 21, 6, 5, 13, 12, 3, 4, 0] [2, 1, 0] 3 (by simp) ⟨j + 1, rfl, hjk, ?_⟩⟩
                · omega
                · simp [lstN_succ, doneJ_succ, hm, natI]
                  congr 1; funext x; unfold upd1; split <;> simp [*]
              · have hm : mutB M i j = false := h
                refine T.skip ?_
                simp
                refine T.go' tabOk ?_
                simp [hC, hwj]
                refine ⟨_, ?_, upTo.le (Le.env [22, 21, 6, 5, 13, 12, 3, 4, 0]) (upTo.here ⟨j + 1, rfl, hjk, ?_⟩)⟩
                · omega
                · simp [lstN_succ, doneJ_succ, hm]
          · have hjk : j = k := by simp at h; omega
            subst hjk
            refine T.exit ?_
            simp
            have hL := lstN_le M i j
            have hb24 : (((out.length : Nat) : Int) + 1) * 24 ≤ 140737488355328 := by omega
            have hb24' : (out.length + 1) * 24 ≤ 140737488355328 := by omega
            refine T.le (Le.trans (Le.frz (o := 2) (ob := ⟨3, 1, (natI (lstN M i j)).map I64⟩) (by simp) (by simp)) (Le.env [6, 13, 12, 3, 4, 0])) ?_
            refine T.go' tabOk ?_
            simp [hC, hb24']
            refine T.go' tabOk ?_
            simp [hC, hwi]
            refine ⟨_, ?_, upTo.trim [13, 12, 3, 4, 0] [1, 0] 2 (by simp) ⟨i + 1, rfl, hik, ?_⟩⟩
            · omega
            · simp [hS, compStep, hd, ints, boolss, hml, List.take_of_length_le]
    · have hik : i = k := by simp at h; omega
      subst hik
      refine T.exit ?_
      simp
      refine T.seq (T.go' tabOk ?_)
      simp [hC]
      refine T.ret ?_
      refine upTo.trim [2] [1] 2 (by simp) ⟨_, rfl, ?_⟩
      simp [OwnR, comps, hD]
theorem c37_ok (k : Nat) (M : Nat → Nat → Bool) (hk64 : k ≤ 64) : PureCall Try.prog 37 [boolss (mat2 k M)] (intss (comps k M)) := by
  have := PureCall.of_own (c37_body k M hk64) (by simp)
  simpa [intss, List.take_of_length_le] using this
end Go.Proofs.Ytgiphneejidahaa
