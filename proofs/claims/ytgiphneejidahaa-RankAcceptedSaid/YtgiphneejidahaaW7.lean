/- Contracts: Components, twice. -/
import Derived.Test.YtgiphneejidahaaW6
namespace Go.Proofs.Ytgiphneejidahaa
open Go.Can

/-- scc.Components, lockorderref20.Components. -/
def codeComps (n : Int) (ps : List (List Int)) : List (List Int) := comps (nn n) (reachM n ps)
def ref20Comps (n : Int) (ps : List (List Int)) : List (List Int) := refComps (nn n) (reachM n ps)

set_option maxRecDepth 10000 in
theorem c17_ok (n : Int) (ps : List (List Int)) (hl : ps.length ≤ 4611686018427387904) : PureCall Try.prog 17 [.int .i64 n, intss ps] (intss (codeComps n ps)) := by
  refine PureCall.of_TLe Try.func17 rfl (by kernel_rfl) (by simp [Try.ntmps17]) rfl fun C hC => ?_
  rw [Try.ntmps17] at hC
  refine T.seq (T.go' tabOk ?_)
  simp [hC]
  refine T.seq (T.go' tabOk ?_)
  simp [hC]
  refine TL.call (by simp [hC]) rfl rfl (CallQ.of rfl rfl (c36_ok n ps hl)) (TL.go' tabOk ?_)
  simp
  refine TL.call (by simp [hC]) rfl rfl (CallQ.of rfl rfl (c37_ok (nn n) (reachM n ps) (nn_le n))) (TL.go' tabOk ?_)
  simp [hC]
  refine T.ret ?_
  refine upTo.here ?_
  simp [Try.results17, codeComps]

set_option maxHeartbeats 4000000 in
set_option maxRecDepth 10000 in
theorem c18_ok (n : Int) (ps : List (List Int)) (hl : ps.length ≤ 4611686018427387904) : PureCall Try.prog 18 [.int .i64 n, intss ps] (intss (ref20Comps n ps)) := by
  refine PureCall.of_TLe Try.func18 rfl (by kernel_rfl) (by simp [Try.ntmps18]) rfl fun C hC => ?_
  rw [Try.ntmps18] at hC
  refine T.seq (T.go' tabOk ?_)
  simp [hC]
  refine T.seq (T.go' tabOk ?_)
  simp [hC]
  refine TL.call (by simp [hC]) rfl rfl (CallQ.of rfl rfl (c24_ok n ps hl)) (TL.go' tabOk ?_)
  simp [hC]
  unfold ref20Comps
  have hk64 := nn_le n
  generalize nn n = k at *
  generalize reachM n ps = M
  have b1 : (24 : Int) * (k : Int) ≤ 281474976710656 := by omega
  have b2 : (k : Int) ≤ 9223372036854775807 := by omega
  have b3 : (k : Int) ≤ 281474976710656 := by omega
  have hml := mat2_length k M
  refine T.seq (T.go' tabOk ?_)
  simp [hC, boolss, hml, b2, b3]
  refine T.seq (T.go' tabOk ?_)
  simp [hC]
  refine T.seq (T.seq (T.go' tabOk ?_))
  simp [hC]
  refine T.block ?_
  refine T.loopLe (fun m s => ∃ i : Nat, m = k - i ∧ i ≤ k ∧ s = ⟨[(8, .int .i64 i), (7, .osl 1 0 (refF k M i).2.length), (6, .osl 0 0 k), (5, boolss (mat2 k M))], [(1, ⟨22, 1, (refF k M i).2.map ints⟩), (0, ⟨4, 1, vecB k (refF k M i).1⟩)], 2⟩) (n := k) ?_ ?_
  · refine upTo.le (Le.own 7 22 1 rfl) ?_
    refine upTo.trim [8, 7, 6, 5] [1, 0] 2 (by simp) ⟨0, rfl, Nat.zero_le _, ?_⟩
    simp [boolss, hml, refF, vecB_rep]
  · rintro m s ⟨i, rfl, hi, rfl⟩
    generalize hD : refF k M i = D
    have hDl : D.2.length ≤ i := by rw [← hD]; exact refF_le k M i
    have hS := refF_succ k M i
    rw [hD] at hS
    obtain ⟨d, out⟩ := D
    simp only at hDl
    refine T.seq (T.seq (T.go' tabOk ?_))
    simp [hC, boolss, hml]
    refine T.cond_if rfl (fun h => ?_) (fun h => ?_)
    · have hik : i < k := by simpa using h
      have hwi := w64 ((i : Int) + 1) (by omega) (by omega)
      refine T.skip ?_
      simp
      refine T.seq (T.block (T.seq (T.seq (T.go' tabOk ?_))))
      simp [hC, hik]
      refine T.cond_if rfl (fun h => ?_) (fun h => ?_)
      · refine T.exit ?_
        simp
        refine T.go' tabOk ?_
        simp [hC, hwi]
        refine ⟨_, ?_, upTo.le (Le.env [8, 7, 6, 5]) (upTo.here ⟨i + 1, rfl, hik, ?_⟩)⟩
        · omega
        · have hd : d i = true := by simpa using h
          simp [hS, refStep, hd]
      · have hd : d i = false := by simpa using h
        refine T.skip ?_
        simp
        refine T.seq (T.go' tabOk ?_)
        simp [hC]
        refine T.seq (T.seq (T.go' tabOk ?_))
        simp [hC, hwi]
        refine T.block ?_
        refine T.loopLe (fun m s => ∃ j : Nat, m = k - j ∧ i < j ∧ j ≤ k ∧ s = ⟨[(10, .int .i64 j), (9, .osl 2 0 (lstR M i j).length), (8, .int .i64 i), (7, .osl 1 0 out.length), (6, .osl 0 0 k), (5, boolss (mat2 k M))], [(2, ⟨3, 1, (natI (lstR M i j)).map I64⟩), (1, ⟨22, 1, out.map ints⟩), (0, ⟨4, 1, vecB k (doneR d M i j)⟩)], 3⟩) (n := k - (i + 1)) ?_ ?_
        · refine upTo.trim [10, 9, 8, 7, 6, 5] [2, 1, 0] 3 (by simp) ⟨i + 1, rfl, by omega, hik, ?_⟩
          simp [boolss, hml, lstR_start, doneR_start, natI]
        · rintro m s ⟨j, rfl, hij, hj, rfl⟩
          refine T.seq (T.seq (T.go' tabOk ?_))
          simp [hC, boolss, hml]
          refine T.cond_if rfl (fun h => ?_) (fun h => ?_)
          · have hjk : j < k := by simpa using h
            have hwj := w64 ((j : Int) + 1) (by omega) (by omega)
            have gi := mat2_get k M i hik
            have gj := mat2_get k M j hjk
            refine T.skip ?_
            simp
            refine T.seq (T.block (T.cut (fun s => s = ⟨[(52, .bool (both M i j)), (10, .int .i64 j), (9, .osl 2 0 (lstR M i j).length), (8, .int .i64 i), (7, .osl 1 0 out.length), (6, .osl 0 0 k), (5, boolss (mat2 k M))], [(2, ⟨3, 1, (natI (lstR M i j)).map I64⟩), (1, ⟨22, 1, out.map ints⟩), (0, ⟨4, 1, vecB k (doneR d M i j)⟩)], 3⟩) (T.go' tabOk ?_) ?_))
            · cases q1 : M i j <;> cases q2 : M j i
              all_goals
                simp [hC, boolss, bools, hml, q1, q2, hik, hjk]
                refine upTo.le (Le.env [52, 10, 9, 8, 7, 6, 5]) (upTo.here ?_)
                simp [both, q1, q2]
            · rintro s rfl
              refine T.cond_if rfl (fun h => ?_) (fun h => ?_)
              · have hm : both M i j = true := h
                have hL := lstR_le M i j
                have hb8 : ((((lstR M i j).length : Nat) : Int) + 1) * 8 ≤ 140737488355328 := by omega
                have hb8' : ((lstR M i j).length + 1) * 8 ≤ 140737488355328 := by omega
                refine T.go' tabOk ?_
                simp [hC, hjk, hb8', vecB_put k _ j true hjk, Nat.succ_le_of_lt hjk]
                refine T.go' tabOk ?_
                simp [hC, hwj]
                refine ⟨_, ?_, upTo.trim [10, 9, 8, 7, 6, 5] [2, 1, 0] 3 (by simp) ⟨j + 1, rfl, by omega, hjk, ?_⟩⟩
                · omega
                · simp [lstR_succ _ _ _ hij, doneR_succ _ _ _ _ hij, hm, natI, boolss, hml]
                  congr 1; funext x; unfold upd1; split <;> simp [*]
              · have hm : both M i j = false := h
                refine T.skip ?_
                simp
                refine T.go' tabOk ?_
                simp [hC, hwj]
                refine ⟨_, ?_, upTo.le (Le.env [10, 9, 8, 7, 6, 5]) (upTo.here ⟨j + 1, rfl, by omega, hjk, ?_⟩)⟩
                · omega
                · simp [lstR_succ _ _ _ hij, doneR_succ _ _ _ _ hij, hm, boolss, hml]
          · have hjk : j = k := by simp at h; omega
            subst hjk
            refine T.exit ?_
            simp
            have hL := lstR_le M i j
            have hb24 : (((out.length : Nat) : Int) + 1) * 24 ≤ 140737488355328 := by omega
            have hb24' : (out.length + 1) * 24 ≤ 140737488355328 := by omega
            refine T.le (Le.trans (Le.frz (o := 2) (ob := ⟨3, 1, (natI (lstR M i j)).map I64⟩) (by simp) (by simp)) (Le.env [9, 8, 7, 6, 5])) ?_
            refine T.go' tabOk ?_
            simp [hC, hb24']
            refine T.go' tabOk ?_
            simp [hC, hwi]
            refine ⟨_, ?_, upTo.trim [8, 7, 6, 5] [1, 0] 2 (by simp) ⟨i + 1, rfl, hik, ?_⟩⟩
            · omega
            · simp [hS, refStep, hd, ints, List.take_of_length_le]
    · have hik : i = k := by simp at h; omega
      subst hik
      refine T.exit ?_
      simp
      refine T.seq (T.go' tabOk ?_)
      simp [hC]
      refine T.ret ?_
      refine upTo.le (Le.frz (o := 1) (ob := ⟨22, 1, out.map ints⟩) (by simp) (by simp)) (upTo.here ?_)
      simp [Try.results18, refComps, hD, intss, List.take_of_length_le]
end Go.Proofs.Ytgiphneejidahaa
