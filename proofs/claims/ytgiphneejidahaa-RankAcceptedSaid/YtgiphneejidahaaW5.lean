/- Contracts: reached. -/
import Derived.Test.YtgiphneejidahaaW4
import Derived.Test.YtgiphneejidahaaCan15
namespace Go.Proofs.Ytgiphneejidahaa
open Go.Can

set_option maxHeartbeats 4000000 in
set_option maxRecDepth 10000 in
theorem c36_ok (n : Int) (ps : List (List Int)) (hl : ps.length ≤ 4611686018427387904) : PureCall Try.prog 36 [.int .i64 n, intss ps] (boolss (mat2 (nn n) (reachM n ps))) := by
  refine PureCall.of_TLe Try.func36 rfl (by kernel_rfl) (by simp [Try.ntmps36]) rfl fun C hC => ?_
  rw [Try.ntmps36] at hC
  have h64 := nn_le n
  have hmm : (if (64 : Int) < (if n < 0 then 0 else n) then 64 else if n < 0 then 0 else n) = (nn n : Int) := by unfold nn; split <;> split at * <;> omega
  refine T.seq (T.go' tabOk ?_)
  simp [hC]
  generalize hN : nn n = k at *
  have b1 : (24 : Int) * (k : Int) ≤ 281474976710656 := by omega
  have b2 : (k : Int) ≤ 9223372036854775807 := by omega
  have b3 : (k : Int) ≤ 281474976710656 := by omega
  generalize hE : edgeM k ps = E
  refine T.scopeGo 0 (fun m s => ∃ x : Nat, m = k - x ∧ x ≤ k ∧ s = ⟨[(9, .int .i64 x), (5, .osl 0 0 k), (0, .int .i64 k)], heapM 4 35 k ((List.range x).foldl (matI k) E), k + 1⟩) rfl ?_ fun go => ?_
  · rintro m s ⟨x, rfl, hx, rfl⟩
    generalize hM : (List.range x).foldl (matI k) E = M
    refine T.seq (T.seq (T.go' tabOk ?_))
    simp [hC]
    refine T.cond_if rfl (fun h => ?_) (fun h => ?_)
    · have hxk : x < k := by simpa using h
      have hwx := w64 ((x : Int) + 1) (by omega) (by omega)
      refine T.seq (T.seq (T.go' tabOk ?_))
      simp [hC]
      refine T.block ?_
      refine T.loopLe (fun m s => ∃ y : Nat, m = k - y ∧ y ≤ k ∧ s = ⟨[(79, .int .i64 y), (78, .int .i64 k), (9, .int .i64 x), (5, .osl 0 0 k), (0, .int .i64 k)], heapM 4 35 k ((List.range y).foldl (rowJ k x) M), k + 1⟩) (n := k) ?_ ?_
      · refine upTo.le (Le.env [79, 78, 9, 5, 0]) (upTo.here ⟨0, rfl, Nat.zero_le _, ?_⟩)
        simp
      · rintro m s ⟨y, rfl, hy, rfl⟩
        generalize hR : (List.range y).foldl (rowJ k x) M = R
        refine T.seq (T.go' tabOk ?_)
        simp [hC]
        refine T.seq (T.cond_if rfl (fun h => ?_) (fun h => ?_))
        · have hyk : y < k := by simpa using h
          have hwy := w64 ((y : Int) + 1) (by omega) (by omega)
          refine T.skip ?_
          simp
          refine T.seq (T.block (T.seq (T.go' tabOk ?_)))
          simp [hC]
          refine T.seq (T.go' tabOk ?_)
          simp [hC]
          refine T.block ?_
          refine T.loopLe (fun m s => ∃ z : Nat, m = k - z ∧ z ≤ k ∧ s = ⟨[(84, .int .i64 z), (83, .int .i64 k), (10, .int .i64 y), (79, .int .i64 y), (78, .int .i64 k), (9, .int .i64 x), (5, .osl 0 0 k), (0, .int .i64 k)], heapM 4 35 k ((List.range z).foldl (stepJ x y) R), k + 1⟩) (n := k) ?_ ?_
          · refine upTo.le (Le.env [84, 83, 10, 79, 78, 9, 5, 0]) (upTo.here ⟨0, rfl, Nat.zero_le _, ?_⟩)
            simp
          · rintro m s ⟨z, rfl, hz, rfl⟩
            generalize hQ : (List.range z).foldl (stepJ x y) R = Q
            refine T.seq (T.go' tabOk ?_)
            simp [hC]
            refine T.seq (T.cond_if rfl (fun h => ?_) (fun h => ?_))
            · have hzk : z < k := by simpa using h
              have hwz := w64 ((z : Int) + 1) (by omega) (by omega)
              refine T.skip ?_
              simp
              refine T.seq (T.block (T.seq (T.go' tabOk ?_)))
              simp [hC]
              refine T.draw' tabOk follows [] [0, 1, 2, 3, 4, 5, 6, 7, 8, 9, 10, 11, 12, 13, 14, 15, 16, 17, 18, 19, 20, 21, 22, 23, 24, 25, 26, 27, 28, 29, 30] [31] (by kernel_rfl) ?_
              cases q1 : Q y z <;> cases q2 : Q y x <;>
              simp [hC, heapM_out, heapM_row, outC_get, rowC_length, hxk, hyk, hzk, q1, q2, Nat.succ_le_of_lt hzk, heapM_put' 4 35 k _ y z _ hyk hzk]
              all_goals
                refine T.go' tabOk ?_
                simp [hC, hwz]
                refine ⟨_, ?_, upTo.le (Le.env [84, 83, 10, 79, 78, 9, 5, 0]) (upTo.here ⟨z + 1, rfl, hzk, ?_⟩)⟩
                · omega
                · simp [foldR_succ, hQ, stepJ, q1, q2, upd2_eq]
            · have hzk : z = k := by simp at h; omega
              subst hzk
              refine T.exit ?_
              simp
              refine T.go' tabOk ?_
              simp [hC, hwy]
              refine ⟨_, ?_, upTo.le (Le.env [79, 78, 9, 5, 0]) (upTo.here ⟨y + 1, rfl, hyk, ?_⟩)⟩
              · omega
              · simp [foldR_succ, hR, hQ, rowJ]
        · have hyk : y = k := by simp at h; omega
          subst hyk
          refine T.exit ?_
          simp
          refine T.seq (T.go' tabOk ?_)
          simp [hC, hwx]
          refine T.goto ?_
          simp
          refine ⟨_, ?_, upTo.le (Le.env [9, 5, 0]) (upTo.here ⟨x + 1, rfl, hxk, ?_⟩)⟩
          · omega
          · simp [foldR_succ, hM, hR, matI]
    · have hxk : x = k := by simp at h; omega
      subst hxk
      refine T.skip ?_
      simp
      refine T.seq (T.go' tabOk ?_)
      simp [hC]
      refine T.ret ?_
      refine upTo.le (Le.env [4]) ?_
      simp
      refine upTo.le (Le.mat 4 35 _ _ 4 _) (upTo.here ?_)
      simp [hM, reachM, hN, hE, warsh]
  · refine T.seq (T.go' tabOk ?_)
    simp [hC, hmm]
    refine T.seq (T.go' tabOk ?_)
    simp [hC, b1, b2]
    refine T.seq (T.seq (T.go' tabOk ?_))
    simp [hC]
    refine T.block ?_
    refine T.loopLe (fun m s => ∃ x : Nat, m = k - x ∧ x ≤ k ∧ s = ⟨[(19, .int .i64 x), (18, .int .i64 k), (5, .osl 0 0 k), (0, .int .i64 k), (1, intss ps)], heapP 4 35 k x, x + 1⟩) (n := k) ?_ ?_
    · refine upTo.trim [19, 18, 5, 0, 1] [0] 1 (by simp) ⟨0, rfl, Nat.zero_le _, ?_⟩
      simp [heapP, rowsH, partC, outC]
    · rintro m s ⟨x, rfl, hk, rfl⟩
      refine T.seq (T.go' tabOk ?_)
      simp [hC]
      refine T.seq (T.cond_if rfl (fun h => ?_) (fun h => ?_))
      · have hkN : x < k := by simpa using h
        refine T.skip ?_
        simp
        refine T.seq (T.block (T.seq (T.go' tabOk ?_)))
        simp [hC]
        refine T.go' tabOk ?_
        have hw := w64 ((x : Int) + 1) (by omega) (by omega)
        have hlen := partC_length k x hk
        have hkN' : x + 1 ≤ k := hkN
        simp [hC, b2, b3, heapP_out, hkN, hlen, hkN', heapP_put' 4 35 k x hkN]
        refine T.go' tabOk ?_
        simp [hC, hw]
        refine ⟨_, ?_, upTo.le (Le.env [19, 18, 5, 0, 1]) (upTo.here ⟨x + 1, rfl, hkN', ?_⟩)⟩
        · omega
        · simp
      · have hkN : x = k := by simp at h; omega
        subst hkN
        refine T.exit ?_
        simp [heapP_done]
        refine T.seq (T.seq (T.go' tabOk ?_))
        simp [hC]
        refine T.block ?_
        refine T.loopLe (fun m s => ∃ i : Nat, m = ps.length - i ∧ i ≤ ps.length ∧ s = ⟨[(30, .int .i64 i), (29, .int .i64 ps.length), (28, intss ps), (5, .osl 0 0 x), (0, .int .i64 x)], heapM 4 35 x (edgeM x (ps.take i)), x + 1⟩) (n := ps.length) ?_ ?_
        · refine upTo.le (Le.env [30, 29, 28, 5, 0]) (upTo.here ⟨0, rfl, Nat.zero_le _, ?_⟩)
          simp [edgeM, intss]
        · rintro m s ⟨i, rfl, hi, rfl⟩
          refine T.seq (T.go' tabOk ?_)
          simp [hC, intss]
          refine T.seq (T.cond_if rfl (fun h => ?_) (fun h => ?_))
          · have hip : i < ps.length := by simpa using h
            have ep : ps[i]? = some ps[i] := List.getElem?_eq_getElem hip
            have hw := w64 ((i : Int) + 1) (by omega) (by omega)
            refine T.skip ?_
            simp
            refine T.seq (T.block (T.seq (T.go' tabOk ?_)))
            simp [hC, hip]
            generalize hp : ps[i] = p
            refine T.cut (fun s => s = ⟨[(62, .bool (arrowB x p)), (8, ints p), (30, .int .i64 i), (29, .int .i64 ps.length), (28, intss ps), (5, .osl 0 0 x), (0, .int .i64 x)], heapM 4 35 x (edgeM x (ps.take i)), x + 1⟩) (T.go' tabOk ?_) ?_
            · rcases p with _ | ⟨a, _ | ⟨b, _ | ⟨c, r⟩⟩⟩
              · simp [hC, ints]
                refine upTo.le (Le.env [62, 8, 30, 29, 28, 5, 0]) (upTo.here ?_)
                simp [arrowB, intss]
              · simp [hC, ints]
                refine upTo.le (Le.env [62, 8, 30, 29, 28, 5, 0]) (upTo.here ?_)
                simp [arrowB, intss]
              · by_cases h1 : 0 ≤ a <;> by_cases h2 : a < x <;> by_cases h3 : 0 ≤ b <;> by_cases h4 : b < x
                all_goals
                  simp [hC, ints, h1, h2, h3, h4]
                  refine upTo.le (Le.env [62, 8, 30, 29, 28, 5, 0]) (upTo.here ?_)
                  simp [arrowB, intss, h1, h2, h3, h4]
              · have hne : ¬ ((r.length : Int) + 1 + 1 + 1 = 2) := by omega
                simp [hC, ints]
                refine upTo.le (Le.env [62, 8, 30, 29, 28, 5, 0]) (upTo.here ?_)
                simp [arrowB, intss]
            · rintro s rfl
              refine T.cond_if rfl (fun h => ?_) (fun h => ?_)
              · obtain ⟨a, b, e, ha, hb⟩ := arrow_nat x _ h
                have hs := edgeM_succ x ps i hip
                have hs' : edgeM x (ps.take (i + 1)) = upd2 (edgeM x (ps.take i)) a b true := by
                  rw [hs, hp]; unfold stepP; rw [if_pos h, e]; simp [upd2_eq]
                refine T.draw' tabOk follows [] [0, 1, 2, 3, 4, 5, 6, 7, 8, 9] [10] (by kernel_rfl) ?_
                simp [hC, e, ints, heapM_out, heapM_row, outC_get, rowC_length, ha, hb, Nat.succ_le_of_lt hb, heapM_put' 4 35 x _ a b true ha hb]
                refine T.go' tabOk ?_
                simp [hC, hw]
                refine ⟨_, ?_, upTo.le (Le.env [30, 29, 28, 5, 0]) (upTo.here ⟨i + 1, rfl, hip, ?_⟩)⟩
                · omega
                · simp [hs', intss]
              · have hs' : edgeM x (ps.take (i + 1)) = edgeM x (ps.take i) := by
                  rw [edgeM_succ x ps i hip]; unfold stepP; rw [hp, if_neg (by simp [h])]
                refine T.skip ?_
                simp
                refine T.go' tabOk ?_
                simp [hC, hw]
                refine ⟨_, ?_, upTo.le (Le.env [30, 29, 28, 5, 0]) (upTo.here ⟨i + 1, rfl, hip, ?_⟩)⟩
                · omega
                · simp [hs', intss]
          · have hip : i = ps.length := by simp at h; omega
            refine T.exit ?_
            simp [hip]
            refine T.seq (T.go' tabOk ?_)
            simp [hC]
            refine T.seq (T.label ?_)
            refine go (x - 0) _ (upTo.le (Le.env [9, 5, 0]) (upTo.here ⟨0, rfl, Nat.zero_le _, ?_⟩))
            simp [hE]
end Go.Proofs.Ytgiphneejidahaa
