/- Contracts: Ways. -/
import Derived.Test.YtgiphneejidahaaW3
import Derived.Test.YtgiphneejidahaaMat
namespace Go.Proofs.Ytgiphneejidahaa
open Go.Can

theorem upd2_eq : upd2 = up2 := rfl

set_option maxRecDepth 10000 in
theorem c24_ok (n : Int) (ps : List (List Int)) (hl : ps.length ≤ 4611686018427387904) : PureCall Try.prog 24 [.int .i64 n, intss ps] (boolss (mat2 (nn n) (reachM n ps))) := by
  refine PureCall.of_TLe Try.func24 rfl (by kernel_rfl) (by simp [Try.ntmps24]) rfl fun C hC => ?_
  rw [Try.ntmps24] at hC
  have h64 := nn_le n
  refine T.seq (T.go' tabOk ?_)
  simp [hC]
  refine T.seq (T.go' tabOk ?_)
  simp [hC]
  refine TL.call (by simp [hC]) rfl rfl (CallQ.of rfl rfl (c40_ok n)) (TL.go' tabOk ?_)
  simp [hC]
  generalize hN : nn n = N at *
  refine T.seq (T.go' tabOk ?_)
  have b1 : (24 : Int) * (N : Int) ≤ 281474976710656 := by omega
  have b2 : (N : Int) ≤ 9223372036854775807 := by omega
  have b3 : (N : Int) ≤ 281474976710656 := by omega
  simp [hC, b1, b2]
  refine T.seq (T.seq (T.go' tabOk ?_))
  simp [hC]
  refine T.block ?_
  refine T.loopLe (fun m s => ∃ k : Nat, m = N - k ∧ k ≤ N ∧ s = ⟨[(6, .int .i64 k), (5, .osl 0 0 N), (0, .int .i64 N), (1, intss ps)], heapP 4 35 N k, k + 1⟩) (n := N) ?_ ?_
  · refine upTo.trim [6, 5, 0, 1] [0] 1 (by simp) ⟨0, rfl, Nat.zero_le _, ?_⟩
    simp [heapP, rowsH, partC, outC]
  · rintro m s ⟨k, rfl, hk, rfl⟩
    refine T.seq (T.seq (T.go' tabOk ?_))
    simp [hC]
    refine T.cond_if rfl (fun h => ?_) (fun h => ?_)
    · have hkN : k < N := by simpa using h
      refine T.skip ?_
      simp
      refine T.seq (T.block (T.go' tabOk ?_))
      have hw := w64 ((k : Int) + 1) (by omega) (by omega)
      have hlen := partC_length N k hk
      have hkN' : k + 1 ≤ N := hkN
      simp [hC, b2, b3, heapP_out, hkN, hlen, hkN', heapP_put' 4 35 N k hkN]
      refine T.go' tabOk ?_
      simp [hC, hw]
      refine ⟨_, ?_, upTo.le (Le.env [6, 5, 0, 1]) (upTo.here ⟨k + 1, rfl, hkN', ?_⟩)⟩
      · omega
      · simp
    · have hkN : k = N := by simp at h; omega
      subst hkN
      refine T.exit ?_
      simp [heapP_done]
      refine T.seq (T.seq (T.go' tabOk ?_))
      simp [hC]
      refine T.block ?_
      refine T.loopLe (fun m s => ∃ i : Nat, m = ps.length - i ∧ i ≤ ps.length ∧ s = ⟨[(7, .int .i64 i), (5, .osl 0 0 k), (0, .int .i64 k), (1, intss ps)], heapM 4 35 k (edgeM k (ps.take i)), k + 1⟩) (n := ps.length) ?_ ?_
      · refine upTo.le (Le.env [7, 5, 0, 1]) (upTo.here ⟨0, rfl, Nat.zero_le _, ?_⟩)
        simp [edgeM]
      · rintro m s ⟨i, rfl, hi, rfl⟩
        refine T.seq (T.seq (T.go' tabOk ?_))
        simp [hC, intss]
        refine T.cond_if rfl (fun h => ?_) (fun h => ?_)
        · have hip : i < ps.length := by simpa using h
          have ep : ps[i]? = some ps[i] := List.getElem?_eq_getElem hip
          refine T.skip ?_
          simp
          refine T.seq (T.block (T.seq (T.go' tabOk ?_)))
          have hw := w64 ((i : Int) + 1) (by omega) (by omega)
          simp [hC, hip]
          refine TL.call (by simp [hC]) rfl rfl (CallQ.of rfl rfl (c41_ok k ps[i])) (TL.go' tabOk ?_)
          simp
          refine T.cond_if rfl (fun h => ?_) (fun h => ?_)
          · obtain ⟨a, b, e, ha, hb⟩ := arrow_nat k _ h
            have hs := edgeM_succ k ps i hip
            rw [e] at ep
            have hs' : edgeM k (ps.take (i + 1)) = upd2 (edgeM k (ps.take i)) a b true := by
              rw [hs]; unfold stepP; rw [if_pos h, e]; simp [upd2_eq]
            refine T.draw' tabOk follows [] [0, 1, 2, 3, 4, 5, 6, 7, 8, 9, 10, 11, 12, 13, 14, 15] [16] (by kernel_rfl) ?_
            simp [hC, hip, e, ints, heapM_out, heapM_row, outC_get, rowC_length, ha, hb, Nat.succ_le_of_lt hb, heapM_put' 4 35 k _ a b true ha hb]
            refine T.go' tabOk ?_
            simp [hC, hw]
            refine ⟨_, ?_, upTo.le (Le.env [7, 5, 0, 1]) (upTo.here ⟨i + 1, rfl, hip, ?_⟩)⟩
            · omega
            · simp [hs']
          · have hs' : edgeM k (ps.take (i + 1)) = edgeM k (ps.take i) := by
              rw [edgeM_succ k ps i hip]; unfold stepP; rw [if_neg (by simp [h])]
            refine T.skip ?_
            simp
            refine T.go' tabOk ?_
            simp [hC, hw]
            refine ⟨_, ?_, upTo.le (Le.env [7, 5, 0, 1]) (upTo.here ⟨i + 1, rfl, hip, ?_⟩)⟩
            · omega
            · simp [hs']
        · have hip : i = ps.length := by simp at h; omega
          refine T.exit ?_
          simp [hip]
          refine T.seq (T.seq (T.go' tabOk ?_))
          simp [hC]
          refine T.block ?_
          generalize hE : edgeM k ps = E
          refine T.loopLe (fun m s => ∃ x : Nat, m = k - x ∧ x ≤ k ∧ s = ⟨[(8, .int .i64 x), (5, .osl 0 0 k), (0, .int .i64 k)], heapM 4 35 k ((List.range x).foldl (matI k) E), k + 1⟩) (n := k) ?_ ?_
          · refine upTo.le (Le.env [8, 5, 0]) (upTo.here ⟨0, rfl, Nat.zero_le _, ?_⟩)
            simp
          · rintro m s ⟨x, rfl, hx, rfl⟩
            generalize hM : (List.range x).foldl (matI k) E = M
            refine T.seq (T.seq (T.go' tabOk ?_))
            simp [hC]
            refine T.cond_if rfl (fun h => ?_) (fun h => ?_)
            · have hxk : x < k := by simpa using h
              have hwx := w64 ((x : Int) + 1) (by omega) (by omega)
              refine T.skip ?_
              simp
              refine T.seq (T.block (T.seq (T.go' tabOk ?_)))
              simp [hC]
              refine T.block ?_
              refine T.loopLe (fun m s => ∃ y : Nat, m = k - y ∧ y ≤ k ∧ s = ⟨[(9, .int .i64 y), (8, .int .i64 x), (5, .osl 0 0 k), (0, .int .i64 k)], heapM 4 35 k ((List.range y).foldl (rowJ k x) M), k + 1⟩) (n := k) ?_ ?_
              · refine upTo.le (Le.env [9, 8, 5, 0]) (upTo.here ⟨0, rfl, Nat.zero_le _, ?_⟩)
                simp
              · rintro m s ⟨y, rfl, hy, rfl⟩
                generalize hR : (List.range y).foldl (rowJ k x) M = R
                refine T.seq (T.seq (T.go' tabOk ?_))
                simp [hC]
                refine T.cond_if rfl (fun h => ?_) (fun h => ?_)
                · have hyk : y < k := by simpa using h
                  have hwy := w64 ((y : Int) + 1) (by omega) (by omega)
                  refine T.skip ?_
                  simp
                  refine T.seq (T.block (T.seq (T.go' tabOk ?_)))
                  simp [hC]
                  refine T.block ?_
                  refine T.loopLe (fun m s => ∃ z : Nat, m = k - z ∧ z ≤ k ∧ s = ⟨[(10, .int .i64 z), (9, .int .i64 y), (8, .int .i64 x), (5, .osl 0 0 k), (0, .int .i64 k)], heapM 4 35 k ((List.range z).foldl (stepJ x y) R), k + 1⟩) (n := k) ?_ ?_
                  · refine upTo.le (Le.env [10, 9, 8, 5, 0]) (upTo.here ⟨0, rfl, Nat.zero_le _, ?_⟩)
                    simp
                  · rintro m s ⟨z, rfl, hz, rfl⟩
                    generalize hQ : (List.range z).foldl (stepJ x y) R = Q
                    refine T.seq (T.seq (T.go' tabOk ?_))
                    simp [hC]
                    refine T.cond_if rfl (fun h => ?_) (fun h => ?_)
                    · have hzk : z < k := by simpa using h
                      have hwz := w64 ((z : Int) + 1) (by omega) (by omega)
                      refine T.skip ?_
                      simp
                      refine T.seq (T.block ?_)
                      refine T.draw' tabOk follows [] [0, 1, 2, 3, 4, 5, 6, 7, 8, 9, 10, 11, 12, 13, 14, 15, 16, 17, 18, 19, 20, 21, 22, 23, 24, 25, 26, 27, 28, 29, 30] [31] (by kernel_rfl) ?_
                      cases q1 : Q y z <;> cases q2 : Q y x <;>
                      simp [hC, heapM_out, heapM_row, outC_get, rowC_length, hxk, hyk, hzk, q1, q2, Nat.succ_le_of_lt hzk, heapM_put' 4 35 k _ y z _ hyk hzk]
                      all_goals
                        refine T.go' tabOk ?_
                        simp [hC, hwz]
                        refine ⟨_, ?_, upTo.le (Le.env [10, 9, 8, 5, 0]) (upTo.here ⟨z + 1, rfl, hzk, ?_⟩)⟩
                        · omega
                        · simp [foldR_succ, hQ, stepJ, q1, q2, upd2_eq]
                    · have hzk : z = k := by simp at h; omega
                      subst hzk
                      refine T.exit ?_
                      simp
                      refine T.go' tabOk ?_
                      simp [hC, hwy]
                      refine ⟨_, ?_, upTo.le (Le.env [9, 8, 5, 0]) (upTo.here ⟨y + 1, rfl, hyk, ?_⟩)⟩
                      · omega
                      · simp [foldR_succ, hR, hQ, rowJ]
                · have hyk : y = k := by simp at h; omega
                  subst hyk
                  refine T.exit ?_
                  simp
                  refine T.go' tabOk ?_
                  simp [hC, hwx]
                  refine ⟨_, ?_, upTo.le (Le.env [8, 5, 0]) (upTo.here ⟨x + 1, rfl, hxk, ?_⟩)⟩
                  · omega
                  · simp [foldR_succ, hM, hR, matI]
            · have hxk : x = k := by simp at h; omega
              subst hxk
              refine T.exit ?_
              simp
              refine T.seq (T.go' tabOk ?_)
              simp [hC]
              refine T.ret ?_
              refine upTo.le (Le.env [4]) ?_
              simp
              refine upTo.le (Le.mat 4 35 _ _ 4 _) (upTo.here ?_)
              simp [hM, reachM, hN, hE, warsh]
end Go.Proofs.Ytgiphneejidahaa
