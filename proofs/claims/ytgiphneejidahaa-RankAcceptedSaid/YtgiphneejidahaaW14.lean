/- Law SccPartition. -/
import Derived.Test.YtgiphneejidahaaW13
import Derived.Test.YtgiphneejidahaaSpec4
namespace Go.Proofs.Ytgiphneejidahaa
open Go.Can

theorem codeComps_nat (k : Nat) (ps : List (List Int)) (h : k ≤ 64) : ∃ L : List (List Nat), codeComps k ps = L.map natI ∧ Divides k (reachM k ps) L ∧ L.length ≤ 64 := by
  have hnn := nn_nat k h
  have ht := reach_trans k ps
  rw [hnn] at ht
  refine ⟨(compsFN k (reachM k ps) k).2, ?_, divides ht, ?_⟩
  · unfold codeComps comps; rw [hnn]; exact (compsFN_eq k (reachM k ps) k).2.symm
  · have := compsF_le k (reachM k ps) k
    rw [← (compsFN_eq k (reachM k ps) k).2, List.length_map] at this
    omega

set_option maxHeartbeats 4000000 in
set_option maxRecDepth 10000 in
theorem c6_ok (n : Int) (l : List Int) (hl : l.length ≤ 9223372036854775807) : PureCall Try.prog 6 [.int .i64 n, ints l] (.bool true) := by
  refine PureCall.of_TLe Try.func6 rfl (by kernel_rfl) (by simp [Try.ntmps6]) rfl fun C hC => ?_
  rw [Try.ntmps6] at hC
  refine T.seq (T.go' tabOk ?_)
  simp [hC]
  refine T.seq (T.go' tabOk ?_)
  simp [hC]
  refine TL.call (by simp [hC]) rfl rfl (CallQ.of rfl rfl (c14_ok n)) (TL.go' tabOk ?_)
  simp [hC]
  have hk0 := Int.emod_nonneg n (show (13 : Int) ≠ 0 by decide)
  have hk1 := Int.emod_lt_of_pos n (show (0 : Int) < 13 by decide)
  obtain ⟨k, hk⟩ : ∃ k : Nat, n % 13 = k := ⟨(n % 13).toNat, by omega⟩
  rw [hk] at hk0 hk1 ⊢
  have hnn := nn_nat k (by omega)
  refine T.seq (T.go' tabOk ?_)
  simp [hC]
  generalize hx : (if (k : Int) < 1 then (1 : Int) else k) = mx
  have hmx : 0 < mx ∧ mx ≤ 4611686018427387904 := by
    split at hx <;> omega
  refine TL.call (by simp [hC]) rfl rfl (CallQ.of rfl rfl (c15_ok l mx hmx.1 hmx.2 hl)) (TL.go' tabOk ?_)
  have hps := pairsOf_le l mx
  generalize pairsOf l mx = ps at *
  have hpl : ps.length ≤ 4611686018427387904 := by omega
  simp [hC]
  refine T.seq (T.go' tabOk ?_)
  simp [hC]
  refine TL.call (by simp [hC]) rfl rfl (CallQ.of rfl rfl (c17_ok k ps hpl)) (TL.go' tabOk ?_)
  obtain ⟨L, hL, hD, hLl⟩ := codeComps_nat k ps (by omega)
  have h25 : ∀ a b : Nat, a < k → b < k → PureCall Try.prog 25 [.int .i64 k, intss ps, .int .i64 a, .int .i64 b] (.bool (reachM k ps a b)) := fun a b ha hb => by
    have := c25_ok k ps a b hpl
    unfold reachB at this
    rw [hnn] at this
    simpa [ha, hb] using this
  rw [hL]
  generalize reachM k ps = M at *
  simp [hC]
  refine T.seq (T.go' tabOk ?_)
  have b1 : (8 : Int) * (k : Int) ≤ 281474976710656 := by omega
  have b2 : (k : Int) ≤ 9223372036854775807 := by omega
  simp [hC, b1, b2]
  refine T.seq (T.go' tabOk ?_)
  simp [hC]
  refine T.seq (T.seq (T.go' tabOk ?_))
  simp [hC]
  refine T.block ?_
  have hcount := hD.count
  refine T.loopLe (fun m s => ∃ i : Nat, m = L.length - i ∧ i ≤ L.length ∧ s = ⟨[(9, .int .i64 i), (8, .int .i64 (cntL L i)), (7, .osl 0 0 k), (6, intss (L.map natI)), (5, intss ps), (0, .int .i64 k)], [(0, ⟨3, 1, vecI k (ofL L i)⟩)], 1⟩) (n := L.length) ?_ ?_
  · refine upTo.le (Le.env [9, 8, 7, 6, 5, 0]) (upTo.here ⟨0, rfl, Nat.zero_le _, ?_⟩)
    simp [cntL]
    exact vecI_rep k 0
  · rintro m s ⟨i, rfl, hi, rfl⟩
    refine T.seq (T.seq (T.go' tabOk ?_))
    simp [hC, intss]
    refine T.cond_if rfl (fun h => ?_) (fun h => ?_)
    · have hip : i < L.length := by simpa using h
      have hwi := w64 ((i : Int) + 1) (by omega) (by omega)
      have ep : L[i]? = some L[i] := List.getElem?_eq_getElem hip
      have hg : L.getD i [] = L[i] := by simp [List.getD, hip]
      have hcs := cntL_succ L i hip
      have hcl := cntL_le L (i + 1)
      generalize hli : L[i] = li at *
      have hlt : ∀ x ∈ li, x < k := hD.lt li (by rw [← hli]; exact List.getElem_mem hip)
      refine T.skip ?_
      simp
      refine T.seq (T.block (T.seq (T.go' tabOk ?_)))
      simp [hC]
      refine T.block ?_
      refine T.loopLe (fun m s => ∃ j : Nat, m = li.length - j ∧ j ≤ li.length ∧ s = ⟨[(10, .int .i64 j), (9, .int .i64 i), (8, .int .i64 ((cntL L i + j : Nat) : Int)), (7, .osl 0 0 k), (6, intss (L.map natI)), (5, intss ps), (0, .int .i64 k)], [(0, ⟨3, 1, vecI k (ofJ L i j)⟩)], 1⟩) (n := li.length) ?_ ?_
      · refine upTo.le (Le.env [10, 9, 8, 7, 6, 5, 0]) (upTo.here ⟨0, rfl, Nat.zero_le _, ?_⟩)
        simp [ofJ_zero, intss]
      · rintro m s ⟨j, rfl, hj, rfl⟩
        refine T.seq (T.seq (T.go' tabOk ?_))
        simp [hC, intss, hip, hli, ints]
        refine T.le (Le.env [36, 10, 9, 8, 7, 6, 5, 0]) ?_
        simp
        refine T.cond_if rfl (fun h => ?_) (fun h => ?_)
        · have hjl : j < li.length := by simpa using h
          have ej : li[j]? = some li[j] := List.getElem?_eq_getElem hjl
          have hy : li[j] < k := hlt _ (List.getElem_mem hjl)
          have hwj := w64 ((j : Int) + 1) (by omega) (by omega)
          have hwc := w64 ((cntL L i : Int) + j + 1) (by omega) (by omega)
          have hput := ofJ_succ L i j li hg hjl
          generalize hyy : li[j] = y at *
          refine T.skip ?_
          simp
          refine T.seq (T.block (T.seq (T.seq (T.go' tabOk ?_))))
          have hny : ¬ ((k : Int) ≤ y) := by omega
          have hy0 : ¬ ((y : Int) < 0) := by omega
          simp [hC, hip, hli, ints, natI, hjl, hyy, hny, hy0]
          refine T.cond_false rfl ?_
          refine T.skip ?_
          simp
          refine T.le (Le.env [10, 9, 8, 7, 6, 5, 0]) ?_
          simp
          refine T.seq (T.go' tabOk ?_)
          simp [hC, hip, hli, ints, natI, hjl, hyy, hy, Nat.succ_le_of_lt hy]
          refine T.go' tabOk ?_
          simp [hC, hwc]
          refine T.go' tabOk ?_
          simp [hC, hwj]
          refine ⟨_, ?_, upTo.le (Le.env [10, 9, 8, 7, 6, 5, 0]) (upTo.here ⟨j + 1, rfl, hjl, ?_⟩)⟩
          · omega
          · simp
            refine ⟨by omega, ?_⟩
            rw [← hput]
            exact vecI_put k _ y i hy
        · have hjl : j = li.length := by simp at h; omega
          refine T.exit ?_
          simp
          refine T.go' tabOk ?_
          simp [hC, hwi]
          refine ⟨_, ?_, upTo.le (Le.env [9, 8, 7, 6, 5, 0]) (upTo.here ⟨i + 1, rfl, hip, ?_⟩)⟩
          · omega
          · simp [hcs, hjl, ofJ_full L i li.length (by rw [hg])]
    · have hip : i = L.length := by simp at h; omega
      have hcf := cntL_full L
      rw [hcount] at hcf
      subst hip
      refine T.exit ?_
      simp [hcf]
      have hsame := fun x y => ofL_same hD x y
      generalize ofL L L.length = F at *
      refine T.seq (T.seq (T.go' tabOk ?_))
      simp [hC]
      refine T.block ?_
      refine T.loopLe (fun m s => ∃ a : Nat, m = k - a ∧ a ≤ k ∧ s = ⟨[(11, .int .i64 a), (8, .int .i64 k), (7, .osl 0 0 k), (5, intss ps), (0, .int .i64 k)], [(0, ⟨3, 1, vecI k F⟩)], 1⟩) (n := k) ?_ ?_
      · refine upTo.le (Le.env [11, 8, 7, 5, 0]) (upTo.here ⟨0, rfl, Nat.zero_le _, ?_⟩)
        simp [intss]
      · rintro m s ⟨a, rfl, ha, rfl⟩
        refine T.seq (T.seq (T.go' tabOk ?_))
        simp [hC]
        refine T.cond_if rfl (fun h => ?_) (fun h => ?_)
        · have hak : a < k := by simpa using h
          have hwa := w64 ((a : Int) + 1) (by omega) (by omega)
          refine T.skip ?_
          simp
          refine T.seq (T.block (T.seq (T.go' tabOk ?_)))
          simp [hC]
          refine T.block ?_
          refine T.loopLe (fun m s => ∃ b : Nat, m = k - b ∧ b ≤ k ∧ s = ⟨[(12, .int .i64 b), (11, .int .i64 a), (8, .int .i64 k), (7, .osl 0 0 k), (5, intss ps), (0, .int .i64 k)], [(0, ⟨3, 1, vecI k F⟩)], 1⟩) (n := k) ?_ ?_
          · refine upTo.le (Le.env [12, 11, 8, 7, 5, 0]) (upTo.here ⟨0, rfl, Nat.zero_le _, ?_⟩)
            simp
          · rintro m s ⟨b, rfl, hb, rfl⟩
            refine T.seq (T.seq (T.go' tabOk ?_))
            simp [hC]
            refine T.cond_if rfl (fun h => ?_) (fun h => ?_)
            · have hbk : b < k := by simpa using h
              have hwb := w64 ((b : Int) + 1) (by omega) (by omega)
              refine T.skip ?_
              simp
              refine T.seq (T.block (T.cut (fun s => s = ⟨[(106, .bool false), (12, .int .i64 b), (11, .int .i64 a), (8, .int .i64 k), (7, .osl 0 0 k), (5, intss ps), (0, .int .i64 k)], [(0, ⟨3, 1, vecI k F⟩)], 1⟩) ?_ ?_))
              · refine T.draw' tabOk follows [] [0, 1, 2, 3, 4, 5, 6, 7, 8, 9, 10, 11, 12, 13, 14, 15, 16, 17, 18, 19, 20, 21, 22, 23, 24, 25, 26] [] (by kernel_rfl) ?_
                have hs := hsame a b hak hbk
                by_cases hab : a = b
                · subst hab
                  simp [hC, hak]
                  refine upTo.le (Le.env [106, 12, 11, 8, 7, 5, 0]) (upTo.here ?_)
                  simp
                · have hne : ((a : Int) == (b : Int)) = false := by simp; omega
                  simp [hC, hak, hbk, hne]
                  have hab1 := h25 a b hak hbk
                  have hba1 := h25 b a hbk hak
                  cases q1 : M a b
                  · rw [q1] at hab1
                    refine TH.call rfl rfl rfl rfl (CallQ.of rfl rfl hab1) (TH.go' ?_)
                    have hf : (F a == F b) = false := by
                      rw [beq_eq_false_iff_ne]; intro e
                      have := hs.1 e
                      simp [mutB, both, q1, hab] at this
                    simp [hC, hf]
                    refine upTo.le (Le.env [106, 12, 11, 8, 7, 5, 0]) (upTo.here ?_)
                    simp
                  · rw [q1] at hab1
                    refine TH.call rfl rfl rfl rfl (CallQ.of rfl rfl hab1) (TH.go' ?_)
                    simp
                    refine TH.call rfl rfl rfl rfl (CallQ.of rfl rfl hba1) (TH.go' ?_)
                    have hf : (F a == F b) = M b a := by
                      rw [Bool.eq_iff_iff, beq_iff_eq, hs]
                      simp [mutB, both, q1, hab]
                    simp [hC, hf]
                    refine upTo.le (Le.env [106, 12, 11, 8, 7, 5, 0]) (upTo.here ?_)
                    simp
              · rintro s rfl
                refine T.cond_false rfl ?_
                refine T.skip ?_
                simp
                refine T.go' tabOk ?_
                simp [hC, hwb]
                refine ⟨_, ?_, upTo.le (Le.env [12, 11, 8, 7, 5, 0]) (upTo.here ⟨b + 1, rfl, hbk, ?_⟩)⟩
                · omega
                · simp
            · have hbk : b = k := by simp at h; omega
              refine T.exit ?_
              simp
              refine T.go' tabOk ?_
              simp [hC, hwa]
              refine ⟨_, ?_, upTo.le (Le.env [11, 8, 7, 5, 0]) (upTo.here ⟨a + 1, rfl, hak, ?_⟩)⟩
              · omega
              · simp
        · have hak : a = k := by simp at h; omega
          refine T.exit ?_
          simp
          refine T.seq (T.go' tabOk ?_)
          simp [hC]
          refine TL.callG (by simp [hC]) rfl rfl rfl rfl (CallQ.of rfl rfl c21_ok) (TL.go' tabOk ?_)
          simp [hC]
          refine T.ret ?_
          refine upTo.here ?_
          simp [Try.results6]
end Go.Proofs.Ytgiphneejidahaa
