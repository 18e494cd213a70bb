/- Law SccUnite. -/
import Derived.Test.YtgiphneejidahaaW16
import Derived.Test.YtgiphneejidahaaW14
import Derived.Test.YtgiphneejidahaaSpec6
namespace Go.Proofs.Ytgiphneejidahaa
open Go.Can

theorem natI_ne {l : List Nat} {k : Nat} (h : isComp k (natI l)) : l ≠ [] := by
  rintro rfl
  obtain ⟨x, r, h, _⟩ := h
  simp [natI] at h
theorem codeComps_nat' (k : Nat) (ps : List (List Int)) (h : k ≤ 64) : ∃ L : List (List Nat), codeComps k ps = L.map natI ∧ Divides k (reachM k ps) L ∧ L.length ≤ 64 ∧ (∀ l ∈ L, l ≠ []) ∧ ∀ l ∈ L, l.length ≤ 64 := by
  obtain ⟨L, h1, h2, h3⟩ := codeComps_nat k ps h
  have hc : ∀ l ∈ L, isComp k (natI l) := fun l hl => by
    have := codeComps_comp k ps (natI l) (by rw [h1]; exact List.mem_map.2 ⟨l, hl, rfl⟩)
    rwa [nn_nat k h] at this
  refine ⟨L, h1, h2, h3, fun l hl => natI_ne (hc l hl), fun l hl => ?_⟩
  obtain ⟨x, r, e, _, _, hr⟩ := hc l hl
  have := congrArg List.length e
  simp [natI] at this
  omega

set_option maxHeartbeats 4000000 in
set_option maxRecDepth 10000 in
theorem c8_ok (n : Int) (l : List Int) (a b : Int) (hl : l.length ≤ 9223372036854775807) : PureCall Try.prog 8 [.int .i64 n, ints l, .int .i64 a, .int .i64 b] (.bool true) := by
  refine PureCall.of_TLe Try.func8 rfl (by kernel_rfl) (by simp [Try.ntmps8]) rfl fun C hC => ?_
  rw [Try.ntmps8] at hC
  refine T.seq (T.go' tabOk ?_)
  simp [hC]
  refine T.seq (T.go' tabOk ?_)
  simp [hC]
  refine TL.call (by simp [hC]) rfl rfl (CallQ.of rfl rfl (c14_ok n)) (TL.go' tabOk ?_)
  have hk0 := Int.emod_nonneg n (show (13 : Int) ≠ 0 by decide)
  have hk1 := Int.emod_lt_of_pos n (show (0 : Int) < 13 by decide)
  obtain ⟨k, hk⟩ : ∃ k : Nat, 1 + n % 13 = k := ⟨(1 + n % 13).toNat, by omega⟩
  have hw0 := w64 (1 + n % 13) (by omega) (by omega)
  rw [hk] at hw0
  have hkp : 0 < k := by omega
  have hk13 : k ≤ 13 := by omega
  clear hk0 hk1
  simp [hC, hk, hw0]
  refine T.seq (T.go' tabOk ?_)
  simp [hC]
  refine TL.call (by simp [hC]) rfl rfl (CallQ.of rfl rfl (c15_ok l k (by omega) (by omega) hl)) (TL.go' tabOk ?_)
  have hps := pairsOf_le l k
  generalize pairsOf l k = ps at *
  simp [hC]
  refine T.seq (T.go' tabOk ?_)
  have hb1 : (ps.length : Int) * 24 ≤ 140737488355328 := by omega
  have hb2 : ps.length * 24 ≤ 140737488355328 := by omega
  have hb3 : ((ps.length : Int) + 1) * 24 ≤ 140737488355328 := by omega
  have hb4 : (ps.length + 1) * 24 ≤ 140737488355328 := by omega
  simp [hC, intss, hb2]
  refine TL.call (by simp [hC]) rfl rfl (CallQ.of rfl rfl (c23_ok a k (by omega) (by omega))) (TL.go' tabOk ?_)
  simp [hC]
  refine TL.call (by simp [hC]) rfl rfl (CallQ.of rfl rfl (c23_ok b k (by omega) (by omega))) (TL.go' tabOk ?_)
  generalize a % k = a'
  generalize b % k = b'
  simp [hC, hb4]
  refine T.le (Le.trans (Le.env [10, 9, 0]) (Le.frz (o := 1) (ob := ⟨3, 1, [.int .i64 a', .int .i64 b']⟩) (by simp) (by simp))) ?_
  simp
  refine T.le (Le.frz (o := 0) (ob := ⟨22, 1, ps.map ints ++ [ints [a', b']]⟩) (by simp [ints]) (by simp)) ?_
  have hq : CV.tsl (List.take (ps.length + 1) (ps.map ints ++ [ints [a', b']])) (ps.length + 1) = intss (ps ++ [[a', b']]) := by
    rw [List.take_of_length_le (by simp)]; simp [intss]
  simp [hq]
  have hsub : ∀ p ∈ ps, p ∈ ps ++ [[a', b']] := fun p hp => by simp [hp]
  have hqs : (ps ++ [[a', b']]).length ≤ 4611686018427387904 := by simp; omega
  generalize ps ++ [[a', b']] = qs at *
  have hnn := nn_nat k (by omega)
  have hmono : ∀ x y, x < k → y < k → mutB (reachM k ps) x y = true → mutB (reachM k qs) x y = true :=
    mutB_mono fun x y hx hy h => reachM_mono k ps qs hsub x y (by omega) (by omega) h
  obtain ⟨L, hL, hD, hLl, hLe, hLn⟩ := codeComps_nat' k ps (by omega)
  obtain ⟨L', hL', hD', hLl', hLe', hLn'⟩ := codeComps_nat' k qs (by omega)
  refine T.seq (T.go' tabOk ?_)
  simp [hC]
  refine TL.call (by simp [hC]) rfl rfl (CallQ.of rfl rfl (hL ▸ c17_ok k ps (by omega))) (TL.go' tabOk ?_)
  simp [hC]
  refine TL.call (by simp [hC]) rfl rfl (CallQ.of rfl rfl (hL' ▸ c17_ok k qs (by omega))) (TL.go' tabOk ?_)
  have hlen := unite_le hD hD' hLe hLe' hmono
  have hpos := hD'.pos hkp
  have hhome := homes hD hD' hLe hmono
  simp [hC]
  refine T.le (Le.trim [11, 12, 0] [] 0 (by simp)) ?_
  simp
  refine T.seq (T.seq (T.go' tabOk ?_))
  simp [hC]
  refine T.block ?_
  refine T.loopLe (fun m s => ∃ i : Nat, m = L.length - i ∧ i ≤ L.length ∧ s = ⟨[(13, .int .i64 i), (12, intss (L'.map natI)), (11, intss (L.map natI))], [], 0⟩) (n := L.length) ?_ ?_
  · refine upTo.le (Le.env [13, 12, 11]) (upTo.here ⟨0, rfl, Nat.zero_le _, ?_⟩)
    simp
  · rintro w s ⟨i, rfl, hi, rfl⟩
    refine T.seq (T.seq (T.go' tabOk ?_))
    simp [hC, intss]
    refine T.cond_if rfl (fun h => ?_) (fun h => ?_)
    · have hip : i < L.length := by simpa using h
      have hwi := w64 ((i : Int) + 1) (by omega) (by omega)
      obtain ⟨g, hg, hgv⟩ := hhome i hip
      have ep : L[i]? = some L[i] := List.getElem?_eq_getElem hip
      generalize hli : L[i] = li at *
      have hlk : ∀ v ∈ li, v < k := hD.lt li (hli ▸ List.getElem_mem hip)
      have hll : li.length ≤ 64 := hLn li (hli ▸ List.getElem_mem hip)
      refine T.skip ?_
      simp
      refine T.seq (T.block (T.seq (T.go' tabOk ?_)))
      simp [hC]
      refine T.seq (T.go' tabOk ?_)
      simp [hC]
      refine T.block ?_
      refine T.loopLe (fun m s => ∃ j : Nat, m = li.length - j ∧ j ≤ li.length ∧ s = ⟨[(15, .int .i64 j), (14, .int .i64 (if j = 0 then -1 else (g : Int))), (13, .int .i64 i), (12, intss (L'.map natI)), (11, intss (L.map natI))], [], 0⟩) (n := li.length) ?_ ?_
      · refine upTo.le (Le.env [15, 14, 13, 12, 11]) (upTo.here ⟨0, rfl, Nat.zero_le _, ?_⟩)
        simp [intss]
      · rintro w s ⟨j, rfl, hj, rfl⟩
        refine T.seq (T.seq (T.go' tabOk ?_))
        simp [hC, intss, hip, hli, ints]
        refine T.cond_if rfl (fun h => ?_) (fun h => ?_)
        · have hjl : j < li.length := by simpa using h
          have hwj := w64 ((j : Int) + 1) (by omega) (by omega)
          have ej : li[j]? = some li[j] := List.getElem?_eq_getElem hjl
          have hv := hgv li[j] (List.getElem_mem hjl)
          generalize hvj : li[j] = v at *
          refine T.skip ?_
          simp
          refine T.le (Le.env [15, 14, 13, 12, 11]) ?_
          simp
          refine T.seq (T.block (T.seq (T.go' tabOk ?_)))
          simp [hC]
          refine T.seq (T.seq (T.go' tabOk ?_))
          simp [hC]
          refine T.block ?_
          refine T.loopLe (fun m s => ∃ q : Nat, m = L'.length - q ∧ q ≤ L'.length ∧ s = ⟨[(17, .int .i64 q), (16, .int .i64 (if g < q then (g : Int) else -1)), (15, .int .i64 j), (14, .int .i64 (if j = 0 then -1 else (g : Int))), (13, .int .i64 i), (12, intss (L'.map natI)), (11, intss (L.map natI))], [], 0⟩) (n := L'.length) ?_ ?_
          · refine upTo.le (Le.env [17, 16, 15, 14, 13, 12, 11]) (upTo.here ⟨0, rfl, Nat.zero_le _, ?_⟩)
            simp [intss]
          · rintro w s ⟨q, rfl, hq, rfl⟩
            refine T.seq (T.seq (T.go' tabOk ?_))
            simp [hC, intss]
            refine T.cond_if rfl (fun h => ?_) (fun h => ?_)
            · have hql : q < L'.length := by simpa using h
              have hwq := w64 ((q : Int) + 1) (by omega) (by omega)
              have eq : L'[q]? = some L'[q] := List.getElem?_eq_getElem hql
              have hvq := hv q hql
              have hqn := hLn' _ (List.getElem_mem hql)
              generalize hlq : L'[q] = lq at *
              refine T.skip ?_
              simp
              refine T.le (Le.env [17, 16, 15, 14, 13, 12, 11]) ?_
              simp
              refine T.seq (T.block (T.seq (T.go' tabOk ?_)))
              simp [hC]
              refine T.block ?_
              refine T.loopLe (fun m s => ∃ r : Nat, m = lq.length - r ∧ r ≤ lq.length ∧ s = ⟨[(18, .int .i64 r), (17, .int .i64 q), (16, .int .i64 (atM g q lq r v)), (15, .int .i64 j), (14, .int .i64 (if j = 0 then -1 else (g : Int))), (13, .int .i64 i), (12, intss (L'.map natI)), (11, intss (L.map natI))], [], 0⟩) (n := lq.length) ?_ ?_
              · refine upTo.le (Le.env [18, 17, 16, 15, 14, 13, 12, 11]) (upTo.here ⟨0, rfl, Nat.zero_le _, ?_⟩)
                simp [intss, atM_zero]
              · rintro w s ⟨r, rfl, hr, rfl⟩
                refine T.seq (T.seq (T.go' tabOk ?_))
                simp [hC, intss, hql, hlq, ints]
                refine T.cond_if rfl (fun h => ?_) (fun h => ?_)
                · have hrl : r < lq.length := by simpa using h
                  have hwr := w64 ((r : Int) + 1) (by omega) (by omega)
                  have er : lq[r]? = some lq[r] := List.getElem?_eq_getElem hrl
                  have hat := atM_succ g q lq r v hrl hvq.1
                  generalize hvr : lq[r] = u at *
                  refine T.skip ?_
                  simp
                  refine T.le (Le.env [18, 17, 16, 15, 14, 13, 12, 11]) ?_
                  simp
                  refine T.seq (T.block (T.seq (T.draw' tabOk follows [] [0, 1, 2, 3, 4, 5, 6, 7, 8, 9, 10, 11, 12, 13, 14] [] (by kernel_rfl) ?_)))
                  simp [hC, hql, hlq, ints, hrl, hvr, hip, hli, hjl, hvj, natI]
                  refine T.le (Le.env [87, 18, 17, 16, 15, 14, 13, 12, 11]) ?_
                  simp
                  by_cases huv : u = v
                  · rw [if_pos huv] at hat
                    refine T.cond_true (by simp [huv]) ?_
                    refine T.go' tabOk ?_
                    simp [hC]
                    refine T.go' tabOk ?_
                    simp [hC, hwr]
                    refine ⟨_, ?_, upTo.le (Le.env [18, 17, 16, 15, 14, 13, 12, 11]) (upTo.here ⟨r + 1, rfl, hrl, ?_⟩)⟩
                    · omega
                    · simp [hat]
                  · rw [if_neg huv] at hat
                    have huv' : ((u : Int) == (v : Int)) = false := by simp; omega
                    refine T.cond_false (by simp [huv']) ?_
                    refine T.skip ?_
                    simp
                    refine T.go' tabOk ?_
                    simp [hC, hwr]
                    refine ⟨_, ?_, upTo.le (Le.env [18, 17, 16, 15, 14, 13, 12, 11]) (upTo.here ⟨r + 1, rfl, hrl, ?_⟩)⟩
                    · omega
                    · simp [hat]
                · have hrl : r = lq.length := by simp at h; omega
                  have hfull := atM_full g q lq v hvq
                  refine T.exit ?_
                  simp
                  refine T.go' tabOk ?_
                  simp [hC, hwq]
                  refine ⟨_, ?_, upTo.le (Le.env [17, 16, 15, 14, 13, 12, 11]) (upTo.here ⟨q + 1, rfl, hql, ?_⟩)⟩
                  · omega
                  · simp [hrl, hfull]
            · have hql : q = L'.length := by simp at h; omega
              subst hql
              refine T.exit ?_
              simp [hg]
              have hg0 : ¬ (g : Int) < 0 := by omega
              have hg1 : (0 : Int) ≤ g := by omega
              refine T.seq (T.cut (fun s => s = ⟨[(99, .bool false), (16, .int .i64 g), (15, .int .i64 j), (13, .int .i64 i), (12, intss (L'.map natI)), (11, intss (L.map natI))], [], 0⟩) (T.go' tabOk ?_) ?_)
              · by_cases hj0 : j = 0
                · subst hj0
                  simp [hC, hg0]
                  refine upTo.le (Le.env [99, 16, 15, 13, 12, 11]) (upTo.here ?_)
                  simp [intss]
                · simp [hC, hj0, hg0, hg1]
                  refine upTo.le (Le.env [99, 16, 15, 13, 12, 11]) (upTo.here ?_)
                  simp [intss]
              · rintro s rfl
                refine T.cond_false rfl ?_
                refine T.skip ?_
                simp
                refine T.go' tabOk ?_
                simp [hC]
                refine T.go' tabOk ?_
                simp [hC, hwj]
                refine ⟨_, ?_, upTo.le (Le.env [15, 14, 13, 12, 11]) (upTo.here ⟨j + 1, rfl, hjl, ?_⟩)⟩
                · omega
                · simp [intss]
        · refine T.exit ?_
          simp
          refine T.go' tabOk ?_
          simp [hC, hwi]
          refine ⟨_, ?_, upTo.le (Le.env [13, 12, 11]) (upTo.here ⟨i + 1, rfl, hip, ?_⟩)⟩
          · omega
          · simp
    · refine T.exit ?_
      simp
      refine T.seq (T.go' tabOk ?_)
      simp [hC, hlen, hpos]
      refine TL.callG (by simp [hC]) rfl rfl rfl rfl (CallQ.of rfl rfl c21_ok) (TL.go' tabOk ?_)
      simp [hC]
      refine T.ret ?_
      refine upTo.here ?_
      simp [Try.results8]
end Go.Proofs.Ytgiphneejidahaa
