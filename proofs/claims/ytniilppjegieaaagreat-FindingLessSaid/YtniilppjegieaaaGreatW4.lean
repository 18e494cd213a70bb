/- Contract: the reference's Less. -/
import Derived.Test.YtniilppjegieaaaGreatW3
import Derived.Test.YtniilppjegieaaaGreatCan21
namespace Go.Proofs.YtniilppjegieaaaGreat
open Go.Can

def refLess (x y : List Int) : Bool := decide (cmpL x y < 0)
theorem cmpI_eq {u v : Int} (h : u = v) : cmpI u v = 0 := by simp [cmpI, h]
theorem refLess_ne (x y : List Int) (i : Nat) (hx : i < x.length) (hy : i < y.length) (h : ¬ x[i] = y[i]) : refLess (x.drop i) (y.drop i) = decide (x[i] < y[i]) := by
  unfold refLess
  rw [cmpL_step x y i hx hy]
  generalize x[i] = u at *
  generalize y[i] = v at *
  have h1 : cmpI u v ≠ 0 := by
    unfold cmpI
    split
    · decide
    · split
      · decide
      · omega
  rw [if_neg h1]
  congr 1
  unfold cmpI
  split
  · rename_i h2; simp [h2]
  · rename_i h2
    split <;> simp [h2]
theorem refLess_eq (x y : List Int) (i : Nat) (hx : i < x.length) (hy : i < y.length) (h : x[i] = y[i]) : refLess (x.drop i) (y.drop i) = refLess (x.drop (i + 1)) (y.drop (i + 1)) := by
  unfold refLess
  rw [cmpL_step x y i hx hy, if_pos (cmpI_eq h)]
theorem refLess_end (x y : List Int) (i : Nat) (hx : i ≤ x.length) (hy : i ≤ y.length) (h : i = x.length ∨ i = y.length) : refLess (x.drop i) (y.drop i) = decide (x.length < y.length) := by
  unfold refLess
  rcases Nat.lt_or_ge i x.length with h1 | h1
  · have h2 : i = y.length := by omega
    rw [List.drop_eq_getElem_cons h1, List.drop_of_length_le (show y.length ≤ i by omega)]
    simp [cmpL]; omega
  · rw [List.drop_of_length_le h1]
    rcases Nat.lt_or_ge i y.length with h2 | h2
    · rw [List.drop_eq_getElem_cons h2]
      simp [cmpL]; omega
    · rw [List.drop_of_length_le h2]
      simp [cmpL]; omega

set_option maxHeartbeats 4000000 in
set_option maxRecDepth 10000 in
theorem c12_ok (k i pc l : Int) (ls : List Int) (k' i' pc' l' : Int) (ls' : List Int) (hx : ls.length ≤ 1000000) (hy : ls'.length ≤ 1000000) : PureCall Tryz.prog 12 [fnd k i pc l ls, fnd k' i' pc' l' ls'] (.bool (refLess (k :: i :: pc :: l :: ls) (k' :: i' :: pc' :: l' :: ls'))) := by
  refine PureCall.of_TLe tabOk Tryz.func12 rfl (by kernel_rfl) (by simp [Tryz.ntmps12]) rfl fun C hC hC0 => ?_
  rw [Tryz.ntmps12] at hC
  refine T.seq (T.go' tabOk ?_)
  simp [hC, fnd]
  refine T.cut (fun s => ∃ p q, ((p = 2 ∧ q = 3) ∨ (p = 3 ∧ q = 2)) ∧ s = ⟨[(5, .osl p 0 4), (6, .osl q 0 4), (2, .optr 0 0), (3, .optr 1 0)], [(p, ⟨3, 1, [.int .i64 k, .int .i64 i, .int .i64 pc, .int .i64 l]⟩), (q, ⟨3, 1, [.int .i64 k', .int .i64 i', .int .i64 pc', .int .i64 l']⟩), (0, ⟨33, 0, [.int .i64 k, .int .i64 i, .int .i64 pc, .int .i64 l, ints ls]⟩), (1, ⟨33, 0, [.int .i64 k', .int .i64 i', .int .i64 pc', .int .i64 l', ints ls']⟩)], 4⟩) ?_ ?_
  · refine T.news tabOk follows [0, 1, 2, 3, 4, 5, 6, 7, 9, 10, 11, 12, 13, 14, 15, 16] (by kernel_rfl) (by simp) (TH.go' ?_)
    simp [hC]
    refine XA.two (i := 8) (j := 17) (by kernel_rfl) rfl rfl ?_ ?_
    · simp [stepA, isNew, aval, St.push, dele]
      refine XA.two (i := 17) (j := 18) (by kernel_rfl) rfl rfl ?_ ?_
      · simp [stepA, isNew, aval, St.push, dele]
        refine XA.one (i := 18) (by kernel_rfl) rfl ?_
        simp [stepA, isNew, isRead, dele]
        refine XA.one (i := 19) (by kernel_rfl) rfl ?_
        simp [stepA, isNew, isRead, dele]
        refine XA.end (by kernel_rfl) ?_
        refine upTo.trim [5, 6, 2, 3] [2, 3, 0, 1] 4 (by simp) (by omega) ⟨2, 3, by simp, ?_⟩
        simp
      · simp [stepA, isNew, isRead, dele]
        refine XA.one (i := 17) (by kernel_rfl) rfl ?_
        simp [stepA, isNew, aval, St.push, dele]
        refine XA.one (i := 19) (by kernel_rfl) rfl ?_
        simp [stepA, isNew, isRead, dele]
        refine XA.end (by kernel_rfl) ?_
        refine upTo.trim [5, 6, 2, 3] [2, 3, 0, 1] 4 (by simp) (by omega) ⟨2, 3, by simp, ?_⟩
        simp
    · simp [stepA, isNew, aval, St.push, dele]
      refine XA.one (i := 8) (by kernel_rfl) rfl ?_
      simp [stepA, isNew, aval, St.push, dele]
      refine XA.one (i := 18) (by kernel_rfl) rfl ?_
      simp [stepA, isNew, isRead, dele]
      refine XA.one (i := 19) (by kernel_rfl) rfl ?_
      simp [stepA, isNew, isRead, dele]
      refine XA.end (by kernel_rfl) ?_
      refine upTo.trim [5, 6, 2, 3] [3, 2, 0, 1] 4 (by simp) (by omega) ⟨3, 2, by simp, ?_⟩
      simp
  · rintro s ⟨p, q, hpq, rfl⟩
    refine T.cut (fun s => s = ⟨[(5, .tsl (I64 k :: I64 i :: I64 pc :: I64 l :: ls.map I64) (4 + ls.length)), (6, .tsl (I64 k' :: I64 i' :: I64 pc' :: I64 l' :: ls'.map I64) (4 + ls'.length))], [], 0⟩) ?_ ?_
    · have hbx : (4 + ls.length) * 8 ≤ 140737488355328 := by omega
      have hby : (4 + ls'.length) * 8 ≤ 140737488355328 := by omega
      rcases hpq with ⟨rfl, rfl⟩ | ⟨rfl, rfl⟩
      · refine T.explore tabOk follows [0, 1, 4, 5] (by kernel_rfl) (by kernel_rfl) (by simp) (TH.go' ?_)
        simp [hC]
        refine TX.two (i := 2) (j := 6) (by kernel_rfl) rfl rfl (TL.go' tabOk ?_) (TL.go' tabOk ?_)
        · simp [hC, ints]
          refine TX.two (i := 3) (j := 6) (by kernel_rfl) rfl rfl (TL.go' tabOk ?_) (TL.go' tabOk ?_)
          · simp [hC, hbx]
            refine TX.one (i := 6) (by kernel_rfl) rfl (TL.go' tabOk ?_)
            simp [hC]
            refine TX.one (i := 7) (by kernel_rfl) rfl (TL.go' tabOk ?_)
            simp [hC, hby]
            refine TX.one (i := 8) (by kernel_rfl) rfl (TL.go' tabOk ?_)
            simp [hC]
            refine TX.one (i := 9) (by kernel_rfl) rfl (TL.go' tabOk ?_)
            simp [hC]
            refine TX.end (by kernel_rfl) ?_
            refine upTo.le (Le.trans (Le.frz (o := 4) (ob := ⟨3, 1, [.int .i64 k, .int .i64 i, .int .i64 pc, .int .i64 l] ++ ls.map I64⟩) (by simp) (by simp)) (Le.trans (Le.frz (o := 5) (ob := ⟨3, 1, [.int .i64 k', .int .i64 i', .int .i64 pc', .int .i64 l'] ++ ls'.map I64⟩) (by simp) (by simp)) (Le.trim [5, 6] [] 0 (by simp) (by omega)))) (upTo.here ?_)
            simp
            exact ⟨List.take_of_length_le (by simp; omega), List.take_of_length_le (by simp; omega)⟩
          · simp [hC]
            refine TX.one (i := 3) (by kernel_rfl) rfl (TL.go' tabOk ?_)
            simp [hC, hbx]
            refine TX.one (i := 7) (by kernel_rfl) rfl (TL.go' tabOk ?_)
            simp [hC, hby]
            refine TX.one (i := 8) (by kernel_rfl) rfl (TL.go' tabOk ?_)
            simp [hC]
            refine TX.one (i := 9) (by kernel_rfl) rfl (TL.go' tabOk ?_)
            simp [hC]
            refine TX.end (by kernel_rfl) ?_
            refine upTo.le (Le.trans (Le.frz (o := 4) (ob := ⟨3, 1, [.int .i64 k, .int .i64 i, .int .i64 pc, .int .i64 l] ++ ls.map I64⟩) (by simp) (by simp)) (Le.trans (Le.frz (o := 5) (ob := ⟨3, 1, [.int .i64 k', .int .i64 i', .int .i64 pc', .int .i64 l'] ++ ls'.map I64⟩) (by simp) (by simp)) (Le.trim [5, 6] [] 0 (by simp) (by omega)))) (upTo.here ?_)
            simp
            exact ⟨List.take_of_length_le (by simp; omega), List.take_of_length_le (by simp; omega)⟩
        · simp [hC, ints]
          refine TX.one (i := 2) (by kernel_rfl) rfl (TL.go' tabOk ?_)
          simp [hC]
          refine TX.one (i := 3) (by kernel_rfl) rfl (TL.go' tabOk ?_)
          simp [hC, hbx]
          refine TX.one (i := 7) (by kernel_rfl) rfl (TL.go' tabOk ?_)
          simp [hC, hby]
          refine TX.one (i := 8) (by kernel_rfl) rfl (TL.go' tabOk ?_)
          simp [hC]
          refine TX.one (i := 9) (by kernel_rfl) rfl (TL.go' tabOk ?_)
          simp [hC]
          refine TX.end (by kernel_rfl) ?_
          refine upTo.le (Le.trans (Le.frz (o := 4) (ob := ⟨3, 1, [.int .i64 k, .int .i64 i, .int .i64 pc, .int .i64 l] ++ ls.map I64⟩) (by simp) (by simp)) (Le.trans (Le.frz (o := 5) (ob := ⟨3, 1, [.int .i64 k', .int .i64 i', .int .i64 pc', .int .i64 l'] ++ ls'.map I64⟩) (by simp) (by simp)) (Le.trim [5, 6] [] 0 (by simp) (by omega)))) (upTo.here ?_)
          simp
          exact ⟨List.take_of_length_le (by simp; omega), List.take_of_length_le (by simp; omega)⟩
      · refine T.explore tabOk follows [0, 1, 4, 5] (by kernel_rfl) (by kernel_rfl) (by simp) (TH.go' ?_)
        simp [hC]
        refine TX.two (i := 2) (j := 6) (by kernel_rfl) rfl rfl (TL.go' tabOk ?_) (TL.go' tabOk ?_)
        · simp [hC, ints]
          refine TX.two (i := 3) (j := 6) (by kernel_rfl) rfl rfl (TL.go' tabOk ?_) (TL.go' tabOk ?_)
          · simp [hC, hbx]
            refine TX.one (i := 6) (by kernel_rfl) rfl (TL.go' tabOk ?_)
            simp [hC]
            refine TX.one (i := 7) (by kernel_rfl) rfl (TL.go' tabOk ?_)
            simp [hC, hby]
            refine TX.one (i := 8) (by kernel_rfl) rfl (TL.go' tabOk ?_)
            simp [hC]
            refine TX.one (i := 9) (by kernel_rfl) rfl (TL.go' tabOk ?_)
            simp [hC]
            refine TX.end (by kernel_rfl) ?_
            refine upTo.le (Le.trans (Le.frz (o := 4) (ob := ⟨3, 1, [.int .i64 k, .int .i64 i, .int .i64 pc, .int .i64 l] ++ ls.map I64⟩) (by simp) (by simp)) (Le.trans (Le.frz (o := 5) (ob := ⟨3, 1, [.int .i64 k', .int .i64 i', .int .i64 pc', .int .i64 l'] ++ ls'.map I64⟩) (by simp) (by simp)) (Le.trim [5, 6] [] 0 (by simp) (by omega)))) (upTo.here ?_)
            simp
            exact ⟨List.take_of_length_le (by simp; omega), List.take_of_length_le (by simp; omega)⟩
          · simp [hC]
            refine TX.one (i := 3) (by kernel_rfl) rfl (TL.go' tabOk ?_)
            simp [hC, hbx]
            refine TX.one (i := 7) (by kernel_rfl) rfl (TL.go' tabOk ?_)
            simp [hC, hby]
            refine TX.one (i := 8) (by kernel_rfl) rfl (TL.go' tabOk ?_)
            simp [hC]
            refine TX.one (i := 9) (by kernel_rfl) rfl (TL.go' tabOk ?_)
            simp [hC]
            refine TX.end (by kernel_rfl) ?_
            refine upTo.le (Le.trans (Le.frz (o := 4) (ob := ⟨3, 1, [.int .i64 k, .int .i64 i, .int .i64 pc, .int .i64 l] ++ ls.map I64⟩) (by simp) (by simp)) (Le.trans (Le.frz (o := 5) (ob := ⟨3, 1, [.int .i64 k', .int .i64 i', .int .i64 pc', .int .i64 l'] ++ ls'.map I64⟩) (by simp) (by simp)) (Le.trim [5, 6] [] 0 (by simp) (by omega)))) (upTo.here ?_)
            simp
            exact ⟨List.take_of_length_le (by simp; omega), List.take_of_length_le (by simp; omega)⟩
        · simp [hC, ints]
          refine TX.one (i := 2) (by kernel_rfl) rfl (TL.go' tabOk ?_)
          simp [hC]
          refine TX.one (i := 3) (by kernel_rfl) rfl (TL.go' tabOk ?_)
          simp [hC, hbx]
          refine TX.one (i := 7) (by kernel_rfl) rfl (TL.go' tabOk ?_)
          simp [hC, hby]
          refine TX.one (i := 8) (by kernel_rfl) rfl (TL.go' tabOk ?_)
          simp [hC]
          refine TX.one (i := 9) (by kernel_rfl) rfl (TL.go' tabOk ?_)
          simp [hC]
          refine TX.end (by kernel_rfl) ?_
          refine upTo.le (Le.trans (Le.frz (o := 4) (ob := ⟨3, 1, [.int .i64 k, .int .i64 i, .int .i64 pc, .int .i64 l] ++ ls.map I64⟩) (by simp) (by simp)) (Le.trans (Le.frz (o := 5) (ob := ⟨3, 1, [.int .i64 k', .int .i64 i', .int .i64 pc', .int .i64 l'] ++ ls'.map I64⟩) (by simp) (by simp)) (Le.trim [5, 6] [] 0 (by simp) (by omega)))) (upTo.here ?_)
          simp
          exact ⟨List.take_of_length_le (by simp; omega), List.take_of_length_le (by simp; omega)⟩
    · rintro s rfl
      have ex : CV.tsl (I64 k :: I64 i :: I64 pc :: I64 l :: ls.map I64) (4 + ls.length) = ints (k :: i :: pc :: l :: ls) := by simp [ints]; omega
      have ey : CV.tsl (I64 k' :: I64 i' :: I64 pc' :: I64 l' :: ls'.map I64) (4 + ls'.length) = ints (k' :: i' :: pc' :: l' :: ls') := by simp [ints]; omega
      have lx : (k :: i :: pc :: l :: ls).length ≤ 1000004 := by simp; omega
      have ly : (k' :: i' :: pc' :: l' :: ls').length ≤ 1000004 := by simp; omega
      rw [ex, ey]
      clear ex ey
      generalize (k :: i :: pc :: l :: ls) = x at *
      generalize (k' :: i' :: pc' :: l' :: ls') = y at *
      refine T.seq (T.seq (T.go' tabOk ?_))
      simp [hC]
      refine T.block ?_
      refine T.loopLe (fun m s => ∃ i : Nat, m = x.length - i ∧ i ≤ x.length ∧ i ≤ y.length ∧ refLess x y = refLess (x.drop i) (y.drop i) ∧ s = ⟨[(7, .int .i64 i), (5, ints x), (6, ints y)], [], 0⟩) (n := x.length) ?_ ?_
      · refine upTo.le (Le.env [7, 5, 6]) (upTo.here ⟨0, rfl, Nat.zero_le _, Nat.zero_le _, by simp, ?_⟩)
        simp
      · rintro w s ⟨i, rfl, hi, hiy, hc, rfl⟩
        refine T.seq (T.seq (T.go' tabOk ?_))
        by_cases h1 : i < x.length
        · by_cases h2 : i < y.length
          · have ex : x[i]? = some x[i] := List.getElem?_eq_getElem h1
            have ey : y[i]? = some y[i] := List.getElem?_eq_getElem h2
            have hw := w64 ((i : Int) + 1) (by omega) (by omega)
            simp [hC, ints, h1, h2]
            refine T.cond_true rfl ?_
            refine T.skip ?_
            simp
            refine T.seq (T.block (T.seq (T.draw' tabOk follows [] [0, 1, 2, 3, 4, 5, 6, 7, 8] [] (by kernel_rfl) ?_)))
            simp [hC, h1, h2]
            refine T.cond_if rfl (fun h => ?_) (fun h => ?_)
            · have hne : ¬ x[i] = y[i] := by simpa using h
              refine T.seq (T.draw' tabOk follows [] [0, 1, 2, 3, 4, 5, 6, 7, 8, 9] [] (by kernel_rfl) ?_)
              simp [hC, h1, h2]
              refine T.ret ?_
              refine upTo.here ?_
              rw [refLess_ne x y i h1 h2 hne] at hc
              simp [Tryz.results12, hc]
            · have heq : x[i] = y[i] := by simpa using h
              rw [refLess_eq x y i h1 h2 heq] at hc
              refine T.skip ?_
              simp
              refine T.go' tabOk ?_
              simp [hC, hw]
              refine ⟨_, ?_, upTo.le (Le.env [7, 5, 6]) (upTo.here ⟨i + 1, rfl, h1, h2, hc, ?_⟩)⟩
              · omega
              · simp
          · rw [refLess_end x y i hi hiy (by omega)] at hc
            simp [hC, ints, h1, h2]
            refine T.cond_false rfl ?_
            refine T.exit ?_
            simp
            refine T.seq (T.go' tabOk ?_)
            simp [hC]
            refine T.ret ?_
            refine upTo.here ?_
            simp [Tryz.results12, hc]
        · rw [refLess_end x y i hi hiy (by omega)] at hc
          simp [hC, ints, h1]
          refine T.cond_false rfl ?_
          refine T.exit ?_
          simp
          refine T.seq (T.go' tabOk ?_)
          simp [hC]
          refine T.ret ?_
          refine upTo.here ?_
          simp [Tryz.results12, hc]

end Go.Proofs.YtniilppjegieaaaGreat
