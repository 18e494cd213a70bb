/- Contract: FindingLess itself, its awake taken. -/
import Derived.Test.YtniilppjegieaaaGreatL1
import Derived.Test.YtniilppjegieaaaGreatCan24
namespace Go.Proofs.YtniilppjegieaaaGreat
open Go.Can

def J4 (b : Nat) (m : Int) (s : St) : Prop := ∃ k i pc l ls k' i' pc' l' ls', ls.length ≤ b ∧ ls'.length ≤ b ∧ s = ⟨[(3, .optr 0 0), (4, .optr 1 0), (2, .int .i64 m)], [(0, ⟨33, 0, fndC k i pc l ls⟩), (1, ⟨33, 0, fndC k' i' pc' l' ls'⟩)], 2⟩

set_option maxHeartbeats 4000000 in
set_option maxRecDepth 10000 in
theorem c4_ok (aw : PureCall Tryz.prog 13 [] (.bool true)) (k i pc l : Int) (ls : List Int) (k' i' pc' l' : Int) (ls' : List Int) (m : Int) : PureCall Tryz.prog 4 [fnd k i pc l ls, fnd k' i' pc' l' ls', .int .i64 m] (.bool true) := by
  refine PureCall.of_TLe tabOk Tryz.func4 rfl (by kernel_rfl) (by simp [Tryz.ntmps4]) rfl fun C hC hC0 => ?_
  rw [Tryz.ntmps4] at hC
  refine T.seq (T.go' tabOk ?_)
  simp [hC, fnd]
  refine T.cut (J4 20 m) ?_ ?_
  · obtain ⟨n, hn, hn1, hn2⟩ : ∃ n : Nat, (if 20 < (ls.length : Int) then 20 else (ls.length : Int)) = (n : Int) ∧ n ≤ ls.length ∧ n ≤ 20 := ⟨min ls.length 20, by split <;> omega, by omega, by omega⟩
    obtain ⟨n', hn', hn1', hn2'⟩ : ∃ n : Nat, (if 20 < (ls'.length : Int) then 20 else (ls'.length : Int)) = (n : Int) ∧ n ≤ ls'.length ∧ n ≤ 20 := ⟨min ls'.length 20, by split <;> omega, by omega, by omega⟩
    refine T.reads tabOk follows ?_
    simp [hC]
    refine XX.read (i := 0) (by kernel_rfl) rfl ?_
    simp [stepX, eff, isRd, putR, ints]
    refine XX.read (i := 1) (by kernel_rfl) rfl ?_
    simp [stepX, eff, isRd, putR]
    refine XX.read (i := 2) (by kernel_rfl) rfl ?_
    simp [stepX, eff, isRd, putR]
    refine XX.read (i := 3) (by kernel_rfl) rfl ?_
    simp [stepX, eff, isRd, putR]
    refine XX.read (i := 4) (by kernel_rfl) rfl ?_
    simp [stepX, eff, isRd, putR]
    refine XX.read (i := 5) (by kernel_rfl) rfl ?_
    simp [stepX, eff, isRd, putR, hn]
    refine XX.read (i := 6) (by kernel_rfl) rfl ?_
    simp [stepX, eff, isRd, putR, hn1]
    refine XX.read (i := 14) (by kernel_rfl) rfl ?_
    simp [stepX, eff, isRd, putR]
    refine XX.read (i := 7) (by kernel_rfl) rfl ?_
    simp [stepX, eff, isRd, putR]
    refine XX.read (i := 8) (by kernel_rfl) rfl ?_
    simp [stepX, eff, isRd, putR]
    refine XX.read (i := 9) (by kernel_rfl) rfl ?_
    simp [stepX, eff, isRd, putR]
    refine XX.read (i := 10) (by kernel_rfl) rfl ?_
    simp [stepX, eff, isRd, putR]
    refine XX.read (i := 11) (by kernel_rfl) rfl ?_
    simp [stepX, eff, isRd, putR]
    refine XX.read (i := 12) (by kernel_rfl) rfl ?_
    simp [stepX, eff, isRd, putR, hn']
    refine XX.read (i := 13) (by kernel_rfl) rfl ?_
    simp [stepX, eff, isRd, putR, hn1']
    refine XX.one (i := 15) (by kernel_rfl) rfl ?_
    simp [stepX, eff, cstH, putR]
    refine XX.one (i := 16) (by kernel_rfl) rfl ?_
    simp [stepX, eff, isRd, putR]
    refine XX.one (i := 17) (by kernel_rfl) rfl ?_
    simp [stepX, eff, cstH, putR]
    refine XX.end (by kernel_rfl) ?_
    refine upTo.trim [3, 4, 2] [0, 1] 2 (by simp) (by omega) ⟨k, i, pc, l, ls.take n, k', i', pc', l', ls'.take n', by simp; omega, by simp; omega, ?_⟩
    simp [fndC, ints, List.map_take]
    omega
  clear k i pc l ls k' i' pc' l' ls'
  rintro s ⟨k, i, pc, l, ls, k', i', pc', l', ls', hls, hls', rfl⟩
  refine T.cut (J4 20 m) ?_ ?_
  · refine T.seq (T.go' tabOk ?_)
    simp [hC]
    refine T.cond_if rfl (fun h => ?_) (fun h => ?_)
    · refine T.go' tabOk ?_
      simp [hC, fndC]
      refine upTo.trim [3, 4, 2] [0, 1] 2 (by simp) (by omega) ⟨k, i, pc, l, ls, k, i', pc', l', ls', hls, hls', ?_⟩
      simp [fndC]
    · refine T.skip ?_
      refine upTo.trim [3, 4, 2] [0, 1] 2 (by simp [fndC]) (by omega) ⟨k, i, pc, l, ls, k', i', pc', l', ls', hls, hls', ?_⟩
      simp
  clear k i pc l ls k' i' pc' l' ls' hls hls'
  rintro s ⟨k, i, pc, l, ls, k', i', pc', l', ls', hls, hls', rfl⟩
  refine T.cut (J4 20 m) ?_ ?_
  · refine T.seq (T.go' tabOk ?_)
    simp [hC]
    refine T.cond_if rfl (fun h => ?_) (fun h => ?_)
    · refine T.go' tabOk ?_
      simp [hC, fndC]
      refine upTo.trim [3, 4, 2] [0, 1] 2 (by simp) (by omega) ⟨k, i, pc, l, ls, k', i, pc', l', ls', hls, hls', ?_⟩
      simp [fndC]
    · refine T.skip ?_
      refine upTo.trim [3, 4, 2] [0, 1] 2 (by simp [fndC]) (by omega) ⟨k, i, pc, l, ls, k', i', pc', l', ls', hls, hls', ?_⟩
      simp
  clear k i pc l ls k' i' pc' l' ls' hls hls'
  rintro s ⟨k, i, pc, l, ls, k', i', pc', l', ls', hls, hls', rfl⟩
  refine T.cut (J4 20 m) ?_ ?_
  · refine T.seq (T.go' tabOk ?_)
    simp [hC]
    refine T.cond_if rfl (fun h => ?_) (fun h => ?_)
    · refine T.reads tabOk follows ?_
      simp [hC]
      refine XX.read (i := 0) (by kernel_rfl) rfl ?_
      simp [stepX, eff, isRd, putR, fndC]
      refine XX.read (i := 1) (by kernel_rfl) rfl ?_
      simp [stepX, eff, isRd, putR]
      refine XX.read (i := 4) (by kernel_rfl) rfl ?_
      simp [stepX, eff, isRd, putR]
      refine XX.read (i := 2) (by kernel_rfl) rfl ?_
      simp [stepX, eff, isRd, putR]
      refine XX.read (i := 3) (by kernel_rfl) rfl ?_
      simp [stepX, eff, isRd, putR]
      refine XX.one (i := 5) (by kernel_rfl) rfl ?_
      simp [stepX, eff, cstH, putR]
      refine XX.one (i := 6) (by kernel_rfl) rfl ?_
      simp [stepX, eff, isRd, putR]
      refine XX.one (i := 7) (by kernel_rfl) rfl ?_
      simp [stepX, eff, cstH, putR]
      refine XX.end (by kernel_rfl) ?_
      refine upTo.trim [3, 4, 2] [0, 1] 2 (by simp) (by omega) ⟨k, i, pc, l, ls, k', i', pc, l, ls', hls, hls', ?_⟩
      simp [fndC]
    · refine T.skip ?_
      refine upTo.trim [3, 4, 2] [0, 1] 2 (by simp [fndC]) (by omega) ⟨k, i, pc, l, ls, k', i', pc', l', ls', hls, hls', ?_⟩
      simp
  clear k i pc l ls k' i' pc' l' ls' hls hls'
  rintro s ⟨k, i, pc, l, ls, k', i', pc', l', ls', hls, hls', rfl⟩
  refine T.cut (J4 40 m) ?_ ?_
  · refine T.seq (T.go' tabOk ?_)
    simp [hC]
    refine T.cond_if rfl (fun h => ?_) (fun h => ?_)
    · have hb1 : ls.length * 8 ≤ 140737488355328 := by omega
      have hb2 : (ls.length + ls'.length) * 8 ≤ 140737488355328 := by omega
      refine T.explore tabOk follows [1, 4] (by kernel_rfl) (by kernel_rfl) (by simp) (TH.go' ?_)
      simp [hC]
      refine TX.three (i := 0) (j := 2) (k := 5) (by kernel_rfl) rfl rfl rfl (TL.go' tabOk ?_) (TL.go' tabOk ?_) (TL.go' tabOk ?_)
      · simp [hC, fndC, ints]
        refine TX.two (i := 2) (j := 5) (by kernel_rfl) rfl rfl (TL.go' tabOk ?_) (TL.go' tabOk ?_)
        · simp [hC]
          refine TX.two (i := 3) (j := 5) (by kernel_rfl) rfl rfl (TL.go' tabOk ?_) (TL.go' tabOk ?_)
          · simp [hC, hb1]
            refine TX.one (i := 5) (by kernel_rfl) rfl (TL.go' tabOk ?_)
            simp [hC]
            refine TX.one (i := 6) (by kernel_rfl) rfl (TL.go' tabOk ?_)
            simp [hC, hb2]
            refine TX.one (i := 7) (by kernel_rfl) rfl (TL.go' tabOk ?_)
            simp [hC]
            refine TX.one (i := 8) (by kernel_rfl) rfl (TL.go' tabOk ?_)
            simp
            refine TX.end (by kernel_rfl) ?_
            refine upTo.le (Le.trans (Le.frz (o := 4) (ob := ⟨3, 1, ls.map I64 ++ ls'.map I64⟩) (by simp) (by simp)) (Le.trim [3, 4, 2] [0, 1] 2 (by simp) (by omega))) (upTo.here ⟨k, i, pc, l, ls, k', i', pc', l', ls ++ ls', by omega, by simp; omega, ?_⟩)
            simp [fndC, ints]
            exact List.take_of_length_le (by simp)
          · simp [hC]
            refine TX.one (i := 3) (by kernel_rfl) rfl (TL.go' tabOk ?_)
            simp [hC, hb1]
            refine TX.one (i := 6) (by kernel_rfl) rfl (TL.go' tabOk ?_)
            simp [hC, hb2]
            refine TX.one (i := 7) (by kernel_rfl) rfl (TL.go' tabOk ?_)
            simp [hC]
            refine TX.one (i := 8) (by kernel_rfl) rfl (TL.go' tabOk ?_)
            simp
            refine TX.end (by kernel_rfl) ?_
            refine upTo.le (Le.trans (Le.frz (o := 4) (ob := ⟨3, 1, ls.map I64 ++ ls'.map I64⟩) (by simp) (by simp)) (Le.trim [3, 4, 2] [0, 1] 2 (by simp) (by omega))) (upTo.here ⟨k, i, pc, l, ls, k', i', pc', l', ls ++ ls', by omega, by simp; omega, ?_⟩)
            simp [fndC, ints]
            exact List.take_of_length_le (by simp)
        · simp [hC]
          refine TX.one (i := 2) (by kernel_rfl) rfl (TL.go' tabOk ?_)
          simp [hC]
          refine TX.one (i := 3) (by kernel_rfl) rfl (TL.go' tabOk ?_)
          simp [hC, hb1]
          refine TX.one (i := 6) (by kernel_rfl) rfl (TL.go' tabOk ?_)
          simp [hC, hb2]
          refine TX.one (i := 7) (by kernel_rfl) rfl (TL.go' tabOk ?_)
          simp [hC]
          refine TX.one (i := 8) (by kernel_rfl) rfl (TL.go' tabOk ?_)
          simp
          refine TX.end (by kernel_rfl) ?_
          refine upTo.le (Le.trans (Le.frz (o := 4) (ob := ⟨3, 1, ls.map I64 ++ ls'.map I64⟩) (by simp) (by simp)) (Le.trim [3, 4, 2] [0, 1] 2 (by simp) (by omega))) (upTo.here ⟨k, i, pc, l, ls, k', i', pc', l', ls ++ ls', by omega, by simp; omega, ?_⟩)
          simp [fndC, ints]
          exact List.take_of_length_le (by simp)
      · simp [hC, fndC, ints]
        refine TX.two (i := 0) (j := 5) (by kernel_rfl) rfl rfl (TL.go' tabOk ?_) (TL.go' tabOk ?_)
        · simp [hC]
          refine TX.two (i := 3) (j := 5) (by kernel_rfl) rfl rfl (TL.go' tabOk ?_) (TL.go' tabOk ?_)
          · simp [hC, hb1]
            refine TX.one (i := 5) (by kernel_rfl) rfl (TL.go' tabOk ?_)
            simp [hC]
            refine TX.one (i := 6) (by kernel_rfl) rfl (TL.go' tabOk ?_)
            simp [hC, hb2]
            refine TX.one (i := 7) (by kernel_rfl) rfl (TL.go' tabOk ?_)
            simp [hC]
            refine TX.one (i := 8) (by kernel_rfl) rfl (TL.go' tabOk ?_)
            simp
            refine TX.end (by kernel_rfl) ?_
            refine upTo.le (Le.trans (Le.frz (o := 4) (ob := ⟨3, 1, ls.map I64 ++ ls'.map I64⟩) (by simp) (by simp)) (Le.trim [3, 4, 2] [0, 1] 2 (by simp) (by omega))) (upTo.here ⟨k, i, pc, l, ls, k', i', pc', l', ls ++ ls', by omega, by simp; omega, ?_⟩)
            simp [fndC, ints]
            exact List.take_of_length_le (by simp)
          · simp [hC]
            refine TX.one (i := 3) (by kernel_rfl) rfl (TL.go' tabOk ?_)
            simp [hC, hb1]
            refine TX.one (i := 6) (by kernel_rfl) rfl (TL.go' tabOk ?_)
            simp [hC, hb2]
            refine TX.one (i := 7) (by kernel_rfl) rfl (TL.go' tabOk ?_)
            simp [hC]
            refine TX.one (i := 8) (by kernel_rfl) rfl (TL.go' tabOk ?_)
            simp
            refine TX.end (by kernel_rfl) ?_
            refine upTo.le (Le.trans (Le.frz (o := 4) (ob := ⟨3, 1, ls.map I64 ++ ls'.map I64⟩) (by simp) (by simp)) (Le.trim [3, 4, 2] [0, 1] 2 (by simp) (by omega))) (upTo.here ⟨k, i, pc, l, ls, k', i', pc', l', ls ++ ls', by omega, by simp; omega, ?_⟩)
            simp [fndC, ints]
            exact List.take_of_length_le (by simp)
        · simp [hC]
          refine TX.one (i := 0) (by kernel_rfl) rfl (TL.go' tabOk ?_)
          simp [hC]
          refine TX.one (i := 3) (by kernel_rfl) rfl (TL.go' tabOk ?_)
          simp [hC, hb1]
          refine TX.one (i := 6) (by kernel_rfl) rfl (TL.go' tabOk ?_)
          simp [hC, hb2]
          refine TX.one (i := 7) (by kernel_rfl) rfl (TL.go' tabOk ?_)
          simp [hC]
          refine TX.one (i := 8) (by kernel_rfl) rfl (TL.go' tabOk ?_)
          simp
          refine TX.end (by kernel_rfl) ?_
          refine upTo.le (Le.trans (Le.frz (o := 4) (ob := ⟨3, 1, ls.map I64 ++ ls'.map I64⟩) (by simp) (by simp)) (Le.trim [3, 4, 2] [0, 1] 2 (by simp) (by omega))) (upTo.here ⟨k, i, pc, l, ls, k', i', pc', l', ls ++ ls', by omega, by simp; omega, ?_⟩)
          simp [fndC, ints]
          exact List.take_of_length_le (by simp)
      · simp [hC, fndC, ints]
        refine TX.two (i := 0) (j := 2) (by kernel_rfl) rfl rfl (TL.go' tabOk ?_) (TL.go' tabOk ?_)
        · simp [hC]
          refine TX.one (i := 2) (by kernel_rfl) rfl (TL.go' tabOk ?_)
          simp [hC]
          refine TX.one (i := 3) (by kernel_rfl) rfl (TL.go' tabOk ?_)
          simp [hC, hb1]
          refine TX.one (i := 6) (by kernel_rfl) rfl (TL.go' tabOk ?_)
          simp [hC, hb2]
          refine TX.one (i := 7) (by kernel_rfl) rfl (TL.go' tabOk ?_)
          simp [hC]
          refine TX.one (i := 8) (by kernel_rfl) rfl (TL.go' tabOk ?_)
          simp
          refine TX.end (by kernel_rfl) ?_
          refine upTo.le (Le.trans (Le.frz (o := 4) (ob := ⟨3, 1, ls.map I64 ++ ls'.map I64⟩) (by simp) (by simp)) (Le.trim [3, 4, 2] [0, 1] 2 (by simp) (by omega))) (upTo.here ⟨k, i, pc, l, ls, k', i', pc', l', ls ++ ls', by omega, by simp; omega, ?_⟩)
          simp [fndC, ints]
          exact List.take_of_length_le (by simp)
        · simp [hC]
          refine TX.one (i := 0) (by kernel_rfl) rfl (TL.go' tabOk ?_)
          simp [hC]
          refine TX.one (i := 3) (by kernel_rfl) rfl (TL.go' tabOk ?_)
          simp [hC, hb1]
          refine TX.one (i := 6) (by kernel_rfl) rfl (TL.go' tabOk ?_)
          simp [hC, hb2]
          refine TX.one (i := 7) (by kernel_rfl) rfl (TL.go' tabOk ?_)
          simp [hC]
          refine TX.one (i := 8) (by kernel_rfl) rfl (TL.go' tabOk ?_)
          simp
          refine TX.end (by kernel_rfl) ?_
          refine upTo.le (Le.trans (Le.frz (o := 4) (ob := ⟨3, 1, ls.map I64 ++ ls'.map I64⟩) (by simp) (by simp)) (Le.trim [3, 4, 2] [0, 1] 2 (by simp) (by omega))) (upTo.here ⟨k, i, pc, l, ls, k', i', pc', l', ls ++ ls', by omega, by simp; omega, ?_⟩)
          simp [fndC, ints]
          exact List.take_of_length_le (by simp)
    · refine T.skip ?_
      refine upTo.trim [3, 4, 2] [0, 1] 2 (by simp [fndC]) (by omega) ⟨k, i, pc, l, ls, k', i', pc', l', ls', by omega, by omega, ?_⟩
      simp
  clear k i pc l ls k' i' pc' l' ls' hls hls'
  rintro s ⟨k, i, pc, l, ls, k', i', pc', l', ls', hls, hls', rfl⟩
  have a1 := c10_ok k i pc l ls k' i' pc' l' ls' (by omega) (by omega)
  have a2 := c10_ok k' i' pc' l' ls' k i pc l ls (by omega) (by omega)
  have a3 := c10_ok k i pc l ls k i pc l ls (by omega) (by omega)
  have b := c11_ok k i pc l ls k' i' pc' l' ls' (by omega)
  have d1 := c12_ok k i pc l ls k' i' pc' l' ls' (by omega) (by omega)
  have d2 := c12_ok k' i' pc' l' ls' k i pc l ls (by omega) (by omega)
  rw [lessF_ref] at a1 a2
  rw [lessF_ref, refLess_irr] at a3
  rw [sameF_eq] at b
  have ht := refLess_total (k :: i :: pc :: l :: ls) (k' :: i' :: pc' :: l' :: ls')
  have hs := refLess_strict (k :: i :: pc :: l :: ls) (k' :: i' :: pc' :: l' :: ls')
  generalize refLess (k :: i :: pc :: l :: ls) (k' :: i' :: pc' :: l' :: ls') = p at *
  generalize refLess (k' :: i' :: pc' :: l' :: ls') (k :: i :: pc :: l :: ls) = q at *
  generalize decide ((k :: i :: pc :: l :: ls) = (k' :: i' :: pc' :: l' :: ls')) = e at *
  simp only [fnd, fndC] at a1 a2 a3 b d1 d2
  have hz : czeros [.int .i64 0, .int .i64 0, .int .i64 0, .int .i64 0, .nilsl] 1 = [.int .i64 0, .int .i64 0, .int .i64 0, .int .i64 0, .nilsl] := rfl
  refine T.seq (T.draw' tabOk follows [] [0, 1, 2, 3, 4, 5, 6, 7] [] (by kernel_rfl) ?_)
  simp [hC, fndC]
  refine TH.call rfl rfl rfl rfl (CallQ.of rfl rfl a1) (TH.go' ?_)
  simp
  refine TH.call rfl rfl rfl rfl (CallQ.of rfl rfl a2) (TH.go' ?_)
  simp [hC]
  refine T.seq (T.go' tabOk ?_)
  simp [hC, hz]
  refine TL.le (Le.trans (Le.frz (o := 2) (ob := ⟨33, 5, [.int .i64 k, .int .i64 i, .int .i64 pc, .int .i64 l, ints ls]⟩) (by simp [ints]) (by simp [ints])) (Le.trans (Le.frz (o := 3) (ob := ⟨33, 5, [.int .i64 k', .int .i64 i', .int .i64 pc', .int .i64 l', ints ls']⟩) (by simp [ints]) (by simp [ints])) (Le.trim [65, 67, 7, 8, 3, 4, 2] [0, 1] 2 (by simp [ints]) (by omega)))) ?_
  simp [ints]
  refine TL.call (by simp [hC]) rfl rfl (CallQ.of rfl rfl b) (TL.go' tabOk ?_)
  simp [hC]
  refine T.seq (T.go' tabOk ?_)
  simp [hC]
  refine TL.call (by simp [hC]) rfl rfl (CallQ.of rfl rfl d1) (TL.go' tabOk ?_)
  cases p <;> cases q <;> cases e <;> simp only [Bool.or_false, Bool.or_true, Bool.and_false, Bool.and_true, Bool.not_false, Bool.not_true, Bool.false_eq_true, Bool.true_eq_false] at ht hs
  all_goals
    simp [hC]
    refine TL.callG (by simp [hC]) rfl rfl rfl rfl (CallQ.of rfl rfl d2) (TL.go' tabOk ?_)
    simp [hC]
    refine TL.callG (by simp [hC]) rfl rfl rfl rfl (CallQ.of rfl rfl a3) (TL.go' tabOk ?_)
    simp [hC]
    refine TL.callG (by simp [hC]) rfl rfl rfl rfl (CallQ.of rfl rfl aw) (TL.go' tabOk ?_)
    simp [hC]
    refine T.ret ?_
    refine upTo.here ?_
    simp [Tryz.results4]

end Go.Proofs.YtniilppjegieaaaGreat
