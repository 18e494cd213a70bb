/- Laws RankOf and RankRaw. -/
import Derived.Test.YtgiphneejidahaaW22
import Derived.Test.YtgiphneejidahaaW15
namespace Go.Proofs.Ytgiphneejidahaa
open Go.Can

theorem levL_length (n : Int) (ps : List (List Int)) : (levL n ps).length = nn n := by simp [levL]
theorem rankL_length (n : Int) (ps : List (List Int)) : (rankL n ps).length ≤ 64 := by
  unfold rankL
  split
  · rw [levL_length]; exact nn_le n
  · simp
theorem same_lev (n : Int) (ps : List (List Int)) : PureCall Try.prog 30 [ints (levL n ps), ints (levL n ps)] (.bool true) := by
  have := c30_ok (levL n ps) (levL n ps) (by rw [levL_length]; exact Nat.le_trans (nn_le n) (by decide))
  simpa using this
theorem same_rank (n : Int) (ps : List (List Int)) : PureCall Try.prog 30 [ints (rankL n ps), ints (rankL n ps)] (.bool true) := by
  have := c30_ok (rankL n ps) (rankL n ps) (Nat.le_trans (rankL_length n ps) (by decide))
  simpa using this

set_option maxHeartbeats 4000000 in
set_option maxRecDepth 10000 in
theorem c9_ok (n : Int) (l : List Int) (up : Bool) (hl : l.length ≤ 9223372036854775807) : PureCall Try.prog 9 [.int .i64 n, ints l, .bool up] (.bool true) := by
  refine PureCall.of_TLe Try.func9 rfl (by kernel_rfl) (by simp [Try.ntmps9]) rfl fun C hC => ?_
  rw [Try.ntmps9] at hC
  refine T.seq (T.go' tabOk ?_)
  simp [hC]
  refine T.seq (T.go' tabOk ?_)
  simp [hC]
  refine TL.call (by simp [hC]) rfl rfl (CallQ.of rfl rfl (c26_ok n)) (TL.go' tabOk ?_)
  have hm1 := Int.emod_lt_of_pos n (show (0 : Int) < 11 by decide)
  generalize n % 11 = m at *
  simp [hC]
  refine T.seq (T.go' tabOk ?_)
  simp [hC]
  refine TL.call (by simp [hC]) rfl rfl (CallQ.of rfl rfl (c27_ok l m up (by omega) hl)) (TL.go' tabOk ?_)
  have hps := pairsUp_le l m up
  generalize pairsUp l m up = ps at *
  have hp : ps.length ≤ 1000000 := by omega
  simp [hC]
  refine T.seq (T.go' tabOk ?_)
  simp [hC]
  refine TL.call (by simp [hC]) rfl rfl (CallQ.of rfl rfl (c28_ok m ps hp)) (TL.go' tabOk ?_)
  simp [hC]
  refine T.seq (T.go' tabOk ?_)
  simp [hC]
  refine TL.call (by simp [hC]) rfl rfl (CallQ.of rfl rfl (c29_ok m ps hp)) (TL.go' tabOk ?_)
  simp [hC]
  refine T.seq (T.go' tabOk ?_)
  simp [hC]
  refine TL.callG (by simp [hC]) rfl rfl rfl rfl (CallQ.of rfl rfl (same_rank m ps)) (TL.go' tabOk ?_)
  simp [hC]
  refine TL.callG (by simp [hC]) rfl rfl rfl rfl (CallQ.of rfl rfl (c31_ok m ps hp)) (TL.go' tabOk ?_)
  simp [hC]
  refine TL.callG (by simp [hC]) rfl rfl rfl rfl (CallQ.of rfl rfl (c32_ok m ps hp)) (TL.go' tabOk ?_)
  simp
  refine TL.callG (by simp [hC]) rfl rfl rfl rfl (CallQ.of rfl rfl (same_lev m ps)) (TL.go' tabOk ?_)
  simp [hC]
  refine TL.callG (by simp [hC]) rfl rfl rfl rfl (CallQ.of rfl rfl c33_ok) (TL.go' tabOk ?_)
  simp [hC]
  refine T.ret ?_
  refine upTo.here ?_
  simp [Try.results9]

def rawOf20 (l : List (List Int)) : List (List Int) := (l.take 20).map (·.take 4)
theorem rawC_zero20 (l : List (List Int)) : rawC (min 20 l.length) l 0 = (l.take 20).map ints := by
  apply List.ext_getElem?
  intro k
  by_cases hk : k < min 20 l.length
  · unfold rawC; rw [vec_get _ _ _ hk]
    have : k < l.length := by omega
    have h30 : k < 20 := by omega
    simp [h30, this, List.getD, rowAt]
  · rw [List.getElem?_eq_none (by simp; omega), List.getElem?_eq_none (by simp; omega)]
theorem rawC_full20 (l : List (List Int)) : rawC (min 20 l.length) l (min 20 l.length) = (rawOf20 l).map ints := by
  apply List.ext_getElem?
  intro k
  by_cases hk : k < min 20 l.length
  · unfold rawC; rw [vec_get _ _ _ hk]
    have : k < l.length := by omega
    have h30 : k < 20 := by omega
    simp [rawOf20, this, List.getD, hk, rowAt]
  · rw [List.getElem?_eq_none (by simp; omega), List.getElem?_eq_none (by simp [rawOf20]; omega)]

set_option maxHeartbeats 4000000 in
set_option maxRecDepth 10000 in
theorem c10_ok (n : Int) (l : List (List Int)) (ranks more : List Int) (hl : l.length ≤ 9223372036854775807) (_ : ∀ x ∈ l, x.length ≤ 9223372036854775807) (_ : ranks.length ≤ 9223372036854775807) (hm : more.length ≤ 9223372036854775807) : PureCall Try.prog 10 [.int .i64 n, intss l, ints ranks, ints more] (.bool true) := by
  refine PureCall.of_TLe Try.func10 rfl (by kernel_rfl) (by simp [Try.ntmps10]) rfl fun C hC => ?_
  rw [Try.ntmps10] at hC
  refine T.seq (T.go' tabOk ?_)
  simp [hC]
  refine T.seq (T.go' tabOk ?_)
  have hm1 : (if (20 : Int) < (l.length : Int) then (20 : Int) else l.length) = ((min 20 l.length : Nat) : Int) := by split <;> omega
  have hz := rawC_zero20 l
  have hf := rawC_full20 l
  have hrl : (rawOf20 l).length = min 20 l.length := by simp [rawOf20]
  have hm2 : min 20 l.length ≤ l.length := by omega
  have hm3 : min 20 l.length ≤ 20 := by omega
  have hz' : List.take (min 20 l.length) (l.map ints) = rawC (min 20 l.length) l 0 := by
    rw [hz, ← List.map_take]
    by_cases h : l.length ≤ 20
    · rw [Nat.min_eq_right h, List.take_of_length_le (Nat.le_refl _), List.take_of_length_le h]
    · rw [Nat.min_eq_left (by omega)]
  generalize min 20 l.length = m at *
  have hb : (m : Int) * 24 ≤ 140737488355328 := by omega
  have hb' : m * 24 ≤ 140737488355328 := by omega
  simp [hC, intss, hm1, hm2, hz', hb']
  refine T.seq (T.seq (T.go' tabOk ?_))
  simp [hC]
  refine T.block ?_
  refine T.loopLe (fun w s => ∃ i : Nat, w = m - i ∧ i ≤ m ∧ s = ⟨[(9, .int .i64 i), (1, .osl 0 0 m), (0, .int .i64 n), (2, ints ranks), (3, ints more)], [(0, ⟨22, 1, rawC m l i⟩)], 1⟩) (n := m) ?_ ?_
  · refine upTo.le (Le.env [9, 1, 0, 2, 3]) (upTo.here ⟨0, rfl, Nat.zero_le _, ?_⟩)
    simp
  · rintro w s ⟨i, rfl, hi, rfl⟩
    refine T.seq (T.seq (T.go' tabOk ?_))
    simp [hC]
    refine T.cond_if rfl (fun h => ?_) (fun h => ?_)
    · have him : i < m := by simpa using h
      have hw := w64 ((i : Int) + 1) (by omega) (by omega)
      have hp := rawC_put (m := m) (i := i) (l := l) him
      refine T.skip ?_
      simp
      refine T.seq (T.block (T.draw' tabOk follows [] [0, 1, 2, 3, 4, 5, 6, 7, 8, 9, 10, 11, 12, 13] [14] (by kernel_rfl) ?_))
      generalize hy : rowAt l i = y at *
      have hq : (if (4 : Int) < (y.length : Int) then (4 : Int) else y.length) = ((min 4 y.length : Nat) : Int) := by split <;> omega
      have hq2 : min 4 y.length ≤ y.length := by omega
      have hq3 : List.take (min 4 y.length) (y.map I64) = (y.take 4).map I64 := by
        rw [← List.map_take]
        by_cases h : y.length ≤ 4
        · rw [Nat.min_eq_right h, List.take_of_length_le (Nat.le_refl _), List.take_of_length_le h]
        · rw [Nat.min_eq_left (by omega)]
      have hq4 : (y.take 4).length = min 4 y.length := by simp
      rw [show ints (y.take 4) = .tsl ((y.take 4).map I64) (min 4 y.length) from by unfold ints; rw [hq4], ← hq3] at hp
      generalize min 4 y.length = q at *
      simp [hC, him, ints, hy, hq, hq2, Nat.succ_le_of_lt him, hp]
      refine T.go' tabOk ?_
      simp [hC, hw]
      refine ⟨_, ?_, upTo.le (Le.env [9, 1, 0, 2, 3]) (upTo.here ⟨i + 1, rfl, him, ?_⟩)⟩
      · omega
      · simp
    · have him : i = m := by simp at h; omega
      refine T.exit ?_
      simp [him, hf]
      refine T.le (Le.env [1, 0, 2, 3]) ?_
      simp
      generalize rawOf20 l = ra at *
      subst hrl
      refine T.cut (fun s => ∃ n' : Int, s = ⟨[(1, .osl 0 0 ra.length), (0, .int .i64 n'), (2, ints ranks), (3, ints more)], [(0, ⟨22, 1, ra.map ints⟩)], 1⟩) (T.seq (T.go' tabOk ?_)) ?_
      · simp [hC]
        refine T.cond_if rfl (fun h => ?_) (fun h => ?_)
        · refine T.go' tabOk ?_
          simp [hC]
          refine TL.call (by simp [hC]) rfl rfl (CallQ.of rfl rfl (c23_ok n 20 (by decide) (by decide))) (TL.go' tabOk ?_)
          simp [hC]
          refine upTo.le (Le.env [1, 0, 2, 3]) (upTo.here ⟨n % 20, ?_⟩)
          simp
        · refine T.skip ?_
          simp
          refine upTo.le (Le.env [1, 0, 2, 3]) (upTo.here ⟨n, ?_⟩)
          simp
      · rintro s ⟨n', rfl⟩
        refine T.seq (T.go' tabOk ?_)
        simp [hC]
        refine TL.call (by simp [hC]) rfl rfl (CallQ.of rfl rfl (c15_ok more 4 (by decide) (by decide) hm)) (TL.go' tabOk ?_)
        have hps := pairsOf_le more 4
        generalize pairsOf more 4 = ps at *
        have hb1 : ((ra.length : Int) + ps.length) * 24 ≤ 140737488355328 := by omega
        have hb2 : (ra.length + ps.length) * 24 ≤ 140737488355328 := by omega
        simp [hC, intss, hb2]
        refine T.le (Le.trans (Le.frz (o := 0) (ob := ⟨22, 1, ra.map ints ++ ps.map ints⟩) (by simp) (by simp)) (Le.env [1, 0, 2, 3])) ?_
        have hall : List.take (ra.length + ps.length) (ra.map ints ++ ps.map ints) = (ra ++ ps).map ints := by
          rw [List.map_append, List.take_of_length_le (by simp)]
        simp [hall]
        have hqs : CV.tsl ((ra ++ ps).map ints) (ra.length + ps.length) = intss (ra ++ ps) := by simp [intss]
        simp only [List.map_append] at hqs
        rw [hqs]
        have hp : (ra ++ ps).length ≤ 1000000 := by simp; omega
        generalize ra ++ ps = qs at *
        refine T.seq (T.go' tabOk ?_)
        simp [hC]
        refine TL.call (by simp [hC]) rfl rfl (CallQ.of rfl rfl (c28_ok n' qs hp)) (TL.go' tabOk ?_)
        simp [hC]
        refine T.seq (T.go' tabOk ?_)
        simp [hC]
        refine TL.call (by simp [hC]) rfl rfl (CallQ.of rfl rfl (c29_ok n' qs hp)) (TL.go' tabOk ?_)
        simp [hC]
        refine T.seq (T.go' tabOk ?_)
        simp [hC]
        refine TL.callG (by simp [hC]) rfl rfl rfl rfl (CallQ.of rfl rfl (same_rank n' qs)) (TL.go' tabOk ?_)
        simp [hC]
        refine TL.callG (by simp [hC]) rfl rfl rfl rfl (CallQ.of rfl rfl (c31_ok n' qs hp)) (TL.go' tabOk ?_)
        simp [hC]
        refine TL.callG (by simp [hC]) rfl rfl rfl rfl (CallQ.of rfl rfl (c32_ok n' qs hp)) (TL.go' tabOk ?_)
        simp
        refine TL.callG (by simp [hC]) rfl rfl rfl rfl (CallQ.of rfl rfl (same_lev n' qs)) (TL.go' tabOk ?_)
        simp [hC]
        refine TL.callG (by simp [hC]) rfl rfl rfl rfl (CallQ.of rfl rfl (c34_ok n' qs ranks hp)) (TL.go' tabOk ?_)
        simp [hC]
        refine TL.callG (by simp [hC]) rfl rfl rfl rfl (CallQ.of rfl rfl (c35_ok n' qs ranks hp)) (TL.go' tabOk ?_)
        simp [hC]
        refine TL.callG (by simp [hC]) rfl rfl rfl rfl (CallQ.of rfl rfl c33_ok) (TL.go' tabOk ?_)
        simp [hC]
        refine T.ret ?_
        refine upTo.here ?_
        simp [Try.results10]
end Go.Proofs.Ytgiphneejidahaa
