/- rank: edges, Check, the reference's direct and CheckRank, the law's pairs. -/
import Derived.Test.YtgiphneejidahaaW12
namespace Go.Proofs.Ytgiphneejidahaa
open Go.Can

theorem filter_succ {α : Type} (p : α → Bool) (l : List α) (i : Nat) (h : i < l.length) : (l.take (i + 1)).filter p = if p l[i] then (l.take i).filter p ++ [l[i]] else (l.take i).filter p := by
  rw [List.take_succ_eq_append_getElem h, List.filter_append]
  cases hq : p l[i] <;> simp [hq]
theorem filter_take_le {α : Type} (p : α → Bool) (l : List α) (i : Nat) : ((l.take i).filter p).length ≤ l.length := by
  have := List.length_filter_le p (l.take i)
  simp at this; omega

set_option maxHeartbeats 4000000 in
set_option maxRecDepth 10000 in
theorem c43_ok (n : Int) (ps : List (List Int)) (hl : ps.length ≤ 1000000) : PureCall Try.prog 43 [.int .i64 n, intss ps] (intss (edgesOf n ps)) := by
  refine PureCall.of_TLe Try.func43 rfl (by kernel_rfl) (by simp [Try.ntmps43]) rfl fun C hC => ?_
  rw [Try.ntmps43] at hC
  refine T.seq (T.go' tabOk ?_)
  simp [hC]
  refine T.seq (T.go' tabOk ?_)
  simp [hC]
  refine T.seq (T.seq (T.go' tabOk ?_))
  simp [hC, intss]
  refine T.block ?_
  refine T.loopLe (fun m s => ∃ i : Nat, m = ps.length - i ∧ i ≤ ps.length ∧ s = ⟨[(10, .int .i64 i), (9, .int .i64 ps.length), (8, intss ps), (5, .osl 0 0 ((ps.take i).filter (arrowB n)).length), (0, .int .i64 n)], [(0, ⟨22, 1, ((ps.take i).filter (arrowB n)).map ints⟩)], 1⟩) (n := ps.length) ?_ ?_
  · refine upTo.le (Le.own 5 22 1 rfl) ?_
    refine upTo.trim [10, 9, 8, 5, 0] [0] 1 (by simp) ⟨0, rfl, Nat.zero_le _, ?_⟩
    simp [intss]
  · rintro w s ⟨i, rfl, hi, rfl⟩
    refine T.seq (T.go' tabOk ?_)
    simp [hC]
    refine T.seq (T.cond_if rfl (fun h => ?_) (fun h => ?_))
    · have hip : i < ps.length := by simpa using h
      have hw := w64 ((i : Int) + 1) (by omega) (by omega)
      have hfs := filter_succ (arrowB n) ps i hip
      have hfl := filter_take_le (arrowB n) ps i
      have ep : ps[i]? = some ps[i] := List.getElem?_eq_getElem hip
      generalize hpi : ps[i] = p at *
      generalize (ps.take i).filter (arrowB n) = fs at *
      refine T.skip ?_
      simp
      refine T.le (Le.env [10, 9, 8, 5, 0]) ?_
      simp
      refine T.seq (T.block (T.seq (T.go' tabOk ?_)))
      simp [hC, intss, hip, hpi]
      refine T.cut (fun s => s = ⟨[(42, .bool (arrowB n p)), (7, ints p), (10, .int .i64 i), (9, .int .i64 ps.length), (8, intss ps), (5, .osl 0 0 fs.length), (0, .int .i64 n)], [(0, ⟨22, 1, fs.map ints⟩)], 1⟩) (T.go' tabOk ?_) ?_
      · rcases p with _ | ⟨a, _ | ⟨b, _ | ⟨c, r⟩⟩⟩
        · simp [hC, ints]
          refine upTo.le (Le.env [42, 7, 10, 9, 8, 5, 0]) (upTo.here ?_)
          simp [arrowB, intss]
        · simp [hC, ints]
          refine upTo.le (Le.env [42, 7, 10, 9, 8, 5, 0]) (upTo.here ?_)
          simp [arrowB, intss]
        · by_cases h1 : 0 ≤ a <;> by_cases h2 : a < n <;> by_cases h3 : 0 ≤ b <;> by_cases h4 : b < n
          all_goals
            simp [hC, ints, h1, h2, h3, h4]
            refine upTo.le (Le.env [42, 7, 10, 9, 8, 5, 0]) (upTo.here ?_)
            simp [arrowB, intss, h1, h2, h3, h4]
        · have hne : ¬ ((r.length : Int) + 1 + 1 + 1 = 2) := by omega
          simp [hC, ints]
          refine upTo.le (Le.env [42, 7, 10, 9, 8, 5, 0]) (upTo.here ?_)
          simp [arrowB, intss]
      · rintro s rfl
        refine T.cond_if rfl (fun h => ?_) (fun h => ?_)
        · rw [if_pos h] at hfs
          have hb2 : (fs.length + 1) * 24 ≤ 140737488355328 := by omega
          refine T.go' tabOk ?_
          simp [hC, ints, hb2]
          refine T.go' tabOk ?_
          simp [hC, hw]
          refine ⟨_, ?_, upTo.trim [10, 9, 8, 5, 0] [0] 1 (by simp) ⟨i + 1, rfl, hip, ?_⟩⟩
          · omega
          · simp [hfs, intss, ints]
        · rw [if_neg (by simp [h])] at hfs
          refine T.skip ?_
          simp
          refine T.go' tabOk ?_
          simp [hC, hw]
          refine ⟨_, ?_, upTo.le (Le.env [10, 9, 8, 5, 0]) (upTo.here ⟨i + 1, rfl, hip, ?_⟩)⟩
          · omega
          · simp [hfs, intss]
    · have hip : i = ps.length := by simp at h; omega
      refine T.exit ?_
      simp [hip]
      refine T.seq (T.go' tabOk ?_)
      simp [hC]
      refine T.ret ?_
      unfold edgesOf
      generalize ps.filter (arrowB n) = X
      refine upTo.le (Le.frz (o := 0) (ob := ⟨22, 1, X.map ints⟩) (by simp) (by simp)) (upTo.here ?_)
      simp [Try.results43, List.take_of_length_le]

/-- The law's pairs. -/
def upB (up : Bool) (p : List Int) : Bool := !up || decide (p.getD 0 0 < p.getD 1 0)
def pairsUp (l : List Int) (n : Int) (up : Bool) : List (List Int) := (pairsOf l (max n 1)).filter (upB up)
theorem pairsUp_le (l : List Int) (n : Int) (up : Bool) : (pairsUp l n up).length ≤ 20 := Nat.le_trans (List.length_filter_le _ _) (pairsOf_le _ _)
theorem pairsOf_two (l : List Int) (n : Int) (p : List Int) (h : p ∈ pairsOf l n) : ∃ a b, p = [a, b] := by
  simp only [pairsOf, List.mem_map] at h
  obtain ⟨i, _, rfl⟩ := h
  exact ⟨_, _, rfl⟩

set_option maxHeartbeats 4000000 in
set_option maxRecDepth 10000 in
theorem c27_ok (l : List Int) (n : Int) (up : Bool) (hn : n ≤ 4611686018427387904) (hl : l.length ≤ 9223372036854775807) : PureCall Try.prog 27 [ints l, .int .i64 n, .bool up] (intss (pairsUp l n up)) := by
  refine PureCall.of_TLe Try.func27 rfl (by kernel_rfl) (by simp [Try.ntmps27]) rfl fun C hC => ?_
  rw [Try.ntmps27] at hC
  refine T.seq (T.go' tabOk ?_)
  simp [hC]
  refine T.seq (T.go' tabOk ?_)
  simp [hC]
  have hmx : (if n < 1 then (1 : Int) else n) = max n 1 := by split <;> omega
  rw [hmx]
  refine TL.call (by simp [hC]) rfl rfl (CallQ.of rfl rfl (c15_ok l (max n 1) (by omega) (by omega) hl)) (TL.go' tabOk ?_)
  have hps := pairsOf_le l (max n 1)
  have htwo := pairsOf_two l (max n 1)
  unfold pairsUp
  generalize pairsOf l (max n 1) = ps at *
  simp [hC]
  refine T.seq (T.go' tabOk ?_)
  simp [hC]
  refine T.seq (T.seq (T.go' tabOk ?_))
  simp [hC]
  refine T.block ?_
  refine T.loopLe (fun m s => ∃ i : Nat, m = ps.length - i ∧ i ≤ ps.length ∧ s = ⟨[(9, .int .i64 i), (8, .osl 0 0 ((ps.take i).filter (upB up)).length), (7, intss ps), (2, .bool up)], [(0, ⟨22, 1, ((ps.take i).filter (upB up)).map ints⟩)], 1⟩) (n := ps.length) ?_ ?_
  · refine upTo.le (Le.own 8 22 1 rfl) ?_
    refine upTo.trim [9, 8, 7, 2] [0] 1 (by simp) ⟨0, rfl, Nat.zero_le _, ?_⟩
    simp
  · rintro w s ⟨i, rfl, hi, rfl⟩
    refine T.seq (T.seq (T.go' tabOk ?_))
    simp [hC, intss]
    refine T.cond_if rfl (fun h => ?_) (fun h => ?_)
    · have hip : i < ps.length := by simpa using h
      have hw := w64 ((i : Int) + 1) (by omega) (by omega)
      have hfs := filter_succ (upB up) ps i hip
      have hfl := filter_take_le (upB up) ps i
      have ep : ps[i]? = some ps[i] := List.getElem?_eq_getElem hip
      obtain ⟨a, b, hab⟩ := htwo ps[i] (List.getElem_mem hip)
      generalize hpi : ps[i] = p at *
      subst hab
      generalize (ps.take i).filter (upB up) = fs at *
      refine T.skip ?_
      simp
      refine T.le (Le.env [9, 8, 7, 2]) ?_
      simp
      refine T.seq (T.block (T.cut (fun s => s = ⟨[(36, .bool (upB up [a, b])), (9, .int .i64 i), (8, .osl 0 0 fs.length), (7, intss ps), (2, .bool up)], [(0, ⟨22, 1, fs.map ints⟩)], 1⟩) (T.draw' tabOk follows [] [0, 1, 2, 3, 4, 5, 6, 7, 8, 9, 10, 11, 12, 13, 14, 15, 16] [] (by kernel_rfl) ?_) ?_))
      · cases up
        · simp [hC]
          refine upTo.le (Le.env [36, 9, 8, 7, 2]) (upTo.here ?_)
          simp [upB, intss]
        · simp [hC, intss, hip, hpi, ints]
          refine upTo.le (Le.env [36, 9, 8, 7, 2]) (upTo.here ?_)
          simp [upB]
      · rintro s rfl
        refine T.cond_if rfl (fun h => ?_) (fun h => ?_)
        · rw [if_pos h] at hfs
          have hb2 : (fs.length + 1) * 24 ≤ 140737488355328 := by omega
          refine T.go' tabOk ?_
          simp [hC, intss, hip, hpi, hb2]
          refine T.go' tabOk ?_
          simp [hC, hw]
          refine ⟨_, ?_, upTo.trim [9, 8, 7, 2] [0] 1 (by simp) ⟨i + 1, rfl, hip, ?_⟩⟩
          · omega
          · simp [hfs]
        · rw [if_neg (by simp [h])] at hfs
          refine T.skip ?_
          simp
          refine T.go' tabOk ?_
          simp [hC, hw]
          refine ⟨_, ?_, upTo.le (Le.env [9, 8, 7, 2]) (upTo.here ⟨i + 1, rfl, hip, ?_⟩)⟩
          · omega
          · simp [hfs, intss]
    · have hip : i = ps.length := by simp at h; omega
      refine T.exit ?_
      simp [hip]
      refine T.seq (T.go' tabOk ?_)
      simp [hC]
      refine T.ret ?_
      generalize ps.filter (upB up) = X
      refine upTo.le (Le.frz (o := 0) (ob := ⟨22, 1, X.map ints⟩) (by simp) (by simp)) (upTo.here ?_)
      simp [Try.results27, List.take_of_length_le]
end Go.Proofs.Ytgiphneejidahaa
