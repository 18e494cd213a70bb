/- rank.Of, the reference's Rank, the sanity check. -/
import Derived.Test.YtgiphneejidahaaW21
namespace Go.Proofs.Ytgiphneejidahaa
open Go.Can

noncomputable def rankL (n : Int) (ps : List (List Int)) : List Int := if codeCyc n ps = [] then levL n ps else []
def rankB (n : Int) (ps : List (List Int)) : Bool := decide (codeCyc n ps = [])

set_option maxHeartbeats 4000000 in
set_option maxRecDepth 10000 in
theorem c28_ok (n : Int) (ps : List (List Int)) (hl : ps.length ≤ 1000000) : PureCall Try.prog 28 [.int .i64 n, intss ps] (.tup [ints (rankL n ps), .bool (rankB n ps)]) := by
  refine PureCall.of_TLe Try.func28 rfl (by kernel_rfl) (by simp [Try.ntmps28]) rfl fun C hC => ?_
  rw [Try.ntmps28] at hC
  refine T.seq (T.go' tabOk ?_)
  simp [hC]
  refine T.seq (T.seq (T.go' tabOk ?_))
  simp [hC]
  refine TL.call (by simp [hC]) rfl rfl (CallQ.of rfl rfl (c19_ok n ps (by omega))) (TL.go' tabOk ?_)
  simp [hC, intss]
  refine T.cond_if rfl (fun h => ?_) (fun h => ?_)
  · have hne : codeCyc n ps ≠ [] := by
      intro e; rw [e] at h; simp at h
    refine T.seq (T.go' tabOk ?_)
    simp [hC]
    refine T.ret ?_
    refine upTo.le (Le.env [4, 5]) ?_
    simp
    refine upTo.le (Le.own 4 3 1 rfl) ?_
    refine upTo.le (Le.frz (o := 0) (ob := ⟨3, 1, []⟩) (by simp) (by simp)) (upTo.here ?_)
    simp [rankL, rankB, hne, ints]
  · have hne : codeCyc n ps = [] := by
      cases hc : codeCyc n ps
      · rfl
      · rw [hc] at h; simp at h
    refine T.skip ?_
    simp
    refine T.seq (T.go' tabOk ?_)
    simp [hC]
    refine TL.call (by simp [hC]) rfl rfl (CallQ.of rfl rfl (c31_ok n ps hl)) (TL.go' tabOk ?_)
    simp [hC]
    refine T.ret ?_
    refine upTo.here ?_
    simp [Try.results28, rankL, rankB, hne]

set_option maxHeartbeats 4000000 in
set_option maxRecDepth 10000 in
theorem c29_ok (n : Int) (ps : List (List Int)) (hl : ps.length ≤ 1000000) : PureCall Try.prog 29 [.int .i64 n, intss ps] (.tup [ints (rankL n ps), .bool (rankB n ps)]) := by
  refine PureCall.of_TLe Try.func29 rfl (by kernel_rfl) (by simp [Try.ntmps29]) rfl fun C hC => ?_
  rw [Try.ntmps29] at hC
  refine T.seq (T.go' tabOk ?_)
  simp [hC]
  refine T.seq (T.seq (T.go' tabOk ?_))
  simp [hC]
  refine TL.call (by simp [hC]) rfl rfl (CallQ.of rfl rfl (code_ref_cyc n ps ▸ c20_ok n ps (by omega))) (TL.go' tabOk ?_)
  simp [hC, intss]
  refine T.cond_if rfl (fun h => ?_) (fun h => ?_)
  · have hne : codeCyc n ps ≠ [] := by
      intro e; rw [e] at h; simp at h
    refine T.seq (T.go' tabOk ?_)
    simp [hC]
    refine T.ret ?_
    refine upTo.le (Le.env [4, 5]) ?_
    simp
    refine upTo.le (Le.own 4 3 1 rfl) ?_
    refine upTo.le (Le.frz (o := 0) (ob := ⟨3, 1, []⟩) (by simp) (by simp)) (upTo.here ?_)
    simp [rankL, rankB, hne, ints]
  · have hne : codeCyc n ps = [] := by
      cases hc : codeCyc n ps
      · rfl
      · rw [hc] at h; simp at h
    refine T.skip ?_
    simp
    refine T.seq (T.go' tabOk ?_)
    simp [hC]
    refine TL.call (by simp [hC]) rfl rfl (CallQ.of rfl rfl (c32_ok n ps hl)) (TL.go' tabOk ?_)
    simp [hC]
    refine T.ret ?_
    refine upTo.here ?_
    simp [Try.results29, rankL, rankB, hne]

/-- The ranks, reckoned. -/
def levJ (k : Nat) (ps : List (List Int)) : List Int := natI ((List.range k).map fun y => jac (cof (compsFN k (reachM k ps) k).2) (edgesOf k ps) (compsFN k (reachM k ps) k).2.length (cof (compsFN k (reachM k ps) k).2 y))
theorem levL_eq (k : Nat) (hk : k ≤ 64) (ps : List (List Int)) : levL k ps = levJ k ps := by
  have hnn := nn_nat k hk
  have ht := reach_trans k ps
  rw [hnn] at ht
  have hD := divides ht
  have hne : ∀ l ∈ (compsFN k (reachM k ps) k).2, l ≠ [] := fun l hl => by
    have h1 := (compsFN_eq k (reachM k ps) k).2
    have := comps_comp k (reachM k ps) k (Nat.le_refl _) (natI l) (by rw [← h1]; exact List.mem_map.2 ⟨l, hl, rfl⟩)
    exact natI_ne this
  unfold levL levJ
  rw [hnn]
  congr 1
  exact List.map_congr_left fun y hy => (levN_least k ps hk).eq (jac_Least k hk ps hD hne) y (by simpa using hy)

def awr : List (List Int) := [[0, 1], [1, 2]]
def awc : List (List Int) := [[0, 1], [1, 0]]
theorem awr1 : rankB 3 awr = true := by kernel_rfl
theorem awr2 : rankB 2 awc = false := by kernel_rfl
theorem awr3 : levL 3 awr = [0, 1, 2] := (levL_eq 3 (by decide) awr).trans (by kernel_rfl)
theorem awr4 : levL 3 awk = [0, 0, 1] := (levL_eq 3 (by decide) awk).trans (by kernel_rfl)
theorem awr5 : checkB 3 awr [-5, 0, 9] = true := by kernel_rfl
theorem awr6 : checkB 3 awr [0, 0, 1] = false := by kernel_rfl
theorem awr7 : rankL 3 awr = [0, 1, 2] := by
  have h : codeCyc 3 awr = [] := of_decide_eq_true awr1
  unfold rankL; rw [if_pos h, awr3]

set_option maxHeartbeats 4000000 in
set_option maxRecDepth 10000 in
theorem c33_ok : PureCall Try.prog 33 [] (.bool true) := by
  refine PureCall.of_TLe Try.func33 rfl (by kernel_rfl) (by simp [Try.ntmps33]) rfl fun C hC => ?_
  rw [Try.ntmps33] at hC
  refine T.seq (T.go' tabOk ?_)
  simp [hC]
  refine T.seq (T.go' tabOk ?_)
  simp [hC]
  refine T.le (Le.env [1]) ?_
  simp
  refine T.le (Le.frz (o := 0) rfl rfl) ?_
  simp
  refine T.le (Le.frz (o := 1) rfl rfl) ?_
  simp
  refine T.le (Le.frz (o := 2) rfl rfl) ?_
  simp
  refine T.seq (T.go' tabOk ?_)
  simp [hC]
  refine TL.call (by simp [hC]) rfl rfl (CallQ.of rfl rfl (c28_ok 3 awr (by decide))) (TL.go' tabOk ?_)
  rw [awr1, awr7]
  simp [hC]
  refine T.le (Le.env [1, 2, 3]) ?_
  simp
  refine T.seq (T.go' tabOk ?_)
  simp [hC]
  refine TL.le (Le.env [17, 1, 2, 3]) ?_
  simp
  refine TL.le (Le.frz (o := 3) rfl rfl) ?_
  simp
  refine TL.le (Le.frz (o := 4) rfl rfl) ?_
  simp
  refine TL.le (Le.frz (o := 5) rfl rfl) ?_
  simp
  refine TL.call (by simp [hC]) rfl rfl (CallQ.of rfl rfl (c28_ok 2 awc (by decide))) (TL.go' tabOk ?_)
  rw [awr2]
  simp [hC]
  refine T.le (Le.env [1, 2, 3, 5]) ?_
  simp
  refine T.seq (T.go' tabOk ?_)
  simp [hC]
  refine TL.le (Le.frz (o := 6) rfl rfl) ?_
  simp
  refine TL.callG (by simp [hC]) rfl rfl rfl rfl (CallQ.of rfl rfl (c30_ok [0, 1, 2] [0, 1, 2] (by decide))) (TL.go' tabOk ?_)
  simp [hC]
  refine TL.le (Le.frz (o := 7) rfl rfl) ?_
  simp
  refine TL.callG (by simp [hC]) rfl rfl rfl rfl (CallQ.of rfl rfl (c34_ok 3 awr [-5, 0, 9] (by decide))) (TL.go' tabOk ?_)
  rw [awr5]
  simp [hC]
  refine TL.le (Le.frz (o := 8) rfl rfl) ?_
  simp
  refine TL.callG (by simp [hC]) rfl rfl rfl rfl (CallQ.of rfl rfl (c34_ok 3 awr [0, 0, 1] (by decide))) (TL.go' tabOk ?_)
  rw [awr6]
  simp [hC]
  refine TL.le (Le.frz (o := 9) rfl rfl) ?_
  simp
  refine TL.le (Le.frz (o := 10) rfl rfl) ?_
  simp
  refine TL.le (Le.frz (o := 11) rfl rfl) ?_
  simp
  refine TL.le (Le.frz (o := 12) rfl rfl) ?_
  simp
  refine TL.callG (by simp [hC]) rfl rfl rfl rfl (CallQ.of rfl rfl (c31_ok 3 awk (by decide))) (TL.go' tabOk ?_)
  rw [awr4]
  simp [hC]
  refine TL.le (Le.frz (o := 13) rfl rfl) ?_
  simp
  refine TL.callG (by simp [hC]) rfl rfl rfl rfl (CallQ.of rfl rfl (c30_ok [0, 0, 1] [0, 0, 1] (by decide))) (TL.go' tabOk ?_)
  simp [hC]
  refine T.ret ?_
  refine upTo.here ?_
  simp [Try.results33]
end Go.Proofs.Ytgiphneejidahaa
