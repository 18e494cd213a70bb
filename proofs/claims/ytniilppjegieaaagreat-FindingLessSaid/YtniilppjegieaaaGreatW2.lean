/- Contracts: cmp.Or, finding.compare, finding.Less. -/
import Derived.Test.YtniilppjegieaaaGreatW1
namespace Go.Proofs.YtniilppjegieaaaGreat
open Go.Can

def orL : List Int → Int
  | [] => 0
  | a :: x => if a = 0 then orL x else a

set_option maxRecDepth 10000 in
theorem c49_ok (x : List Int) (hx : x.length ≤ 4611686018427387904) : PureCall Tryz.prog 49 [ints x] (.int .i64 (orL x)) := by
  refine PureCall.of_TLe tabOk Tryz.func49 rfl (by kernel_rfl) (by simp [Tryz.ntmps49]) rfl fun C hC hC0 => ?_
  rw [Tryz.ntmps49] at hC
  refine T.seq (T.go' tabOk ?_)
  simp [hC]
  refine T.seq (T.go' tabOk ?_)
  simp [hC]
  refine T.seq (T.seq (T.go' tabOk ?_))
  simp [hC, ints]
  refine T.block ?_
  refine T.loopLe (fun m s => ∃ i : Nat, m = x.length - i ∧ i ≤ x.length ∧ orL x = orL (x.drop i) ∧ s = ⟨[(8, .int .i64 i), (7, .int .i64 x.length), (6, ints x), (3, .int .i64 0)], [], 0⟩) (n := x.length) ?_ ?_
  · refine upTo.le (Le.env [8, 7, 6, 3]) (upTo.here ⟨0, rfl, Nat.zero_le _, ?_, ?_⟩)
    · simp
    · simp [ints]
  · rintro w s ⟨i, rfl, hi, hc, rfl⟩
    refine T.seq (T.go' tabOk ?_)
    simp [hC]
    refine T.seq (T.cond_if rfl (fun h => ?_) (fun h => ?_))
    · have hix : i < x.length := by simpa using h
      have hw := w64 ((i : Int) + 1) (by omega) (by omega)
      have ex : x[i]? = some x[i] := List.getElem?_eq_getElem hix
      rw [List.drop_eq_getElem_cons hix, orL] at hc
      generalize hxx : x[i] = u at *
      refine T.skip ?_
      simp
      refine T.seq (T.block (T.seq (T.go' tabOk ?_)))
      simp [hC, ints, hix, hxx]
      refine T.seq (T.go' tabOk ?_)
      simp [hC]
      refine T.cond_if rfl (fun h => ?_) (fun h => ?_)
      · have hne : u ≠ 0 := by simpa using h
        refine T.seq (T.go' tabOk ?_)
        simp [hC]
        refine T.ret ?_
        refine upTo.here ?_
        rw [if_neg hne] at hc
        simp [Tryz.results49, hc]
      · have heq : u = 0 := by simpa using h
        rw [if_pos heq] at hc
        refine T.skip ?_
        simp
        refine T.go' tabOk ?_
        simp [hC, hw]
        refine ⟨_, ?_, upTo.le (Le.env [8, 7, 6, 3]) (upTo.here ⟨i + 1, rfl, hix, hc, ?_⟩)⟩
        · omega
        · simp
    · have hix : i = x.length := by simp at h; omega
      subst hix
      refine T.exit ?_
      simp
      refine T.seq (T.go' tabOk ?_)
      simp [hC]
      refine T.ret ?_
      refine upTo.here ?_
      have : orL x = 0 := by
        rw [hc, List.drop_length]; rfl
      simp [Tryz.results49, this]

def fnd (k i pc l : Int) (ls : List Int) : CV := .agg [.int .i64 k, .int .i64 i, .int .i64 pc, .int .i64 l, ints ls]

set_option maxHeartbeats 4000000 in
set_option maxRecDepth 10000 in
theorem c22_ok (k i pc l : Int) (ls : List Int) (k' i' pc' l' : Int) (ls' : List Int) (hx : ls.length ≤ 4611686018427387904) (hy : ls'.length ≤ 4611686018427387904) : PureCall Tryz.prog 22 [fnd k i pc l ls, fnd k' i' pc' l' ls'] (.int .i64 (orL [cmpI k k', cmpI i i', cmpI pc pc', cmpI l l', cmpL ls ls'])) := by
  refine PureCall.of_TLe tabOk Tryz.func22 rfl (by kernel_rfl) (by simp [Tryz.ntmps22]) rfl fun C hC hC0 => ?_
  rw [Tryz.ntmps22] at hC
  refine T.seq (T.go' tabOk ?_)
  simp [hC, fnd]
  refine T.seq ?_
  refine T.draw' tabOk follows [] [0, 1, 2, 3, 4, 5, 6, 7, 8, 9, 10, 11, 12, 13, 14, 15, 16, 17, 18, 19, 20, 21, 22, 23, 24] [25, 26, 27] (by kernel_rfl) ?_
  simp [hC]
  refine TH.call rfl rfl rfl rfl (CallQ.of rfl rfl (c26_ok k k')) (TH.go' ?_)
  simp
  refine TH.call rfl rfl rfl rfl (CallQ.of rfl rfl (c26_ok i i')) (TH.go' ?_)
  simp
  refine TH.call rfl rfl rfl rfl (CallQ.of rfl rfl (c26_ok pc pc')) (TH.go' ?_)
  simp
  refine TH.call rfl rfl rfl rfl (CallQ.of rfl rfl (c26_ok l l')) (TH.go' ?_)
  simp
  refine TH.call rfl rfl rfl rfl (CallQ.of rfl rfl (c16_ok ls ls' hx hy)) (TH.go' ?_)
  simp [hC]
  refine TL.le (Le.trans (Le.frz (o := 2) (ob := ⟨3, 1, [.int .i64 (cmpI k k'), .int .i64 (cmpI i i'), .int .i64 (cmpI pc pc'), .int .i64 (cmpI l l'), .int .i64 (cmpL ls ls')]⟩) (by simp) (by simp)) (Le.env [30])) ?_
  simp
  refine TL.call (by simp [hC]) rfl rfl (CallQ.of rfl rfl (c49_ok [cmpI k k', cmpI i i', cmpI pc pc', cmpI l l', cmpL ls ls'] (by simp))) (TL.go' tabOk ?_)
  simp [hC]
  refine T.ret ?_
  refine upTo.here ?_
  simp [Tryz.results22]

def lessF (k i pc l : Int) (ls : List Int) (k' i' pc' l' : Int) (ls' : List Int) : Bool := decide (orL [cmpI k k', cmpI i i', cmpI pc pc', cmpI l l', cmpL ls ls'] < 0)

set_option maxRecDepth 10000 in
theorem c10_ok (k i pc l : Int) (ls : List Int) (k' i' pc' l' : Int) (ls' : List Int) (hx : ls.length ≤ 4611686018427387904) (hy : ls'.length ≤ 4611686018427387904) : PureCall Tryz.prog 10 [fnd k i pc l ls, fnd k' i' pc' l' ls'] (.bool (lessF k i pc l ls k' i' pc' l' ls')) := by
  refine PureCall.of_TLe tabOk Tryz.func10 rfl (by kernel_rfl) (by simp [Tryz.ntmps10]) rfl fun C hC hC0 => ?_
  rw [Tryz.ntmps10] at hC
  refine T.seq (T.go' tabOk ?_)
  simp [hC, fnd]
  refine T.seq (T.go' tabOk ?_)
  simp [hC]
  refine TL.call (by simp [hC]) rfl rfl (CallQ.of rfl rfl (c22_ok k i pc l ls k' i' pc' l' ls' hx hy)) (TL.go' tabOk ?_)
  simp [hC]
  refine T.ret ?_
  refine upTo.here ?_
  simp [Tryz.results10, lessF]

end Go.Proofs.YtniilppjegieaaaGreat
