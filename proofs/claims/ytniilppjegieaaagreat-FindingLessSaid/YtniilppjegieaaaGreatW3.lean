/- Contracts: SameFindings of single findings. -/
import Derived.Test.YtniilppjegieaaaGreatW2
namespace Go.Proofs.YtniilppjegieaaaGreat
open Go.Can

def fndC (k i pc l : Int) (ls : List Int) : List CV := [.int .i64 k, .int .i64 i, .int .i64 pc, .int .i64 l, ints ls]
def sameF (k i pc l : Int) (ls : List Int) (k' i' pc' l' : Int) (ls' : List Int) : Bool := decide (k = k' ∧ i = i' ∧ pc = pc' ∧ l = l' ∧ ls = ls')

set_option maxHeartbeats 4000000 in
set_option maxRecDepth 10000 in
theorem c11_ok (k i pc l : Int) (ls : List Int) (k' i' pc' l' : Int) (ls' : List Int) (hx : ls.length ≤ 4611686018427387904) : PureCall Tryz.prog 11 [.tsl (fndC k i pc l ls) 1, .tsl (fndC k' i' pc' l' ls') 1] (.bool (sameF k i pc l ls k' i' pc' l' ls')) := by
  refine PureCall.of_TLe tabOk Tryz.func11 rfl (by kernel_rfl) (by simp [Tryz.ntmps11]) rfl fun C hC hC0 => ?_
  rw [Tryz.ntmps11] at hC
  refine T.seq (T.go' tabOk ?_)
  simp [hC]
  refine T.seq (T.seq (T.go' tabOk ?_))
  simp [hC, fndC]
  refine T.cond_false rfl ?_
  refine T.skip ?_
  simp
  refine T.seq (T.seq (T.go' tabOk ?_))
  simp [hC]
  refine T.block ?_
  refine T.loopLe (fun m s => (m = 1 ∧ s = ⟨[(5, .int .i64 0), (0, .tsl (fndC k i pc l ls) 1), (1, .tsl (fndC k' i' pc' l' ls') 1)], [], 0⟩) ∨ (m = 0 ∧ sameF k i pc l ls k' i' pc' l' ls' = true ∧ s = ⟨[(5, .int .i64 1), (0, .tsl (fndC k i pc l ls) 1), (1, .tsl (fndC k' i' pc' l' ls') 1)], [], 0⟩)) (n := 1) ?_ ?_
  · refine upTo.le (Le.env [5, 0, 1]) (upTo.here (.inl ⟨rfl, ?_⟩))
    simp [fndC]
  · rintro w s (⟨rfl, rfl⟩ | ⟨rfl, hs, rfl⟩)
    · refine T.seq (T.seq (T.go' tabOk ?_))
      simp [hC, fndC]
      refine T.cond_true rfl ?_
      refine T.skip ?_
      simp
      refine T.seq (T.block (T.seq (T.draw' tabOk follows [] [0, 1, 2, 3, 4, 5, 6, 7, 8, 9, 10, 11, 12, 13, 14, 15, 16, 17, 18, 19, 20, 21, 22, 23, 24, 25, 26, 27, 28, 29, 30, 31, 32, 33, 34, 35, 36, 37, 38, 39, 40, 41, 42, 43, 44, 45, 46, 47, 48, 49, 50, 51, 52, 53, 54, 55, 56, 57, 58, 59, 60, 61, 62, 63] [] (by kernel_rfl) ?_)))
      by_cases h1 : k = k'
      · subst h1
        by_cases h2 : i = i'
        · subst h2
          by_cases h3 : pc = pc'
          · subst h3
            by_cases h4 : l = l'
            · subst h4
              simp [hC]
              refine TH.call rfl rfl rfl rfl (CallQ.of rfl rfl (c14_ok ls ls' hx)) (TH.go' ?_)
              simp [hC]
              refine T.cond_if rfl (fun h => ?_) (fun h => ?_)
              · refine T.seq (T.go' tabOk ?_)
                simp [hC]
                refine T.ret ?_
                refine upTo.here ?_
                have h5 : ¬ ls = ls' := by simpa using h
                simp [Tryz.results11, sameF, h5]
              · have h5 : ls = ls' := by simpa using h
                refine T.skip ?_
                simp
                refine T.go' tabOk ?_
                simp [hC]
                refine upTo.le (Le.env [5, 0, 1]) (upTo.here ?_)
                have hw := w64 1 (by omega) (by omega)
                simp [sameF, h5, hw]
            · have b4 : (l != l') = true := by simpa using h4
              simp [hC, b4]
              refine T.cond_true rfl ?_
              refine T.seq (T.go' tabOk ?_)
              simp [hC]
              refine T.ret ?_
              refine upTo.here ?_
              simp [Tryz.results11, sameF, h4]
          · have b3 : (pc != pc') = true := by simpa using h3
            simp [hC, b3]
            refine T.cond_true rfl ?_
            refine T.seq (T.go' tabOk ?_)
            simp [hC]
            refine T.ret ?_
            refine upTo.here ?_
            simp [Tryz.results11, sameF, h3]
        · have b2 : (i != i') = true := by simpa using h2
          simp [hC, b2]
          refine T.cond_true rfl ?_
          refine T.seq (T.go' tabOk ?_)
          simp [hC]
          refine T.ret ?_
          refine upTo.here ?_
          simp [Tryz.results11, sameF, h2]
      · have b1 : (k != k') = true := by simpa using h1
        simp [hC, b1]
        refine T.cond_true rfl ?_
        refine T.seq (T.go' tabOk ?_)
        simp [hC]
        refine T.ret ?_
        refine upTo.here ?_
        simp [Tryz.results11, sameF, h1]
    · refine T.seq (T.seq (T.go' tabOk ?_))
      simp [hC, fndC]
      refine T.cond_false rfl ?_
      refine T.exit ?_
      simp
      refine T.seq (T.go' tabOk ?_)
      simp [hC]
      refine T.ret ?_
      refine upTo.here ?_
      simp [Tryz.results11, hs]

end Go.Proofs.YtniilppjegieaaaGreat
