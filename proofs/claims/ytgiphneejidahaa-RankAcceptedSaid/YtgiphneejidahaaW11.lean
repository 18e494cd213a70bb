/- Contracts: awake. -/
import Derived.Test.YtgiphneejidahaaW10
namespace Go.Proofs.Ytgiphneejidahaa
open Go.Can

def awk : List (List Int) := [[0, 1], [1, 0], [1, 2]]
theorem awk1 : codeComps 3 awk = [[0, 1], [2]] := by kernel_rfl
theorem awk2 : codeCyc 3 awk = [[0, 1]] := by kernel_rfl
theorem awk3 : reachB 3 awk 0 2 = true := by kernel_rfl
theorem awk4 : reachB 3 awk 2 0 = false := by kernel_rfl
theorem awk5 : reachB 3 awk 0 0 = true := by kernel_rfl

set_option maxHeartbeats 4000000 in
set_option maxRecDepth 10000 in
theorem c21_ok : PureCall Try.prog 21 [] (.bool true) := by
  refine PureCall.of_TLe Try.func21 rfl (by kernel_rfl) (by simp [Try.ntmps21]) rfl fun C hC => ?_
  rw [Try.ntmps21] at hC
  refine T.seq (T.go' tabOk ?_)
  simp [hC]
  refine T.seq (T.go' tabOk ?_)
  simp [hC]
  refine T.le (Le.env [1]) ?_
  simp
  refine T.le (Le.frz (o := 0) rfl rfl) ?_
  simp
  refine T.le (Le.frz (o := 1) rfl rfl) ?_
  simp
  refine T.le (Le.frz (o := 2) rfl rfl) ?_
  simp
  refine T.le (Le.frz (o := 3) rfl rfl) ?_
  simp
  refine T.seq (T.go' tabOk ?_)
  simp [hC]
  refine TL.call (by simp [hC]) rfl rfl (CallQ.of rfl rfl (c17_ok 3 awk (by decide))) (TL.go' tabOk ?_)
  rw [awk1]
  simp [hC]
  refine TL.le (Le.frz (o := 4) rfl rfl) ?_
  simp
  refine TL.le (Le.frz (o := 5) rfl rfl) ?_
  simp
  refine TL.le (Le.frz (o := 6) rfl rfl) ?_
  simp
  refine TL.call (by simp [hC]) rfl rfl (CallQ.of rfl rfl (c16_ok [[0, 1], [2]] [[0, 1], [2]] (by decide) (by decide))) (TL.go' tabOk ?_)
  simp [hC]
  refine TL.callG (by simp [hC]) rfl rfl rfl rfl (CallQ.of rfl rfl (c19_ok 3 awk (by decide))) (TL.go' tabOk ?_)
  rw [awk2]
  simp [hC]
  refine TL.le (Le.frz (o := 7) rfl rfl) ?_
  simp
  refine TL.le (Le.frz (o := 8) rfl rfl) ?_
  simp
  refine TL.callG (by simp [hC]) rfl rfl rfl rfl (CallQ.of rfl rfl (c16_ok [[0, 1]] [[0, 1]] (by decide) (by decide))) (TL.go' tabOk ?_)
  simp [hC]
  refine TL.callG (by simp [hC]) rfl rfl rfl rfl (CallQ.of rfl rfl (c25_ok 3 awk 0 2 (by decide))) (TL.go' tabOk ?_)
  rw [awk3]
  simp [hC]
  refine TL.callG (by simp [hC]) rfl rfl rfl rfl (CallQ.of rfl rfl (c25_ok 3 awk 2 0 (by decide))) (TL.go' tabOk ?_)
  rw [awk4]
  simp [hC]
  refine TL.callG (by simp [hC]) rfl rfl rfl rfl (CallQ.of rfl rfl (c25_ok 3 awk 0 0 (by decide))) (TL.go' tabOk ?_)
  rw [awk5]
  simp [hC]
  refine T.ret ?_
  refine upTo.here ?_
  simp [Try.results21]
end Go.Proofs.Ytgiphneejidahaa
