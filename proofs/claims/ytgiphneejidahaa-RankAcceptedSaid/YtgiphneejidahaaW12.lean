/- Law SccComponents. -/
import Derived.Test.YtgiphneejidahaaW11
import Derived.Test.YtgiphneejidahaaSpec3
namespace Go.Proofs.Ytgiphneejidahaa
open Go.Can

theorem reach_trans (n : Int) (ps : List (List Int)) : Trans (nn n) (reachM n ps) := fun x y z hx hy hz h1 h2 => reachM_trans n ps x y z hx hy hz h1 h2
theorem code_ref (n : Int) (ps : List (List Int)) : codeComps n ps = ref20Comps n ps := comps_eq (reach_trans n ps)
theorem code_ref_cyc (n : Int) (ps : List (List Int)) : codeCyc n ps = ref20Cyc n ps := by unfold codeCyc ref20Cyc; rw [code_ref]
theorem isComp_len {k : Nat} {l : List Int} (h : isComp k l) (hk : k ≤ 64) : l.length ≤ 4611686018427387904 := by
  obtain ⟨x, r, rfl, _, _, hr⟩ := h
  simp [natI]; omega
theorem cyc_mem {M : Nat → Nat → Bool} {L : List (List Int)} {l : List Int} (h : l ∈ cycF M L) : l ∈ L := (List.mem_filter.1 h).1
theorem cyc_le (M : Nat → Nat → Bool) (L : List (List Int)) : (cycF M L).length ≤ L.length := List.length_filter_le _ _
theorem pairsOf_le (l : List Int) (n : Int) : (pairsOf l n).length ≤ 20 := by simp [pairsOf]; omega

/-- The two comparisons. -/
theorem same_comps (n : Int) (ps : List (List Int)) : PureCall Try.prog 16 [intss (codeComps n ps), intss (ref20Comps n ps)] (.bool true) := by
  have := c16_ok (codeComps n ps) (ref20Comps n ps) (Nat.le_trans (codeComps_le n ps) (by omega)) fun l hl => isComp_len (codeComps_comp n ps l hl) (nn_le n)
  rwa [decide_eq_true (code_ref n ps)] at this
theorem same_cyc (n : Int) (ps : List (List Int)) : PureCall Try.prog 16 [intss (codeCyc n ps), intss (ref20Cyc n ps)] (.bool true) := by
  have := c16_ok (codeCyc n ps) (ref20Cyc n ps) (Nat.le_trans (cyc_le _ _) (Nat.le_trans (codeComps_le n ps) (by omega))) fun l hl => isComp_len (codeComps_comp n ps l (cyc_mem hl)) (nn_le n)
  rwa [decide_eq_true (code_ref_cyc n ps)] at this

set_option maxHeartbeats 4000000 in
set_option maxRecDepth 10000 in
theorem c3_ok (n : Int) (l : List Int) (hl : l.length ≤ 9223372036854775807) : PureCall Try.prog 3 [.int .i64 n, ints l] (.bool true) := by
  refine PureCall.of_TLe Try.func3 rfl (by kernel_rfl) (by simp [Try.ntmps3]) rfl fun C hC => ?_
  rw [Try.ntmps3] at hC
  refine T.seq (T.go' tabOk ?_)
  simp [hC]
  refine T.seq (T.go' tabOk ?_)
  simp [hC]
  refine TL.call (by simp [hC]) rfl rfl (CallQ.of rfl rfl (c14_ok n)) (TL.go' tabOk ?_)
  simp [hC]
  generalize hm : n % 13 = m
  refine T.seq (T.go' tabOk ?_)
  simp [hC]
  generalize hx : (if m < 1 then (1 : Int) else m) = mx
  have hmx : 0 < mx ∧ mx ≤ 4611686018427387904 := by
    have := Int.emod_lt_of_pos n (show (0 : Int) < 13 by decide)
    split at hx <;> omega
  refine TL.call (by simp [hC]) rfl rfl (CallQ.of rfl rfl (c15_ok l mx hmx.1 hmx.2 hl)) (TL.go' tabOk ?_)
  have hps := pairsOf_le l mx
  generalize pairsOf l mx = ps at *
  have hpl : ps.length ≤ 4611686018427387904 := by omega
  simp [hC]
  refine T.seq (T.go' tabOk ?_)
  simp [hC]
  refine TL.call (by simp [hC]) rfl rfl (CallQ.of rfl rfl (c17_ok m ps hpl)) (TL.go' tabOk ?_)
  simp [hC]
  refine TL.call (by simp [hC]) rfl rfl (CallQ.of rfl rfl (c18_ok m ps hpl)) (TL.go' tabOk ?_)
  simp
  refine TL.call (by simp [hC]) rfl rfl (CallQ.of rfl rfl (same_comps m ps)) (TL.go' tabOk ?_)
  simp [hC]
  refine TL.callG (by simp [hC]) rfl rfl rfl rfl (CallQ.of rfl rfl (c19_ok m ps hpl)) (TL.go' tabOk ?_)
  simp [hC]
  refine TL.callG (by simp [hC]) rfl rfl rfl rfl (CallQ.of rfl rfl (c20_ok m ps hpl)) (TL.go' tabOk ?_)
  simp
  refine TL.callG (by simp [hC]) rfl rfl rfl rfl (CallQ.of rfl rfl (same_cyc m ps)) (TL.go' tabOk ?_)
  simp [hC]
  refine TL.callG (by simp [hC]) rfl rfl rfl rfl (CallQ.of rfl rfl c21_ok) (TL.go' tabOk ?_)
  simp [hC]
  refine T.ret ?_
  refine upTo.here ?_
  simp [Try.results3]
end Go.Proofs.Ytgiphneejidahaa
