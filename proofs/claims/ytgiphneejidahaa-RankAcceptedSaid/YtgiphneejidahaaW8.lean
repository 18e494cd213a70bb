/- Contracts: Cyclic's closure, IndexFunc, DeleteFunc. -/
import Derived.Test.YtgiphneejidahaaW7
namespace Go.Proofs.Ytgiphneejidahaa
open Go.Can

theorem mat2_ne (k : Nat) (M : Nat → Nat → Bool) (x : Nat) (h : x < k) : ((List.range k).map (M x))[x]? = some (M x x) := by simp [h]

set_option maxHeartbeats 4000000 in
set_option maxRecDepth 10000 in
theorem c39_ok (k x : Nat) (r : List Int) (M : Nat → Nat → Bool) (hx : x < k) : PureCall Try.prog 39 [ints ((x : Int) :: r), .tptr [boolss (mat2 k M)]] (.bool (!M x x)) := by
  refine PureCall.of_TLe Try.func39 rfl (by kernel_rfl) (by simp [Try.ntmps39]) rfl fun C hC => ?_
  rw [Try.ntmps39] at hC
  have hml := mat2_length k M
  have gx := mat2_get k M x hx
  refine T.seq (T.go' tabOk ?_)
  simp [hC]
  refine T.seq (T.draw' tabOk follows [] [0, 1, 2, 3, 4, 5, 6, 7, 8, 9, 10, 11, 12] [] (by kernel_rfl) ?_)
  have hr : (0 : Int) < (r.length : Int) + 1 := by omega
  simp [hC, ints, boolss, bools, hml, hx, hr]
  refine T.ret ?_
  refine upTo.here ?_
  simp [Try.results39]

/-- The first place where p holds, or -1. -/
def idxF (p : List Int → Bool) (L : List (List Int)) : Int := if L.findIdx p < L.length then (L.findIdx p : Nat) else -1
theorem findIdx_at (p : List Int → Bool) (L : List (List Int)) (i : Nat) (h : i < L.length) (hb : ∀ j (hj : j < i), p (L[j]'(by omega)) = false) (hp : p L[i] = true) : L.findIdx p = i := by
  rw [List.findIdx_eq h]
  exact ⟨hp, fun j hj => by simp [hb j hj]⟩

set_option maxHeartbeats 4000000 in
set_option maxRecDepth 10000 in
theorem c45_ok (L : List (List Int)) (p : List Int → Bool) (caps : List CV) (hc : trees caps = true) (hL : L.length ≤ 4611686018427387904) (hp : ∀ l ∈ L, PureCall Try.prog 39 (ints l :: caps) (.bool (p l))) :
    PureCall Try.prog 45 [intss L, .fn 39 caps] (.int .i64 (idxF p L)) := by
  refine PureCall.of_TLe Try.func45 rfl (by kernel_rfl) (by simp [Try.ntmps45]) rfl fun C hC => ?_
  rw [Try.ntmps45] at hC
  refine T.seq (T.go' tabOk ?_)
  simp [hC]
  refine T.seq (T.seq (T.go' tabOk ?_))
  simp [hC, intss]
  refine T.block ?_
  refine T.loopLe (fun m s => ∃ i : Nat, m = L.length - i ∧ i ≤ L.length ∧ (∀ j (hj : j < L.length), j < i → p L[j] = false) ∧ s = ⟨[(8, .int .i64 i), (7, .int .i64 L.length), (0, intss L), (1, .fn 39 caps)], [], 0⟩) (n := L.length) ?_ ?_
  · refine upTo.le (Le.env [8, 7, 0, 1]) <| upTo.here ⟨0, rfl, Nat.zero_le _, by simp, ?_⟩
    simp [intss]
  · rintro m s ⟨i, rfl, hi, hb, rfl⟩
    refine T.seq (T.go' tabOk ?_)
    simp [hC, intss]
    refine T.seq (T.cond_if rfl (fun h => ?_) (fun h => ?_))
    · have hip : i < L.length := by simpa using h
      have hw := w64 ((i : Int) + 1) (by omega) (by omega)
      have ep : L[i]? = some L[i] := List.getElem?_eq_getElem hip
      refine T.skip ?_
      simp
      refine T.seq (T.block (T.seq (T.go' tabOk ?_)))
      simp [hC]
      refine T.seq (T.go' tabOk ?_)
      simp [hC, hip]
      refine TL.call (by simp [hC]) rfl rfl (CallQ.of rfl (by simpa using hc) (hp L[i] (List.getElem_mem hip))) (TL.go' tabOk ?_)
      simp
      refine T.cond_if rfl (fun h => ?_) (fun h => ?_)
      · refine T.seq (T.go' tabOk ?_)
        simp [hC]
        refine T.ret ?_
        refine upTo.here ?_
        have hf := findIdx_at p L i hip (fun j hj => hb j (by omega) hj) h
        simp [Try.results45, idxF, hf, hip]
      · refine T.skip ?_
        simp
        refine T.go' tabOk ?_
        simp [hC, hw]
        refine ⟨_, ?_, upTo.le (Le.env [8, 7, 0, 1]) (upTo.here ⟨i + 1, rfl, hip, ?_, ?_⟩)⟩
        · omega
        · intro j hj hji
          rcases Nat.lt_succ_iff_lt_or_eq.1 hji with h1 | h1
          · exact hb j hj h1
          · subst h1; exact h
        · simp
    · have hip : i = L.length := by simp at h; omega
      refine T.exit ?_
      simp
      refine T.seq (T.go' tabOk ?_)
      simp [hC]
      refine T.ret ?_
      refine upTo.here ?_
      have hf : ¬ L.findIdx p < L.length := by
        intro hlt
        have := List.findIdx_getElem (w := hlt)
        rw [hb _ hlt (by omega)] at this
        cases this
      simp [Try.results45, idxF, hf]
end Go.Proofs.Ytgiphneejidahaa
