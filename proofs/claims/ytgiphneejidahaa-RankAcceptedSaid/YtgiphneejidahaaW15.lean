/- Law SccRaw. -/
import Derived.Test.YtgiphneejidahaaW12
namespace Go.Proofs.Ytgiphneejidahaa
open Go.Can

def rawOf (l : List (List Int)) : List (List Int) := (l.take 30).map (·.take 4)
def rowAt (l : List (List Int)) (i : Nat) : List Int := l.getD i []
/-- The rows below i are cut. -/
def rawC (m : Nat) (l : List (List Int)) (i : Nat) : List CV := vec m fun j => if j < i then ints ((rowAt l j).take 4) else ints (rowAt l j)
section
variable {m i : Nat} {l : List (List Int)}
@[simp] theorem rawC_length : (rawC m l i).length = m := vec_length _ _
theorem rawC_get (h : i < m) : (rawC m l i)[i]? = some (ints (rowAt l i)) := by unfold rawC; rw [vec_get _ _ _ h]; simp
@[simp] theorem rawC_at (h : i < (rawC m l i).length) : (rawC m l i)[i] = ints (rowAt l i) := by
  have := rawC_get (m := m) (i := i) (l := l) (by simpa using h)
  rw [List.getElem?_eq_getElem h] at this
  exact Option.some.inj this
theorem rawC_put (h : i < m) : List.take i (rawC m l i) ++ ints ((rowAt l i).take 4) :: List.drop (i + 1) (rawC m l i) = rawC m l (i + 1) := by
  unfold rawC; rw [vec_put _ _ _ _ h]; congr 1; funext x
  by_cases hx : x = i
  · simp [hx]
  · have : (x < i + 1) ↔ (x < i) := by omega
    simp [hx, this]
@[simp] theorem rawC_noRef (o : Nat) : (rawC m l i).all (noRef o) = true := by
  simp only [rawC, vec, List.all_map]; rw [List.all_eq_true]; intro x _; simp only [Function.comp]; split <;> simp
@[simp] theorem rawC_refsLt (o : Nat) : (rawC m l i).all (refsLt o) = true := by
  simp only [rawC, vec, List.all_map]; rw [List.all_eq_true]; intro x _; simp only [Function.comp]; split <;> simp
@[simp] theorem rawC_tree : (rawC m l i).all tree = true := by
  simp only [rawC, vec, List.all_map]; rw [List.all_eq_true]; intro x _; simp only [Function.comp]; split <;> simp
theorem rawC_zero : rawC (min 30 l.length) l 0 = (l.take 30).map ints := by
  apply List.ext_getElem?
  intro k
  by_cases hk : k < min 30 l.length
  · unfold rawC; rw [vec_get _ _ _ hk]
    have : k < l.length := by omega
    have h30 : k < 30 := by omega
    simp [h30, this, List.getD, rowAt]
  · rw [List.getElem?_eq_none (by simp; omega), List.getElem?_eq_none (by simp; omega)]
theorem rawC_full : rawC (min 30 l.length) l (min 30 l.length) = (rawOf l).map ints := by
  apply List.ext_getElem?
  intro k
  by_cases hk : k < min 30 l.length
  · unfold rawC; rw [vec_get _ _ _ hk]
    have : k < l.length := by omega
    have h30 : k < 30 := by omega
    simp [rawOf, this, List.getD, hk, rowAt]
  · rw [List.getElem?_eq_none (by simp; omega), List.getElem?_eq_none (by simp [rawOf]; omega)]
end

set_option maxHeartbeats 4000000 in
set_option maxRecDepth 10000 in
theorem c22_body (l : List (List Int)) (hl : l.length ≤ 9223372036854775807) (_hl' : ∀ x ∈ l, x.length ≤ 9223372036854775807) : Body Try.prog 22 [intss l] [] 0 (OwnR 0 (min 30 l.length) 22 1 ((rawOf l).map ints) 1) := by
  refine Body.of_T Try.func22 rfl (by kernel_rfl) (by simp [Try.ntmps22]) fun C hC => ?_
  rw [Try.ntmps22] at hC
  refine T.seq (T.go' tabOk ?_)
  simp [hC]
  refine T.seq (T.go' tabOk ?_)
  have hm1 : (if (30 : Int) < (l.length : Int) then (30 : Int) else l.length) = ((min 30 l.length : Nat) : Int) := by split <;> omega
  have hz := rawC_zero (l := l)
  have hf := rawC_full (l := l)
  have hm2 : min 30 l.length ≤ l.length := by omega
  have hm3 : min 30 l.length ≤ 30 := by omega
  have hz' : List.take (min 30 l.length) (l.map ints) = rawC (min 30 l.length) l 0 := by
    rw [hz, ← List.map_take]
    by_cases h : l.length ≤ 30
    · rw [Nat.min_eq_right h, List.take_of_length_le (Nat.le_refl _), List.take_of_length_le h]
    · rw [Nat.min_eq_left (by omega)]
  generalize min 30 l.length = m at *
  have hb : (m : Int) * 24 ≤ 140737488355328 := by omega
  have hb' : m * 24 ≤ 140737488355328 := by omega
  simp [hC, intss, hm1, hm2, hz', hb']
  refine T.seq (T.seq (T.go' tabOk ?_))
  simp [hC]
  refine T.block ?_
  refine T.loopLe (fun w s => ∃ i : Nat, w = m - i ∧ i ≤ m ∧ s = ⟨[(3, .int .i64 i), (0, .osl 0 0 m)], [(0, ⟨22, 1, rawC m l i⟩)], 1⟩) (n := m) ?_ ?_
  · refine upTo.le (Le.env [3, 0]) (upTo.here ⟨0, rfl, Nat.zero_le _, ?_⟩)
    simp
  · rintro w s ⟨i, rfl, hi, rfl⟩
    refine T.seq (T.seq (T.go' tabOk ?_))
    simp [hC]
    refine T.cond_if rfl (fun h => ?_) (fun h => ?_)
    · have him : i < m := by simpa using h
      have hw := w64 ((i : Int) + 1) (by omega) (by omega)
      have hp := rawC_put (m := m) (i := i) (l := l) him
      refine T.skip ?_
      simp
      refine T.seq (T.block (T.draw' tabOk follows [] [0, 1, 2, 3, 4, 5, 6, 7, 8, 9, 10, 11, 12, 13] [14] (by kernel_rfl) ?_))
      generalize hy : rowAt l i = y at *
      have hq : (if (4 : Int) < (y.length : Int) then (4 : Int) else y.length) = ((min 4 y.length : Nat) : Int) := by split <;> omega
      have hq2 : min 4 y.length ≤ y.length := by omega
      have hq3 : List.take (min 4 y.length) (y.map I64) = (y.take 4).map I64 := by
        rw [← List.map_take]
        by_cases h : y.length ≤ 4
        · rw [Nat.min_eq_right h, List.take_of_length_le (Nat.le_refl _), List.take_of_length_le h]
        · rw [Nat.min_eq_left (by omega)]
      have hq4 : (y.take 4).length = min 4 y.length := by simp
      rw [show ints (y.take 4) = .tsl ((y.take 4).map I64) (min 4 y.length) from by unfold ints; rw [hq4], ← hq3] at hp
      generalize min 4 y.length = q at *
      simp [hC, him, ints, hy, hq, hq2, Nat.succ_le_of_lt him, hp]
      refine T.go' tabOk ?_
      simp [hC, hw]
      refine ⟨_, ?_, upTo.le (Le.env [3, 0]) (upTo.here ⟨i + 1, rfl, him, ?_⟩)⟩
      · omega
      · simp
    · have him : i = m := by simp at h; omega
      refine T.exit ?_
      simp [him, hf]
      refine T.seq (T.go' tabOk ?_)
      simp [hC]
      refine T.ret ?_
      refine upTo.here ⟨_, rfl, ?_⟩
      simp [OwnR]

set_option maxHeartbeats 4000000 in
set_option maxRecDepth 10000 in
theorem c4_ok (n : Int) (a : List (List Int)) (l : List Int) (ha : a.length ≤ 9223372036854775807) (ha' : ∀ x ∈ a, x.length ≤ 9223372036854775807) (hl : l.length ≤ 9223372036854775807) : PureCall Try.prog 4 [.int .i64 n, intss a, ints l] (.bool true) := by
  refine PureCall.of_TLe Try.func4 rfl (by kernel_rfl) (by simp [Try.ntmps4]) rfl fun C hC => ?_
  rw [Try.ntmps4] at hC
  refine T.seq (T.go' tabOk ?_)
  simp [hC]
  refine T.seq (T.go' tabOk ?_)
  simp [hC]
  refine TL.callB (by simp [hC]) rfl rfl rfl (c22_body a ha ha') ?_
  rintro r s' ⟨rfl, h1, h2⟩
  obtain ⟨_, H, m⟩ := s'
  simp only at h1 h2
  subst h1
  subst h2
  refine TL.go' tabOk ?_
  simp [hC]
  refine TL.call (by simp [hC]) rfl rfl (CallQ.of rfl rfl (c15_ok l 5 (by decide) (by decide) hl)) (TL.go' tabOk ?_)
  have hps := pairsOf_le l 5
  generalize pairsOf l 5 = ps at *
  have hr : (rawOf a).length = min 30 a.length := by simp [rawOf]
  have hr2 : (rawOf a).length ≤ 30 := by omega
  rw [← hr]
  generalize rawOf a = ra at *
  have hb1 : ((ra.length : Int) + ps.length) * 24 ≤ 140737488355328 := by omega
  have hb2 : (ra.length + ps.length) * 24 ≤ 140737488355328 := by omega
  simp [hC, intss, hb2]
  refine T.le (Le.trans (Le.frz (o := 0) (ob := ⟨22, 1, ra.map ints ++ ps.map ints⟩) (by simp) (by simp)) (Le.env [7, 6, 0])) ?_
  have hall : List.take (ra.length + ps.length) (ra.map ints ++ ps.map ints) = (ra ++ ps).map ints := by
    rw [List.map_append, List.take_of_length_le (by simp)]
  simp [hall]
  have hqs : CV.tsl ((ra ++ ps).map ints) (ra.length + ps.length) = intss (ra ++ ps) := by simp [intss]
  simp only [List.map_append] at hqs
  rw [hqs]
  have hpl : (ra ++ ps).length ≤ 4611686018427387904 := by simp; omega
  generalize ra ++ ps = qs at *
  refine T.seq (T.go' tabOk ?_)
  simp [hC]
  refine TL.call (by simp [hC]) rfl rfl (CallQ.of rfl rfl (c17_ok n qs hpl)) (TL.go' tabOk ?_)
  simp [hC]
  refine TL.call (by simp [hC]) rfl rfl (CallQ.of rfl rfl (c18_ok n qs hpl)) (TL.go' tabOk ?_)
  simp
  refine TL.call (by simp [hC]) rfl rfl (CallQ.of rfl rfl (same_comps n qs)) (TL.go' tabOk ?_)
  simp [hC]
  refine TL.callG (by simp [hC]) rfl rfl rfl rfl (CallQ.of rfl rfl (c19_ok n qs hpl)) (TL.go' tabOk ?_)
  simp [hC]
  refine TL.callG (by simp [hC]) rfl rfl rfl rfl (CallQ.of rfl rfl (c20_ok n qs hpl)) (TL.go' tabOk ?_)
  simp
  refine TL.callG (by simp [hC]) rfl rfl rfl rfl (CallQ.of rfl rfl (same_cyc n qs)) (TL.go' tabOk ?_)
  simp [hC]
  refine TL.callG (by simp [hC]) rfl rfl rfl rfl (CallQ.of rfl rfl c21_ok) (TL.go' tabOk ?_)
  simp [hC]
  refine T.ret ?_
  refine upTo.here ?_
  simp [Try.results4]
end Go.Proofs.Ytgiphneejidahaa
