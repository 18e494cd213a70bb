/- Contracts: DeleteFunc. -/
import Derived.Test.YtgiphneejidahaaW8
namespace Go.Proofs.Ytgiphneejidahaa
open Go.Can

/-- What the list's array holds when the elements below j have been looked at. -/
def keptN (L : List (List Int)) (q : List Int → Bool) (j : Nat) : Nat := ((L.take j).filter q).length
def delC (L : List (List Int)) (q : List Int → Bool) (j : Nat) : List CV := ((L.take j).filter q).map ints ++ (L.drop (keptN L q j)).map ints
section
variable {L : List (List Int)} {q : List Int → Bool} {j : Nat}
theorem keptN_le : keptN L q j ≤ j := by
  have := List.length_filter_le q (L.take j)
  simp at this; unfold keptN; omega
theorem keptN_le' : keptN L q j ≤ L.length := by
  have := List.length_filter_le q (L.take j)
  simp at this; unfold keptN; omega
@[simp] theorem delC_length : (delC L q j).length = L.length := by
  have := @keptN_le' L q j
  have h2 : ((L.take j).filter q).length = keptN L q j := rfl
  simp only [delC, List.length_append, List.length_map, List.length_drop, h2]; omega
theorem delC_get (h : j < L.length) : (delC L q j)[j]? = some (ints L[j]) := by
  have h1 := @keptN_le L q j
  have h2 : ((L.take j).filter q).length = keptN L q j := rfl
  unfold delC
  rw [List.getElem?_append_right (by rw [List.length_map, h2]; exact h1), List.length_map, h2, List.getElem?_map, List.getElem?_drop, show keptN L q j + (j - keptN L q j) = j by omega, List.getElem?_eq_getElem h]; rfl
@[simp] theorem delC_at (h : j < (delC L q j).length) : (delC L q j)[j] = ints (L[j]'(by simpa using h)) := by
  have := delC_get (q := q) (j := j) (L := L) (by simpa using h)
  rw [List.getElem?_eq_getElem h] at this
  exact Option.some.inj this
theorem kept_succ (h : j < L.length) : (L.take (j + 1)).filter q = if q L[j] then (L.take j).filter q ++ [L[j]] else (L.take j).filter q := by
  rw [List.take_succ_eq_append_getElem h, List.filter_append]
  cases hq : q L[j] <;> simp [hq]
theorem keptN_succ (h : j < L.length) : keptN L q (j + 1) = if q L[j] then keptN L q j + 1 else keptN L q j := by
  unfold keptN; rw [kept_succ h]; split <;> simp
theorem delC_skip (h : j < L.length) (hq : q L[j] = false) : delC L q (j + 1) = delC L q j := by
  unfold delC; rw [keptN_succ h, kept_succ h, hq]; simp
theorem delC_put (h : j < L.length) (hq : q L[j] = true) : List.take (keptN L q j) (delC L q j) ++ ints L[j] :: List.drop (keptN L q j + 1) (delC L q j) = delC L q (j + 1) := by
  have h1 := @keptN_le L q j
  have h2 : ((L.take j).filter q).length = keptN L q j := rfl
  unfold delC
  rw [keptN_succ h, kept_succ h, hq]
  simp only [if_true]
  have e1 : List.take (keptN L q j) (((L.take j).filter q).map ints ++ (L.drop (keptN L q j)).map ints) = ((L.take j).filter q).map ints := by
    rw [List.take_append_of_le_length (by rw [List.length_map, h2]; exact Nat.le_refl _), List.take_of_length_le (by rw [List.length_map, h2]; exact Nat.le_refl _)]
  have e2 : List.drop (keptN L q j + 1) (((L.take j).filter q).map ints ++ (L.drop (keptN L q j)).map ints) = (L.drop (keptN L q j + 1)).map ints := by
    rw [List.drop_append, List.length_map, h2, List.drop_of_length_le (by rw [List.length_map, h2]; omega), show keptN L q j + 1 - keptN L q j = 1 by omega, ← List.map_drop, List.drop_drop, List.nil_append]
  rw [e1, e2]; simp
@[simp] theorem noRef_delC (o : Nat) : (delC L q j).all (noRef o) = true := by
  simp only [delC, List.all_append, Bool.and_eq_true, List.all_map]; constructor <;> (rw [List.all_eq_true]; intro x _; simp)
@[simp] theorem refsLt_delC (o : Nat) : (delC L q j).all (refsLt o) = true := by
  simp only [delC, List.all_append, Bool.and_eq_true, List.all_map]; constructor <;> (rw [List.all_eq_true]; intro x _; simp)
@[simp] theorem tree_delC : (delC L q j).all tree = true := by
  simp only [delC, List.all_append, Bool.and_eq_true, List.all_map]; constructor <;> (rw [List.all_eq_true]; intro x _; simp)
theorem delC_start (h : ∀ i (hi : i < L.length), i < j → q L[i] = true) (hj : j ≤ L.length) : delC L q j = L.map ints ∧ keptN L q j = j := by
  have hk : (L.take j).filter q = L.take j := by
    rw [List.filter_eq_self]
    intro a ha
    obtain ⟨i, hi, rfl⟩ := List.getElem_of_mem ha
    simp at hi
    rw [List.getElem_take]
    exact h i (by omega) (by omega)
  have hn : keptN L q j = j := by unfold keptN; rw [hk]; simp; omega
  refine ⟨?_, hn⟩
  unfold delC; rw [hk, hn, ← List.map_append, List.take_append_drop]
theorem delC_clear : List.take (keptN L q L.length) (delC L q L.length) ++ List.replicate (L.length - keptN L q L.length) CV.nilsl = (L.filter q).map ints ++ List.replicate (L.length - (L.filter q).length) .nilsl := by
  have h2 : keptN L q L.length = (L.filter q).length := by unfold keptN; rw [List.take_length]
  rw [h2]; congr 1
  unfold delC; rw [h2, List.take_length, List.take_append_of_le_length (by simp), List.take_of_length_le (by simp)]
end

/-- DeleteFunc's end. -/
def DelR (L K : List (List Int)) (r : CV) (s : St) : Prop := r = .osl 1 0 K.length ∧ s.heap = [(1, ⟨22, 1, K.map ints ++ List.replicate (L.length - K.length) .nilsl⟩)] ∧ s.nx = 2

set_option maxHeartbeats 4000000 in
set_option maxRecDepth 10000 in
theorem c38_body (L : List (List Int)) (p : List Int → Bool) (caps : List CV) (hc : trees caps = true) (hL : L.length ≤ 4611686018427387904) (hp : ∀ l ∈ L, PureCall Try.prog 39 (ints l :: caps) (.bool (p l))) :
    Body Try.prog 38 [.osl 1 0 L.length, .fn 39 caps] [(1, ⟨22, 1, L.map ints⟩)] 2 (DelR L (L.filter fun l => !p l)) := by
  refine Body.of_T Try.func38 rfl (by kernel_rfl) (by simp [Try.ntmps38]) fun C hC => ?_
  rw [Try.ntmps38] at hC
  have hc' : (caps.all tree) = true := by simpa using hc
  refine T.seq (T.go' tabOk ?_)
  simp [hC]
  refine T.seq (T.go' tabOk ?_)
  simp [hC]
  refine TL.call (by simp [hC]) rfl rfl (CallQ.lent (ds := [intss L, .fn 39 caps]) rfl (by simp [hc', intss, List.take_of_length_le]) (c45_ok L p caps hc hL hp) rfl) (TL.go' tabOk ?_)
  simp [hC]
  refine T.seq (T.seq (T.go' tabOk ?_))
  by_cases hi : L.findIdx p < L.length
  · have e1 : idxF p L = (L.findIdx p : Nat) := by simp [idxF, hi]
    have hne : (((L.findIdx p : Nat) : Int) == -1) = false := by simp
    have hw := w64 (((L.findIdx p : Nat) : Int) + 1) (by omega) (by omega)
    generalize hx : L.findIdx p = x at *
    have hb : ∀ i (h : i < L.length), i < x → p L[i] = false := fun i h hix => by
      have := List.not_of_lt_findIdx (p := p) (xs := L) (i := i) (by rw [hx]; exact hix)
      simpa using this
    have hpx : p L[x] = true := by
      have := List.findIdx_getElem (xs := L) (p := p) (w := by rw [hx]; exact hi)
      simpa [hx] using this
    simp [hC, e1, hne]
    refine T.cond_if rfl (fun h => by cases h) (fun _ => ?_)
    refine T.skip ?_
    simp
    refine T.seq (T.seq (T.go' tabOk ?_))
    simp [hC, hw]
    refine T.block ?_
    obtain ⟨d1, d2⟩ := delC_start (L := L) (q := fun l => !p l) (j := x) (fun i h hix => by simp [hb i h hix]) (by omega)
    have d3 := delC_skip (L := L) (q := fun l => !p l) (j := x) hi (by simp [hpx])
    have d4 := keptN_succ (L := L) (q := fun l => !p l) (j := x) hi
    rw [d1] at d3
    simp only [hpx, Bool.not_true, Bool.false_eq_true, if_false, d2] at d4
    generalize hq : (fun l => !p l) = q at *
    refine T.loopLe (fun m s => ∃ j : Nat, m = L.length - j ∧ j ≤ L.length ∧ keptN L q j < j ∧ s = ⟨[(6, .int .i64 j), (5, .int .i64 (keptN L q j)), (0, .osl 1 0 L.length), (1, .fn 39 caps)], [(1, ⟨22, 1, delC L q j⟩)], 2⟩) (n := L.length - (x + 1)) ?_ ?_
    · refine upTo.le (Le.env [6, 5, 0, 1]) (upTo.here ⟨x + 1, rfl, hi, by omega, ?_⟩)
      simp [d3, d4]
    · rintro m s ⟨j, rfl, hj, hkj, rfl⟩
      refine T.seq (T.seq (T.go' tabOk ?_))
      simp [hC]
      refine T.cond_if rfl (fun h => ?_) (fun h => ?_)
      · have hjL : j < L.length := by simpa using h
        have hwj := w64 ((j : Int) + 1) (by omega) (by omega)
        have hwk := w64 ((keptN L q j : Int) + 1) (by omega) (by omega)
        have hkL : keptN L q j < L.length := by omega
        have hks := keptN_succ (L := L) (q := q) (j := j) hjL
        refine T.skip ?_
        simp
        refine T.seq (T.block (T.seq (T.go' tabOk ?_)))
        simp [hC, hjL]
        refine T.seq (T.go' tabOk ?_)
        simp [hC]
        refine TL.call (by simp [hC]) rfl rfl (CallQ.of rfl (by simpa using hc) (hp L[j] (List.getElem_mem hjL))) (TL.go' tabOk ?_)
        simp [hC]
        have hqj : q L[j] = !p L[j] := by rw [← hq]
        refine T.cond_if rfl (fun h => ?_) (fun h => ?_)
        · have hqt : q L[j] = true := by rw [hqj]; exact h
          rw [hqt] at hks
          simp only [if_true] at hks
          refine T.seq (T.go' tabOk ?_)
          have dp := delC_put hjL hqt
          rw [show ints L[j] = .tsl (L[j].map I64) L[j].length from rfl] at dp
          simp [hC, ints, hkL, Nat.succ_le_of_lt hkL, dp]
          refine T.go' tabOk ?_
          simp [hC, hwk]
          refine T.go' tabOk ?_
          simp [hC, hwj]
          refine ⟨_, ?_, upTo.le (Le.env [6, 5, 0, 1]) (upTo.here ⟨j + 1, rfl, hjL, by omega, ?_⟩)⟩
          · omega
          · simp [hks]
        · have hqf : q L[j] = false := by rw [hqj]; exact h
          rw [hqf] at hks
          simp only [Bool.false_eq_true, if_false] at hks
          refine T.skip ?_
          simp
          refine T.go' tabOk ?_
          simp [hC, hwj]
          refine ⟨_, ?_, upTo.le (Le.env [6, 5, 0, 1]) (upTo.here ⟨j + 1, rfl, hjL, by omega, ?_⟩)⟩
          · omega
          · simp [hks, delC_skip hjL hqf]
      · have hjL : j = L.length := by simp at h; omega
        subst hjL
        have hkL := @keptN_le' L q L.length
        refine T.exit ?_
        simp
        refine T.seq (T.go' tabOk ?_)
        have hne0 : ¬ L.length = keptN L q L.length := by omega
        have dcl := delC_clear (L := L) (q := q)
        have hkK : (L.filter q).length = keptN L q L.length := by unfold keptN; rw [List.take_length]
        have hdr : List.drop L.length (delC L q L.length) = [] := List.drop_of_length_le (by simp)
        generalize hk : keptN L q L.length = k at *
        by_cases hk0 : k = 0
        · subst hk0
          simp [hC, hkL, cclear, hdr]
          refine T.seq (T.go' tabOk ?_)
          simp [hC]
          refine T.ret ?_
          refine upTo.here ⟨_, rfl, ?_⟩
          simpa [DelR, hkK] using dcl
        · simp [hC, hkL, hne0, cclear, hk0, hdr]
          refine T.seq (T.go' tabOk ?_)
          simp [hC, hkL]
          refine T.ret ?_
          refine upTo.here ⟨_, rfl, ?_⟩
          simpa [DelR, hkK] using dcl
  · have e1 : idxF p L = -1 := by simp [idxF, hi]
    simp [hC, e1]
    refine T.cond_if rfl (fun _ => ?_) (fun h => by cases h)
    refine T.seq (T.go' tabOk ?_)
    simp [hC]
    refine T.ret ?_
    refine upTo.here ⟨_, rfl, ?_⟩
    have hK : (L.filter fun l => !p l) = L := by
      rw [List.filter_eq_self]
      intro a ha
      have := List.findIdx_eq_length.1 (Nat.le_antisymm List.findIdx_le_length (Nat.le_of_not_lt hi)) a ha
      simpa using this
    simp [DelR, hK]
end Go.Proofs.Ytgiphneejidahaa
