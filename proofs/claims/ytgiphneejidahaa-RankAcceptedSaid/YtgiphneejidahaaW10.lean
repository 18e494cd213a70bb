/- Contracts: Cyclic, twice; Reaches. -/
import Derived.Test.YtgiphneejidahaaW9
namespace Go.Proofs.Ytgiphneejidahaa
open Go.Can

def codeCyc (n : Int) (ps : List (List Int)) : List (List Int) := cycF (reachM n ps) (codeComps n ps)
def ref20Cyc (n : Int) (ps : List (List Int)) : List (List Int) := cycF (reachM n ps) (ref20Comps n ps)
theorem codeComps_comp (n : Int) (ps : List (List Int)) : ∀ l ∈ codeComps n ps, isComp (nn n) l := comps_comp _ _ _ (Nat.le_refl _)
theorem ref20Comps_comp (n : Int) (ps : List (List Int)) : ∀ l ∈ ref20Comps n ps, isComp (nn n) l := ref_comp _ _ _ (Nat.le_refl _)
theorem codeComps_le (n : Int) (ps : List (List Int)) : (codeComps n ps).length ≤ 64 := Nat.le_trans (compsF_le _ _ _) (nn_le n)
theorem ref20Comps_le (n : Int) (ps : List (List Int)) : (ref20Comps n ps).length ≤ 64 := Nat.le_trans (refF_le _ _ _) (nn_le n)

set_option maxRecDepth 10000 in
theorem c19_ok (n : Int) (ps : List (List Int)) (hl : ps.length ≤ 4611686018427387904) : PureCall Try.prog 19 [.int .i64 n, intss ps] (intss (codeCyc n ps)) := by
  refine PureCall.of_TLe Try.func19 rfl (by kernel_rfl) (by simp [Try.ntmps19]) rfl fun C hC => ?_
  rw [Try.ntmps19] at hC
  refine T.seq (T.go' tabOk ?_)
  simp [hC]
  refine T.seq (T.go' tabOk ?_)
  simp [hC]
  refine TL.call (by simp [hC]) rfl rfl (CallQ.of rfl rfl (c36_ok n ps hl)) (TL.go' tabOk ?_)
  simp [hC, boolss]
  have hcomp := codeComps_comp n ps
  have hle := codeComps_le n ps
  unfold codeCyc
  unfold codeComps at *
  generalize reachM n ps = M at *
  have hk64 := nn_le n
  generalize nn n = k at *
  refine T.le (Le.trans (Le.frz (o := 0) (ob := ⟨50, 0, [boolss (mat2 k M)]⟩) (by simp [boolss]) (by simp)) (Le.trim [5] [] 0 (by simp))) ?_
  simp
  refine T.seq (T.go' tabOk ?_)
  simp [hC]
  refine TL.callB (by simp [hC]) rfl rfl rfl (c37_body k M hk64) ?_
  rintro r s' ⟨rfl, h1, h2⟩
  obtain ⟨_, H, m⟩ := s'
  simp only at h1 h2
  subst h1
  subst h2
  refine TL.go' tabOk ?_
  simp [hC, boolss]
  generalize hL : comps k M = L at *
  refine TL.callB (by simp [hC]) rfl rfl rfl (c38_body L (fun l => !M (headN l) (headN l)) [.tptr [boolss (mat2 k M)]] rfl (by omega) fun l hlm => ?_) ?_
  · obtain ⟨x, r, rfl, hx, _⟩ := hcomp l hlm
    exact c39_ok k x (natI r) M hx
  rintro r s' ⟨rfl, h1, h2⟩
  obtain ⟨_, H, m⟩ := s'
  simp only at h1 h2
  subst h1
  subst h2
  refine TL.go' tabOk ?_
  simp [hC]
  have hK : (L.filter fun l => M (headN l) (headN l)) = cycF M L := rfl
  simp only [hK]
  generalize hX : cycF M L = X
  refine T.ret ?_
  refine upTo.le (Le.frz (o := 1) (ob := ⟨22, 1, X.map ints ++ List.replicate (L.length - X.length) .nilsl⟩) (by simp) (by simp)) (upTo.here ?_)
  simp [Try.results19, intss]

/-- The reference's loop. -/
def cycN (M : Nat → Nat → Bool) (L : List (List Int)) (i : Nat) : List (List Int) := cycF M (L.take i)
theorem cycN_le (M : Nat → Nat → Bool) (L : List (List Int)) (i : Nat) : (cycN M L i).length ≤ L.length := by
  have := List.length_filter_le (fun l => M (headN l) (headN l)) (L.take i)
  simp at this; unfold cycN cycF; omega
theorem cycN_succ (M : Nat → Nat → Bool) (L : List (List Int)) (i : Nat) (h : i < L.length) : cycN M L (i + 1) = if M (headN L[i]) (headN L[i]) then cycN M L i ++ [L[i]] else cycN M L i := by
  unfold cycN cycF; rw [List.take_succ_eq_append_getElem h, List.filter_append]
  cases hq : M (headN L[i]) (headN L[i]) <;> simp [hq]

set_option maxHeartbeats 4000000 in
set_option maxRecDepth 10000 in
theorem c20_ok (n : Int) (ps : List (List Int)) (hl : ps.length ≤ 4611686018427387904) : PureCall Try.prog 20 [.int .i64 n, intss ps] (intss (ref20Cyc n ps)) := by
  refine PureCall.of_TLe Try.func20 rfl (by kernel_rfl) (by simp [Try.ntmps20]) rfl fun C hC => ?_
  rw [Try.ntmps20] at hC
  refine T.seq (T.go' tabOk ?_)
  simp [hC]
  refine T.seq (T.go' tabOk ?_)
  simp [hC]
  refine TL.call (by simp [hC]) rfl rfl (CallQ.of rfl rfl (c24_ok n ps hl)) (TL.go' tabOk ?_)
  simp [hC]
  refine TL.call (by simp [hC]) rfl rfl (CallQ.of rfl rfl (c18_ok n ps hl)) (TL.go' tabOk ?_)
  simp [hC]
  have hcomp := ref20Comps_comp n ps
  have hle := ref20Comps_le n ps
  unfold ref20Cyc
  generalize ref20Comps n ps = L at *
  generalize reachM n ps = M at *
  have hk64 := nn_le n
  generalize nn n = k at *
  have hml := mat2_length k M
  refine T.seq (T.go' tabOk ?_)
  simp [hC]
  refine T.seq (T.seq (T.go' tabOk ?_))
  simp [hC]
  refine T.block ?_
  refine T.loopLe (fun m s => ∃ i : Nat, m = L.length - i ∧ i ≤ L.length ∧ s = ⟨[(8, .int .i64 i), (7, .osl 0 0 (cycN M L i).length), (6, intss L), (5, boolss (mat2 k M))], [(0, ⟨22, 1, (cycN M L i).map ints⟩)], 1⟩) (n := L.length) ?_ ?_
  · refine upTo.le (Le.own 7 22 1 rfl) ?_
    refine upTo.trim [8, 7, 6, 5] [0] 1 (by simp) ⟨0, rfl, Nat.zero_le _, ?_⟩
    simp [cycN, cycF]
  · rintro m s ⟨i, rfl, hi, rfl⟩
    refine T.seq (T.seq (T.go' tabOk ?_))
    simp [hC, intss]
    refine T.cond_if rfl (fun h => ?_) (fun h => ?_)
    · have hip : i < L.length := by simpa using h
      have hw := w64 ((i : Int) + 1) (by omega) (by omega)
      obtain ⟨x, r, hx, hxk, _, _⟩ := hcomp L[i] (List.getElem_mem hip)
      have hcs := cycN_succ M L i hip
      have hcl := cycN_le M L i
      have hh : headN L[i] = x := by rw [hx]; simp [headN, natI]
      rw [hh] at hcs
      have gx := mat2_get k M x hxk
      have hr : (0 : Int) < (r.length : Int) + 1 := by omega
      refine T.skip ?_
      simp
      refine T.seq (T.block ?_)
      refine T.seq (T.draw' tabOk follows [] [0, 1, 2, 3, 4, 5, 6, 7, 8, 9, 10, 11, 12, 13, 14, 15, 16] [] (by kernel_rfl) ?_)
      simp [hC, hip, hx, natI, ints, boolss, bools, hml, hxk, hr]
      refine T.le (Le.env [37, 8, 7, 6, 5]) ?_
      simp
      have hb24 : (((cycN M L i).length : Int) + 1) * 24 ≤ 140737488355328 := by omega
      have hb24' : ((cycN M L i).length + 1) * 24 ≤ 140737488355328 := by omega
      have ep : L[i]? = some L[i] := List.getElem?_eq_getElem hip
      refine T.cond_if rfl (fun h => ?_) (fun h => ?_)
      · have hm : M x x = true := h
        rw [if_pos hm] at hcs
        refine T.go' tabOk ?_
        simp [hC, hip, hb24']
        refine T.go' tabOk ?_
        simp [hC, hw]
        refine ⟨_, ?_, upTo.trim [8, 7, 6, 5] [0] 1 (by simp) ⟨i + 1, rfl, hip, ?_⟩⟩
        · omega
        · simp [hcs]
      · have hm : M x x = false := h
        rw [if_neg (by simp [hm])] at hcs
        refine T.skip ?_
        simp
        refine T.go' tabOk ?_
        simp [hC, hw]
        refine ⟨_, ?_, upTo.le (Le.env [8, 7, 6, 5]) (upTo.here ⟨i + 1, rfl, hip, ?_⟩)⟩
        · omega
        · simp [hcs]
    · have hip : i = L.length := by simp at h; omega
      have hcy : cycN M L i = cycF M L := by unfold cycN; rw [hip, List.take_length]
      refine T.exit ?_
      simp [hcy]
      refine T.seq (T.go' tabOk ?_)
      simp [hC]
      refine T.ret ?_
      generalize cycF M L = X
      refine upTo.le (Le.frz (o := 0) (ob := ⟨22, 1, X.map ints⟩) (by simp) (by simp)) (upTo.here ?_)
      simp [Try.results20, List.take_of_length_le]

/-- scc.Reaches. -/
def reachB (n : Int) (ps : List (List Int)) (a b : Int) : Bool := decide (0 ≤ a) && decide (a < nn n) && decide (0 ≤ b) && decide (b < nn n) && reachM n ps a.toNat b.toNat

set_option maxHeartbeats 4000000 in
set_option maxRecDepth 10000 in
theorem c25_ok (n : Int) (ps : List (List Int)) (a b : Int) (hl : ps.length ≤ 4611686018427387904) : PureCall Try.prog 25 [.int .i64 n, intss ps, .int .i64 a, .int .i64 b] (.bool (reachB n ps a b)) := by
  refine PureCall.of_TLe Try.func25 rfl (by kernel_rfl) (by simp [Try.ntmps25]) rfl fun C hC => ?_
  rw [Try.ntmps25] at hC
  refine T.seq (T.go' tabOk ?_)
  simp [hC]
  refine T.seq (T.go' tabOk ?_)
  simp [hC]
  refine TL.call (by simp [hC]) rfl rfl (CallQ.of rfl rfl (c36_ok n ps hl)) (TL.go' tabOk ?_)
  simp [hC]
  unfold reachB
  generalize reachM n ps = M at *
  generalize nn n = k at *
  have hml := mat2_length k M
  refine T.seq (T.go' tabOk ?_)
  by_cases h1 : 0 ≤ a
  · by_cases h2 : a < k
    · obtain ⟨x, rfl⟩ : ∃ x : Nat, a = x := ⟨a.toNat, by omega⟩
      have hx : x < k := by omega
      have gx := mat2_get k M x hx
      by_cases h3 : 0 ≤ b
      · by_cases h4 : b < k
        · obtain ⟨y, rfl⟩ : ∃ y : Nat, b = y := ⟨b.toNat, by omega⟩
          have hy : y < k := by omega
          simp [hC, boolss, bools, hml, hx, hy]
          refine T.ret ?_
          refine upTo.here ?_
          simp [Try.results25]
        · simp [hC, boolss, hml, hx, h3, h4]
          refine T.ret ?_
          refine upTo.here ?_
          simp [Try.results25]
      · simp [hC, boolss, hml, hx, h3]
        refine T.ret ?_
        refine upTo.here ?_
        simp [Try.results25]
    · simp [hC, boolss, hml, h1, h2]
      refine T.ret ?_
      refine upTo.here ?_
      simp [Try.results25]
  · simp [hC, boolss, hml, h1]
    refine T.ret ?_
    refine upTo.here ?_
    simp [Try.results25]
end Go.Proofs.Ytgiphneejidahaa
