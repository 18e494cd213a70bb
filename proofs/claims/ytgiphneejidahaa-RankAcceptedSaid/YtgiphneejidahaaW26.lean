/- Law RankAccepted. -/
import Derived.Test.YtgiphneejidahaaW23
import Derived.Test.YtgiphneejidahaaCan18
namespace Go.Proofs.Ytgiphneejidahaa
open Go.Can

theorem natI_get2 (k : Nat) (f : Nat → Nat) (x : Nat) (h : x < k) : (natI ((List.range k).map f))[x]? = some (f x : Int) := by
  simp [natI, h]
theorem warK_rise {n : Nat} {E : Nat → Nat → Bool} {f : Nat → Int} (h : ∀ x y, x < n → y < n → E x y = true → f x < f y) : ∀ k, k ≤ n → ∀ x y, x < n → y < n → warK n E k x y = true → f x < f y
  | 0, _, x, y, hx, hy, hw => h x y hx hy hw
  | k + 1, hk, x, y, hx, hy, hw => by
    rw [warK_succ _ _ _ _ _ hx hy, Bool.or_eq_true, Bool.and_eq_true] at hw
    rcases hw with hw | ⟨h1, h2⟩
    · exact warK_rise h k (by omega) x y hx hy hw
    · have := warK_rise h k (by omega) x k hx (by omega) h1
      have := warK_rise h k (by omega) k y (by omega) hy h2
      omega
theorem cyc_node (k : Nat) (hk : k ≤ 64) (ps : List (List Int)) (h : codeCyc k ps ≠ []) : ∃ x, x < k ∧ reachM k ps x x = true := by
  obtain ⟨l, hl⟩ := List.exists_mem_of_ne_nil _ h
  simp only [codeCyc, cycF, List.mem_filter] at hl
  obtain ⟨x, r, e, hx, _⟩ := codeComps_comp k ps l hl.1
  rw [nn_nat k hk] at hx
  have hh : headN l = x := by rw [e]; simp [headN, natI]
  rw [hh] at hl
  exact ⟨x, hx, hl.2⟩
theorem acyc_node (k : Nat) (hk : k ≤ 64) (ps : List (List Int)) (h : codeCyc k ps = []) (x : Nat) (hx : x < k) : reachM k ps x x = false := by
  cases hq : reachM k ps x x
  · rfl
  exfalso
  have ht := reach_trans k ps
  rw [nn_nat k hk] at ht
  obtain ⟨L, hL, hD, _, hne, _⟩ := codeComps_nat' k ps hk
  obtain ⟨j, hj, hjx⟩ := hD.home x hx
  have hxj : x ∈ L[j] := (hjx j hj).2 rfl
  have hmem : L[j] ∈ L := List.getElem_mem hj
  have hcm : natI L[j] ∈ codeCyc k ps := by
    simp only [codeCyc, cycF, List.mem_filter]
    refine ⟨by rw [hL]; exact List.mem_map.2 ⟨_, hmem, rfl⟩, ?_⟩
    have hn := hne _ hmem
    cases hl : L[j] with
    | nil => exact absurd hl hn
    | cons y r =>
      have hy : y ∈ L[j] := by rw [hl]; simp
      have hyk := hD.lt _ hmem y hy
      have hm := (hD.muts _ hmem y hy x hx).1 hxj
      have : headN (natI (y :: r)) = y := by simp [headN, natI]
      rw [this]
      rcases (mutB_iff y x).1 hm with rfl | hb
      · exact hq
      · unfold both at hb
        rw [Bool.and_eq_true] at hb
        exact ht _ _ _ hyk hx hyk hb.1 hb.2
  rw [h] at hcm; cases hcm

theorem check_cyc (k : Nat) (hk : k ≤ 64) (ps : List (List Int)) (r : List Int) (h : codeCyc k ps ≠ []) : checkB k ps r = false := by
  cases hc : checkB k ps r
  · rfl
  exfalso
  obtain ⟨x, hx, hxx⟩ := cyc_node k hk ps h
  have hnn := nn_nat k hk
  simp only [checkB, Bool.and_eq_true, hnn, List.all_eq_true] at hc
  have hE : ∀ x y, x < k → y < k → edgeM k ps x y = true → r.getD x 0 < r.getD y 0 := fun x y _ _ he => by
    have := hc.2 _ ((edges_iff k ps x y).2 he)
    simpa [riseB] using this
  have := warK_rise hE k (Nat.le_refl _) x x hx hx (by
    have : reachM k ps x x = warK k (edgeM k ps) k x x := by unfold reachM; rw [hnn]; rfl
    rw [← this]; exact hxx)
  omega
theorem check_acyc (k : Nat) (hk : k ≤ 64) (ps : List (List Int)) (h : codeCyc k ps = []) : checkB k ps (levL k ps) = true := by
  have hnn := nn_nat k hk
  have hlev := levN_least k ps hk
  have ht := reach_trans k ps
  have hre := reach_edge k ps
  rw [hnn] at ht hre
  simp only [checkB, hnn, Bool.and_eq_true, decide_eq_true_eq, List.all_eq_true]
  refine ⟨by rw [levL_length, hnn], fun p hp => ?_⟩
  obtain ⟨a, b, rfl, ha, hb, hE⟩ := edges_two k ps p hp
  have hM := hre a b ha hb hE
  have hm : mutB (reachM k ps) a b = false := by
    cases hq : mutB (reachM k ps) a b
    · rfl
    exfalso
    have hb' : reachM k ps b a = true := by
      rcases (mutB_iff a b).1 hq with rfl | hq
      · exact hM
      · unfold both at hq; rw [Bool.and_eq_true] at hq; exact hq.2
    have := ht _ _ _ ha hb ha hM hb'
    rw [acyc_node k hk ps h a ha] at this; cases this
  have hlt := hlev.sol.edge a b ha hb hE hm
  have g1 := natI_get2 k (levN k ps) a ha
  have g2 := natI_get2 k (levN k ps) b hb
  unfold riseB levL
  rw [hnn]
  simp only [List.getD_cons_zero, List.getD_cons_succ, Int.toNat_natCast, decide_eq_true_eq]
  rw [List.getD_eq_getElem?_getD, List.getD_eq_getElem?_getD, g1, g2]
  simp only [Option.getD_some]
  omega
theorem check_rank (k : Nat) (hk : k ≤ 64) (ps : List (List Int)) : checkB k ps (rankL k ps) = rankB k ps := by
  unfold rankL rankB
  by_cases h : codeCyc k ps = []
  · rw [if_pos h, check_acyc k hk ps h]; simp [h]
  · rw [if_neg h, check_cyc k hk ps [] h]; simp [h]
theorem rank_zero (ps : List (List Int)) : rankB (0 : Nat) ps = true := by
  unfold rankB
  rw [decide_eq_true_eq]
  cases h : codeCyc (0 : Nat) ps with
  | nil => rfl
  | cons c r =>
    obtain ⟨x, hx, _⟩ := cyc_node 0 (by decide) ps (by rw [h]; simp)
    omega

set_option maxHeartbeats 4000000 in
set_option maxRecDepth 10000 in
theorem c12_ok (n : Int) (l ranks : List Int) (up : Bool) (hl : l.length ≤ 9223372036854775807) (hr : (ranks.length + 11) * 8 ≤ 140737488355328) : PureCall Try.prog 12 [.int .i64 n, ints l, ints ranks, .bool up] (.bool true) := by
  refine PureCall.of_TLe Try.func12 rfl (by kernel_rfl) (by simp [Try.ntmps12]) rfl fun C hC => ?_
  rw [Try.ntmps12] at hC
  refine T.seq (T.go' tabOk ?_)
  simp [hC]
  refine T.seq (T.go' tabOk ?_)
  simp [hC]
  refine TL.call (by simp [hC]) rfl rfl (CallQ.of rfl rfl (c26_ok n)) (TL.go' tabOk ?_)
  have hk0 := Int.emod_nonneg n (show (11 : Int) ≠ 0 by decide)
  have hk1 := Int.emod_lt_of_pos n (show (0 : Int) < 11 by decide)
  obtain ⟨k, hk⟩ : ∃ k : Nat, n % 11 = k := ⟨(n % 11).toNat, by omega⟩
  rw [hk] at hk0 hk1 ⊢
  have hk64 : k ≤ 64 := by omega
  simp [hC]
  refine T.seq (T.go' tabOk ?_)
  simp [hC]
  refine TL.call (by simp [hC]) rfl rfl (CallQ.of rfl rfl (c27_ok l k up (by omega) hl)) (TL.go' tabOk ?_)
  have hps := pairsUp_le l k up
  generalize pairsUp l k up = ps at *
  have hp : ps.length ≤ 1000000 := by omega
  simp [hC]
  refine T.seq (T.go' tabOk ?_)
  simp [hC]
  refine TL.call (by simp [hC]) rfl rfl (CallQ.of rfl rfl (c28_ok k ps hp)) (TL.go' tabOk ?_)
  simp [hC]
  refine T.le (Le.env [10, 11, 9, 0, 2]) ?_
  simp
  have hcr := check_rank k hk64 ps
  have h34 := c34_ok k ps (rankL k ps) hp
  rw [hcr] at h34
  have h19 := c19_ok k ps (by omega)
  have hk00 : k = 0 → rankB k ps = true := fun h => by subst h; exact rank_zero ps
  have hcy : rankB k ps = decide (codeCyc k ps = []) := rfl
  have hcyc := fun r => check_cyc k hk64 ps r
  refine T.seq (T.seq (T.go' tabOk ?_))
  simp [hC]
  refine TL.call (by simp [hC]) rfl rfl (CallQ.of rfl rfl h34) (TL.go' tabOk ?_)
  simp [hC]
  refine T.cond_false rfl ?_
  refine T.skip ?_
  simp
  refine T.le (Le.env [11, 9, 0, 2]) ?_
  simp
  refine T.seq ?_
  cases hB : rankB k ps
  · rw [hB] at hcy
    have hne : codeCyc k ps ≠ [] := by
      intro e; rw [e] at hcy; simp at hcy
    have hkp : k ≠ 0 := fun e => by rw [hk00 e] at hB; cases hB
    have hkz : ((k : Int) == 0) = false := by simp; omega
    have hb1 : (ranks.length : Int) * 8 ≤ 140737488355328 := by omega
    have hb2 : ranks.length * 8 ≤ 140737488355328 := by omega
    obtain ⟨zs, hzs, hzl⟩ : ∃ zs : List Int, czeros [CV.int .i64 0] 11 = zs.map I64 ∧ zs.length = 11 := ⟨List.replicate 11 0, by rw [czeros_one, List.map_replicate], by simp⟩
    have hkl : k ≤ ranks.length + 11 := by omega
    have hds : CV.tsl (List.take k (ranks.map I64 ++ zs.map I64)) k = ints ((ranks ++ zs).take k) := by
      unfold ints
      rw [List.map_take, List.map_append, show ((ranks ++ zs).take k).length = k by simp; omega]
    have h34r := c34_ok k ps ((ranks ++ zs).take k) hp
    rw [hcyc _ hne, ← hds] at h34r
    refine T.region (TL.some tabOk 11 ?_)
    simp [hC, ints, hkz, hb2]
    refine TL.exec (by simp [hC]) (by simp) (AppZS _ (some 45) 0 ranks.length 11 ⟨3, 1, ranks.map I64⟩ [.int .i64 0]) (appZ_ok tabOk (by simp [hC]) rfl rfl rfl rfl rfl rfl rfl rfl rfl rfl rfl (by decide) (by decide) rfl rfl (by simp) hr (by decide) rfl (by simp) rfl) ?_
    rintro s' rfl
    unfold AppZ
    rw [hzs]
    simp
    refine TL.go' tabOk ?_
    simp [hC, hkl]
    have hlz : ((codeCyc k ps).length : Int) ≠ 0 := by
      intro e
      exact hne (List.eq_nil_of_length_eq_zero (by omega))
    have hlz' : (((codeCyc k ps).length : Int) == 0) = false := by simpa using hlz
    refine TL.callG (by simp [hC]) rfl rfl rfl rfl (CallQ.lent (ds := [.int .i64 k, intss ps, .tsl (List.take k (ranks.map I64 ++ zs.map I64)) k]) rfl (by simp [intss]) h34r rfl) (TL.go' tabOk ?_)
    simp [hC]
    refine TL.callG (by simp [hC]) rfl rfl rfl rfl (CallQ.of rfl rfl h19) (TL.go' tabOk ?_)
    simp [hC, intss, hlz']
    refine TL.callG (by simp [hC]) rfl rfl rfl rfl (CallQ.of rfl rfl c33_ok) (TL.go' tabOk ?_)
    simp [hC]
    refine T.ret ?_
    refine upTo.here ?_
    simp [Try.results12]
  · rw [hB] at hcy
    have hne : codeCyc k ps = [] := by simpa using hcy.symm
    rw [hne] at h19
    refine T.go' tabOk ?_
    simp [hC]
    refine TL.callG (by simp [hC]) rfl rfl rfl rfl (CallQ.of rfl rfl h19) (TL.go' tabOk ?_)
    simp [hC, intss]
    refine TL.callG (by simp [hC]) rfl rfl rfl rfl (CallQ.of rfl rfl c33_ok) (TL.go' tabOk ?_)
    simp [hC]
    refine T.ret ?_
    refine upTo.here ?_
    simp [Try.results12]
end Go.Proofs.Ytgiphneejidahaa
