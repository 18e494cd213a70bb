/- The reference's Levels. -/
import Derived.Test.YtgiphneejidahaaW20
import Derived.Test.YtgiphneejidahaaSpec8
namespace Go.Proofs.Ytgiphneejidahaa
open Go.Can

theorem dirB_edge (k : Nat) (ps : List (List Int)) (i j : Nat) : dirB k ps i j = edgeM k ps i j := by
  rw [Bool.eq_iff_iff, edgeM_iff]
  simp [dirB]
theorem levN_lt (k : Nat) (hk : k ≤ 64) (ps : List (List Int)) (y : Nat) (hy : y < k) : levN k ps y + 1 ≤ 64 := by
  obtain ⟨L, _, hD, hLl, hne, _⟩ := codeComps_nat' k ps hk
  rw [(levN_least k ps hk).eq (jac_Least k hk ps hD hne) y hy]
  exact Nat.le_trans (jac_bound k hk ps hD hne _ y hy) hLl
theorem vecI_set (k j v : Nat) (g : Nat → Nat) (h : j < k) : List.take j (vecI k fun x => (g x : Int)) ++ CV.int .i64 (v : Int) :: List.drop (j + 1) (vecI k fun x => (g x : Int)) = vecI k fun x => (setN g j v x : Int) := by
  refine (vecI_put k _ j _ h).trans (vecI_congr _ _ _ fun x _ => ?_)
  unfold upd1 setN
  split <;> rfl

/-- Ahead of a pass, of a row, of a pair. -/
def PassS (k : Nat) (M E : Nat → Nat → Bool) (lev : Nat → Nat) (ps : List (List Int)) (m : Nat) (s : St) : Prop :=
  ∃ (b : Bool) (g : Nat → Nat), m = (if b then rest k lev g + 1 else 0) ∧ (∀ y, y < k → g y ≤ lev y) ∧ (b = false → Sol k M E g) ∧ s = ⟨[(7, .bool b), (6, .osl 0 0 k), (5, boolss (mat2 k M)), (1, intss ps)], [(0, ⟨3, 1, vecI k fun x => (g x : Int)⟩)], 1⟩
def RowS (k : Nat) (M E : Nat → Nat → Bool) (lev : Nat → Nat) (ps : List (List Int)) (g0 : Nat → Nat) (i : Nat) (s : St) : Prop :=
  ∃ (b : Bool) (g : Nat → Nat), RInv k M E lev i 0 b g0 g ∧ s = ⟨[(8, .int .i64 i), (7, .bool b), (6, .osl 0 0 k), (5, boolss (mat2 k M)), (1, intss ps)], [(0, ⟨3, 1, vecI k fun x => (g x : Int)⟩)], 1⟩
def ColS (k : Nat) (M E : Nat → Nat → Bool) (lev : Nat → Nat) (ps : List (List Int)) (g0 : Nat → Nat) (i j : Nat) (s : St) : Prop :=
  ∃ (b : Bool) (g : Nat → Nat), RInv k M E lev i j b g0 g ∧ s = ⟨[(9, .int .i64 j), (8, .int .i64 i), (7, .bool b), (6, .osl 0 0 k), (5, boolss (mat2 k M)), (1, intss ps)], [(0, ⟨3, 1, vecI k fun x => (g x : Int)⟩)], 1⟩

set_option maxHeartbeats 8000000 in
set_option maxRecDepth 10000 in
theorem c32_ok (n : Int) (ps : List (List Int)) (hl : ps.length ≤ 1000000) : PureCall Try.prog 32 [.int .i64 n, intss ps] (ints (levL n ps)) := by
  refine PureCall.of_TLe Try.func32 rfl (by kernel_rfl) (by simp [Try.ntmps32]) rfl fun C hC => ?_
  rw [Try.ntmps32] at hC
  refine T.seq (T.go' tabOk ?_)
  simp [hC]
  refine T.seq (T.go' tabOk ?_)
  simp [hC]
  refine TL.call (by simp [hC]) rfl rfl (CallQ.of rfl rfl (c24_ok n ps (by omega))) (TL.go' tabOk ?_)
  have hk64 := nn_le n
  rw [← reachM_nn]
  unfold levL
  generalize nn n = k at *
  have hlev := levN_least k ps hk64
  have hlt := levN_lt k hk64 ps
  have h44 : ∀ i j : Nat, PureCall Try.prog 44 [.int .i64 k, intss ps, .int .i64 i, .int .i64 j] (.bool (edgeM k ps i j)) := fun i j => by
    have := c44_ok k ps i j hl
    rwa [dirB_edge] at this
  generalize levN k ps = lev at *
  generalize edgeM k ps = E at *
  generalize reachM k ps = M at *
  have hml := mat2_length k M
  simp [hC]
  refine T.seq (T.go' tabOk ?_)
  have b1 : (8 : Int) * (k : Int) ≤ 281474976710656 := by omega
  have b2 : (k : Int) ≤ 9223372036854775807 := by omega
  simp [hC, boolss, hml, b1, b2]
  refine T.seq (T.seq (T.go' tabOk ?_))
  simp [hC]
  refine T.block ?_
  refine T.loopLe (fun m s => PassS k M E lev ps m s) (n := rest k lev (fun _ => 0) + 1) ?_ ?_
  · refine upTo.le (Le.env [7, 6, 5, 1]) (upTo.here ⟨true, fun _ => 0, rfl, fun _ _ => Nat.zero_le _, fun h => (by cases h), ?_⟩)
    simp [boolss, hml]
    exact vecI_rep k 0
  · rintro m s ⟨b, g0, rfl, hg0, hsol, rfl⟩
    refine T.seq (T.seq (T.go' tabOk ?_))
    simp [hC]
    refine T.cond_if rfl (fun h => ?_) (fun h => ?_)
    · subst h
      refine T.skip ?_
      simp
      refine T.le (Le.env [6, 5, 1]) ?_
      simp
      refine T.block (T.seq (T.go' tabOk ?_))
      simp [hC]
      refine T.seq (T.go' tabOk ?_)
      simp [hC]
      refine T.block ?_
      refine T.loopLe (fun m s => ∃ i : Nat, m = k - i ∧ i ≤ k ∧ RowS k M E lev ps g0 i s) (n := k) ?_ ?_
      · refine upTo.le (Le.env [8, 7, 6, 5, 1]) (upTo.here ⟨0, rfl, Nat.zero_le _, false, g0, RInv.start hg0, ?_⟩)
        simp [boolss]
      · rintro m s ⟨i, rfl, hi, b, g1, hR1, rfl⟩
        refine T.seq (T.seq (T.go' tabOk ?_))
        simp [hC, boolss, hml]
        refine T.cond_if rfl (fun h => ?_) (fun h => ?_)
        · have hik : i < k := by simpa using h
          have hwi := w64 ((i : Int) + 1) (by omega) (by omega)
          have gx := mat2_get k M i hik
          refine T.skip ?_
          simp
          refine T.le (Le.env [8, 7, 6, 5, 1]) ?_
          simp
          refine T.seq (T.block (T.seq (T.go' tabOk ?_)))
          simp [hC]
          refine T.block ?_
          refine T.loopLe (fun m s => ∃ j : Nat, m = k - j ∧ j ≤ k ∧ ColS k M E lev ps g0 i j s) (n := k) ?_ ?_
          · refine upTo.le (Le.env [9, 8, 7, 6, 5, 1]) (upTo.here ⟨0, rfl, Nat.zero_le _, b, g1, hR1, ?_⟩)
            simp [boolss, hml]
          · rintro m s ⟨j, rfl, hj, b, g, hR, rfl⟩
            refine T.seq (T.seq (T.go' tabOk ?_))
            simp [hC, boolss, hml]
            refine T.cond_if rfl (fun h => ?_) (fun h => ?_)
            · have hjk : j < k := by simpa using h
              have hwj := w64 ((j : Int) + 1) (by omega) (by omega)
              have gy := mat2_get k M j hjk
              have hgi := hR.le i hik
              have hli := hlt i hik
              have hgj := hR.le j hjk
              have hwl := w64 ((g i : Int) + 1) (by omega) (by omega)
              have hse := hlev.sol.edge i j hik hjk
              have hsm := hlev.sol.same i j hik hjk
              have hij := h44 i j
              refine T.skip ?_
              simp
              refine T.le (Le.env [9, 8, 7, 6, 5, 1]) ?_
              simp
              refine T.seq (T.block (T.cut (fun s => s = ⟨[(10, .bool (mutB M i j)), (9, .int .i64 j), (8, .int .i64 i), (7, .bool b), (6, .osl 0 0 k), (5, boolss (mat2 k M)), (1, intss ps)], [(0, ⟨3, 1, vecI k fun x => (g x : Int)⟩)], 1⟩) (T.go' tabOk ?_) ?_))
              · by_cases he : i = j
                · subst he
                  simp [hC]
                  refine upTo.le (Le.env [10, 9, 8, 7, 6, 5, 1]) (upTo.here ?_)
                  simp [mutB, boolss, hml]
                · have he' : ((i : Int) == (j : Int)) = false := by simp; omega
                  cases q1 : M i j <;> cases q2 : M j i <;>
                  simp [hC, he', hml, hik, hjk, bools, q1, q2]
                  all_goals
                    refine upTo.le (Le.env [10, 9, 8, 7, 6, 5, 1]) (upTo.here ?_)
                    simp [mutB, both, he, q1, q2, boolss, hml]
              · rintro s rfl
                have hok : (mutB M i j = true → g i ≤ g j) → (E i j = true → mutB M i j = false → g i + 1 ≤ g j) → OkP M E g i j := fun h1 h2 => ⟨h1, h2⟩
                generalize mutB M i j = tg at *
                refine T.seq (T.go' tabOk ?_)
                simp [hC, hik]
                refine T.le (Le.env [11, 10, 9, 8, 7, 6, 5, 1]) ?_
                simp
                cases tg
                · cases hE : E i j
                  · rw [hE] at hij
                    refine T.cut (fun s => s = ⟨[(11, .int .i64 (g i)), (10, .bool false), (9, .int .i64 j), (8, .int .i64 i), (7, .bool b), (6, .osl 0 0 k), (5, boolss (mat2 k M)), (1, intss ps)], [(0, ⟨3, 1, vecI k fun x => (g x : Int)⟩)], 1⟩) (T.seq (T.go' tabOk ?_)) ?_
                    · simp [hC, boolss, hml]
                      refine TL.callG (by simp [hC]) rfl rfl rfl rfl (CallQ.of rfl rfl hij) (TL.go' tabOk ?_)
                      simp [hC]
                      refine T.cond_false rfl ?_
                      refine T.skip ?_
                      simp
                      refine upTo.le (Le.env [11, 10, 9, 8, 7, 6, 5, 1]) (upTo.here ?_)
                      simp
                    · rintro s rfl
                      refine T.seq (T.go' tabOk ?_)
                      simp [hC, boolss, hml]
                      refine TL.callG (by simp [hC]) rfl rfl rfl rfl (CallQ.of rfl rfl hij) (TL.go' tabOk ?_)
                      simp [hC]
                      refine T.cond_false rfl ?_
                      refine T.skip ?_
                      simp
                      refine T.go' tabOk ?_
                      simp [hC, hwj]
                      refine ⟨_, ?_, upTo.le (Le.env [9, 8, 7, 6, 5, 1]) (upTo.here ⟨j + 1, rfl, hjk, b, g, hR.keep (hok (fun h => by cases h) (fun h _ => by rw [hE] at h; cases h)), ?_⟩)⟩
                      · omega
                      · simp [boolss, hml]
                  · rw [hE] at hij
                    have hse := hse hE rfl
                    refine T.cut (fun s => s = ⟨[(11, .int .i64 ((g i : Int) + 1)), (10, .bool false), (9, .int .i64 j), (8, .int .i64 i), (7, .bool b), (6, .osl 0 0 k), (5, boolss (mat2 k M)), (1, intss ps)], [(0, ⟨3, 1, vecI k fun x => (g x : Int)⟩)], 1⟩) (T.seq (T.go' tabOk ?_)) ?_
                    · simp [hC, boolss, hml]
                      refine TL.callG (by simp [hC]) rfl rfl rfl rfl (CallQ.of rfl rfl hij) (TL.go' tabOk ?_)
                      simp [hC]
                      refine T.cond_true rfl ?_
                      refine T.go' tabOk ?_
                      simp [hC, hik, hwl]
                      refine upTo.le (Le.env [11, 10, 9, 8, 7, 6, 5, 1]) (upTo.here ?_)
                      simp
                    · rintro s rfl
                      refine T.seq (T.go' tabOk ?_)
                      simp [hC, boolss, hml]
                      refine TL.callG (by simp [hC]) rfl rfl rfl rfl (CallQ.of rfl rfl hij) (TL.go' tabOk ?_)
                      simp [hC, hjk]
                      refine T.cond_if rfl (fun h => ?_) (fun h => ?_)
                      · have hlt : g j < g i + 1 := by simp at h; omega
                        refine T.go' tabOk ?_
                        have hvs := vecI_set k j (g i + 1) g hjk
                        simp only [Int.natCast_add, Int.cast_ofNat_Int] at hvs
                        simp [hC, hjk, Nat.succ_le_of_lt hjk]
                        refine T.go' tabOk ?_
                        simp [hC, hwj]
                        refine ⟨_, ?_, upTo.le (Le.env [9, 8, 7, 6, 5, 1]) (upTo.here ⟨j + 1, rfl, hjk, true, _, hR.rise hjk hlt (by omega), ?_⟩)⟩
                        · omega
                        · simp [boolss, hml]
                          exact hvs
                      · have hlt : g i + 1 ≤ g j := by simp at h; omega
                        refine T.skip ?_
                        simp
                        refine T.go' tabOk ?_
                        simp [hC, hwj]
                        refine ⟨_, ?_, upTo.le (Le.env [9, 8, 7, 6, 5, 1]) (upTo.here ⟨j + 1, rfl, hjk, b, g, hR.keep (hok (fun h => by cases h) (fun _ _ => hlt)), ?_⟩)⟩
                        · omega
                        · simp [boolss, hml]
                · have hsm := hsm rfl
                  refine T.cut (fun s => s = ⟨[(11, .int .i64 (g i)), (10, .bool true), (9, .int .i64 j), (8, .int .i64 i), (7, .bool b), (6, .osl 0 0 k), (5, boolss (mat2 k M)), (1, intss ps)], [(0, ⟨3, 1, vecI k fun x => (g x : Int)⟩)], 1⟩) (T.seq (T.go' tabOk ?_)) ?_
                  · simp [hC, boolss, hml]
                    refine T.cond_false rfl ?_
                    refine T.skip ?_
                    simp
                    refine upTo.le (Le.env [11, 10, 9, 8, 7, 6, 5, 1]) (upTo.here ?_)
                    simp
                  · rintro s rfl
                    refine T.seq (T.go' tabOk ?_)
                    simp [hC, boolss, hml, hjk]
                    refine T.cond_if rfl (fun h => ?_) (fun h => ?_)
                    · have hlt : g j < g i := by simp at h; omega
                      refine T.go' tabOk ?_
                      have hvs := vecI_set k j (g i) g hjk
                      simp [hC, hjk, Nat.succ_le_of_lt hjk]
                      refine T.go' tabOk ?_
                      simp [hC, hwj]
                      refine ⟨_, ?_, upTo.le (Le.env [9, 8, 7, 6, 5, 1]) (upTo.here ⟨j + 1, rfl, hjk, true, _, hR.rise hjk hlt (by omega), ?_⟩)⟩
                      · omega
                      · simp [boolss, hml]
                        exact hvs
                    · have hlt : g i ≤ g j := by simp at h; omega
                      refine T.skip ?_
                      simp
                      refine T.go' tabOk ?_
                      simp [hC, hwj]
                      refine ⟨_, ?_, upTo.le (Le.env [9, 8, 7, 6, 5, 1]) (upTo.here ⟨j + 1, rfl, hjk, b, g, hR.keep (hok (fun _ => hlt) (fun _ h => by cases h)), ?_⟩)⟩
                      · omega
                      · simp [boolss, hml]
            · have hjk : j = k := by simp at h; omega
              subst hjk
              refine T.exit ?_
              simp
              refine T.go' tabOk ?_
              simp [hC, hwi]
              refine ⟨_, ?_, upTo.le (Le.env [8, 7, 6, 5, 1]) (upTo.here ⟨i + 1, rfl, hik, b, g, hR.row, ?_⟩)⟩
              · omega
              · simp [boolss, hml]
        · have hik : i = k := by simp at h; omega
          subst hik
          refine T.exit ?_
          simp
          refine ⟨_, ?_, upTo.le (Le.env [7, 6, 5, 1]) (upTo.here ⟨b, g1, rfl, hR1.le, fun hb => (by subst hb; exact hR1.sol), ?_⟩)⟩
          · cases b
            · simp
            · have := rest_lt hR1.le hR1.ge (hR1.up rfl)
              simp; omega
          · simp [boolss, hml]
    · subst h
      have hL : Least k M E g0 := ⟨hsol rfl, fun g hg y hy => Nat.le_trans (hg0 y hy) (hlev.least g hg y hy)⟩
      have he := hlev.eq hL
      refine T.exit ?_
      simp
      refine T.le (Le.env [6]) ?_
      simp
      have hend : (vecI k fun y => (g0 y : Int)) = (natI ((List.range k).map lev)).map I64 := by
        rw [vecI_congr k _ (fun y => (lev y : Int)) fun y hy => by rw [he y hy]]
        simp [vecI, vec, natI, Function.comp_def]
      rw [hend]
      have hnl : (natI ((List.range k).map lev)).length = k := by simp
      generalize natI ((List.range k).map lev) = X at *
      refine T.seq (T.go' tabOk ?_)
      simp [hC]
      refine T.ret ?_
      refine upTo.le (Le.frz (o := 0) (ob := ⟨3, 1, X.map I64⟩) (by simp) (by simp)) (upTo.here ?_)
      simp [Try.results32, List.take_of_length_le, ints, hnl]
end Go.Proofs.Ytgiphneejidahaa
