/- rank.Levels. -/
import Derived.Test.YtgiphneejidahaaW17
import Derived.Test.YtgiphneejidahaaW19
import Derived.Test.YtgiphneejidahaaSpec7
namespace Go.Proofs.Ytgiphneejidahaa
open Go.Can

/-- The component of a node. -/
def cof (L : List (List Nat)) (x : Nat) : Nat := (ofL L L.length x).toNat
theorem cof_facts {n : Nat} {M : Nat → Nat → Bool} {L : List (List Nat)} (hD : Divides n M L) (x : Nat) (hx : x < n) : cof L x < L.length ∧ ofL L L.length x = cof L x := by
  obtain ⟨j, hj, h⟩ := hD.home x hx
  have := ofL_at hD L.length (Nat.le_refl _) j hj hj x ((h j hj).2 rfl)
  unfold cof
  rw [this]
  exact ⟨by simpa using hj, by simp⟩
theorem cof_same {n : Nat} {M : Nat → Nat → Bool} {L : List (List Nat)} (hD : Divides n M L) (x y : Nat) (hx : x < n) (hy : y < n) : cof L x = cof L y ↔ mutB M x y = true := by
  rw [← ofL_same hD x y hx hy, (cof_facts hD x hx).2, (cof_facts hD y hy).2]
  omega

theorem edges_two (k : Nat) (ps : List (List Int)) (p : List Int) (hp : p ∈ edgesOf k ps) : ∃ a b : Nat, p = [(a : Int), (b : Int)] ∧ a < k ∧ b < k ∧ edgeM k ps a b = true := by
  obtain ⟨a, b, rfl, ha, hb⟩ := arrow_nat k p (List.mem_filter.1 hp).2
  exact ⟨a, b, rfl, ha, hb, (edges_iff k ps a b).1 hp⟩
theorem jac_bound (k : Nat) (hk : k ≤ 64) (ps : List (List Int)) {L : List (List Nat)} (hD : Divides k (reachM k ps) L) (hne : ∀ l ∈ L, l ≠ []) (r y : Nat) (hy : y < k) : jac (cof L) (edgesOf k ps) r (cof L y) + 1 ≤ L.length := by
  have hnn := nn_nat k hk
  have ht := reach_trans k ps
  have hE := reach_edge k ps
  rw [hnn] at ht hE
  have h1 := jac_least (edges_two k ps) (cof_same hD) (above_sol (E := edgeM k ps) hD ht hE hne) r y hy
  have h2 := above_lt hD hne y hy
  omega
theorem jac_Least (k : Nat) (hk : k ≤ 64) (ps : List (List Int)) {L : List (List Nat)} (hD : Divides k (reachM k ps) L) (hne : ∀ l ∈ L, l ≠ []) : Least k (reachM k ps) (edgeM k ps) fun y => jac (cof L) (edgesOf k ps) L.length (cof L y) := by
  refine ⟨jac_sol (fun a b _ _ h => (edges_iff k ps a b).2 h) (fun p hp => ?_) (cof_same hD) L.length fun y hy => ?_, fun g hg y hy => jac_least (edges_two k ps) (cof_same hD) hg L.length y hy⟩
  · obtain ⟨a, b, h, _⟩ := edges_two k ps p hp
    exact ⟨a, b, h⟩
  · have := jac_bound k hk ps hD hne (L.length + 1) y hy
    omega

theorem lev_ex (k : Nat) (ps : List (List Int)) : ∃ f, k ≤ 64 → Least k (reachM k ps) (edgeM k ps) f := by
  by_cases hk : k ≤ 64
  · obtain ⟨L, _, hD, _, hne, _⟩ := codeComps_nat' k ps hk
    exact ⟨_, fun _ => jac_Least k hk ps hD hne⟩
  · exact ⟨fun _ => 0, fun h => absurd h hk⟩
/-- The ranks of the nodes. -/
noncomputable def levN (k : Nat) (ps : List (List Int)) : Nat → Nat := Classical.choose (lev_ex k ps)
theorem levN_least (k : Nat) (ps : List (List Int)) (hk : k ≤ 64) : Least k (reachM k ps) (edgeM k ps) (levN k ps) := Classical.choose_spec (lev_ex k ps) hk
noncomputable def levL (n : Int) (ps : List (List Int)) : List Int := natI ((List.range (nn n)).map (levN (nn n) ps))
theorem reachM_nn (n : Int) (ps : List (List Int)) : reachM (nn n : Nat) ps = reachM n ps := by
  unfold reachM; rw [nn_nat (nn n) (nn_le n)]
theorem codeComps_nn (n : Int) (ps : List (List Int)) : codeComps (nn n : Nat) ps = codeComps n ps := by
  unfold codeComps; rw [nn_nat (nn n) (nn_le n), reachM_nn]
theorem vecI_congr (n : Nat) (f g : Nat → Int) (h : ∀ x, x < n → f x = g x) : vecI n f = vecI n g := by
  unfold vecI vec
  exact List.map_congr_left fun x hx => by rw [h x (by simpa using hx)]
theorem take_vec (n m : Nat) (f : Nat → Int) (h : n ≤ m) : List.take m (vecI n f) = vecI n f := List.take_of_length_le (by rw [vecI_length]; exact h)
theorem drop_vec (n m : Nat) (f : Nat → Int) (h : n ≤ m) : List.drop m (vecI n f) = [] := List.drop_of_length_le (by rw [vecI_length]; exact h)

set_option maxHeartbeats 4000000 in
set_option maxRecDepth 10000 in
theorem c31_ok (n : Int) (ps : List (List Int)) (hl : ps.length ≤ 1000000) : PureCall Try.prog 31 [.int .i64 n, intss ps] (ints (levL n ps)) := by
  refine PureCall.of_TLe Try.func31 rfl (by kernel_rfl) (by simp [Try.ntmps31]) rfl fun C hC => ?_
  rw [Try.ntmps31] at hC
  refine T.seq (T.go' tabOk ?_)
  simp [hC]
  refine T.seq (T.go' tabOk ?_)
  simp [hC]
  refine TL.call (by simp [hC]) rfl rfl (CallQ.of rfl rfl (c42_ok n)) (TL.go' tabOk ?_)
  have hk64 := nn_le n
  unfold levL
  generalize nn n = k at *
  simp [hC]
  refine T.seq (T.go' tabOk ?_)
  simp [hC]
  obtain ⟨L, hL, hD, hLl, hLe, hLn⟩ := codeComps_nat' k ps hk64
  refine TL.call (by simp [hC]) rfl rfl (CallQ.of rfl rfl (hL ▸ c17_ok k ps (by omega))) (TL.go' tabOk ?_)
  simp [hC]
  refine T.seq (T.go' tabOk ?_)
  have b1 : (8 : Int) * (k : Int) ≤ 281474976710656 := by omega
  have b2 : (k : Int) ≤ 9223372036854775807 := by omega
  simp [hC, b1, b2]
  refine T.seq (T.seq (T.go' tabOk ?_))
  simp [hC, intss]
  refine T.block ?_
  refine T.loopLe (fun m s => ∃ i : Nat, m = L.length - i ∧ i ≤ L.length ∧ s = ⟨[(28, .int .i64 i), (27, .int .i64 L.length), (26, intss (L.map natI)), (6, .osl 0 0 k), (5, intss (L.map natI)), (0, .int .i64 k), (1, intss ps)], [(0, ⟨3, 1, vecI k (ofL L i)⟩)], 1⟩) (n := L.length) ?_ ?_
  · refine upTo.le (Le.env [28, 27, 26, 6, 5, 0, 1]) (upTo.here ⟨0, rfl, Nat.zero_le _, ?_⟩)
    simp [intss]
    exact vecI_rep k 0
  · rintro m s ⟨i, rfl, hi, rfl⟩
    refine T.seq (T.go' tabOk ?_)
    simp [hC]
    refine T.seq (T.cond_if rfl (fun h => ?_) (fun h => ?_))
    · have hip : i < L.length := by simpa using h
      have hwi := w64 ((i : Int) + 1) (by omega) (by omega)
      have ep : L[i]? = some L[i] := List.getElem?_eq_getElem hip
      have hg : L.getD i [] = L[i] := by simp [List.getD, hip]
      have hlin := hLn _ (List.getElem_mem hip)
      generalize hli : L[i] = li at *
      have hlt : ∀ x ∈ li, x < k := hD.lt li (by rw [← hli]; exact List.getElem_mem hip)
      refine T.skip ?_
      simp
      refine T.seq (T.block (T.seq (T.go' tabOk ?_)))
      simp [hC, intss, hip, hli]
      refine T.seq (T.go' tabOk ?_)
      simp [hC, ints]
      refine T.block ?_
      refine T.loopLe (fun m s => ∃ j : Nat, m = li.length - j ∧ j ≤ li.length ∧ s = ⟨[(35, .int .i64 j), (34, .int .i64 li.length), (33, ints (natI li)), (7, .int .i64 i), (28, .int .i64 i), (27, .int .i64 L.length), (26, intss (L.map natI)), (6, .osl 0 0 k), (5, intss (L.map natI)), (0, .int .i64 k), (1, intss ps)], [(0, ⟨3, 1, vecI k (ofJ L i j)⟩)], 1⟩) (n := li.length) ?_ ?_
      · refine upTo.le (Le.env [35, 34, 33, 7, 28, 27, 26, 6, 5, 0, 1]) (upTo.here ⟨0, rfl, Nat.zero_le _, ?_⟩)
        simp [ofJ_zero, intss, ints]
      · rintro m s ⟨j, rfl, hj, rfl⟩
        refine T.seq (T.go' tabOk ?_)
        simp [hC]
        refine T.seq (T.cond_if rfl (fun h => ?_) (fun h => ?_))
        · have hjl : j < li.length := by simpa using h
          have ej : li[j]? = some li[j] := List.getElem?_eq_getElem hjl
          have hy : li[j] < k := hlt _ (List.getElem_mem hjl)
          have hwj := w64 ((j : Int) + 1) (by omega) (by omega)
          have hput := ofJ_succ L i j li hg hjl
          generalize hyy : li[j] = y at *
          refine T.skip ?_
          simp
          refine T.seq (T.block (T.seq (T.go' tabOk ?_)))
          simp [hC, ints, natI, hjl, hyy]
          refine T.go' tabOk ?_
          simp [hC, hy, Nat.succ_le_of_lt hy]
          refine T.go' tabOk ?_
          simp [hC, hwj]
          refine ⟨_, ?_, upTo.le (Le.env [35, 34, 33, 7, 28, 27, 26, 6, 5, 0, 1]) (upTo.here ⟨j + 1, rfl, hjl, ?_⟩)⟩
          · omega
          · simp [intss]
            rw [← hput]
            exact vecI_put k _ y i hy
        · have hjl : j = li.length := by simp at h; omega
          refine T.exit ?_
          simp
          refine T.go' tabOk ?_
          simp [hC, hwi]
          refine ⟨_, ?_, upTo.le (Le.env [28, 27, 26, 6, 5, 0, 1]) (upTo.here ⟨i + 1, rfl, hip, ?_⟩)⟩
          · omega
          · simp [intss, hjl, ofJ_full L i li.length (by rw [hg])]
    · have hip : i = L.length := by simp at h; omega
      subst hip
      refine T.exit ?_
      rw [vecI_congr k _ (fun x => (cof L x : Int)) fun x hx => (cof_facts hD x hx).2]
      have hJl : ∀ y, y < k → levN k ps y = jac (cof L) (edgesOf k ps) L.length (cof L y) := (levN_least k ps hk64).eq (jac_Least k hk64 ps hD hLe)
      have hcl : ∀ x, x < k → cof L x < L.length := fun x hx => (cof_facts hD x hx).1
      have hjb : ∀ r y, y < k → jac (cof L) (edgesOf k ps) r (cof L y) + 1 ≤ 64 := fun r y hy => Nat.le_trans (jac_bound k hk64 ps hD hLe r y hy) hLl
      have h43 := c43_ok k ps hl
      have hes := edges_two k ps
      have hel : (edgesOf k ps).length ≤ ps.length := List.length_filter_le _ _
      clear hD hL hLe hLn
      have hcn : (L.map natI).length = L.length := by simp
      generalize edgesOf k ps = es at *
      generalize cof L = F at *
      generalize L.map natI = Ln at *
      generalize L.length = c at *
      simp
      refine T.le (Le.env [6, 5, 0, 1]) ?_
      simp
      have b3 : (8 : Int) * (c : Int) ≤ 281474976710656 := by omega
      have b4 : (c : Int) ≤ 9223372036854775807 := by omega
      refine T.seq (T.go' tabOk ?_)
      simp [hC, intss, hcn, b3, b4]
      refine T.seq (T.go' tabOk ?_)
      simp [hC, b3, b4]
      refine T.seq (T.seq (T.go' tabOk ?_))
      simp [hC]
      refine T.block ?_
      refine T.loopLe (fun m s => ∃ r : Nat, m = c - r ∧ r ≤ c ∧ s = ⟨[(53, .int .i64 r), (52, .int .i64 c), (12, .osl 2 0 c), (11, .osl 1 0 c), (6, .osl 0 0 k), (0, .int .i64 k), (1, intss ps)], [(2, ⟨3, 1, vecI c fun x => (jac F es r x : Int)⟩), (1, ⟨3, 1, vecI c fun x => (jac F es r x : Int)⟩), (0, ⟨3, 1, vecI k fun x => (F x : Int)⟩)], 3⟩) (n := c) ?_ ?_
      · refine upTo.le (Le.env [53, 52, 12, 11, 6, 0, 1]) (upTo.here ⟨0, rfl, Nat.zero_le _, ?_⟩)
        simp [intss, jac, vecI_rep]
      · rintro m s ⟨r, rfl, hr, rfl⟩
        refine T.seq (T.go' tabOk ?_)
        simp [hC]
        refine T.seq (T.cond_if rfl (fun h => ?_) (fun h => ?_))
        · have hrc : r < c := by simpa using h
          have hwr := w64 ((r : Int) + 1) (by omega) (by omega)
          refine T.skip ?_
          simp
          refine T.le (Le.env [53, 52, 12, 11, 6, 0, 1]) ?_
          simp
          refine T.seq (T.block (T.seq (T.go' tabOk ?_)))
          have hc0 : 0 < c := by omega
          simp [hC, take_vec, drop_vec, hc0]
          refine T.seq (T.seq (T.go' tabOk ?_))
          simp [hC]
          refine TL.call (by simp [hC]) rfl rfl (CallQ.of rfl rfl h43) (TL.go' tabOk ?_)
          simp [hC, intss]
          have hlb := hjb r
          have hjs : jac F es (r + 1) = es.foldl (stepE F (jac F es r)) (jac F es r) := rfl
          generalize jac F es r = lv at *
          refine T.block ?_
          refine T.loopLe (fun m s => ∃ q : Nat, m = es.length - q ∧ q ≤ es.length ∧ s = ⟨[(62, .int .i64 q), (61, .int .i64 es.length), (60, intss es), (53, .int .i64 r), (52, .int .i64 c), (12, .osl 2 0 c), (11, .osl 1 0 c), (6, .osl 0 0 k), (0, .int .i64 k), (1, intss ps)], [(2, ⟨3, 1, vecI c fun x => ((es.take q).foldl (stepE F lv) lv x : Int)⟩), (1, ⟨3, 1, vecI c fun x => (lv x : Int)⟩), (0, ⟨3, 1, vecI k fun x => (F x : Int)⟩)], 3⟩) (n := es.length) ?_ ?_
          · refine upTo.le (Le.env [62, 61, 60, 53, 52, 12, 11, 6, 0, 1]) (upTo.here ⟨0, rfl, Nat.zero_le _, ?_⟩)
            simp [intss]
          · rintro m s ⟨q, rfl, hq, rfl⟩
            refine T.seq (T.go' tabOk ?_)
            simp [hC]
            refine T.seq (T.cond_if rfl (fun h => ?_) (fun h => ?_))
            · have hql : q < es.length := by simpa using h
              have hwq := w64 ((q : Int) + 1) (by omega) (by omega)
              have eq : es[q]? = some es[q] := List.getElem?_eq_getElem hql
              obtain ⟨a, b, hab, ha, hb, _⟩ := hes _ (List.getElem_mem hql)
              have hfs := foldE_succ F lv lv es q hql
              generalize hp : es[q] = p at *
              subst hab
              generalize (es.take q).foldl (stepE F lv) lv = nx at *
              refine T.skip ?_
              simp
              refine T.le (Le.env [62, 61, 60, 53, 52, 12, 11, 6, 0, 1]) ?_
              simp
              refine T.seq (T.block (T.seq (T.go' tabOk ?_)))
              simp [hC, intss, hql, hp]
              refine T.seq (T.draw' tabOk follows [] [0, 1, 2, 3, 4, 5, 6, 7, 8, 9, 10, 11, 12, 13] [] (by kernel_rfl) ?_)
              simp [hC, ints, ha, hb]
              refine T.seq (T.go' tabOk ?_)
              simp [hC]
              refine T.le (Le.env [80, 16, 15, 62, 61, 60, 53, 52, 12, 11, 6, 0, 1]) ?_
              simp
              have hFa := hcl a ha
              have hFb := hcl b hb
              have hla := hlb a ha
              have hwl := w64 ((lv (F a) : Int) + 1) (by omega) (by omega)
              by_cases hne : F a = F b
              · have : stepE F lv nx [(a : Int), (b : Int)] = nx := by simp [stepE, hne]
                rw [this] at hfs
                refine T.cond_false (by simp [hne]) ?_
                refine T.skip ?_
                simp
                refine T.go' tabOk ?_
                simp [hC, hwq]
                refine ⟨_, ?_, upTo.le (Le.env [62, 61, 60, 53, 52, 12, 11, 6, 0, 1]) (upTo.here ⟨q + 1, rfl, hql, ?_⟩)⟩
                · omega
                · simp [hfs]
              · have hst : stepE F lv nx [(a : Int), (b : Int)] = fun x => if x = F b then max (nx (F b)) (lv (F a) + 1) else nx x := by
                  funext x
                  simp only [stepE, List.getD_cons_zero, List.getD_cons_succ, Int.toNat_natCast, if_neg hne]
                  split
                  · rename_i hx; rw [hx]
                  · rfl
                rw [hst] at hfs
                have hne' : ((F a : Int) != (F b : Int)) = true := by simp; omega
                refine T.cond_true (by simp [hne']) ?_
                refine T.draw' tabOk follows [] [0, 1, 2, 3, 4, 5, 6, 7, 8, 9, 10, 11, 12] [13] (by kernel_rfl) ?_
                have hmax : (if (nx (F b) : Int) < (lv (F a) : Int) + 1 then (lv (F a) : Int) + 1 else (nx (F b) : Int)) = ((max (nx (F b)) (lv (F a) + 1) : Nat) : Int) := by split <;> omega
                simp [hC, hFa, hFb, hwl, Nat.succ_le_of_lt hFb]
                refine T.go' tabOk ?_
                simp [hC, hwq]
                refine ⟨_, ?_, upTo.le (Le.env [62, 61, 60, 53, 52, 12, 11, 6, 0, 1]) (upTo.here ⟨q + 1, rfl, hql, ?_⟩)⟩
                · omega
                · simp [hfs]
                  rw [hmax]
                  refine (vecI_put c (fun x => (nx x : Int)) (F b) _ hFb).trans (vecI_congr _ _ _ fun x _ => ?_)
                  unfold upd1
                  dsimp only
                  split <;> rfl
            · have hql : q = es.length := by simp at h; omega
              subst hql
              refine T.exit ?_
              rw [List.take_length, ← hjs]
              simp
              refine T.go' tabOk ?_
              simp [hC, take_vec, drop_vec, hc0]
              refine T.go' tabOk ?_
              simp [hC, hwr]
              refine ⟨_, ?_, upTo.le (Le.env [53, 52, 12, 11, 6, 0, 1]) (upTo.here ⟨r + 1, rfl, hrc, ?_⟩)⟩
              · omega
              · simp [intss]
        · have hrc : r = c := by simp at h; omega
          subst hrc
          refine T.exit ?_
          simp
          refine T.le (Le.env [11, 6, 0]) ?_
          simp
          have hlb := hjb r
          generalize jac F es r = lv at *
          refine T.seq (T.go' tabOk ?_)
          simp [hC, b1, b2]
          refine T.seq (T.seq (T.go' tabOk ?_))
          simp [hC]
          refine T.block ?_
          refine T.loopLe (fun m s => ∃ x : Nat, m = k - x ∧ x ≤ k ∧ s = ⟨[(103, .int .i64 x), (102, .int .i64 k), (17, .osl 3 0 k), (11, .osl 1 0 r), (6, .osl 0 0 k)], [(3, ⟨3, 1, vecI k fun y => if y < x then (lv (F y) : Int) else 0⟩), (1, ⟨3, 1, vecI r fun x => (lv x : Int)⟩), (0, ⟨3, 1, vecI k fun x => (F x : Int)⟩)], 4⟩) (n := k) ?_ ?_
          · refine upTo.trim [103, 102, 17, 11, 6] [3, 1, 0] 4 (by simp) ⟨0, rfl, Nat.zero_le _, ?_⟩
            simp [vecI_rep]
          · rintro m s ⟨x, rfl, hx, rfl⟩
            refine T.seq (T.go' tabOk ?_)
            simp [hC]
            refine T.seq (T.cond_if rfl (fun h => ?_) (fun h => ?_))
            · have hxk : x < k := by simpa using h
              have hwx := w64 ((x : Int) + 1) (by omega) (by omega)
              have hFx := hcl x hxk
              refine T.skip ?_
              simp
              refine T.le (Le.env [103, 102, 17, 11, 6]) ?_
              simp
              refine T.seq (T.block (T.seq (T.go' tabOk ?_)))
              simp [hC]
              refine T.go' tabOk ?_
              simp [hC, hxk, hFx, Nat.succ_le_of_lt hxk]
              refine T.go' tabOk ?_
              simp [hC, hwx]
              refine ⟨_, ?_, upTo.le (Le.env [103, 102, 17, 11, 6]) (upTo.here ⟨x + 1, rfl, hxk, ?_⟩)⟩
              · omega
              · simp
                refine (vecI_put k _ x _ hxk).trans (vecI_congr _ _ _ fun y _ => ?_)
                unfold upd1
                dsimp only
                by_cases hyx : y = x
                · rw [if_pos hyx, if_pos (by omega), hyx]
                · rw [if_neg hyx]
                  have : (y < x + 1) ↔ (y < x) := by omega
                  simp [this]
            · have hxk : x = k := by simp at h; omega
              subst hxk
              refine T.exit ?_
              simp
              refine T.le (Le.env [17]) ?_
              simp
              have hend : (vecI x fun y => if y < x then (lv (F y) : Int) else 0) = (natI ((List.range x).map (levN x ps))).map I64 := by
                rw [vecI_congr x _ (fun y => (levN x ps y : Int)) fun y hy => by rw [if_pos hy, hJl y hy]]
                simp [vecI, vec, natI, Function.comp_def]
              rw [hend]
              have hnl : (natI ((List.range x).map (levN x ps))).length = x := by simp
              generalize natI ((List.range x).map (levN x ps)) = X at *
              refine T.seq (T.go' tabOk ?_)
              simp [hC]
              refine T.ret ?_
              refine upTo.le (Le.frz (o := 3) (ob := ⟨3, 1, X.map I64⟩) (by simp) (by simp)) (upTo.here ?_)
              simp [Try.results31, List.take_of_length_le, ints, hnl]
end Go.Proofs.Ytgiphneejidahaa
