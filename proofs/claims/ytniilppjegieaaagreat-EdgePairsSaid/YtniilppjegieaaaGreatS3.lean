/- The sort of pairs: siftDown. -/
import Derived.Test.YtniilppjegieaaaGreatS1
namespace Go.Proofs.YtniilppjegieaaaGreat
open Go.Can
attribute [-simp] cput

def I90 (d : Array Pr) (lo hi first root m : Nat) (s : St) : Prop := ∃ (r : Nat) (x : Array Pr), m = hi - r ∧ r ≤ d.size ∧ x.size = d.size ∧ Sort.siftDown ltP hi first r x = Sort.siftDown ltP hi first root d ∧ s = ⟨[(10, .int .i64 r), (0, .osl 0 0 d.size), (1, .int .i64 lo), (2, .int .i64 hi), (3, .int .i64 first), (4, .fn 16 [])], H0 x, 1⟩
def J90 (bb : Bool) (t c r lo hi first z : Nat) (x : Array Pr) : St → Prop := fun s => s = ⟨[(t, .bool bb), (11, .int .i64 c), (10, .int .i64 r), (0, .osl 0 0 z), (1, .int .i64 lo), (2, .int .i64 hi), (3, .int .i64 first), (4, .fn 16 [])], H0 x, 1⟩
def K90 (c r lo hi first z : Nat) (x : Array Pr) : St → Prop := fun s => s = ⟨[(11, .int .i64 c), (10, .int .i64 r), (0, .osl 0 0 z), (1, .int .i64 lo), (2, .int .i64 hi), (3, .int .i64 first), (4, .fn 16 [])], H0 x, 1⟩

set_option maxHeartbeats 8000000 in
set_option maxRecDepth 10000 in
theorem s90 (d : Array Pr) (lo hi first root : Nat) (hr : root ≤ d.size) (hb : first + hi ≤ d.size) (hs : d.size ≤ 1000000) :
    Body Tryz.prog tab 90 [.osl 0 0 d.size, .int .i64 root, .int .i64 hi, .int .i64 first, .fn 16 []] (H0 d) 1 fun r s => r = .tup [] ∧ s.heap = H0 (Sort.siftDown ltP hi first root d) ∧ s.nx = 1 := by
  refine Body.of_T Tryz.func90 rfl (by kernel_rfl) (by simp [Tryz.ntmps90]) fun C hC hC0 => ?_
  rw [Tryz.ntmps90] at hC
  refine T.seq (T.go' tabOk ?_)
  simp [hC]
  refine T.block ?_
  refine T.loopLe (I90 d root hi first root) (n := hi - root) ?_ ?_
  · refine upTo.trim [10, 0, 1, 2, 3, 4] [0] 1 (by simp [H0, obP]) (by omega) ⟨root, d, rfl, hr, rfl, rfl, ?_⟩
    simp [H0]
  · rintro n s ⟨r, x, rfl, hrz, hx, ho, rfl⟩
    obtain ⟨p, hp⟩ : ∃ p, p = 2 * r := ⟨_, rfl⟩
    obtain ⟨c, hc⟩ : ∃ c, c = p + 1 := ⟨_, rfl⟩
    have hpI : 2 * (r : Int) = (p : Int) := by omega
    have hcI : (p : Int) + 1 = (c : Int) := by omega
    have wp := w64 (p : Int) (by omega) (by omega)
    have wc := w64 (c : Int) (by omega) (by omega)
    refine T.block (T.seq (T.go' tabOk ?_))
    simp [hC, hpI, hcI, wp, wc]
    refine T.seq (T.seq (T.go' tabOk ?_))
    simp [hC]
    refine T.cond_if rfl (fun h => ?_) (fun h => ?_)
    · have hch : hi ≤ c := by simpa using h
      refine T.exit ?_
      simp
      refine upTo.here ⟨.tup [], ?_, ?_⟩
      · simp [Tryz.results90]
      · rw [← ho]
        unfold Sort.siftDown
        rw [dif_pos (by omega)]
        exact ⟨rfl, rfl, rfl⟩
    · have hch : c < hi := by simpa using h
      refine T.skip ?_
      simp
      obtain ⟨c1, hc1⟩ : ∃ c1, c1 = c + 1 := ⟨_, rfl⟩
      obtain ⟨fc, hfc⟩ : ∃ fc, fc = first + c := ⟨_, rfl⟩
      obtain ⟨fc1, hfc1⟩ : ∃ fc1, fc1 = fc + 1 := ⟨_, rfl⟩
      have hc1I : (c : Int) + 1 = (c1 : Int) := by omega
      have hfcI : (first : Int) + (c : Int) = (fc : Int) := by omega
      have hfc1I : (fc : Int) + 1 = (fc1 : Int) := by omega
      have wc1 := w64 (c1 : Int) (by omega) (by omega)
      have wfc := w64 (fc : Int) (by omega) (by omega)
      have wfc1 := w64 (fc1 : Int) (by omega) (by omega)
      have hfcx : fc < x.size := by omega
      have hfcz : fc < d.size := by omega
      obtain ⟨e, he⟩ : ∃ e, e = if (decide (c1 < hi) && ltP x[fc]! x[fc1]!) = true then c1 else c := ⟨_, rfl⟩
      have hei : e < hi := by
        rw [he]
        split
        · rename_i h2
          have : c1 < hi := by
            have := (Bool.and_eq_true_iff.1 h2).1
            simpa using this
          exact this
        · exact hch
      have her : r < e := by rw [he]; split <;> omega
      have step : Sort.siftDown ltP hi first r x = if ltP x[first + r]! x[first + e]! = true then Sort.siftDown ltP hi first e (Sort.swp x (first + r) (first + e)) else x := by
        conv => lhs; unfold Sort.siftDown
        rw [dif_neg (by omega)]
        have q1 : 2 * r + 1 + 1 = c1 := by omega
        have q2 : first + (2 * r + 1) = fc := by omega
        have q3 : first + (2 * r + 1) + 1 = fc1 := by omega
        rw [q1, q2]
        by_cases h2 : (decide (c1 < hi) && ltP x[fc]! x[fc1]!) = true
        · rw [if_pos h2] at he
          rw [if_pos (by rw [hfc1] at h2; exact h2), dif_pos (by omega : c1 < hi), he]
          cases ltP x[first + r]! x[first + c1]! <;> rfl
        · rw [if_neg h2] at he
          have q4 : 2 * r + 1 = e := by omega
          rw [if_neg (by rw [hfc1] at h2; exact h2), q4]
          have q5 : fc = first + e := by omega
          rw [q5]
          cases ltP x[first + r]! x[first + e]! <;> rfl
      refine T.cut (K90 e r root hi first d.size x) ?_ ?_
      · refine T.cut (J90 (decide (c1 < hi) && ltP x[fc]! x[fc1]!) 40 c r root hi first d.size x) ?_ ?_
        · refine T.traceP tabOk follows [0, 1, 2, 3, 4, 5, 6, 7, 8, 9, 10, 11, 12, 13, 14, 15, 16, 17, 18, 19, 20, 21] pcS_ok (by kernel_rfl) ?_
          by_cases hcc : c1 < hi
          · have hfc1x : fc1 < x.size := by omega
            have hfc1z : fc1 < d.size := by omega
            simp [hC, hcc, H0, obP, ob_drop, hc1I, hfcI, hfc1I, wc1, wfc, wfc1, hfcx, hfcz, hfc1x, hfc1z]
            refine upTo.trim [40, 11, 10, 0, 1, 2, 3, 4] [0] 1 (by simp) (by omega) ?_
            simp [J90, H0, obP]
          · simp [hC, hcc, H0, obP, hc1I, wc1]
            refine upTo.trim [40, 11, 10, 0, 1, 2, 3, 4] [0] 1 (by simp) (by omega) ?_
            simp [J90, H0, obP]
        · rintro s rfl
          refine T.cond_if rfl (fun h2 => ?_) (fun h2 => ?_)
          · rw [if_pos (by simpa using h2)] at he
            refine T.go' tabOk ?_
            simp [hC, hc1I, wc1]
            refine upTo.trim [11, 10, 0, 1, 2, 3, 4] [0] 1 (by simp [H0, obP]) (by omega) ?_
            simp [K90, he, H0]
          · rw [if_neg (by simpa using h2)] at he
            refine T.skip ?_
            simp
            refine upTo.trim [11, 10, 0, 1, 2, 3, 4] [0] 1 (by simp [H0, obP]) (by omega) ?_
            simp [K90, he, H0]
      · rintro s rfl
        clear he
        obtain ⟨fr, hfr⟩ : ∃ fr, fr = first + r := ⟨_, rfl⟩
        obtain ⟨fe, hfe⟩ : ∃ fe, fe = first + e := ⟨_, rfl⟩
        have hfrI : (first : Int) + (r : Int) = (fr : Int) := by omega
        have hfeI : (first : Int) + (e : Int) = (fe : Int) := by omega
        have wfr := w64 (fr : Int) (by omega) (by omega)
        have wfe := w64 (fe : Int) (by omega) (by omega)
        have hfrx : fr < x.size := by omega
        have hfrz : fr < d.size := by omega
        have hfex : fe < x.size := by omega
        have hfez : fe < d.size := by omega
        have hfr1 : fr + 1 ≤ x.size := by omega
        have hfe1 : fe + 1 ≤ x.size := by omega
        rw [← hfr, ← hfe] at step
        refine T.seq (T.cut (J90 (!ltP x[fr]! x[fe]!) 58 e r root hi first d.size x) ?_ ?_)
        · refine T.traceP tabOk follows [0, 1, 2, 3, 4, 5, 6, 7, 8, 9, 10, 11, 12, 13, 14, 15] pcS_ok (by kernel_rfl) ?_
          simp [hC, H0, obP, ob_drop, hfrI, hfeI, wfr, wfe, hfrx, hfrz, hfex, hfez]
          refine upTo.trim [58, 11, 10, 0, 1, 2, 3, 4] [0] 1 (by simp) (by omega) ?_
          simp [J90, H0, obP]
        · rintro s rfl
          refine T.cond_if rfl (fun h3 => ?_) (fun h3 => ?_)
          · refine T.ret ?_
            refine upTo.here ⟨.tup [], ?_, ?_⟩
            · simp [Tryz.results90]
            · rw [← ho, step, if_neg (by simpa using h3)]
              exact ⟨rfl, rfl, rfl⟩
          · refine T.skip ?_
            simp
            refine T.seq ?_
            refine T.traceP tabOk follows [0, 1, 2, 3, 4, 5, 6, 7, 8, 9, 10, 11, 12, 13, 14, 15, 16, 17, 18, 19, 20, 21, 22, 23] pcS_ok (by kernel_rfl) ?_
            simp [hC, H0, obP, ob_drop, hfrI, hfeI, wfr, wfe, hfrx, hfrz, hfex, hfez, hfr1, hfe1]
            refine T.go' tabOk ?_
            simp [hC]
            have hsw := ob_swp x fr fe hfrx hfex
            simp [hfrx, hfex] at hsw
            refine ⟨hi - e, by omega, upTo.trim [10, 0, 1, 2, 3, 4] [0] 1 (by simp [hsw]) (by omega) ⟨e, Sort.swp x fr fe, rfl, by omega, by simp [hx], ?_, ?_⟩⟩
            · rw [← ho, step, if_pos (by simpa using h3)]
            · simp [H0, obP, hsw]
end Go.Proofs.YtniilppjegieaaaGreat

/- The sort of pairs: heapSort. -/
namespace Go.Proofs.YtniilppjegieaaaGreat
open Go.Can
attribute [-simp] cput

theorem siftDown_size (hi first : Nat) : ∀ (n root : Nat) (d : Array Pr), hi - root ≤ n → (Sort.siftDown ltP hi first root d).size = d.size := by
  intro n
  induction n with
  | zero =>
    intro root d h
    unfold Sort.siftDown
    rw [dif_pos (by omega)]
  | succ n ih =>
    intro root d h
    unfold Sort.siftDown
    split
    · rfl
    · split
      · split
        · rfl
        · split
          · rw [ih _ _ (by omega)]; simp
          · rfl
      · split
        · rfl
        · rw [ih _ _ (by omega)]; simp
@[simp] theorem siftDown_sz (hi first root : Nat) (d : Array Pr) : (Sort.siftDown ltP hi first root d).size = d.size := siftDown_size hi first _ root d (Nat.le_refl _)
theorem heapBuild_size (hi first : Nat) : ∀ (k : Nat) (d : Array Pr), (Sort.heapBuild ltP hi first k d).size = d.size
  | 0, _ => rfl
  | k + 1, d => by unfold Sort.heapBuild; rw [heapBuild_size hi first k]; simp

theorem s90' (d : Array Pr) (z root hi first : Nat) (hz : d.size = z) (hr : root ≤ d.size) (hb : first + hi ≤ d.size) (hs : d.size ≤ 1000000) :
    Body Tryz.prog tab 90 [.osl 0 0 z, .int .i64 root, .int .i64 hi, .int .i64 first, .fn 16 []] (H0 d) 1 fun r s => r = .tup [] ∧ s.heap = H0 (Sort.siftDown ltP hi first root d) ∧ s.nx = 1 := by
  subst hz
  exact s90 d 0 hi first root hr hb hs

/-- k rounds are left. -/
def I56 (d : Array Pr) (a b h m : Nat) (s : St) : Prop := ∃ (k : Nat) (x : Array Pr), m = k ∧ k ≤ d.size ∧ x.size = d.size ∧ Sort.heapPop ltP a h (Sort.heapBuild ltP h a k x) = Sort.heapSort ltP d a b ∧ s = ⟨[(11, .int .i64 ((k : Int) - 1)), (10, .int .i64 h), (9, .int .i64 0), (8, .int .i64 a), (0, .osl 0 0 d.size), (1, .int .i64 a), (2, .int .i64 b), (3, .fn 16 [])], H0 x, 1⟩
def I56' (d : Array Pr) (a b h m : Nat) (s : St) : Prop := ∃ (k : Nat) (x : Array Pr), m = k ∧ k ≤ h ∧ x.size = d.size ∧ Sort.heapPop ltP a k x = Sort.heapSort ltP d a b ∧ s = ⟨[(12, .int .i64 ((k : Int) - 1)), (10, .int .i64 h), (9, .int .i64 0), (8, .int .i64 a), (0, .osl 0 0 d.size), (1, .int .i64 a), (2, .int .i64 b), (3, .fn 16 [])], H0 x, 1⟩

set_option maxHeartbeats 8000000 in
set_option maxRecDepth 10000 in
theorem s56 (d : Array Pr) (a b : Nat) (hab : a < b) (hb : b ≤ d.size) (hs : d.size ≤ 1000000) :
    Body Tryz.prog tab 56 [.osl 0 0 d.size, .int .i64 a, .int .i64 b, .fn 16 []] (H0 d) 1 fun r s => r = .tup [] ∧ s.heap = H0 (Sort.heapSort ltP d a b) ∧ s.nx = 1 := by
  refine Body.of_T Tryz.func56 rfl (by kernel_rfl) (by simp [Tryz.ntmps56]) fun C hC hC0 => ?_
  rw [Tryz.ntmps56] at hC
  obtain ⟨h, hh⟩ : ∃ h, h = b - a := ⟨_, rfl⟩
  obtain ⟨k, hk⟩ : ∃ k, k = (h - 1) / 2 + 1 := ⟨_, rfl⟩
  have hI : (b : Int) - (a : Int) = (h : Int) := by omega
  have wh := w64 (h : Int) (by omega) (by omega)
  obtain ⟨g, hg⟩ : ∃ g, h = g + 1 := ⟨h - 1, by omega⟩
  have hgI : (h : Int) - 1 = (g : Int) := by omega
  have wg := w64 (g : Int) (by omega) (by omega)
  have hdiv : (g : Int).tdiv 2 = (k : Int) - 1 := by
    rw [Int.tdiv_eq_ediv_of_nonneg (by omega)]
    omega
  have wk := w64 ((k : Int) - 1) (by omega) (by omega)
  refine T.seq (T.go' tabOk ?_)
  simp [hC]
  refine T.seq (T.go' tabOk ?_)
  simp [hC]
  refine T.seq (T.go' tabOk ?_)
  simp [hC, hI, wh]
  refine T.seq (T.seq (T.go' tabOk ?_))
  simp [hC, hgI, wg, hdiv, wk]
  refine T.block ?_
  refine T.loopLe (I56 d a b h) (n := k) ?_ ?_
  · refine upTo.trim [11, 10, 9, 8, 0, 1, 2, 3] [0] 1 (by simp [H0, obP]) (by omega) ⟨k, d, rfl, by omega, rfl, ?_, ?_⟩
    · unfold Sort.heapSort
      rw [← hh, ← hk]
    · simp [H0]
  · rintro n s ⟨k, x, rfl, hk, hx, ho, rfl⟩
    refine T.seq (T.seq (T.go' tabOk ?_))
    simp [hC]
    refine T.cond_if rfl (fun h1 => ?_) (fun h1 => ?_)
    · have hk0 : 1 ≤ n := by
        have : (1 : Int) ≤ n := by simpa using h1
        omega
      obtain ⟨j, rfl⟩ : ∃ j, n = j + 1 := ⟨n - 1, by omega⟩
      have hj : ((j + 1 : Nat) : Int) - 1 = (j : Int) := by omega
      have hj' : (j : Int) + 1 - 1 = (j : Int) := by omega
      have wj := w64 ((j : Int) - 1) (by omega) (by omega)
      refine T.skip ?_
      simp
      refine T.seq (T.block ?_)
      refine T.go' tabOk ?_
      simp [hC, hj']
      refine TL.callB tabOk (by simp [hC]) rfl rfl rfl (s90' x d.size j h a hx (by omega) (by omega) (by omega)) ?_
      rintro r s1 ⟨rfl, h2, h3⟩
      simp [h2, h3, hC]
      refine TL.go' tabOk ?_
      simp [hC]
      refine T.go' tabOk ?_
      simp [hC, wj]
      refine ⟨j, by omega, upTo.trim [11, 10, 9, 8, 0, 1, 2, 3] [0] 1 (by simp [H0, obP]) (by omega) ⟨j, Sort.siftDown ltP h a j x, rfl, by omega, by simp [hx], ?_, ?_⟩⟩
      · rw [← ho]
        rfl
      · simp [H0]
    · have hk0 : n = 0 := by
        have : ¬ (1 : Int) ≤ n := by simpa using h1
        omega
      subst hk0
      refine T.exit ?_
      simp
      refine T.seq (T.go' tabOk ?_)
      simp [hC, hgI, wg]
      refine T.block ?_
      refine T.loopLe (I56' d a b h) (n := h) ?_ ?_
      · refine upTo.trim [12, 10, 9, 8, 0, 1, 2, 3] [0] 1 (by simp [H0, obP]) (by omega) ⟨h, x, rfl, Nat.le_refl _, hx, ho, ?_⟩
        simp [H0, hgI]
      · clear h1 hk ho hx x
        rintro n s ⟨k, x, rfl, hk, hx, ho, rfl⟩
        refine T.seq (T.seq (T.go' tabOk ?_))
        simp [hC]
        refine T.cond_if rfl (fun h1 => ?_) (fun h1 => ?_)
        · have hk0 : 1 ≤ n := by
            have : (1 : Int) ≤ n := by simpa using h1
            omega
          obtain ⟨j, rfl⟩ : ∃ j, n = j + 1 := ⟨n - 1, by omega⟩
          have wj := w64 ((j : Int) - 1) (by omega) (by omega)
          have hj' : (j : Int) + 1 - 1 = (j : Int) := by omega
          obtain ⟨aj, haj⟩ : ∃ aj, aj = a + j := ⟨_, rfl⟩
          have hajI : (a : Int) + (j : Int) = (aj : Int) := by omega
          have waj := w64 (aj : Int) (by omega) (by omega)
          have hax : a < x.size := by omega
          have haz : a < d.size := by omega
          have hjx : aj < x.size := by omega
          have hjz : aj < d.size := by omega
          have ha1 : a + 1 ≤ x.size := by omega
          have hj1 : aj + 1 ≤ x.size := by omega
          refine T.skip ?_
          simp
          refine T.seq (T.block (T.seq ?_))
          refine T.traceP tabOk follows [0, 1, 2, 3, 4, 5, 6, 7, 8, 9, 10, 11, 12, 13, 14, 15, 16, 17, 18, 19] pcS_ok (by kernel_rfl) ?_
          simp [hC, H0, obP, ob_drop, hajI, waj, hax, haz, hjx, hjz, ha1, hj1, hj']
          have hsw := ob_swp x a aj hax hjx
          simp [hax, hjx] at hsw
          refine T.le (Le.trim [12, 10, 9, 8, 0, 1, 2, 3] [0] 1 (by simp [hsw]) (by omega)) ?_
          simp [hsw]
          refine T.go' tabOk ?_
          simp [hC]
          refine TL.callB tabOk (by simp [hC]) rfl rfl rfl (s90' (Sort.swp x a aj) d.size 0 j a (by simp [hx]) (by omega) (by simp; omega) (by simp; omega)) ?_
          rintro r s1 ⟨rfl, h2, h3⟩
          simp [h2, h3, hC]
          refine TL.go' tabOk ?_
          simp [hC]
          refine T.go' tabOk ?_
          simp [hC, wj]
          refine ⟨j, by omega, upTo.trim [12, 10, 9, 8, 0, 1, 2, 3] [0] 1 (by simp [H0, obP]) (by omega) ⟨j, Sort.siftDown ltP j a 0 (Sort.swp x a aj), rfl, by omega, by simp [hx], ?_, ?_⟩⟩
          · rw [← ho, haj]
            rfl
          · simp [H0]
        · have hk0 : n = 0 := by
            have : ¬ (1 : Int) ≤ n := by simpa using h1
            omega
          subst hk0
          refine T.exit ?_
          simp
          refine upTo.here ⟨.tup [], ?_, ?_⟩
          · simp [Tryz.results56]
          · rw [← ho]
            exact ⟨rfl, rfl, rfl⟩
end Go.Proofs.YtniilppjegieaaaGreat
