/- The sort of pairs: order2, median, medianAdjacent, choosePivot. -/
import Derived.Test.YtniilppjegieaaaGreatS3
namespace Go.Proofs.YtniilppjegieaaaGreat
open Go.Can
attribute [-simp] cput

def H1 (d : Array Pr) (s : Nat) : List (Nat × Ob) := [(1, ⟨3, 0, [.int .i64 s]⟩), (0, obP d)]
def J130 (bb : Bool) (a b s z : Nat) (d : Array Pr) : St → Prop := fun st => st = ⟨[(22, .bool bb), (0, .osl 0 0 z), (1, .int .i64 a), (2, .int .i64 b), (3, .optr 1 0), (4, .fn 16 [])], H1 d s, 2⟩

set_option maxHeartbeats 8000000 in
set_option maxRecDepth 10000 in
theorem s130 (d : Array Pr) (a b s : Nat) (ha : a < d.size) (hb : b < d.size) (hss : s ≤ 1000) (hs : d.size ≤ 1000000) :
    Body Tryz.prog tab 130 [.osl 0 0 d.size, .int .i64 a, .int .i64 b, .optr 1 0, .fn 16 []] (H1 d s) 2 fun r st => r = .tup [.int .i64 (Sort.order2 ltP d a b s).1, .int .i64 (Sort.order2 ltP d a b s).2.1] ∧ st.heap = H1 d (Sort.order2 ltP d a b s).2.2 ∧ st.nx = 2 := by
  refine Body.of_T Tryz.func130 rfl (by kernel_rfl) (by simp [Tryz.ntmps130]) fun C hC hC0 => ?_
  rw [Tryz.ntmps130] at hC
  refine T.seq (T.go' tabOk ?_)
  simp [hC]
  have ha1 : a + 1 ≤ d.size := by omega
  have hb1 : b + 1 ≤ d.size := by omega
  have ws := w64 ((s : Int) + 1) (by omega) (by omega)
  refine T.seq (T.cut (J130 (ltP d[b]! d[a]!) a b s d.size d) ?_ ?_)
  · refine T.traceP tabOk follows [0, 1, 2, 3, 4, 5, 6, 7, 8, 9, 10] pcS_ok (by kernel_rfl) ?_
    simp [hC, H1, obP, ob_drop, ha, hb]
    refine upTo.trim [22, 0, 1, 2, 3, 4] [1, 0] 2 (by simp) (by omega) ?_
    simp [J130, H1, obP]
  · rintro st rfl
    refine T.cond_if rfl (fun h => ?_) (fun h => ?_)
    · have e : Sort.order2 ltP d a b s = (b, a, s + 1) := by unfold Sort.order2; rw [if_pos (by simpa using h)]
      rw [e]
      refine T.seq (T.go' tabOk ?_)
      simp [hC, H1, ws]
      refine T.seq (T.go' tabOk ?_)
      simp [hC]
      refine T.ret ?_
      refine upTo.here ⟨_, by simp [Tryz.results130]; rfl, ?_⟩
      simp
    · have e : Sort.order2 ltP d a b s = (a, b, s) := by unfold Sort.order2; rw [if_neg (by simpa using h)]
      rw [e]
      refine T.skip ?_
      simp
      refine T.seq (T.go' tabOk ?_)
      simp [hC]
      refine T.ret ?_
      refine upTo.here ⟨_, by simp [Tryz.results130]; rfl, ?_⟩
      simp

theorem order2_lt {d : Array Pr} {a b s z : Nat} (ha : a < z) (hb : b < z) : (Sort.order2 ltP d a b s).1 < z ∧ (Sort.order2 ltP d a b s).2.1 < z ∧ (Sort.order2 ltP d a b s).2.2 ≤ s + 1 := by
  unfold Sort.order2
  split
  · exact ⟨hb, ha, Nat.le_refl _⟩
  · exact ⟨ha, hb, Nat.le_succ _⟩

set_option maxHeartbeats 8000000 in
set_option maxRecDepth 10000 in
theorem s94 (d : Array Pr) (a b c s : Nat) (ha : a < d.size) (hb : b < d.size) (hc : c < d.size) (hss : s ≤ 900) (hs : d.size ≤ 1000000) :
    Body Tryz.prog tab 94 [.osl 0 0 d.size, .int .i64 a, .int .i64 b, .int .i64 c, .optr 1 0, .fn 16 []] (H1 d s) 2 fun r st => r = .int .i64 (Sort.median ltP d a b c s).1 ∧ st.heap = H1 d (Sort.median ltP d a b c s).2 ∧ st.nx = 2 := by
  refine Body.of_T Tryz.func94 rfl (by kernel_rfl) (by simp [Tryz.ntmps94]) fun C hC hC0 => ?_
  rw [Tryz.ntmps94] at hC
  obtain ⟨r1, hr1⟩ : ∃ r, r = Sort.order2 ltP d a b s := ⟨_, rfl⟩
  obtain ⟨r2, hr2⟩ : ∃ r, r = Sort.order2 ltP d r1.2.1 c r1.2.2 := ⟨_, rfl⟩
  obtain ⟨r3, hr3⟩ : ∃ r, r = Sort.order2 ltP d r1.1 r2.1 r2.2.2 := ⟨_, rfl⟩
  have e : Sort.median ltP d a b c s = (r3.2.1, r3.2.2) := by
    unfold Sort.median
    simp only [← hr1, ← hr2, ← hr3]
  obtain ⟨p1, p2, p3⟩ := hr1 ▸ order2_lt (d := d) (s := s) ha hb
  obtain ⟨q1, q2, q3⟩ := hr2 ▸ order2_lt (d := d) (s := r1.2.2) p2 hc
  rw [e]
  refine T.seq (T.go' tabOk ?_)
  simp [hC]
  refine T.seq (T.go' tabOk ?_)
  simp [hC]
  refine TL.callB tabOk (by simp [hC]) rfl rfl rfl (s130 d a b s ha hb (by omega) hs) ?_
  rw [← hr1]
  rintro r st ⟨rfl, h2, h3⟩
  simp [h2, h3, hC]
  refine TL.go' tabOk ?_
  simp [hC]
  refine T.seq (T.go' tabOk ?_)
  simp [hC]
  refine TL.callB tabOk (by simp [hC]) rfl rfl rfl (s130 d r1.2.1 c r1.2.2 p2 hc (by omega) hs) ?_
  rw [← hr2]
  rintro r st ⟨rfl, h2, h3⟩
  simp [h2, h3, hC]
  refine TL.go' tabOk ?_
  simp [hC]
  refine T.seq (T.go' tabOk ?_)
  simp [hC]
  refine TL.callB tabOk (by simp [hC]) rfl rfl rfl (s130 d r1.1 r2.1 r2.2.2 p1 q1 (by omega) hs) ?_
  rw [← hr3]
  rintro r st ⟨rfl, h2, h3⟩
  simp [h2, h3, hC]
  refine TL.go' tabOk ?_
  simp [hC]
  refine T.seq (T.go' tabOk ?_)
  simp [hC]
  refine T.ret ?_
  refine upTo.here ⟨_, by simp [Tryz.results94]; rfl, ?_⟩
  simp

theorem median_lt {d : Array Pr} {a b c s z : Nat} (ha : a < z) (hb : b < z) (hc : c < z) : (Sort.median ltP d a b c s).1 < z ∧ (Sort.median ltP d a b c s).2 ≤ s + 3 := by
  unfold Sort.median
  obtain ⟨p1, p2, p3⟩ := order2_lt (d := d) (s := s) ha hb
  obtain ⟨q1, q2, q3⟩ := order2_lt (d := d) (s := (Sort.order2 ltP d a b s).2.2) p2 hc
  obtain ⟨o1, o2, o3⟩ := order2_lt (d := d) (s := (Sort.order2 ltP d (Sort.order2 ltP d a b s).2.1 c (Sort.order2 ltP d a b s).2.2).2.2) p1 q1
  exact ⟨o2, by simp only; omega⟩

set_option maxHeartbeats 8000000 in
set_option maxRecDepth 10000 in
theorem s93 (d : Array Pr) (a s : Nat) (ha0 : 0 < a) (ha : a + 1 < d.size) (hss : s ≤ 800) (hs : d.size ≤ 1000000) :
    Body Tryz.prog tab 93 [.osl 0 0 d.size, .int .i64 a, .optr 1 0, .fn 16 []] (H1 d s) 2 fun r st => r = .int .i64 (Sort.medianAdjacent ltP d a s).1 ∧ st.heap = H1 d (Sort.medianAdjacent ltP d a s).2 ∧ st.nx = 2 := by
  refine Body.of_T Tryz.func93 rfl (by kernel_rfl) (by simp [Tryz.ntmps93]) fun C hC hC0 => ?_
  rw [Tryz.ntmps93] at hC
  obtain ⟨p, hp⟩ : ∃ p, p = a - 1 := ⟨_, rfl⟩
  obtain ⟨q, hq⟩ : ∃ q, q = a + 1 := ⟨_, rfl⟩
  have hpI : (a : Int) - 1 = (p : Int) := by omega
  have hqI : (a : Int) + 1 = (q : Int) := by omega
  have wp := w64 (p : Int) (by omega) (by omega)
  have wq := w64 (q : Int) (by omega) (by omega)
  have e : Sort.medianAdjacent ltP d a s = Sort.median ltP d p a q s := by unfold Sort.medianAdjacent; rw [hp, hq]
  rw [e]
  refine T.seq (T.go' tabOk ?_)
  simp [hC]
  refine T.seq (T.go' tabOk ?_)
  simp [hC, hpI, hqI, wp, wq]
  refine TL.callB tabOk (by simp [hC]) rfl rfl rfl (s94 d p a q s (by omega) (by omega) (by omega) (by omega) hs) ?_
  rintro r st ⟨rfl, h2, h3⟩
  simp [h2, h3, hC]
  refine TL.go' tabOk ?_
  simp [hC]
  refine T.ret ?_
  refine upTo.here ⟨_, by simp [Tryz.results93]; rfl, ?_⟩
  simp
end Go.Proofs.YtniilppjegieaaaGreat

/- The sort of pairs: choosePivot. -/
namespace Go.Proofs.YtniilppjegieaaaGreat
open Go.Can
attribute [-simp] cput

def hI : Sort.Hint → Int
  | .unknown => 0
  | .increasing => 1
  | .decreasing => 2
def K58 (r : Nat × Nat) (a b z : Nat) (d : Array Pr) : St → Prop := fun st => st = ⟨[(11, .optr 1 0), (13, .int .i64 r.1), (0, .osl 0 0 z), (1, .int .i64 a), (2, .int .i64 b), (3, .fn 16 [])], H1 d r.2, 2⟩
def M58 (i j k s a b z : Nat) (d : Array Pr) : St → Prop := fun st => st = ⟨[(12, .int .i64 i), (13, .int .i64 j), (14, .int .i64 k), (11, .optr 1 0), (0, .osl 0 0 z), (1, .int .i64 a), (2, .int .i64 b), (3, .fn 16 [])], H1 d s, 2⟩

set_option maxHeartbeats 8000000 in
set_option maxRecDepth 10000 in
theorem s58 (d : Array Pr) (a b : Nat) (hab : a < b) (hb : b ≤ d.size) (hs : d.size ≤ 1000000) :
    Body Tryz.prog tab 58 [.osl 0 0 d.size, .int .i64 a, .int .i64 b, .fn 16 []] (H0 d) 1 fun r st => r = .tup [.int .i64 (Sort.choosePivot ltP d a b).1, .int .i64 (hI (Sort.choosePivot ltP d a b).2)] ∧ st.heap = H0 d ∧ st.nx = 1 := by
  refine Body.of_T Tryz.func58 rfl (by kernel_rfl) (by simp [Tryz.ntmps58]) fun C hC hC0 => ?_
  rw [Tryz.ntmps58] at hC
  obtain ⟨l, hl⟩ : ∃ l, l = b - a := ⟨_, rfl⟩
  obtain ⟨q, hq⟩ : ∃ q, q = l / 4 := ⟨_, rfl⟩
  obtain ⟨i, hi⟩ : ∃ i, i = a + q * 1 := ⟨_, rfl⟩
  obtain ⟨j, hj⟩ : ∃ j, j = a + q * 2 := ⟨_, rfl⟩
  obtain ⟨k, hk⟩ : ∃ k, k = a + q * 3 := ⟨_, rfl⟩
  obtain ⟨ri, hri⟩ : ∃ r, r = Sort.medianAdjacent ltP d i 0 := ⟨_, rfl⟩
  obtain ⟨rj, hrj⟩ : ∃ r, r = Sort.medianAdjacent ltP d j ri.2 := ⟨_, rfl⟩
  obtain ⟨rk, hrk⟩ : ∃ r, r = Sort.medianAdjacent ltP d k rj.2 := ⟨_, rfl⟩
  obtain ⟨r, hr⟩ : ∃ r : Nat × Nat, r = if l ≥ 8 then (if l ≥ 50 then Sort.median ltP d ri.1 rj.1 rk.1 rk.2 else Sort.median ltP d i j k 0) else (j, 0) := ⟨_, rfl⟩
  have e : Sort.choosePivot ltP d a b = (r.1, if r.2 = 0 then .increasing else if r.2 = 12 then .decreasing else .unknown) := by
    unfold Sort.choosePivot
    simp only [← hl, ← hq, ← hi, ← hj, ← hk, ← hri, ← hrj, ← hrk, ← hr]
  rw [e]
  have hlI : (b : Int) - (a : Int) = (l : Int) := by omega
  have hqI : (l : Int).tdiv 4 = (q : Int) := by
    rw [Int.tdiv_eq_ediv_of_nonneg (by omega)]
    omega
  obtain ⟨q2, hq2⟩ : ∃ x, x = q * 2 := ⟨_, rfl⟩
  obtain ⟨q3, hq3⟩ : ∃ x, x = q * 3 := ⟨_, rfl⟩
  have hq2I : (q : Int) * 2 = (q2 : Int) := by omega
  have hq3I : (q : Int) * 3 = (q3 : Int) := by omega
  have hiI : (a : Int) + (q : Int) = (i : Int) := by omega
  have hjI : (a : Int) + (q2 : Int) = (j : Int) := by omega
  have hkI : (a : Int) + (q3 : Int) = (k : Int) := by omega
  have wl := w64 (l : Int) (by omega) (by omega)
  have wq := w64 (q : Int) (by omega) (by omega)
  have wq2 := w64 (q2 : Int) (by omega) (by omega)
  have wq3 := w64 (q3 : Int) (by omega) (by omega)
  have wi := w64 (i : Int) (by omega) (by omega)
  have wj := w64 (j : Int) (by omega) (by omega)
  have wk := w64 (k : Int) (by omega) (by omega)
  refine T.seq (T.go' tabOk ?_)
  simp [hC]
  refine T.seq (T.go' tabOk ?_)
  simp [hC, hlI, wl]
  refine T.seq (T.go' tabOk ?_)
  simp [hC]
  refine T.seq (T.go' tabOk ?_)
  simp [hC, hqI, wq, hiI, wi]
  refine T.seq (T.go' tabOk ?_)
  simp [hC, hqI, wq, hq2I, wq2, hjI, wj]
  refine T.seq (T.go' tabOk ?_)
  simp [hC, hqI, wq, hq3I, wq3, hkI, wk]
  refine T.cut (K58 r a b d.size d) ?_ ?_
  · refine T.seq (T.go' tabOk ?_)
    simp [hC]
    refine T.cond_if rfl (fun h => ?_) (fun h => ?_)
    · have h8 : 8 ≤ l := by
        have : (8 : Int) ≤ l := by simpa using h
        omega
      refine T.cut (M58 (if l ≥ 50 then ri.1 else i) (if l ≥ 50 then rj.1 else j) (if l ≥ 50 then rk.1 else k) (if l ≥ 50 then rk.2 else 0) a b d.size d) ?_ ?_
      · refine T.seq (T.go' tabOk ?_)
        simp [hC]
        refine T.cond_if rfl (fun h2 => ?_) (fun h2 => ?_)
        · have h50 : 50 ≤ l := by
            have : (50 : Int) ≤ l := by simpa using h2
            omega
          have m1 := median_lt (d := d) (a := i - 1) (b := i) (c := i + 1) (s := 0) (z := d.size) (by omega) (by omega) (by omega)
          have m2 := median_lt (d := d) (a := j - 1) (b := j) (c := j + 1) (s := ri.2) (z := d.size) (by omega) (by omega) (by omega)
          have m1' : ri.1 < d.size ∧ ri.2 ≤ 3 := by rw [hri]; simpa [Sort.medianAdjacent] using m1
          have m2' : rj.1 < d.size ∧ rj.2 ≤ ri.2 + 3 := by rw [hrj]; simpa [Sort.medianAdjacent] using m2
          refine T.seq (T.go' tabOk ?_)
          simp [hC]
          refine TL.callB tabOk (by simp [hC]) rfl rfl rfl (s93 d i 0 (by omega) (by omega) (by omega) hs) ?_
          rw [← hri]
          rintro r st ⟨rfl, h2, h3⟩
          simp [h2, h3, hC]
          refine TL.go' tabOk ?_
          simp [hC]
          refine T.seq (T.go' tabOk ?_)
          simp [hC]
          refine TL.callB tabOk (by simp [hC]) rfl rfl rfl (s93 d j ri.2 (by omega) (by omega) (by omega) hs) ?_
          rw [← hrj]
          rintro r st ⟨rfl, h2, h3⟩
          simp [h2, h3, hC]
          refine TL.go' tabOk ?_
          simp [hC]
          refine T.go' tabOk ?_
          simp [hC]
          refine TL.callB tabOk (by simp [hC]) rfl rfl rfl (s93 d k rj.2 (by omega) (by omega) (by omega) hs) ?_
          rw [← hrk]
          rintro r st ⟨rfl, h2, h3⟩
          simp [h2, h3, hC]
          refine TL.go' tabOk ?_
          simp [hC]
          refine upTo.trim [12, 13, 14, 11, 0, 1, 2, 3] [1, 0] 2 (by simp [H1, obP]) (by omega) ?_
          simp [M58, H1, h50]
        · have h50 : ¬ 50 ≤ l := by
            have : ¬ (50 : Int) ≤ l := by simpa using h2
            omega
          refine T.skip ?_
          simp
          refine upTo.trim [12, 13, 14, 11, 0, 1, 2, 3] [1, 0] 2 (by simp [H0, obP]) (by omega) ?_
          simp [M58, H1, H0, h50]
      · rintro st rfl
        have bnd : (if l ≥ 50 then ri.1 else i) < d.size ∧ (if l ≥ 50 then rj.1 else j) < d.size ∧ (if l ≥ 50 then rk.1 else k) < d.size ∧ (if l ≥ 50 then rk.2 else 0) ≤ 9 := by
          have m1 := median_lt (d := d) (a := i - 1) (b := i) (c := i + 1) (s := 0) (z := d.size) (by omega) (by omega) (by omega)
          have m2 := median_lt (d := d) (a := j - 1) (b := j) (c := j + 1) (s := ri.2) (z := d.size) (by omega) (by omega) (by omega)
          have m3 := median_lt (d := d) (a := k - 1) (b := k) (c := k + 1) (s := rj.2) (z := d.size) (by omega) (by omega) (by omega)
          have m1' : ri.1 < d.size ∧ ri.2 ≤ 3 := by rw [hri]; simpa [Sort.medianAdjacent] using m1
          have m2' : rj.1 < d.size ∧ rj.2 ≤ ri.2 + 3 := by rw [hrj]; simpa [Sort.medianAdjacent] using m2
          have m3' : rk.1 < d.size ∧ rk.2 ≤ rj.2 + 3 := by rw [hrk]; simpa [Sort.medianAdjacent] using m3
          by_cases h50 : l ≥ 50
          · simp only [h50, if_true]; omega
          · simp only [h50, if_false]; omega
        have er : r = Sort.median ltP d (if l ≥ 50 then ri.1 else i) (if l ≥ 50 then rj.1 else j) (if l ≥ 50 then rk.1 else k) (if l ≥ 50 then rk.2 else 0) := by
          rw [hr, if_pos h8]
          by_cases h50 : l ≥ 50
          · simp only [h50, if_true]
          · simp only [h50, if_false]
        generalize (if l ≥ 50 then ri.1 else i) = i' at bnd er ⊢
        generalize (if l ≥ 50 then rj.1 else j) = j' at bnd er ⊢
        generalize (if l ≥ 50 then rk.1 else k) = k' at bnd er ⊢
        generalize (if l ≥ 50 then rk.2 else 0) = s' at bnd er ⊢
        obtain ⟨n1, n2, n3, n4⟩ := bnd
        refine T.go' tabOk ?_
        simp [hC]
        refine TL.callB tabOk (by simp [hC]) rfl rfl rfl (s94 d i' j' k' s' n1 n2 n3 (by omega) hs) ?_
        rw [← er]
        rintro r st ⟨rfl, h2, h3⟩
        simp [h2, h3, hC]
        refine TL.go' tabOk ?_
        simp [hC]
        refine upTo.trim [11, 13, 0, 1, 2, 3] [1, 0] 2 (by simp [H1, obP]) (by omega) ?_
        simp [K58, H1]
    · have h8 : ¬ 8 ≤ l := by
        have : ¬ (8 : Int) ≤ l := by simpa using h
        omega
      refine T.skip ?_
      simp
      refine upTo.trim [11, 13, 0, 1, 2, 3] [1, 0] 2 (by simp [H0, obP]) (by omega) ?_
      simp [K58, H1, H0, hr, h8]
  · rintro st rfl
    clear e hr
    refine T.seq (T.go' tabOk ?_)
    simp [hC, H1]
    refine T.block (T.seq (T.go' tabOk ?_))
    simp [hC]
    refine T.cond_if rfl (fun h => ?_) (fun h => ?_)
    · have h0 : r.2 = 0 := by simpa using h
      refine T.seq (T.go' tabOk ?_)
      simp [hC]
      refine T.ret ?_
      refine upTo.le (Le.trim [8, 9] [0] 1 (by simp [obP]) (by omega)) (upTo.here ⟨_, by simp [Tryz.results58]; rfl, ?_⟩)
      simp [H0, h0, hI]
    · have h0 : ¬ r.2 = 0 := by simpa using h
      refine T.seq (T.go' tabOk ?_)
      simp [hC]
      refine T.cond_if rfl (fun h2 => ?_) (fun h2 => ?_)
      · have h12 : r.2 = 12 := by
          have : (r.2 : Int) = 12 := by simpa using h2
          omega
        refine T.seq (T.go' tabOk ?_)
        simp [hC]
        refine T.ret ?_
        refine upTo.le (Le.trim [8, 9] [0] 1 (by simp [obP]) (by omega)) (upTo.here ⟨_, by simp [Tryz.results58]; rfl, ?_⟩)
        simp [H0, h12, hI]
      · have h12 : ¬ r.2 = 12 := by
          intro h3
          simp [h3] at h2
        refine T.seq (T.go' tabOk ?_)
        simp [hC]
        refine T.ret ?_
        refine upTo.le (Le.trim [8, 9] [0] 1 (by simp [obP]) (by omega)) (upTo.here ⟨_, by simp [Tryz.results58]; rfl, ?_⟩)
        simp [H0, h0, h12, hI]
end Go.Proofs.YtniilppjegieaaaGreat
