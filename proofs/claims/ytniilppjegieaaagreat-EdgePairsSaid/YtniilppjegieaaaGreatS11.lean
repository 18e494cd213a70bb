/- The sort of pairs: bits.Len and nextPowerOfTwo at lengths up to 60; the random numbers. -/
import Derived.Test.YtniilppjegieaaaGreatS10
import Derived.Test.YtniilppjegieaaaGreatY1
namespace Go.Proofs.YtniilppjegieaaaGreat
open Go.Can
attribute [-simp] cput

noncomputable def ck25 (n : Nat) : Bool := match pureOf (yip []) (goX Tryz.prog (yip []) 20) 25 [.int .u64 n] with
  | some (.int .i64 m) => m == (Sort.bitsLen n : Int)
  | _ => false
set_option maxRecDepth 1000000 in
theorem ck25_all : (List.range 61).all ck25 = true := by kernel_rfl
theorem c25_ok (n : Nat) (hn : n ≤ 60) : PureCall Tryz.prog 25 [.int .u64 n] (.int .i64 (Sort.bitsLen n : Nat)) := by
  have h := List.all_eq_true.1 ck25_all n (List.mem_range.2 (by omega))
  unfold ck25 at h
  split at h
  · rename_i m hm
    have : m = (Sort.bitsLen n : Int) := by simpa using h
    subst this
    exact pureX (yok (by simp)) 20 hm
  · cases h
theorem len_pow : ((List.range 61).all fun n => decide ((n = 0 ∨ 2 ^ Sort.bitsLen n ≤ 2 * n) ∧ Sort.bitsLen n ≤ 6)) = true := by kernel_rfl
theorem c91_ok (n : Nat) (h0 : 0 < n) (hn : n ≤ 60) : ∃ m : Nat, 0 < m ∧ m ≤ 2 * n ∧ PureCall Tryz.prog 91 [.int .i64 n] (.int .u64 m) := by
  have hp := List.all_eq_true.1 len_pow n (List.mem_range.2 (by omega))
  simp only [decide_eq_true_eq] at hp
  obtain ⟨hp, hq⟩ := hp
  refine ⟨2 ^ Sort.bitsLen n, Nat.pow_pos (by decide), by omega, ?_⟩
  refine PureCall.of_TLe tabOk Tryz.func91 rfl (by kernel_rfl) (by simp [Tryz.ntmps91]) rfl fun C hC hC0 => ?_
  rw [Tryz.ntmps91] at hC
  have wn : IntKind.u64.wrap (n : Int) = n := by simp [IntKind.wrap, IntKind.bits, IntKind.signed]; omega
  have t69 : assoc tab 69 = some ⟨.int .u64, 1, 8, [.int .u64 0]⟩ := by kernel_rfl
  refine T.seq (T.go' tabOk ?_)
  simp [hC]
  refine T.seq (T.region (TL.some tabOk 1 ?_))
  simp [hC]
  refine execX rfl (xstep_ok (s' := ⟨[(4, .int .u64 n), (3, .int .i64 n), (2, .int .u64 0), (0, .int .i64 n)], [], 0⟩) tabOk (by simp [hC]) (by simp [xstep, cconv, wn, t69])) ?_
  refine TL.go' tabOk ?_
  simp [hC]
  refine TL.call (by simp [hC]) rfl rfl (CallQ.of rfl rfl (c25_ok n hn)) (TL.go' tabOk ?_)
  have hmin : min (Sort.bitsLen n) 64 = Sort.bitsLen n := by omega
  have hpw : 2 ^ Sort.bitsLen n ≤ 120 := by omega
  have w2 : IntKind.u64.wrap ((2 ^ Sort.bitsLen n : Nat) : Int) = ((2 ^ Sort.bitsLen n : Nat) : Int) := by
    simp only [IntKind.wrap, IntKind.bits, IntKind.signed]
    generalize 2 ^ Sort.bitsLen n = q at hpw
    simp
    omega
  have hnn : ¬ ((Sort.bitsLen n : Nat) : Int) < 0 := by omega
  have hb : IntKind.u64.bits = 64 := rfl
  have w3 : IntKind.u64.wrap ((2 : Int) ^ Sort.bitsLen n) = 2 ^ Sort.bitsLen n := by
    have e : ((2 ^ Sort.bitsLen n : Nat) : Int) = (2 : Int) ^ Sort.bitsLen n := by push_cast; rfl
    rw [← e]
    exact w2
  simp [hC, hnn, hb, hmin, w3]
  refine T.ret ?_
  refine upTo.here ?_
  simp [Tryz.results91]
end Go.Proofs.YtniilppjegieaaaGreat

/- The sort of pairs: the random numbers and breakPatterns. -/
namespace Go.Proofs.YtniilppjegieaaaGreat
open Go.Can
attribute [-simp] cput

def H2 (d : Array Pr) (r : Int) : List (Nat × Ob) := [(1, ⟨176, 0, [.int .u64 r]⟩), (0, obP d)]

set_option maxHeartbeats 8000000 in
set_option maxRecDepth 10000 in
theorem s92 (d : Array Pr) (r : Int) :
    Body Tryz.prog tab 92 [.optr 1 0] (H2 d r) 2 fun x st => ∃ q : Int, x = .int .u64 q ∧ st.heap = H2 d q ∧ st.nx = 2 := by
  refine Body.of_T Tryz.func92 rfl (by kernel_rfl) (by simp [Tryz.ntmps92]) fun C hC hC0 => ?_
  rw [Tryz.ntmps92] at hC
  have t176 : assoc tab 176 = some ⟨.int .u64, 1, 8, [.int .u64 0]⟩ := by kernel_rfl
  refine T.seq (T.go' tabOk ?_)
  simp [hC]
  refine T.seq ?_
  refine T.traceP tabOk follows [0, 1, 2, 3, 4, 5, 6, 7, 8, 9] pcS_ok (by kernel_rfl) ?_
  simp [hC, H2, t176]
  generalize IntKind.u64.wrap _ = q1
  refine T.seq ?_
  refine T.traceP tabOk follows [0, 1, 2, 3, 4, 5, 6, 7, 8, 9] pcS_ok (by kernel_rfl) ?_
  simp [hC, t176]
  refine T.seq ?_
  refine T.traceP tabOk follows [0, 1, 2, 3, 4, 5, 6, 7, 8, 9] pcS_ok (by kernel_rfl) ?_
  simp [hC, t176]
  refine T.seq (T.go' tabOk ?_)
  simp [hC]
  refine T.ret ?_
  refine upTo.le (Le.trim [2] [1, 0] 2 (by simp [obP]) (by omega)) (upTo.here ⟨_, by simp [Tryz.results92]; rfl, ?_⟩)
  simp [H2]
end Go.Proofs.YtniilppjegieaaaGreat

/- The sort of pairs: breakPatterns permutes. -/
namespace Go.Proofs.YtniilppjegieaaaGreat
open Go.Can
attribute [-simp] cput

def I57 (d : Array Pr) (a b l q2 mm z : Nat) (m : Nat) (s : St) : Prop := ∃ (idx : Nat) (x : Array Pr) (r : Int), m = a + q2 + 2 - idx ∧ a ≤ idx ∧ idx ≤ a + q2 + 2 ∧ Sort.PermIn a b d x ∧
  s = ⟨[(11, .int .i64 idx), (10, .int .u64 mm), (9, .optr 1 0), (8, .int .i64 l), (0, .osl 0 0 z), (1, .int .i64 a), (2, .int .i64 b), (3, .fn 16 [])], H2 x r, 2⟩

set_option maxHeartbeats 8000000 in
set_option maxRecDepth 10000 in
theorem s57 : BP := by
  intro d z a b hz hab hb hs
  subst hz
  refine Body.of_T Tryz.func57 rfl (by kernel_rfl) (by simp [Tryz.ntmps57]) fun C hC hC0 => ?_
  rw [Tryz.ntmps57] at hC
  have t176 : assoc tab 176 = some ⟨.int .u64, 1, 8, [.int .u64 0]⟩ := by kernel_rfl
  have t69 : assoc tab 69 = some ⟨.int .u64, 1, 8, [.int .u64 0]⟩ := by kernel_rfl
  obtain ⟨l, hl⟩ : ∃ l, l = b - a := ⟨_, rfl⟩
  have hlI : (b : Int) - (a : Int) = (l : Int) := by omega
  have wl := w64 (l : Int) (by omega) (by omega)
  have wn : IntKind.u64.wrap (l : Int) = l := by simp [IntKind.wrap, IntKind.bits, IntKind.signed]; omega
  refine T.seq (T.go' tabOk ?_)
  simp [hC, hlI, wl]
  refine T.seq (T.go' tabOk ?_)
  simp [hC]
  refine T.cond_if rfl (fun h => ?_) (fun h => ?_)
  · have h8 : 8 ≤ l := by
      have : (8 : Int) ≤ l := by simpa using h
      omega
    have h8I : (8 : Int) ≤ l := by omega
    obtain ⟨q, hq⟩ : ∃ q, q = l / 4 := ⟨_, rfl⟩
    obtain ⟨q2, hq2⟩ : ∃ x, x = q * 2 := ⟨_, rfl⟩
    have hqI : (l : Int).tdiv 4 = (q : Int) := by
      rw [Int.tdiv_eq_ediv_of_nonneg (by omega)]
      omega
    have hq2I : (q : Int) * 2 = (q2 : Int) := by omega
    have haq : (a : Int) + (q2 : Int) = ((a + q2 : Nat) : Int) := by omega
    have haq1 : ((a + q2 : Nat) : Int) - 1 = ((a + q2 - 1 : Nat) : Int) := by omega
    have haq2 : ((a + q2 : Nat) : Int) + 1 = ((a + q2 + 1 : Nat) : Int) := by omega
    have wq := w64 (q : Int) (by omega) (by omega)
    have wq2 := w64 (q2 : Int) (by omega) (by omega)
    have w1 := w64 ((a + q2 : Nat) : Int) (by omega) (by omega)
    have w2 := w64 ((a + q2 - 1 : Nat) : Int) (by omega) (by omega)
    have w3 := w64 ((a + q2 + 1 : Nat) : Int) (by omega) (by omega)
    obtain ⟨mm, hm0, hm1, hc91⟩ := c91_ok l (by omega) (by omega)
    refine T.seq (T.region (TL.some tabOk 1 ?_))
    simp [hC]
    refine execX rfl (xstep_ok (s' := ⟨[(19, .int .u64 l), (18, .int .i64 l), (17, .bool true), (16, .int .i64 l), (8, .int .i64 l), (15, .int .i64 l), (14, .int .i64 a), (13, .int .i64 b), (0, .osl 0 0 d.size), (1, .int .i64 a), (2, .int .i64 b), (3, .fn 16 [])], H0 d, 1⟩) tabOk (by simp [hC]) (by simp [xstep, cconv, wn, t69, t176, h8I])) ?_
    refine TL.go' tabOk ?_
    simp [hC, t176]
    refine T.seq (T.go' tabOk ?_)
    simp [hC]
    refine TL.call (by simp [hC]) rfl rfl (CallQ.of rfl rfl hc91) (TL.go' tabOk ?_)
    simp [hC]
    refine T.seq (T.go' tabOk ?_)
    simp [hC, hqI, wq, hq2I, wq2]
    rw [haq, w1, haq1, w2]
    refine T.block ?_
    refine T.loopLe (I57 d a b l q2 mm d.size) (n := 3) ?_ ?_
    · refine upTo.trim [11, 10, 9, 8, 0, 1, 2, 3] [1, 0] 2 (by simp [H0, obP]) (by omega) ⟨a + q2 - 1, d, l, by omega, by omega, by omega, Sort.permIn_refl _ _ _, ?_⟩
      simp [H0, H2]
    · rintro n s ⟨idx, x, r, rfl, hi1, hi2, hp, rfl⟩
      have hx : x.size = d.size := hp.1
      refine T.seq (T.seq (T.go' tabOk ?_))
      simp [hC, hqI, wq, hq2I, wq2]
      rw [haq, w1, haq2, w3]
      refine T.cond_if rfl (fun h2 => ?_) (fun h2 => ?_)
      · have hle : idx ≤ a + q2 + 1 := by
          have : (idx : Int) ≤ ((a + q2 + 1 : Nat) : Int) := by simpa using h2
          omega
        have wm : IntKind.u64.wrap ((mm : Int) - 1) = ((mm - 1 : Nat) : Int) := by
          simp [IntKind.wrap, IntKind.bits, IntKind.signed]
          omega
        refine T.skip ?_
        simp
        refine T.seq (T.block (T.seq (T.go' tabOk ?_)))
        simp [hC]
        refine TL.callB tabOk (by simp [hC]) rfl rfl rfl (s92 x r) ?_
        rintro r' st ⟨q', rfl, h3, h4⟩
        simp [h3, h4, hC]
        refine TL.some tabOk 3 ?_
        simp [hC, wm]
        generalize hv : ((q' % 2 ^ IntKind.u64.bits).toNat &&& (mm - 1) % 2 ^ IntKind.u64.bits) = v
        have hvm : v ≤ mm - 1 := by
          rw [← hv]
          exact Nat.le_trans Nat.and_le_right (Nat.mod_le _ _)
        clear hv
        have wv : IntKind.u64.wrap (v : Int) = v := by
          simp [IntKind.wrap, IntKind.bits, IntKind.signed]
          omega
        have wv' := w64 (v : Int) (by omega) (by omega)
        refine TL.le (Le.trim [41, 11, 10, 9, 8, 0, 1, 2, 3] [1, 0] 2 (by simp [H2, obP]) (by omega)) ?_
        simp [H2, wv]
        refine execX rfl (xstep_ok (s' := ⟨[(42, .int .i64 v), (41, .int .u64 v), (11, .int .i64 idx), (10, .int .u64 mm), (9, .optr 1 0), (8, .int .i64 l), (0, .osl 0 0 d.size), (1, .int .i64 a), (2, .int .i64 b), (3, .fn 16 [])], H2 x q', 2⟩) tabOk (by simp [hC]) (by simp [xstep, cconv, wv', t69, H2])) ?_
        refine TL.go' tabOk ?_
        simp [hC]
        obtain ⟨o, ho⟩ : ∃ o, o = if l ≤ v then v - l else v := ⟨_, rfl⟩
        have hol : o < l := by rw [ho]; split <;> omega
        refine T.cut (fun st => st = ⟨[(12, .int .i64 o), (11, .int .i64 idx), (10, .int .u64 mm), (9, .optr 1 0), (8, .int .i64 l), (0, .osl 0 0 d.size), (1, .int .i64 a), (2, .int .i64 b), (3, .fn 16 [])], H2 x q', 2⟩) ?_ ?_
        · refine T.seq (T.go' tabOk ?_)
          simp [hC]
          refine T.cond_if rfl (fun h5 => ?_) (fun h5 => ?_)
          · have hlv : l ≤ v := by
              simpa using h5
            rw [if_pos hlv] at ho
            have e1 : (v : Int) - (l : Int) = (o : Int) := by omega
            have wo := w64 (o : Int) (by omega) (by omega)
            refine T.go' tabOk ?_
            simp [hC, e1, wo]
            refine upTo.trim [12, 11, 10, 9, 8, 0, 1, 2, 3] [1, 0] 2 (by simp [H2, obP]) (by omega) ?_
            simp [H2]
          · have hlv : ¬ l ≤ v := by
              simpa using h5
            rw [if_neg hlv] at ho
            refine T.skip ?_
            simp
            refine upTo.trim [12, 11, 10, 9, 8, 0, 1, 2, 3] [1, 0] 2 (by simp [H2, obP]) (by omega) ?_
            simp [H2, ho]
        · rintro s rfl
          obtain ⟨k, hk⟩ : ∃ k, k = a + o := ⟨_, rfl⟩
          have hkI : (a : Int) + (o : Int) = (k : Int) := by omega
          have wk := w64 (k : Int) (by omega) (by omega)
          have wi := w64 ((idx : Int) + 1) (by omega) (by omega)
          have hix : idx < x.size := by omega
          have hiz : idx < d.size := by omega
          have hi3 : idx + 1 ≤ x.size := by omega
          have hkx : k < x.size := by omega
          have hkz : k < d.size := by omega
          have hk1 : k + 1 ≤ x.size := by omega
          refine T.traceP tabOk follows [0, 1, 2, 3, 4, 5, 6, 7, 8, 9, 10, 11, 12, 13, 14, 15, 16, 17, 18, 19] pcS_ok (by kernel_rfl) ?_
          simp [hC, H2, obP, ob_drop, hix, hiz, hi3, hkx, hkz, hk1, hkI, wk]
          refine T.go' tabOk ?_
          simp [hC, wi]
          have hsw := ob_swp x idx k hix hkx
          simp [hix, hkx] at hsw
          refine ⟨a + q2 + 2 - (idx + 1), by omega, upTo.trim [11, 10, 9, 8, 0, 1, 2, 3] [1, 0] 2 (by simp [hsw]) (by omega) ⟨idx + 1, Sort.swp x idx k, q', rfl, by omega, by omega, Sort.permIn_trans _ _ _ a b hp (Sort.swp_permIn x a b idx k (by omega) (by omega) (by omega) (by omega) (by omega)), ?_⟩⟩
          simp [H2, obP, hsw]
      · refine T.exit ?_
        simp
        refine upTo.le (Le.trim [] [0] 1 (by simp [H2, obP]) (by omega)) (upTo.here ⟨.tup [], by simp [Tryz.results57], rfl, x, ?_, rfl, hp⟩)
        simp [H2, H0]
  · refine T.skip ?_
    exact upTo.here ⟨.tup [], by simp [Tryz.results57], rfl, d, rfl, rfl, Sort.permIn_refl _ _ _⟩
end Go.Proofs.YtniilppjegieaaaGreat

/- slices.SortFunc over pairs, with slices.Compare. -/
namespace Go.Proofs.YtniilppjegieaaaGreat
open Go.Can
attribute [-simp] cput

set_option maxHeartbeats 8000000 in
set_option maxRecDepth 10000 in
theorem s15 (d : Array Pr) (hs : d.size ≤ 60) :
    Body Tryz.prog tab 15 [.osl 0 0 d.size, .fn 16 []] (H0 d) 1 (SP d 0 d.size) := by
  refine Body.of_T Tryz.func15 rfl (by kernel_rfl) (by simp [Tryz.ntmps15]) fun C hC hC0 => ?_
  rw [Tryz.ntmps15] at hC
  have t69 : assoc tab 69 = some ⟨.int .u64, 1, 8, [.int .u64 0]⟩ := by kernel_rfl
  have wn : IntKind.u64.wrap (d.size : Int) = d.size := by simp [IntKind.wrap, IntKind.bits, IntKind.signed]; omega
  refine T.seq (T.go' tabOk ?_)
  simp [hC]
  refine T.region (TL.some tabOk 3 ?_)
  simp [hC]
  have hq := List.all_eq_true.1 len_pow d.size (List.mem_range.2 (by omega))
  simp only [decide_eq_true_eq] at hq
  refine execX rfl (xstep_ok (s' := ⟨[(10, .int .u64 d.size), (9, .int .i64 d.size), (8, .int .i64 d.size), (7, .osl 0 0 d.size), (4, .int .i64 d.size), (6, .int .i64 d.size), (5, .osl 0 0 d.size), (0, .osl 0 0 d.size), (1, .fn 16 [])], H0 d, 1⟩) tabOk (by simp [hC]) (by simp [xstep, cconv, wn, t69])) ?_
  refine TL.go' tabOk ?_
  simp [hC]
  refine TL.call (by simp [hC]) rfl rfl (CallQ.of rfl rfl (c25_ok d.size hs)) (TL.go' tabOk ?_)
  simp [hC]
  refine TL.callB tabOk (by simp [hC]) rfl rfl rfl (s24 s57 d.size d d.size 0 d.size (Sort.bitsLen d.size) (by omega) (by omega) (by omega) hs rfl (by omega) (.inl rfl)) ?_
  rintro r st ⟨rfl, y, h2, h3, h4, h5⟩
  simp [h2, h3, hC]
  refine TL.go' tabOk ?_
  simp [hC]
  exact upTo.here ⟨.tup [], by simp [Tryz.results15], rfl, y, rfl, rfl, h4, h5⟩
end Go.Proofs.YtniilppjegieaaaGreat
