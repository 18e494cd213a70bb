/- The sort of pairs: pdqsort, over a contract of breakPatterns. -/
import Derived.Test.YtniilppjegieaaaGreatS8
namespace Go.Proofs.YtniilppjegieaaaGreat
open Go.Can
attribute [-simp] cput

theorem swoP : Sort.SWO ltP where
  irrefl x := by simp [ltP]
  trans x y z h1 h2 := by
    simp [ltP] at *
    omega
  ntrans x y z h1 h2 := by
    simp [ltP] at *
    omega

/-- What is asked of breakPatterns. -/
def BP : Prop := ∀ (d : Array Pr) (z a b : Nat), d.size = z → a < b → b ≤ d.size → d.size ≤ 60 → Body Tryz.prog tab 57 [.osl 0 0 z, .int .i64 a, .int .i64 b, .fn 16 []] (H0 d) 1 fun r s => r = .tup [] ∧ ∃ d', s.heap = H0 d' ∧ s.nx = 1 ∧ Sort.PermIn a b d d'
def SP (d : Array Pr) (a b : Nat) (r : CV) (s : St) : Prop := r = .tup [] ∧ ∃ d', s.heap = H0 d' ∧ s.nx = 1 ∧ Sort.PermIn a b d d' ∧ Sort.SortedIn ltP a b d'

def I24 (d : Array Pr) (a b n m : Nat) (s : St) : Prop := ∃ (x : Array Pr) (a' b' lim : Nat) (wb wp : Bool), m = b' - a' ∧ a' ≤ b' ∧ b' ≤ d.size ∧ x.size = d.size ∧ lim ≤ 100 ∧ b' - a' ≤ n ∧ Sort.Below ltP a' b' x ∧
  (∀ R, Sort.PermIn a' b' x R → Sort.SortedIn ltP a' b' R → Sort.PermIn a b d R ∧ Sort.SortedIn ltP a b R) ∧
  s = ⟨[(10, .bool wb), (11, .bool wp), (0, .osl 0 0 d.size), (1, .int .i64 a'), (2, .int .i64 b'), (3, .int .i64 lim), (4, .fn 16 [])], H0 x, 1⟩
def J24a (x : Array Pr) (wb wp : Bool) (a b z : Nat) (s : St) : Prop := ∃ (y : Array Pr) (lim : Nat), lim ≤ 100 ∧ Sort.PermIn a b x y ∧
  s = ⟨[(12, .int .i64 ((b - a : Nat) : Int)), (10, .bool wb), (11, .bool wp), (0, .osl 0 0 z), (1, .int .i64 a), (2, .int .i64 b), (3, .int .i64 lim), (4, .fn 16 [])], H0 y, 1⟩
def J24b (x : Array Pr) (wb wp : Bool) (lim a b z : Nat) (s : St) : Prop := ∃ (y : Array Pr) (pv : Nat) (h : Int), a ≤ pv ∧ pv < b ∧ Sort.PermIn a b x y ∧
  s = ⟨[(13, .int .i64 pv), (14, .int .i64 h), (12, .int .i64 ((b - a : Nat) : Int)), (10, .bool wb), (11, .bool wp), (0, .osl 0 0 z), (1, .int .i64 a), (2, .int .i64 b), (3, .int .i64 lim), (4, .fn 16 [])], H0 y, 1⟩
def J24d (bb : Bool) (x : Array Pr) (wb wp : Bool) (pv lim a b z : Nat) (s : St) : Prop :=
  s = ⟨[(75, .bool bb), (13, .int .i64 pv), (12, .int .i64 ((b - a : Nat) : Int)), (10, .bool wb), (11, .bool wp), (0, .osl 0 0 z), (1, .int .i64 a), (2, .int .i64 b), (3, .int .i64 lim), (4, .fn 16 [])], H0 x, 1⟩
def J24c (x : Array Pr) (wb wp : Bool) (pv lim a b z : Nat) (s : St) : Prop := ∃ (y : Array Pr), Sort.PermIn a b x y ∧
  s = ⟨[(13, .int .i64 pv), (12, .int .i64 ((b - a : Nat) : Int)), (10, .bool wb), (11, .bool wp), (0, .osl 0 0 z), (1, .int .i64 a), (2, .int .i64 b), (3, .int .i64 lim), (4, .fn 16 [])], H0 y, 1⟩
def J24t (bb : Bool) (x : Array Pr) (wb wp : Bool) (pv lim a b z : Nat) (s : St) : Prop :=
  s = ⟨[(97, .bool bb), (13, .int .i64 pv), (12, .int .i64 ((b - a : Nat) : Int)), (10, .bool wb), (11, .bool wp), (0, .osl 0 0 z), (1, .int .i64 a), (2, .int .i64 b), (3, .int .i64 lim), (4, .fn 16 [])], H0 x, 1⟩

theorem t55 (d : Array Pr) (z a b : Nat) (hz : d.size = z) (hab : a ≤ b) (hb : b ≤ d.size) (hs : d.size ≤ 1000000) :
    Body Tryz.prog tab 55 [.osl 0 0 z, .int .i64 a, .int .i64 b, .fn 16 []] (H0 d) 1 fun r s => r = .tup [] ∧ s.heap = H0 (Sort.insertionSort ltP d a b) ∧ s.nx = 1 := hz ▸ s55 d a b hab hb hs
theorem t56 (d : Array Pr) (z a b : Nat) (hz : d.size = z) (hab : a < b) (hb : b ≤ d.size) (hs : d.size ≤ 1000000) :
    Body Tryz.prog tab 56 [.osl 0 0 z, .int .i64 a, .int .i64 b, .fn 16 []] (H0 d) 1 fun r s => r = .tup [] ∧ s.heap = H0 (Sort.heapSort ltP d a b) ∧ s.nx = 1 := hz ▸ s56 d a b hab hb hs
theorem t58 (d : Array Pr) (z a b : Nat) (hz : d.size = z) (hab : a < b) (hb : b ≤ d.size) (hs : d.size ≤ 1000000) :
    Body Tryz.prog tab 58 [.osl 0 0 z, .int .i64 a, .int .i64 b, .fn 16 []] (H0 d) 1 fun r st => r = .tup [.int .i64 (Sort.choosePivot ltP d a b).1, .int .i64 (hI (Sort.choosePivot ltP d a b).2)] ∧ st.heap = H0 d ∧ st.nx = 1 := hz ▸ s58 d a b hab hb hs
theorem t59 (d : Array Pr) (z a b : Nat) (hz : d.size = z) (hab : a < b) (hb : b ≤ d.size) (hs : d.size ≤ 1000000) :
    Body Tryz.prog tab 59 [.osl 0 0 z, .int .i64 a, .int .i64 b, .fn 16 []] (H0 d) 1 fun r s => r = .tup [] ∧ s.heap = H0 (Sort.reverseRange d a b) ∧ s.nx = 1 := hz ▸ s59 d a b hab hb hs
theorem t60 (d : Array Pr) (z a b : Nat) (hz : d.size = z) (hab : a < b) (hb : b ≤ d.size) (hs : d.size ≤ 1000000) :
    Body Tryz.prog tab 60 [.osl 0 0 z, .int .i64 a, .int .i64 b, .fn 16 []] (H0 d) 1 fun r st => r = .bool (Sort.partialInsertionSort ltP d a b).2 ∧ st.heap = H0 (Sort.partialInsertionSort ltP d a b).1 ∧ st.nx = 1 := hz ▸ s60 d a b hab hb hs
theorem t61 (d : Array Pr) (z a b pv : Nat) (hz : d.size = z) (hab : a < b) (hpv : pv < d.size) (hb : b ≤ d.size) (hs : d.size ≤ 1000000) :
    Body Tryz.prog tab 61 [.osl 0 0 z, .int .i64 a, .int .i64 b, .int .i64 pv, .fn 16 []] (H0 d) 1 fun r st => r = .int .i64 (Sort.partitionEqual ltP d a b pv).1 ∧ st.heap = H0 (Sort.partitionEqual ltP d a b pv).2 ∧ st.nx = 1 := hz ▸ s61 d a b pv hab hpv hb hs
theorem t62 (d : Array Pr) (z a b pv : Nat) (hz : d.size = z) (hab : a < b) (hpv : pv < d.size) (hb : b ≤ d.size) (hs : d.size ≤ 1000000) :
    Body Tryz.prog tab 62 [.osl 0 0 z, .int .i64 a, .int .i64 b, .int .i64 pv, .fn 16 []] (H0 d) 1 fun r st => r = .tup [.int .i64 (Sort.partition ltP d a b pv).1, .bool (Sort.partition ltP d a b pv).2.1] ∧ st.heap = H0 (Sort.partition ltP d a b pv).2.2 ∧ st.nx = 1 := hz ▸ s62 d a b pv hab hpv hb hs

set_option maxHeartbeats 16000000 in
set_option maxRecDepth 10000 in
theorem s24 (bp : BP) : ∀ (n : Nat) (d : Array Pr) (z a b lim : Nat), b - a ≤ n → a ≤ b → b ≤ d.size → d.size ≤ 60 → d.size = z → lim ≤ 100 → Sort.Below ltP a b d →
    Body Tryz.prog tab 24 [.osl 0 0 z, .int .i64 a, .int .i64 b, .int .i64 lim, .fn 16 []] (H0 d) 1 (SP d a b) := by
  intro n
  induction n using Nat.strongRecOn with
  | ind n ih =>
  intro d z a b lim hn hab hb hs hz hlim hB
  subst hz
  refine Body.of_T Tryz.func24 rfl (by kernel_rfl) (by simp [Tryz.ntmps24]) fun C hC hC0 => ?_
  rw [Tryz.ntmps24] at hC
  refine T.seq (T.go' tabOk ?_)
  simp [hC]
  refine T.seq (T.go' tabOk ?_)
  simp [hC]
  refine T.block ?_
  refine T.loopLe (I24 d a b n) (n := b - a) ?_ ?_
  · refine upTo.trim [10, 11, 0, 1, 2, 3, 4] [0] 1 (by simp [H0, obP]) (by omega) ⟨d, a, b, lim, true, true, rfl, hab, hb, rfl, hlim, hn, hB, fun R h1 h2 => ⟨h1, h2⟩, ?_⟩
    simp [H0]
  · clear hB hlim hn hab hb lim
    rintro m s ⟨x, a', b', lim, wb, wp, rfl, hab, hb, hx, hlim, hn, hB, hR, rfl⟩
    have hL : (b' : Int) - (a' : Int) = ((b' - a' : Nat) : Int) := by omega
    have wL := w64 ((b' - a' : Nat) : Int) (by omega) (by omega)
    refine T.block (T.seq (T.go' tabOk ?_))
    simp [hC, hL, wL]
    refine T.seq (T.seq (T.go' tabOk ?_))
    simp [hC]
    refine T.cond_if rfl (fun h => ?_) (fun h => ?_)
    · refine T.seq (T.go' tabOk ?_)
      simp [hC]
      refine TL.callB tabOk (by simp [hC]) rfl rfl rfl (t55 x d.size a' b' hx hab (by omega) (by omega)) ?_
      rintro r st ⟨rfl, h2, h3⟩
      simp [h2, h3, hC]
      refine TL.go' tabOk ?_
      simp [hC]
      refine T.ret ?_
      obtain ⟨p1, p2⟩ := Sort.insertionSort_holds swoP x a' b' hab (by omega)
      obtain ⟨q1, q2⟩ := hR _ p1 p2
      exact upTo.here ⟨_, by simp [Tryz.results24], rfl, _, rfl, rfl, q1, q2⟩
    · have h12 : 12 < b' - a' := by
        have : ¬ ((b' - a' : Nat) : Int) ≤ 12 := by simpa using h
        omega
      refine T.skip ?_
      simp
      refine T.seq (T.seq (T.go' tabOk ?_))
      simp [hC]
      refine T.cond_if rfl (fun h1 => ?_) (fun h1 => ?_)
      · refine T.seq (T.go' tabOk ?_)
        simp [hC]
        refine TL.callB tabOk (by simp [hC]) rfl rfl rfl (t56 x d.size a' b' hx (by omega) (by omega) (by omega)) ?_
        rintro r st ⟨rfl, h2, h3⟩
        simp [h2, h3, hC]
        refine TL.go' tabOk ?_
        simp [hC]
        refine T.ret ?_
        obtain ⟨p1, p2⟩ := Sort.heapSort_holds swoP x a' b' hab (by omega)
        obtain ⟨q1, q2⟩ := hR _ p1 p2
        exact upTo.here ⟨_, by simp [Tryz.results24], rfl, _, rfl, rfl, q1, q2⟩
      · have hl0 : 0 < lim := by
          have : ¬ (lim : Int) = 0 := by simpa using h1
          omega
        refine T.skip ?_
        simp
        refine T.cut (J24a x wb wp a' b' d.size) ?_ ?_
        · refine T.seq (T.go' tabOk ?_)
          simp [hC]
          refine T.cond_if rfl (fun h2 => ?_) (fun h2 => ?_)
          · have wl := w64 ((lim : Int) - 1) (by omega) (by omega)
            refine T.seq (T.go' tabOk ?_)
            simp [hC]
            refine TL.callB tabOk (by simp [hC]) rfl rfl rfl (bp x d.size a' b' hx (by omega) (by omega) (by omega)) ?_
            rintro r st ⟨rfl, y, h2, h3, hp⟩
            simp [h2, h3, hC]
            refine TL.go' tabOk ?_
            simp [hC]
            refine T.go' tabOk ?_
            simp [hC, wl]
            refine upTo.trim [12, 10, 11, 0, 1, 2, 3, 4] [0] 1 (by simp [H0, obP]) (by omega) ⟨y, lim - 1, by omega, hp, ?_⟩
            simp [H0]
            omega
          · refine T.skip ?_
            simp
            refine upTo.trim [12, 10, 11, 0, 1, 2, 3, 4] [0] 1 (by simp [H0, obP]) (by omega) ⟨x, lim, hlim, Sort.permIn_refl _ _ _, ?_⟩
            simp [H0]
        · clear hlim hl0 h1 h
          rintro s ⟨x1, lim1, hlim, hp1, rfl⟩
          have hx1 : x1.size = d.size := by rw [hp1.1, hx]
          have hc0 := Sort.choosePivot_holds ltP x1 a' b' (by omega)
          refine T.seq (T.go' tabOk ?_)
          simp [hC]
          refine TL.callB tabOk (by simp [hC]) rfl rfl rfl (t58 x1 d.size a' b' hx1 (by omega) (by omega) (by omega)) ?_
          generalize Sort.choosePivot ltP x1 a' b' = cp at hc0 ⊢
          obtain ⟨pv, hint⟩ := cp
          simp only at hc0
          obtain ⟨hc1, hc2⟩ := hc0
          rintro r st ⟨rfl, h2, h3⟩
          simp [h2, h3, hC]
          refine TL.go' tabOk ?_
          simp [hC]
          refine T.cut (J24b x1 wb wp lim1 a' b' d.size) ?_ ?_
          · refine T.seq (T.go' tabOk ?_)
            simp [hC]
            refine T.cond_if rfl (fun h4 => ?_) (fun h4 => ?_)
            · obtain ⟨q1, hq1⟩ : ∃ q, q = pv - a' := ⟨_, rfl⟩
              obtain ⟨q2, hq2⟩ : ∃ q, q = b' - 1 := ⟨_, rfl⟩
              obtain ⟨q3, hq3⟩ : ∃ q, q = q2 - q1 := ⟨_, rfl⟩
              have e1 : (b' : Int) - 1 = (q2 : Int) := by omega
              have e2 : (pv : Int) - (a' : Int) = (q1 : Int) := by omega
              have e3 : (q2 : Int) - (q1 : Int) = (q3 : Int) := by omega
              have w1 := w64 (q1 : Int) (by omega) (by omega)
              have w2 := w64 (q2 : Int) (by omega) (by omega)
              have w3 := w64 (q3 : Int) (by omega) (by omega)
              refine T.seq (T.go' tabOk ?_)
              simp [hC]
              refine TL.callB tabOk (by simp [hC]) rfl rfl rfl (t59 x1 d.size a' b' hx1 (by omega) (by omega) (by omega)) ?_
              rintro r st ⟨rfl, h2, h3⟩
              simp [h2, h3, hC]
              refine TL.go' tabOk ?_
              simp [hC]
              refine T.seq (T.go' tabOk ?_)
              simp [hC, e1, e2, e3, w1, w2, w3]
              refine T.go' tabOk ?_
              simp [hC]
              refine upTo.trim [13, 14, 12, 10, 11, 0, 1, 2, 3, 4] [0] 1 (by simp [H0, obP]) (by omega) ⟨Sort.reverseRange x1 a' b', q3, 1, by omega, by omega, Sort.reverseRange_holds x1 a' b' hab (by omega), ?_⟩
              simp [H0]
            · refine T.skip ?_
              simp
              refine upTo.trim [13, 14, 12, 10, 11, 0, 1, 2, 3, 4] [0] 1 (by simp [H0, obP]) (by omega) ⟨x1, pv, hI hint, hc1, hc2, Sort.permIn_refl _ _ _, ?_⟩
              simp [H0]
          · clear hc1 hc2 hint pv
            rintro s ⟨x2, pv, hint, hc1, hc2, hp2, rfl⟩
            have hx2 : x2.size = d.size := by rw [hp2.1, hx1]
            have hp12 := Sort.permIn_trans _ _ _ a' b' hp1 hp2
            have hB2 : Sort.Below ltP a' b' x2 := hB.perm (by omega) hp12
            have hpi := Sort.partialInsertionSort_holds swoP x2 a' b' (by omega) (by omega) hB2
            refine T.cut (J24c x2 wb wp pv lim1 a' b' d.size) ?_ ?_
            · refine T.cut (J24d (wb && wp && (hint == 1)) x2 wb wp pv lim1 a' b' d.size) ?_ ?_
              · refine T.go' tabOk ?_
                cases wb <;> cases wp <;> simp [hC] <;> exact upTo.trim [75, 13, 12, 10, 11, 0, 1, 2, 3, 4] [0] 1 (by simp [H0, obP]) (by omega) (by simp [J24d, H0])
              · rintro s rfl
                refine T.cond_if rfl (fun h4 => ?_) (fun h4 => ?_)
                · refine T.seq (T.go' tabOk ?_)
                  simp [hC]
                  refine TL.callB tabOk (by simp [hC]) rfl rfl rfl (t60 x2 d.size a' b' hx2 (by omega) (by omega) (by omega)) ?_
                  generalize Sort.partialInsertionSort ltP x2 a' b' = pi at hpi ⊢
                  obtain ⟨x3, ok⟩ := pi
                  simp only at hpi
                  rintro r st ⟨rfl, h2, h3⟩
                  simp [h2, h3, hC]
                  refine TL.go' tabOk ?_
                  simp [hC]
                  refine T.cond_if rfl (fun h5 => ?_) (fun h5 => ?_)
                  · refine T.ret ?_
                    obtain ⟨q1, q2⟩ := hR _ (Sort.permIn_trans _ _ _ a' b' hp12 hpi.1) (hpi.2 h5)
                    exact upTo.here ⟨_, by simp [Tryz.results24], rfl, _, rfl, rfl, q1, q2⟩
                  · refine T.skip ?_
                    simp
                    refine upTo.trim [13, 12, 10, 11, 0, 1, 2, 3, 4] [0] 1 (by simp [H0, obP]) (by omega) ⟨x3, hpi.1, ?_⟩
                    simp [H0]
                · refine T.skip ?_
                  simp
                  refine upTo.trim [13, 12, 10, 11, 0, 1, 2, 3, 4] [0] 1 (by simp [H0, obP]) (by omega) ⟨x2, Sort.permIn_refl _ _ _, ?_⟩
                  simp [H0]
            · rintro s ⟨x3, hp3, rfl⟩
              have hx3 : x3.size = d.size := by rw [hp3.1, hx2]
              have hp123 := Sort.permIn_trans _ _ _ a' b' hp12 hp3
              have hB3 : Sort.Below ltP a' b' x3 := hB2.perm (by omega) hp3
              have hb3 : b' ≤ x3.size := by omega
              clear hpi hp1 hp2 hp3 hB hB2
              have hpx : pv < x3.size := by omega
              have hpz : pv < d.size := by omega
              refine T.seq (T.cut (J24t (decide (0 < a') && !ltP x3[a' - 1]! x3[pv]!) x3 wb wp pv lim1 a' b' d.size) ?_ ?_)
              · refine T.traceP tabOk follows [0, 1, 2, 3, 4, 5, 6, 7, 8, 9, 10, 11, 12, 13, 14, 15, 16] pcS_ok (by kernel_rfl) ?_
                by_cases ha0 : 0 < a'
                · obtain ⟨k, hk⟩ : ∃ k, a' = k + 1 := ⟨a' - 1, by omega⟩
                  have hkm : a' - 1 = k := by omega
                  have hki : (a' : Int) - 1 = (k : Int) := by omega
                  have wk := w64 (k : Int) (by omega) (by omega)
                  have hkx : k < x3.size := by omega
                  have hkz : k < d.size := by omega
                  simp [hC, ha0, H0, obP, ob_drop, hkx, hkz, hpx, hpz, hki, hkm, wk]
                  refine upTo.trim [97, 13, 12, 10, 11, 0, 1, 2, 3, 4] [0] 1 (by simp) (by omega) ?_
                  simp [J24t, H0, obP]
                · simp [hC, ha0, H0, obP]
                  refine upTo.trim [97, 13, 12, 10, 11, 0, 1, 2, 3, 4] [0] 1 (by simp) (by omega) ?_
                  simp [J24t, H0, obP]
              · rintro s rfl
                refine T.cond_if rfl (fun h4 => ?_) (fun h4 => ?_)
                · have h5 : 0 < a' ∧ ltP x3[a' - 1]! x3[pv]! = false := by simpa using h4
                  refine T.seq (T.go' tabOk ?_)
                  simp [hC]
                  refine TL.callB tabOk (by simp [hC]) rfl rfl rfl (t61 x3 d.size a' b' pv hx3 (by omega) hpx hb3 (by omega)) ?_
                  generalize hpe : Sort.partitionEqual ltP x3 a' b' pv = pe
                  obtain ⟨mid, x4⟩ := pe
                  obtain ⟨g1, g2, g3, g4, g5⟩ := Sort.round_eq swoP (Sort.partitionEqual_holds ltP) h5.1 hc1 hc2 hb3 hB3 h5.2 hpe
                  rintro r st ⟨rfl, h2, h3⟩
                  simp [h2, h3, hC]
                  refine TL.go' tabOk ?_
                  simp [hC]
                  refine T.seq (T.go' tabOk ?_)
                  simp [hC]
                  refine T.exit ?_
                  simp
                  refine ⟨b' - mid, by omega, upTo.trim [10, 11, 0, 1, 2, 3, 4] [0] 1 (by simp [H0, obP]) (by omega) ⟨x4, mid, b', lim1, wb, wp, rfl, g2, hb, by omega, hlim, by omega, g4, fun R r1 r2 => ?_, ?_⟩⟩
                  · obtain ⟨q1, q2⟩ := g5 R r1 r2
                    exact hR _ (Sort.permIn_trans _ _ _ a' b' hp123 q1) q2
                  · simp [H0]
                · refine T.skip ?_
                  simp
                  refine T.seq (T.go' tabOk ?_)
                  simp [hC]
                  refine TL.callB tabOk (by simp [hC]) rfl rfl rfl (t62 x3 d.size a' b' pv hx3 (by omega) hpx hb3 (by omega)) ?_
                  generalize hpt : Sort.partition ltP x3 a' b' pv = pt
                  obtain ⟨mid, ap, x4⟩ := pt
                  obtain ⟨g1, g2, g3, gB1, gB2, gL, gR⟩ := Sort.round_part swoP (Sort.partition_holds ltP) hc1 hc2 hb3 hB3 hpt
                  have hx4 : x4.size = d.size := by omega
                  rintro r st ⟨rfl, h2, h3⟩
                  simp [h2, h3, hC]
                  refine TL.go' tabOk ?_
                  simp [hC]
                  have e1 : (mid : Int) - (a' : Int) = ((mid - a' : Nat) : Int) := by omega
                  have e2 : (b' : Int) - (mid : Int) = ((b' - mid : Nat) : Int) := by omega
                  have e3 : ((b' - a' : Nat) : Int).tdiv 8 = (((b' - a') / 8 : Nat) : Int) := by
                    rw [Int.tdiv_eq_ediv_of_nonneg (by omega)]
                    omega
                  have w1 := w64 ((mid - a' : Nat) : Int) (by omega) (by omega)
                  have w2 := w64 ((b' - mid : Nat) : Int) (by omega) (by omega)
                  have w3 := w64 (((b' - a') / 8 : Nat) : Int) (by omega) (by omega)
                  have w4 := w64 ((mid : Int) + 1) (by omega) (by omega)
                  obtain ⟨m1, hm1⟩ : ∃ m1, m1 = mid + 1 := ⟨_, rfl⟩
                  have e4 : (mid : Int) + 1 = (m1 : Int) := by omega
                  rw [e4] at w4
                  refine T.seq (T.go' tabOk ?_)
                  simp [hC]
                  refine T.seq (T.go' tabOk ?_)
                  simp [hC, e1, e2, w1, w2]
                  refine T.seq (T.go' tabOk ?_)
                  simp [hC, e3, w3]
                  refine T.seq (T.go' tabOk ?_)
                  simp [hC]
                  refine T.cond_if rfl (fun h5 => ?_) (fun h5 => ?_)
                  · refine T.seq (T.go' tabOk ?_)
                    simp [hC]
                    refine T.seq (T.go' tabOk ?_)
                    simp [hC]
                    refine TL.callB tabOk (by simp [hC]) rfl rfl rfl (ih (n - 1) (by omega) x4 d.size a' mid lim1 (by omega) g1 (by omega) (by omega) hx4 hlim gB1) ?_
                    rintro r st ⟨rfl, y, h2, h3, r1, r2⟩
                    obtain ⟨k1, k2⟩ := gL y r1 r2
                    simp [h2, h3, hC]
                    refine TL.go' tabOk ?_
                    simp [hC]
                    refine T.go' tabOk ?_
                    simp [hC, e4, w4]
                    refine ⟨b' - m1, by omega, upTo.trim [10, 11, 0, 1, 2, 3, 4] [0] 1 (by simp [H0, obP]) (by omega) ⟨y, m1, b', lim1, decide (IntKind.i64.wrap (((b' - a' : Nat) : Int) / 8) ≤ ((mid - a' : Nat) : Int)), ap, rfl, by omega, hb, by rw [r1.1, hx4], hlim, by omega, hm1 ▸ k1, fun R t1 t2 => ?_, ?_⟩⟩
                    · subst hm1
                      obtain ⟨q1, q2⟩ := k2 R t1 t2
                      exact hR _ (Sort.permIn_trans _ _ _ a' b' hp123 q1) q2
                    · simp [H0]
                  · refine T.seq (T.go' tabOk ?_)
                    simp [hC]
                    refine T.seq (T.go' tabOk ?_)
                    simp [hC, e4, w4]
                    refine TL.callB tabOk (by simp [hC]) rfl rfl rfl (ih (n - 1) (by omega) x4 d.size m1 b' lim1 (by omega) (by omega) (by omega) (by omega) hx4 hlim (hm1 ▸ gB2)) ?_
                    rintro r st ⟨rfl, y, h2, h3, r1, r2⟩
                    subst hm1
                    obtain ⟨k1, k2⟩ := gR y r1 r2
                    simp [h2, h3, hC]
                    refine TL.go' tabOk ?_
                    simp [hC]
                    refine T.go' tabOk ?_
                    simp [hC]
                    refine ⟨mid - a', by omega, upTo.trim [10, 11, 0, 1, 2, 3, 4] [0] 1 (by simp [H0, obP]) (by omega) ⟨y, a', mid, lim1, decide (IntKind.i64.wrap (((b' - a' : Nat) : Int) / 8) ≤ ((b' - mid : Nat) : Int)), ap, rfl, g1, by omega, by rw [r1.1, hx4], hlim, by omega, k1, fun R t1 t2 => ?_, ?_⟩⟩
                    · obtain ⟨q1, q2⟩ := k2 R t1 t2
                      exact hR _ (Sort.permIn_trans _ _ _ a' b' hp123 q1) q2
                    · simp [H0]
end Go.Proofs.YtniilppjegieaaaGreat
