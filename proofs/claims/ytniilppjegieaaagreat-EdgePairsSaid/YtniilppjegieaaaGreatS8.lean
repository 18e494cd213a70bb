/- The sort of pairs: partition. Printed by gensort.py. -/
import Derived.Test.YtniilppjegieaaaGreatS7
namespace Go.Proofs.YtniilppjegieaaaGreat
open Go.Can
attribute [-simp] cput

def I62 (R : Nat × Array Pr) (a b pv z : Nat) (m : Nat) (s : St) : Prop := ∃ (i j : Nat) (x : Array Pr), m = j + 1 - i ∧ a < i ∧ j < z ∧ i ≤ z + 1 ∧ x.size = z ∧ Sort.partLoop ltP a i j x = R ∧ s = ⟨[(12, .int .i64 i), (13, .int .i64 j), (0, .osl 0 0 z), (1, .int .i64 a), (2, .int .i64 b), (3, .int .i64 pv), (4, .fn 16 [])], H0 x, 1⟩

set_option maxHeartbeats 16000000 in
set_option maxRecDepth 10000 in
theorem s62 (d : Array Pr) (a b pv : Nat) (hab : a < b) (hpv : pv < d.size) (hb : b ≤ d.size) (hs : d.size ≤ 1000000) :
    Body Tryz.prog tab 62 [.osl 0 0 d.size, .int .i64 a, .int .i64 b, .int .i64 pv, .fn 16 []] (H0 d) 1 fun r st => r = .tup [.int .i64 (Sort.partition ltP d a b pv).1, .bool (Sort.partition ltP d a b pv).2.1] ∧ st.heap = H0 (Sort.partition ltP d a b pv).2.2 ∧ st.nx = 1 := by
  refine Body.of_T Tryz.func62 rfl (by kernel_rfl) (by simp [Tryz.ntmps62]) fun C hC hC0 => ?_
  rw [Tryz.ntmps62] at hC
  have haz : a < d.size := by omega
  have ha1 : a + 1 ≤ d.size := by omega
  have hp1 : pv + 1 ≤ d.size := by omega
  have haI := w64 ((a : Int) + 1) (by omega) (by omega)
  obtain ⟨j, hj⟩ : ∃ c, b = c + 1 := ⟨b - 1, by omega⟩
  have hcI : (b : Int) - 1 = (j : Int) := by omega
  have wc := w64 (j : Int) (by omega) (by omega)
  refine T.seq (T.go' tabOk ?_)
  simp [hC]
  refine T.seq ?_
  refine T.traceP tabOk follows [0, 1, 2, 3, 4, 5, 6, 7, 8, 9, 10, 11, 12, 13, 14, 15] pcS_ok (by kernel_rfl) ?_
  simp [hC, H0, obP, ob_drop, haz, hpv, ha1, hp1]
  refine T.seq (T.go' tabOk ?_)
  simp [hC, haI, hcI, wc]
  have hsw := ob_swp d a pv haz hpv
  simp [haz, hpv] at hsw
  obtain ⟨x, hxd⟩ : ∃ x, x = Sort.swp d a pv := ⟨_, rfl⟩
  obtain ⟨i, hid⟩ : ∃ i, i = a + 1 := ⟨_, rfl⟩
  have hjd : j = b - 1 := by omega
  have hiI : (a : Int) + 1 = (i : Int) := by omega
  have hx : x.size = d.size := by rw [hxd]; simp
  have hax : a < x.size := by omega
  have ha1x : a + 1 ≤ x.size := by omega
  have hH : H0 x = [(0, ⟨31, 1, List.map row (Sort.swp d a pv).toList⟩)] := by rw [hxd]; rfl
  refine T.le (Le.trim [12, 13, 0, 1, 2, 3, 4] [0] 1 (by simp [hsw]) (by omega)) ?_
  simp [hsw, hiI]
  rw [← hH]
  clear hsw hH
  refine T.cut (S6 12 13 (Sort.scanUp (fun q => ltP q x[a]!) x j i) j a b pv d.size x) ?_ ?_
  · refine T.block ?_
    refine T.loopLe (IU6 (fun q => ltP q x[a]!) 12 13 i j a b pv d.size x) (n := j + 1 - i) ?_ ?_
    · exact upTo.here ⟨i, rfl, Nat.le_refl _, rfl, rfl⟩
    · rintro n s ⟨i1, rfl, hi0, hso, rfl⟩
      refine T.seq (T.cut (J6t 47 (decide (i1 ≤ j) && ltP x[i1]! x[a]!) 12 13 i1 j a b pv d.size x) ?_ ?_)
      · refine T.traceP tabOk follows [0, 1, 2, 3, 4, 5, 6, 7, 8, 9, 10, 11, 12, 13, 14, 15] pcS_ok (by kernel_rfl) ?_
        by_cases hij : i1 ≤ j
        · have hi1x : i1 < x.size := by omega
          have hi1z : i1 < d.size := by omega
          simp [hC, hij, H0, obP, ob_drop, hi1x, hi1z, hax, haz]
          refine upTo.trim [47, 12, 13, 0, 1, 2, 3, 4] [0] 1 (by simp) (by omega) ?_
          simp [J6t, H0, obP, hij]
        · simp [hC, hij, H0, obP]
          refine upTo.trim [47, 12, 13, 0, 1, 2, 3, 4] [0] 1 (by simp) (by omega) ?_
          simp [J6t, H0, obP, hij]
      · rintro s rfl
        refine T.cond_if rfl (fun h2 => ?_) (fun h2 => ?_)
        · have h3 : i1 ≤ j ∧ (fun q => ltP q x[a]!) x[i1]! = true := by simpa using h2
          have wi := w64 ((i1 : Int) + 1) (by omega) (by omega)
          refine T.skip ?_
          simp
          refine T.block (T.go' tabOk ?_)
          simp [hC, wi]
          refine ⟨j + 1 - (i1 + 1), by omega, upTo.trim [12, 13, 0, 1, 2, 3, 4] [0] 1 (by simp [H0, obP]) (by omega) ⟨i1 + 1, rfl, by omega, ?_, ?_⟩⟩
          · rw [← hso, scanUp_go _ _ _ _ h3.1 h3.2]
          · simp [H0]
        · have h3 : ¬ i1 ≤ j ∨ (fun q => ltP q x[a]!) x[i1]! = false := by
            by_cases hij : i1 ≤ j
            · exact .inr (by simpa [hij] using h2)
            · exact .inl hij
          rw [scanUp_end _ _ _ _ h3] at hso
          refine T.exit ?_
          simp
          refine upTo.trim [12, 13, 0, 1, 2, 3, 4] [0] 1 (by simp [H0, obP]) (by omega) ?_
          simp [S6, H0, ← hso]
  · rintro s rfl
    generalize hi2 : Sort.scanUp (fun q => ltP q x[a]!) x j i = i2
    have hi2i : i ≤ i2 := by rw [← hi2]; exact Sort.scanUp_ge _ _ _ _
    refine T.cut (S6 12 13 i2 (Sort.scanDown (fun q => !ltP q x[a]!) x i2 j) a b pv d.size x) ?_ ?_
    · refine T.block ?_
      refine T.loopLe (ID6 (fun q => !ltP q x[a]!) 12 13 i2 j a b pv d.size x) (n := j) ?_ ?_
      · exact upTo.here ⟨Nat.le_refl _, rfl, rfl⟩
      · rintro j1 s ⟨hj0, hso, rfl⟩
        refine T.seq (T.cut (J6t 66 (decide (i2 ≤ j1) && !ltP x[j1]! x[a]!) 12 13 i2 j1 a b pv d.size x) ?_ ?_)
        · refine T.traceP tabOk follows [0, 1, 2, 3, 4, 5, 6, 7, 8, 9, 10, 11, 12, 13, 14, 15, 16] pcS_ok (by kernel_rfl) ?_
          by_cases hij : i2 ≤ j1
          · have hj1x : j1 < x.size := by omega
            have hj1z : j1 < d.size := by omega
            simp [hC, hij, H0, obP, ob_drop, hj1x, hj1z, hax, haz]
            refine upTo.trim [66, 12, 13, 0, 1, 2, 3, 4] [0] 1 (by simp) (by omega) ?_
            simp [J6t, H0, obP, hij]
          · simp [hC, hij, H0, obP]
            refine upTo.trim [66, 12, 13, 0, 1, 2, 3, 4] [0] 1 (by simp) (by omega) ?_
            simp [J6t, H0, obP, hij]
        · rintro s rfl
          refine T.cond_if rfl (fun h2 => ?_) (fun h2 => ?_)
          · have h3 : i2 ≤ j1 ∧ (fun q => !ltP q x[a]!) x[j1]! = true := by simpa using h2
            obtain ⟨j2, hj2⟩ : ∃ j2, j1 = j2 + 1 := ⟨j1 - 1, by omega⟩
            have hjI : (j1 : Int) - 1 = (j2 : Int) := by omega
            have wj := w64 (j2 : Int) (by omega) (by omega)
            refine T.skip ?_
            simp
            refine T.block (T.go' tabOk ?_)
            simp [hC, hjI, wj]
            refine ⟨j2, by omega, upTo.trim [12, 13, 0, 1, 2, 3, 4] [0] 1 (by simp [H0, obP]) (by omega) ⟨by omega, ?_, ?_⟩⟩
            · rw [← hso, scanDown_go _ _ _ _ h3.1 (by omega) h3.2, hj2]
              rfl
            · simp [H0]
          · have h3 : ¬ i2 ≤ j1 ∨ (fun q => !ltP q x[a]!) x[j1]! = false := by
              by_cases hij : i2 ≤ j1
              · exact .inr (by simpa [hij] using h2)
              · exact .inl hij
            rw [scanDown_end _ _ _ _ h3] at hso
            refine T.exit ?_
            simp
            refine upTo.trim [12, 13, 0, 1, 2, 3, 4] [0] 1 (by simp [H0, obP]) (by omega) ?_
            simp [S6, H0, ← hso]
    · rintro s rfl
      generalize hj2 : Sort.scanDown (fun q => !ltP q x[a]!) x i2 j = j2
      have hj2j : j2 ≤ j := by rw [← hj2]; exact Sort.scanDown_le _ _ _ _
      have hjx : j2 < x.size := by omega
      have hjz : j2 < d.size := by omega
      have hj1 : j2 + 1 ≤ x.size := by omega
      refine T.seq (T.seq (T.go' tabOk ?_))
      simp [hC]
      refine T.cond_if rfl (fun h => ?_) (fun h => ?_)
      · have hji : j2 < i2 := by simpa using h
        have hpart := part_first_break ltP d a b pv hid hjd hxd hi2.symm hj2.symm hji
        refine T.seq ?_
        refine T.traceP tabOk follows [0, 1, 2, 3, 4, 5, 6, 7, 8, 9, 10, 11, 12, 13, 14, 15] pcS_ok (by kernel_rfl) ?_
        simp [hC, H0, obP, ob_drop, hjx, hjz, hj1, hax, haz, ha1x]
        refine T.seq (T.go' tabOk ?_)
        simp [hC]
        have hsw := ob_swp x j2 a hjx hax
        simp [hjx, hax] at hsw
        refine T.ret ?_
        refine upTo.le (Le.trim [10, 11] [0] 1 (by simp [hsw]) (by omega)) (upTo.here ⟨_, by simp [Tryz.results62]; rfl, ?_⟩)
        rw [hpart]
        simp [H0, obP, hsw]
      · have hji : ¬ i2 > j2 := by simpa using h
        have hpart := part_first_go ltP d a b pv hid hjd hxd hi2.symm hj2.symm hji
        obtain ⟨k, hk⟩ : ∃ k, j2 = k + 1 := ⟨j2 - 1, by omega⟩
        have hkI : (j2 : Int) - 1 = (k : Int) := by omega
        have wk := w64 (k : Int) (by omega) (by omega)
        have wi := w64 ((i2 : Int) + 1) (by omega) (by omega)
        have hix : i2 < x.size := by omega
        have hiz : i2 < d.size := by omega
        have hi1 : i2 + 1 ≤ x.size := by omega
        refine T.skip ?_
        simp
        refine T.seq ?_
        refine T.traceP tabOk follows [0, 1, 2, 3, 4, 5, 6, 7, 8, 9, 10, 11, 12, 13, 14, 15] pcS_ok (by kernel_rfl) ?_
        simp [hC, H0, obP, ob_drop, hix, hiz, hi1, hjx, hjz, hj1]
        refine T.seq (T.go' tabOk ?_)
        simp [hC, wi]
        refine T.seq (T.go' tabOk ?_)
        simp [hC, hkI, wk]
        have hsw := ob_swp x i2 j2 hix hjx
        simp [hix, hjx] at hsw
        refine T.seq (T.block ?_)
        refine T.loopLe (I62 (Sort.partLoop ltP a (i2 + 1) (j2 - 1) (Sort.swp x i2 j2)) a b pv d.size) (n := k + 1 - (i2 + 1)) ?_ ?_
        · refine upTo.trim [12, 13, 0, 1, 2, 3, 4] [0] 1 (by simp [hsw]) (by omega) ⟨i2 + 1, k, Sort.swp x i2 j2, rfl, by omega, by omega, by omega, by simp [hx], ?_, ?_⟩
          · rw [hk]
            rfl
          · simp [H0, obP, hsw]
        · clear hsw hix hiz hi1 hjx hjz hj1 h hkI wk wi
          rintro n s ⟨i3, j3, y, rfl, hai3, hjd3, hid3, hy, ho, rfl⟩
          have hax : a < y.size := by omega
          have ha1y : a + 1 ≤ y.size := by omega
          refine T.block ?_
          refine T.cut (S6 12 13 (Sort.scanUp (fun q => ltP q y[a]!) y j3 i3) j3 a b pv d.size y) ?_ ?_
          · refine T.block ?_
            refine T.loopLe (IU6 (fun q => ltP q y[a]!) 12 13 i3 j3 a b pv d.size y) (n := j3 + 1 - i3) ?_ ?_
            · exact upTo.here ⟨i3, rfl, Nat.le_refl _, rfl, rfl⟩
            · rintro n s ⟨i1, rfl, hi0, hso, rfl⟩
              refine T.seq (T.cut (J6t 120 (decide (i1 ≤ j3) && ltP y[i1]! y[a]!) 12 13 i1 j3 a b pv d.size y) ?_ ?_)
              · refine T.traceP tabOk follows [0, 1, 2, 3, 4, 5, 6, 7, 8, 9, 10, 11, 12, 13, 14, 15] pcS_ok (by kernel_rfl) ?_
                by_cases hij : i1 ≤ j3
                · have hi1x : i1 < y.size := by omega
                  have hi1z : i1 < d.size := by omega
                  simp [hC, hij, H0, obP, ob_drop, hi1x, hi1z, hax, haz]
                  refine upTo.trim [120, 12, 13, 0, 1, 2, 3, 4] [0] 1 (by simp) (by omega) ?_
                  simp [J6t, H0, obP, hij]
                · simp [hC, hij, H0, obP]
                  refine upTo.trim [120, 12, 13, 0, 1, 2, 3, 4] [0] 1 (by simp) (by omega) ?_
                  simp [J6t, H0, obP, hij]
              · rintro s rfl
                refine T.cond_if rfl (fun h2 => ?_) (fun h2 => ?_)
                · have h3 : i1 ≤ j3 ∧ (fun q => ltP q y[a]!) y[i1]! = true := by simpa using h2
                  have wi := w64 ((i1 : Int) + 1) (by omega) (by omega)
                  refine T.skip ?_
                  simp
                  refine T.block (T.go' tabOk ?_)
                  simp [hC, wi]
                  refine ⟨j3 + 1 - (i1 + 1), by omega, upTo.trim [12, 13, 0, 1, 2, 3, 4] [0] 1 (by simp [H0, obP]) (by omega) ⟨i1 + 1, rfl, by omega, ?_, ?_⟩⟩
                  · rw [← hso, scanUp_go _ _ _ _ h3.1 h3.2]
                  · simp [H0]
                · have h3 : ¬ i1 ≤ j3 ∨ (fun q => ltP q y[a]!) y[i1]! = false := by
                    by_cases hij : i1 ≤ j3
                    · exact .inr (by simpa [hij] using h2)
                    · exact .inl hij
                  rw [scanUp_end _ _ _ _ h3] at hso
                  refine T.exit ?_
                  simp
                  refine upTo.trim [12, 13, 0, 1, 2, 3, 4] [0] 1 (by simp [H0, obP]) (by omega) ?_
                  simp [S6, H0, ← hso]
          · rintro s rfl
            generalize hi4 : Sort.scanUp (fun q => ltP q y[a]!) y j3 i3 = i4
            have hi4i : i3 ≤ i4 := by rw [← hi4]; exact Sort.scanUp_ge _ _ _ _
            refine T.cut (S6 12 13 i4 (Sort.scanDown (fun q => !ltP q y[a]!) y i4 j3) a b pv d.size y) ?_ ?_
            · refine T.block ?_
              refine T.loopLe (ID6 (fun q => !ltP q y[a]!) 12 13 i4 j3 a b pv d.size y) (n := j3) ?_ ?_
              · exact upTo.here ⟨Nat.le_refl _, rfl, rfl⟩
              · rintro j1 s ⟨hj0, hso, rfl⟩
                refine T.seq (T.cut (J6t 139 (decide (i4 ≤ j1) && !ltP y[j1]! y[a]!) 12 13 i4 j1 a b pv d.size y) ?_ ?_)
                · refine T.traceP tabOk follows [0, 1, 2, 3, 4, 5, 6, 7, 8, 9, 10, 11, 12, 13, 14, 15, 16] pcS_ok (by kernel_rfl) ?_
                  by_cases hij : i4 ≤ j1
                  · have hj1x : j1 < y.size := by omega
                    have hj1z : j1 < d.size := by omega
                    simp [hC, hij, H0, obP, ob_drop, hj1x, hj1z, hax, haz]
                    refine upTo.trim [139, 12, 13, 0, 1, 2, 3, 4] [0] 1 (by simp) (by omega) ?_
                    simp [J6t, H0, obP, hij]
                  · simp [hC, hij, H0, obP]
                    refine upTo.trim [139, 12, 13, 0, 1, 2, 3, 4] [0] 1 (by simp) (by omega) ?_
                    simp [J6t, H0, obP, hij]
                · rintro s rfl
                  refine T.cond_if rfl (fun h2 => ?_) (fun h2 => ?_)
                  · have h3 : i4 ≤ j1 ∧ (fun q => !ltP q y[a]!) y[j1]! = true := by simpa using h2
                    obtain ⟨j2, hj2⟩ : ∃ j2, j1 = j2 + 1 := ⟨j1 - 1, by omega⟩
                    have hjI : (j1 : Int) - 1 = (j2 : Int) := by omega
                    have wj := w64 (j2 : Int) (by omega) (by omega)
                    refine T.skip ?_
                    simp
                    refine T.block (T.go' tabOk ?_)
                    simp [hC, hjI, wj]
                    refine ⟨j2, by omega, upTo.trim [12, 13, 0, 1, 2, 3, 4] [0] 1 (by simp [H0, obP]) (by omega) ⟨by omega, ?_, ?_⟩⟩
                    · rw [← hso, scanDown_go _ _ _ _ h3.1 (by omega) h3.2, hj2]
                      rfl
                    · simp [H0]
                  · have h3 : ¬ i4 ≤ j1 ∨ (fun q => !ltP q y[a]!) y[j1]! = false := by
                      by_cases hij : i4 ≤ j1
                      · exact .inr (by simpa [hij] using h2)
                      · exact .inl hij
                    rw [scanDown_end _ _ _ _ h3] at hso
                    refine T.exit ?_
                    simp
                    refine upTo.trim [12, 13, 0, 1, 2, 3, 4] [0] 1 (by simp [H0, obP]) (by omega) ?_
                    simp [S6, H0, ← hso]
            · rintro s rfl
              generalize hj4 : Sort.scanDown (fun q => !ltP q y[a]!) y i4 j3 = j4
              have hj4j : j4 ≤ j3 := by rw [← hj4]; exact Sort.scanDown_le _ _ _ _
              have hjx : j4 < y.size := by omega
              have hjz : j4 < d.size := by omega
              have hj1 : j4 + 1 ≤ y.size := by omega
              refine T.seq (T.seq (T.go' tabOk ?_))
              simp [hC]
              refine T.cond_if rfl (fun h => ?_) (fun h => ?_)
              · have hji : j4 < i4 := by simpa using h
                rw [part_break ltP a i3 j3 y hi4.symm hj4.symm hji] at ho
                refine T.exit ?_
                simp
                refine T.seq ?_
                refine T.traceP tabOk follows [0, 1, 2, 3, 4, 5, 6, 7, 8, 9, 10, 11, 12, 13, 14, 15] pcS_ok (by kernel_rfl) ?_
                simp [hC, H0, obP, ob_drop, hjx, hjz, hj1, hax, haz, ha1y]
                refine T.seq (T.go' tabOk ?_)
                simp [hC]
                have hsw := ob_swp y j4 a hjx hax
                simp [hjx, hax] at hsw
                refine T.ret ?_
                refine upTo.le (Le.trim [10, 11] [0] 1 (by simp [hsw]) (by omega)) (upTo.here ⟨_, by simp [Tryz.results62]; rfl, ?_⟩)
                rw [hpart, ← ho]
                simp [H0, obP, hsw]
              · have hji : ¬ i4 > j4 := by simpa using h
                rw [part_go ltP a i3 j3 y hi4.symm hj4.symm hji] at ho
                obtain ⟨k, hk⟩ : ∃ k, j4 = k + 1 := ⟨j4 - 1, by omega⟩
                have hkI : (j4 : Int) - 1 = (k : Int) := by omega
                have wk := w64 (k : Int) (by omega) (by omega)
                have wi := w64 ((i4 : Int) + 1) (by omega) (by omega)
                have hix : i4 < y.size := by omega
                have hiz : i4 < d.size := by omega
                have hi1 : i4 + 1 ≤ y.size := by omega
                refine T.skip ?_
                simp
                refine T.seq ?_
                refine T.traceP tabOk follows [0, 1, 2, 3, 4, 5, 6, 7, 8, 9, 10, 11, 12, 13, 14, 15] pcS_ok (by kernel_rfl) ?_
                simp [hC, H0, obP, ob_drop, hix, hiz, hi1, hjx, hjz, hj1]
                refine T.seq (T.go' tabOk ?_)
                simp [hC, wi]
                refine T.go' tabOk ?_
                simp [hC, hkI, wk]
                have hsw := ob_swp y i4 j4 hix hjx
                simp [hix, hjx] at hsw
                refine ⟨k + 1 - (i4 + 1), by omega, upTo.trim [12, 13, 0, 1, 2, 3, 4] [0] 1 (by simp [hsw]) (by omega) ⟨i4 + 1, k, Sort.swp y i4 j4, rfl, by omega, by omega, by omega, by simp [hy], ?_, ?_⟩⟩
                · rw [← ho, hk]
                  rfl
                · simp [H0, obP, hsw]
end Go.Proofs.YtniilppjegieaaaGreat

/- The sort of pairs: partialInsertionSort. -/
namespace Go.Can
theorem T.cutQ {P : Program} {C : Cx} {s : St} {c : Code} {Q : Exit → St → Prop} (J : St → Prop) (h : T P C c s (thenS (upTo C J) Q)) (hJ : ∀ s', J s' → Q .normal s') : T P C c s Q := by
  refine T.post h fun e s' q => ?_
  cases e with
  | normal =>
    obtain ⟨s'', h1, h2⟩ := q
    exact ⟨s'', hJ _ h1, h2⟩
  | _ => exact ⟨s', q, Le.refl _⟩
end Go.Can
namespace Go.Proofs.YtniilppjegieaaaGreat
open Go.Can
attribute [-simp] cput

theorem scanSorted_le (d : Array Pr) (b : Nat) : ∀ (n i : Nat), b - i = n → i ≤ b → i ≤ Sort.scanSorted ltP d b i ∧ Sort.scanSorted ltP d b i ≤ b
  | 0, i, h, hi => by unfold Sort.scanSorted; rw [if_neg (by simp; omega)]; omega
  | n + 1, i, h, hi => by
    unfold Sort.scanSorted
    split
    · have := scanSorted_le d b n (i + 1) (by omega) (by omega)
      omega
    · omega
theorem shiftDown_size : ∀ (j : Nat) (d : Array Pr), (Sort.shiftDown ltP j d).size = d.size
  | 0, _ => rfl
  | j + 1, d => by
    unfold Sort.shiftDown
    split
    · rfl
    · rw [shiftDown_size j]; simp
theorem shiftUp_size (b : Nat) : ∀ (n j : Nat) (d : Array Pr), b - j = n → (Sort.shiftUp ltP b j d).size = d.size
  | 0, j, d, h => by unfold Sort.shiftUp; rw [if_neg (by omega)]
  | n + 1, j, d, h => by
    unfold Sort.shiftUp
    rw [if_pos (by omega)]
    split
    · rfl
    · rw [shiftUp_size b n (j + 1) _ (by omega)]; simp

def S60 (c i a b z : Nat) (x : Array Pr) : St → Prop := fun s => s = ⟨[(10, .int .i64 c), (9, .int .i64 i), (0, .osl 0 0 z), (1, .int .i64 a), (2, .int .i64 b), (3, .fn 16 [])], H0 x, 1⟩
def J60 (t : Nat) (bb : Bool) (c i a b z : Nat) (x : Array Pr) : St → Prop := fun s => s = ⟨[(t, .bool bb), (10, .int .i64 c), (9, .int .i64 i), (0, .osl 0 0 z), (1, .int .i64 a), (2, .int .i64 b), (3, .fn 16 [])], H0 x, 1⟩
def J60' (t : Nat) (bb : Bool) (u j c i a b z : Nat) (x : Array Pr) : St → Prop := fun s => s = ⟨[(t, .bool bb), (u, .int .i64 j), (10, .int .i64 c), (9, .int .i64 i), (0, .osl 0 0 z), (1, .int .i64 a), (2, .int .i64 b), (3, .fn 16 [])], H0 x, 1⟩
def I60 (d : Array Pr) (a b m : Nat) (s : St) : Prop := ∃ (c i : Nat) (x : Array Pr), m = 5 - c ∧ c ≤ 5 ∧ a < i ∧ i ≤ b ∧ x.size = d.size ∧ Sort.partialIns ltP a b (5 - c) i x = Sort.partialInsertionSort ltP d a b ∧ s = ⟨[(10, .int .i64 c), (9, .int .i64 i), (0, .osl 0 0 d.size), (1, .int .i64 a), (2, .int .i64 b), (3, .fn 16 [])], H0 x, 1⟩
def IS60 (c i0 a b z : Nat) (x : Array Pr) (m : Nat) (s : St) : Prop := ∃ i, m = b - i ∧ i0 ≤ i ∧ i ≤ b ∧ Sort.scanSorted ltP x b i = Sort.scanSorted ltP x b i0 ∧ s = ⟨[(10, .int .i64 c), (9, .int .i64 i), (0, .osl 0 0 z), (1, .int .i64 a), (2, .int .i64 b), (3, .fn 16 [])], H0 x, 1⟩
def ID60 (c i a b z : Nat) (R : Array Pr) (m : Nat) (s : St) : Prop := m ≤ i ∧ ∃ x : Array Pr, x.size = z ∧ Sort.shiftDown ltP m x = R ∧ s = ⟨[(11, .int .i64 m), (10, .int .i64 c), (9, .int .i64 i), (0, .osl 0 0 z), (1, .int .i64 a), (2, .int .i64 b), (3, .fn 16 [])], H0 x, 1⟩
def IU60 (c i a b z : Nat) (R : Array Pr) (m : Nat) (s : St) : Prop := ∃ (j : Nat) (x : Array Pr), m = b - j ∧ 1 ≤ j ∧ j ≤ b ∧ x.size = z ∧ Sort.shiftUp ltP b j x = R ∧ s = ⟨[(12, .int .i64 j), (10, .int .i64 c), (9, .int .i64 i), (0, .osl 0 0 z), (1, .int .i64 a), (2, .int .i64 b), (3, .fn 16 [])], H0 x, 1⟩

set_option maxHeartbeats 16000000 in
set_option maxRecDepth 10000 in
theorem s60 (d : Array Pr) (a b : Nat) (hab : a < b) (hb : b ≤ d.size) (hs : d.size ≤ 1000000) :
    Body Tryz.prog tab 60 [.osl 0 0 d.size, .int .i64 a, .int .i64 b, .fn 16 []] (H0 d) 1 fun r st => r = .bool (Sort.partialInsertionSort ltP d a b).2 ∧ st.heap = H0 (Sort.partialInsertionSort ltP d a b).1 ∧ st.nx = 1 := by
  refine Body.of_T Tryz.func60 rfl (by kernel_rfl) (by simp [Tryz.ntmps60]) fun C hC hC0 => ?_
  rw [Tryz.ntmps60] at hC
  have wa := w64 ((a : Int) + 1) (by omega) (by omega)
  have hba : (b : Int) - (a : Int) = ((b - a : Nat) : Int) := by omega
  have wba := w64 ((b - a : Nat) : Int) (by omega) (by omega)
  refine T.seq (T.go' tabOk ?_)
  simp [hC]
  refine T.seq (T.go' tabOk ?_)
  simp [hC, wa]
  refine T.seq (T.seq (T.go' tabOk ?_))
  simp [hC]
  refine T.block ?_
  refine T.loopLe (I60 d a b) (n := 5) ?_ ?_
  · refine upTo.trim [10, 9, 0, 1, 2, 3] [0] 1 (by simp [H0, obP]) (by omega) ⟨0, a + 1, d, rfl, by omega, by omega, by omega, rfl, rfl, ?_⟩
    simp [H0]
  · rintro n s ⟨c, i0, x, rfl, hc5, hai0, hi0b, hx, ho, rfl⟩
    refine T.seq (T.seq (T.go' tabOk ?_))
    simp [hC]
    refine T.cond_if rfl (fun h => ?_) (fun h => ?_)
    · have hc : c < 5 := by
        have : (c : Int) < 5 := by simpa using h
        omega
      obtain ⟨s5, hs5⟩ : ∃ s5, 5 - c = s5 + 1 := ⟨4 - c, by omega⟩
      refine T.skip ?_
      simp
      refine T.seq (T.block ?_)
      refine T.cut (S60 c (Sort.scanSorted ltP x b i0) a b d.size x) ?_ ?_
      · refine T.block ?_
        refine T.loopLe (IS60 c i0 a b d.size x) (n := b - i0) ?_ ?_
        · refine upTo.trim [10, 9, 0, 1, 2, 3] [0] 1 (by simp [H0, obP]) (by omega) ⟨i0, rfl, Nat.le_refl _, hi0b, rfl, ?_⟩
          simp [H0]
        · rintro n s ⟨i, rfl, hi0i, hib, hso, rfl⟩
          obtain ⟨k, hk⟩ : ∃ k, i = k + 1 := ⟨i - 1, by omega⟩
          have hkm : i - 1 = k := by omega
          have hki : (i : Int) - 1 = (k : Int) := by omega
          have wk := w64 (k : Int) (by omega) (by omega)
          refine T.seq (T.cut (J60 36 (decide (i < b) && !ltP x[i]! x[i - 1]!) c i a b d.size x) ?_ ?_)
          · refine T.traceP tabOk follows [0, 1, 2, 3, 4, 5, 6, 7, 8, 9, 10, 11, 12, 13, 14, 15, 16, 17] pcS_ok (by kernel_rfl) ?_
            by_cases hij : i < b
            · have hix : i < x.size := by omega
              have hiz : i < d.size := by omega
              have hkx : k < x.size := by omega
              have hkz : k < d.size := by omega
              simp [hC, hij, H0, obP, ob_drop, hix, hiz, hkx, hkz, hki, hkm, wk]
              refine upTo.trim [36, 10, 9, 0, 1, 2, 3] [0] 1 (by simp) (by omega) ?_
              simp [J60, H0, obP]
            · simp [hC, hij, H0, obP]
              refine upTo.trim [36, 10, 9, 0, 1, 2, 3] [0] 1 (by simp) (by omega) ?_
              simp [J60, H0, obP]
          · rintro s rfl
            refine T.cond_if rfl (fun h2 => ?_) (fun h2 => ?_)
            · have h3 : i < b := by
                have := (Bool.and_eq_true_iff.1 h2).1
                simpa using this
              have wi := w64 ((i : Int) + 1) (by omega) (by omega)
              refine T.skip ?_
              simp
              refine T.block (T.go' tabOk ?_)
              simp [hC, wi]
              refine ⟨b - (i + 1), by omega, upTo.trim [10, 9, 0, 1, 2, 3] [0] 1 (by simp [H0, obP]) (by omega) ⟨i + 1, rfl, by omega, by omega, ?_, ?_⟩⟩
              · rw [← hso]
                conv => rhs; unfold Sort.scanSorted
                rw [if_pos h2]
              · simp [H0]
            · have h3 : Sort.scanSorted ltP x b i = i := by
                unfold Sort.scanSorted
                rw [if_neg (by rw [h2]; simp)]
              rw [h3] at hso
              refine T.exit ?_
              simp
              refine upTo.trim [10, 9, 0, 1, 2, 3] [0] 1 (by simp [H0, obP]) (by omega) ?_
              simp [S60, H0, ← hso]
      · rintro s rfl
        obtain ⟨hsi, hsb⟩ := scanSorted_le x b _ i0 rfl hi0b
        rw [hs5] at ho
        unfold Sort.partialIns at ho
        simp only at ho
        generalize Sort.scanSorted ltP x b i0 = i at hsi hsb ho
        refine T.seq (T.seq (T.go' tabOk ?_))
        simp [hC]
        refine T.cond_if rfl (fun h1 => ?_) (fun h1 => ?_)
        · have hib : i = b := by
            have : (i : Int) = (b : Int) := by simpa using h1
            omega
          rw [if_pos hib] at ho
          refine T.seq (T.go' tabOk ?_)
          simp [hC]
          refine T.ret ?_
          refine upTo.here ⟨_, by simp [Tryz.results60]; rfl, ?_⟩
          rw [← ho]
          exact ⟨rfl, rfl, rfl⟩
        · have hib : ¬ i = b := by
            intro e
            simp [e] at h1
          rw [if_neg hib] at ho
          refine T.skip ?_
          simp
          refine T.seq (T.seq (T.go' tabOk ?_))
          simp [hC, hba, wba]
          refine T.cond_if rfl (fun h2 => ?_) (fun h2 => ?_)
          · have h50 : b - a < 50 := by
              have : ((b - a : Nat) : Int) < 50 := by simpa using h2
              omega
            rw [if_pos h50] at ho
            refine T.seq (T.go' tabOk ?_)
            simp [hC]
            refine T.ret ?_
            refine upTo.here ⟨_, by simp [Tryz.results60]; rfl, ?_⟩
            rw [← ho]
            exact ⟨rfl, rfl, rfl⟩
          · have h50 : ¬ b - a < 50 := by
              have : ¬ ((b - a : Nat) : Int) < 50 := by simpa using h2
              omega
            rw [if_neg h50] at ho
            obtain ⟨k, hk⟩ : ∃ k, i = k + 1 := ⟨i - 1, by omega⟩
            have hkm : i - 1 = k := by omega
            have hki : (i : Int) - 1 = (k : Int) := by omega
            have wk := w64 (k : Int) (by omega) (by omega)
            have hix : i < x.size := by omega
            have hiz : i < d.size := by omega
            have hi1 : i + 1 ≤ x.size := by omega
            have hkx : k < x.size := by omega
            have hkz : k < d.size := by omega
            have hk1 : k + 1 ≤ x.size := by omega
            have hia : (i : Int) - (a : Int) = ((i - a : Nat) : Int) := by omega
            have wia := w64 ((i - a : Nat) : Int) (by omega) (by omega)
            have hbi : (b : Int) - (i : Int) = ((b - i : Nat) : Int) := by omega
            have wbi := w64 ((b - i : Nat) : Int) (by omega) (by omega)
            obtain ⟨y1, hy1⟩ : ∃ y, y = Sort.swp x i k := ⟨_, rfl⟩
            obtain ⟨y2, hy2⟩ : ∃ y, y = if i - a ≥ 2 then Sort.shiftDown ltP k y1 else y1 := ⟨_, rfl⟩
            obtain ⟨y3, hy3⟩ : ∃ y, y = if b - i ≥ 2 then Sort.shiftUp ltP b (i + 1) y2 else y2 := ⟨_, rfl⟩
            have hs1 : y1.size = d.size := by rw [hy1]; simp [hx]
            have hs2 : y2.size = d.size := by
              rw [hy2]
              split
              · rw [shiftDown_size, hs1]
              · exact hs1
            have hs3 : y3.size = d.size := by
              rw [hy3]
              split
              · rw [shiftUp_size b _ _ _ rfl, hs2]
              · exact hs2
            rw [hkm, ← hy1, ← hy2, ← hy3] at ho
            refine T.skip ?_
            simp
            refine T.seq ?_
            refine T.traceP tabOk follows [0, 1, 2, 3, 4, 5, 6, 7, 8, 9, 10, 11, 12, 13, 14, 15, 16, 17] pcS_ok (by kernel_rfl) ?_
            simp [hC, H0, obP, ob_drop, hix, hiz, hi1, hkx, hkz, hk1, hki, wk]
            have hsw := ob_swp x i k hix hkx
            simp [hix, hkx] at hsw
            rw [← hy1] at hsw
            have hH : H0 y1 = [(0, ⟨31, 1, List.map row y1.toList⟩)] := rfl
            refine T.le (Le.trim [10, 9, 0, 1, 2, 3] [0] 1 (by simp [hsw]) (by omega)) ?_
            simp [hsw]
            rw [← hH]
            clear hsw hH
            refine T.cut (S60 c i a b d.size y2) ?_ ?_
            · refine T.seq (T.go' tabOk ?_)
              simp [hC, hia, wia]
              refine T.cond_if rfl (fun h3 => ?_) (fun h3 => ?_)
              · have h2a : i - a ≥ 2 := by
                  have : (2 : Int) ≤ ((i - a : Nat) : Int) := by simpa using h3
                  omega
                rw [if_pos h2a] at hy2
                refine T.seq (T.go' tabOk ?_)
                simp [hC, hki, wk]
                refine T.block ?_
                refine T.loopLe (ID60 c i a b d.size y2) (n := k) ?_ ?_
                · refine upTo.trim [11, 10, 9, 0, 1, 2, 3] [0] 1 (by simp [H0, obP]) (by omega) ⟨by omega, y1, hs1, hy2.symm, ?_⟩
                  simp [H0]
                · rintro m s ⟨hmi, u, hu, hR, rfl⟩
                  refine T.seq (T.seq (T.go' tabOk ?_))
                  simp [hC]
                  refine T.cond_if rfl (fun h4 => ?_) (fun h4 => ?_)
                  · have hm1 : 1 ≤ m := by
                      have : (1 : Int) ≤ (m : Int) := by simpa using h4
                      omega
                    obtain ⟨j, hj⟩ : ∃ j, m = j + 1 := ⟨m - 1, by omega⟩
                    have hjm : m - 1 = j := by omega
                    have hjI : (m : Int) - 1 = (j : Int) := by omega
                    have wj := w64 (j : Int) (by omega) (by omega)
                    have hmu : m < u.size := by omega
                    have hmz : m < d.size := by omega
                    have hm2 : m + 1 ≤ u.size := by omega
                    have hju : j < u.size := by omega
                    have hjz : j < d.size := by omega
                    have hj2 : j + 1 ≤ u.size := by omega
                    refine T.skip ?_
                    simp
                    refine T.seq (T.block (T.seq (T.cut (J60' 84 (!ltP u[m]! u[j]!) 11 m c i a b d.size u) ?_ ?_)))
                    · refine T.traceP tabOk follows [0, 1, 2, 3, 4, 5, 6, 7, 8, 9, 10, 11, 12] pcS_ok (by kernel_rfl) ?_
                      simp [hC, H0, obP, ob_drop, hmu, hmz, hju, hjz, hjI, wj]
                      refine upTo.trim [84, 11, 10, 9, 0, 1, 2, 3] [0] 1 (by simp) (by omega) ?_
                      simp [J60', H0, obP]
                    · rintro s rfl
                      refine T.cond_if rfl (fun h5 => ?_) (fun h5 => ?_)
                      · refine T.exit ?_
                        simp
                        rw [hj, Sort.shiftDown, if_pos (by rw [← hj]; exact h5)] at hR
                        refine upTo.trim [10, 9, 0, 1, 2, 3] [0] 1 (by simp [H0, obP]) (by omega) ?_
                        simp [S60, H0, ← hR]
                      · rw [hj, Sort.shiftDown, if_neg (by rw [← hj, h5]; simp)] at hR
                        refine T.skip ?_
                        simp
                        refine T.traceP tabOk follows [0, 1, 2, 3, 4, 5, 6, 7, 8, 9, 10, 11, 12, 13, 14, 15, 16, 17] pcS_ok (by kernel_rfl) ?_
                        simp [hC, H0, obP, ob_drop, hmu, hmz, hm2, hju, hjz, hj2, hjI, wj]
                        refine T.go' tabOk ?_
                        simp [hC, hjI, wj]
                        have hsw := ob_swp u m j hmu hju
                        simp [hmu, hju] at hsw
                        refine ⟨j, by omega, upTo.trim [11, 10, 9, 0, 1, 2, 3] [0] 1 (by simp [hsw]) (by omega) ⟨by omega, Sort.swp u m j, by simp [hu], ?_, ?_⟩⟩
                        · rw [← hR, hj]
                        · simp [H0, obP, hsw]
                  · have hm0 : m = 0 := by
                      have : ¬ (1 : Int) ≤ (m : Int) := by simpa using h4
                      omega
                    subst hm0
                    rw [Sort.shiftDown] at hR
                    refine T.exit ?_
                    simp
                    refine upTo.trim [10, 9, 0, 1, 2, 3] [0] 1 (by simp [H0, obP]) (by omega) ?_
                    simp [S60, H0, ← hR]
              · have h2a : ¬ i - a ≥ 2 := by
                  have : ¬ (2 : Int) ≤ ((i - a : Nat) : Int) := by simpa using h3
                  omega
                rw [if_neg h2a] at hy2
                refine T.skip ?_
                simp
                refine upTo.trim [10, 9, 0, 1, 2, 3] [0] 1 (by simp [H0, obP]) (by omega) ?_
                simp [S60, H0, hy2]
            · rintro s rfl
              refine T.cutQ (S60 c i a b d.size y3) ?_ ?_
              · refine T.seq (T.go' tabOk ?_)
                simp [hC, hbi, wbi]
                refine T.cond_if rfl (fun h3 => ?_) (fun h3 => ?_)
                · have h2a : b - i ≥ 2 := by
                    have : (2 : Int) ≤ ((b - i : Nat) : Int) := by simpa using h3
                    omega
                  rw [if_pos h2a] at hy3
                  have wi := w64 ((i : Int) + 1) (by omega) (by omega)
                  refine T.seq (T.go' tabOk ?_)
                  simp [hC, wi]
                  refine T.block ?_
                  refine T.loopLe (IU60 c i a b d.size y3) (n := b - (i + 1)) ?_ ?_
                  · refine upTo.trim [12, 10, 9, 0, 1, 2, 3] [0] 1 (by simp [H0, obP]) (by omega) ⟨i + 1, y2, rfl, by omega, by omega, hs2, hy3.symm, ?_⟩
                    simp [H0]
                  · rintro n s ⟨m, u, rfl, hm1, hmb, hu, hR, rfl⟩
                    refine T.seq (T.seq (T.go' tabOk ?_))
                    simp [hC]
                    refine T.cond_if rfl (fun h4 => ?_) (fun h4 => ?_)
                    · have hmlt : m < b := by simpa using h4
                      obtain ⟨j, hj⟩ : ∃ j, m = j + 1 := ⟨m - 1, by omega⟩
                      have hjm : m - 1 = j := by omega
                      have hjI : (m : Int) - 1 = (j : Int) := by omega
                      have wj := w64 (j : Int) (by omega) (by omega)
                      have wm := w64 ((m : Int) + 1) (by omega) (by omega)
                      have hmu : m < u.size := by omega
                      have hmz : m < d.size := by omega
                      have hm2 : m + 1 ≤ u.size := by omega
                      have hju : j < u.size := by omega
                      have hjz : j < d.size := by omega
                      have hj2 : j + 1 ≤ u.size := by omega
                      unfold Sort.shiftUp at hR
                      rw [if_pos hmlt, hjm] at hR
                      refine T.skip ?_
                      simp
                      refine T.seq (T.block (T.seq (T.cut (J60' 124 (!ltP u[m]! u[j]!) 12 m c i a b d.size u) ?_ ?_)))
                      · refine T.traceP tabOk follows [0, 1, 2, 3, 4, 5, 6, 7, 8, 9, 10, 11, 12] pcS_ok (by kernel_rfl) ?_
                        simp [hC, H0, obP, ob_drop, hmu, hmz, hju, hjz, hjI, wj]
                        refine upTo.trim [124, 12, 10, 9, 0, 1, 2, 3] [0] 1 (by simp) (by omega) ?_
                        simp [J60', H0, obP]
                      · rintro s rfl
                        refine T.cond_if rfl (fun h5 => ?_) (fun h5 => ?_)
                        · refine T.exit ?_
                          simp
                          rw [if_pos h5] at hR
                          refine upTo.trim [10, 9, 0, 1, 2, 3] [0] 1 (by simp [H0, obP]) (by omega) ?_
                          simp [S60, H0, ← hR]
                        · rw [if_neg (by rw [h5]; simp)] at hR
                          refine T.skip ?_
                          simp
                          refine T.traceP tabOk follows [0, 1, 2, 3, 4, 5, 6, 7, 8, 9, 10, 11, 12, 13, 14, 15, 16, 17] pcS_ok (by kernel_rfl) ?_
                          simp [hC, H0, obP, ob_drop, hmu, hmz, hm2, hju, hjz, hj2, hjI, wj]
                          refine T.go' tabOk ?_
                          simp [hC, wm]
                          have hsw := ob_swp u m j hmu hju
                          simp [hmu, hju] at hsw
                          refine ⟨b - (m + 1), by omega, upTo.trim [12, 10, 9, 0, 1, 2, 3] [0] 1 (by simp [hsw]) (by omega) ⟨m + 1, Sort.swp u m j, rfl, by omega, by omega, by simp [hu], hR, ?_⟩⟩
                          simp [H0, obP, hsw]
                    · have hmlt : ¬ m < b := by simpa using h4
                      unfold Sort.shiftUp at hR
                      rw [if_neg hmlt] at hR
                      refine T.exit ?_
                      simp
                      refine upTo.trim [10, 9, 0, 1, 2, 3] [0] 1 (by simp [H0, obP]) (by omega) ?_
                      simp [S60, H0, ← hR]
                · have h2a : ¬ b - i ≥ 2 := by
                    have : ¬ (2 : Int) ≤ ((b - i : Nat) : Int) := by simpa using h3
                    omega
                  rw [if_neg h2a] at hy3
                  refine T.skip ?_
                  simp
                  refine upTo.trim [10, 9, 0, 1, 2, 3] [0] 1 (by simp [H0, obP]) (by omega) ?_
                  simp [S60, H0, hy3]
              · rintro s rfl
                have wc := w64 ((c : Int) + 1) (by omega) (by omega)
                refine T.go' tabOk ?_
                simp [hC, wc]
                refine ⟨5 - (c + 1), by omega, upTo.trim [10, 9, 0, 1, 2, 3] [0] 1 (by simp [H0, obP]) (by omega) ⟨c + 1, i, y3, rfl, by omega, by omega, by omega, hs3, ?_, ?_⟩⟩
                · rw [show 5 - (c + 1) = s5 by omega]
                  exact ho
                · simp [H0]
    · have hc : c = 5 := by
        have : ¬ (c : Int) < 5 := by simpa using h
        omega
      subst hc
      refine T.exit ?_
      simp
      refine T.seq (T.go' tabOk ?_)
      simp [hC]
      refine T.ret ?_
      refine upTo.here ⟨_, by simp [Tryz.results60]; rfl, ?_⟩
      rw [← ho]
      exact ⟨rfl, rfl, rfl⟩
end Go.Proofs.YtniilppjegieaaaGreat
