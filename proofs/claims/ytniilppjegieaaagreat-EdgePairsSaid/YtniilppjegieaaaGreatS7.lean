/- The sort of pairs: partitionEqual. Printed by gensort.py. -/
import Derived.Test.YtniilppjegieaaaGreatS5
import Derived.Sort.WalkC
import Derived.Sort.WalkC4
namespace Go.Proofs.YtniilppjegieaaaGreat
open Go.Can
attribute [-simp] cput

def S6 (ti tj i j a b pv z : Nat) (x : Array Pr) : St → Prop := fun s => s = ⟨[(ti, .int .i64 i), (tj, .int .i64 j), (0, .osl 0 0 z), (1, .int .i64 a), (2, .int .i64 b), (3, .int .i64 pv), (4, .fn 16 [])], H0 x, 1⟩
def J6t (t : Nat) (bb : Bool) (ti tj i j a b pv z : Nat) (x : Array Pr) : St → Prop := fun s => s = ⟨[(t, .bool bb), (ti, .int .i64 i), (tj, .int .i64 j), (0, .osl 0 0 z), (1, .int .i64 a), (2, .int .i64 b), (3, .int .i64 pv), (4, .fn 16 [])], H0 x, 1⟩
def IU6 (p : Pr → Bool) (ti tj i0 j a b pv z : Nat) (x : Array Pr) (m : Nat) (s : St) : Prop := ∃ i, m = j + 1 - i ∧ i0 ≤ i ∧ Sort.scanUp p x j i = Sort.scanUp p x j i0 ∧ s = ⟨[(ti, .int .i64 i), (tj, .int .i64 j), (0, .osl 0 0 z), (1, .int .i64 a), (2, .int .i64 b), (3, .int .i64 pv), (4, .fn 16 [])], H0 x, 1⟩
def ID6 (p : Pr → Bool) (ti tj i j0 a b pv z : Nat) (x : Array Pr) (m : Nat) (s : St) : Prop := m ≤ j0 ∧ Sort.scanDown p x i m = Sort.scanDown p x i j0 ∧ s = ⟨[(ti, .int .i64 i), (tj, .int .i64 m), (0, .osl 0 0 z), (1, .int .i64 a), (2, .int .i64 b), (3, .int .i64 pv), (4, .fn 16 [])], H0 x, 1⟩

def I61 (d : Array Pr) (a b pv m : Nat) (s : St) : Prop := ∃ (i j : Nat) (x : Array Pr), m = j + 1 - i ∧ a < i ∧ j < d.size ∧ i ≤ d.size + 1 ∧ x.size = d.size ∧ Sort.partEqLoop ltP a i j x = Sort.partitionEqual ltP d a b pv ∧ s = ⟨[(11, .int .i64 i), (12, .int .i64 j), (0, .osl 0 0 d.size), (1, .int .i64 a), (2, .int .i64 b), (3, .int .i64 pv), (4, .fn 16 [])], H0 x, 1⟩

set_option maxHeartbeats 8000000 in
set_option maxRecDepth 10000 in
theorem s61 (d : Array Pr) (a b pv : Nat) (hab : a < b) (hpv : pv < d.size) (hb : b ≤ d.size) (hs : d.size ≤ 1000000) :
    Body Tryz.prog tab 61 [.osl 0 0 d.size, .int .i64 a, .int .i64 b, .int .i64 pv, .fn 16 []] (H0 d) 1 fun r st => r = .int .i64 (Sort.partitionEqual ltP d a b pv).1 ∧ st.heap = H0 (Sort.partitionEqual ltP d a b pv).2 ∧ st.nx = 1 := by
  refine Body.of_T Tryz.func61 rfl (by kernel_rfl) (by simp [Tryz.ntmps61]) fun C hC hC0 => ?_
  rw [Tryz.ntmps61] at hC
  have had : a < d.size := by omega
  have ha1 : a + 1 ≤ d.size := by omega
  have hp1 : pv + 1 ≤ d.size := by omega
  have haI := w64 ((a : Int) + 1) (by omega) (by omega)
  obtain ⟨c, hc⟩ : ∃ c, b = c + 1 := ⟨b - 1, by omega⟩
  have hcI : (b : Int) - 1 = (c : Int) := by omega
  have wc := w64 (c : Int) (by omega) (by omega)
  refine T.seq (T.go' tabOk ?_)
  simp [hC]
  refine T.seq ?_
  refine T.traceP tabOk follows [0, 1, 2, 3, 4, 5, 6, 7, 8, 9, 10, 11, 12, 13, 14, 15] pcS_ok (by kernel_rfl) ?_
  simp [hC, H0, obP, ob_drop, had, hpv, ha1, hp1]
  refine T.seq (T.go' tabOk ?_)
  simp [hC, haI, hcI, wc]
  have hsw := ob_swp d a pv had hpv
  simp [had, hpv] at hsw
  refine T.seq (T.block ?_)
  refine T.loopLe (I61 d a b pv) (n := c + 1 - (a + 1)) ?_ ?_
  · refine upTo.trim [11, 12, 0, 1, 2, 3, 4] [0] 1 (by simp [hsw]) (by omega) ⟨a + 1, c, Sort.swp d a pv, rfl, by omega, by omega, by omega, by simp, ?_, ?_⟩
    · unfold Sort.partitionEqual
      rw [hc]
      rfl
    · simp [H0, obP, hsw]
  · clear hsw
    rintro n s ⟨i, j, x, rfl, hai, hjd, hid, hx, ho, rfl⟩
    have hax : a < x.size := by omega
    have haz : a < d.size := by omega
    refine T.block ?_
    refine T.cut (S6 11 12 (Sort.scanUp (fun y => !ltP x[a]! y) x j i) j a b pv d.size x) ?_ ?_
    · refine T.block ?_
      refine T.loopLe (IU6 (fun y => !ltP x[a]! y) 11 12 i j a b pv d.size x) (n := j + 1 - i) ?_ ?_
      · exact upTo.here ⟨i, rfl, Nat.le_refl _, rfl, rfl⟩
      · rintro n s ⟨i1, rfl, hi0, hso, rfl⟩
        refine T.seq (T.cut (J6t 47 (decide (i1 ≤ j) && !ltP x[a]! x[i1]!) 11 12 i1 j a b pv d.size x) ?_ ?_)
        · refine T.traceP tabOk follows [0, 1, 2, 3, 4, 5, 6, 7, 8, 9, 10, 11, 12, 13, 14, 15, 16] pcS_ok (by kernel_rfl) ?_
          by_cases hij : i1 ≤ j
          · have hi1x : i1 < x.size := by omega
            have hi1z : i1 < d.size := by omega
            simp [hC, hij, H0, obP, ob_drop, hi1x, hi1z, hax, haz]
            refine upTo.trim [47, 11, 12, 0, 1, 2, 3, 4] [0] 1 (by simp) (by omega) ?_
            simp [J6t, H0, obP, hij]
          · simp [hC, hij, H0, obP]
            refine upTo.trim [47, 11, 12, 0, 1, 2, 3, 4] [0] 1 (by simp) (by omega) ?_
            simp [J6t, H0, obP, hij]
        · rintro s rfl
          refine T.cond_if rfl (fun h2 => ?_) (fun h2 => ?_)
          · have h3 : i1 ≤ j ∧ (fun y => !ltP x[a]! y) x[i1]! = true := by simpa using h2
            have wi := w64 ((i1 : Int) + 1) (by omega) (by omega)
            refine T.skip ?_
            simp
            refine T.block (T.go' tabOk ?_)
            simp [hC, wi]
            refine ⟨j + 1 - (i1 + 1), by omega, upTo.trim [11, 12, 0, 1, 2, 3, 4] [0] 1 (by simp [H0, obP]) (by omega) ⟨i1 + 1, rfl, by omega, ?_, ?_⟩⟩
            · rw [← hso, scanUp_go _ _ _ _ h3.1 h3.2]
            · simp [H0]
          · have h3 : ¬ i1 ≤ j ∨ (fun y => !ltP x[a]! y) x[i1]! = false := by
              by_cases hij : i1 ≤ j
              · exact .inr (by simpa [hij] using h2)
              · exact .inl hij
            rw [scanUp_end _ _ _ _ h3] at hso
            refine T.exit ?_
            simp
            refine upTo.trim [11, 12, 0, 1, 2, 3, 4] [0] 1 (by simp [H0, obP]) (by omega) ?_
            simp [S6, H0, ← hso]
    · rintro s rfl
      generalize hi2 : Sort.scanUp (fun y => !ltP x[a]! y) x j i = i2
      have hi2i : i ≤ i2 := by rw [← hi2]; exact Sort.scanUp_ge _ _ _ _
      refine T.cut (S6 11 12 i2 (Sort.scanDown (fun y => ltP x[a]! y) x i2 j) a b pv d.size x) ?_ ?_
      · refine T.block ?_
        refine T.loopLe (ID6 (fun y => ltP x[a]! y) 11 12 i2 j a b pv d.size x) (n := j) ?_ ?_
        · exact upTo.here ⟨Nat.le_refl _, rfl, rfl⟩
        · rintro j1 s ⟨hj0, hso, rfl⟩
          refine T.seq (T.cut (J6t 65 (decide (i2 ≤ j1) && ltP x[a]! x[j1]!) 11 12 i2 j1 a b pv d.size x) ?_ ?_)
          · refine T.traceP tabOk follows [0, 1, 2, 3, 4, 5, 6, 7, 8, 9, 10, 11, 12, 13, 14, 15] pcS_ok (by kernel_rfl) ?_
            by_cases hij : i2 ≤ j1
            · have hj1x : j1 < x.size := by omega
              have hj1z : j1 < d.size := by omega
              simp [hC, hij, H0, obP, ob_drop, hj1x, hj1z, hax, haz]
              refine upTo.trim [65, 11, 12, 0, 1, 2, 3, 4] [0] 1 (by simp) (by omega) ?_
              simp [J6t, H0, obP, hij]
            · simp [hC, hij, H0, obP]
              refine upTo.trim [65, 11, 12, 0, 1, 2, 3, 4] [0] 1 (by simp) (by omega) ?_
              simp [J6t, H0, obP, hij]
          · rintro s rfl
            refine T.cond_if rfl (fun h2 => ?_) (fun h2 => ?_)
            · have h3 : i2 ≤ j1 ∧ (fun y => ltP x[a]! y) x[j1]! = true := by simpa using h2
              obtain ⟨j2, hj2⟩ : ∃ j2, j1 = j2 + 1 := ⟨j1 - 1, by omega⟩
              have hjI : (j1 : Int) - 1 = (j2 : Int) := by omega
              have wj := w64 (j2 : Int) (by omega) (by omega)
              refine T.skip ?_
              simp
              refine T.block (T.go' tabOk ?_)
              simp [hC, hjI, wj]
              refine ⟨j2, by omega, upTo.trim [11, 12, 0, 1, 2, 3, 4] [0] 1 (by simp [H0, obP]) (by omega) ⟨by omega, ?_, ?_⟩⟩
              · rw [← hso, scanDown_go _ _ _ _ h3.1 (by omega) h3.2, hj2]
                rfl
              · simp [H0]
            · have h3 : ¬ i2 ≤ j1 ∨ (fun y => ltP x[a]! y) x[j1]! = false := by
                by_cases hij : i2 ≤ j1
                · exact .inr (by simpa [hij] using h2)
                · exact .inl hij
              rw [scanDown_end _ _ _ _ h3] at hso
              refine T.exit ?_
              simp
              refine upTo.trim [11, 12, 0, 1, 2, 3, 4] [0] 1 (by simp [H0, obP]) (by omega) ?_
              simp [S6, H0, ← hso]
      · rintro s rfl
        generalize hj2 : Sort.scanDown (fun y => ltP x[a]! y) x i2 j = j2
        have hj2j : j2 ≤ j := by rw [← hj2]; exact Sort.scanDown_le _ _ _ _
        refine T.seq (T.seq (T.go' tabOk ?_))
        simp [hC]
        refine T.cond_if rfl (fun h => ?_) (fun h => ?_)
        · have hji : j2 < i2 := by simpa using h
          rw [partEq_break ltP a i j x hi2.symm hj2.symm hji] at ho
          refine T.exit ?_
          simp
          refine T.seq (T.go' tabOk ?_)
          simp [hC]
          refine T.ret ?_
          refine upTo.here ⟨_, by simp [Tryz.results61]; rfl, ?_⟩
          rw [← ho]
          exact ⟨rfl, rfl, rfl⟩
        · have hji : ¬ i2 > j2 := by simpa using h
          rw [partEq_go ltP a i j x hi2.symm hj2.symm hji] at ho
          obtain ⟨k, hk⟩ : ∃ k, j2 = k + 1 := ⟨j2 - 1, by omega⟩
          have hkI : (j2 : Int) - 1 = (k : Int) := by omega
          have wk := w64 (k : Int) (by omega) (by omega)
          have wi := w64 ((i2 : Int) + 1) (by omega) (by omega)
          have hix : i2 < x.size := by omega
          have hiz : i2 < d.size := by omega
          have hjx : j2 < x.size := by omega
          have hjz : j2 < d.size := by omega
          have hi1 : i2 + 1 ≤ x.size := by omega
          have hj1 : j2 + 1 ≤ x.size := by omega
          refine T.skip ?_
          simp
          refine T.seq ?_
          refine T.traceP tabOk follows [0, 1, 2, 3, 4, 5, 6, 7, 8, 9, 10, 11, 12, 13, 14, 15] pcS_ok (by kernel_rfl) ?_
          simp [hC, H0, obP, ob_drop, hix, hiz, hjx, hjz, hi1, hj1]
          refine T.seq (T.go' tabOk ?_)
          simp [hC, wi]
          refine T.go' tabOk ?_
          simp [hC, hkI, wk]
          have hsw := ob_swp x i2 j2 hix hjx
          simp [hix, hjx] at hsw
          refine ⟨k + 1 - (i2 + 1), by omega, upTo.trim [11, 12, 0, 1, 2, 3, 4] [0] 1 (by simp [hsw]) (by omega) ⟨i2 + 1, k, Sort.swp x i2 j2, rfl, by omega, by omega, by omega, by simp [hx], ?_, ?_⟩⟩
          · rw [← ho, hk]
            rfl
          · simp [H0, obP, hsw]
end Go.Proofs.YtniilppjegieaaaGreat
