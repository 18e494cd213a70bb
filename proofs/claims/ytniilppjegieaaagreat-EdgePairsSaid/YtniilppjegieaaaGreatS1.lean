/- The sort of pairs: what its texts share. -/
import Derived.Test.YtniilppjegieaaaGreatE2
import Derived.Test.YtniilppjegieaaaGreatCan37
import Derived.Sort.AssemblyPlain
namespace Go.Can
section
variable {P : Program} {C : Cx} {s : St} {ops : Array Oper} {tab : List (Nat × TI)}
/-- A region without calls but plain ones, by one order. -/
theorem T.traceP (ht : TabOk P tab) (hm : P.follows .mixedOrders = true) {id : Nat} {l : List Oper} {Q : Exit → St → Prop} (ord : List Nat) {pc : FuncId → List CV → Option CV} (hpc : PcOk P pc) (hS : traceS l.toArray ord [] = true) (h : kX Q (xdraw tab [] C.nt l.toArray noCall pc ord [] s)) : T P C (.region id l.toArray true) s Q := by
  cases hx : xdraw tab [] C.nt l.toArray noCall pc ord [] s with
  | none => rw [hx] at h; exact h.elim
  | some s' =>
    rw [hx] at h
    refine T.mono (T.trace ht (mt := []) (fun x hx => by cases hx) (call := noCall) (fun _ _ _ _ _ _ _ h => by cases h) (pc := pc) hpc hm hS hx) ?_
    rintro e x ⟨rfl, rfl⟩
    exact h
end
end Go.Can
namespace Go.Proofs.YtniilppjegieaaaGreat
open Go.Can

abbrev Pr := Int × Int
def cP (p q : Pr) : Int := cmpL [p.1, p.2] [q.1, q.2]
theorem cP_lt (p q : Pr) : decide (cP p q < 0) = ltP p q := by
  unfold cP ltP cmpL cmpL cmpL cmpI
  by_cases h1 : p.1 < q.1
  · simp [h1]
  · by_cases h2 : q.1 < p.1
    · have : ¬ p.1 = q.1 := by omega
      simp [h1, h2, this]
    · have : p.1 = q.1 := by omega
      by_cases h3 : p.2 < q.2
      · simp [this, h3]
      · by_cases h4 : q.2 < p.2 <;> simp [this, h3, h4]
@[simp] theorem cP_neg (p q : Pr) : (cP p q < 0) = (ltP p q = true) := by
  rw [← cP_lt]; simp

@[simp] theorem refsLt_row (o : Nat) (p : Int × Int) : refsLt o (row p) = true := by simp [row, ints]

def pcS : FuncId → List CV → Option CV
  | 16, [.tsl [.int .i64 a, .int .i64 b] 2, .tsl [.int .i64 c, .int .i64 d] 2] => some (.int .i64 (cP (a, b) (c, d)))
  | _, _ => none
@[simp] theorem pcS_row (p q : Pr) : pcS 16 [row p, row q] = some (.int .i64 (cP p q)) := rfl
theorem pcS_ok : PcOk Tryz.prog pcS := by
  intro g cs r h
  unfold pcS at h
  split at h
  · cases h
    exact c16_ok [_, _] [_, _] (by simp) (by simp)
  · cases h

/-- The row that is sorted. -/
def obP (d : Array Pr) : Ob := ⟨31, 1, d.toList.map row⟩
def H0 (d : Array Pr) : List (Nat × Ob) := [(0, obP d)]
theorem ob_get {d : Array Pr} {j : Nat} (h : j < d.size) : (d.toList.map row)[j]? = some (row d[j]!) := by
  simp [h]
theorem ob_drop {d : Array Pr} {j : Nat} (h : j < d.size) : (d.toList.map row).drop j = row d[j]! :: (d.toList.map row).drop (j + 1) := by
  rw [List.drop_eq_getElem_cons (by simpa using h)]
  simp [h]
@[simp] theorem isTup_row (p : Pr) : isTup (row p) = false := rfl
@[simp] theorem cells_row (p : Pr) : (row p).cells = [row p] := rfl
@[simp] theorem cput_one {l : List CV} {n : Nat} {c : CV} (h : n < l.length) : cput l n [c] = l.set n c := by
  rw [cput, List.set_eq_take_append_cons_drop, if_pos h]
  simp
theorem ob_swp (d : Array Pr) (i j : Nat) (hi : i < d.size) (hj : j < d.size) : ((d.toList.map row).set i (row d[j]!)).set j (row d[i]!) = (Sort.swp d i j).toList.map row := by
  simp [Sort.swp, List.map_set]
@[simp] theorem swp_size (d : Array Pr) (i j : Nat) : (Sort.swp d i j).size = d.size := by simp [Sort.swp]
@[simp] theorem all_tt (A : Array Pr) (n : Nat) : A.all (fun _ => true) 0 n = true := by
  rw [Array.all_iff_forall]
  simp
theorem insInner_size (a : Nat) : ∀ (j : Nat) (d : Array Pr), (Sort.insInner ltP a j d).size = d.size
  | 0, d => rfl
  | j + 1, d => by
    unfold Sort.insInner
    split
    · rw [insInner_size a j]; simp
    · rfl

attribute [-simp] cput
attribute [simp] xdraw trun eff1 guardS userCall callTo aval2 aval rdsQ rds_load rds_slice oN oNO namesL appCore obOf rmL apS putR applyW cells? kX cstO
@[simp] theorem dynB_nil (l : List (Nat × Er)) : dynB l [] = true := rfl

def J55 (bb : Bool) (n i a b z : Nat) (y : Array Pr) : St → Prop := fun s => s = ⟨[(34, .bool bb), (9, .int .i64 n), (8, .int .i64 i), (0, .osl 0 0 z), (1, .int .i64 a), (2, .int .i64 b), (3, .fn 16 [])], H0 y, 1⟩

def I55 (d : Array Pr) (a b m : Nat) (s : St) : Prop := ∃ (i : Nat) (x : Array Pr), m = b - i ∧ a + 1 ≤ i ∧ x.size = d.size ∧ Sort.insOuter ltP a b i x = Sort.insertionSort ltP d a b ∧ s = ⟨[(8, .int .i64 i), (0, .osl 0 0 d.size), (1, .int .i64 a), (2, .int .i64 b), (3, .fn 16 [])], H0 x, 1⟩
def I55' (d : Array Pr) (a b i : Nat) (x : Array Pr) (m : Nat) (s : St) : Prop := m ≤ i ∧ ∃ (y : Array Pr), y.size = d.size ∧ Sort.insInner ltP a m y = Sort.insInner ltP a i x ∧ s = ⟨[(9, .int .i64 m), (8, .int .i64 i), (0, .osl 0 0 d.size), (1, .int .i64 a), (2, .int .i64 b), (3, .fn 16 [])], H0 y, 1⟩

set_option maxHeartbeats 8000000 in
set_option maxRecDepth 10000 in
theorem s55 (d : Array Pr) (a b : Nat) (hab : a ≤ b) (hb : b ≤ d.size) (hs : d.size ≤ 1000000) :
    Body Tryz.prog tab 55 [.osl 0 0 d.size, .int .i64 a, .int .i64 b, .fn 16 []] (H0 d) 1 fun r s => r = .tup [] ∧ s.heap = H0 (Sort.insertionSort ltP d a b) ∧ s.nx = 1 := by
  refine Body.of_T Tryz.func55 rfl (by kernel_rfl) (by simp [Tryz.ntmps55]) fun C hC hC0 => ?_
  rw [Tryz.ntmps55] at hC
  have wa := w64 ((a : Int) + 1) (by omega) (by omega)
  refine T.seq (T.go' tabOk ?_)
  simp [hC, wa]
  refine T.block ?_
  refine T.loopLe (I55 d a b) (n := b - (a + 1)) ?_ ?_
  · refine upTo.trim [8, 0, 1, 2, 3] [0] 1 (by simp [H0, obP]) (by omega) ⟨a + 1, d, rfl, Nat.le_refl _, rfl, rfl, ?_⟩
    simp [H0]
  · rintro n s ⟨i, x, rfl, hi, hx, ho, rfl⟩
    refine T.seq (T.seq (T.go' tabOk ?_))
    simp [hC]
    refine T.cond_if rfl (fun h => ?_) (fun h => ?_)
    · have hib : i < b := by simpa using h
      refine T.skip ?_
      simp
      refine T.seq (T.block (T.seq (T.go' tabOk ?_)))
      simp [hC]
      refine T.block ?_
      refine T.loopLe (I55' d a b i x) (n := i) ?_ ?_
      · refine upTo.trim [9, 8, 0, 1, 2, 3] [0] 1 (by simp [H0, obP]) (by omega) ⟨Nat.le_refl _, x, hx, rfl, ?_⟩
        simp [H0]
      · rintro n s ⟨hji, y, hy, hin, rfl⟩
        have hjs : n < y.size := by omega
        refine T.seq (T.cut (J55 (decide (a < n) && ltP y[n]! y[n - 1]!) n i a b d.size y) ?_ ?_)
        · refine T.traceP tabOk follows [0, 1, 2, 3, 4, 5, 6, 7, 8, 9, 10, 11, 12, 13, 14, 15, 16] pcS_ok (by kernel_rfl) ?_
          by_cases hja : a < n
          · obtain ⟨k, hk⟩ : ∃ k, n = k + 1 := ⟨n - 1, by omega⟩
            have hks : k < y.size := by omega
            have hkz : k < d.size := by omega
            have hjz : n < d.size := by omega
            have hkm : n - 1 = k := by omega
            have hki : (n : Int) - 1 = (k : Int) := by omega
            have wk := w64 (k : Int) (by omega) (by omega)
            simp [hC, hja, H0, obP, hks, hkz, hjz, hjs, ob_drop, wk, hki, hkm]
            refine upTo.trim [34, 9, 8, 0, 1, 2, 3] [0] 1 (by simp) (by omega) ?_
            simp [J55, H0, obP]
          · simp [hC, hja, H0, obP]
            refine upTo.trim [34, 9, 8, 0, 1, 2, 3] [0] 1 (by simp) (by omega) ?_
            simp [J55, H0, obP]
        · rintro s rfl
          refine T.cond_if rfl (fun h2 => ?_) (fun h2 => ?_)
          · refine T.skip ?_
            simp
            have h2' : a < n ∧ ltP y[n]! y[n - 1]! = true := by simpa using h2
            obtain ⟨hja, hlt⟩ := h2'
            obtain ⟨k, hk⟩ : ∃ k, n = k + 1 := ⟨n - 1, by omega⟩
            have hks : k < y.size := by omega
            have hkz : k < d.size := by omega
            have hjz : n < d.size := by omega
            have hkm : n - 1 = k := by omega
            have hki : (n : Int) - 1 = (k : Int) := by omega
            have wk := w64 (k : Int) (by omega) (by omega)
            have hn1 : n + 1 ≤ y.size := by omega
            have hk1 : k + 1 ≤ y.size := by omega
            refine T.seq (T.block ?_)
            refine T.traceP tabOk follows [0, 1, 2, 3, 4, 5, 6, 7, 8, 9, 10, 11, 12, 13, 14, 15, 16, 17] pcS_ok (by kernel_rfl) ?_
            simp [hC, hja, H0, obP, hks, hkz, hjz, hjs, ob_drop, wk, hki, hkm, hn1, hk1]
            refine T.go' tabOk ?_
            simp [hC, hki, wk]
            have hsw := ob_swp y n k hjs hks
            simp [hks, hjs] at hsw
            refine ⟨k, by omega, upTo.trim [9, 8, 0, 1, 2, 3] [0] 1 (by simp [hsw]) (by omega) ⟨by omega, Sort.swp y n k, by simp [hy], ?_, ?_⟩⟩
            · rw [← hin]
              subst hk
              conv => rhs; unfold Sort.insInner
              rw [if_pos]
              simp [hlt] at hlt ⊢
              omega
            · simp [H0, obP, hsw]
          · refine T.exit ?_
            simp
            refine T.go' tabOk ?_
            have wi := w64 ((i : Int) + 1) (by omega) (by omega)
            simp [hC, wi]
            refine ⟨b - (i + 1), by omega, upTo.trim [8, 0, 1, 2, 3] [0] 1 (by simp [H0, obP]) (by omega) ⟨i + 1, y, rfl, by omega, hy, ?_, ?_⟩⟩
            · rw [← ho]
              conv => rhs; unfold Sort.insOuter
              rw [if_pos hib, ← hin]
              congr 1
              unfold Sort.insInner
              split
              · rfl
              · rw [if_neg]
                simpa using h2
            · simp [H0]
    · refine T.exit ?_
      simp
      have hib : ¬ i < b := by simpa using h
      refine upTo.here ⟨.tup [], ?_, ?_⟩
      · simp [Tryz.results55]
      · rw [← ho]
        unfold Sort.insOuter
        rw [if_neg hib]
        exact ⟨rfl, rfl, rfl⟩
end Go.Proofs.YtniilppjegieaaaGreat

/- The sort of pairs: reverseRange. -/
namespace Go.Proofs.YtniilppjegieaaaGreat
open Go.Can
attribute [-simp] cput

def I59 (d : Array Pr) (a b m : Nat) (s : St) : Prop := ∃ (i j : Nat) (x : Array Pr), m = j - i ∧ i ≤ d.size ∧ j < d.size ∧ x.size = d.size ∧ Sort.reverseLoop i j x = Sort.reverseRange d a b ∧ s = ⟨[(9, .int .i64 j), (8, .int .i64 i), (0, .osl 0 0 d.size), (1, .int .i64 a), (2, .int .i64 b), (3, .fn 16 [])], H0 x, 1⟩

set_option maxHeartbeats 8000000 in
set_option maxRecDepth 10000 in
theorem s59 (d : Array Pr) (a b : Nat) (hab : a < b) (hb : b ≤ d.size) (hs : d.size ≤ 1000000) :
    Body Tryz.prog tab 59 [.osl 0 0 d.size, .int .i64 a, .int .i64 b, .fn 16 []] (H0 d) 1 fun r s => r = .tup [] ∧ s.heap = H0 (Sort.reverseRange d a b) ∧ s.nx = 1 := by
  refine Body.of_T Tryz.func59 rfl (by kernel_rfl) (by simp [Tryz.ntmps59]) fun C hC hC0 => ?_
  rw [Tryz.ntmps59] at hC
  obtain ⟨c, hc⟩ : ∃ c, b = c + 1 := ⟨b - 1, by omega⟩
  have hbi : (b : Int) - 1 = (c : Int) := by omega
  have wb := w64 (c : Int) (by omega) (by omega)
  refine T.seq (T.go' tabOk ?_)
  simp [hC]
  refine T.seq (T.go' tabOk ?_)
  simp [hC, hbi, wb]
  refine T.block ?_
  refine T.loopLe (I59 d a b) (n := c - a) ?_ ?_
  · refine upTo.trim [9, 8, 0, 1, 2, 3] [0] 1 (by simp [H0, obP]) (by omega) ⟨a, c, d, rfl, by omega, by omega, rfl, ?_, ?_⟩
    · unfold Sort.reverseRange
      rw [hc]
      rfl
    · simp [H0]
  · rintro n s ⟨i, j, x, rfl, hi, hj, hx, ho, rfl⟩
    refine T.seq (T.seq (T.go' tabOk ?_))
    simp [hC]
    refine T.cond_if rfl (fun h => ?_) (fun h => ?_)
    · have hij : i < j := by simpa using h
      refine T.skip ?_
      simp
      obtain ⟨k, hk⟩ : ∃ k, j = k + 1 := ⟨j - 1, by omega⟩
      have hki : (j : Int) - 1 = (k : Int) := by omega
      have wk := w64 (k : Int) (by omega) (by omega)
      have wi := w64 ((i : Int) + 1) (by omega) (by omega)
      have hix : i < x.size := by omega
      have hjx : j < x.size := by omega
      have hiz : i < d.size := by omega
      have hi1 : i + 1 ≤ x.size := by omega
      have hj1 : j + 1 ≤ x.size := by omega
      refine T.block (T.seq ?_)
      refine T.traceP tabOk follows [0, 1, 2, 3, 4, 5, 6, 7, 8, 9, 10, 11, 12, 13, 14, 15] pcS_ok (by kernel_rfl) ?_
      simp [hC, H0, obP, ob_drop, hix, hjx, hiz, hj, hi1, hj1]
      refine T.seq (T.go' tabOk ?_)
      simp [hC, wi]
      refine T.go' tabOk ?_
      simp [hC, hki, wk]
      have hsw := ob_swp x i j hix hjx
      simp [hix, hjx] at hsw
      refine ⟨k - (i + 1), by omega, upTo.trim [9, 8, 0, 1, 2, 3] [0] 1 (by simp [hsw]) (by omega) ⟨i + 1, k, Sort.swp x i j, rfl, by omega, by omega, by simp [hx], ?_, ?_⟩⟩
      · rw [← ho]
        conv => rhs; unfold Sort.reverseLoop
        rw [if_pos hij, hk]
        rfl
      · simp [H0, obP, hsw]
    · refine T.exit ?_
      simp
      have hij : ¬ i < j := by simpa using h
      refine upTo.here ⟨.tup [], ?_, ?_⟩
      · simp [Tryz.results59]
      · rw [← ho]
        unfold Sort.reverseLoop
        rw [if_neg hij]
        exact ⟨rfl, rfl, rfl⟩
end Go.Proofs.YtniilppjegieaaaGreat
