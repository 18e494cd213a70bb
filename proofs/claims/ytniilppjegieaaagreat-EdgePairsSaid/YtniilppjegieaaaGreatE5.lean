/- The law EdgePairs, walked. -/
import Derived.Test.YtniilppjegieaaaGreatE3
import Derived.Test.YtniilppjegieaaaGreatY18
import Derived.Test.YtniilppjegieaaaGreatFlat
namespace Go.Proofs.YtniilppjegieaaaGreat
open Go.Can
attribute [-simp] cput

theorem eds_refs (n : Nat) (l : List Ed) : refsLts n (l.flatMap edC) = true := by
  induction l with
  | nil => rfl
  | cons a r ih =>
    rw [refsLts_eq] at ih ⊢
    simp only [List.flatMap_cons, List.all_append, ih, Bool.and_true]
    rfl
theorem eds_all (n : Nat) (l : List Ed) : ((l.flatMap edC).all (refsLt n)) = true := by
  rw [← refsLts_eq]
  exact eds_refs n l


def pcW : FuncId → List CV → Option CV
  | 5, [.int .i64 x, .int .i64 5] => some (.int .i64 (x % 5))
  | _, _ => none
@[simp] theorem pcW_at (x : Int) : pcW 5 [.int .i64 x, .int .i64 5] = some (.int .i64 (x % 5)) := rfl
theorem pcW_ok : PcOk Tryz.prog pcW := by
  intro g cs r h
  unfold pcW at h
  split at h
  · cases h
    exact c5_ok _
  · cases h
section
variable {P : Program} {C : Cx} {s : St} {ops : Array Oper} {tab : List (Nat × TI)}
/-- A region without calls but plain ones, by one order. -/
theorem T.traceD (ht : TabOk P tab) (hm : P.follows .mixedOrders = true) {id : Nat} {l : List Oper} {Q : Exit → St → Prop} (ord : List Nat) (dyn : List (Nat × Nat)) {pc : FuncId → List CV → Option CV} (hpc : PcOk P pc) (hS : traceS l.toArray ord dyn = true) (h : kX Q (xdraw tab [] C.nt l.toArray noCall pc ord dyn s)) : T P C (.region id l.toArray true) s Q := by
  cases hx : xdraw tab [] C.nt l.toArray noCall pc ord dyn s with
  | none => rw [hx] at h; exact h.elim
  | some s' =>
    rw [hx] at h
    refine T.mono (T.trace ht (mt := []) (fun x hx => by cases hx) (call := noCall) (fun _ _ _ _ _ _ _ h => by cases h) (pc := pc) hpc hm hS hx) ?_
    rintro e x ⟨rfl, rfl⟩
    exact h
end
theorem trees_app : ∀ a b : List CV, trees (a ++ b) = (trees a && trees b)
  | [], b => by simp [trees]
  | x :: r, b => by simp [trees, trees_app r b, Bool.and_assoc]
theorem trees_eds (l : List Ed) : trees (l.flatMap edC) = true := by
  induction l with
  | nil => rfl
  | cons a r ih =>
    rw [List.flatMap_cons, trees_app, ih]
    rfl
theorem inI_mod (x : Int) : inI (x % 5) = true := by
  have h1 := Int.emod_nonneg x (by decide : (5 : Int) ≠ 0)
  have h2 := Int.emod_lt_of_pos x (by decide : (0 : Int) < 5)
  simp only [inI, Bool.and_eq_true, decide_eq_true_eq]
  omega
theorem edC_len (e : Ed) : (edC e).length = 4 := rfl
def w5 (e : Ed) : Ed := (e.1 % 5, e.2.1 % 5, e.2.2.1, e.2.2.2)
def mid5 (l : List Ed) (i : Nat) : List Ed := (l.take i).map w5 ++ l.drop i
def obE (m : List Ed) : Ob := ⟨25, 4, m.flatMap edC⟩
def I3 (l : List Ed) (sm : Bool) (m : Nat) (s : St) : Prop := ∃ i : Nat, m = l.length - i ∧ i ≤ l.length ∧ (sm = false → i = 0) ∧
  s = ⟨[(5, .int .i64 i), (4, .bool false), (0, .osl 0 0 l.length), (1, .bool sm)], [(0, obE (mid5 l i))], 1⟩
set_option maxHeartbeats 8000000 in
set_option maxRecDepth 10000 in
theorem c3_ok (l : List Ed) (sm : Bool) (hw : ∀ e ∈ l, inP (e.1, e.2.1)) : PureCall Tryz.prog 3 [edg l, .bool sm] (.bool true) := by
  refine PureCall.of_TLe tabOk Tryz.func3 rfl (by kernel_rfl) (by simp [Tryz.ntmps3]) rfl fun C hC hC0 => ?_
  rw [Tryz.ntmps3] at hC
  refine T.seq (T.go' tabOk ?_)
  simp [hC]
  obtain ⟨k, hk⟩ : ∃ k, k = min l.length 60 := ⟨_, rfl⟩
  have hkI : (if (60 : Int) < (l.length : Int) then (60 : Int) else (l.length : Int)) = (k : Int) := by
    split <;> omega
  have hkl : k ≤ l.length := by omega
  have htk : (l.flatMap edC).take (k * 4) = (l.take k).flatMap edC := by
    clear hkI hw hC hk
    induction l generalizing k with
    | nil => simp
    | cons a r ih =>
      cases k with
      | zero => simp
      | succ k =>
        have := ih k (by simpa using hkl)
        simp only [List.take_succ_cons, List.flatMap_cons, ← this]
        rw [show (k + 1) * 4 = 4 + k * 4 by omega, List.take_add]
        simp [edC]
  have hfl : ((l.take k).flatMap edC).length = k * 4 := by
    rw [← htk]
    have : ∀ l : List Ed, (l.flatMap edC).length = l.length * 4 := by
      intro l
      induction l with
      | nil => rfl
      | cons a r ih => simp [ih, edC]; omega
    simp [this]
    omega
  have hb : k * 32 ≤ 140737488355328 := by omega
  refine T.seq (T.go' tabOk ?_)
  simp [hC, edg, hkI, hkl, htk, hfl, hb, czeros]
  obtain ⟨l', hl'⟩ : ∃ l', l' = l.take k := ⟨_, rfl⟩
  have hkl' : k = l'.length := by simp [hl']; omega
  have hw' : ∀ e ∈ l', inP (e.1, e.2.1) := fun e he => hw e (List.mem_of_mem_take (hl' ▸ he))
  have h60 : l'.length ≤ 60 := by omega
  rw [← hl']
  clear hkI htk hfl hb hw
  subst hkl'
  clear hk hkl hl'
  refine T.le (Le.trim [0, 1, 4] [1] 2 (by simp [trimOk, -List.all_flatMap, -List.all_eq_true, eds_all]) (by omega)) ?_
  simp
  refine T.le (Le.renum 1 0 (obE l') (by simp [obE]) (by omega) (by omega) (eds_refs _ _) (by simp)) ?_
  simp
  refine T.seq (T.seq (T.go' tabOk ?_))
  simp [hC]
  refine T.block ?_
  refine T.loopLe (I3 l' sm) (n := l'.length) ?_ ?_
  · refine upTo.trim [5, 4, 0, 1] [0] 1 (by simp [trimOk, -List.all_flatMap, -List.all_eq_true, eds_all, obE]) (by omega) ⟨0, rfl, Nat.zero_le _, fun _ => rfl, ?_⟩
    simp [mid5]
  · rintro n s ⟨i, rfl, hi, hz, rfl⟩
    by_cases h : i < l'.length ∧ sm = true
    · obtain ⟨h, rfl⟩ := h
      refine T.seq (T.seq (T.go' tabOk ?_))
      simp [hC, h]
      refine T.cond (b := true) rfl (T.skip ?_)
      simp
      have hml : (mid5 l' i).length = l'.length := by simp [mid5]; omega
      obtain ⟨e, he⟩ : ∃ e, l'[i]? = some e := ⟨l'[i], List.getElem?_eq_getElem h⟩
      have hme : (mid5 l' i)[i]? = some e := by
        unfold mid5
        rw [List.getElem?_append_right (by simp; omega)]
        simp [he, Nat.min_eq_left hi]
      have hd := flat_at edC_len hme
      have hd1 : ((mid5 l' i).flatMap edC).drop (i * 4 + 1) = [.int .i64 e.2.1, .int .i64 e.2.2.1, .int .i64 e.2.2.2] ++ ((mid5 l' i).drop (i + 1)).flatMap edC := by
        rw [← List.drop_drop, hd]
        rfl
      have hfl : ((mid5 l' i).flatMap edC).length = l'.length * 4 := by rw [flat_len edC_len, hml]
      have hfl2 : (((mid5 l' i).set i (e.1 % 5, e.2)).flatMap edC).length = l'.length * 4 := by rw [flat_len edC_len, List.length_set, hml]
      have hp1 := flat_put (f := edC) (n := 4) edC_len hme (k := 0) (c := .int .i64 (e.1 % 5)) (e' := (e.1 % 5, e.2)) (by omega) rfl
      have hp2 := flat_put (f := edC) (n := 4) edC_len (m := (mid5 l' i).set i (e.1 % 5, e.2)) (i := i) (e := (e.1 % 5, e.2)) (k := 1) (c := .int .i64 (e.2.1 % 5)) (e' := w5 e) (by simp [hml, h]) (by omega) rfl
      have hms : ((mid5 l' i).set i (e.1 % 5, e.2)).set i (w5 e) = mid5 l' (i + 1) := by
        simp [mid5, List.set_append, Nat.min_eq_left hi, List.take_add_one, he]
        rw [List.drop_eq_getElem_cons h]
        rfl
      simp only [Nat.add_zero] at hp1
      have hb1 : i * 4 + 1 ≤ l'.length * 4 := by omega
      have hb2 : i * 4 + 2 ≤ l'.length * 4 := by omega
      refine T.seq (T.block ?_)
      refine T.traceD tabOk follows [0, 1, 2, 3, 4, 5, 6, 7, 8, 9, 10, 11, 12, 13, 14, 15, 16, 17, 18, 19, 20, 21] [(9, 14)] pcW_ok (by kernel_rfl) ?_
      simp [hC, obE, h, hd, hd1, hfl, hfl2, hp1, hp2, hms, hb1, hb2, edC, -List.length_flatMap, dynB, assoc, indB, Bool.and_eq_true]
      have wi := w64 ((i : Int) + 1) (by omega) (by omega)
      refine T.go' tabOk ?_
      simp [hC, wi]
      refine ⟨l'.length - (i + 1), by omega, upTo.trim [5, 4, 0, 1] [0] 1 (by simp [trimOk, -List.all_flatMap, -List.all_eq_true, eds_all]) (by omega) ⟨i + 1, rfl, h, fun h => by simp at h, ?_⟩⟩
      simp [obE]
    · have hmid : mid5 l' i = if sm = true then l'.map w5 else l' := by
        cases sm with
        | true =>
          have : i = l'.length := by
            have : ¬ i < l'.length := fun h' => h ⟨h', rfl⟩
            omega
          simp [mid5, this]
        | false => simp [mid5, hz rfl]
      refine T.seq (T.seq (T.go' tabOk ?_))
      have hst : ∀ b : Bool, b = (decide (i < l'.length) && sm) → b = false := by
        rintro b rfl
        by_cases h1 : i < l'.length
        · cases sm with
          | true => exact (h ⟨h1, rfl⟩).elim
          | false => simp
        · simp [h1]
      by_cases h1 : i < l'.length
      · have h2 : sm = false := by
          cases sm with
          | true => exact (h ⟨h1, rfl⟩).elim
          | false => rfl
        subst h2
        simp [hC, h1]
        refine T.cond (b := false) rfl (T.exit ?_)
        simp
        have hmw : ∀ e ∈ mid5 l' i, inP (e.1, e.2.1) := by
          rw [hmid]
          split
          · intro e he
            obtain ⟨d, _, rfl⟩ := List.mem_map.1 he
            exact ⟨inI_mod _, inI_mod _⟩
          · exact hw'
        have hml : (mid5 l' i).length = l'.length := by
          rw [hmid]
          split <;> simp
        generalize mid5 l' i = m at hmw hml
        rw [← hml] at h60 ⊢
        refine T.le (Le.trim [0] [0] 1 (by simp [trimOk, obE, -List.all_flatMap, -List.all_eq_true, eds_all]) (by omega)) ?_
        simp
        refine T.le (Le.frz (o := 0) (ob := obE m) (by simp) (trees_eds m)) ?_
        have htk : (m.flatMap edC).take (m.length * 4) = m.flatMap edC := by rw [flat_take edC_len, List.take_length]
        simp [obE, htk]
        refine T.seq (T.region ?_)
        have hc7 := c7_ok m (by omega) hmw
        have hc8 := c8_ok m (by omega)
        rw [pairs_law] at hc7
        have hc6 : PureCall Tryz.prog 6 [prs (refP m), prs (refP m)] (.bool true) := by
          have h0 := c6_ok ((refP m).map fun p => [p.1, p.2]) ((refP m).map fun p => [p.1, p.2]) (by simp; exact Nat.le_trans (refP_len m m.length (Nat.le_refl _)) (by omega)) (by
            intro x hx
            obtain ⟨p, _, rfl⟩ := List.mem_map.1 hx
            simp)
          have h1 : intss ((refP m).map fun p => [p.1, p.2]) = prs (refP m) := by
            simp [intss, prs]
            intro a b _
            rfl
          rw [h1] at h0
          simpa using h0
        refine TL.go' tabOk ?_
        simp [hC]
        refine TL.call (by simp [hC]) rfl rfl (CallQ.of rfl rfl hc7) (TL.go' tabOk ?_)
        simp [hC]
        refine TL.call (by simp [hC]) rfl rfl (CallQ.of rfl rfl hc8) (TL.go' tabOk ?_)
        simp [hC]
        refine TL.call (by simp [hC]) rfl rfl (CallQ.of rfl rfl hc6) (TL.go' tabOk ?_)
        simp [hC]
        refine TL.callG (by simp [hC]) rfl rfl rfl rfl (CallQ.of rfl rfl c9_ok) (TL.go' tabOk ?_)
        simp [hC]
        refine T.ret ?_
        refine upTo.here ?_
        simp [Tryz.results3]
      · simp [hC, h1]
        refine T.cond (b := false) rfl (T.exit ?_)
        simp
        have hmw : ∀ e ∈ mid5 l' i, inP (e.1, e.2.1) := by
          rw [hmid]
          split
          · intro e he
            obtain ⟨d, _, rfl⟩ := List.mem_map.1 he
            exact ⟨inI_mod _, inI_mod _⟩
          · exact hw'
        have hml : (mid5 l' i).length = l'.length := by
          rw [hmid]
          split <;> simp
        generalize mid5 l' i = m at hmw hml
        rw [← hml] at h60 ⊢
        refine T.le (Le.trim [0] [0] 1 (by simp [trimOk, obE, -List.all_flatMap, -List.all_eq_true, eds_all]) (by omega)) ?_
        simp
        refine T.le (Le.frz (o := 0) (ob := obE m) (by simp) (trees_eds m)) ?_
        have htk : (m.flatMap edC).take (m.length * 4) = m.flatMap edC := by rw [flat_take edC_len, List.take_length]
        simp [obE, htk]
        refine T.seq (T.region ?_)
        have hc7 := c7_ok m (by omega) hmw
        have hc8 := c8_ok m (by omega)
        rw [pairs_law] at hc7
        have hc6 : PureCall Tryz.prog 6 [prs (refP m), prs (refP m)] (.bool true) := by
          have h0 := c6_ok ((refP m).map fun p => [p.1, p.2]) ((refP m).map fun p => [p.1, p.2]) (by simp; exact Nat.le_trans (refP_len m m.length (Nat.le_refl _)) (by omega)) (by
            intro x hx
            obtain ⟨p, _, rfl⟩ := List.mem_map.1 hx
            simp)
          have h1 : intss ((refP m).map fun p => [p.1, p.2]) = prs (refP m) := by
            simp [intss, prs]
            intro a b _
            rfl
          rw [h1] at h0
          simpa using h0
        refine TL.go' tabOk ?_
        simp [hC]
        refine TL.call (by simp [hC]) rfl rfl (CallQ.of rfl rfl hc7) (TL.go' tabOk ?_)
        simp [hC]
        refine TL.call (by simp [hC]) rfl rfl (CallQ.of rfl rfl hc8) (TL.go' tabOk ?_)
        simp [hC]
        refine TL.call (by simp [hC]) rfl rfl (CallQ.of rfl rfl hc6) (TL.go' tabOk ?_)
        simp [hC]
        refine TL.callG (by simp [hC]) rfl rfl rfl rfl (CallQ.of rfl rfl c9_ok) (TL.go' tabOk ?_)
        simp [hC]
        refine T.ret ?_
        refine upTo.here ?_
        simp [Tryz.results3]
end Go.Proofs.YtniilppjegieaaaGreat
