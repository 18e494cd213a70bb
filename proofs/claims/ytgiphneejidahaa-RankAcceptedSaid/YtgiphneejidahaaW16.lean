/- Law SccOrder. -/
import Derived.Test.YtgiphneejidahaaW15
import Derived.Test.YtgiphneejidahaaSpec5
namespace Go.Proofs.Ytgiphneejidahaa
open Go.Can

theorem codeComps_congr (n : Int) (ps qs : List (List Int)) (h : ∀ p, p ∈ qs ↔ p ∈ ps) : codeComps n qs = codeComps n ps := by
  unfold codeComps; rw [reachM_congr n qs ps h]
theorem codeCyc_congr (n : Int) (ps qs : List (List Int)) (h : ∀ p, p ∈ qs ↔ p ∈ ps) : codeCyc n qs = codeCyc n ps := by
  unfold codeCyc; rw [codeComps_congr n ps qs h, reachM_congr n qs ps h]
theorem self_comps (n : Int) (ps : List (List Int)) : PureCall Try.prog 16 [intss (codeComps n ps), intss (codeComps n ps)] (.bool true) := by
  have := same_comps n ps
  rwa [← code_ref] at this
theorem self_cyc (n : Int) (ps : List (List Int)) : PureCall Try.prog 16 [intss (codeCyc n ps), intss (codeCyc n ps)] (.bool true) := by
  have := same_cyc n ps
  rwa [← code_ref_cyc] at this

theorem put_intss (qs : List (List Int)) (a : Nat) (x : List Int) (h : a < qs.length) : List.take a (qs.map ints) ++ CV.tsl (x.map I64) x.length :: List.drop (a + 1) (qs.map ints) = (qs.set a x).map ints := by
  rw [show CV.tsl (x.map I64) x.length = ints x from rfl]
  rw [List.map_set, List.set_eq_take_append_cons_drop, if_pos (by simpa using h)]
theorem swap_mem (qs : List (List Int)) (a b : Nat) (ha : a < qs.length) (hb : b < qs.length) (p : List Int) : p ∈ (qs.set a qs[b]).set b qs[a] ↔ p ∈ qs :=
  (List.set_set_perm ha hb).mem_iff

set_option maxHeartbeats 4000000 in
set_option maxRecDepth 10000 in
theorem c7_ok (n : Int) (l order : List Int) (hl : l.length ≤ 9223372036854775807) (_ho : order.length ≤ 9223372036854775807) : PureCall Try.prog 7 [.int .i64 n, ints l, ints order] (.bool true) := by
  refine PureCall.of_TLe Try.func7 rfl (by kernel_rfl) (by simp [Try.ntmps7]) rfl fun C hC => ?_
  rw [Try.ntmps7] at hC
  refine T.seq (T.go' tabOk ?_)
  simp [hC]
  refine T.seq (T.go' tabOk ?_)
  simp [hC]
  refine TL.call (by simp [hC]) rfl rfl (CallQ.of rfl rfl (c14_ok n)) (TL.go' tabOk ?_)
  simp [hC]
  generalize hm : n % 13 = m
  refine T.seq (T.go' tabOk ?_)
  simp [hC]
  generalize hx : (if m < 1 then (1 : Int) else m) = mx
  have hmx : 0 < mx ∧ mx ≤ 4611686018427387904 := by
    have h0 := Int.emod_nonneg n (show (13 : Int) ≠ 0 by decide)
    have h1 := Int.emod_lt_of_pos n (show (0 : Int) < 13 by decide)
    split at hx <;> omega
  refine TL.call (by simp [hC]) rfl rfl (CallQ.of rfl rfl (c15_ok l mx hmx.1 hmx.2 hl)) (TL.go' tabOk ?_)
  have hps := pairsOf_le l mx
  generalize pairsOf l mx = ps at *
  have hb1 : (ps.length : Int) * 24 ≤ 140737488355328 := by omega
  have hb2 : ps.length * 24 ≤ 140737488355328 := by omega
  simp [hC]
  refine T.seq (T.go' tabOk ?_)
  simp [hC, intss, hb2]
  refine T.seq (T.seq (T.go' tabOk ?_))
  simp [hC]
  refine T.block ?_
  refine T.loopLe (fun w s => ∃ (i : Nat) (qs : List (List Int)), w = order.length - i ∧ i ≤ order.length ∧ i ≤ 30 ∧ qs.length = ps.length + i ∧ (∀ p, p ∈ qs ↔ p ∈ ps) ∧ s = ⟨[(9, .int .i64 i), (8, .osl 0 0 qs.length), (7, intss ps), (2, ints order), (0, .int .i64 m)], [(0, ⟨22, 1, qs.map ints⟩)], 1⟩) (n := order.length) ?_ ?_
  · refine upTo.le (Le.env [9, 8, 7, 2, 0]) (upTo.here ⟨0, ps, rfl, Nat.zero_le _, Nat.zero_le _, rfl, fun _ => Iff.rfl, ?_⟩)
    simp [intss]
  · rintro w s ⟨i, qs, rfl, hi, hi30, hql, hqs, rfl⟩
    refine T.seq (T.cut (fun s => s = ⟨[(33, .bool (decide (i < order.length) && decide (i < 30) && decide (0 < ps.length))), (9, .int .i64 i), (8, .osl 0 0 qs.length), (7, intss ps), (2, ints order), (0, .int .i64 m)], [(0, ⟨22, 1, qs.map ints⟩)], 1⟩) (T.go' tabOk ?_) ?_)
    · by_cases h1 : i < order.length
      · by_cases h2 : i < 30
        · have h2' : (i : Int) < 30 := by omega
          simp [hC, ints, intss, h1, h2']
          refine upTo.le (Le.env [33, 9, 8, 7, 2, 0]) (upTo.here ?_)
          simp [h2]
        · have h2' : ¬ (i : Int) < 30 := by omega
          simp [hC, ints, intss, h1, h2']
          refine upTo.le (Le.env [33, 9, 8, 7, 2, 0]) (upTo.here ?_)
          simp [h2]
      · simp [hC, ints, intss, h1]
        refine upTo.le (Le.env [33, 9, 8, 7, 2, 0]) (upTo.here ?_)
        simp
    · rintro s rfl
      refine T.cond_if rfl (fun h => ?_) (fun h => ?_)
      · simp only [Bool.and_eq_true, decide_eq_true_eq] at h
        obtain ⟨⟨h1, h2⟩, h3⟩ := h
        refine T.skip ?_
        simp
        refine T.le (Le.env [9, 8, 7, 2, 0]) ?_
        simp
        have eo : order[i]? = some order[i] := List.getElem?_eq_getElem h1
        generalize hv : order[i] = v at *
        have hpp : (0 : Int) < ps.length := by omega
        obtain ⟨a, ha⟩ : ∃ a : Nat, v % ps.length = a := ⟨(v % ps.length).toNat, by have := Int.emod_nonneg v (show (ps.length : Int) ≠ 0 by omega); omega⟩
        have ha1 : a < ps.length := by have := Int.emod_lt_of_pos v hpp; omega
        refine T.seq (T.block (T.seq (T.draw' tabOk follows [] [0, 1, 2, 3, 4, 5, 6, 7, 8, 9, 10, 11, 12, 13, 14, 15, 16] [] (by kernel_rfl) ?_)))
        simp [hC, ints, intss, h1, hv]
        refine TH.call rfl rfl rfl rfl (CallQ.of rfl rfl (c23_ok v ps.length hpp (by omega))) (TH.go' ?_)
        simp [h1, hv, ha]
        generalize v.fdiv (2 ^ min 8 IntKind.i64.bits) = v2
        obtain ⟨b, hb⟩ : ∃ b : Nat, v2 % ps.length = b := ⟨(v2 % ps.length).toNat, by have := Int.emod_nonneg v2 (show (ps.length : Int) ≠ 0 by omega); omega⟩
        have hb1 : b < ps.length := by have := Int.emod_lt_of_pos v2 hpp; omega
        refine TH.call rfl rfl rfl rfl (CallQ.of rfl rfl (c23_ok v2 ps.length hpp (by omega))) (TH.go' ?_)
        simp [hC, hb]
        refine T.le (Le.env [11, 10, 9, 8, 7, 2, 0]) ?_
        simp
        have haq : a < qs.length := by omega
        have hbq : b < qs.length := by omega
        have ea : qs[a]? = some qs[a] := List.getElem?_eq_getElem haq
        have eb : qs[b]? = some qs[b] := List.getElem?_eq_getElem hbq
        have ep : ps[a]? = some ps[a] := List.getElem?_eq_getElem ha1
        have hmem := swap_mem qs a b haq hbq
        have hpm : ps[a] ∈ ps := List.getElem_mem ha1
        generalize hya : qs[a] = ya at *
        generalize hyb : qs[b] = yb at *
        generalize hyp : ps[a] = yp at *
        have hs1 := put_intss qs a yb haq
        have hs2 := put_intss (qs.set a yb) b ya (by simpa using hbq)
        have hql1 : (qs.set a yb).length = qs.length := by simp
        have hql2 : ((qs.set a yb).set b ya).length = qs.length := by simp
        generalize (qs.set a yb).set b ya = rs at *
        generalize qs.set a yb = qs1 at *
        refine T.seq (T.draw' tabOk follows [2, 3] [0, 1, 4, 5, 6, 7, 8, 9, 10, 11, 12] [13, 14, 15] (by kernel_rfl) ?_)
        simp [hC, ints, haq, hbq, hya, hyb, Nat.succ_le_of_lt haq, Nat.succ_le_of_lt hbq, hs1, hs2, hql1]
        rw [← hql2] at hql ⊢
        have hby1 : ((rs.length : Int) + 1) * 24 ≤ 140737488355328 := by omega
        have hby2 : (rs.length + 1) * 24 ≤ 140737488355328 := by omega
        refine T.le (Le.env [10, 9, 8, 7, 2, 0]) ?_
        simp
        refine T.go' tabOk ?_
        simp [hC, ints, ha1, hyp, hby2]
        refine T.go' tabOk ?_
        have hw := w64 ((i : Int) + 1) (by omega) (by omega)
        simp [hC, hw]
        refine ⟨_, ?_, upTo.trim [9, 8, 7, 2, 0] [0] 1 (by simp) ⟨i + 1, rfl, h1, h2, rs ++ [yp], ?_, ?_, ?_⟩⟩
        · omega
        · simp; omega
        · intro p
          rw [List.mem_append, hmem, hqs]
          simp
          rintro rfl; exact hpm
        · simp [ints]
      · refine T.exit ?_
        simp
        refine T.le (Le.trans (Le.frz (o := 0) (ob := ⟨22, 1, qs.map ints⟩) (by simp) (by simp)) (Le.env [8, 7, 0])) ?_
        simp
        have hall : List.take qs.length (qs.map ints) = qs.map ints := List.take_of_length_le (by simp)
        simp [hall]
        have hq : CV.tsl (qs.map ints) qs.length = intss qs := rfl
        rw [hq]
        have hqc := codeComps_congr m ps qs hqs
        have hqy := codeCyc_congr m ps qs hqs
        refine T.seq (T.go' tabOk ?_)
        simp [hC]
        refine TL.call (by simp [hC]) rfl rfl (CallQ.of rfl rfl (c17_ok m ps (by omega))) (TL.go' tabOk ?_)
        simp [hC]
        refine TL.call (by simp [hC]) rfl rfl (CallQ.of rfl rfl (hqc ▸ c17_ok m qs (by omega))) (TL.go' tabOk ?_)
        simp
        refine TL.call (by simp [hC]) rfl rfl (CallQ.of rfl rfl (self_comps m ps)) (TL.go' tabOk ?_)
        simp [hC]
        refine TL.callG (by simp [hC]) rfl rfl rfl rfl (CallQ.of rfl rfl (c19_ok m ps (by omega))) (TL.go' tabOk ?_)
        simp [hC]
        refine TL.callG (by simp [hC]) rfl rfl rfl rfl (CallQ.of rfl rfl (hqy ▸ c19_ok m qs (by omega))) (TL.go' tabOk ?_)
        simp
        refine TL.callG (by simp [hC]) rfl rfl rfl rfl (CallQ.of rfl rfl (self_cyc m ps)) (TL.go' tabOk ?_)
        simp [hC]
        refine TL.callG (by simp [hC]) rfl rfl rfl rfl (CallQ.of rfl rfl c21_ok) (TL.go' tabOk ?_)
        simp [hC]
        refine T.ret ?_
        refine upTo.here ?_
        simp [Try.results7]
end Go.Proofs.Ytgiphneejidahaa
