/- edge.Pairs. -/
import Derived.Test.YtniilppjegieaaaGreatS11
import Derived.Test.YtniilppjegieaaaGreatCan36
namespace Go.Proofs.YtniilppjegieaaaGreat
open Go.Can
attribute [simp] cput

def addP (ps : List Pr) (p : Pr) : List Pr := if p ∈ ps then ps else ps ++ [p]
def difP (l : List Ed) : List Pr := l.foldl (fun ps e => addP ps (e.1, e.2.1)) []
def kyP (p : Pr) : Value := .agg #[.int .i64 p.1, .int .i64 p.2]
def esP (ps : List Pr) : List (Value × Value) := ps.map fun p => (kyP p, .bool true)
theorem veq_ky (p q : Pr) : veq (kyP p) (kyP q) = decide (p = q) := by
  obtain ⟨a, b⟩ := p
  obtain ⟨c, d⟩ := q
  by_cases h1 : a = c <;> by_cases h2 : b = d <;> simp [kyP, veq, veqs, veq1, h1, h2]
theorem mget_ky (p : Pr) : ∀ ps : List Pr, mget (kyP p) (esP ps) = if p ∈ ps then some (.bool true) else none
  | [] => by simp [esP, mget]
  | q :: r => by
    have ih := mget_ky p r
    simp only [esP] at ih
    simp only [esP, List.map_cons, mget, veq_ky, decide_eq_true_eq, ih, List.mem_cons]
    by_cases h : p = q <;> simp [h]
theorem mset_ky (p : Pr) : ∀ ps : List Pr, p ∉ ps → mset (kyP p) (.bool true) (esP ps) = esP (ps ++ [p])
  | [], _ => by simp [esP, mset]
  | q :: r, h => by
    simp only [List.mem_cons, not_or] at h
    have ih := mset_ky p r h.2
    simp only [esP] at ih
    simp [esP, mset, veq_ky, h.1, ih]
def inP (p : Pr) : Prop := inI p.1 = true ∧ inI p.2 = true
theorem esP_all {ps : List Pr} (h : ∀ p ∈ ps, inP p) : ((esP ps).all fun e => pairB e.1) = true := by
  simp [esP, kyP, pairB]
  exact fun a b hm => h (a, b) hm
theorem difP_in {l : List Ed} (h : ∀ e ∈ l, inP (e.1, e.2.1)) : ∀ p ∈ difP l, inP p := by
  have : ∀ (l : List Ed) (ps : List Pr), (∀ e ∈ l, inP (e.1, e.2.1)) → (∀ p ∈ ps, inP p) → ∀ p ∈ l.foldl (fun ps e => addP ps (e.1, e.2.1)) ps, inP p := by
    intro l
    induction l with
    | nil => intro ps _ h; exact h
    | cons a r ih =>
      intro ps h1 h2
      refine ih _ (fun e he => h1 e (List.mem_cons_of_mem _ he)) fun p hp => ?_
      simp only [addP] at hp
      split at hp
      · exact h2 p hp
      · rcases List.mem_append.1 hp with hp | hp
        · exact h2 p hp
        · simp only [List.mem_singleton] at hp
          rw [hp]
          exact h1 a List.mem_cons_self
  exact this l [] h (by simp)
theorem difP_len (l : List Ed) : (difP l).length ≤ l.length := by
  have : ∀ (l : List Ed) (ps : List Pr), (l.foldl (fun ps e => addP ps (e.1, e.2.1)) ps).length ≤ ps.length + l.length := by
    intro l
    induction l with
    | nil => intro ps; simp
    | cons a r ih =>
      intro ps
      have h1 := ih (addP ps (a.1, a.2.1))
      have h2 : (addP ps (a.1, a.2.1)).length ≤ ps.length + 1 := by
        unfold addP
        split
        · omega
        · simp
      simp only [List.foldl_cons, List.length_cons]
      omega
  simpa [difP] using this l []
theorem noIters_rows : ∀ ps : List Pr, noIters (ps.map row) = true
  | [] => rfl
  | p :: r => by
    have ih := noIters_rows r
    simp only [List.map_cons, noIters, ih, Bool.and_true]
    rfl
def srtP (ps : List Pr) : List Pr := ps.mergeSort fun x y => !ltP y x
theorem s15' (ps : List Pr) (hs : ps.length ≤ 60) : Body Tryz.prog tab 15 [.osl 0 0 ps.length, .fn 16 []] [(0, ⟨31, 1, ps.map row⟩)] 1 fun r s => r = .tup [] ∧ s.heap = [(0, ⟨31, 1, (srtP ps).map row⟩)] ∧ s.nx = 1 := by
  have h := s15 ps.toArray (by simpa using hs)
  obtain ⟨fn, c, h1, h2, h3, h4, h5⟩ := h
  refine ⟨fn, c, h1, h2, h3, h4, fun C hC hC0 => T.mono (h5 C hC hC0) ?_⟩
  have key : ∀ r s, SP ps.toArray 0 ps.toArray.size r s → (r = .tup [] ∧ s.heap = [(0, ⟨31, 1, (srtP ps).map row⟩)] ∧ s.nx = 1) := by
    rintro r s ⟨rfl, d', q1, q2, q3, q4⟩
    have q5 := Sort.sorted_unique_holds swoP (fun x y a b => by
      obtain ⟨x1, x2⟩ := x
      obtain ⟨y1, y2⟩ := y
      simp [ltP] at a b ⊢
      omega) ps.toArray d' q3 (by rw [← q3.1] at q4 ⊢; exact q4)
    refine ⟨rfl, ?_, q2⟩
    rw [q1]
    simp only [H0, obP, q5]
    rfl
  intro e s q
  cases e with
  | normal => obtain ⟨s'', ⟨r, k1, k2⟩, k3⟩ := q; exact ⟨s'', ⟨r, k1, key _ _ k2⟩, k3⟩
  | ret => obtain ⟨s'', ⟨r, k1, k2⟩, k3⟩ := q; exact ⟨s'', ⟨r, k1, key _ _ k2⟩, k3⟩
  | _ => exact q
def I7 (l : List Ed) (m : Nat) (s : St) : Prop := ∃ i : Nat, m = l.length - i ∧ i ≤ l.length ∧
  s = ⟨[(11, .int .i64 i), (10, .int .i64 l.length), (9, edg l), (4, .osl 1 0 (difP (l.take i)).length), (3, .mp 0 (esP (difP (l.take i))))], [(1, ⟨31, 1, (difP (l.take i)).map row⟩)], 2⟩

set_option maxHeartbeats 8000000 in
set_option maxRecDepth 10000 in
theorem c7_ok (l : List Ed) (hl : l.length ≤ 60) (hw : ∀ e ∈ l, inP (e.1, e.2.1)) : PureCall Tryz.prog 7 [edg l] (prs (srtP (difP l))) := by
  refine PureCall.of_TLe tabOk Tryz.func7 rfl (by kernel_rfl) (by simp [Tryz.ntmps7]) (by simp [prs]) fun C hC hC0 => ?_
  rw [Tryz.ntmps7] at hC
  refine T.seq (T.go' tabOk ?_)
  simp [hC]
  refine T.seq (T.region ?_)
  refine execX rfl (xstep_ok (s' := ⟨[(8, .mp 0 []), (2, .nilsl), (0, edg l)], [], 1⟩) tabOk (by simp [hC]) (by simp [xstep, hC0])) ?_
  refine TL.go' tabOk ?_
  simp [hC]
  refine T.seq (T.go' tabOk ?_)
  simp [hC]
  refine T.seq (T.seq (T.go' tabOk ?_))
  simp [hC, edg]
  refine T.block ?_
  refine T.loopLe (I7 l) (n := l.length) ?_ ?_
  · refine upTo.le (Le.own 4 31 1 rfl) (upTo.trim [11, 10, 9, 4, 3] [1] 2 (by simp) (by omega) ⟨0, rfl, Nat.zero_le _, ?_⟩)
    simp [difP, esP, edg]
  · rintro n s ⟨i, rfl, hi, rfl⟩
    refine T.seq (T.go' tabOk ?_)
    simp [hC, edg]
    refine T.seq ?_
    refine T.cond_if rfl (fun h => ?_) (fun h => ?_)
    · have hil : i < l.length := by simpa using h
      obtain ⟨e, he⟩ : ∃ e, l[i]? = some e := ⟨l[i], List.getElem?_eq_getElem hil⟩
      have hd := drop_ed l i e he
      refine T.skip ?_
      simp
      have hin : ∀ p ∈ difP (l.take i), inP p := difP_in (fun e he => hw e (List.mem_of_mem_take he))
      have hein : inP (e.1, e.2.1) := hw e (List.mem_of_getElem? he)
      have hkb : pairB (kyP (e.1, e.2.1)) = true := by simpa [pairB, kyP, inP] using hein
      have hpl : (difP (l.take i)).length ≤ 60 := Nat.le_trans (difP_len _) (by simp; omega)
      generalize hps : difP (l.take i) = ps at hin hpl
      refine T.seq (T.block (T.seq (T.go' tabOk ?_)))
      simp [hC, hil, hd, edC]
      refine T.seq (T.go' tabOk ?_)
      simp [hC]
      refine T.le (Le.trim [7, 11, 10, 9, 4, 3] [3, 1] 4 (by simp) (by omega)) ?_
      simp
      refine T.seq (T.region (TL.some tabOk 2 ?_))
      simp [hC]
      refine execX rfl (lookup_ok (x := .tmp 20) (y := .tmp 21) (ymi ⟨39, 40, 4, pairB, .bool false⟩ (by simp)) (k := 0) (es := esP ps) (cy := .agg [.int .i64 e.1, .int .i64 e.2.1]) (kv := kyP (e.1, e.2.1)) (c := .bool (decide ((e.1, e.2.1) ∈ ps))) (by simp [hC]) rfl (by simp) (by simp) rfl hkb (esP_all hin) (by rw [mget_ky]; by_cases hm : (e.1, e.2.1) ∈ ps <;> simp [hm, constCV1])) ?_
      refine TL.go' tabOk ?_
      simp [hC]
      have wi := w64 ((i : Int) + 1) (by omega) (by omega)
      have hnext : difP (l.take (i + 1)) = addP ps (e.1, e.2.1) := by
        rw [List.take_add_one, he]
        simp [difP, ← hps]
      refine T.cond_if rfl (fun h2 => ?_) (fun h2 => ?_)
      · have hnm : (e.1, e.2.1) ∉ ps := by simpa using h2
        refine T.seq (T.region (TL.some tabOk 2 ?_))
        simp [hC]
        refine execX rfl (mapUpd_ok (x := .tmp 24) (y := .tmp 25) (v := .const (.bool true)) (ymi ⟨39, 40, 4, pairB, .bool false⟩ (by simp)) (k := 0) (es := esP ps) (cy := .agg [.int .i64 e.1, .int .i64 e.2.1]) (kv := kyP (e.1, e.2.1)) (cv := .bool true) (vv := .bool true) (by simp [hC]) rfl (by simp) (by simp) rfl (by simp) rfl hkb (esP_all hin) (by omega) (by simp [updOk, noIter, noIters, isMp, isIt, noIters_rows])) ?_
        refine TL.go' tabOk ?_
        simp [hC, mset_ky _ _ hnm, mpE, isMp]
        refine T.le (Le.trim [7, 11, 10, 9, 4, 3] [3, 1] 4 (by simp) (by omega)) ?_
        simp
        refine T.region (TL.some tabOk 1 ?_)
        simp [hC]
        refine execX rfl (slA_ok tabOk (t := 40) (e := 3) (x := .tmp 7) (p := 3) (n := 2) (ob := ⟨40, 0, [.int .i64 e.1, .int .i64 e.2.1]⟩) (ie := ⟨.int .i64, 1, 8, [.int .i64 0]⟩) (by simp [hC]) rfl (by simp) (by kernel_rfl) (by kernel_rfl) (by omega) (by omega) (by simp) (by simp)) ?_
        refine TL.go' tabOk ?_
        have hb24 : (ps.length + 1) * 24 ≤ 140737488355328 := by omega
        simp [hC, frzA, hb24]
        refine T.go' tabOk ?_
        simp [hC, wi]
        refine ⟨l.length - (i + 1), by omega, upTo.le (Le.trim [11, 10, 9, 4, 3] [5] 6 (by simp) (by omega)) ?_⟩
        simp
        refine upTo.le (Le.renum 5 1 ⟨31, 1, ps.map row ++ [row (e.1, e.2.1)]⟩ rfl (by omega) (by omega) (by simp) (by simp)) ?_
        refine upTo.here ⟨i + 1, rfl, hil, ?_⟩
        simp [hnext, addP, hnm, edg]
      · have hm : (e.1, e.2.1) ∈ ps := by simpa using h2
        refine T.skip ?_
        simp
        refine T.go' tabOk ?_
        simp [hC, wi]
        refine ⟨l.length - (i + 1), by omega, upTo.trim [11, 10, 9, 4, 3] [1] 2 (by simp) (by omega) ⟨i + 1, rfl, hil, ?_⟩⟩
        simp [hnext, addP, hm, edg]
    · refine T.exit ?_
      simp
      have hil : i = l.length := by
        have : ¬ i < l.length := by simpa using h
        omega
      subst hil
      simp
      refine T.le (Le.trim [4] [1] 2 (by simp) (by omega)) ?_
      simp
      refine T.le (Le.renum 1 0 ⟨31, 1, (difP l).map row⟩ rfl (by omega) (by omega) (by simp) (by simp)) ?_
      simp
      refine T.seq (T.go' tabOk ?_)
      simp [hC]
      refine TL.callB tabOk (by simp [hC]) rfl rfl rfl (s15' (difP l) (Nat.le_trans (difP_len l) hl)) ?_
      rintro r st ⟨rfl, h2, h3⟩
      simp [h2, h3, hC]
      refine TL.go' tabOk ?_
      simp [hC]
      refine T.seq (T.go' tabOk ?_)
      simp [hC]
      refine T.ret ?_
      refine upTo.le (Le.env [2]) ?_
      simp
      refine upTo.le (Le.frz (o := 0) (ob := ⟨31, 1, (srtP (difP l)).map row⟩) (by simp) (by simp)) ?_
      refine upTo.here ?_
      simp [Tryz.results7, prs, srtP]
      exact List.take_of_length_le (by simp)
end Go.Proofs.YtniilppjegieaaaGreat

/- The plain law of EdgePairs: the sorted different pairs are the inserted ones. -/
namespace Go.Proofs.YtniilppjegieaaaGreat
open Go.Can

def asc (ps : List Pr) : Prop := ps.Pairwise fun p q => ltP p q = true
theorem ltP_irr (p : Pr) : ltP p p = false := swoP.irrefl p
theorem ltP_tr {p q r : Pr} (h1 : ltP p q = true) (h2 : ltP q r = true) : ltP p r = true := swoP.trans p q r h1 h2
theorem ltP_tot {p q : Pr} (h1 : ltP p q = false) (h2 : ltP q p = false) : p = q := by
  obtain ⟨a, b⟩ := p
  obtain ⟨c, d⟩ := q
  simp [ltP] at h1 h2 ⊢
  omega
theorem insP_cons (a p : Pr) (r : List Pr) : insP (a :: r) p = if ltP a p = true then a :: insP r p else if a = p then a :: r else p :: a :: r := by
  unfold insP cnt
  by_cases h : ltP a p = true
  · simp only [List.takeWhile_cons, h, if_true, List.length_cons, List.getElem?_cons_succ, List.take_succ_cons, List.drop_succ_cons]
    split <;> rfl
  · simp only [List.takeWhile_cons, h, if_false, Bool.false_eq_true, List.length_nil, List.getElem?_cons_zero, Option.some.injEq, List.take_zero, List.drop_zero, List.nil_append]
theorem insP_mem (p q : Pr) : ∀ ps : List Pr, q ∈ insP ps p ↔ q = p ∨ q ∈ ps
  | [] => by simp [insP, cnt]
  | a :: r => by
    rw [insP_cons]
    split
    · rw [List.mem_cons, insP_mem p q r, List.mem_cons]
      constructor <;> (rintro (h | h | h) <;> simp [h])
    · split
      · rename_i h; subst h; simp
      · simp
theorem insP_asc (p : Pr) : ∀ ps : List Pr, asc ps → asc (insP ps p)
  | [], _ => by simp [insP, cnt, asc]
  | a :: r, h => by
    rw [insP_cons]
    have h' := List.pairwise_cons.1 h
    split
    · rename_i hl
      refine List.pairwise_cons.2 ⟨fun q hq => ?_, insP_asc p r h'.2⟩
      rcases (insP_mem p q r).1 hq with e | e
      · rw [e]; exact hl
      · exact h'.1 q e
    · rename_i hl
      split
      · exact h
      · rename_i hne
        have hpa : ltP p a = true := by
          cases hc : ltP p a with
          | true => rfl
          | false => exact absurd (ltP_tot (by simpa using hl) hc) hne
        refine List.pairwise_cons.2 ⟨fun q hq => ?_, h⟩
        rcases List.mem_cons.1 hq with e | e
        · rw [e]; exact hpa
        · exact ltP_tr hpa (h'.1 q e)
theorem asc_nodup {ps : List Pr} (h : asc ps) : ps.Nodup := h.imp fun {a b} hab e => by
  subst e
  rw [ltP_irr] at hab
  cases hab
theorem pairs_law (l : List Ed) : srtP (difP l) = refP l := by
  have key : ∀ (l : List Ed) (d r : List Pr), d.Nodup → asc r → (∀ q, q ∈ d ↔ q ∈ r) →
      (l.foldl (fun ps e => addP ps (e.1, e.2.1)) d).Nodup ∧ asc (l.foldl (fun ps e => insP ps (e.1, e.2.1)) r) ∧ ∀ q, q ∈ l.foldl (fun ps e => addP ps (e.1, e.2.1)) d ↔ q ∈ l.foldl (fun ps e => insP ps (e.1, e.2.1)) r := by
    intro l
    induction l with
    | nil => intro d r h1 h2 h3; exact ⟨h1, h2, h3⟩
    | cons e l ih =>
      intro d r h1 h2 h3
      refine ih _ _ ?_ (insP_asc _ _ h2) fun q => ?_
      · simp only [addP]
        split
        · exact h1
        · rename_i hn
          exact List.nodup_append.2 ⟨h1, by simp, fun a ha b hb => by
            simp only [List.mem_singleton] at hb
            subst hb
            rintro rfl
            exact hn ha⟩
      · rw [insP_mem, ← h3 q]
        simp only [addP]
        split
        · rename_i hm
          constructor
          · exact .inr
          · rintro (rfl | h)
            · exact hm
            · exact h
        · simp [or_comm]
  obtain ⟨k1, k2, k3⟩ := key l [] [] (by simp) (by simp [asc]) (by simp)
  have hp : (difP l).Perm (refP l) := (List.perm_ext_iff_of_nodup k1 (asc_nodup k2)).2 k3
  have hs : (srtP (difP l)).Pairwise fun x y => (!ltP y x) = true := List.pairwise_mergeSort (fun a b c h1 h2 => by
    simp only [Bool.not_eq_true'] at *
    exact swoP.ntrans _ _ _ h2 h1) (fun a b => by
    cases h : ltP b a with
    | false => simp
    | true =>
      cases h2 : ltP a b with
      | false => simp
      | true => have := ltP_tr h h2; rw [ltP_irr] at this; cases this) _
  have hr : (refP l).Pairwise fun x y => (!ltP y x) = true := k2.imp fun {a b} h => by
    cases h2 : ltP b a with
    | false => rfl
    | true => have := ltP_tr h h2; rw [ltP_irr] at this; cases this
  refine List.Perm.eq_of_pairwise (le := fun x y => (!ltP y x) = true) (fun a b _ _ h1 h2 => ?_) hs hr ((List.mergeSort_perm _ _).trans hp)
  simp only [Bool.not_eq_true'] at h1 h2
  exact ltP_tot h2 h1
end Go.Proofs.YtniilppjegieaaaGreat
