/- Arguments as the contracts read them. No function of the program is mentioned here. -/
import Derived.Test.YtniilppjegieaaaGreatCan16
import Derived.Test.YtniilppjegieaaaGreatRows
import Derived.ProofKit
import Derived.Deep.Matrix
import Derived.Deep.Fields
import Derived.Test.YtniilppjegieaaaGreatFlat
namespace Go.Can
open Go.ChangeShapes Go.WideShapes Go.ChangeAt Go.RowKit

section
variable {P : Program} {H : Type} {enc : TypeId × Value → H} {w : World}

theorem mrt_of {F : Nat → Prop} (hF : ∀ b, ¬ F b) : ∀ (cs : List CV) (ad : Addr), cs.all one = true → (∀ i c, cs[i]? = some c → ∃ u, w.cell? (ad.add i) = some u ∧ VRt w F c u) → MRt w F cs ad
  | [], _, _, _ => by simp [MRt]
  | c :: cs, ad, h1, h => by
    simp only [List.all_cons, Bool.and_eq_true] at h1
    obtain ⟨u, k1, k2⟩ := h 0 c rfl
    rw [add_zero] at k1
    simp only [MRt]
    refine ⟨⟨u, k1, hF _, k2⟩, h1.1, mrt_of hF cs _ h1.2 fun i d hi => ?_⟩
    obtain ⟨v, m1, m2⟩ := h (i + 1) d (by simpa using hi)
    refine ⟨v, ?_, m2⟩
    rw [add_add, Nat.add_comm]; exact m1

theorem one_map {α : Type} (f : α → CV) (h : ∀ x, one (f x) = true) (l : List α) : (l.map f).all one = true := by
  rw [List.all_eq_true]; intro x hx; obtain ⟨y, _, rfl⟩ := List.mem_map.1 hx; exact h y
theorem VRt_none {F : Nat → Prop} (cs : List CV) (h : cs = []) : VRt w F (.tsl cs 0) (.slice none 0 0) := by
  subst h
  simp only [VRt]
  exact ⟨none, 0, rfl, Nat.le_refl _, Nat.zero_le _, .inl ⟨trivial, by simp⟩⟩

theorem open_ints_can {F : Nat → Prop} (hF : ∀ b, ¬ F b) {t e : TypeId} {r : Reach} {b0 : Nat} {v : Value} {d : DataW H} {ps : List MemPlace} (ht : P.underlying t = some (.slice e)) (he : P.underlying e = some (.int .i64)) (hc : P.cellsOf e = 1)
    (hval : Value.okWide P w r b0 t v) (h : DataW.Trod enc P w 0 (fun _ => true) true t v d ps) : ∃ l : List Int, VRt w F (ints l) v ∧ l.length ≤ 9223372036854775807 := by
  obtain ⟨a, n, cap, rfl⟩ := okWide_slice ht hval
  obtain ⟨fuel, hf⟩ := h
  rcases open_ints ht he hc hf with ⟨hcs, _⟩ | ⟨a', len, cap', zs, hcs, _, hl, hm, hz, _, hcell, _⟩
  · simp [Value.cells] at hcs
    obtain ⟨rfl, rfl, rfl⟩ := hcs
    exact ⟨[], VRt_none _ rfl, by simp⟩
  · simp [Value.cells] at hcs
    obtain ⟨rfl, rfl, rfl⟩ := hcs
    simp only [if_true] at hz
    have hlen : (zs.take n).length = n := by simp; omega
    refine ⟨zs.take n, ?_, by rw [hlen]; simp only [maxLen] at hm; omega⟩
    unfold ints
    rw [hlen]
    simp only [VRt]
    refine ⟨_, cap, rfl, hl, hm, .inr ⟨a', rfl, mrt_of hF _ _ (one_map _ (fun _ => rfl) _) fun i c hi => ?_⟩⟩
    rw [List.getElem?_map] at hi
    obtain ⟨z, hz1, rfl⟩ := Option.map_eq_some_iff.1 hi
    rw [List.getElem?_take] at hz1
    split at hz1
    · rename_i hin
      have hlt : i < zs.length := by omega
      refine ⟨_, hcell i hlt, ?_⟩
      have : zs.getD i 0 = z := by simp [List.getD, hz1]
      rw [this]
      simp [VRt]
    · cases hz1

theorem open_intss_can {F : Nat → Prop} (hF : ∀ b, ¬ F b) {t e q : TypeId} {r : Reach} {b0 : Nat} {v : Value} {d : DataW H} {ps : List MemPlace} (ht : P.underlying t = some (.slice e)) (he : P.underlying e = some (.slice q)) (hq : P.underlying q = some (.int .i64))
    (ce : P.cellsOf e = 1) (cq : P.cellsOf q = 1) (hval : Value.okWide P w r b0 t v) (h : DataW.Trod enc P w 0 (fun _ => true) true t v d ps) :
    ∃ l : List (List Int), VRt w F (intss l) v ∧ l.length ≤ 9223372036854775807 ∧ ∀ x ∈ l, x.length ≤ 9223372036854775807 := by
  obtain ⟨a, n, cap, rfl⟩ := okWide_slice ht hval
  obtain ⟨fuel, hf⟩ := h
  rcases Go.Deep.open_int_rows ht he hq ce cq hf with ⟨hcs, _⟩ | ⟨a', len, cap', A, L, C, Z, hcs, _, hl, hm, _, hrow⟩
  · simp [Value.cells] at hcs
    obtain ⟨rfl, rfl, rfl⟩ := hcs
    exact ⟨[], VRt_none _ rfl, by simp, by simp⟩
  · simp [Value.cells] at hcs
    obtain ⟨rfl, rfl, rfl⟩ := hcs
    refine ⟨(List.range n).map fun i => (Z i).take (L i), ?_, by simp; simp only [maxLen] at hm; omega, ?_⟩
    · unfold intss
      rw [List.length_map, List.length_range]
      simp only [VRt]
      refine ⟨_, cap, rfl, hl, hm, .inr ⟨a', rfl, mrt_of hF _ _ (one_map _ (fun _ => rfl) _) fun i c hi => ?_⟩⟩
      simp only [List.map_map, List.getElem?_map] at hi
      obtain ⟨j, hj, rfl⟩ := Option.map_eq_some_iff.1 hi
      have hin : i < n := by
        have := (List.getElem?_eq_some_iff.1 hj).1
        simpa using this
      have : j = i := by simpa [hin] using hj.symm
      subst this
      obtain ⟨k1, k2, k3, k4, _, k6, k7⟩ := hrow j (by omega)
      refine ⟨_, k1, ?_⟩
      have hlen : ((Z j).take (L j)).length = L j := by simp; omega
      simp only [Function.comp, ints]
      rw [hlen]
      cases hA : A j with
      | none =>
        have hC := k6 hA
        have hL : L j = 0 := by omega
        rw [hC, hL]
        exact VRt_none _ (by simp)
      | some ar =>
        obtain ⟨_, hc⟩ := k7 ar hA
        simp only [VRt]
        refine ⟨_, C j, rfl, k2, k3, .inr ⟨ar, rfl, mrt_of hF _ _ (one_map _ (fun _ => rfl) _) fun i c hi => ?_⟩⟩
        rw [List.getElem?_map] at hi
        obtain ⟨z, hz1, rfl⟩ := Option.map_eq_some_iff.1 hi
        rw [List.getElem?_take] at hz1
        split at hz1
        · rename_i hin
          refine ⟨_, hc i (by omega), ?_⟩
          have : (Z j).getD i 0 = z := by simp [List.getD, hz1]
          rw [this]
          simp [VRt]
        · cases hz1
    · intro x hx
      obtain ⟨i, hi, rfl⟩ := List.mem_map.1 hx
      have hi := List.mem_range.1 hi
      obtain ⟨_, k2, k3, k4, _⟩ := hrow i (by omega)
      simp only [maxLen] at k3
      simp; omega

/-- A struct of four integers and a slice of integers. -/
theorem open_rec_can {F : Nat → Prop} (hF : ∀ b, ¬ F b) {t ti ts : TypeId} {fs : Array Field} {r : Reach} {b0 : Nat} {v : Value} {d : DataW H} {ps : List MemPlace} (ht : P.underlying t = some (.struct fs)) (hone : Go.Deep.oneCellFields P fs = true) (hty : fs.toList.map (·.type) = [ti, ti, ti, ti, ts])
    (hi : P.underlying ti = some (.int .i64)) (hci : P.cellsOf ti = 1) (hs : P.underlying ts = some (.slice ti)) (hct : P.cellsOf t = 5)
    (hval : Value.okWide P w r b0 t v) (h : DataW.Trod enc P w 0 (fun _ => true) true t v d ps) : ∃ (a b c e : Int) (l : List Int), VRt w F (.agg [.int .i64 a, .int .i64 b, .int .i64 c, .int .i64 e, ints l]) v := by
  obtain ⟨cs, rfl, hsz⟩ := okWide_struct ht hval
  obtain ⟨fuel, hf⟩ := h
  simp only [Value.cells] at hf
  obtain ⟨xs, n, _, _, _, hxl, hfi⟩ := DataW.trod_struct ht hf
  rw [hct] at hsz
  have hone' := Go.Deep.hone_of hone
  have hlen : fs.size = 5 := by
    have := congrArg List.length hty
    simpa using this
  have field : ∀ i (hi5 : i < 5) q, [ti, ti, ti, ti, ts][i]? = some q → ∃ y, DataW.trod enc P w 0 (fun _ => true) true n q [cs.toList.getD i undef] = some y := fun i hi5 q hq => by
    have hlt : i < fs.size := by omega
    have hfs : fs[i]? = some fs[i] := by simp [hlt]
    have hq' : fs[i].type = q := by
      rw [← hty] at hq
      simp [List.getElem?_map, hlt] at hq
      exact hq
    obtain ⟨ho, hc1⟩ := hone' i fs[i] hfs
    have g := hfi i fs[i] hfs
    rw [ho, hc1, Go.Deep.take1_drop cs.toList i undef (by simp; omega), hq'] at g
    have hx : i < xs.length := by omega
    exact ⟨xs[i], by rw [g]; simp [hx]⟩
  have int : ∀ i (hi5 : i < 5), [ti, ti, ti, ti, ts][i]? = some ti → ∃ z, cs.toList.getD i undef = .int .i64 z := fun i hi5 hq => by
    obtain ⟨y, hy⟩ := field i hi5 ti hq
    obtain ⟨z, hz, _⟩ := DataW.trod_int hi hy
    simp only [List.cons.injEq, and_true] at hz
    exact ⟨z, hz⟩
  obtain ⟨a, ea⟩ := int 0 (by omega) rfl
  obtain ⟨b, eb⟩ := int 1 (by omega) rfl
  obtain ⟨c, ec⟩ := int 2 (by omega) rfl
  obtain ⟨e, ee⟩ := int 3 (by omega) rfl
  obtain ⟨y, hy⟩ := field 4 (by omega) ts rfl
  have hsl : ∃ l, VRt w F (ints l) (cs.toList.getD 4 undef) := by
    rcases open_ints hs hi hci hy with ⟨hcs, _⟩ | ⟨a', len, cap', zs, hcs, _, hl, hm, hz, _, hcell, _⟩
    · simp only [List.cons.injEq, and_true] at hcs
      rw [hcs]
      exact ⟨[], VRt_none _ rfl⟩
    · simp only [List.cons.injEq, and_true] at hcs
      rw [hcs]
      simp only [if_true] at hz
      have hlen : (zs.take len).length = len := by simp; omega
      refine ⟨zs.take len, ?_⟩
      unfold ints
      rw [hlen]
      simp only [VRt]
      refine ⟨_, cap', rfl, hl, hm, .inr ⟨a', rfl, mrt_of hF _ _ (one_map _ (fun _ => rfl) _) fun i c hi => ?_⟩⟩
      rw [List.getElem?_map] at hi
      obtain ⟨z, hz1, rfl⟩ := Option.map_eq_some_iff.1 hi
      rw [List.getElem?_take] at hz1
      split at hz1
      · rename_i hin
        have hlt : i < zs.length := by omega
        refine ⟨_, hcell i hlt, ?_⟩
        have : zs.getD i 0 = z := by simp [List.getD, hz1]
        rw [this]
        simp [VRt]
      · cases hz1
  obtain ⟨l, hl⟩ := hsl
  have hcs : cs = #[.int .i64 a, .int .i64 b, .int .i64 c, .int .i64 e, cs.toList.getD 4 undef] := by
    have h5 : cs.toList.length = 5 := by simpa using hsz
    apply Array.ext'
    revert h5 ea eb ec ee
    generalize cs.toList = q
    intro ea eb ec ee h5
    match q, h5 with
    | [x0, x1, x2, x3, x4], _ =>
      simp only [List.getD_cons_zero, List.getD_cons_succ] at ea eb ec ee ⊢
      rw [ea, eb, ec, ee]
  refine ⟨a, b, c, e, l, ?_⟩
  rw [hcs]
  simp only [VRt, VRts]
  exact ⟨[_, _, _, _, _], rfl, ⟨_, _, rfl, rfl, _, _, rfl, rfl, _, _, rfl, rfl, _, _, rfl, rfl, _, _, rfl, hl, rfl⟩, by simp [one, ints]⟩

/-- A contract that says true, at arguments that read so. -/
theorem PureCall.calls {f : FuncId} {args : List CV} {b : Bool} (h : PureCall P f args (.bool b)) {vs : List Value} (hv : VRts w (fun _ => False) args vs) : Calls P f vs.toArray w fun e w' => e = .returned (.bool b) ∧ Below w.heap.size w w' :=
  (h.2 (fun _ => False) vs w (fun _ hb => hb.elim) hv).mono fun e w' ⟨v, h1, h2, h3⟩ => by
    simp only [VRt] at h3
    subst h3
    exact ⟨h1, h2⟩
end
end Go.Can

/- Arguments as the contracts read them: a slice of structs of four integers. No function of the program is mentioned here. -/
namespace Go.Can
open Go.ChangeShapes Go.WideShapes Go.ChangeAt Go.RowKit

section
variable {P : Program} {H : Type} {enc : TypeId × Value → H} {w : World}
def q4 (e : Int × Int × Int × Int) : List CV := [.int .i64 e.1, .int .i64 e.2.1, .int .i64 e.2.2.1, .int .i64 e.2.2.2]
def q4V (e : Int × Int × Int × Int) : List Value := [.int .i64 e.1, .int .i64 e.2.1, .int .i64 e.2.2.1, .int .i64 e.2.2.2]
def q4W (e : Int × Int × Int × Int) : Prop := (Lit.int .i64 e.1).wf = true ∧ (Lit.int .i64 e.2.1).wf = true ∧ (Lit.int .i64 e.2.2.1).wf = true ∧ (Lit.int .i64 e.2.2.2).wf = true
theorem flat_q4 (l : List (Int × Int × Int × Int)) (i k : Nat) (e : Int × Int × Int × Int) (h : l[i]? = some e) (hk : k < 4) : (l.flatMap q4)[i * 4 + k]? = (q4 e)[k]? := by
  have h1 := flat_at (f := q4) (n := 4) (fun _ => rfl) h
  rw [← List.getElem?_drop, h1, List.getElem?_append_left (by simpa [q4] using hk)]
theorem open_q4 {t ti : TypeId} {fs : Array Field} {fuel : Nat} {cs : List Value} {x : DataW H × List MemPlace} (ht : P.underlying t = some (.struct fs)) (hone : Go.Deep.oneCellFields P fs = true) (hty : fs.toList.map (·.type) = [ti, ti, ti, ti])
    (hi : P.underlying ti = some (.int .i64)) (hct : P.cellsOf t = 4) (h : DataW.trod enc P w 0 (fun _ => true) true fuel t cs = some x) : ∃ e, cs = q4V e ∧ q4W e := by
  obtain ⟨xs, n, _, _, hsz, hxl, hfi⟩ := DataW.trod_struct ht h
  rw [hct] at hsz
  have hone' := Go.Deep.hone_of hone
  have hlen : fs.size = 4 := by
    have := congrArg List.length hty
    simpa using this
  have int : ∀ i (hi4 : i < 4), ∃ z, cs.getD i undef = .int .i64 z ∧ (Lit.int .i64 z).wf = true := fun i hi4 => by
    have hlt : i < fs.size := by omega
    have hfs : fs[i]? = some fs[i] := by simp [hlt]
    have hq' : fs[i].type = ti := by
      have h1 : (fs.toList.map (·.type))[i]? = some ti := by
        rw [hty]
        match i, hi4 with
        | 0, _ => rfl
        | 1, _ => rfl
        | 2, _ => rfl
        | 3, _ => rfl
      simp [List.getElem?_map, hlt] at h1
      exact h1
    obtain ⟨ho, hc1⟩ := hone' i fs[i] hfs
    have g := hfi i fs[i] hfs
    rw [ho, hc1, Go.Deep.take1_drop cs i undef (by omega), hq'] at g
    have hx : i < xs.length := by omega
    obtain ⟨z, hz, _, hw⟩ := DataW.trod_int hi (g.trans (List.getElem?_eq_getElem hx))
    simp only [List.cons.injEq, and_true] at hz
    exact ⟨z, hz, hw⟩
  obtain ⟨a, ea, wa⟩ := int 0 (by omega)
  obtain ⟨b, eb, wb⟩ := int 1 (by omega)
  obtain ⟨c, ec, wc⟩ := int 2 (by omega)
  obtain ⟨e, ee, we⟩ := int 3 (by omega)
  refine ⟨(a, b, c, e), ?_, wa, wb, wc, we⟩
  match cs, hsz with
  | [x0, x1, x2, x3], _ =>
    simp only [List.getD_cons_zero, List.getD_cons_succ] at ea eb ec ee
    rw [ea, eb, ec, ee]
    rfl

/-- A slice of structs of four integers. -/
theorem open_q4s_can {F : Nat → Prop} (hF : ∀ b, ¬ F b) {ts t ti : TypeId} {fs : Array Field} {r : Reach} {b0 : Nat} {v : Value} {d : DataW H} {ps : List MemPlace} (hs : P.underlying ts = some (.slice t)) (ht : P.underlying t = some (.struct fs)) (hone : Go.Deep.oneCellFields P fs = true) (hty : fs.toList.map (·.type) = [ti, ti, ti, ti])
    (hi : P.underlying ti = some (.int .i64)) (hct : P.cellsOf t = 4)
    (hval : Value.okWide P w r b0 ts v) (h : DataW.Trod enc P w 0 (fun _ => true) true ts v d ps) : ∃ l : List (Int × Int × Int × Int), VRt w F (.tsl (l.flatMap q4) l.length) v ∧ l.length ≤ 9223372036854775807 ∧ ∀ e ∈ l, q4W e := by
  obtain ⟨a, n, cap, rfl⟩ := okWide_slice hs hval
  obtain ⟨fuel, hf⟩ := h
  rcases DataW.trod_slice hs hf with ⟨hcs, _⟩ | ⟨a', len, cap', elems, rest, m, _, hcs, _, _, hl, hm, hel, hev, _⟩
  · simp [Value.cells] at hcs
    obtain ⟨rfl, rfl, rfl⟩ := hcs
    exact ⟨[], VRt_none _ rfl, by simp, by simp⟩
  · simp [Value.cells] at hcs
    obtain ⟨rfl, rfl, rfl⟩ := hcs
    have hE : ∀ i, ∃ e, i < n → w.cells? 0 (a'.add (i * 4)) 4 = some (q4V e) ∧ q4W e := fun i => by
      by_cases hin : i < n
      · have h1 := hev i hin
        rw [hct, List.getElem?_eq_getElem (by omega), Option.bind_eq_some_iff] at h1
        obtain ⟨cs, h2, h3⟩ := h1
        obtain ⟨e, rfl, he⟩ := open_q4 ht hone hty hi hct h3
        exact ⟨e, fun _ => ⟨h2, he⟩⟩
      · exact ⟨(0, 0, 0, 0), fun h => (hin h).elim⟩
    obtain ⟨g, hg⟩ := Classical.axiomOfChoice hE
    have hget : ∀ i, i < n → ((List.range n).map g)[i]? = some (g i) := fun i hin => by simp [hin]
    refine ⟨(List.range n).map g, ?_, by simp; simp only [maxLen] at hm; omega, ?_⟩
    · rw [List.length_map, List.length_range]
      simp only [VRt]
      refine ⟨_, cap, rfl, hl, hm, .inr ⟨a', rfl, mrt_of hF _ _ ?_ fun j c hj => ?_⟩⟩
      · rw [List.all_eq_true]
        intro x hx
        obtain ⟨e, _, hx⟩ := List.mem_flatMap.1 hx
        simp only [q4, List.mem_cons, List.not_mem_nil, or_false] at hx
        rcases hx with rfl | rfl | rfl | rfl <;> rfl
      · have hjl : j < n * 4 := by
          have := (List.getElem?_eq_some_iff.1 hj).1
          rw [flat_len (f := q4) (n := 4) (fun _ => rfl)] at this
          simpa using this
        have hj4 : j / 4 < n := by omega
        have hk4 : j % 4 < 4 := by omega
        have hjj : j = j / 4 * 4 + j % 4 := by omega
        rw [hjj, flat_q4 _ _ _ _ (hget _ hj4) hk4] at hj
        have hc := (World.cells?_some (hg _ hj4).1)
        refine ⟨(q4V (g (j / 4))).getD (j % 4) undef, ?_, ?_⟩
        · have hrow := hc.2.2 (j % 4) hk4
          rw [add_add, ← hjj] at hrow
          rw [hrow]
          simp only [q4V, List.getD]
          rw [List.getElem?_eq_getElem (by simpa using hk4)]
          rfl
        · revert hj
          generalize j % 4 = k at hk4
          match k, hk4 with
          | 0, _ => intro hj; simp [q4] at hj; subst hj; simp [VRt, q4V]
          | 1, _ => intro hj; simp [q4] at hj; subst hj; simp [VRt, q4V]
          | 2, _ => intro hj; simp [q4] at hj; subst hj; simp [VRt, q4V]
          | 3, _ => intro hj; simp [q4] at hj; subst hj; simp [VRt, q4V]
    · intro e he
      obtain ⟨i, hi, rfl⟩ := List.mem_map.1 he
      exact (hg i (List.mem_range.1 hi)).2
end
end Go.Can
