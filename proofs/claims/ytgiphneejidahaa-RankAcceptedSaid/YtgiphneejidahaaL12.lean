/- The row 'RankAcceptedSaid': for every input the law returns true, and every argument reads behind the call as it read before. -/
import Derived.Test.YtgiphneejidahaaW26
import Derived.Test.YtgiphneejidahaaFrame
import Derived.SizedLaws
namespace Go.Proofs.Ytgiphneejidahaa.rankAccepted
open Go.ChangeShapes Go.WideShapes Go.ChangeAt Go.RowKit Go.Can

section
variable {P : Program} {H : Type} {enc : TypeId × Value → H} {w : World}
/-- A slice of integers, with the bound on its bytes. -/
theorem open_ints_sized {F : Nat → Prop} (hF : ∀ b, ¬ F b) {t e : TypeId} {r : Reach} {b0 : Nat} {v : Value} {d : DataW H} {ps : List MemPlace} {ts : List TypeId} {ds : List (DataW H)} (ht : P.underlying t = some (.slice e)) (he : P.underlying e = some (.int .i64)) (hc : P.cellsOf e = 1) (hby : P.bytesOf e = 8)
    (hval : Value.okWide P w r b0 t v) (h : DataW.Trod enc P w 0 (fun _ => true) true t v d ps) (j : Nat) (hts : ts[j]? = some t) (hds : ds[j]? = some d) (hsz : (DataW.weightsEach P ts ds).all (· ≤ reachBytes) = true) :
    ∃ l : List Int, VRt w F (ints l) v ∧ (l.length + 11) * 8 ≤ 140737488355328 := by
  obtain ⟨a, n, cap, rfl⟩ := okWide_slice ht hval
  obtain ⟨fuel, hf⟩ := h
  rcases open_ints ht he hc hf with ⟨hcs, _⟩ | ⟨a', len, cap', zs, hcs, _, hl, hm, hz, hx, hcell, _⟩
  · simp [Value.cells] at hcs
    obtain ⟨rfl, rfl, rfl⟩ := hcs
    exact ⟨[], VRt_none _ rfl, by simp⟩
  · simp [Value.cells] at hcs
    obtain ⟨rfl, rfl, rfl⟩ := hcs
    simp only [if_true] at hz
    have hlen : (zs.take n).length = n := by simp; omega
    obtain ⟨rfl, rfl⟩ := Prod.mk.inj hx
    have hw := sized_slice hsz hts hds ht
    rw [hby] at hw
    refine ⟨zs.take n, ?_, ?_⟩
    · unfold ints
      rw [hlen]
      simp only [VRt]
      refine ⟨_, cap, rfl, hl, hm, .inr ⟨a', rfl, mrt_of hF _ _ (one_map _ (fun _ => rfl) _) fun i c hi => ?_⟩⟩
      rw [List.getElem?_map] at hi
      obtain ⟨z, hz1, rfl⟩ := Option.map_eq_some_iff.1 hi
      rw [List.getElem?_take] at hz1
      split at hz1
      · rename_i hin
        have hlt : i < zs.length := by omega
        refine ⟨_, hcell i hlt, ?_⟩
        have : zs.getD i 0 = z := by simp [List.getD, hz1]
        rw [this]
        simp [VRt]
      · cases hz1
    · rw [hlen]
      have h1 : (lits (H := H) .i64 (zs.take n)).length = n := by simp only [lits, List.length_map]; exact hlen
      rw [h1] at hw
      have h2 : n * 8 ≤ reachBytes := Nat.le_trans (Nat.mul_le_mul_right _ (Nat.le_add_right _ _)) hw
      simp only [reachBytes] at h2
      omega
end

theorem own : ownKnob Try.prog.godebug = none := by kernel_rfl
theorem laidOut : laidOutB Try.prog = true := by kernel_rfl

set_option maxRecDepth 100000 in
theorem lifted (os : Os) (started : os.Started) (H : Type) (enc : TypeId × Value → H) :
    ReturnsInHanded {} Try.checked os 12 .any (Rows.rankAcceptedSpec.pre6 enc Try.prog Try.f12 Rows.rankAcceptedRow.domain false) (Rows.rankAcceptedSpec.post enc Try.prog Try.f12 false true false false) := by
  refine returnsInHanded_of_change_sized (C := Try.checked) own started (by kernel_rfl) Try.func12
    (ChangeSpec.witness6 (enc := enc) (C := Try.checked) false ⟨#[], #[.int .i64 0, .slice none 0 0, .slice none 0 0, .bool false], []⟩ 8 (by kernel_rfl) (by kernel_rfl) (by kernel_rfl) (by kernel_rfl)) ?_
  intro W base args ds gs before hval0 hW _ hsz0 _
  have hval : ∀ (j : Nat) t v, Try.f12.params[j]? = some t → args[j]? = some v → Value.okWide Try.prog W .any base t v := hval0
  have hW' := hW
  obtain ⟨p, q, hA0, hV, rfl, _, _⟩ := hW
  have hA : DataW.TrodAll enc Try.prog W 0 (fun _ => true) true Try.f12.params.toList args.toList ds p := hA0
  rw [Try.params12] at hA hval
  obtain ⟨v0, vs0, d0, ds0, p0, q0, hargs, rfl, rfl, h0, r0⟩ := trodAll_cons hA
  obtain ⟨v1, vs1, d1, ds1, p1, q1, rfl, rfl, rfl, h1, r1⟩ := trodAll_cons r0
  obtain ⟨v2, vs2, d2, ds2, p2, q2, rfl, rfl, rfl, h2, r2⟩ := trodAll_cons r1
  obtain ⟨v3, vs3, d3, ds3, p3, q3, rfl, rfl, rfl, h3, r3⟩ := trodAll_cons r2
  obtain ⟨rfl, rfl, rfl⟩ := trodAll_nil r3
  obtain rfl : args = #[v0, v1, v2, v3] := by cases args; simp_all
  obtain ⟨rfl, rfl⟩ := trodVars_none hV
  clear hA0 hval0
  simp only [List.append_nil] at hW'
  have hlt0 : ∀ x ∈ p0, x.block < W.heap.size := fun x hx => by simpa using hW'.lt x (by simp [hx])
  have hlt1 : ∀ x ∈ p1, x.block < W.heap.size := fun x hx => by simpa using hW'.lt x (by simp [hx])
  have hlt2 : ∀ x ∈ p2, x.block < W.heap.size := fun x hx => by simpa using hW'.lt x (by simp [hx])
  have hlt3 : ∀ x ∈ p3, x.block < W.heap.size := fun x hx => by simpa using hW'.lt x (by simp [hx])
  obtain ⟨a0, ea0, _, _, _⟩ := open_int Try.underlying3 (hval 0 3 v0 rfl rfl) h0
  have g0 : VRt W (fun _ => False) (.int .i64 a0) v0 := by rw [ea0]; simp [VRt]
  obtain ⟨a1, g1, b1⟩ := open_ints_can (F := fun _ => False) (fun _ h => h) Try.underlying22 Try.underlying3 (by kernel_rfl) (hval 1 22 v1 rfl rfl) h1
  obtain ⟨a2, g2, b2⟩ := open_ints_sized (F := fun _ => False) (fun _ h => h) Try.underlying22 Try.underlying3 (by kernel_rfl) (by kernel_rfl) (hval 2 22 v2 rfl rfl) h2 2 rfl rfl hsz0
  obtain ⟨a3, ea3, _, _⟩ := open_bool Try.underlying4 (hval 3 4 v3 rfl rfl) h3
  have g3 : VRt W (fun _ => False) (.bool a3) v3 := by rw [ea3]; simp [VRt]
  refine (PureCall.calls (c12_ok a0 a1 a2 a3 b1 b2) (vs := [v0, v1, v2, v3]) (by simp only [VRts]; exact ⟨v0, _, rfl, g0, ⟨v1, _, rfl, g1, ⟨v2, _, rfl, g2, ⟨v3, _, rfl, g3, rfl⟩⟩⟩⟩)).mono fun e W' ⟨he, hb⟩ => ?_
  subst he
  exact ⟨_, rfl, _, _, _, [], _, [], hW', trodAll_mk1 (shut_bool Try.underlying4 _), ⟨p0, _, Below.trod laidOut (by kernel_rfl) (of_decide_eq_true (by kernel_rfl)) h0 hb hlt0, ⟨p1, _, Below.trod laidOut (by kernel_rfl) (of_decide_eq_true (by kernel_rfl)) h1 hb hlt1, ⟨p2, _, Below.trod laidOut (by kernel_rfl) (of_decide_eq_true (by kernel_rfl)) h2 hb hlt2, ⟨p3, _, Below.trod laidOut (by kernel_rfl) (of_decide_eq_true (by kernel_rfl)) h3 hb hlt3, trodAll_mk0, rfl⟩, rfl⟩, rfl⟩, rfl⟩, rfl, hb.frame _, fun h => by cases h⟩

theorem proved : Rows.RankAcceptedSaid :=
  OpenClaim.holds_of_wide 12 Try.f12 rfl rfl rfl rfl rfl rfl rfl ⟨rfl, rfl, rfl, rfl, rfl⟩ rfl rfl rfl rfl rfl (by kernel_rfl) Try.func12 (by kernel_rfl)
    (of_decide_eq_true (by kernel_rfl)) (by unfold Func.isWrapper; first | (rw [if_pos (by decide +kernel)]; kernel_rfl) | (rw [if_neg (by decide +kernel)]; exact ⟨rfl, rfl⟩))
    (fun os started H enc _ => lifted os started H enc)
end Go.Proofs.Ytgiphneejidahaa.rankAccepted
