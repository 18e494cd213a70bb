/- The row 'RankCheckSaid': for every input the law returns true, and every argument reads behind the call as it read before. -/
import Derived.Test.YtgiphneejidahaaW25
import Derived.Test.YtgiphneejidahaaFrame
namespace Go.Proofs.Ytgiphneejidahaa.rankCheck
open Go.ChangeShapes Go.WideShapes Go.ChangeAt Go.RowKit Go.Can

theorem own : ownKnob Try.prog.godebug = none := by kernel_rfl
theorem laidOut : laidOutB Try.prog = true := by kernel_rfl

set_option maxRecDepth 100000 in
theorem lifted (os : Os) (started : os.Started) (H : Type) (enc : TypeId × Value → H) :
    ReturnsInHanded {} Try.checked os 11 .any (Rows.rankCheckSpec.pre6 enc Try.prog Try.f11 Rows.rankCheckRow.domain false) (Rows.rankCheckSpec.post enc Try.prog Try.f11 false true false false) := by
  refine returnsInHanded_of_change (C := Try.checked) own started (by kernel_rfl) Try.func11
    (ChangeSpec.witness6 (enc := enc) (C := Try.checked) false ⟨#[], #[.int .i64 0, .slice none 0 0, .slice none 0 0, .bool false, .int .i64 0], []⟩ 8 (by kernel_rfl) (by kernel_rfl) (by kernel_rfl) (by kernel_rfl)) ?_
  intro W base args ds gs before hval0 hW _ _
  have hval : ∀ (j : Nat) t v, Try.f11.params[j]? = some t → args[j]? = some v → Value.okWide Try.prog W .any base t v := hval0
  have hW' := hW
  obtain ⟨p, q, hA0, hV, rfl, _, _⟩ := hW
  have hA : DataW.TrodAll enc Try.prog W 0 (fun _ => true) true Try.f11.params.toList args.toList ds p := hA0
  rw [Try.params11] at hA hval
  obtain ⟨v0, vs0, d0, ds0, p0, q0, hargs, rfl, rfl, h0, r0⟩ := trodAll_cons hA
  obtain ⟨v1, vs1, d1, ds1, p1, q1, rfl, rfl, rfl, h1, r1⟩ := trodAll_cons r0
  obtain ⟨v2, vs2, d2, ds2, p2, q2, rfl, rfl, rfl, h2, r2⟩ := trodAll_cons r1
  obtain ⟨v3, vs3, d3, ds3, p3, q3, rfl, rfl, rfl, h3, r3⟩ := trodAll_cons r2
  obtain ⟨v4, vs4, d4, ds4, p4, q4, rfl, rfl, rfl, h4, r4⟩ := trodAll_cons r3
  obtain ⟨rfl, rfl, rfl⟩ := trodAll_nil r4
  obtain rfl : args = #[v0, v1, v2, v3, v4] := by cases args; simp_all
  obtain ⟨rfl, rfl⟩ := trodVars_none hV
  clear hA0 hval0
  simp only [List.append_nil] at hW'
  have hlt0 : ∀ x ∈ p0, x.block < W.heap.size := fun x hx => by simpa using hW'.lt x (by simp [hx])
  have hlt1 : ∀ x ∈ p1, x.block < W.heap.size := fun x hx => by simpa using hW'.lt x (by simp [hx])
  have hlt2 : ∀ x ∈ p2, x.block < W.heap.size := fun x hx => by simpa using hW'.lt x (by simp [hx])
  have hlt3 : ∀ x ∈ p3, x.block < W.heap.size := fun x hx => by simpa using hW'.lt x (by simp [hx])
  have hlt4 : ∀ x ∈ p4, x.block < W.heap.size := fun x hx => by simpa using hW'.lt x (by simp [hx])
  obtain ⟨a0, ea0, _, _, _⟩ := open_int Try.underlying3 (hval 0 3 v0 rfl rfl) h0
  have g0 : VRt W (fun _ => False) (.int .i64 a0) v0 := by rw [ea0]; simp [VRt]
  obtain ⟨a1, g1, b1⟩ := open_ints_can (F := fun _ => False) (fun _ h => h) Try.underlying22 Try.underlying3 (by kernel_rfl) (hval 1 22 v1 rfl rfl) h1
  obtain ⟨a2, g2, b2⟩ := open_ints_can (F := fun _ => False) (fun _ h => h) Try.underlying22 Try.underlying3 (by kernel_rfl) (hval 2 22 v2 rfl rfl) h2
  obtain ⟨a3, ea3, _, _⟩ := open_bool Try.underlying4 (hval 3 4 v3 rfl rfl) h3
  have g3 : VRt W (fun _ => False) (.bool a3) v3 := by rw [ea3]; simp [VRt]
  obtain ⟨a4, ea4, _, _, _⟩ := open_int Try.underlying3 (hval 4 3 v4 rfl rfl) h4
  have g4 : VRt W (fun _ => False) (.int .i64 a4) v4 := by rw [ea4]; simp [VRt]
  refine (PureCall.calls (c11_ok a0 a1 a2 a3 a4 b1 b2) (vs := [v0, v1, v2, v3, v4]) (by simp only [VRts]; exact ⟨v0, _, rfl, g0, ⟨v1, _, rfl, g1, ⟨v2, _, rfl, g2, ⟨v3, _, rfl, g3, ⟨v4, _, rfl, g4, rfl⟩⟩⟩⟩⟩)).mono fun e W' ⟨he, hb⟩ => ?_
  subst he
  exact ⟨_, rfl, _, _, _, [], _, [], hW', trodAll_mk1 (shut_bool Try.underlying4 _), ⟨p0, _, Below.trod laidOut (by kernel_rfl) (of_decide_eq_true (by kernel_rfl)) h0 hb hlt0, ⟨p1, _, Below.trod laidOut (by kernel_rfl) (of_decide_eq_true (by kernel_rfl)) h1 hb hlt1, ⟨p2, _, Below.trod laidOut (by kernel_rfl) (of_decide_eq_true (by kernel_rfl)) h2 hb hlt2, ⟨p3, _, Below.trod laidOut (by kernel_rfl) (of_decide_eq_true (by kernel_rfl)) h3 hb hlt3, ⟨p4, _, Below.trod laidOut (by kernel_rfl) (of_decide_eq_true (by kernel_rfl)) h4 hb hlt4, trodAll_mk0, rfl⟩, rfl⟩, rfl⟩, rfl⟩, rfl⟩, rfl, hb.frame _, fun h => by cases h⟩

theorem proved : Rows.RankCheckSaid :=
  OpenClaim.holds_of_wide 11 Try.f11 rfl rfl rfl rfl rfl rfl rfl ⟨rfl, rfl, rfl, rfl, rfl⟩ rfl rfl rfl rfl rfl (by kernel_rfl) Try.func11 (by kernel_rfl)
    (of_decide_eq_true (by kernel_rfl)) (by unfold Func.isWrapper; first | (rw [if_pos (by decide +kernel)]; kernel_rfl) | (rw [if_neg (by decide +kernel)]; exact ⟨rfl, rfl⟩))
    (fun os started H enc _ => lifted os started H enc)
end Go.Proofs.Ytgiphneejidahaa.rankCheck
