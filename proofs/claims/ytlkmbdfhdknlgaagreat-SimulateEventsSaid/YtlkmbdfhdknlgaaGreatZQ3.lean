/- The row 'SimulateEventsSaid': for every input the law returns true, and every argument reads behind the call as it read before. -/
import Derived.Test.YtlkmbdfhdknlgaaGreatZ52
import Derived.Test.YtlkmbdfhdknlgaaGreatRows
namespace Go.Proofs.YtlkmbdfhdknlgaaGreat.simulateEvents
open Go.ChangeShapes Go.WideShapes Go.ChangeAt Go.RowKit Go.Can Go.Proofs.Tryz
theorem own:ownKnob Tryz.prog.godebug=none:=by kernel_rfl
theorem laidOut:laidOutB prog=true:=by kernel_rfl
set_option maxRecDepth 100000 in
theorem lifted (os:Os)(started:os.Started)(H:Type)(enc:TypeId×Value->H) :
  ReturnsInHanded {} Tryz.checked os 3 .any (Rows.simulateEventsSpec.pre6 enc prog Tryz.f3 Rows.simulateEventsRow.domain false) (Rows.simulateEventsSpec.post enc prog Tryz.f3 false true false false):=by
 refine returnsInHanded_of_change (C:=Tryz.checked) own started Ix Tryz.func3
  (ChangeSpec.witness6 (enc:=enc) (C:=Tryz.checked) false ⟨#[],#[.slice none 0 0,.slice none 0 0],[]⟩ 8 Ix Ix Ix Ix) ?_
 intro W base args ds gs before Zc hW _ _;have Uh:∀ (j:Nat) t v,Tryz.f3.params[j]? = some t->args[j]? = some v->Value.okWide prog W .any base t v:=Zc;have hW':=hW;obtain⟨p,q,hA0,hV,rfl,_,_⟩:=hW;have hA:DataW.TrodAll enc prog W 0 (λ _=>true) true Tryz.f3.params.toList args.toList ds p:=hA0;rw[Tryz.params3] at hA Uh;obtain⟨v0,vs0,d0,ds0,p0,q0,RV,rfl,rfl,h0,r0⟩:=trodAll_cons hA;obtain⟨v1,vs1,d1,ds1,p1,q1,rfl,rfl,rfl,h1,r1⟩:=trodAll_cons r0;obtain⟨rfl,rfl,rfl⟩:=trodAll_nil r1;obtain rfl:args=#[v0,v1]:=by cases args;simp_all
 obtain⟨rfl,rfl⟩:=trodVars_none hV;clear hA0 Zc;simp only[List.append_nil] at hW';have hlt0:∀ x∈p0,x.block<W.heap.size:=λ x hx=>by simpa using hW'.lt x ZI
 have hlt1:∀ x∈p1,x.block<W.heap.size:=λ x hx=>by simpa using hW'.lt x ZI
 obtain⟨a0,g0,b0⟩:=qj (F:=λ _=>False) (λ _ h=>h) Tryz.underlying22 Tryz.underlying3 Ix (Uh 0 22 v0 rfl rfl) h0;obtain⟨a1,g1,b1⟩:=qj (F:=λ _=>False) (λ _ h=>h) Tryz.underlying22 Tryz.underlying3 Ix (Uh 1 22 v1 rfl rfl) h1;refine (ae.calls (QA a0 a1 b0 b1) (vs:=[v0,v1]) (by simp only[bZ];exact⟨v0,_,rfl,g0,⟨v1,_,rfl,g1,rfl⟩⟩)).mono λ e W' ⟨he,hb⟩=>?_;subst he;exact⟨_,rfl,_,_,_,[],_,[],hW',trodAll_mk1 (shut_bool Tryz.underlying4 _),⟨p0,_,Below.trod laidOut Ix (of_decide_eq_true Ix) h0 hb hlt0,⟨p1,_,Below.trod laidOut Ix (of_decide_eq_true Ix) h1 hb hlt1,trodAll_mk0,rfl⟩,rfl⟩,rfl,hb.frame _,λ h=>by cases h⟩
theorem k1:Tryz.prog.inPlace 3=Rows.simulateEventsRow.inPlace:=by kernel_rfl
theorem k2:Tryz.prog.unfollowed 3=Rows.simulateEventsRow.unfollowed:=by kernel_rfl
theorem k3:Tryz.prog.recurses 3=Rows.simulateEventsRow.recurses:=by kernel_rfl
theorem k4:Tryz.prog.varsNamed 3=Rows.simulateEventsRow.named:=by kernel_rfl
theorem k5:Tryz.prog.mayEnter=true:=by kernel_rfl
theorem k6:Tryz.prog.stopsHeard=true:=by kernel_rfl
theorem k7:mapsRowed prog=true:=by kernel_rfl
theorem closed:joinedFacts prog 3 Tryz.f3 Rows.simulateEventsSpec Rows.simulateEventsRow=true:=by
 unfold joinedFacts;rw[k1,k2,k3,k4,k5,k6,k7,laidOut]
 kernel_rfl
theorem proved:Rows.SimulateEventsSaid:=
 OpenClaim.holds_of_wide 3 Tryz.f3 rfl rfl rfl rfl rfl rfl rfl ⟨rfl,rfl,rfl,rfl,rfl⟩ rfl rfl rfl rfl rfl Ix Tryz.func3 closed
  (of_decide_eq_true Ix) yDa
  (λ os started H enc _=>lifted os started H enc)
end Go.Proofs.YtlkmbdfhdknlgaaGreat.simulateEvents
