/- The row 'SimulateOthersSaid': for every input the law returns true, and every argument reads behind the call as it read before. -/
import Derived.Test.YtlkmbdfhdknlgaaGreatV53
import Derived.Test.YtlkmbdfhdknlgaaGreatRows
namespace Go.Proofs.YtlkmbdfhdknlgaaGreat.simulateOthers
open Go.ChangeShapes Go.WideShapes Go.ChangeAt Go.RowKit Go.Can Go.Proofs.Tryz
theorem own:ownKnob Tryz.prog.godebug=none:=by kernel_rfl
theorem laidOut:laidOutB prog=true:=by kernel_rfl
set_option maxRecDepth 100000 in
theorem lifted (os:Os)(started:os.Started)(H:Type)(enc:TypeId×Value->H) :
  ReturnsInHanded {} Tryz.checked os 4 .any (Rows.simulateOthersSpec.pre6 enc prog Tryz.f4 Rows.simulateOthersRow.domain false) (Rows.simulateOthersSpec.post enc prog Tryz.f4 false true false false):=by
 refine returnsInHanded_of_change (C:=Tryz.checked) own started GK Tryz.func4
  (ChangeSpec.witness6 (enc:=enc) (C:=Tryz.checked) false ⟨#[],#[.slice none 0 0,.slice none 0 0,.int .i64 0,.int .i64 0],[]⟩ 8 GK GK GK GK) ?_
 intro W base args ds gs before Wj hW _ _;have QQ:∀ (j:Nat) t v,Tryz.f4.params[j]? = some t->args[j]? = some v->Value.okWide prog W .any base t v:=Wj;have Yd:=hW;obtain⟨p,q,hA0,hV,rfl,_,_⟩:=hW;have hA:DataW.TrodAll enc prog W 0 (λ _=>true) true Tryz.f4.params.toList args.toList ds p:=hA0;rw[Tryz.params4] at hA QQ;obtain⟨v0,vs0,d0,ds0,p0,q0,OX,rfl,rfl,h0,r0⟩:=trodAll_cons hA;obtain⟨v1,vs1,d1,ds1,p1,q1,rfl,rfl,rfl,h1,r1⟩:=trodAll_cons r0;obtain⟨v2,vs2,d2,ds2,p2,q2,rfl,rfl,rfl,h2,r2⟩:=trodAll_cons r1;obtain⟨v3,vs3,d3,ds3,p3,q3,rfl,rfl,rfl,h3,r3⟩:=trodAll_cons r2;obtain⟨rfl,rfl,rfl⟩:=trodAll_nil r3;obtain rfl:args=#[v0,v1,v2,v3]:=by cases args;simp_all
 obtain⟨rfl,rfl⟩:=trodVars_none hV;clear hA0 Wj;simp only[List.append_nil] at Yd;have hlt0:∀ x∈p0,x.block<W.heap.size:=λ x hx=>by simpa using Yd.lt x Vz
 have Xc:∀ x∈p1,x.block<W.heap.size:=λ x hx=>by simpa using Yd.lt x Vz
 have QK:∀ x∈p2,x.block<W.heap.size:=λ x hx=>by simpa using Yd.lt x Vz
 have UO:∀ x∈p3,x.block<W.heap.size:=λ x hx=>by simpa using Yd.lt x Vz
 obtain⟨a0,g0,b0⟩:=pD (F:=λ _=>False) (λ _ h=>h) Tryz.underlying22 Tryz.underlying3 GK (QQ 0 22 v0 rfl rfl) h0;obtain⟨a1,g1,b1⟩:=pD (F:=λ _=>False) (λ _ h=>h) Tryz.underlying22 Tryz.underlying3 GK (QQ 1 22 v1 rfl rfl) h1;obtain⟨a2,ea2,_,_,_⟩:=open_int Tryz.underlying3 (QQ 2 3 v2 rfl rfl) h2;have g2:cr W (λ _=>False) (.int .i64 a2) v2:=by rw[ea2];simp[cr]
 obtain⟨a3,ea3,_,_,_⟩:=open_int Tryz.underlying3 (QQ 3 3 v3 rfl rfl) h3;have g3:cr W (λ _=>False) (.int .i64 a3) v3:=by rw[ea3];simp[cr]
 refine (af.calls (Ns a0 a1 b0 b1 a2 a3) (vs:=[v0,v1,v2,v3]) yDu).mono λ e W' ⟨he,hb⟩=>?_;subst he;exact⟨_,rfl,_,_,_,[],_,[],Yd,trodAll_mk1 (shut_bool Tryz.underlying4 _),⟨p0,_,Below.trod laidOut GK (of_decide_eq_true GK) h0 hb hlt0,⟨p1,_,Below.trod laidOut GK (of_decide_eq_true GK) h1 hb Xc,⟨p2,_,Below.trod laidOut GK (of_decide_eq_true GK) h2 hb QK,⟨p3,_,Below.trod laidOut GK (of_decide_eq_true GK) h3 hb UO,trodAll_mk0,rfl⟩,rfl⟩,rfl⟩,rfl⟩,rfl,hb.frame _,λ h=>by cases h⟩
theorem k1:Tryz.prog.inPlace 4=Rows.simulateOthersRow.inPlace:=by kernel_rfl
theorem k2:Tryz.prog.unfollowed 4=Rows.simulateOthersRow.unfollowed:=by kernel_rfl
theorem k3:Tryz.prog.recurses 4=Rows.simulateOthersRow.recurses:=by kernel_rfl
theorem k4:Tryz.prog.varsNamed 4=Rows.simulateOthersRow.named:=by kernel_rfl
theorem k5:Tryz.prog.mayEnter=true:=by kernel_rfl
theorem k6:Tryz.prog.stopsHeard=true:=by kernel_rfl
theorem k7:mapsRowed prog=true:=by kernel_rfl
theorem closed:joinedFacts prog 4 Tryz.f4 Rows.simulateOthersSpec Rows.simulateOthersRow=true:=by
 unfold joinedFacts;rw[k1,k2,k3,k4,k5,k6,k7,laidOut]
 kernel_rfl
theorem proved:Rows.SimulateOthersSaid:=
 OpenClaim.holds_of_wide 4 Tryz.f4 rfl rfl rfl rfl rfl rfl rfl ⟨rfl,rfl,rfl,rfl,rfl⟩ rfl rfl rfl rfl rfl GK Tryz.func4 closed
  (of_decide_eq_true GK) yDa
  (λ os started H enc _=>lifted os started H enc)
end Go.Proofs.YtlkmbdfhdknlgaaGreat.simulateOthers
