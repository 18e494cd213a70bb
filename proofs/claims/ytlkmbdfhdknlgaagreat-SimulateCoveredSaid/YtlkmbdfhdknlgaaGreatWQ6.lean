/- The row SimulateCoveredSaid: for every input the law returns true, and every argument is as before. -/
import Derived.Test.YtlkmbdfhdknlgaaGreatW34
import Derived.Test.YtlkmbdfhdknlgaaGreatRows
namespace Go.Proofs.YtlkmbdfhdknlgaaGreat.simulateCovered
open Go.ChangeShapes Go.WideShapes Go.ChangeAt Go.RowKit Go.Can Go.Proofs.Tryz
theorem own:ownKnob Tryz.prog.godebug=none:=by kernel_rfl
theorem laidOut:laidOutB prog=true:=by kernel_rfl
set_option maxRecDepth 100000 in
theorem lifted (os:Os)(started:os.Started)(H:Type)(enc:TypeId×Value->H) :
  ReturnsInHanded {} Tryz.checked os 6 .any (Rows.simulateCoveredSpec.pre6 enc prog Tryz.f6 Rows.simulateCoveredRow.domain false) (Rows.simulateCoveredSpec.post enc prog Tryz.f6 false true false false):=by
 refine returnsInHanded_of_change (C:=Tryz.checked) own started Bw Tryz.func6
  (ChangeSpec.witness6 (enc:=enc) (C:=Tryz.checked) false ⟨#[],#[.slice none 0 0,.slice none 0 0,.int .i64 0,.int .i64 0],[]⟩ 8 Bw Bw Bw Bw) ?_
 intro W base args ds gs before ZQ hW _ _;have Us:∀ (j:Nat) t v,Tryz.f6.params[j]? = some t->args[j]? = some v->Value.okWide prog W .any base t v:=ZQ;have hW':=hW;obtain⟨p,q,hA0,hV,rfl,_,_⟩:=hW;have hA:DataW.TrodAll enc prog W 0 (λ _=>true) true Tryz.f6.params.toList args.toList ds p:=hA0;rw[Tryz.params6] at hA Us;obtain⟨v0,vs0,d0,ds0,p0,q0,Sx,rfl,rfl,h0,r0⟩:=trodAll_cons hA;obtain⟨v1,vs1,d1,ds1,p1,q1,rfl,rfl,rfl,h1,r1⟩:=trodAll_cons r0;obtain⟨v2,vs2,d2,ds2,p2,q2,rfl,rfl,rfl,h2,r2⟩:=trodAll_cons r1;obtain⟨v3,vs3,d3,ds3,p3,q3,rfl,rfl,rfl,h3,r3⟩:=trodAll_cons r2;obtain⟨rfl,rfl,rfl⟩:=trodAll_nil r3;obtain rfl:args=#[v0,v1,v2,v3]:=by cases args;simp_all
 obtain⟨rfl,rfl⟩:=trodVars_none hV;clear hA0 ZQ;simp only[List.append_nil] at hW';have hlt0:∀ x∈p0,x.block<W.heap.size:=λ x hx=>by simpa using hW'.lt x Za
 have hlt1:∀ x∈p1,x.block<W.heap.size:=λ x hx=>by simpa using hW'.lt x Za
 have Um:∀ x∈p2,x.block<W.heap.size:=λ x hx=>by simpa using hW'.lt x Za
 have Yy:∀ x∈p3,x.block<W.heap.size:=λ x hx=>by simpa using hW'.lt x Za
 obtain⟨a0,g0,b0⟩:=qG (F:=λ _=>False) (λ _ h=>h) Tryz.underlying22 Tryz.underlying3 Bw (Us 0 22 v0 rfl rfl) h0;obtain⟨a1,g1,b1⟩:=qG (F:=λ _=>False) (λ _ h=>h) Tryz.underlying22 Tryz.underlying3 Bw (Us 1 22 v1 rfl rfl) h1;obtain⟨a2,ea2,_,_,_⟩:=open_int Tryz.underlying3 (Us 2 3 v2 rfl rfl) h2;have g2:cj W (λ _=>False) (.int .i64 a2) v2:=by rw[ea2];simp[cj]
 obtain⟨a3,ea3,_,_,_⟩:=open_int Tryz.underlying3 (Us 3 3 v3 rfl rfl) h3;have g3:cj W (λ _=>False) (.int .i64 a3) v3:=by rw[ea3];simp[cj]
 refine (ae.calls (c6_ok a0 a1 b0 b1 a2 a3) (vs:=[v0,v1,v2,v3]) yDu).mono λ e W' ⟨he,hb⟩=>?_;subst he;exact⟨_,rfl,_,_,_,[],_,[],hW',trodAll_mk1 (shut_bool Tryz.underlying4 _),⟨p0,_,Below.trod laidOut Bw (of_decide_eq_true Bw) h0 hb hlt0,⟨p1,_,Below.trod laidOut Bw (of_decide_eq_true Bw) h1 hb hlt1,⟨p2,_,Below.trod laidOut Bw (of_decide_eq_true Bw) h2 hb Um,⟨p3,_,Below.trod laidOut Bw (of_decide_eq_true Bw) h3 hb Yy,trodAll_mk0,rfl⟩,rfl⟩,rfl⟩,rfl⟩,rfl,hb.frame _,λ h=>by cases h⟩
theorem k1:Tryz.prog.inPlace 6=Rows.simulateCoveredRow.inPlace:=by kernel_rfl
theorem k2:Tryz.prog.unfollowed 6=Rows.simulateCoveredRow.unfollowed:=by kernel_rfl
theorem k3:Tryz.prog.recurses 6=Rows.simulateCoveredRow.recurses:=by kernel_rfl
theorem k4:Tryz.prog.varsNamed 6=Rows.simulateCoveredRow.named:=by kernel_rfl
theorem k5:Tryz.prog.mayEnter=true:=by kernel_rfl
theorem k6:Tryz.prog.stopsHeard=true:=by kernel_rfl
theorem k7:mapsRowed prog=true:=by kernel_rfl
theorem closed:joinedFacts prog 6 Tryz.f6 Rows.simulateCoveredSpec Rows.simulateCoveredRow=true:=by
 unfold joinedFacts;rw[k1,k2,k3,k4,k5,k6,k7,laidOut]
 kernel_rfl
theorem proved:Rows.SimulateCoveredSaid:=
 OpenClaim.holds_of_wide 6 Tryz.f6 rfl rfl rfl rfl rfl rfl rfl ⟨rfl,rfl,rfl,rfl,rfl⟩ rfl rfl rfl rfl rfl Bw Tryz.func6 closed
  (of_decide_eq_true Bw) yDa
  (λ os started H enc _=>lifted os started H enc)
end Go.Proofs.YtlkmbdfhdknlgaaGreat.simulateCovered
