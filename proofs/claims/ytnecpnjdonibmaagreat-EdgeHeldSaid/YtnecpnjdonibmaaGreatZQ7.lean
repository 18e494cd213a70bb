/- The row 'EdgeHeldSaid': for every input the law returns true, and every argument reads behind the call as it read before. -/
import Derived.Test.YtnecpnjdonibmaaGreatRows
import Derived.Test.YtnecpnjdonibmaaGreatZ13
import Derived.Test.YtnecpnjdonibmaaGreatZ49
namespace Go.Proofs.YtnecpnjdonibmaaGreat.edgeHeld
open Go.ChangeShapes Go.WideShapes Go.ChangeAt Go.RowKit Go.Can
theorem own:ownKnob Tryz.prog.godebug=none:=by kernel_rfl
theorem laidOut:laidOutB Tryz.prog=true:=by kernel_rfl
set_option maxRecDepth 100000 in
theorem lifted (os:Os)(started:os.Started)(H:Type)(enc:TypeId×Value→H) :
  ReturnsInHanded {} Tryz.checked os 7 .any (Rows.edgeHeldSpec.pre6 enc Tryz.prog Tryz.f7 Rows.edgeHeldRow.domain false) (Rows.edgeHeldSpec.post enc Tryz.prog Tryz.f7 false true false false):=by
 refine returnsInHanded_of_change (C:=Tryz.checked) own started OV Tryz.func7
  (ChangeSpec.witness6 (enc:=enc) (C:=Tryz.checked) false ⟨#[],#[.slice none 0 0,.int .i64 0,.int .i64 0],[]⟩ 8 OV OV OV OV) ?_
 intro W base args ds gs before Wf hW _ _;have Q6:∀ (j:Nat) t v,Tryz.f7.params[j]? = some t→args[j]? = some v→Value.okWide Tryz.prog W .any base t v:=Wf;have ZL:=hW;obtain⟨p,q,hA0,hV,rfl,_,_⟩:=hW;have hA:DataW.TrodAll enc Tryz.prog W 0 (fun _=>true) true Tryz.f7.params.toList args.toList ds p:=hA0;rw[Tryz.params7] at hA Q6;obtain⟨v0,vs0,d0,ds0,p0,q0,O4,rfl,rfl,h0,r0⟩:=trodAll_cons hA;obtain⟨v1,vs1,d1,ds1,p1,q1,rfl,rfl,rfl,h1,r1⟩:=trodAll_cons r0;obtain⟨v2,vs2,d2,ds2,p2,q2,rfl,rfl,rfl,h2,r2⟩:=trodAll_cons r1;obtain⟨rfl,rfl,rfl⟩:=trodAll_nil r2;obtain rfl:args=#[v0,v1,v2]:=by cases args;simp_all
 obtain⟨rfl,rfl⟩:=trodVars_none hV;clear hA0 Wf;simp only[List.append_nil] at ZL;have hlt0:∀ x∈p0,x.block<W.heap.size:=fun x hx=>by simpa using ZL.lt x (by simp[hx])
 have Xc:∀ x∈p1,x.block<W.heap.size:=fun x hx=>by simpa using ZL.lt x (by simp[hx])
 have R7:∀ x∈p2,x.block<W.heap.size:=fun x hx=>by simpa using ZL.lt x (by simp[hx])
 obtain⟨a0,g0,b0⟩:=wR (F:=fun _=>False) (fun _ h=>h) Tryz.underlying22 Tryz.underlying3 OV (Q6 0 22 v0 rfl rfl) h0;obtain⟨a1,ea1,_,_,_⟩:=open_int Tryz.underlying3 (Q6 1 3 v1 rfl rfl) h1;have g1:cq W (fun _=>False) (.int .i64 a1) v1:=by rw[ea1];simp[cq]
 obtain⟨a2,ea2,_,_,_⟩:=open_int Tryz.underlying3 (Q6 2 3 v2 rfl rfl) h2;have g2:cq W (fun _=>False) (.int .i64 a2) v2:=by rw[ea2];simp[cq]
 refine (af.calls (KP a0 a1 a2 b0) (vs:=[v0,v1,v2]) (by simp only[bW];exact⟨v0,_,rfl,g0,⟨v1,_,rfl,g1,⟨v2,_,rfl,g2,rfl⟩⟩⟩)).mono fun e W' ⟨he,hb⟩=>?_;subst he;exact⟨_,rfl,_,_,_,[],_,[],ZL,trodAll_mk1 (shut_bool Tryz.underlying4 _),⟨p0,_,Below.trod laidOut OV (of_decide_eq_true OV) h0 hb hlt0,⟨p1,_,Below.trod laidOut OV (of_decide_eq_true OV) h1 hb Xc,⟨p2,_,Below.trod laidOut OV (of_decide_eq_true OV) h2 hb R7,trodAll_mk0,rfl⟩,rfl⟩,rfl⟩,rfl,hb.frame _,fun h=>by cases h⟩
theorem k1:Tryz.prog.inPlace 7=Rows.edgeHeldRow.inPlace:=by kernel_rfl
theorem k2:Tryz.prog.unfollowed 7=Rows.edgeHeldRow.unfollowed:=by kernel_rfl
theorem k3:Tryz.prog.recurses 7=Rows.edgeHeldRow.recurses:=by kernel_rfl
theorem k4:Tryz.prog.varsNamed 7=Rows.edgeHeldRow.named:=by kernel_rfl
theorem k5:Tryz.prog.mayEnter=true:=by kernel_rfl
theorem k6:Tryz.prog.stopsHeard=true:=by kernel_rfl
theorem k7:mapsRowed Tryz.prog=true:=by kernel_rfl
theorem closed:joinedFacts Tryz.prog 7 Tryz.f7 Rows.edgeHeldSpec Rows.edgeHeldRow=true:=by
 unfold joinedFacts;rw[k1,k2,k3,k4,k5,k6,k7,laidOut]
 kernel_rfl
theorem proved:Rows.EdgeHeldSaid:=
 OpenClaim.holds_of_wide 7 Tryz.f7 rfl rfl rfl rfl rfl rfl rfl ⟨rfl,rfl,rfl,rfl,rfl⟩ rfl rfl rfl rfl rfl OV Tryz.func7 closed
  (of_decide_eq_true OV) (by unfold Func.isWrapper;first | (rw[if_pos (by decide +kernel)];kernel_rfl) | (rw[if_neg (by decide +kernel)];exact⟨rfl,rfl⟩))
  (fun os started H enc _=>lifted os started H enc)
end Go.Proofs.YtnecpnjdonibmaaGreat.edgeHeld
