/- The row 'EdgeSoundSaid': for every input the law returns true, and every argument reads behind the call as it read before. -/
import Derived.Test.YtnecpnjdonibmaaGreatRows
import Derived.Test.YtnecpnjdonibmaaGreatZ10
import Derived.Test.YtnecpnjdonibmaaGreatZ51
namespace Go.Proofs.YtnecpnjdonibmaaGreat.edgeSound
open Go.ChangeShapes Go.WideShapes Go.ChangeAt Go.RowKit Go.Can
theorem own:ownKnob Tryz.prog.godebug=none:=by kernel_rfl
theorem laidOut:laidOutB Tryz.prog=true:=by kernel_rfl
set_option maxRecDepth 100000 in
theorem lifted (os:Os)(started:os.Started)(H:Type)(enc:TypeId×Value→H) :
  ReturnsInHanded {} Tryz.checked os 8 .any (Rows.edgeSoundSpec.pre6 enc Tryz.prog Tryz.f8 Rows.edgeSoundRow.domain false) (Rows.edgeSoundSpec.post enc Tryz.prog Tryz.f8 false true false false):=by
 refine returnsInHanded_of_change (C:=Tryz.checked) own started PH Tryz.func8
  (ChangeSpec.witness6 (enc:=enc) (C:=Tryz.checked) false ⟨#[],#[.slice none 0 0,.int .i64 0],[]⟩ 8 PH PH PH PH) ?_
 intro W base args ds gs before Tl hW _ _;have Rw:∀ (j:Nat) t v,Tryz.f8.params[j]? = some t→args[j]? = some v→Value.okWide Tryz.prog W .any base t v:=Tl;have Xk:=hW;obtain⟨p,q,hA0,hV,rfl,_,_⟩:=hW;have hA:DataW.TrodAll enc Tryz.prog W 0 (fun _=>true) true Tryz.f8.params.toList args.toList ds p:=hA0;rw[Tryz.params8] at hA Rw;obtain⟨v0,vs0,d0,ds0,p0,q0,PT,rfl,rfl,h0,r0⟩:=trodAll_cons hA;obtain⟨v1,vs1,d1,ds1,p1,q1,rfl,rfl,rfl,h1,r1⟩:=trodAll_cons r0;obtain⟨rfl,rfl,rfl⟩:=trodAll_nil r1;obtain rfl:args=#[v0,v1]:=by cases args;simp_all
 obtain⟨rfl,rfl⟩:=trodVars_none hV;clear hA0 Tl;simp only[List.append_nil] at Xk;have X0:∀ x∈p0,x.block<W.heap.size:=fun x hx=>by simpa using Xk.lt x (by simp[hx])
 have XY:∀ x∈p1,x.block<W.heap.size:=fun x hx=>by simpa using Xk.lt x (by simp[hx])
 obtain⟨a0,g0,b0⟩:=vb (F:=fun _=>False) (fun _ h=>h) Tryz.underlying22 Tryz.underlying3 PH (Rw 0 22 v0 rfl rfl) h0;obtain⟨a1,ea1,_,_,_⟩:=open_int Tryz.underlying3 (Rw 1 3 v1 rfl rfl) h1;have g1:ch W (fun _=>False) (.int .i64 a1) v1:=by rw[ea1];simp[ch]
 refine (ae.calls (Gk a0 a1 b0) (vs:=[v0,v1]) (by simp only[bP];exact⟨v0,_,rfl,g0,⟨v1,_,rfl,g1,rfl⟩⟩)).mono fun e W' ⟨he,hb⟩=>?_;subst he;exact⟨_,rfl,_,_,_,[],_,[],Xk,trodAll_mk1 (shut_bool Tryz.underlying4 _),⟨p0,_,Below.trod laidOut PH (of_decide_eq_true PH) h0 hb X0,⟨p1,_,Below.trod laidOut PH (of_decide_eq_true PH) h1 hb XY,trodAll_mk0,rfl⟩,rfl⟩,rfl,hb.frame _,fun h=>by cases h⟩
theorem k1:Tryz.prog.inPlace 8=Rows.edgeSoundRow.inPlace:=by kernel_rfl
theorem k2:Tryz.prog.unfollowed 8=Rows.edgeSoundRow.unfollowed:=by kernel_rfl
theorem k3:Tryz.prog.recurses 8=Rows.edgeSoundRow.recurses:=by kernel_rfl
theorem k4:Tryz.prog.varsNamed 8=Rows.edgeSoundRow.named:=by kernel_rfl
theorem k5:Tryz.prog.mayEnter=true:=by kernel_rfl
theorem k6:Tryz.prog.stopsHeard=true:=by kernel_rfl
theorem k7:mapsRowed Tryz.prog=true:=by kernel_rfl
theorem closed:joinedFacts Tryz.prog 8 Tryz.f8 Rows.edgeSoundSpec Rows.edgeSoundRow=true:=by
 unfold joinedFacts;rw[k1,k2,k3,k4,k5,k6,k7,laidOut]
 kernel_rfl
theorem proved:Rows.EdgeSoundSaid:=
 OpenClaim.holds_of_wide 8 Tryz.f8 rfl rfl rfl rfl rfl rfl rfl ⟨rfl,rfl,rfl,rfl,rfl⟩ rfl rfl rfl rfl rfl PH Tryz.func8 closed
  (of_decide_eq_true PH) (by unfold Func.isWrapper;first | (rw[if_pos (by decide +kernel)];kernel_rfl) | (rw[if_neg (by decide +kernel)];exact⟨rfl,rfl⟩))
  (fun os started H enc _=>lifted os started H enc)
end Go.Proofs.YtnecpnjdonibmaaGreat.edgeSound
