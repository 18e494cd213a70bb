/- The row 'InstanceCalleeSaid': for every input the law returns true, and every argument reads behind the call as it read before. -/
import Derived.Test.YtmnglemlimfpbaaGreatZ53
namespace Go.Proofs.YtmnglemlimfpbaaGreat.instanceCallee
open Go.ChangeShapes Go.WideShapes Go.ChangeAt Go.RowKit Go.Can
theorem own:ownKnob Tryz.prog.godebug=none:=by kernel_rfl
theorem laidOut:laidOutB Tryz.prog=true:=by kernel_rfl
set_option maxRecDepth 100000 in
theorem lifted (os:Os)(started:os.Started)(H:Type)(enc:TypeId×Value→H) :
  ReturnsInHanded {} Tryz.checked os 6 .any (Rows.instanceCalleeSpec.pre6 enc Tryz.prog Tryz.f6 Rows.instanceCalleeRow.domain false) (Rows.instanceCalleeSpec.post enc Tryz.prog Tryz.f6 false true false false):=by
 refine returnsInHanded_of_change (C:=Tryz.checked) own started (by kernel_rfl) Tryz.func6
  (ChangeSpec.witness6 (enc:=enc) (C:=Tryz.checked) false ⟨#[],#[.slice none 0 0,.int .i64 0,.int .i64 0,.bool false],[]⟩ 8 (by kernel_rfl) (by kernel_rfl) (by kernel_rfl) (by kernel_rfl)) ?_
 intro W base args ds gs before hval0 hW _ _
 have hval:∀ (j:Nat) t v,Tryz.f6.params[j]? = some t→args[j]? = some v→Value.okWide Tryz.prog W .any base t v:=hval0
 have hW':=hW
 obtain⟨p,q,hA0,hV,rfl,_,_⟩:=hW
 have hA:DataW.TrodAll enc Tryz.prog W 0 (fun _=>true) true Tryz.f6.params.toList args.toList ds p:=hA0
 rw[Tryz.params6] at hA hval
 obtain⟨v0,vs0,d0,ds0,p0,q0,hargs,rfl,rfl,h0,r0⟩:=trodAll_cons hA
 obtain⟨v1,vs1,d1,ds1,p1,q1,rfl,rfl,rfl,h1,r1⟩:=trodAll_cons r0
 obtain⟨v2,vs2,d2,ds2,p2,q2,rfl,rfl,rfl,h2,r2⟩:=trodAll_cons r1
 obtain⟨v3,vs3,d3,ds3,p3,q3,rfl,rfl,rfl,h3,r3⟩:=trodAll_cons r2
 obtain⟨rfl,rfl,rfl⟩:=trodAll_nil r3
 obtain rfl:args=#[v0,v1,v2,v3]:=by cases args;simp_all
 obtain⟨rfl,rfl⟩:=trodVars_none hV
 clear hA0 hval0
 simp only[List.append_nil] at hW'
 have hlt0:∀ x∈p0,x.block<W.heap.size:=fun x hx=>by simpa using hW'.lt x (by simp[hx])
 have hlt1:∀ x∈p1,x.block<W.heap.size:=fun x hx=>by simpa using hW'.lt x (by simp[hx])
 have hlt2:∀ x∈p2,x.block<W.heap.size:=fun x hx=>by simpa using hW'.lt x (by simp[hx])
 have hlt3:∀ x∈p3,x.block<W.heap.size:=fun x hx=>by simpa using hW'.lt x (by simp[hx])
 obtain⟨a0,g0,b0⟩:=fJ (F:=fun _=>False) (fun _ h=>h) Tryz.underlying22 Tryz.underlying3 (by kernel_rfl) (hval 0 22 v0 rfl rfl) h0
 obtain⟨a1,ea1,_,_,_⟩:=open_int Tryz.underlying3 (hval 1 3 v1 rfl rfl) h1
 have g1:bM W (fun _=>False) (.int .i64 a1) v1:=by rw[ea1];simp[bM]
 obtain⟨a2,ea2,_,_,_⟩:=open_int Tryz.underlying3 (hval 2 3 v2 rfl rfl) h2
 have g2:bM W (fun _=>False) (.int .i64 a2) v2:=by rw[ea2];simp[bM]
 obtain⟨a3,ea3,_,_⟩:=open_bool Tryz.underlying4 (hval 3 4 v3 rfl rfl) h3
 have g3:bM W (fun _=>False) (.bool a3) v3:=by rw[ea3];simp[bM]
 refine (ah.calls ((fun l x y raw hl=>c6_ok yM l hl x y raw) a0 a1 a2 a3 b0) (vs:=[v0,v1,v2,v3]) (by simp only[bx];exact⟨v0,_,rfl,g0,⟨v1,_,rfl,g1,⟨v2,_,rfl,g2,⟨v3,_,rfl,g3,rfl⟩⟩⟩⟩)).mono fun e W' ⟨he,hb⟩=>?_
 subst he
 exact⟨_,rfl,_,_,_,[],_,[],hW',trodAll_mk1 (shut_bool Tryz.underlying4 _),⟨p0,_,Below.trod laidOut (by kernel_rfl) (of_decide_eq_true (by kernel_rfl)) h0 hb hlt0,⟨p1,_,Below.trod laidOut (by kernel_rfl) (of_decide_eq_true (by kernel_rfl)) h1 hb hlt1,⟨p2,_,Below.trod laidOut (by kernel_rfl) (of_decide_eq_true (by kernel_rfl)) h2 hb hlt2,⟨p3,_,Below.trod laidOut (by kernel_rfl) (of_decide_eq_true (by kernel_rfl)) h3 hb hlt3,trodAll_mk0,rfl⟩,rfl⟩,rfl⟩,rfl⟩,rfl,hb.frame _,fun h=>by cases h⟩
theorem proved:Rows.InstanceCalleeSaid:=
 OpenClaim.holds_of_wide 6 Tryz.f6 rfl rfl rfl rfl rfl rfl rfl ⟨rfl,rfl,rfl,rfl,rfl⟩ rfl rfl rfl rfl rfl (by kernel_rfl) Tryz.func6 (by kernel_rfl)
  (of_decide_eq_true (by kernel_rfl)) (by unfold Func.isWrapper;first | (rw[if_pos (by decide +kernel)];kernel_rfl) | (rw[if_neg (by decide +kernel)];exact⟨rfl,rfl⟩))
  (fun os started H enc _=>lifted os started H enc)
end Go.Proofs.YtmnglemlimfpbaaGreat.instanceCallee
