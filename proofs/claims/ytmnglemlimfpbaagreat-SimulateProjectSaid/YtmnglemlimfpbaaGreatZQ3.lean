/- The row 'SimulateProjectSaid': for every input the law returns true, and every argument reads behind the call as it read before. -/
import Derived.Test.YtmnglemlimfpbaaGreatRows
import Derived.Test.YtmnglemlimfpbaaGreatZ14
import Derived.Test.YtmnglemlimfpbaaGreatZ52
namespace Go.Proofs.YtmnglemlimfpbaaGreat.simulateProject
open Go.ChangeShapes Go.WideShapes Go.ChangeAt Go.RowKit Go.Can
theorem own:ownKnob Tryz.prog.godebug=none:=by kernel_rfl
theorem laidOut:laidOutB Tryz.prog=true:=by kernel_rfl
set_option maxRecDepth 100000 in
theorem lifted (os:Os)(started:os.Started)(H:Type)(enc:TypeId×Value→H) :
  ReturnsInHanded {} Tryz.checked os 3 .any (Rows.simulateProjectSpec.pre6 enc Tryz.prog Tryz.f3 Rows.simulateProjectRow.domain false) (Rows.simulateProjectSpec.post enc Tryz.prog Tryz.f3 false true false false):=by
 refine returnsInHanded_of_change (C:=Tryz.checked) own started yAb Tryz.func3
  (ChangeSpec.witness6 (enc:=enc) (C:=Tryz.checked) false ⟨#[],#[.slice none 0 0,.slice none 0 0,.int .i64 0,.int .i64 0,.bool false],[]⟩ 8 yAb yAb yAb yAb) ?_
 intro W base args ds gs before hval0 hW _ _
 have hval:∀ (j:Nat) t v,Tryz.f3.params[j]? = some t→args[j]? = some v→Value.okWide Tryz.prog W .any base t v:=hval0
 have hW':=hW
 obtain⟨p,q,hA0,hV,rfl,_,_⟩:=hW
 have hA:DataW.TrodAll enc Tryz.prog W 0 (fun _=>true) true Tryz.f3.params.toList args.toList ds p:=hA0
 rw[Tryz.params3] at hA hval
 obtain⟨v0,vs0,d0,ds0,p0,q0,hargs,rfl,rfl,h0,r0⟩:=trodAll_cons hA
 obtain⟨v1,vs1,d1,ds1,p1,q1,rfl,rfl,rfl,h1,r1⟩:=trodAll_cons r0
 obtain⟨v2,vs2,d2,ds2,p2,q2,rfl,rfl,rfl,h2,r2⟩:=trodAll_cons r1
 obtain⟨v3,vs3,d3,ds3,p3,q3,rfl,rfl,rfl,h3,r3⟩:=trodAll_cons r2
 obtain⟨v4,vs4,d4,ds4,p4,q4,rfl,rfl,rfl,h4,r4⟩:=trodAll_cons r3
 obtain⟨rfl,rfl,rfl⟩:=trodAll_nil r4
 obtain rfl:args=#[v0,v1,v2,v3,v4]:=by cases args;simp_all
 obtain⟨rfl,rfl⟩:=trodVars_none hV
 clear hA0 hval0
 simp only[List.append_nil] at hW'
 have hlt0:∀ x∈p0,x.block<W.heap.size:=fun x hx=>by simpa using hW'.lt x (by simp[hx])
 have hlt1:∀ x∈p1,x.block<W.heap.size:=fun x hx=>by simpa using hW'.lt x (by simp[hx])
 have hlt2:∀ x∈p2,x.block<W.heap.size:=fun x hx=>by simpa using hW'.lt x (by simp[hx])
 have hlt3:∀ x∈p3,x.block<W.heap.size:=fun x hx=>by simpa using hW'.lt x (by simp[hx])
 have hlt4:∀ x∈p4,x.block<W.heap.size:=fun x hx=>by simpa using hW'.lt x (by simp[hx])
 obtain⟨a0,g0,b0⟩:=pb (F:=fun _=>False) (fun _ h=>h) Tryz.underlying22 Tryz.underlying3 yAb (hval 0 22 v0 rfl rfl) h0
 obtain⟨a1,g1,b1⟩:=pb (F:=fun _=>False) (fun _ h=>h) Tryz.underlying22 Tryz.underlying3 yAb (hval 1 22 v1 rfl rfl) h1
 obtain⟨a2,ea2,_,_,_⟩:=open_int Tryz.underlying3 (hval 2 3 v2 rfl rfl) h2
 have g2:bY W (fun _=>False) (.int .i64 a2) v2:=by rw[ea2];simp[bY]
 obtain⟨a3,ea3,_,_,_⟩:=open_int Tryz.underlying3 (hval 3 3 v3 rfl rfl) h3
 have g3:bY W (fun _=>False) (.int .i64 a3) v3:=by rw[ea3];simp[bY]
 obtain⟨a4,ea4,_,_⟩:=open_bool Tryz.underlying4 (hval 4 4 v4 rfl rfl) h4
 have g4:bY W (fun _=>False) (.bool a4) v4:=by rw[ea4];simp[bY]
 refine (ae.calls ((fun l pk t m raw hl hpk=>c3_ok l pk hl hpk t m raw) a0 a1 a2 a3 a4 b0 b1) (vs:=[v0,v1,v2,v3,v4]) (by simp only[bJ];exact⟨v0,_,rfl,g0,⟨v1,_,rfl,g1,⟨v2,_,rfl,g2,⟨v3,_,rfl,g3,⟨v4,_,rfl,g4,rfl⟩⟩⟩⟩⟩)).mono fun e W' ⟨he,hb⟩=>?_
 subst he
 exact⟨_,rfl,_,_,_,[],_,[],hW',trodAll_mk1 (shut_bool Tryz.underlying4 _),⟨p0,_,Below.trod laidOut yAb (of_decide_eq_true yAb) h0 hb hlt0,⟨p1,_,Below.trod laidOut yAb (of_decide_eq_true yAb) h1 hb hlt1,⟨p2,_,Below.trod laidOut yAb (of_decide_eq_true yAb) h2 hb hlt2,⟨p3,_,Below.trod laidOut yAb (of_decide_eq_true yAb) h3 hb hlt3,⟨p4,_,Below.trod laidOut yAb (of_decide_eq_true yAb) h4 hb hlt4,trodAll_mk0,rfl⟩,rfl⟩,rfl⟩,rfl⟩,rfl⟩,rfl,hb.frame _,fun h=>by cases h⟩
theorem proved:Rows.SimulateProjectSaid:=
 OpenClaim.holds_of_wide 3 Tryz.f3 rfl rfl rfl rfl rfl rfl rfl ⟨rfl,rfl,rfl,rfl,rfl⟩ rfl rfl rfl rfl rfl yAb Tryz.func3 yAb
  (of_decide_eq_true yAb) (by unfold Func.isWrapper;first | (rw[if_pos (by decide +kernel)];kernel_rfl) | (rw[if_neg (by decide +kernel)];exact⟨rfl,rfl⟩))
  (fun os started H enc _=>lifted os started H enc)
end Go.Proofs.YtmnglemlimfpbaaGreat.simulateProject
