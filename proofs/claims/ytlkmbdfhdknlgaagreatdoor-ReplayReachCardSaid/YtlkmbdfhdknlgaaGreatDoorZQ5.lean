/- The tied card 'ReplayReachCardSaid': for every input the law returns true, and every argument reads behind the call as it read before; the package variable lockorder/grammar.calling reads as the program's text lays it. -/
import Derived.Test.YtlkmbdfhdknlgaaGreatDoorZ49
import Derived.Test.YtlkmbdfhdknlgaaGreatDoorCards
import Derived.Test.YtlkmbdfhdknlgaaGreatDoorTie
import Derived.LaidMore
import Derived.Stop.Joined
import Derived.SevenTiedAt
namespace Go.Proofs.YtlkmbdfhdknlgaaGreatDoor.replayReach
open Go.ChangeShapes Go.WideShapes Go.ChangeAt Go.RowKit Go.Can
theorem own:ownKnob Tryz.prog.godebug=none:=by kernel_rfl
theorem laidOut:laidOutB Tryz.prog=true:=by kernel_rfl
theorem gCall : Tryz.prog.globalNamed "lockorder/grammar.calling" = some 0 := by kernel_rfl
theorem tCall:(Tryz.prog.globals[0]?).map (·.type)=some 205:=by kernel_rfl
theorem HZ (os:Os)(args:Array Value):laidMetH Tryz.prog Rows.replayReachRow.laid ((World.doorLaid Tryz.prog 14 os).forCall (fun _ _=>0) ⟨#[],args,[]⟩).memory:=
 laidMetH_of_parts3 (fuel:=10) (laidMet_of_run' 10 N4 N4) N4 N4
set_option maxRecDepth 100000 in
/-- What the condition gives: the table's cells. -/
theorem JE {W:World}(h:laidMetH Tryz.prog Rows.replayReachRow.laid W):Lb W (fun _=>False):=by
 rw[MakeChecks.laidMetH_plain _ _ _ N4] at h;obtain⟨ps,⟨g0,t0,cs0,f0,p0,q0,hg0,Q8,hv0,Zz,_,_⟩,_,_⟩:=h;obtain rfl:=Option.some.inj (gCall.symm.trans hg0);obtain rfl:=Option.some.inj (tCall.symm.trans Q8);obtain⟨xs,m1,rfl,UN,hlen,XG,Ou⟩:=DataW.trod_array Tryz.underlying205 Zz;have c4:Tryz.prog.cellsOf 4=1:=by kernel_rfl
 have c205:Tryz.prog.cellsOf 205=9:=by kernel_rfl
 rw[c205] at hlen;simp only[Prod.mk.injEq] at UN;have OW:∀ i,i<9→∃ b,xs[i]? = some (DataW.lit (.bool b),[])∧cs0.toList[i]? = some (.bool b):=fun i hi=>by
  have h1:=Ou i hi;rw[c4,Nat.mul_one,Go.Deep.take1_drop cs0.toList i undef yA,List.getElem?_eq_getElem yA] at h1;obtain⟨b,e1,e2⟩:=DataW.trod_bool Tryz.underlying4 h1;simp only[List.cons.injEq,and_true] at e1;refine⟨b,by rw[List.getElem?_eq_getElem yA,e2],?_⟩;rw[List.getElem?_eq_getElem yA,← e1,List.getD_eq_getElem?_getD,List.getElem?_eq_getElem yA];rfl
 have hdat:∀ i b,xs[i]? = some (DataW.lit (.bool b),[])→(xs.map (·.1))[i]? = some (DataW.lit (.bool b)):=fun i b h=>by rw[List.getElem?_map,h];rfl
 have ON:∀ i (v:Value),[Value.bool false,.bool false,.bool true,.bool false,.bool false,.bool false,.bool false,.bool false,.bool false][i]? = some v→cs0.toList[i]? = some v:=fun i v hv=>by
  have hi:i<9:=by
   have:=(List.getElem?_eq_some_iff.1 hv).1
   simpa using this
  obtain⟨b,h1,h2⟩:=OW i hi;have h3:=hdat i b h1;have h4:xs.map (·.1)=[DataW.lit (.bool false),.lit (.bool false),.lit (.bool true),.lit (.bool false),.lit (.bool false),.lit (.bool false),.lit (.bool false),.lit (.bool false),.lit (.bool false)]:=by
   have:=UN.1;simp only[Rows.laid_lockorder_grammar_calling,DataW.agg.injEq] at this;exact this.symm
  rw[h4] at h3;rw[h2]
  match i,hi with
  | 0,_=>simp at h3 hv;rw[← hv,h3]
  | 1,_=>simp at h3 hv;rw[← hv,h3]
  | 2,_=>simp at h3 hv;rw[← hv,h3]
  | 3,_=>simp at h3 hv;rw[← hv,h3]
  | 4,_=>simp at h3 hv;rw[← hv,h3]
  | 5,_=>simp at h3 hv;rw[← hv,h3]
  | 6,_=>simp at h3 hv;rw[← hv,h3]
  | 7,_=>simp at h3 hv;rw[← hv,h3]
  | 8,_=>simp at h3 hv;rw[← hv,h3]
 intro x hx;simp only[IM,List.mem_singleton] at hx;subst hx;have hc:∀ (j:Nat) (v:Value),[Value.bool false,.bool false,.bool true,.bool false,.bool false,.bool false,.bool false,.bool false,.bool false][j]? = some v→W.cell? ⟨0,j,none⟩=some v:=fun j v hv=>by
  have:=World.var?_cell hg0 hv0 j;rw[this,← ON j v hv];simp
 exact⟨World.block_lt_of_cell? W _ (hc 0 _ rfl),fun h=>h,hc⟩
set_option maxRecDepth 100000 in
theorem lifted (os:Os)(started:os.Started)(H:Type)(enc:TypeId×Value→H) :
  ReturnsInHanded {} Tryz.checked os 5 .any (fun w args=>(Rows.replayReachSpec.pre enc Tryz.prog Tryz.f5 [] false w args∧laidMetH Tryz.prog Rows.replayReachRow.laid w)∧sizedMet enc Tryz.prog Tryz.f5 (OpenSpec.ofChange Rows.replayReachSpec) false w args) (Rows.replayReachSpec.post enc Tryz.prog Tryz.f5 false true false false):=by
 refine returnsInHanded_of_change_and (C:=Tryz.checked) (X:=fun w _=>laidMetH Tryz.prog Rows.replayReachRow.laid w) (fun _ _ _ hh h=>h.of_heap hh) own started N4 Tryz.func5
  (ChangeSpec.witness_shaped (enc:=enc) (C:=Tryz.checked) (os:=os) (X:=fun w _=>laidMetH Tryz.prog Rows.replayReachRow.laid w) false (World.doorLaid Tryz.prog 14 os) #[.slice none 0 0,.slice none 0 0,.int .i64 0,.int .i64 0,.int .i64 0,.int .i64 0] 10 rfl (World.shaped_of_RefB N4 N4) N4 N4 N4 (HZ os _)) ?_
 intro W base args ds gs before VL hW _ _ hL _;have WV:=JE hL;have PI:∀ (j:Nat) t v,Tryz.f5.params[j]? = some t→args[j]? = some v→Value.okWide Tryz.prog W .any base t v:=VL;have V6:=hW;obtain⟨p,q,hA0,hV,rfl,_,_⟩:=hW;have hA:DataW.TrodAll enc Tryz.prog W 0 (fun _=>true) true Tryz.f5.params.toList args.toList ds p:=hA0;rw[Tryz.params5] at hA PI;obtain⟨v0,vs0,d0,ds0,p0,q0,Of,rfl,rfl,h0,r0⟩:=trodAll_cons hA;obtain⟨v1,vs1,d1,ds1,p1,q1,rfl,rfl,rfl,h1,r1⟩:=trodAll_cons r0;obtain⟨v2,vs2,d2,ds2,p2,q2,rfl,rfl,rfl,h2,r2⟩:=trodAll_cons r1;obtain⟨v3,vs3,d3,ds3,p3,q3,rfl,rfl,rfl,h3,r3⟩:=trodAll_cons r2;obtain⟨v4,vs4,d4,ds4,p4,q4,rfl,rfl,rfl,h4,r4⟩:=trodAll_cons r3;obtain⟨v5,vs5,d5,ds5,p5,q5,rfl,rfl,rfl,h5,r5⟩:=trodAll_cons r4;obtain⟨rfl,rfl,rfl⟩:=trodAll_nil r5;obtain rfl:args=#[v0,v1,v2,v3,v4,v5]:=by cases args;simp_all
 obtain⟨rfl,rfl⟩:=trodVars_none hV;clear hA0 VL;simp only[List.append_nil] at V6;have hlt0:∀ x∈p0,x.block<W.heap.size:=fun x hx=>by simpa using V6.lt x TS
 have SF:∀ x∈p1,x.block<W.heap.size:=fun x hx=>by simpa using V6.lt x TS
 have Pv:∀ x∈p2,x.block<W.heap.size:=fun x hx=>by simpa using V6.lt x TS
 have R6:∀ x∈p3,x.block<W.heap.size:=fun x hx=>by simpa using V6.lt x TS
 have hlt4:∀ x∈p4,x.block<W.heap.size:=fun x hx=>by simpa using V6.lt x TS
 have WI:∀ x∈p5,x.block<W.heap.size:=fun x hx=>by simpa using V6.lt x TS
 obtain⟨a0,g0,b0⟩:=oY (F:=fun _=>False) (fun _ h=>h) Tryz.underlying22 Tryz.underlying3 N4 (PI 0 22 v0 rfl rfl) h0;obtain⟨a1,g1,b1⟩:=oY (F:=fun _=>False) (fun _ h=>h) Tryz.underlying22 Tryz.underlying3 N4 (PI 1 22 v1 rfl rfl) h1;obtain⟨a2,ea2,_,_,_⟩:=open_int Tryz.underlying3 (PI 2 3 v2 rfl rfl) h2;have g2:bZ W (fun _=>False) (.int .i64 a2) v2:=by rw[ea2];simp[bZ]
 obtain⟨a3,ea3,_,_,_⟩:=open_int Tryz.underlying3 (PI 3 3 v3 rfl rfl) h3;have g3:bZ W (fun _=>False) (.int .i64 a3) v3:=by rw[ea3];simp[bZ]
 obtain⟨a4,ea4,_,_,_⟩:=open_int Tryz.underlying3 (PI 4 3 v4 rfl rfl) h4;have g4:bZ W (fun _=>False) (.int .i64 a4) v4:=by rw[ea4];simp[bZ]
 obtain⟨a5,ea5,_,_,_⟩:=open_int Tryz.underlying3 (PI 5 3 v5 rfl rfl) h5;have g5:bZ W (fun _=>False) (.int .i64 a5) v5:=by rw[ea5];simp[bZ]
 refine (ae.calls (zV a0 a1 b0 b1 a2 a3 a4 a5) (vs:=[v0,v1,v2,v3,v4,v5]) (by simp only[bP];exact⟨v0,_,rfl,g0,⟨v1,_,rfl,g1,⟨v2,_,rfl,g2,⟨v3,_,rfl,g3,⟨v4,_,rfl,g4,⟨v5,_,rfl,g5,rfl⟩⟩⟩⟩⟩⟩) WV).mono fun e W' ⟨he,hb⟩=>?_;subst he;exact⟨_,rfl,_,_,_,[],_,[],V6,trodAll_mk1 (shut_bool Tryz.underlying4 _),⟨p0,_,Below.trod laidOut N4 (of_decide_eq_true N4) h0 hb hlt0,⟨p1,_,Below.trod laidOut N4 (of_decide_eq_true N4) h1 hb SF,⟨p2,_,Below.trod laidOut N4 (of_decide_eq_true N4) h2 hb Pv,⟨p3,_,Below.trod laidOut N4 (of_decide_eq_true N4) h3 hb R6,⟨p4,_,Below.trod laidOut N4 (of_decide_eq_true N4) h4 hb hlt4,⟨p5,_,Below.trod laidOut N4 (of_decide_eq_true N4) h5 hb WI,trodAll_mk0,rfl⟩,rfl⟩,rfl⟩,rfl⟩,rfl⟩,rfl⟩,rfl,hb.frame _,fun h=>by cases h⟩
theorem k1:Tryz.prog.inPlace 5=Rows.replayReachRow.inPlace:=by kernel_rfl
theorem k2:Tryz.prog.unfollowed 5=Rows.replayReachRow.unfollowed:=by kernel_rfl
theorem k3:Tryz.prog.recurses 5=Rows.replayReachRow.recurses:=by kernel_rfl
theorem k4:Tryz.prog.varsNamed 5=Rows.replayReachRow.named:=by kernel_rfl
theorem k5:Tryz.prog.mayEnter=true:=by kernel_rfl
theorem k6:Tryz.prog.stopsHeard=true:=by kernel_rfl
theorem k7:mapsRowed Tryz.prog=true:=by kernel_rfl
theorem closed:joinedFacts Tryz.prog 5 Tryz.f5 Rows.replayReachSpec Rows.replayReachRow=true:=by
 unfold joinedFacts;rw[k1,k2,k3,k4,k5,k6,k7,laidOut]
 kernel_rfl
theorem holds:Rows.ReplayReachSaid:=
 OpenClaim.holds_of_wide 5 Tryz.f5 rfl rfl rfl rfl rfl rfl rfl ⟨rfl,rfl,rfl,rfl,rfl⟩ rfl rfl rfl rfl rfl N4 Tryz.func5 closed
  (of_decide_eq_true N4) (by unfold Func.isWrapper;first | (rw[if_pos (by decide +kernel)];kernel_rfl) | (rw[if_neg (by decide +kernel)];exact⟨rfl,rfl⟩))
  (fun os started H enc _=>lifted os started H enc)
theorem stood:∀ t∈[22,22,3,3,3,3],Tryz.prog.wantsStandIn t=false:=fun t ht=>by
 simp only[List.mem_cons,List.not_mem_nil,or_false] at ht;rcases ht with rfl | rfl | rfl | rfl | rfl | rfl<;>kernel_rfl
theorem proved:Rows.ReplayReachCardSaid:=
 Claim7.holds_tied_plain_at .later [] [.data] true (true, "3644b7c26e8cba4363a5b36de7c8ea6a1cd179b9ff20bc40b08bab7b84ece1fc") false
  holds (fun _ h=>by cases h) N4 (fun _ h=>by cases h) replayReach_row_tie rfl ⟨rfl,rfl⟩ N4 rfl
  (fun f fn hf TJ=>by
   obtain rfl : f = 5 := Option.some.inj ((show Tryz.prog.funcNamed "lockorder/lockorderlaw27.ReplayReach" = some 5 by kernel_rfl).symm.trans hf) |>.symm
   obtain rfl:fn=Tryz.f5:=(Option.some.inj (Tryz.func5.symm.trans TJ)).symm;exact⟨by kernel_rfl,fun j t ht=>by
    rw[Tryz.params5] at ht;exact stood t (List.mem_of_getElem? (by simpa using ht))⟩)
  N4
end Go.Proofs.YtlkmbdfhdknlgaaGreatDoor.replayReach
