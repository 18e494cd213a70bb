/- The tied card 'ReplayRawCardSaid': for every input the law returns true, and every argument reads behind the call as it read before; the package variable lockorder/grammar.calling reads as the program's text lays it. -/
import Derived.Test.YtkkdkhbhamhfgaaGreatDoorZ48
import Derived.Test.YtkkdkhbhamhfgaaGreatDoorCards
import Derived.Test.YtkkdkhbhamhfgaaGreatDoorTie
import Derived.LaidMore
import Derived.Stop.Joined
import Derived.SevenTiedAt
namespace Go.Proofs.YtkkdkhbhamhfgaaGreatDoor.replayRaw
open Go.ChangeShapes Go.WideShapes Go.ChangeAt Go.RowKit Go.Can
theorem own:ownKnob Tryz.prog.godebug=none:=by kernel_rfl
theorem laidOut:laidOutB Tryz.prog=true:=by kernel_rfl
theorem gCall : Tryz.prog.globalNamed "lockorder/grammar.calling" = some 0 := by kernel_rfl
theorem tCall:(Tryz.prog.globals[0]?).map (·.type)=some 205:=by kernel_rfl
theorem DX (os:Os)(args:Array Value):laidMetH Tryz.prog Rows.replayRawRow.laid ((World.doorLaid Tryz.prog 14 os).forCall (fun _ _=>0) ⟨#[],args,[]⟩).memory:=
 laidMetH_of_parts3 (fuel:=10) (laidMet_of_run' 10 JN JN) JN JN
set_option maxRecDepth 100000 in
/-- What the condition gives: the table's cells. -/
theorem Fz {W:World}(h:laidMetH Tryz.prog Rows.replayRawRow.laid W):G3 W (fun _=>False):=by
 rw[MakeChecks.laidMetH_plain _ _ _ JN] at h;obtain⟨ps,⟨g0,t0,WA,f0,p0,q0,Xv,Mb,US,S0,_,_⟩,_,_⟩:=h;obtain rfl:=Option.some.inj (gCall.symm.trans Xv);obtain rfl:=Option.some.inj (tCall.symm.trans Mb);obtain⟨xs,m1,rfl,PA,hlen,Rq,Kb⟩:=DataW.trod_array Tryz.underlying205 S0;have c4:Tryz.prog.cellsOf 4=1:=by kernel_rfl
 have WC:Tryz.prog.cellsOf 205=9:=by kernel_rfl
 rw[WC] at hlen;simp only[Prod.mk.injEq] at PA;have KH:∀ i,i<9→∃ b,xs[i]? = some (DataW.lit (.bool b),[])∧WA.toList[i]? = some (.bool b):=fun i hi=>by
  have h1:=Kb i hi;rw[c4,Nat.mul_one,Go.Deep.take1_drop WA.toList i undef yA,List.getElem?_eq_getElem yA] at h1;obtain⟨b,e1,e2⟩:=DataW.trod_bool Tryz.underlying4 h1;simp only[List.cons.injEq,and_true] at e1;refine⟨b,by rw[List.getElem?_eq_getElem yA,e2],?_⟩;rw[List.getElem?_eq_getElem yA,← e1,List.getD_eq_getElem?_getD,List.getElem?_eq_getElem yA];rfl
 have V2:∀ i b,xs[i]? = some (DataW.lit (.bool b),[])→(xs.map (·.1))[i]? = some (DataW.lit (.bool b)):=fun i b h=>by rw[List.getElem?_map,h];rfl
 have Kg:∀ i (v:Value),[Value.bool false,.bool false,.bool true,.bool false,.bool false,.bool false,.bool false,.bool false,.bool false][i]? = some v→WA.toList[i]? = some v:=fun i v hv=>by
  have hi:i<9:=by
   have:=(List.getElem?_eq_some_iff.1 hv).1
   simpa using this
  obtain⟨b,h1,h2⟩:=KH i hi;have h3:=V2 i b h1;have h4:xs.map (·.1)=[DataW.lit (.bool false),.lit (.bool false),.lit (.bool true),.lit (.bool false),.lit (.bool false),.lit (.bool false),.lit (.bool false),.lit (.bool false),.lit (.bool false)]:=by
   have:=PA.1;simp only[Rows.laid_lockorder_grammar_calling,DataW.agg.injEq] at this;exact this.symm
  rw[h4] at h3;rw[h2]
  match i,hi with
  | 0,_=>simp at h3 hv;rw[← hv,h3]
  | 1,_=>simp at h3 hv;rw[← hv,h3]
  | 2,_=>simp at h3 hv;rw[← hv,h3]
  | 3,_=>simp at h3 hv;rw[← hv,h3]
  | 4,_=>simp at h3 hv;rw[← hv,h3]
  | 5,_=>simp at h3 hv;rw[← hv,h3]
  | 6,_=>simp at h3 hv;rw[← hv,h3]
  | 7,_=>simp at h3 hv;rw[← hv,h3]
  | 8,_=>simp at h3 hv;rw[← hv,h3]
 intro x hx;simp only[EG,List.mem_singleton] at hx;subst hx;have hc:∀ (j:Nat) (v:Value),[Value.bool false,.bool false,.bool true,.bool false,.bool false,.bool false,.bool false,.bool false,.bool false][j]? = some v→W.cell? ⟨0,j,none⟩=some v:=fun j v hv=>by
  have:=World.var?_cell Xv US j;rw[this,← Kg j v hv];simp
 exact⟨World.block_lt_of_cell? W _ (hc 0 _ rfl),fun h=>h,hc⟩
set_option maxRecDepth 100000 in
theorem lifted (os:Os)(started:os.Started)(H:Type)(enc:TypeId×Value→H) :
  ReturnsInHanded {} Tryz.checked os 4 .any (fun w args=>(Rows.replayRawSpec.pre enc Tryz.prog Tryz.f4 [] false w args∧laidMetH Tryz.prog Rows.replayRawRow.laid w)∧sizedMet enc Tryz.prog Tryz.f4 (OpenSpec.ofChange Rows.replayRawSpec) false w args) (Rows.replayRawSpec.post enc Tryz.prog Tryz.f4 false true false false):=by
 refine returnsInHanded_of_change_and (C:=Tryz.checked) (X:=fun w _=>laidMetH Tryz.prog Rows.replayRawRow.laid w) (fun _ _ _ hh h=>h.of_heap hh) own started JN Tryz.func4
  (ChangeSpec.witness_shaped (enc:=enc) (C:=Tryz.checked) (os:=os) (X:=fun w _=>laidMetH Tryz.prog Rows.replayRawRow.laid w) false (World.doorLaid Tryz.prog 14 os) #[.slice none 0 0,.agg #[.int .i64 0,.int .i64 0,.int .i64 0,.int .i64 0,.slice none 0 0]] 10 rfl (World.shaped_of_RefB JN JN) JN JN JN (DX os _)) ?_
 intro W base args ds gs before P1 hW _ _ hL _;have QR:=Fz hL;have Lg:∀ (j:Nat) t v,Tryz.f4.params[j]? = some t→args[j]? = some v→Value.okWide Tryz.prog W .any base t v:=P1;have Ud:=hW;obtain⟨p,q,XH,hV,rfl,_,_⟩:=hW;have hA:DataW.TrodAll enc Tryz.prog W 0 (fun _=>true) true Tryz.f4.params.toList args.toList ds p:=XH;rw[Tryz.params4] at hA Lg;obtain⟨v0,ZS,d0,ds0,p0,q0,JU,rfl,rfl,h0,r0⟩:=trodAll_cons hA;obtain⟨v1,ZR,d1,ds1,p1,q1,rfl,rfl,rfl,h1,r1⟩:=trodAll_cons r0;obtain⟨rfl,rfl,rfl⟩:=trodAll_nil r1;obtain rfl:args=#[v0,v1]:=by cases args;simp_all
 obtain⟨rfl,rfl⟩:=trodVars_none hV;clear XH P1;simp only[List.append_nil] at Ud;have Vs:∀ x∈p0,x.block<W.heap.size:=fun x hx=>by simpa using Ud.lt x (by simp[hx])
 have LW:∀ x∈p1,x.block<W.heap.size:=fun x hx=>by simpa using Ud.lt x (by simp[hx])
 obtain⟨a0,g0,b0⟩:=sB (F:=fun _=>False) (fun _ h=>h) Tryz.underlying22 Tryz.underlying3 JN (Lg 0 22 v0 rfl rfl) h0;obtain⟨a1,g1,b1,c1,e1⟩:=Fm (F:=fun _=>False) (fun _ h=>h) (Lg 1 39 v1 rfl rfl) h1;refine (ae.calls (AW a0 a1 b0 b1 c1 e1) (vs:=[v0,v1]) (by simp only[bt];exact⟨v0,_,rfl,g0,⟨v1,_,rfl,g1,rfl⟩⟩) QR).mono fun e W' ⟨he,hb⟩=>?_;subst he;exact⟨_,rfl,_,_,_,[],_,[],Ud,trodAll_mk1 (shut_bool Tryz.underlying4 _),⟨p0,_,Below.trod laidOut JN (of_decide_eq_true JN) h0 hb Vs,⟨p1,_,Below.trod laidOut JN (of_decide_eq_true JN) h1 hb LW,trodAll_mk0,rfl⟩,rfl⟩,rfl,hb.frame _,fun h=>by cases h⟩
theorem k1:Tryz.prog.inPlace 4=Rows.replayRawRow.inPlace:=by kernel_rfl
theorem k2:Tryz.prog.unfollowed 4=Rows.replayRawRow.unfollowed:=by kernel_rfl
theorem k3:Tryz.prog.recurses 4=Rows.replayRawRow.recurses:=by kernel_rfl
theorem k4:Tryz.prog.varsNamed 4=Rows.replayRawRow.named:=by kernel_rfl
theorem k5:Tryz.prog.mayEnter=true:=by kernel_rfl
theorem k6:Tryz.prog.stopsHeard=true:=by kernel_rfl
theorem k7:mapsRowed Tryz.prog=true:=by kernel_rfl
theorem closed:joinedFacts Tryz.prog 4 Tryz.f4 Rows.replayRawSpec Rows.replayRawRow=true:=by
 unfold joinedFacts;rw[k1,k2,k3,k4,k5,k6,k7,laidOut]
 kernel_rfl
theorem holds:Rows.ReplayRawSaid:=
 OpenClaim.holds_of_wide 4 Tryz.f4 rfl rfl rfl rfl rfl rfl rfl ⟨rfl,rfl,rfl,rfl,rfl⟩ rfl rfl rfl rfl rfl JN Tryz.func4 closed
  (of_decide_eq_true JN) (by unfold Func.isWrapper;first | (rw[if_pos (by decide +kernel)];kernel_rfl) | (rw[if_neg (by decide +kernel)];exact⟨rfl,rfl⟩))
  (fun os started H enc _=>lifted os started H enc)
theorem stood:∀ t∈[22,39],Tryz.prog.wantsStandIn t=false:=fun t ht=>by
 simp only[List.mem_cons,List.not_mem_nil,or_false] at ht;rcases ht with rfl | rfl<;>kernel_rfl
theorem proved:Rows.ReplayRawCardSaid:=
 Claim7.holds_tied_plain_at .later [] [.data] true (true, "3644b7c26e8cba4363a5b36de7c8ea6a1cd179b9ff20bc40b08bab7b84ece1fc") false
  holds (fun _ h=>by cases h) JN (fun _ h=>by cases h) replayRaw_row_tie rfl ⟨rfl,rfl⟩ JN rfl
  (fun f fn hf On=>by
   obtain rfl : f = 4 := Option.some.inj ((show Tryz.prog.funcNamed "lockorder/lockorderlaw27.ReplayRaw" = some 4 by kernel_rfl).symm.trans hf) |>.symm
   obtain rfl:fn=Tryz.f4:=(Option.some.inj (Tryz.func4.symm.trans On)).symm;exact⟨by kernel_rfl,fun j t ht=>by
    rw[Tryz.params4] at ht;exact stood t (List.mem_of_getElem? (by simpa using ht))⟩)
  JN
end Go.Proofs.YtkkdkhbhamhfgaaGreatDoor.replayRaw
