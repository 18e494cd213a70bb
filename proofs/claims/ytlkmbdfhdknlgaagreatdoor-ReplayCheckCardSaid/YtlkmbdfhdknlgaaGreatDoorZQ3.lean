/- The tied card 'ReplayCheckCardSaid': for every input the law returns true, and every argument reads behind the call as it read before; the package variable lockorder/grammar.calling reads as the program's text lays it. -/
import Derived.Test.YtlkmbdfhdknlgaaGreatDoorZ51
import Derived.Test.YtlkmbdfhdknlgaaGreatDoorCards
import Derived.Test.YtlkmbdfhdknlgaaGreatDoorTie
import Derived.LaidMore
import Derived.Stop.Joined
import Derived.SevenTiedAt
namespace Go.Proofs.YtlkmbdfhdknlgaaGreatDoor.replayCheck
open Go.ChangeShapes Go.WideShapes Go.ChangeAt Go.RowKit Go.Can
theorem own:ownKnob Tryz.prog.godebug=none:=by kernel_rfl
theorem laidOut:laidOutB Tryz.prog=true:=by kernel_rfl
theorem gCall : Tryz.prog.globalNamed "lockorder/grammar.calling" = some 0 := by kernel_rfl
theorem tCall:(Tryz.prog.globals[0]?).map (·.type)=some 205:=by kernel_rfl
theorem DX (os:Os)(args:Array Value):laidMetH Tryz.prog Rows.replayCheckRow.laid ((World.doorLaid Tryz.prog 14 os).forCall (fun _ _=>0) ⟨#[],args,[]⟩).memory:=
 laidMetH_of_parts3 (fuel:=10) (laidMet_of_run' 10 lz lz) lz lz
set_option maxRecDepth 100000 in
/-- What the condition gives: the table's cells. -/
theorem Fz {W:World}(h:laidMetH Tryz.prog Rows.replayCheckRow.laid W):G3 W (fun _=>False):=by
 rw[MakeChecks.laidMetH_plain _ _ _ lz] at h;obtain⟨ps,⟨g0,t0,Xk,f0,p0,q0,Yl,Mw,Vz,TQ,_,_⟩,_,_⟩:=h;obtain rfl:=Option.some.inj (gCall.symm.trans Yl);obtain rfl:=Option.some.inj (tCall.symm.trans Mw);obtain⟨xs,m1,rfl,PU,hlen,R8,Ki⟩:=DataW.trod_array Tryz.underlying205 TQ;have c4:Tryz.prog.cellsOf 4=1:=by kernel_rfl
 have Xm:Tryz.prog.cellsOf 205=9:=by kernel_rfl
 rw[Xm] at hlen;simp only[Prod.mk.injEq] at PU;have KW:∀ i,i<9→∃ b,xs[i]? = some (DataW.lit (.bool b),[])∧Xk.toList[i]? = some (.bool b):=fun i hi=>by
  have h1:=Ki i hi;rw[c4,Nat.mul_one,Go.Deep.take1_drop Xk.toList i undef yA,List.getElem?_eq_getElem yA] at h1;obtain⟨b,e1,e2⟩:=DataW.trod_bool Tryz.underlying4 h1;simp only[List.cons.injEq,and_true] at e1;refine⟨b,by rw[List.getElem?_eq_getElem yA,e2],?_⟩;rw[List.getElem?_eq_getElem yA,← e1,List.getD_eq_getElem?_getD,List.getElem?_eq_getElem yA];rfl
 have WM:∀ i b,xs[i]? = some (DataW.lit (.bool b),[])→(xs.map (·.1))[i]? = some (DataW.lit (.bool b)):=fun i b h=>by rw[List.getElem?_map,h];rfl
 have Kq:∀ i (v:Value),[Value.bool false,.bool false,.bool true,.bool false,.bool false,.bool false,.bool false,.bool false,.bool false][i]? = some v→Xk.toList[i]? = some v:=fun i v hv=>by
  have hi:i<9:=by
   have:=(List.getElem?_eq_some_iff.1 hv).1
   simpa using this
  obtain⟨b,h1,h2⟩:=KW i hi;have h3:=WM i b h1;have h4:xs.map (·.1)=[DataW.lit (.bool false),.lit (.bool false),.lit (.bool true),.lit (.bool false),.lit (.bool false),.lit (.bool false),.lit (.bool false),.lit (.bool false),.lit (.bool false)]:=by
   have:=PU.1;simp only[Rows.laid_lockorder_grammar_calling,DataW.agg.injEq] at this;exact this.symm
  rw[h4] at h3;rw[h2]
  match i,hi with
  | 0,_=>simp at h3 hv;rw[← hv,h3]
  | 1,_=>simp at h3 hv;rw[← hv,h3]
  | 2,_=>simp at h3 hv;rw[← hv,h3]
  | 3,_=>simp at h3 hv;rw[← hv,h3]
  | 4,_=>simp at h3 hv;rw[← hv,h3]
  | 5,_=>simp at h3 hv;rw[← hv,h3]
  | 6,_=>simp at h3 hv;rw[← hv,h3]
  | 7,_=>simp at h3 hv;rw[← hv,h3]
  | 8,_=>simp at h3 hv;rw[← hv,h3]
 intro x hx;simp only[EG,List.mem_singleton] at hx;subst hx;have hc:∀ (j:Nat) (v:Value),[Value.bool false,.bool false,.bool true,.bool false,.bool false,.bool false,.bool false,.bool false,.bool false][j]? = some v→W.cell? ⟨0,j,none⟩=some v:=fun j v hv=>by
  have:=World.var?_cell Yl Vz j;rw[this,← Kq j v hv];simp
 exact⟨World.block_lt_of_cell? W _ (hc 0 _ rfl),fun h=>h,hc⟩
set_option maxRecDepth 100000 in
theorem lifted (os:Os)(started:os.Started)(H:Type)(enc:TypeId×Value→H) :
  ReturnsInHanded {} Tryz.checked os 3 .any (fun w args=>(Rows.replayCheckSpec.pre enc Tryz.prog Tryz.f3 [] false w args∧laidMetH Tryz.prog Rows.replayCheckRow.laid w)∧sizedMet enc Tryz.prog Tryz.f3 (OpenSpec.ofChange Rows.replayCheckSpec) false w args) (Rows.replayCheckSpec.post enc Tryz.prog Tryz.f3 false true false false):=by
 refine returnsInHanded_of_change_and (C:=Tryz.checked) (X:=fun w _=>laidMetH Tryz.prog Rows.replayCheckRow.laid w) (fun _ _ _ hh h=>h.of_heap hh) own started lz Tryz.func3
  (ChangeSpec.witness_shaped (enc:=enc) (C:=Tryz.checked) (os:=os) (X:=fun w _=>laidMetH Tryz.prog Rows.replayCheckRow.laid w) false (World.doorLaid Tryz.prog 14 os) #[.slice none 0 0,.slice none 0 0,.int .i64 0,.int .i64 0,.int .i64 0,.int .i64 0,.int .i64 0,.int .i64 0,.int .i64 0] 10 rfl (World.shaped_of_RefB lz lz) lz lz lz (DX os _)) ?_
 intro W base args ds gs before QB hW _ _ hL _;have Ro:=Fz hL;have KQ:∀ (j:Nat) t v,Tryz.f3.params[j]? = some t→args[j]? = some v→Value.okWide Tryz.prog W .any base t v:=QB;have PL:=hW;obtain⟨p,q,Yu,hV,rfl,_,_⟩:=hW;have hA:DataW.TrodAll enc Tryz.prog W 0 (fun _=>true) true Tryz.f3.params.toList args.toList ds p:=Yu;rw[Tryz.params3] at hA KQ;obtain⟨v0,vs0,d0,ds0,p0,q0,AW,rfl,rfl,h0,r0⟩:=trodAll_cons hA;obtain⟨v1,vs1,d1,ds1,p1,q1,rfl,rfl,rfl,h1,r1⟩:=trodAll_cons r0;obtain⟨v2,vs2,d2,ds2,p2,q2,rfl,rfl,rfl,h2,r2⟩:=trodAll_cons r1;obtain⟨v3,vs3,d3,ds3,p3,q3,rfl,rfl,rfl,h3,r3⟩:=trodAll_cons r2;obtain⟨v4,vs4,d4,ds4,p4,q4,rfl,rfl,rfl,h4,r4⟩:=trodAll_cons r3;obtain⟨v5,vs5,d5,ds5,p5,q5,rfl,rfl,rfl,h5,r5⟩:=trodAll_cons r4;obtain⟨v6,vs6,d6,ds6,p6,q6,rfl,rfl,rfl,h6,r6⟩:=trodAll_cons r5;obtain⟨v7,vs7,d7,ds7,p7,q7,rfl,rfl,rfl,h7,r7⟩:=trodAll_cons r6;obtain⟨v8,vs8,d8,ds8,p8,q8,rfl,rfl,rfl,h8,r8⟩:=trodAll_cons r7;obtain⟨rfl,rfl,rfl⟩:=trodAll_nil r8;obtain rfl:args=#[v0,v1,v2,v3,v4,v5,v6,v7,v8]:=by cases args;simp_all
 obtain⟨rfl,rfl⟩:=trodVars_none hV;clear Yu QB;simp only[List.append_nil] at PL;have V9:∀ x∈p0,x.block<W.heap.size:=fun x hx=>by simpa using PL.lt x (by simp[hx])
 have MC:∀ x∈p1,x.block<W.heap.size:=fun x hx=>by simpa using PL.lt x (by simp[hx])
 have Ky:∀ x∈p2,x.block<W.heap.size:=fun x hx=>by simpa using PL.lt x (by simp[hx])
 have MB:∀ x∈p3,x.block<W.heap.size:=fun x hx=>by simpa using PL.lt x (by simp[hx])
 have V8:∀ x∈p4,x.block<W.heap.size:=fun x hx=>by simpa using PL.lt x (by simp[hx])
 have Rj:∀ x∈p5,x.block<W.heap.size:=fun x hx=>by simpa using PL.lt x (by simp[hx])
 have Rh:∀ x∈p6,x.block<W.heap.size:=fun x hx=>by simpa using PL.lt x (by simp[hx])
 have V7:∀ x∈p7,x.block<W.heap.size:=fun x hx=>by simpa using PL.lt x (by simp[hx])
 have V6:∀ x∈p8,x.block<W.heap.size:=fun x hx=>by simpa using PL.lt x (by simp[hx])
 obtain⟨a0,g0,b0⟩:=sB (F:=fun _=>False) (fun _ h=>h) Tryz.underlying22 Tryz.underlying3 lz (KQ 0 22 v0 rfl rfl) h0;obtain⟨a1,g1,b1⟩:=sB (F:=fun _=>False) (fun _ h=>h) Tryz.underlying22 Tryz.underlying3 lz (KQ 1 22 v1 rfl rfl) h1;obtain⟨a2,ea2,_,_,_⟩:=open_int Tryz.underlying3 (KQ 2 3 v2 rfl rfl) h2;have g2:bK W (fun _=>False) (.int .i64 a2) v2:=by rw[ea2];simp[bK]
 obtain⟨a3,ea3,_,_,_⟩:=open_int Tryz.underlying3 (KQ 3 3 v3 rfl rfl) h3;have g3:bK W (fun _=>False) (.int .i64 a3) v3:=by rw[ea3];simp[bK]
 obtain⟨a4,ea4,_,_,_⟩:=open_int Tryz.underlying3 (KQ 4 3 v4 rfl rfl) h4;have g4:bK W (fun _=>False) (.int .i64 a4) v4:=by rw[ea4];simp[bK]
 obtain⟨a5,ea5,_,_,_⟩:=open_int Tryz.underlying3 (KQ 5 3 v5 rfl rfl) h5;have g5:bK W (fun _=>False) (.int .i64 a5) v5:=by rw[ea5];simp[bK]
 obtain⟨a6,ea6,_,_,_⟩:=open_int Tryz.underlying3 (KQ 6 3 v6 rfl rfl) h6;have g6:bK W (fun _=>False) (.int .i64 a6) v6:=by rw[ea6];simp[bK]
 obtain⟨a7,ea7,_,_,_⟩:=open_int Tryz.underlying3 (KQ 7 3 v7 rfl rfl) h7;have g7:bK W (fun _=>False) (.int .i64 a7) v7:=by rw[ea7];simp[bK]
 obtain⟨a8,ea8,_,_,_⟩:=open_int Tryz.underlying3 (KQ 8 3 v8 rfl rfl) h8;have g8:bK W (fun _=>False) (.int .i64 a8) v8:=by rw[ea8];simp[bK]
 refine (ae.calls (JT a0 a1 b0 b1 a2 a3 a4 a5 a6 a7 a8) (vs:=[v0,v1,v2,v3,v4,v5,v6,v7,v8]) (by simp only[bt];exact⟨v0,_,rfl,g0,⟨v1,_,rfl,g1,⟨v2,_,rfl,g2,⟨v3,_,rfl,g3,⟨v4,_,rfl,g4,⟨v5,_,rfl,g5,⟨v6,_,rfl,g6,⟨v7,_,rfl,g7,⟨v8,_,rfl,g8,rfl⟩⟩⟩⟩⟩⟩⟩⟩⟩) Ro).mono fun e W' ⟨he,hb⟩=>?_;subst he;exact⟨_,rfl,_,_,_,[],_,[],PL,trodAll_mk1 (shut_bool Tryz.underlying4 _),⟨p0,_,Below.trod laidOut lz (of_decide_eq_true lz) h0 hb V9,⟨p1,_,Below.trod laidOut lz (of_decide_eq_true lz) h1 hb MC,⟨p2,_,Below.trod laidOut lz (of_decide_eq_true lz) h2 hb Ky,⟨p3,_,Below.trod laidOut lz (of_decide_eq_true lz) h3 hb MB,⟨p4,_,Below.trod laidOut lz (of_decide_eq_true lz) h4 hb V8,⟨p5,_,Below.trod laidOut lz (of_decide_eq_true lz) h5 hb Rj,⟨p6,_,Below.trod laidOut lz (of_decide_eq_true lz) h6 hb Rh,⟨p7,_,Below.trod laidOut lz (of_decide_eq_true lz) h7 hb V7,⟨p8,_,Below.trod laidOut lz (of_decide_eq_true lz) h8 hb V6,trodAll_mk0,rfl⟩,rfl⟩,rfl⟩,rfl⟩,rfl⟩,rfl⟩,rfl⟩,rfl⟩,rfl⟩,rfl,hb.frame _,fun h=>by cases h⟩
theorem k1:Tryz.prog.inPlace 3=Rows.replayCheckRow.inPlace:=by kernel_rfl
theorem k2:Tryz.prog.unfollowed 3=Rows.replayCheckRow.unfollowed:=by kernel_rfl
theorem k3:Tryz.prog.recurses 3=Rows.replayCheckRow.recurses:=by kernel_rfl
theorem k4:Tryz.prog.varsNamed 3=Rows.replayCheckRow.named:=by kernel_rfl
theorem k5:Tryz.prog.mayEnter=true:=by kernel_rfl
theorem k6:Tryz.prog.stopsHeard=true:=by kernel_rfl
theorem k7:mapsRowed Tryz.prog=true:=by kernel_rfl
theorem closed:joinedFacts Tryz.prog 3 Tryz.f3 Rows.replayCheckSpec Rows.replayCheckRow=true:=by
 unfold joinedFacts;rw[k1,k2,k3,k4,k5,k6,k7,laidOut]
 kernel_rfl
theorem holds:Rows.ReplayCheckSaid:=
 OpenClaim.holds_of_wide 3 Tryz.f3 rfl rfl rfl rfl rfl rfl rfl ⟨rfl,rfl,rfl,rfl,rfl⟩ rfl rfl rfl rfl rfl lz Tryz.func3 closed
  (of_decide_eq_true lz) (by unfold Func.isWrapper;first | (rw[if_pos (by decide +kernel)];kernel_rfl) | (rw[if_neg (by decide +kernel)];exact⟨rfl,rfl⟩))
  (fun os started H enc _=>lifted os started H enc)
theorem stood:∀ t∈[22,22,3,3,3,3,3,3,3],Tryz.prog.wantsStandIn t=false:=fun t ht=>by
 simp only[List.mem_cons,List.not_mem_nil,or_false] at ht;rcases ht with rfl | rfl | rfl | rfl | rfl | rfl | rfl | rfl | rfl<;>kernel_rfl
theorem proved:Rows.ReplayCheckCardSaid:=
 Claim7.holds_tied_plain_at .later [] [.data] true (true, "3644b7c26e8cba4363a5b36de7c8ea6a1cd179b9ff20bc40b08bab7b84ece1fc") false
  holds (fun _ h=>by cases h) lz (fun _ h=>by cases h) replayCheck_row_tie rfl ⟨rfl,rfl⟩ lz rfl
  (fun f fn hf OW=>by
   obtain rfl : f = 3 := Option.some.inj ((show Tryz.prog.funcNamed "lockorder/lockorderlaw27.ReplayCheck" = some 3 by kernel_rfl).symm.trans hf) |>.symm
   obtain rfl:fn=Tryz.f3:=(Option.some.inj (Tryz.func3.symm.trans OW)).symm;exact⟨by kernel_rfl,fun j t ht=>by
    rw[Tryz.params3] at ht;exact stood t (List.mem_of_getElem? (by simpa using ht))⟩)
  lz
end Go.Proofs.YtlkmbdfhdknlgaaGreatDoor.replayCheck
