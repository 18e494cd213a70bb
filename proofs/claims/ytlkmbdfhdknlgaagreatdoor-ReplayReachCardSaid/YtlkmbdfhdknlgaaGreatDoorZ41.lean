/- The program's ends, Root, Check. -/
import Derived.Test.YtlkmbdfhdknlgaaGreatDoorZ40
namespace Go.Can
open Go.RowKit
theorem XV.eql {P:Program}{s:St}{W:List rh}{t:TypeId}{kb:Value→Bool}(hT:EqT P t kb){o:Oper}{x y:Operand}{q:TypeId}{cx cy:CV}{vx vy:Value}(ho:o.op=.binOp .eql t x y q)(hx:ev s x=some cx)(hy:ev s y=some cy)(h4:mG cx=some vx)(h5:mG cy=some vy)(k1:kb vx=true)(k2:kb vy=true):XV P W o s (.bool (Bv vx vy)):=fun C σ s1 a w he _ hr=>by
 obtain⟨e1,_⟩:=j6 h4 (bO hr ((he x (by simp[ho,Op.operands])).trans hx));obtain⟨e2,_⟩:=j6 h5 (bO hr ((he y (by simp[ho,Op.operands])).trans hy));obtain⟨xs,rfl⟩:=hT.agg vx k1;obtain⟨ys,rfl⟩:=hT.agg vy k2;refine⟨_,?_,dA _⟩;simp only[execOp,ho,e1,e2,Sem.run_bind,run_eqGuard_agg w _ t x y xs ys hT.guard,Result.andThen_ok,run_eql_struct,hT.eq w _ _ k1 k2,Sem.run_pure]
end Go.Can
namespace Go.Proofs.YtlkmbdfhdknlgaaGreatDoor
open Go.Can Go.aN
theorem LR:AU Tryz.prog 3 2 85=true:=by kernel_rfl
theorem ptEq:EqT Tryz.prog 85 (zU 2):=HU yA LR N4
def LS (a b:Int):Value:=.agg #[.int .i64 a,.int .i64 b]
def i64 (n:Int):Prop:=-9223372036854775808≤n∧n≤9223372036854775807
theorem KB {a b:Int}(ha:i64 a)(hb:i64 b):zU 2 (LS a b)=true:=by
 unfold i64 at ha hb;simp[zU,LS,wI,Go.Can.qZ];omega
theorem KC {a b c d:Int}(ha:i64 a)(hb:i64 b)(hc:i64 c)(hd:i64 d){W:List rh}{s:St}{o:Oper}{x y:Operand}{q:TypeId}(ho:o.op=.binOp .eql 85 x y q)(hx:ev s x=some (.agg [I a,I b]))(hy:ev s y=some (.agg [I c,I d])):XV Tryz.prog W o s (.bool (decide (a=c) && decide (b=d))):=by
 have h:=XV.eql (W:=W) ptEq ho hx hy (vx:=LS a b) (vy:=LS c d) rfl rfl (KB ha hb) (KB hc hd);have e:Bv (LS a b) (LS c d)=(decide (a=c) && decide (b=d)):=by
  simp only[LS,Bv,xU,BO,decide_true,Bool.true_and,Bool.and_true];rw[Bool.eq_iff_iff];simp
 rwa [e] at h
def J208 (u:Un)(l:List Ru)(inst pc:Int)(TA:Bool)(n:Nat)(s:St):Prop:=∃ (f k:Nat),n=k∧k<f∧k<l.length∧TA=pK u (ak u) l inst pc f k∧
 s=⟨[(3,I k),(2,df l),(9,.aq 2 0),(6,.aq 1 0),(5,.aq 0 0)],(2,⟨85,0,[I inst,I pc]⟩)::eY u,3⟩
set_option maxRecDepth 100000 in
set_option maxHeartbeats 4000000 in
theorem GS {u:Un}(hu:im u)(l:List Ru)(_hl:l.length≤1000)(hR:∀ k r,l[k]? = some r→dm u (ak u) l k r=true)(hB:∀ r∈l,r.items.length≤1000)(inst pc:Int)(OL:i64 inst)(Pe:i64 pc)(f0 k0:Nat)(hkf0:k0<f0)(hkl0:k0<l.length):ae Tryz.prog 31 [cK u,eP (ak u),df l,I k0,.agg [I inst,I pc]] (.bool (pK u (ak u) l inst pc f0 k0)):=by
 have Oj:=aP u;have Ox:=bL (ak u);have Rj:=cQ l;refine ae.aH af Tryz.func31 rfl N4 (by simp[Tryz.ntmps31]) rfl fun C hC N8=>?_;rw[Tryz.ntmps31] at hC;simp only[bX,cD,ints] at Oj Ox;simp only[cK,eP,bX,cD,ints,df];apply ai;simp[hC];apply eG;refine T.aI (J208 u l inst pc (pK u (ak u) l inst pc f0 k0)) (n:=k0) ?_ ?_
 ·refine aa.trim [3,2,9,6,5] [2,1,0] 3 Xp yA ⟨f0,k0,rfl,hkf0,hkl0,rfl,?_⟩;simp[eY,bX,cD,ints,df]
 ·rintro n s ⟨f,k,rfl,hkf,Ot,hD,rfl⟩;rw[hD];clear hD;simp only[eY,bX,cD,ints,df];obtain⟨f,rfl⟩:∃ f',f=f' + 1:=⟨f-1,by omega⟩;obtain⟨r,hr⟩:∃ r,l[n]? = some r:=⟨_,List.getElem?_eq_getElem Ot⟩;have Tn:=hB r (List.mem_of_getElem? hr);obtain⟨ii,y,O4,hy,Yl,QQ⟩:=od (hR n r hr);have ON:=tV _ _ QQ;have Sw:=kH hu hy;have Sv:=(List.getElem?_eq_some_iff.1 hy).1;have hyb:=(ju hu).1;have Zi:i64 (ii:Int):=by unfold i64;omega
  have Qz:=aD (f:=cC) (n:=2) dM hy;have N7:=aD (f:=cj) (n:=3) cI hr;have Pj:=a8 (f:=cj) (n:=3) cI hr 1 yA;have Pc:=a8 (f:=cj) (n:=3) cI hr 2 yA;by_cases h0:r.items.length=0
  ·have R5:=List.eq_nil_of_length_eq_zero h0;have RA:=AL (u:=u) (c:=ak u) (inst:=inst) (pc:=pc) (f:=f) hr R5;apply aL;simp[hC,Ot,Pc,cj,di,h0];refine T.cond (b:=false) (by first | rfl | simp[ev,assoc,h0]) ?_;simp;apply T.exit;simp;apply T.seq
   cases ho:r.ct with
   | false=>
    refine T.rx af follows [0,1,2,3,4,5,6,7,8,9,10,11,12,13,14,15] [] N4 ?_;simp[hC,Ot,Pj,cj,ho];apply T.ret;apply aa.here;simp[Tryz.results31,RA,vn,ho]
   | true=>
    refine T.rx af follows [0,1,2,3,4,5,6,7,8,9,10,11,12,13,14,15] [] N4 ?_;simp[hC,Ot,N7,cj,ho,O4];refine RX.quiet (.bool (decide (inst=ii) && decide (pc=0))) rfl N3 rfl (KC OL Pe Zi (by unfold i64;omega) rfl rfl rfl) ?_;simp;apply T.ret;apply aa.here;simp[Tryz.results31,RA,vn,ho,O4,Hz];rw[Bool.eq_iff_iff];simp;omega
  ·obtain⟨it,Oq⟩:∃ it,r.items[r.items.length-1]? = some it:=⟨_,List.getElem?_eq_getElem yA⟩;have S0:r.items.getLast? = some it:=by rw[List.getLast?_eq_getElem?,Oq]
   obtain⟨z,VH,R0,hz,O5⟩:=ON it (List.mem_of_getElem? Oq);have Sl:=aD (f:=eX) (n:=2) dq Oq;have TE:=eK hu y;obtain⟨n1,PF⟩:∃ n1,r.items.length=n1+1:=⟨r.items.length-1,by omega⟩;have U6:IntKind.i64.wrap (n1:Int)=n1:=cf _ yA yA;rw[PF,Nat.add_sub_cancel] at Sl;have SF:n1<r.items.length:=by omega
   have Pv:(n1:Int)<n1+1:=by omega
   obtain⟨p,rl⟩:=it;obtain⟨pn,rfl⟩:∃ pn:Nat,p=pn:=⟨p.toNat,by simp only at R0;omega⟩;simp only[Int.toNat_natCast] at hz VH O5;have Ra:=(List.getElem?_eq_some_iff.1 hz).1;have Q9:(0:Int)<(n1:Int)+1:=by omega
   apply aL;simp[hC,Ot,Pc,cj,di,PF];refine T.cond (b:=true) (by first | rfl | (simp[ev,assoc];omega)) (T.skip ?_);simp;apply T.block;apply T.seq;refine T.rx af follows [0,1,2,3,4,5,6,7,8,9,10,11,12,13,14,15] [(4,14),(9,14),(13,14)] N4 ?_;simp[hC,Ot,Pc,cj,di,PF,U6,Pv,Sl,eX];refine T.le (Le.trim [11,3,2,9,6,5] [17,2,1,0] 19 Xp yA) ?_;simp;refine T.cut (fun s=>¬ (0≤rl∧(l[rl.toNat]?).any (·.ct)=true)∧s=⟨[(11,.aq 17 0),(3,I n),(2,.az (l.flatMap cj) l.length),(9,.aq 2 0),(6,.aq 1 0),(5,.aq 0 0)],[(17,⟨77,0,[I pn,I rl]⟩),(2,⟨85,0,[I inst,I pc]⟩),(1,⟨34,0,[.az ((ak u).is.flatMap cC) (ak u).is.length,.az ((ak u).calls.map ints) (ak u).calls.length,aB (ak u).roots]⟩),(0,⟨30,0,[.az (u.gs.map fun n=>I n) u.gs.length,.az (u.ms.flatMap eM) u.ms.length,.az (u.ps.flatMap jS) u.ps.length,I u.main]⟩)],19⟩) ?_ ?_
   ·rcases O5 with rfl | O5
    ·apply ai;simp[hC];refine dv ?_;simp;refine aa.trim [11,3,2,9,6,5] [17,2,1,0] 19 Xp yA ?_;simp
    ·obtain⟨rn,rfl⟩:∃ rn:Nat,rl=rn:=⟨rl.toNat,by omega⟩;obtain⟨q,hq⟩:∃ q,l[rn]? = some q:=⟨_,List.getElem?_eq_getElem yA⟩;have Qi:=(List.getElem?_eq_some_iff.1 hq).1;have Rh:=a8 (f:=cj) (n:=3) cI hq 1 yA;have Rt:(0:Int)≤rn:=by omega
     cases ho:q.ct with
     | true=>
      apply ai;simp[hC,Qi,Rh,cj,ho];refine cB ?_;simp;apply ai;simp[hC];apply T.exit;simp;refine⟨rn,by omega,aa.trim [3,2,9,6,5] [2,1,0] 3 Xp yA ⟨f,rn,rfl,by omega,Qi,DM hr S0 rfl hq ho,?_⟩⟩;simp[eY,bX,cD,ints,df]
     | false=>
      apply ai;simp[hC,Qi,Rh,cj,ho];refine dv ?_;simp;refine aa.trim [11,3,2,9,6,5] [17,2,1,0] 19 Xp yA ?_;simp[(List.getElem?_eq_some_iff.1 hq).2,ho]
   rintro s ⟨OY,rfl⟩;have OV:=z4 hu Sw hz yA;have ti:=bD y;have Ss:trees [cK u,.agg (cC y),I (pn:Int)]=true:=by simp only[trees,tree,cK,aP,ti,Bool.and_self]
   have So:=ma (dJ z pn) pc (by have:=tO z pn;omega);have UM:trees [aB (dJ z pn),I pc]=true:=by simp only[trees,aE,Bool.true_and];rfl
   have RA:=DL (u:=u) (c:=ak u) (inst:=inst) (pc:=pc) (f:=f) hr S0 OY (by rw[Yl];exact VH);simp only[Int.toNat_natCast] at RA;simp only[cK,bX,cC,ints] at OV Ss;apply ai;simp[hC,Ot,N7,cj,O4];apply T.seq
   cases ho:r.ct with
   | false=>
    refine T.rx af follows [0,1,2,3,4,5,6,7,8,9,10,11,12,13,14,15,16,17,18,19,20,21,23,24,22,25,26,27] [(24,22)] N4 ?_;simp[hC,Ot,Pj,cj,ho];apply T.ret;apply aa.here;simp[Tryz.results31,RA,vn,ho]
   | true=>
    refine T.rx af follows [0,1,2,3,4,5,6,7,8,9,10,11,12,13,14,15,16,17,18,19,20,21,23,24,22,25,26,27] [(24,22)] N4 ?_;simp[hC,Ot,Pj,cj,ho];refine RX.quiet (.bool (decide (inst=ii) && decide (pc=pc))) rfl N3 rfl (KC OL Pe Zi Pe rfl rfl rfl) ?_;by_cases Oe:inst=ii
    ·subst Oe;simp[Sv,Qz,cC];refine RX.call rfl N3 rfl rfl rfl Ss OV ?_;simp;refine RX.call rfl N3 rfl rfl rfl UM So ?_;simp;apply T.ret;apply aa.here;simp[Tryz.results31,RA,vn,ho,O4]
    ·have hie2:¬ (ii:Int)=inst:=fun h=>Oe h.symm;simp[Oe];apply T.ret;apply aa.here;simp[Tryz.results31,RA,vn,ho,O4,hie2]
def nj (x:Ce):Int:=match x.rules.getLast? with
 | some r=>r.inst
 | none=>-1
theorem uL (x:Ce)(hl:x.rules.length≤1000):ae Tryz.prog 14 [pX x] (I (nj x)):=by
 have Rj:=cQ x.rules;refine ae.aH af Tryz.func14 rfl N4 (by simp[Tryz.ntmps14]) rfl fun C hC N8=>?_;rw[Tryz.ntmps14] at hC;simp only[pX,qL,df];apply ai;simp[hC];by_cases h0:x.rules.length=0
 ·have R5:=List.eq_nil_of_length_eq_zero h0;apply aL;simp[hC,h0];refine T.cond (b:=true) (by first | rfl | simp[ev,assoc,h0]) ?_;simp;apply ai;simp[hC];apply T.ret;apply aa.here;simp[Tryz.results14,nj,R5]
 ·obtain⟨n1,PF⟩:∃ n1,x.rules.length=n1+1:=⟨x.rules.length-1,by omega⟩;obtain⟨r,hr⟩:∃ r,x.rules[n1]? = some r:=⟨_,List.getElem?_eq_getElem yA⟩;have S0:x.rules.getLast? = some r:=by rw[List.getLast?_eq_getElem?,PF,Nat.add_sub_cancel,hr]
  have N7:=aD (f:=cj) (n:=3) cI hr;have SF:n1<x.rules.length:=by omega
  have Pv:(n1:Int)<n1+1:=by omega
  have R6:((n1:Int)+1 == 0)=false:=by rw[beq_eq_false_iff_ne];omega
  have U6:IntKind.i64.wrap (n1:Int)=n1:=cf _ yA yA;apply aL;simp[hC,PF,R6];refine T.cond (b:=false) (by first | rfl | simp[ev,assoc,R6]) (T.skip ?_);simp;apply ai;simp[hC,Pv,N7,cj,U6];apply T.ret;apply aa.here;simp[Tryz.results14,nj,S0]
def MX (x:Ce):Prop:=i64 x.inst∧i64 x.pc
set_option maxRecDepth 100000 in
set_option maxHeartbeats 4000000 in
theorem om {u:Un}(hu:im u)(x:Ce)(hb:MY x)(hx:MX x):ae Tryz.prog 10 [cK u,eP (ak u),pX x] (.dI [I (qk u x).1,I (qk u x).2]):=by
 have Oj:=aP u;have Ox:=bL (ak u);have Rj:=cQ x.rules;have TM:=z6 hu x hb;have VB:trees [cK u,eP (ak u),pX x]=true:=by simp only[trees,tree,cK,eP,pX,aP,bL,jD,Bool.and_self]
 have O5:=yZ hu;have VP:=uL x hb.1;have UL:trees [pX x]=true:=by simp only[trees,tree,pX,jD,Bool.and_self]
 have Vf:=ma (ak u).roots (nj x) yA;have trt:trees [aB (ak u).roots,I (nj x)]=true:=by simp only[trees,aE,Bool.true_and];rfl
 obtain⟨Pq,O2⟩:=hb;obtain⟨UN,PU⟩:=hx;refine ae.aH af Tryz.func10 rfl N4 (by simp[Tryz.ntmps10]) rfl fun C hC N8=>?_;rw[Tryz.ntmps10] at hC;simp only[bX,cD,ints] at Oj Ox;simp only[cK,eP,bX,cD,ints,pX,qL,df] at TM VB VP UL ⊢;apply ai;simp[hC];apply ai;simp[hC];refine dc VB TM ?_;simp[hC];apply aL;simp[hC];by_cases he:(er u x).2.2=0
 case neg=>
  have UW:((er u x).2.2 != 0)=true:=by simpa using he
  have hv:qk u x=(er u x).2:=by rw[qk,if_pos he]
  refine T.cond (b:=true) (by simp[ev,assoc,UW]) ?_;simp;apply ai;simp[hC];apply T.ret;apply aa.here;simp[Tryz.results10,hv]
 have UW:((er u x).2.2 != 0)=false:=by simpa using he
 obtain⟨⟨m,xm,hm,VI,hEq,hcq⟩,hn,Ou,hR⟩:=AO he;refine T.cond (b:=false) (by simp[ev,assoc,UW]) (T.skip ?_);simp;have Qx:=(List.getElem?_eq_some_iff.1 VI).1;have Uy:=aD (f:=eM) (n:=3) uW VI;have Pw:=Jr xm;have Ya:trees [.agg (eM xm)]=true:=rfl;have OH:zG u x=(!qC ((er u x).1.getD (x.rules.length-1) za) 0 (aG xm) || decide (((er u x).1.getD (x.rules.length-1) za).fo≠x.depth)):=by rw[zG,hcq]
 rw[hn];obtain⟨es,Zq⟩:∃ es,(er u x).1=es:=⟨_,rfl⟩;rw[Zq] at Ou OH ⊢;refine T.seq (T.seq ?_);refine T.rx af follows [0,1,2,3,4,5] [(1,3)]  N4 ?_;simp[hC];refine RX.call rfl N3 rfl rfl rfl UL VP ?_;simp;refine RX.call rfl N3 rfl rfl rfl trt Vf ?_;by_cases h0:x.rules.length=0
 ·have R5:=List.eq_nil_of_length_eq_zero h0;have hv:qk u x=(0,10):=by rw[qk,if_neg (by simp[he]),R5];rfl
  have Oo:qZ (ak u).roots (nj x)=false:=by
   rw[Hy,nj,R5];rfl
  simp[Oo];refine cB ?_;simp;apply ai;simp[hC,h0];apply T.ret;apply aa.here;simp[Tryz.results10,hv]
 obtain⟨n1,PF⟩:∃ n1,x.rules.length=n1+1:=⟨x.rules.length-1,by omega⟩;obtain⟨r,hr⟩:∃ r,x.rules[n1]? = some r:=⟨_,List.getElem?_eq_getElem yA⟩;have S0:x.rules.getLast? = some r:=by rw[List.getLast?_eq_getElem?,PF,Nat.add_sub_cancel,hr]
 have XC:nj x=r.inst:=by rw[nj,S0]
 have hv:qk u x=if qZ (ak u).roots r.inst=false then (x.rules.length,10) else if zb u x r=true then (x.rules.length,10) else if zG u x=true then (x.rules.length,12) else (x.rules.length,0):=by rw[qk,if_neg (by simp[he]),S0]
 obtain⟨e,Ts⟩:∃ e,es[n1]? = some e:=⟨_,List.getElem?_eq_getElem yA⟩;have Qy:es.getD (x.rules.length-1) za=e:=by rw[PF,Nat.add_sub_cancel,List.getD_eq_getElem?_getD,Ts];rfl
 rw[Qy] at OH;have N7:=aD (f:=cj) (n:=3) cI hr;have hde:=aD (f:=eE) (n:=3) gX Ts;have W3:=a8 (f:=eE) (n:=3) gX Ts 2 yA;have SF:n1<x.rules.length:=by omega
 have Pv:(n1:Int)<n1+1:=by omega
 have U6:IntKind.i64.wrap (n1:Int)=n1:=cf _ yA yA
 cases VV:qZ (ak u).roots r.inst with
 | false=>
  rw[if_pos VV] at hv;rw[XC];simp[VV];refine cB ?_;simp;apply ai;simp[hC,PF];apply T.ret;apply aa.here;simp[Tryz.results10,hv,PF]
 | true=>
  rw[if_neg (by simp[VV])] at hv;rw[XC];simp[VV];refine dv ?_;simp;apply ai;simp[hC,PF,Pv,N7,cj,di,U6];refine T.cut (fun s=>zb u x r=false∧s=⟨[(9,I (n1+1)),(8,lS es),(5,.aq 2 0),(4,.aq 1 0),(3,.aq 0 0)],[(2,⟨39,0,[I x.lock,I x.inst,I x.pc,I x.depth,.az (x.rules.flatMap cj) (n1+1)]⟩),(1,⟨34,0,[.az ((ak u).is.flatMap cC) (ak u).is.length,.az ((ak u).calls.map ints) (ak u).calls.length,aB (ak u).roots]⟩),(0,⟨30,0,[.az (u.gs.map fun n=>I n) u.gs.length,.az (u.ms.flatMap eM) u.ms.length,.az (u.ps.flatMap jS) u.ps.length,I u.main]⟩)],3⟩) ?_ ?_
  ·by_cases ji:x.pc=-1
   ·have TP:zb u x r=(r.ct || decide (r.inst≠x.inst)):=by rw[zb,if_pos ji]
    have h1:(x.pc == -1)=true:=by simpa using ji
    apply ai;simp[hC,h1];refine T.cond (b:=true) (by first | rfl | simp[ev,assoc,h1]) ?_;simp
    cases ho:r.ct with
    | true=>
     rw[if_pos (by rw[TP,ho];rfl)] at hv;apply ai;simp[hC];refine cB ?_;simp;apply ai;simp[hC];apply T.ret;apply aa.here;simp[Tryz.results10,hv,PF]
    | false=>
     by_cases O4:r.inst=x.inst
     ·have h3:(r.inst != x.inst)=false:=by simpa using O4
      apply ai;simp[hC,h3];refine T.cond (b:=false) (by first | rfl | simp[ev,assoc,h3]) (T.skip ?_);simp;refine aa.trim [9,8,5,4,3] [2,1,0] 3 yCz yA ?_;simp[TP,ho,O4]
     ·have h3:(r.inst != x.inst)=true:=by simpa using O4
      rw[if_pos (by rw[TP,ho];simp[O4])] at hv;apply ai;simp[hC,h3];refine T.cond (b:=true) (by first | rfl | simp[ev,assoc,h3]) ?_;simp;apply ai;simp[hC];apply T.ret;apply aa.here;simp[Tryz.results10,hv,PF]
   ·have TP:zb u x r=!pK u (ak u) x.rules x.inst x.pc (n1+1) n1:=by rw[zb,if_neg ji,PF,Nat.add_sub_cancel]
    have h1:(x.pc == -1)=false:=by simpa using ji
    have Zr:=GS hu x.rules Pq hR O2 x.inst x.pc UN PU (n1+1) n1 yA SF;have ten:trees [cK u,eP (ak u),df x.rules,I (n1:Int),.agg [I x.inst,I x.pc]]=true:=by simp only[trees,tree,cK,eP,aP,bL,nR,Bool.and_self]
    simp only[cK,eP,bX,cD,ints,df,PF] at Zr ten;apply ai;simp[hC,h1];refine T.cond (b:=false) (by first | rfl | simp[ev,assoc,h1]) ?_;simp;apply ai;simp[hC,U6];refine dc ten Zr ?_
    cases hE:pK u (ak u) x.rules x.inst x.pc (n1+1) n1 with
    | true=>
     simp[hC];refine dv ?_;simp;refine aa.trim [9,8,5,4,3] [2,1,0] 3 yCz yA ?_;simp[TP,hE]
    | false=>
     rw[if_pos (by rw[TP,hE];rfl)] at hv;simp[hC];refine cB ?_;simp;apply ai;simp[hC];apply T.ret;apply aa.here;simp[Tryz.results10,hv,PF]
  rintro s ⟨TP,rfl⟩;rw[if_neg (by simp[TP])] at hv;have Zo:=GR e (aG xm) (jy xm);have tfi:trees [.agg (eE e),I 0,I (aG xm:Int)]=true:=rfl;have Ux:es.length=n1+1:=by omega
  simp only[eM] at Pw Ya;simp only[eE] at Zo tfi;refine T.seq (T.seq ?_);refine T.rx af follows [0,1,2,3,4,5,6,7,8,9,10,11,12,13,14,15,16,17,18,19,20,21,22,23,24] [(4,11)] N4 ?_;simp[hC,U6,lS,Ux,Pv,hde,eE,hm,Qx,Uy,eM];refine RX.call rfl N3 rfl rfl rfl Ya Pw ?_;simp;refine RX.call rfl N3 rfl rfl rfl tfi Zo ?_
  cases hft:qC e 0 (aG xm) with
  | false=>
   rw[if_pos (by rw[OH,hft];rfl)] at hv;simp;refine cB ?_;simp;apply ai;simp[hC];apply T.ret;apply aa.here;simp[Tryz.results10,hv,PF]
  | true=>
   by_cases QE:e.fo=x.depth
   ·have h3:(e.fo != x.depth)=false:=by simpa using QE
    rw[if_neg (by rw[OH,hft];simp[QE])] at hv;simp[U6,Pv,W3,eE,h3];refine dv ?_;simp;apply ai;simp[hC];apply T.ret;apply aa.here;simp[Tryz.results10,hv,PF]
   ·have h3:(e.fo != x.depth)=true:=by simpa using QE
    rw[if_pos (by rw[OH,hft];simp[QE])] at hv;simp[U6,Pv,W3,eE,h3];refine cB ?_;simp;apply ai;simp[hC];apply T.ret;apply aa.here;simp[Tryz.results10,hv,PF]
end Go.Proofs.YtlkmbdfhdknlgaaGreatDoor
