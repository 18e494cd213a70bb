/- The program's ends, Root, Check. -/
import Derived.Test.YtlkmbdfhdknlgaaGreatDoorZ42
namespace Go.Can
open Go.RowKit
theorem XV.eql {P:Program}{s:St}{W:List oR}{t:TypeId}{kb:Value→Bool}(hT:EqT P t kb){o:Oper}{x y:Operand}{q:TypeId}{cx cy:CV}{vx vy:Value}(ho:o.op=.binOp .eql t x y q)(hx:ev s x=some cx)(hy:ev s y=some cy)(h4:kS cx=some vx)(h5:kS cy=some vy)(k1:kb vx=true)(k2:kb vy=true):XV P W o s (.bool (yc vx vy)):=fun C σ s1 a w he _ hr=>by
 obtain⟨e1,_⟩:=iZ h4 (bD hr ((he x (by simp[ho,Op.operands])).trans hx));obtain⟨e2,_⟩:=iZ h5 (bD hr ((he y (by simp[ho,Op.operands])).trans hy));obtain⟨xs,rfl⟩:=hT.agg vx k1;obtain⟨ys,rfl⟩:=hT.agg vy k2;refine⟨_,?_,cT _⟩;simp only[execOp,ho,e1,e2,Sem.run_bind,run_eqGuard_agg w _ t x y xs ys hT.guard,Result.andThen_ok,run_eql_struct,hT.eq w _ _ k1 k2,Sem.run_pure]
end Go.Can
namespace Go.Proofs.YtlkmbdfhdknlgaaGreatDoor
open Go.Can Go.aT
theorem HF:xG Tryz.prog 3 2 85=true:=by kernel_rfl
theorem ptEq:EqT Tryz.prog 85 (wA 2):=DU yA HF lz
def HG (a b:Int):Value:=.agg #[.int .i64 a,.int .i64 b]
def i64 (n:Int):Prop:=-9223372036854775808≤n∧n≤9223372036854775807
theorem Gu {a b:Int}(ha:i64 a)(hb:i64 b):wA 2 (HG a b)=true:=by
 unfold i64 at ha hb;simp[wA,HG,wI,Go.Can.oP];omega
theorem Gv {a b c d:Int}(ha:i64 a)(hb:i64 b)(hc:i64 c)(hd:i64 d){W:List oR}{s:St}{o:Oper}{x y:Operand}{q:TypeId}(ho:o.op=.binOp .eql 85 x y q)(hx:ev s x=some (.agg [I a,I b]))(hy:ev s y=some (.agg [I c,I d])):XV Tryz.prog W o s (.bool (decide (a=c) && decide (b=d))):=by
 have h:=XV.eql (W:=W) ptEq ho hx hy (vx:=HG a b) (vy:=HG c d) rfl rfl (Gu ha hb) (Gu hc hd);have e:yc (HG a b) (HG c d)=(decide (a=c) && decide (b=d)):=by
  simp only[HG,yc,uv,yr,decide_true,Bool.true_and,Bool.and_true];rw[Bool.eq_iff_iff];simp
 rwa [e] at h
def J208 (u:Un)(l:List Ru)(inst pc:Int)(OO:Bool)(n:Nat)(s:St):Prop:=∃ (f k:Nat),n=k∧k<f∧k<l.length∧OO=kD u (av u) l inst pc f k∧
 s=⟨[(3,I k),(2,ct l),(9,.ai 2 0),(6,.ai 1 0),(5,.ai 0 0)],(2,⟨85,0,[I inst,I pc]⟩)::mw u,3⟩
set_option maxRecDepth 100000 in
set_option maxHeartbeats 4000000 in
theorem CT {u:Un}(hu:jP u)(l:List Ru)(_hl:l.length≤1000)(hR:∀ k r,l[k]? = some r→cO u (av u) l k r=true)(hB:∀ r∈l,r.items.length≤1000)(inst pc:Int)(Kp:i64 inst)(KK:i64 pc)(f0 k0:Nat)(Wi:k0<f0)(Wh:k0<l.length):ae Tryz.prog 31 [dt u,ja (av u),ct l,I k0,.agg [I inst,I pc]] (.bool (kD u (av u) l inst pc f0 k0)):=by
 have Kd:=bB u;have KN:=cM (av u);have KE:=du l;refine ae.aD af Tryz.func31 rfl lz (by simp[Tryz.ntmps31]) rfl fun C hC xJ=>?_;rw[Tryz.ntmps31] at hC;simp only[dj,fe,ints] at Kd KN;simp only[dt,ja,dj,fe,ints,ct];apply ah;simp[hC];apply fw;refine T.aI (J208 u l inst pc (kD u (av u) l inst pc f0 k0)) (n:=k0) ?_ ?_
 ·refine aa.trim [3,2,9,6,5] [2,1,0] 3 Qw yA ⟨f0,k0,rfl,Wi,Wh,rfl,?_⟩;simp[mw,dj,fe,ints,ct]
 ·rintro n s ⟨f,k,rfl,ZJ,Ke,hD,rfl⟩;rw[hD];clear hD;simp only[mw,dj,fe,ints,ct];obtain⟨f,rfl⟩:∃ f',f=f' + 1:=⟨f-1,by omega⟩;obtain⟨r,hr⟩:∃ r,l[n]? = some r:=⟨_,List.getElem?_eq_getElem Ke⟩;have R5:=hB r (List.mem_of_getElem? hr);obtain⟨ii,y,KC,hy,QU,LO⟩:=lY (hR n r hr);have Kq:=od _ _ LO;have Nm:=rS hu hy;have NY:=(List.getElem?_eq_some_iff.1 hy).1;have hyb:=(vn hu).1;have Tz:i64 (ii:Int):=by unfold i64;omega
  have MF:=az (f:=cP) (n:=2) dV hy;have oy:=az (f:=cZ) (n:=3) cj hr;have KU:=bb (f:=cZ) (n:=3) cj hr 1 yA;have KY:=bb (f:=cZ) (n:=3) cj hr 2 yA;by_cases h0:r.items.length=0
  ·have L4:=List.eq_nil_of_length_eq_zero h0;have ME:=xA (u:=u) (c:=av u) (inst:=inst) (pc:=pc) (f:=f) hr L4;apply aL;simp[hC,Ke,KY,cZ,eU,h0];refine T.cond (b:=false) (by first | rfl | simp[ev,assoc,h0]) ?_;simp;apply T.exit;simp;apply T.seq
   cases ho:r.dU with
   | false=>
    refine T.rx af follows [0,1,2,3,4,5,6,7,8,9,10,11,12,13,14,15] [] lz ?_;simp[hC,Ke,KU,cZ,ho];apply T.ret;apply aa.here;simp[Tryz.results31,ME,pw,ho]
   | true=>
    refine T.rx af follows [0,1,2,3,4,5,6,7,8,9,10,11,12,13,14,15] [] lz ?_;simp[hC,Ke,oy,cZ,ho,KC];refine RX.quiet (.bool (decide (inst=ii) && decide (pc=0))) rfl j5 rfl (Gv Kp KK Tz (by unfold i64;omega) rfl rfl rfl) ?_;simp;apply T.ret;apply aa.here;simp[Tryz.results31,ME,pw,ho,KC,GJ];rw[Bool.eq_iff_iff];simp;omega
  ·obtain⟨it,Fl⟩:∃ it,r.items[r.items.length-1]? = some it:=⟨_,List.getElem?_eq_getElem yA⟩;have OV:r.items.getLast? = some it:=by rw[List.getLast?_eq_getElem?,Fl]
   obtain⟨z,Pa,Nw,hz,Lc⟩:=Kq it (List.mem_of_getElem? Fl);have ND:=az (f:=kY) (n:=2) iq Fl;have OC:=gX hu y;obtain⟨n1,KG⟩:∃ n1,r.items.length=n1+1:=⟨r.items.length-1,by omega⟩;have Na:IntKind.i64.wrap (n1:Int)=n1:=cm _ yA yA;rw[KG,Nat.add_sub_cancel] at ND;have MC:n1<r.items.length:=by omega
   have Ky:(n1:Int)<n1+1:=by omega
   obtain⟨p,rl⟩:=it;obtain⟨pn,rfl⟩:∃ pn:Nat,p=pn:=⟨p.toNat,by simp only at Nw;omega⟩;simp only[Int.toNat_natCast] at hz Pa Lc;have Qh:=(List.getElem?_eq_some_iff.1 hz).1;have Nv:(0:Int)<(n1:Int)+1:=by omega
   apply aL;simp[hC,Ke,KY,cZ,eU,KG];refine T.cond (b:=true) (by first | rfl | (simp[ev,assoc];omega)) (T.skip ?_);simp;apply T.block;apply T.seq;refine T.rx af follows [0,1,2,3,4,5,6,7,8,9,10,11,12,13,14,15] [(4,14),(9,14),(13,14)] lz ?_;simp[hC,Ke,KY,cZ,eU,KG,Na,Ky,ND,kY];refine T.le (Le.trim [11,3,2,9,6,5] [17,2,1,0] 19 Qw yA) ?_;simp;refine T.cut (fun s=>¬ (0≤rl∧(l[rl.toNat]?).any (·.dU)=true)∧s=⟨[(11,.ai 17 0),(3,I n),(2,.au (l.flatMap cZ) l.length),(9,.ai 2 0),(6,.ai 1 0),(5,.ai 0 0)],[(17,⟨77,0,[I pn,I rl]⟩),(2,⟨85,0,[I inst,I pc]⟩),(1,⟨34,0,[.au ((av u).is.flatMap cP) (av u).is.length,.au ((av u).calls.map ints) (av u).calls.length,aN (av u).roots]⟩),(0,⟨30,0,[.au (u.gs.map fun n=>I n) u.gs.length,.au (u.ms.flatMap eQ) u.ms.length,.au (u.ps.flatMap kR) u.ps.length,I u.main]⟩)],19⟩) ?_ ?_
   ·rcases Lc with rfl | Lc
    ·apply ah;simp[hC];refine dg ?_;simp;refine aa.trim [11,3,2,9,6,5] [17,2,1,0] 19 Qw yA ?_;simp
    ·obtain⟨rn,rfl⟩:∃ rn:Nat,rl=rn:=⟨rl.toNat,by omega⟩;obtain⟨q,hq⟩:∃ q,l[rn]? = some q:=⟨_,List.getElem?_eq_getElem yA⟩;have LK:=(List.getElem?_eq_some_iff.1 hq).1;have LP:=bb (f:=cZ) (n:=3) cj hq 1 yA;have MK:(0:Int)≤rn:=by omega
     cases ho:q.dU with
     | true=>
      apply ah;simp[hC,LK,LP,cZ,ho];refine cz ?_;simp;apply ah;simp[hC];apply T.exit;simp;refine⟨rn,by omega,aa.trim [3,2,9,6,5] [2,1,0] 3 Qw yA ⟨f,rn,rfl,by omega,LK,Ab hr OV rfl hq ho,?_⟩⟩;simp[mw,dj,fe,ints,ct]
     | false=>
      apply ah;simp[hC,LK,LP,cZ,ho];refine dg ?_;simp;refine aa.trim [11,3,2,9,6,5] [17,2,1,0] 19 Qw yA ?_;simp[(List.getElem?_eq_some_iff.1 hq).2,ho]
   rintro s ⟨KD,rfl⟩;have KB:=wF hu Nm hz yA;have ti:=bL y;have Nl:trees [dt u,.agg (cP y),I (pn:Int)]=true:=by simp only[trees,tree,dt,bB,ti,Bool.and_self]
   have NT:=ku (qp z pn) pc (by have:=qo z pn;omega);have PT:trees [aN (qp z pn),I pc]=true:=by simp only[trees,aP,Bool.true_and];rfl
   have ME:=Aa (u:=u) (c:=av u) (inst:=inst) (pc:=pc) (f:=f) hr OV KD (by rw[QU];exact Pa);simp only[Int.toNat_natCast] at ME;simp only[dt,dj,cP,ints] at KB Nl;apply ah;simp[hC,Ke,oy,cZ,KC];apply T.seq
   cases ho:r.dU with
   | false=>
    refine T.rx af follows [0,1,2,3,4,5,6,7,8,9,10,11,12,13,14,15,16,17,18,19,20,21,23,24,22,25,26,27] [(24,22)] lz ?_;simp[hC,Ke,KU,cZ,ho];apply T.ret;apply aa.here;simp[Tryz.results31,ME,pw,ho]
   | true=>
    refine T.rx af follows [0,1,2,3,4,5,6,7,8,9,10,11,12,13,14,15,16,17,18,19,20,21,23,24,22,25,26,27] [(24,22)] lz ?_;simp[hC,Ke,KU,cZ,ho];refine RX.quiet (.bool (decide (inst=ii) && decide (pc=pc))) rfl j5 rfl (Gv Kp KK Tz KK rfl rfl rfl) ?_;by_cases CW:inst=ii
    ·subst CW;simp[NY,MF,cP];refine RX.call rfl j5 rfl rfl rfl Nl KB ?_;simp;refine RX.call rfl j5 rfl rfl rfl PT NT ?_;simp;apply T.ret;apply aa.here;simp[Tryz.results31,ME,pw,ho,KC]
    ·have Wv:¬ (ii:Int)=inst:=fun h=>CW h.symm;simp[CW];apply T.ret;apply aa.here;simp[Tryz.results31,ME,pw,ho,KC,Wv]
def ji (x:Ce):Int:=match x.rules.getLast? with
 | some r=>r.inst
 | none=>-1
theorem nY (x:Ce)(hl:x.rules.length≤1000):ae Tryz.prog 14 [oD x] (I (ji x)):=by
 have KE:=du x.rules;refine ae.aD af Tryz.func14 rfl lz (by simp[Tryz.ntmps14]) rfl fun C hC xJ=>?_;rw[Tryz.ntmps14] at hC;simp only[oD,qz,ct];apply ah;simp[hC];by_cases h0:x.rules.length=0
 ·have L4:=List.eq_nil_of_length_eq_zero h0;apply aL;simp[hC,h0];refine T.cond (b:=true) (by first | rfl | simp[ev,assoc,h0]) ?_;simp;apply ah;simp[hC];apply T.ret;apply aa.here;simp[Tryz.results14,ji,L4]
 ·obtain⟨n1,KG⟩:∃ n1,x.rules.length=n1+1:=⟨x.rules.length-1,by omega⟩;obtain⟨r,hr⟩:∃ r,x.rules[n1]? = some r:=⟨_,List.getElem?_eq_getElem yA⟩;have OV:x.rules.getLast? = some r:=by rw[List.getLast?_eq_getElem?,KG,Nat.add_sub_cancel,hr]
  have oy:=az (f:=cZ) (n:=3) cj hr;have MC:n1<x.rules.length:=by omega
  have Ky:(n1:Int)<n1+1:=by omega
  have MB:((n1:Int)+1 == 0)=false:=by rw[beq_eq_false_iff_ne];omega
  have Na:IntKind.i64.wrap (n1:Int)=n1:=cm _ yA yA;apply aL;simp[hC,KG,MB];refine T.cond (b:=false) (by first | rfl | simp[ev,assoc,MB]) (T.skip ?_);simp;apply ah;simp[hC,Ky,oy,cZ,Na];apply T.ret;apply aa.here;simp[Tryz.results14,ji,OV]
def IM (x:Ce):Prop:=i64 x.inst∧i64 x.pc
set_option maxRecDepth 100000 in
set_option maxHeartbeats 4000000 in
theorem l7 {u:Un}(hu:jP u)(x:Ce)(hb:IN x)(hx:IM x):ae Tryz.prog 10 [dt u,ja (av u),oD x] (.db [I (jZ u x).1,I (jZ u x).2]):=by
 have Kd:=bB u;have KN:=cM (av u);have KE:=du x.rules;have N9:=wJ hu x hb;have OP:trees [dt u,ja (av u),oD x]=true:=by simp only[trees,tree,dt,ja,oD,bB,cM,iB,Bool.and_self]
 have Lc:=An hu;have X1:=nY x hb.1;have O4:trees [oD x]=true:=by simp only[trees,tree,oD,iB,Bool.and_self]
 have PW:=ku (av u).roots (ji x) yA;have YM:trees [aN (av u).roots,I (ji x)]=true:=by simp only[trees,aP,Bool.true_and];rfl
 obtain⟨K1,K0⟩:=hb;obtain⟨PU,Lq⟩:=hx;refine ae.aD af Tryz.func10 rfl lz (by simp[Tryz.ntmps10]) rfl fun C hC xJ=>?_;rw[Tryz.ntmps10] at hC;simp only[dj,fe,ints] at Kd KN;simp only[dt,ja,dj,fe,ints,oD,qz,ct] at N9 OP X1 O4 ⊢;apply ah;simp[hC];apply ah;simp[hC];refine dk OP N9 ?_;simp[hC];apply aL;simp[hC];by_cases he:(dM u x).2.2=0
 case neg=>
  have PD:((dM u x).2.2 != 0)=true:=by simpa using he
  have hv:jZ u x=(dM u x).2:=by rw[jZ,if_pos he]
  refine T.cond (b:=true) (by simp[ev,assoc,PD]) ?_;simp;apply ah;simp[hC];apply T.ret;apply aa.here;simp[Tryz.results10,hv]
 have PD:((dM u x).2.2 != 0)=false:=by simpa using he
 obtain⟨⟨m,xm,hm,SJ,hEq,WR⟩,hn,Ki,hR⟩:=xB he;refine T.cond (b:=false) (by simp[ev,assoc,PD]) (T.skip ?_);simp;have MV:=(List.getElem?_eq_some_iff.1 SJ).1;have WH:=az (f:=eQ) (n:=3) C9 SJ;have PI:=Fh xm;have O7:trees [.agg (eQ xm)]=true:=rfl;have Km:qJ u x=(!nk ((dM u x).1.getD (x.rules.length-1) sO) 0 (kk xm) || decide (((dM u x).1.getD (x.rules.length-1) sO).gm≠x.depth)):=by rw[qJ,WR]
 rw[hn];obtain⟨es,Rv⟩:∃ es,(dM u x).1=es:=⟨_,rfl⟩;rw[Rv] at Ki Km ⊢;refine T.seq (T.seq ?_);refine T.rx af follows [0,1,2,3,4,5] [(1,3)]  lz ?_;simp[hC];refine RX.call rfl j5 rfl rfl rfl O4 X1 ?_;simp;refine RX.call rfl j5 rfl rfl rfl YM PW ?_;by_cases h0:x.rules.length=0
 ·have L4:=List.eq_nil_of_length_eq_zero h0;have hv:jZ u x=(0,10):=by rw[jZ,if_neg (by simp[he]),L4];rfl
  have Kz:oP (av u).roots (ji x)=false:=by
   rw[GI,ji,L4];rfl
  simp[Kz];refine cz ?_;simp;apply ah;simp[hC,h0];apply T.ret;apply aa.here;simp[Tryz.results10,hv]
 obtain⟨n1,KG⟩:∃ n1,x.rules.length=n1+1:=⟨x.rules.length-1,by omega⟩;obtain⟨r,hr⟩:∃ r,x.rules[n1]? = some r:=⟨_,List.getElem?_eq_getElem yA⟩;have OV:x.rules.getLast? = some r:=by rw[List.getLast?_eq_getElem?,KG,Nat.add_sub_cancel,hr]
 have XY:ji x=r.inst:=by rw[ji,OV]
 have hv:jZ u x=if oP (av u).roots r.inst=false then (x.rules.length,10) else if oF u x r=true then (x.rules.length,10) else if qJ u x=true then (x.rules.length,12) else (x.rules.length,0):=by rw[jZ,if_neg (by simp[he]),OV]
 obtain⟨e,Qm⟩:∃ e,es[n1]? = some e:=⟨_,List.getElem?_eq_getElem yA⟩;have L6:es.getD (x.rules.length-1) sO=e:=by rw[KG,Nat.add_sub_cancel,List.getD_eq_getElem?_getD,Qm];rfl
 rw[L6] at Km;have oy:=az (f:=cZ) (n:=3) cj hr;have UJ:=az (f:=dD) (n:=3) fW Qm;have OJ:=bb (f:=dD) (n:=3) fW Qm 2 yA;have MC:n1<x.rules.length:=by omega
 have Ky:(n1:Int)<n1+1:=by omega
 have Na:IntKind.i64.wrap (n1:Int)=n1:=cm _ yA yA
 cases Py:oP (av u).roots r.inst with
 | false=>
  rw[if_pos Py] at hv;rw[XY];simp[Py];refine cz ?_;simp;apply ah;simp[hC,KG];apply T.ret;apply aa.here;simp[Tryz.results10,hv,KG]
 | true=>
  rw[if_neg (by simp[Py])] at hv;rw[XY];simp[Py];refine dg ?_;simp;apply ah;simp[hC,KG,Ky,oy,cZ,eU,Na];refine T.cut (fun s=>oF u x r=false∧s=⟨[(9,I (n1+1)),(8,jJ es),(5,.ai 2 0),(4,.ai 1 0),(3,.ai 0 0)],[(2,⟨39,0,[I x.lock,I x.inst,I x.pc,I x.depth,.au (x.rules.flatMap cZ) (n1+1)]⟩),(1,⟨34,0,[.au ((av u).is.flatMap cP) (av u).is.length,.au ((av u).calls.map ints) (av u).calls.length,aN (av u).roots]⟩),(0,⟨30,0,[.au (u.gs.map fun n=>I n) u.gs.length,.au (u.ms.flatMap eQ) u.ms.length,.au (u.ps.flatMap kR) u.ps.length,I u.main]⟩)],3⟩) ?_ ?_
  ·by_cases kp:x.pc=-1
   ·have MG:oF u x r=(r.dU || decide (r.inst≠x.inst)):=by rw[oF,if_pos kp]
    have h1:(x.pc == -1)=true:=by simpa using kp
    apply ah;simp[hC,h1];refine T.cond (b:=true) (by first | rfl | simp[ev,assoc,h1]) ?_;simp
    cases ho:r.dU with
    | true=>
     rw[if_pos (by rw[MG,ho];rfl)] at hv;apply ah;simp[hC];refine cz ?_;simp;apply ah;simp[hC];apply T.ret;apply aa.here;simp[Tryz.results10,hv,KG]
    | false=>
     by_cases KC:r.inst=x.inst
     ·have h3:(r.inst != x.inst)=false:=by simpa using KC
      apply ah;simp[hC,h3];refine T.cond (b:=false) (by first | rfl | simp[ev,assoc,h3]) (T.skip ?_);simp;refine aa.trim [9,8,5,4,3] [2,1,0] 3 RT yA ?_;simp[MG,ho,KC]
     ·have h3:(r.inst != x.inst)=true:=by simpa using KC
      rw[if_pos (by rw[MG,ho];simp[KC])] at hv;apply ah;simp[hC,h3];refine T.cond (b:=true) (by first | rfl | simp[ev,assoc,h3]) ?_;simp;apply ah;simp[hC];apply T.ret;apply aa.here;simp[Tryz.results10,hv,KG]
   ·have MG:oF u x r=!kD u (av u) x.rules x.inst x.pc (n1+1) n1:=by rw[oF,if_neg kp,KG,Nat.add_sub_cancel]
    have h1:(x.pc == -1)=false:=by simpa using kp
    have PC:=CT hu x.rules K1 hR K0 x.inst x.pc PU Lq (n1+1) n1 yA MC;have Sz:trees [dt u,ja (av u),ct x.rules,I (n1:Int),.agg [I x.inst,I x.pc]]=true:=by simp only[trees,tree,dt,ja,bB,cM,iC,Bool.and_self]
    simp only[dt,ja,dj,fe,ints,ct,KG] at PC Sz;apply ah;simp[hC,h1];refine T.cond (b:=false) (by first | rfl | simp[ev,assoc,h1]) ?_;simp;apply ah;simp[hC,Na];refine dk Sz PC ?_
    cases hE:kD u (av u) x.rules x.inst x.pc (n1+1) n1 with
    | true=>
     simp[hC];refine dg ?_;simp;refine aa.trim [9,8,5,4,3] [2,1,0] 3 RT yA ?_;simp[MG,hE]
    | false=>
     rw[if_pos (by rw[MG,hE];rfl)] at hv;simp[hC];refine cz ?_;simp;apply ah;simp[hC];apply T.ret;apply aa.here;simp[Tryz.results10,hv,KG]
  rintro s ⟨MG,rfl⟩;rw[if_neg (by simp[MG])] at hv;have QJ:=CS e (kk xm) (At xm);have Sx:trees [.agg (dD e),I 0,I (kk xm:Int)]=true:=rfl;have N8:es.length=n1+1:=by omega
  simp only[eQ] at PI O7;simp only[dD] at QJ Sx;refine T.seq (T.seq ?_);refine T.rx af follows [0,1,2,3,4,5,6,7,8,9,10,11,12,13,14,15,16,17,18,19,20,21,22,23,24] [(4,11)] lz ?_;simp[hC,Na,jJ,N8,Ky,UJ,dD,hm,MV,WH,eQ];refine RX.call rfl j5 rfl rfl rfl O7 PI ?_;simp;refine RX.call rfl j5 rfl rfl rfl Sx QJ ?_
  cases Rp:nk e 0 (kk xm) with
  | false=>
   rw[if_pos (by rw[Km,Rp];rfl)] at hv;simp;refine cz ?_;simp;apply ah;simp[hC];apply T.ret;apply aa.here;simp[Tryz.results10,hv,KG]
  | true=>
   by_cases LC:e.gm=x.depth
   ·have h3:(e.gm != x.depth)=false:=by simpa using LC
    rw[if_neg (by rw[Km,Rp];simp[LC])] at hv;simp[Na,Ky,OJ,dD,h3];refine dg ?_;simp;apply ah;simp[hC];apply T.ret;apply aa.here;simp[Tryz.results10,hv,KG]
   ·have h3:(e.gm != x.depth)=true:=by simpa using LC
    rw[if_pos (by rw[Km,Rp];simp[LC])] at hv;simp[Na,Ky,OJ,dD,h3];refine cz ?_;simp;apply ah;simp[hC];apply T.ret;apply aa.here;simp[Tryz.results10,hv,KG]
end Go.Proofs.YtlkmbdfhdknlgaaGreatDoor
