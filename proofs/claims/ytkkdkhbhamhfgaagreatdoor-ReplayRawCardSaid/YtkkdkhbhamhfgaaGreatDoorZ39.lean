/- right of the reference: whether a rule is right. -/
import Derived.Test.YtkkdkhbhamhfgaaGreatDoorZ38
namespace Go.Proofs.YtkkdkhbhamhfgaaGreatDoor
open Go.Can Go.aT
theorem Ck (r:Ru):trees (cZ r)=true:=by simp only[cZ,eU,trees,tree,Bool.and_self]
theorem du (l:List Ru):trees (l.flatMap cZ)=true:=aE Ck l
theorem iC (l:List Ru):tree (ct l)=true:=by simp only[ct,tree]
theorem rP {α:Type}{l:List α}{i:Nat}{a:α}(h:l[i]? = some a):l.drop i=a::l.drop (i+1):=by
 obtain⟨hl,rfl⟩:=List.getElem?_eq_some_iff.1 h;rw[List.drop_eq_getElem_cons hl]
theorem xT {c:Cl}{l:List Ru}{k i pc:Nat}{z:In}{rn:Nat}{lr:Bool}{q:Ru}{row:List Int}{n:Int}(hc:km z=true)(h1:¬ (rn:Int)<0)(h2:¬ (k:Int)≤rn)(hq:l[rn]? = some q)(KF:c.calls[i]? = some row)(Kh:row[pc]? = some n):dZ c l k i z pc rn lr=(decide (q.inst=n) && (!q.dU || lr)):=by
 have h3:(c.calls.getD i []).getD pc (-1)=n:=by rw[List.getD_eq_getElem?_getD,List.getD_eq_getElem?_getD,KF,Option.getD_some,Kh,Option.getD_some]
 rw[dZ,if_pos hc,if_neg yA,Int.toNat_natCast,hq];simp only[h3]
def H9 (u:Un)(r:Ru):List (Nat×Ob):=(2,⟨55,0,cZ r⟩)::mw u
def J202 (u:Un)(l:List Ru)(k ii:Nat)(r:Ru)(x:Is)(n:Nat)(s:St):Prop:=∃ (i:Nat) (ws:List Nat),n=r.items.length-i∧i≤r.items.length∧ws.length≤2∧lE u (av u) l k ii r.dU x r.items [0]=lE u (av u) l k ii r.dU x (r.items.drop i) ws∧
 s=⟨[(12,I i),(11,aN ws),(10,.au ((aC u x).flatMap cK) (aC u x).length),(9,.ai 2 0),(5,.ai 1 0),(4,.ai 0 0),(2,ct l),(3,I k)],H9 u r,3⟩
theorem qo (z:In)(pc:Nat):(qp z pc).length≤2:=by
 cases z with
 | branch g e=>
  simp only[qp];split<;>simp
 | _=>simp[qp]
set_option maxRecDepth 100000 in
set_option maxHeartbeats 4000000 in
theorem AQ {u:Un}(hu:jP u)(l:List Ru)(k:Nat)(r:Ru)(hr:l[k]? = some r)(_hl:l.length≤1000)(hi:r.items.length≤1000):ae Tryz.prog 25 [dt u,ja (av u),ct l,I k] (.bool (cO u (av u) l k r)):=by
 have J9:=(List.getElem?_eq_some_iff.1 hr).1;have Pq:=az (f:=cZ) (n:=3) cj hr;have Kr:=bB u;have LJ:=cM (av u);have PX:=du l;obtain⟨Na,T6⟩:=vn hu;refine ae.aD af Tryz.func25 rfl JN (by simp[Tryz.ntmps25]) rfl fun C hC JR=>?_;rw[Tryz.ntmps25] at hC;simp only[dt,ja,dj,fe,ints,ct];apply ah;simp[hC];apply ah;simp[hC,J9,Pq,cZ,eU];by_cases h0:r.inst<0
 ·have hv:cO u (av u) l k r=false:=by simp[cO,h0]
  apply aL;simp[hC,h0];refine cz ?_;simp;apply ah;simp[hC];apply T.ret;apply aa.here;simp[Tryz.results25,hv]
 ·obtain⟨ii,Kq⟩:∃ ii:Nat,r.inst=ii:=⟨r.inst.toNat,by omega⟩;have Oc:¬ (ii:Int)<0:=by omega
  by_cases h1:ii<(av u).is.length
  ·obtain⟨x,hx⟩:∃ x,(av u).is[ii]? = some x:=⟨_,List.getElem?_eq_getElem h1⟩;have hv:cO u (av u) l k r=((r.dU || !r.items.isEmpty) && lE u (av u) l k ii r.dU x r.items [0]):=by simp[cO,Kq,hx]
   have KM:=rS hu hx;obtain⟨pq,KW,J8⟩:=Aj KM;have LR:=(List.getElem?_eq_some_iff.1 KW).1;have Nl:=az (f:=cP) (n:=2) dV hx;have JQ:=bb (f:=kR) (n:=5) ig KW 4 yA;have Mf:¬ ((av u).is.length:Int)≤ii:=by omega
   apply aL;simp[hC,Kq,Oc,Mf];refine dg ?_;simp;apply T.seq;refine T.rx af follows [0,1,2,3,4,5,6,7,8,9,10,11,12] [] JN ?_;simp[hC,h1,Nl,cP,LR,JQ,kR];apply ah;simp[hC];refine T.le (Le.dC (o:=16) rfl rfl) ?_;simp[mc];apply aL;simp[hC];apply T.block;refine T.aI (J202 u l k ii r x) (n:=r.items.length) ?_ ?_
   ·refine aa.trim [12,11,10,9,5,4,2,3] [2,1,0] 3 NU yA ⟨0,[0],by omega,by omega,by simp,by simp,?_⟩;simp[H9,mw,dj,fe,ints,aN,J8,cZ,eU,ct,Kq]
   ·rintro n s ⟨i,ws,rfl,Ko,Qo,hD,rfl⟩;simp only[H9,mw,dj,fe,ints,ct,J8,cZ,eU,Kq];by_cases JP:i<r.items.length
    ·obtain⟨it,J0⟩:∃ it,r.items[i]? = some it:=⟨_,List.getElem?_eq_getElem JP⟩;have N7:=az (f:=kY) (n:=2) iq J0;have wi:=cm ((i:Int)+1) yA yA;have wn:=cm ((r.items.length:Int)-1) yA yA;have SF:((i:Int) == (r.items.length:Int)-1)=(r.items.drop (i+1)).isEmpty:=by
      rw[Bool.eq_iff_iff,beq_iff_eq,List.isEmpty_iff,List.drop_eq_nil_iff];omega
     rw[rP J0,lE] at hD;generalize Vx:(r.items.drop (i+1)).isEmpty=lb at SF hD;obtain⟨p,rl⟩:=it;simp only at hD;apply aL;simp[hC,JP];refine gF ?_;simp;apply fw;apply T.seq;refine T.rx af follows [0,1,2,3,4,5,6,7,8,9,10,11,12,13] [(1,11),(4,11),(7,11),(7,12)] JN ?_;simp[hC,JP,N7,kY,wn,SF];refine T.le (Le.trim [14,13,12,11,10,9,5,4,2,3] [14,2,1,0] 15 NU yA) ?_;simp;by_cases MY:p<0
     ·have hn:fS u x p=none:=by simp[fS,MY]
      simp only[hn] at hD;rw[hD,Bool.and_false] at hv;apply aL;simp[hC,MY];refine cz ?_;simp;apply ah;simp[hC];apply T.ret;apply aa.here;simp[Tryz.results25,hv]
     obtain⟨pn,rfl⟩:∃ pn:Nat,p=pn:=⟨p.toNat,by omega⟩;have ON:¬ (pn:Int)<0:=by omega
     by_cases LS:pn<pq.code.length
     case neg=>
      have hn:fS u x (pn:Int)=none:=by simp[fS,J8,List.getElem?_eq_none (by omega:pq.code.length≤pn)]
      have QA:(pq.code.length:Int)≤pn:=by omega
      simp only[hn] at hD;rw[hD,Bool.and_false] at hv;apply aL;simp[hC,ON,QA];refine cz ?_;simp;apply ah;simp[hC];apply T.ret;apply aa.here;simp[Tryz.results25,hv]
     obtain⟨z,TK⟩:∃ z,pq.code[pn]? = some z:=⟨_,List.getElem?_eq_getElem LS⟩;have hz:(aC u x)[pn]? = some z:=by rw[J8];exact TK
     have hn:fS u x (pn:Int)=some z:=by simp[fS,hz]
     have QA:¬ (pq.code.length:Int)≤pn:=by omega
     have KT:=az (f:=cK) (n:=12) eV TK;obtain⟨xc,Lf,LG⟩:=jG z;rw[Lf] at KT;simp only[hn,Int.toNat_natCast] at hD;have RM:trees [aN ws,I (pn:Int)]=true:=by simp only[trees,aP,Bool.true_and];rfl
     have Lm:=qV ws (pn:Int) yA;rw[z5] at Lm;apply aL;simp[hC,ON,QA];refine TL.bG JT rfl rfl rfl rfl (bm.of rfl RM Lm) (TL.go' af ?_);by_cases hw:pn∈ws
     case neg=>
      simp only[hw,decide_false,Bool.false_and] at hD;rw[hD,Bool.and_false] at hv;simp[hC,hw];refine cz ?_;simp;apply ah;simp[hC];apply T.ret;apply aa.here;simp[Tryz.results25,hv]
     simp only[hw,decide_true,Bool.true_and] at hD;simp[hC,hw];refine dg ?_;simp;have Me:=zL z;have PI:=CY z;apply ah;simp[hC,LS,KT,Me];apply T.seq;refine T.cut (fun s=>s=⟨[(93,.bool (uK z != (lb && !r.dU))),(14,.bool lb),(13,.ai 14 0),(12,I i),(11,aN ws),(10,.au (pq.code.flatMap cK) pq.code.length),(9,.ai 2 0),(5,.ai 1 0),(4,.ai 0 0),(2,.au (l.flatMap cZ) l.length),(3,I k)],[(14,⟨77,0,[I pn,I rl]⟩),(2,⟨55,0,[I ii,.bool r.dU,.au (r.items.flatMap kY) r.items.length]⟩),(1,⟨34,0,[.au ((av u).is.flatMap cP) (av u).is.length,.au ((av u).calls.map ints) (av u).calls.length,aN (av u).roots]⟩),(0,⟨30,0,[.au (u.gs.map fun n=>I n) u.gs.length,.au (u.ms.flatMap eQ) u.ms.length,.au (u.ps.flatMap kR) u.ps.length,I u.main]⟩)],15⟩) ?_ ?_
     ·cases lb with
      | false=>
       apply a8;simp[hC];refine aa.trim [93,14,13,12,11,10,9,5,4,2,3] [14,2,1,0] 15 NU yA ?_;simp
      | true=>
       apply a8;simp[hC];refine aa.trim [93,14,13,12,11,10,9,5,4,2,3] [14,2,1,0] 15 NU yA ?_;simp;cases uK z<;>cases r.dU<;>rfl
     rintro s rfl;by_cases Rp:(uK z == (lb && !r.dU))=true
     case neg=>
      have Qx:(uK z != (lb && !r.dU))=true:=by simp only[bne];simpa using Rp
      simp only[Rp,Bool.false_and] at hD;rw[hD,Bool.and_false] at hv;refine T.cond (b:=true) (by simp[ev,assoc,Qx]) ?_;simp;apply ah;simp[hC];apply T.ret;apply aa.here;simp[Tryz.results25,hv]
     have Qx:(uK z != (lb && !r.dU))=false:=by simp only[bne,Rp];rfl
     simp only[Rp,Bool.true_and] at hD;refine T.cond (b:=false) (by simp[ev,assoc,Qx]) (T.skip ?_);simp;refine T.cut (fun s=>dZ (av u) l k ii z pn rl (lb && r.dU)=true∧s=⟨[(14,.bool lb),(13,.ai 14 0),(12,I i),(11,aN ws),(10,.au (pq.code.flatMap cK) pq.code.length),(9,.ai 2 0),(5,.ai 1 0),(4,.ai 0 0),(2,.au (l.flatMap cZ) l.length),(3,I k)],[(14,⟨77,0,[I pn,I rl]⟩),(2,⟨55,0,[I ii,.bool r.dU,.au (r.items.flatMap kY) r.items.length]⟩),(1,⟨34,0,[.au ((av u).is.flatMap cP) (av u).is.length,.au ((av u).calls.map ints) (av u).calls.length,aN (av u).roots]⟩),(0,⟨30,0,[.au (u.gs.map fun n=>I n) u.gs.length,.au (u.ms.flatMap eQ) u.ms.length,.au (u.ps.flatMap kR) u.ps.length,I u.main]⟩)],15⟩) ?_ ?_
     ·cases hc:km z with
      | true=>
       rw[hc] at PI;apply ah;simp[hC,LS,KT,PI];refine cz ?_;simp;refine T.cut (fun s=>s=⟨[(144,.bool (!dZ (av u) l k ii z pn rl (lb && r.dU))),(14,.bool lb),(13,.ai 14 0),(12,I i),(11,aN ws),(10,.au (pq.code.flatMap cK) pq.code.length),(9,.ai 2 0),(5,.ai 1 0),(4,.ai 0 0),(2,.au (l.flatMap cZ) l.length),(3,I k)],[(14,⟨77,0,[I pn,I rl]⟩),(2,⟨55,0,[I ii,.bool r.dU,.au (r.items.flatMap kY) r.items.length]⟩),(1,⟨34,0,[.au ((av u).is.flatMap cP) (av u).is.length,.au ((av u).calls.map ints) (av u).calls.length,aN (av u).roots]⟩),(0,⟨30,0,[.au (u.gs.map fun n=>I n) u.gs.length,.au (u.ms.flatMap eQ) u.ms.length,.au (u.ps.flatMap kR) u.ps.length,I u.main]⟩)],15⟩) ?_ ?_
       ·by_cases Mj:rl<0
        ·have Nf:dZ (av u) l k ii z pn rl (lb && r.dU)=false:=by simp[dZ,hc,Mj]
         refine T.rx af follows [0,1,2,3,4,5,6,7,8,9,10,11,12,13,14,15,16,17,18,19,20,21,22,23,24,25,26,27,28,29,30,31,32,33,34,35,36,37,38,39,40,41,42,43] [] JN ?_;simp[hC,Mj];refine aa.trim [144,14,13,12,11,10,9,5,4,2,3] [14,2,1,0] 15 NU yA ?_;simp[Nf]
        obtain⟨rn,rfl⟩:∃ rn:Nat,rl=rn:=⟨rl.toNat,by omega⟩;by_cases NY:(k:Int)≤rn
        ·have Nf:dZ (av u) l k ii z pn rn (lb && r.dU)=false:=by simp[dZ,hc,NY]
         refine T.rx af follows [0,1,2,3,4,5,6,7,8,9,10,11,12,13,14,15,16,17,18,19,20,21,22,23,24,25,26,27,28,29,30,31,32,33,34,35,36,37,38,39,40,41,42,43] [] JN ?_;simp[hC,Mj,NY];refine aa.trim [144,14,13,12,11,10,9,5,4,2,3] [14,2,1,0] 15 NU yA ?_;simp[Nf]
        obtain⟨q,hq⟩:∃ q,l[rn]? = some q:=⟨_,List.getElem?_eq_getElem yA⟩;have KR:=(List.getElem?_eq_some_iff.1 hq).1;have N8:=az (f:=cZ) (n:=3) cj hq;have Mh:=bb (f:=cZ) (n:=3) cj hq 1 yA;obtain⟨row,KF,Kh,YC⟩:=xj hu hx hz hc;have Mo:=uS ints KF;have M8:=uS um Kh;have Ni:=(List.getElem?_eq_some_iff.1 KF).1;have KP:=(List.getElem?_eq_some_iff.1 Kh).1;have La:=xT (lr:=lb && r.dU) hc Mj NY hq KF Kh;generalize sH (av u) ii pn=kn at *;by_cases Oi:q.inst=kn
        case neg=>
         have Ng:(q.inst != (kn:Int))=true:=by rw[bne_iff_ne];exact Oi
         refine T.rx af follows [0,1,2,3,4,5,6,7,8,9,10,11,12,13,14,15,16,17,18,19,20,21,22,23,24,25,26,27,28,29,30,31,32,33,34,35,36,37,38,39,40,41,42,43] [] JN ?_;simp[hC,Mj,NY,KR,N8,cZ,Mo,Ni,M8,KP,ints,Ng];refine aa.trim [144,14,13,12,11,10,9,5,4,2,3] [14,2,1,0] 15 NU yA ?_;simp[La,Oi]
        have Ng:(q.inst != (kn:Int))=false:=by rw[bne_eq_false_iff_eq];exact Oi
        cases Pe:q.dU with
        | false=>
         refine T.rx af follows [0,1,2,3,4,5,6,7,8,9,10,11,12,13,14,15,16,17,18,19,20,21,22,23,24,25,26,27,28,29,30,31,32,33,34,35,36,37,38,39,40,41,42,43] [] JN ?_;simp[hC,Mj,NY,KR,N8,cZ,Mo,Ni,M8,KP,ints,Ng,Pe];refine aa.trim [144,14,13,12,11,10,9,5,4,2,3] [14,2,1,0] 15 NU yA ?_;simp[La,Oi,Pe]
        | true=>
         cases lb with
         | false=>
          simp[Oi,Pe] at La;refine T.rx af follows [0,1,2,3,4,5,6,7,8,9,10,11,12,13,14,15,16,17,18,19,20,21,22,23,24,25,26,27,28,29,30,31,32,33,34,35,36,37,38,39,40,41,42,43] [] JN ?_;simp[hC,Mj,NY,KR,N8,cZ,Mo,Ni,M8,KP,ints,Ng,Pe];refine aa.trim [144,14,13,12,11,10,9,5,4,2,3] [14,2,1,0] 15 NU yA ?_;simp[La]
         | true=>
          simp[Oi,Pe] at La;refine T.rx af follows [0,1,2,3,4,5,6,7,8,9,10,11,12,13,14,15,16,17,18,19,20,21,22,23,24,25,26,27,28,29,30,31,32,33,34,35,36,37,38,39,40,41,42,43] [] JN ?_;simp[hC,Mj,NY,KR,N8,cZ,Mo,Ni,M8,KP,ints,Ng,Pe];refine aa.trim [144,14,13,12,11,10,9,5,4,2,3] [14,2,1,0] 15 NU yA ?_;simp[La]
       rintro s rfl;by_cases La:dZ (av u) l k ii z pn rl (lb && r.dU)=true
       ·refine T.cond (b:=false) (by simp[ev,assoc,La]) (T.skip ?_);simp;refine aa.trim [14,13,12,11,10,9,5,4,2,3] [14,2,1,0] 15 NU yA ⟨La,?_⟩;simp
       ·simp only[La,Bool.false_and] at hD;rw[hD,Bool.and_false] at hv;refine T.cond (b:=true) (by simp[ev,assoc,La]) ?_;simp;apply ah;simp[hC];apply T.ret;apply aa.here;simp[Tryz.results25,hv]
      | false=>
       have Oq:dZ (av u) l k ii z pn rl (lb && r.dU)=decide (rl=-1):=by simp[dZ,hc]
       rw[hc] at PI;apply ah;simp[hC,LS,KT,PI];refine aU ?_;simp;by_cases QJ:rl=-1
       ·have Vm:(rl != -1)=false:=by simp[QJ]
        apply ah;simp[hC,Vm];refine dg ?_;simp;refine aa.trim [14,13,12,11,10,9,5,4,2,3] [14,2,1,0] 15 NU yA ⟨by rw[Oq];simp[QJ],?_⟩;simp
       ·have Vm:(rl != -1)=true:=by simp[QJ]
        rw[Oq] at hD;simp only[QJ,decide_false,Bool.false_and] at hD;rw[hD,Bool.and_false] at hv;apply ah;simp[hC,Vm];refine cz ?_;simp;apply ah;simp[hC];apply T.ret;apply aa.here;simp[Tryz.results25,hv]
     rintro s ⟨Mp,rfl⟩;simp only[Mp,Bool.true_and] at hD;have NZ:=gX hu x;rw[J8] at NZ;have Kz:=wu hu KM hz yA;have ti:=bL x;have Ox:trees [dt u,.agg (cP x),I (pn:Int)]=true:=by simp only[trees,tree,dt,bB,ti,Bool.and_self]
     have SB:=qo z pn;simp only[dt,dj,cP,ints] at Kz Ox;refine T.rx af follows [0,1,2,3,4,5,6,7,8,9,10] [] JN ?_;simp[hC,h1,Nl,cP];refine RX.call rfl JM rfl rfl rfl Ox Kz ?_;simp;apply a8;simp[hC,wi];refine⟨r.items.length-(i+1),by omega,aa.trim [12,11,10,9,5,4,2,3] [2,1,0] 3 NU yA ⟨i+1,qp z pn,rfl,by omega,SB,hD,?_⟩⟩;simp[H9,mw,dj,fe,ints,aN,J8,cZ,eU,ct,Kq]
    ·have JW:i=r.items.length:=by omega
     subst JW;rw[List.drop_length,lE] at hD;rw[hD,Bool.and_true] at hv;apply aL;simp[hC];refine aU ?_;simp;apply T.exit;simp
     cases ho:r.dU with
     | true=>
      apply ah;simp[hC];apply T.ret;apply aa.here;simp[Tryz.results25,hv,ho]
     | false=>
      have he:decide (0<r.items.length)=!r.items.isEmpty:=by
       cases r.items<;>simp
      apply ah;simp[hC,he];apply T.ret;apply aa.here;simp[Tryz.results25,hv,ho]
  ·have hv:cO u (av u) l k r=false:=by simp[cO,Kq,List.getElem?_eq_none (by omega:(av u).is.length≤ii)]
   have Mf:((av u).is.length:Int)≤ii:=by omega
   apply aL;simp[hC,Kq,Oc,Mf];refine cz ?_;simp;apply ah;simp[hC];apply T.ret;apply aa.here;simp[Tryz.results25,hv]
theorem od {u:Un}{c:Cl}{l:List Ru}{k i:Nat}{dU:Bool}{x:Is}:∀ (t:List It) (ws:List Nat),lE u c l k i dU x t ws=true→∀ it∈t,∃ z,fS u x it.pc=some z∧0≤it.pc∧(aC u x)[it.pc.toNat]? = some z∧(it.o0=-1∨0≤it.o0∧it.o0<k)
 | [],_,_,it,h=>by cases h
 | a::t,ws,h,it,hm=>by
  rw[lE] at h
  cases hz:fS u x a.pc with
  | none=>rw[hz] at h;cases h
  | some z=>
   rw[hz] at h;simp only[Bool.and_eq_true] at h;rcases List.mem_cons.1 hm with rfl | hm
   ·have KE:=hz;unfold fS at KE;split at KE
    ·cases KE
    ·refine⟨z,hz,by omega,KE,?_⟩;have hc:=h.1.2;unfold dZ at hc;split at hc
     ·split at hc
      ·cases hc
      ·right;omega
     ·left;simpa using hc
   ·exact od t _ h.2 it hm
theorem lY {u:Un}{c:Cl}{l:List Ru}{k:Nat}{r:Ru}(h:cO u c l k r=true):∃ (ii:Nat) (x:Is),r.inst=ii∧c.is[ii]? = some x∧Du c r.inst=x∧lE u c l k ii r.dU x r.items [0]=true:=by
 unfold cO at h;split at h
 ·cases h
 ·rename_i h0;split at h
  ·cases h
  ·rename_i x hx;simp only[Bool.and_eq_true] at h;exact⟨r.inst.toNat,x,by omega,hx,by simp[Du,List.getD_eq_getElem?_getD,hx],h.2⟩
theorem xC (u:Un)(x:Is)(m:Nat)(LC:List Et)(e:Et):qd u x m LC [] e=e:=rfl
theorem ua (u:Un)(x:Is)(m:Nat)(LC:List Et)(it:It)(t:List It)(e:Et):qd u x m LC (it::t) e=qd u x m LC t (iM e (sA u x m LC it)):=rfl
theorem eB (l:List Et):trees (l.flatMap dD)=true:=aE (fun _=>rfl) l
theorem lO (l:List Et):tree (jJ l)=true:=by simp only[jJ,tree]
theorem iB (x:Ce):trees (qz x)=true:=by simp only[qz,trees,iC];rfl
def fV (l:List Et):Ob:=⟨47,3,l.flatMap dD⟩
def dM (u:Un)(x:Ce):List Et×Nat×Int:=if x.lock<0∨(u.ms.length:Int)≤x.lock then ([],0,6) else fX u (av u) x.rules x.lock.toNat x.rules []
def IN (x:Ce):Prop:=x.rules.length≤1000∧∀ r∈x.rules,r.items.length≤1000
def FQ (u:Un)(x:Ce):List (Nat×Ob):=(2,⟨39,0,qz x⟩)::mw u
def J203 (u:Un)(x:Ce)(m n:Nat)(s:St):Prop:=∃ (i:Nat) (out:List Et),n=x.rules.length-i∧i≤x.rules.length∧out.length=i∧fX u (av u) x.rules m x.rules []=fX u (av u) x.rules m (x.rules.drop i) out∧
 s=⟨[(10,I i),(9,.bw 3 0 i),(5,.ai 2 0),(4,.ai 1 0),(3,.ai 0 0)],(3,fV out)::FQ u x,4⟩
def J204 (u:Un)(x:Ce)(m i:Nat)(out:List Et)(r:Ru)(y:Is)(n:Nat)(s:St):Prop:=∃ (j:Nat) (e:Et),n=r.items.length-j∧j≤r.items.length∧qd u y m out r.items ⟨0,0,0⟩=qd u y m out (r.items.drop j) e∧
 s=⟨[(13,I j),(12,.ai 5 0),(11,.ai 4 0),(10,I i),(9,.bw 3 0 i),(5,.ai 2 0),(4,.ai 1 0),(3,.ai 0 0)],(5,⟨55,0,cZ r⟩)::(4,⟨47,0,dD e⟩)::(3,fV out)::FQ u x,6⟩
set_option maxRecDepth 100000 in
set_option maxHeartbeats 4000000 in
theorem wz {u:Un}(hu:jP u)(x:Ce)(hb:IN x):ae Tryz.prog 9 [dt u,ja (av u),oD x] (.db [jJ (dM u x).1,I (dM u x).2.1,I (dM u x).2.2]):=by
 have Kr:=bB u;have LJ:=cM (av u);have PX:=du x.rules;obtain⟨LM,Lp⟩:=hb;refine ae.aD af Tryz.func9 rfl JN (by simp[Tryz.ntmps9]) (by simp only[tree,trees,lO,Bool.true_and]) fun C hC JR=>?_;rw[Tryz.ntmps9] at hC;simp only[dj,fe,ints] at Kr LJ;simp only[dt,ja,dj,fe,ints,oD,qz,ct];apply ah;simp[hC];by_cases h0:x.lock<0
 ·have hv:dM u x=([],0,6):=by simp[dM,h0]
  apply aL;simp[hC,h0];refine cz ?_;simp;apply ah;simp[hC];apply T.ret;simp;refine aa.le (Le.nz [6] []) ?_;apply aa.here;simp[Tryz.results9,hv,jJ]
 obtain⟨m,hm⟩:∃ m:Nat,x.lock=m:=⟨x.lock.toNat,by omega⟩;have Oc:¬ (m:Int)<0:=by omega
 by_cases h1:m<u.ms.length
 case neg=>
  have h2:(u.ms.length:Int)≤m:=by omega
  have hv:dM u x=([],0,6):=by simp[dM,hm,h2]
  apply aL;simp[hC,hm,Oc,h2];refine cz ?_;simp;apply ah;simp[hC];apply T.ret;simp;refine aa.le (Le.nz [6] []) ?_;apply aa.here;simp[Tryz.results9,hv,jJ]
 have h2:¬ (u.ms.length:Int)≤m:=by omega
 have hv:dM u x=fX u (av u) x.rules m x.rules []:=by rw[dM,if_neg yA,hm,Int.toNat_natCast]
 apply aL;simp[hC,hm,Oc,h2];refine dg ?_;simp;apply ah;simp[hC];apply aL;simp[hC];apply T.block;refine T.aI (J203 u x m) (n:=x.rules.length) ?_ ?_
 ·refine aa.le (Le.own 9 47 3 rfl) ?_;simp[St.own];refine aa.trim [10,9,5,4,3] [3,2,1,0] 4 (by simp[-List.all_eq_true,aj Kr,aj LJ]) yA ⟨0,[],by omega,by omega,rfl,by simp,?_⟩;simp[FQ,mw,dj,fe,ints,qz,ct,fV,hm]
 ·rintro n s ⟨i,out,rfl,Ko,Nh,hD,rfl⟩;simp only[FQ,mw,dj,fe,ints,qz,ct,hm];by_cases JP:i<x.rules.length
  ·obtain⟨r,hr⟩:∃ r,x.rules[i]? = some r:=⟨_,List.getElem?_eq_getElem JP⟩;have Qw:=Lp r (List.mem_of_getElem? hr);have JQ:=az (f:=cZ) (n:=3) cj hr;have wi:=cm ((i:Int)+1) yA yA;have Sf:=AQ hu x.rules i r hr LM Qw;have RO:trees [dt u,ja (av u),ct x.rules,I (i:Int)]=true:=by simp only[trees,tree,dt,ja,bB,cM,iC,Bool.and_self]
   rw[rP hr,fX,Nh] at hD;simp only[dt,ja,dj,fe,ints,ct] at Sf RO;apply aL;simp[hC,JP];refine gF ?_;simp;apply fw;apply aL;simp[hC];refine dk RO Sf ?_
   cases Pd:cO u (av u) x.rules i r with
   | false=>
    rw[Pd,if_neg JM] at hD;rw[hD] at hv;simp[hC];refine cz ?_;simp;apply ah;simp[hC];apply T.ret;refine aa.le (Le.trim [6,7,8] [] 0 JM yA) ?_;simp;refine aa.le (Le.nz [6] []) ?_;apply aa.here;simp[hv,jJ]
   | true=>
    rw[Pd,if_pos rfl] at hD;obtain⟨ii,y,Kq,hy,Qn,Mv⟩:=lY Pd;have Pz:=rS hu hy;have Pb:=(List.getElem?_eq_some_iff.1 hy).1;have Nl:=az (f:=cP) (n:=2) dV hy;have Kg:=od _ _ Mv;have QY:Bv u (av u) m out r=qd u y m out r.items ⟨0,0,0⟩:=by rw[Bv,Qn]
    rw[QY] at hD;simp[hC];refine dg ?_;simp;apply T.seq;have rU:=fun ρ=>aF ρ _ Kr;have rC:=fun ρ=>aF ρ _ LJ;have rT:=fun ρ=>aF ρ _ (eB out);have WQ:=aP (av u).roots;refine T.rx af follows [0,1,2,3,4,5,6,7,8,9] [(2,6),(2,7),(2,8),(5,6),(5,7),(5,8),(6,7)] JN ?_;simp[hC,JP,JQ,cZ,eU,Kq];apply aL;simp[hC];apply T.block;refine T.aI (J204 u x m i out r y) (n:=r.items.length) ?_ ?_
    ·refine aa.le (Le.norm [13,12,11,10,9,5,4,3] [(11,5),(10,4),(3,3),(2,2),(1,1),(0,0)] 0 6 MG ME (by simp[e8,yf,sI,tree,assoc,-List.all_eq_true,-List.all_flatMap,fV,aK Kr,aK LJ,aK (eB out)]) yA) ?_;simp[dP,cr,cg,en,gA,assoc,fV,rT,qT];refine aa.here ⟨0,⟨0,0,0⟩,by omega,by omega,by simp,?_⟩;simp[FQ,mw,dj,fe,ints,qz,ct,hm,cZ,eU,Kq,fV,dD]
    ·rintro n s ⟨j,e,rfl,Xo,hE,rfl⟩;simp only[FQ,mw,dj,fe,ints,qz,ct,hm,cZ,eU,Kq];by_cases KZ:j<r.items.length
     ·obtain⟨it,J0⟩:∃ it,r.items[j]? = some it:=⟨_,List.getElem?_eq_getElem KZ⟩;have N7:=az (f:=kY) (n:=2) iq J0;have QZ:=bb (f:=kY) (n:=2) iq J0 1 yA;have wj:=cm ((j:Int)+1) yA yA;obtain⟨z,OE,MY,hz,KR⟩:=Kg it (List.mem_of_getElem? J0);obtain⟨p,rl⟩:=it;obtain⟨pn,rfl⟩:∃ pn:Nat,p=pn:=⟨p.toNat,by simp only at MY;omega⟩;simp only[Int.toNat_natCast] at hz OE KR;rw[rP J0,ua] at hE;have NZ:=gX hu y;have PH:=(List.getElem?_eq_some_iff.1 hz).1;apply aL;simp[hC,KZ];refine gF ?_;simp;apply fw;rcases KR with KR | KR
      ·subst KR;have N0:sA u y m out ⟨pn,-1⟩=Bf (dO y m z):=by simp[sA,OE]
       rw[N0] at hE;have M9:=yO hu Pz hz m;have ti:=bL y;have NV:trees [dt u,.agg (cP y),I (pn:Int),I (m:Int)]=true:=by simp only[trees,tree,dt,bB,ti,Bool.and_self]
       have TW:=rof_e (dO y m z);have MT:=wa e (Bf (dO y m z));simp only[dt,dj,cP,ints] at M9 NV;apply ah;simp[hC,KZ,QZ,kY];refine aU ?_;simp;refine T.rx af follows [0,1,2,3,4,5,6,7,8,9,10,11,12,13,14,15,16,17,18,19] [(0,16),(0,17)] JN ?_;simp[hC,KZ,N7,kY,Nl,cP,Pb,dD];refine RX.call rfl JM rfl rfl rfl NV M9 ?_;simp;refine RX.call rfl JM rfl rfl rfl rfl TW ?_;simp;refine RX.call rfl JM rfl rfl rfl rfl MT ?_;simp[dD];apply a8;simp[hC,wj];refine⟨r.items.length-(j+1),by omega,aa.trim [13,12,11,10,9,5,4,3] [5,4,3,2,1,0] 6 (by simp[fV,-List.all_eq_true,-List.all_flatMap,aj Kr,aj LJ,aj (eB _)]) yA ⟨j+1,iM e (Bf (dO y m z)),rfl,by omega,hE,?_⟩⟩;simp[FQ,mw,dj,fe,ints,qz,ct,hm,cZ,eU,Kq,fV,dD]
      ·obtain⟨rn,rfl⟩:∃ rn:Nat,rl=rn:=⟨rl.toNat,by omega⟩;obtain⟨e2,SW⟩:∃ e2,out[rn]? = some e2:=⟨_,List.getElem?_eq_getElem yA⟩;have N0:sA u y m out ⟨pn,rn⟩=e2:=by
        have:¬ (rn:Int)=-1:=by omega
        simp[sA,this,List.getD_eq_getElem?_getD,SW]
       rw[N0] at hE;have SY:=az (f:=dD) (n:=3) fW SW;have Lq:rn<i:=by omega
       have MT:=wa e e2;have Mj:(0:Int)≤rn:=by omega
       apply ah;simp[hC,KZ,QZ,kY];refine cz ?_;simp;refine T.rx af follows [0,1,2,3,4,5,6,7,8,9,10,11] [] JN ?_;simp[hC,KZ,QZ,kY,Lq,fV,SY,dD];refine RX.call rfl JM rfl rfl rfl rfl MT ?_;simp[dD];apply a8;simp[hC,wj];refine⟨r.items.length-(j+1),by omega,aa.trim [13,12,11,10,9,5,4,3] [5,4,3,2,1,0] 6 (by simp[-List.all_eq_true,-List.all_flatMap,aj Kr,aj LJ,aj (eB _)]) yA ⟨j+1,iM e (e2),rfl,by omega,hE,?_⟩⟩;simp[FQ,mw,dj,fe,ints,qz,ct,hm,cZ,eU,Kq,fV,dD]
     ·have PJ:j=r.items.length:=by omega
      subst PJ;rw[List.drop_length] at hE;rw[xC] at hE;apply aL;simp[hC];refine aU ?_;simp;apply T.exit;simp;have Kb:(fV out).cells.length=out.length*3:=aQ (f:=dD) (n:=3) fW out;have WD:(i+1)*24≤140737488355328:=by omega
      apply a8;simp[hC,aS,Kb,Nh,WD,dD,show (fV out).sz=3 from rfl,show (fV out).elem=47 from rfl];have Oy:trees ((fV out).cells++[I e.lo,I e.hi,I e.gm])=true:=by rw[bu,show trees (fV out).cells=true from eB out];rfl
      have rN:=fun ρ=>aF ρ _ Oy;apply a8;simp[hC,wi];refine⟨x.rules.length-(i+1),by omega,?_⟩;refine aa.le (Le.norm [10,9,5,4,3] [(7,3),(2,2),(1,1),(0,0)] 0 4 MG ME (by simp[e8,yf,sI,tree,assoc,-List.all_eq_true,-List.all_flatMap,aK Kr,aK LJ,aK Oy]) yA) ?_;simp[dP,cr,cg,en,gA,assoc,rN,qT];rw[hE] at hD;refine aa.here ⟨i+1,out++[e],rfl,by omega,by simp[Nh],hD,?_⟩;simp[FQ,mw,dj,fe,ints,qz,ct,hm,fV,dD]
  ·have JW:i=x.rules.length:=by omega
   subst JW;rw[List.drop_length,fX] at hD;rw[hD] at hv;have Pn:=eB out;apply aL;simp[hC];refine aU ?_;simp;apply T.exit;simp;apply ah;simp[hC];apply T.ret;have Kd:List.take (x.rules.length*3) (out.flatMap dD)=out.flatMap dD:=List.take_of_length_le (by rw[aQ fW,Nh];omega);refine aa.le (Le.trim [6,7,8] [3] 4 (by simp[fV,-List.all_eq_true,aj (eB out)]) yA) ?_;simp;refine aa.le (Le.dC (o:=3) rfl Pn) ?_;apply aa.here;simp[hv,jJ,fV,bZ,Nh,Kd]
end Go.Proofs.YtkkdkhbhamhfgaaGreatDoor
