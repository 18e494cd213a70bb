/- right of the reference: whether a rule is right. -/
import Derived.Test.YtlkmbdfhdknlgaaGreatDoorZ38
namespace Go.Proofs.YtlkmbdfhdknlgaaGreatDoor
open Go.Can Go.aT
theorem wc (l:List It):trees (l.flatMap kY)=true:=aE (fun _=>rfl) l
theorem Ck (r:Ru):trees (cZ r)=true:=by simp only[cZ,eU,trees,tree,Bool.and_self]
theorem du (l:List Ru):trees (l.flatMap cZ)=true:=aE Ck l
theorem iC (l:List Ru):tree (ct l)=true:=by simp only[ct,tree]
theorem rP {α:Type}{l:List α}{i:Nat}{a:α}(h:l[i]? = some a):l.drop i=a::l.drop (i+1):=by
 obtain⟨hl,rfl⟩:=List.getElem?_eq_some_iff.1 h;rw[List.drop_eq_getElem_cons hl]
theorem xT {c:Cl}{l:List Ru}{k i pc:Nat}{z:In}{rn:Nat}{lr:Bool}{q:Ru}{row:List Int}{n:Int}(hc:km z=true)(h1:¬ (rn:Int)<0)(h2:¬ (k:Int)≤rn)(hq:l[rn]? = some q)(KL:c.calls[i]? = some row)(Kl:row[pc]? = some n):dZ c l k i z pc rn lr=(decide (q.inst=n) && (!q.dU || lr)):=by
 have h3:(c.calls.getD i []).getD pc (-1)=n:=by rw[List.getD_eq_getElem?_getD,List.getD_eq_getElem?_getD,KL,Option.getD_some,Kl,Option.getD_some]
 rw[dZ,if_pos hc,if_neg yA,Int.toNat_natCast,hq];simp only[h3]
def H9 (u:Un)(r:Ru):List (Nat×Ob):=(2,⟨55,0,cZ r⟩)::mw u
def J202 (u:Un)(l:List Ru)(k ii:Nat)(r:Ru)(x:Is)(n:Nat)(s:St):Prop:=∃ (i:Nat) (ws:List Nat),n=r.items.length-i∧i≤r.items.length∧ws.length≤2∧lE u (av u) l k ii r.dU x r.items [0]=lE u (av u) l k ii r.dU x (r.items.drop i) ws∧
 s=⟨[(12,I i),(11,aN ws),(10,.au ((aC u x).flatMap cK) (aC u x).length),(9,.ai 2 0),(5,.ai 1 0),(4,.ai 0 0),(2,ct l),(3,I k)],H9 u r,3⟩
theorem qo (z:In)(pc:Nat):(qp z pc).length≤2:=by
 cases z with
 | branch g e=>
  simp only[qp];split<;>simp
 | _=>simp[qp]
set_option maxRecDepth 100000 in
set_option maxHeartbeats 4000000 in
theorem AQ {u:Un}(hu:jP u)(l:List Ru)(k:Nat)(r:Ru)(hr:l[k]? = some r)(_hl:l.length≤1000)(hi:r.items.length≤1000):ae Tryz.prog 25 [dt u,ja (av u),ct l,I k] (.bool (cO u (av u) l k r)):=by
 have Ke:=(List.getElem?_eq_some_iff.1 hr).1;have P2:=az (f:=cZ) (n:=3) cj hr;have Kd:=bB u;have KN:=cM (av u);have KE:=du l;obtain⟨Oc,UK⟩:=vn hu;refine ae.aD af Tryz.func25 rfl lz (by simp[Tryz.ntmps25]) rfl fun C hC xJ=>?_;rw[Tryz.ntmps25] at hC;simp only[dt,ja,dj,fe,ints,ct];apply ah;simp[hC];apply ah;simp[hC,Ke,P2,cZ,eU];by_cases h0:r.inst<0
 ·have hv:cO u (av u) l k r=false:=by simp[cO,h0]
  apply aL;simp[hC,h0];refine cz ?_;simp;apply ah;simp[hC];apply T.ret;apply aa.here;simp[Tryz.results25,hv]
 ·obtain⟨ii,KC⟩:∃ ii:Nat,r.inst=ii:=⟨r.inst.toNat,by omega⟩;have OL:¬ (ii:Int)<0:=by omega
  by_cases h1:ii<(av u).is.length
  ·obtain⟨x,hx⟩:∃ x,(av u).is[ii]? = some x:=⟨_,List.getElem?_eq_getElem h1⟩;have hv:cO u (av u) l k r=((r.dU || !r.items.isEmpty) && lE u (av u) l k ii r.dU x r.items [0]):=by simp[cO,KC,hx]
   have K5:=rS hu hx;obtain⟨pq,K2,J9⟩:=Aj K5;have LX:=(List.getElem?_eq_some_iff.1 K2).1;have MF:=az (f:=cP) (n:=2) dV hx;have oy:=bb (f:=kR) (n:=5) ig K2 4 yA;have Mz:¬ ((av u).is.length:Int)≤ii:=by omega
   apply aL;simp[hC,KC,OL,Mz];refine dg ?_;simp;apply T.seq;refine T.rx af follows [0,1,2,3,4,5,6,7,8,9,10,11,12] [] lz ?_;simp[hC,h1,MF,cP,LX,oy,kR];apply ah;simp[hC];refine T.le (Le.dC (o:=16) rfl rfl) ?_;simp[mc];apply aL;simp[hC];apply T.block;refine T.aI (J202 u l k ii r x) (n:=r.items.length) ?_ ?_
   ·refine aa.trim [12,11,10,9,5,4,2,3] [2,1,0] 3 Ox yA ⟨0,[0],by omega,by omega,by simp,by simp,?_⟩;simp[H9,mw,dj,fe,ints,aN,J9,cZ,eU,ct,KC]
   ·rintro n s ⟨i,ws,rfl,Kz,QV,hD,rfl⟩;simp only[H9,mw,dj,fe,ints,ct,J9,cZ,eU,KC];by_cases nr:i<r.items.length
    ·obtain⟨it,Fl⟩:∃ it,r.items[i]? = some it:=⟨_,List.getElem?_eq_getElem nr⟩;have ND:=az (f:=kY) (n:=2) iq Fl;have wi:=cm ((i:Int)+1) yA yA;have wn:=cm ((r.items.length:Int)-1) yA yA;have Tt:((i:Int) == (r.items.length:Int)-1)=(r.items.drop (i+1)).isEmpty:=by
      rw[Bool.eq_iff_iff,beq_iff_eq,List.isEmpty_iff,List.drop_eq_nil_iff];omega
     rw[rP Fl,lE] at hD;generalize Wd:(r.items.drop (i+1)).isEmpty=lb at Tt hD;obtain⟨p,rl⟩:=it;simp only at hD;apply aL;simp[hC,nr];refine gF ?_;simp;apply fw;apply T.seq;refine T.rx af follows [0,1,2,3,4,5,6,7,8,9,10,11,12,13] [(1,11),(4,11),(7,11),(7,12)] lz ?_;simp[hC,nr,ND,kY,wn,Tt];refine T.le (Le.trim [14,13,12,11,10,9,5,4,2,3] [14,2,1,0] 15 Ox yA) ?_;simp;by_cases Nw:p<0
     ·have hn:fS u x p=none:=by simp[fS,Nw]
      simp only[hn] at hD;rw[hD,Bool.and_false] at hv;apply aL;simp[hC,Nw];refine cz ?_;simp;apply ah;simp[hC];apply T.ret;apply aa.here;simp[Tryz.results25,hv]
     obtain⟨pn,rfl⟩:∃ pn:Nat,p=pn:=⟨p.toNat,by omega⟩;have Pn:¬ (pn:Int)<0:=by omega
     by_cases Mf:pn<pq.code.length
     case neg=>
      have hn:fS u x (pn:Int)=none:=by simp[fS,J9,List.getElem?_eq_none (by omega:pq.code.length≤pn)]
      have Q7:(pq.code.length:Int)≤pn:=by omega
      simp only[hn] at hD;rw[hD,Bool.and_false] at hv;apply aL;simp[hC,Pn,Q7];refine cz ?_;simp;apply ah;simp[hC];apply T.ret;apply aa.here;simp[Tryz.results25,hv]
     obtain⟨z,Ur⟩:∃ z,pq.code[pn]? = some z:=⟨_,List.getElem?_eq_getElem Mf⟩;have hz:(aC u x)[pn]? = some z:=by rw[J9];exact Ur
     have hn:fS u x (pn:Int)=some z:=by simp[fS,hz]
     have Q7:¬ (pq.code.length:Int)≤pn:=by omega
     have KJ:=az (f:=cK) (n:=12) eV Ur;obtain⟨xc,Lp,LM⟩:=jG z;rw[Lp] at KJ;simp only[hn,Int.toNat_natCast] at hD;have Sr:trees [aN ws,I (pn:Int)]=true:=by simp only[trees,aP,Bool.true_and];rfl
     have LF:=qV ws (pn:Int) yA;rw[z5] at LF;apply aL;simp[hC,Pn,Q7];refine TL.bG yI rfl rfl rfl rfl (bm.of rfl Sr LF) (TL.go' af ?_);by_cases hw:pn∈ws
     case neg=>
      simp only[hw,decide_false,Bool.false_and] at hD;rw[hD,Bool.and_false] at hv;simp[hC,hw];refine cz ?_;simp;apply ah;simp[hC];apply T.ret;apply aa.here;simp[Tryz.results25,hv]
     simp only[hw,decide_true,Bool.true_and] at hD;simp[hC,hw];refine dg ?_;simp;have KX:=zL z;have MR:=CY z;apply ah;simp[hC,Mf,KJ,KX];apply T.seq;refine T.cut (fun s=>s=⟨[(93,.bool (uK z != (lb && !r.dU))),(14,.bool lb),(13,.ai 14 0),(12,I i),(11,aN ws),(10,.au (pq.code.flatMap cK) pq.code.length),(9,.ai 2 0),(5,.ai 1 0),(4,.ai 0 0),(2,.au (l.flatMap cZ) l.length),(3,I k)],[(14,⟨77,0,[I pn,I rl]⟩),(2,⟨55,0,[I ii,.bool r.dU,.au (r.items.flatMap kY) r.items.length]⟩),(1,⟨34,0,[.au ((av u).is.flatMap cP) (av u).is.length,.au ((av u).calls.map ints) (av u).calls.length,aN (av u).roots]⟩),(0,⟨30,0,[.au (u.gs.map fun n=>I n) u.gs.length,.au (u.ms.flatMap eQ) u.ms.length,.au (u.ps.flatMap kR) u.ps.length,I u.main]⟩)],15⟩) ?_ ?_
     ·cases lb with
      | false=>
       apply a8;simp[hC];refine aa.trim [93,14,13,12,11,10,9,5,4,2,3] [14,2,1,0] 15 Ox yA ?_;simp
      | true=>
       apply a8;simp[hC];refine aa.trim [93,14,13,12,11,10,9,5,4,2,3] [14,2,1,0] 15 Ox yA ?_;simp;cases uK z<;>cases r.dU<;>rfl
     rintro s rfl;by_cases R7:(uK z == (lb && !r.dU))=true
     case neg=>
      have Q4:(uK z != (lb && !r.dU))=true:=by simp only[bne];simpa using R7
      simp only[R7,Bool.false_and] at hD;rw[hD,Bool.and_false] at hv;refine T.cond (b:=true) (by simp[ev,assoc,Q4]) ?_;simp;apply ah;simp[hC];apply T.ret;apply aa.here;simp[Tryz.results25,hv]
     have Q4:(uK z != (lb && !r.dU))=false:=by simp only[bne,R7];rfl
     simp only[R7,Bool.true_and] at hD;refine T.cond (b:=false) (by simp[ev,assoc,Q4]) (T.skip ?_);simp;refine T.cut (fun s=>dZ (av u) l k ii z pn rl (lb && r.dU)=true∧s=⟨[(14,.bool lb),(13,.ai 14 0),(12,I i),(11,aN ws),(10,.au (pq.code.flatMap cK) pq.code.length),(9,.ai 2 0),(5,.ai 1 0),(4,.ai 0 0),(2,.au (l.flatMap cZ) l.length),(3,I k)],[(14,⟨77,0,[I pn,I rl]⟩),(2,⟨55,0,[I ii,.bool r.dU,.au (r.items.flatMap kY) r.items.length]⟩),(1,⟨34,0,[.au ((av u).is.flatMap cP) (av u).is.length,.au ((av u).calls.map ints) (av u).calls.length,aN (av u).roots]⟩),(0,⟨30,0,[.au (u.gs.map fun n=>I n) u.gs.length,.au (u.ms.flatMap eQ) u.ms.length,.au (u.ps.flatMap kR) u.ps.length,I u.main]⟩)],15⟩) ?_ ?_
     ·cases hc:km z with
      | true=>
       rw[hc] at MR;apply ah;simp[hC,Mf,KJ,MR];refine cz ?_;simp;refine T.cut (fun s=>s=⟨[(144,.bool (!dZ (av u) l k ii z pn rl (lb && r.dU))),(14,.bool lb),(13,.ai 14 0),(12,I i),(11,aN ws),(10,.au (pq.code.flatMap cK) pq.code.length),(9,.ai 2 0),(5,.ai 1 0),(4,.ai 0 0),(2,.au (l.flatMap cZ) l.length),(3,I k)],[(14,⟨77,0,[I pn,I rl]⟩),(2,⟨55,0,[I ii,.bool r.dU,.au (r.items.flatMap kY) r.items.length]⟩),(1,⟨34,0,[.au ((av u).is.flatMap cP) (av u).is.length,.au ((av u).calls.map ints) (av u).calls.length,aN (av u).roots]⟩),(0,⟨30,0,[.au (u.gs.map fun n=>I n) u.gs.length,.au (u.ms.flatMap eQ) u.ms.length,.au (u.ps.flatMap kR) u.ps.length,I u.main]⟩)],15⟩) ?_ ?_
       ·by_cases MK:rl<0
        ·have NM:dZ (av u) l k ii z pn rl (lb && r.dU)=false:=by simp[dZ,hc,MK]
         refine T.rx af follows [0,1,2,3,4,5,6,7,8,9,10,11,12,13,14,15,16,17,18,19,20,21,22,23,24,25,26,27,28,29,30,31,32,33,34,35,36,37,38,39,40,41,42,43] [] lz ?_;simp[hC,MK];refine aa.trim [144,14,13,12,11,10,9,5,4,2,3] [14,2,1,0] 15 Ox yA ?_;simp[NM]
        obtain⟨rn,rfl⟩:∃ rn:Nat,rl=rn:=⟨rl.toNat,by omega⟩;by_cases Lr:(k:Int)≤rn
        ·have NM:dZ (av u) l k ii z pn rn (lb && r.dU)=false:=by simp[dZ,hc,Lr]
         refine T.rx af follows [0,1,2,3,4,5,6,7,8,9,10,11,12,13,14,15,16,17,18,19,20,21,22,23,24,25,26,27,28,29,30,31,32,33,34,35,36,37,38,39,40,41,42,43] [] lz ?_;simp[hC,MK,Lr];refine aa.trim [144,14,13,12,11,10,9,5,4,2,3] [14,2,1,0] 15 Ox yA ?_;simp[NM]
        obtain⟨q,hq⟩:∃ q,l[rn]? = some q:=⟨_,List.getElem?_eq_getElem yA⟩;have Lc:=(List.getElem?_eq_some_iff.1 hq).1;have M3:=az (f:=cZ) (n:=3) cj hq;have LP:=bb (f:=cZ) (n:=3) cj hq 1 yA;obtain⟨row,KL,Kl,X3⟩:=xj hu hx hz hc;have Mr:=uS ints KL;have NF:=uS um Kl;have Ma:=(List.getElem?_eq_some_iff.1 KL).1;have KR:=(List.getElem?_eq_some_iff.1 Kl).1;have K9:=xT (lr:=lb && r.dU) hc MK Lr hq KL Kl;generalize sH (av u) ii pn=kn at *;by_cases Nd:q.inst=kn
        case neg=>
         have Nb:(q.inst != (kn:Int))=true:=by rw[bne_iff_ne];exact Nd
         refine T.rx af follows [0,1,2,3,4,5,6,7,8,9,10,11,12,13,14,15,16,17,18,19,20,21,22,23,24,25,26,27,28,29,30,31,32,33,34,35,36,37,38,39,40,41,42,43] [] lz ?_;simp[hC,MK,Lr,Lc,M3,cZ,Mr,Ma,NF,KR,ints,Nb];refine aa.trim [144,14,13,12,11,10,9,5,4,2,3] [14,2,1,0] 15 Ox yA ?_;simp[K9,Nd]
        have Nb:(q.inst != (kn:Int))=false:=by rw[bne_eq_false_iff_eq];exact Nd
        cases N1:q.dU with
        | false=>
         refine T.rx af follows [0,1,2,3,4,5,6,7,8,9,10,11,12,13,14,15,16,17,18,19,20,21,22,23,24,25,26,27,28,29,30,31,32,33,34,35,36,37,38,39,40,41,42,43] [] lz ?_;simp[hC,MK,Lr,Lc,M3,cZ,Mr,Ma,NF,KR,ints,Nb,N1];refine aa.trim [144,14,13,12,11,10,9,5,4,2,3] [14,2,1,0] 15 Ox yA ?_;simp[K9,Nd,N1]
        | true=>
         cases lb with
         | false=>
          simp[Nd,N1] at K9;refine T.rx af follows [0,1,2,3,4,5,6,7,8,9,10,11,12,13,14,15,16,17,18,19,20,21,22,23,24,25,26,27,28,29,30,31,32,33,34,35,36,37,38,39,40,41,42,43] [] lz ?_;simp[hC,MK,Lr,Lc,M3,cZ,Mr,Ma,NF,KR,ints,Nb,N1];refine aa.trim [144,14,13,12,11,10,9,5,4,2,3] [14,2,1,0] 15 Ox yA ?_;simp[K9]
         | true=>
          simp[Nd,N1] at K9;refine T.rx af follows [0,1,2,3,4,5,6,7,8,9,10,11,12,13,14,15,16,17,18,19,20,21,22,23,24,25,26,27,28,29,30,31,32,33,34,35,36,37,38,39,40,41,42,43] [] lz ?_;simp[hC,MK,Lr,Lc,M3,cZ,Mr,Ma,NF,KR,ints,Nb,N1];refine aa.trim [144,14,13,12,11,10,9,5,4,2,3] [14,2,1,0] 15 Ox yA ?_;simp[K9]
       rintro s rfl;by_cases K9:dZ (av u) l k ii z pn rl (lb && r.dU)=true
       ·refine T.cond (b:=false) (by simp[ev,assoc,K9]) (T.skip ?_);simp;refine aa.trim [14,13,12,11,10,9,5,4,2,3] [14,2,1,0] 15 Ox yA ⟨K9,?_⟩;simp
       ·simp only[K9,Bool.false_and] at hD;rw[hD,Bool.and_false] at hv;refine T.cond (b:=true) (by simp[ev,assoc,K9]) ?_;simp;apply ah;simp[hC];apply T.ret;apply aa.here;simp[Tryz.results25,hv]
      | false=>
       have OZ:dZ (av u) l k ii z pn rl (lb && r.dU)=decide (rl=-1):=by simp[dZ,hc]
       rw[hc] at MR;apply ah;simp[hC,Mf,KJ,MR];refine aU ?_;simp;by_cases UC:rl=-1
       ·have V2:(rl != -1)=false:=by simp[UC]
        apply ah;simp[hC,V2];refine dg ?_;simp;refine aa.trim [14,13,12,11,10,9,5,4,2,3] [14,2,1,0] 15 Ox yA ⟨by rw[OZ];simp[UC],?_⟩;simp
       ·have V2:(rl != -1)=true:=by simp[UC]
        rw[OZ] at hD;simp only[UC,decide_false,Bool.false_and] at hD;rw[hD,Bool.and_false] at hv;apply ah;simp[hC,V2];refine cz ?_;simp;apply ah;simp[hC];apply T.ret;apply aa.here;simp[Tryz.results25,hv]
     rintro s ⟨NT,rfl⟩;simp only[NT,Bool.true_and] at hD;have OC:=gX hu x;rw[J9] at OC;have KB:=wu hu K5 hz yA;have ti:=bL x;have Nl:trees [dt u,.agg (cP x),I (pn:Int)]=true:=by simp only[trees,tree,dt,bB,ti,Bool.and_self]
     have Tp:=qo z pn;simp only[dt,dj,cP,ints] at KB Nl;refine T.rx af follows [0,1,2,3,4,5,6,7,8,9,10] [] lz ?_;simp[hC,h1,MF,cP];refine RX.call rfl j5 rfl rfl rfl Nl KB ?_;simp;apply a8;simp[hC,wi];refine⟨r.items.length-(i+1),by omega,aa.trim [12,11,10,9,5,4,2,3] [2,1,0] 3 Ox yA ⟨i+1,qp z pn,rfl,by omega,Tp,hD,?_⟩⟩;simp[H9,mw,dj,fe,ints,aN,J9,cZ,eU,ct,KC]
    ·have CW:i=r.items.length:=by omega
     subst CW;rw[List.drop_length,lE] at hD;rw[hD,Bool.and_true] at hv;apply aL;simp[hC];refine aU ?_;simp;apply T.exit;simp
     cases ho:r.dU with
     | true=>
      apply ah;simp[hC];apply T.ret;apply aa.here;simp[Tryz.results25,hv,ho]
     | false=>
      have he:decide (0<r.items.length)=!r.items.isEmpty:=by
       cases r.items<;>simp
      apply ah;simp[hC,he];apply T.ret;apply aa.here;simp[Tryz.results25,hv,ho]
  ·have hv:cO u (av u) l k r=false:=by simp[cO,KC,List.getElem?_eq_none (by omega:(av u).is.length≤ii)]
   have Mz:((av u).is.length:Int)≤ii:=by omega
   apply aL;simp[hC,KC,OL,Mz];refine cz ?_;simp;apply ah;simp[hC];apply T.ret;apply aa.here;simp[Tryz.results25,hv]
theorem od {u:Un}{c:Cl}{l:List Ru}{k i:Nat}{dU:Bool}{x:Is}:∀ (t:List It) (ws:List Nat),lE u c l k i dU x t ws=true→∀ it∈t,∃ z,fS u x it.pc=some z∧0≤it.pc∧(aC u x)[it.pc.toNat]? = some z∧(it.o0=-1∨0≤it.o0∧it.o0<k)
 | [],_,_,it,h=>by cases h
 | a::t,ws,h,it,hm=>by
  rw[lE] at h
  cases hz:fS u x a.pc with
  | none=>rw[hz] at h;cases h
  | some z=>
   rw[hz] at h;simp only[Bool.and_eq_true] at h;rcases List.mem_cons.1 hm with rfl | hm
   ·have KP:=hz;unfold fS at KP;split at KP
    ·cases KP
    ·refine⟨z,hz,by omega,KP,?_⟩;have hc:=h.1.2;unfold dZ at hc;split at hc
     ·split at hc
      ·cases hc
      ·right;omega
     ·left;simpa using hc
   ·exact od t _ h.2 it hm
theorem lY {u:Un}{c:Cl}{l:List Ru}{k:Nat}{r:Ru}(h:cO u c l k r=true):∃ (ii:Nat) (x:Is),r.inst=ii∧c.is[ii]? = some x∧Du c r.inst=x∧lE u c l k ii r.dU x r.items [0]=true:=by
 unfold cO at h;split at h
 ·cases h
 ·rename_i h0;split at h
  ·cases h
  ·rename_i x hx;simp only[Bool.and_eq_true] at h;exact⟨r.inst.toNat,x,by omega,hx,by simp[Du,List.getD_eq_getElem?_getD,hx],h.2⟩
theorem xC (u:Un)(x:Is)(m:Nat)(L1:List Et)(e:Et):qd u x m L1 [] e=e:=rfl
theorem ua (u:Un)(x:Is)(m:Nat)(L1:List Et)(it:It)(t:List It)(e:Et):qd u x m L1 (it::t) e=qd u x m L1 t (iM e (sA u x m L1 it)):=rfl
theorem eB (l:List Et):trees (l.flatMap dD)=true:=aE (fun _=>rfl) l
theorem lO (l:List Et):tree (jJ l)=true:=by simp only[jJ,tree]
theorem iB (x:Ce):trees (qz x)=true:=by simp only[qz,trees,iC];rfl
def fV (l:List Et):Ob:=⟨47,3,l.flatMap dD⟩
def dM (u:Un)(x:Ce):List Et×Nat×Int:=if x.lock<0∨(u.ms.length:Int)≤x.lock then ([],0,6) else fX u (av u) x.rules x.lock.toNat x.rules []
def IN (x:Ce):Prop:=x.rules.length≤1000∧∀ r∈x.rules,r.items.length≤1000
def FQ (u:Un)(x:Ce):List (Nat×Ob):=(2,⟨39,0,qz x⟩)::mw u
def J203 (u:Un)(x:Ce)(m n:Nat)(s:St):Prop:=∃ (i:Nat) (out:List Et),n=x.rules.length-i∧i≤x.rules.length∧out.length=i∧fX u (av u) x.rules m x.rules []=fX u (av u) x.rules m (x.rules.drop i) out∧
 s=⟨[(10,I i),(9,.bw 3 0 i),(5,.ai 2 0),(4,.ai 1 0),(3,.ai 0 0)],(3,fV out)::FQ u x,4⟩
def J204 (u:Un)(x:Ce)(m i:Nat)(out:List Et)(r:Ru)(y:Is)(n:Nat)(s:St):Prop:=∃ (j:Nat) (e:Et),n=r.items.length-j∧j≤r.items.length∧qd u y m out r.items ⟨0,0,0⟩=qd u y m out (r.items.drop j) e∧
 s=⟨[(13,I j),(12,.ai 5 0),(11,.ai 4 0),(10,I i),(9,.bw 3 0 i),(5,.ai 2 0),(4,.ai 1 0),(3,.ai 0 0)],(5,⟨55,0,cZ r⟩)::(4,⟨47,0,dD e⟩)::(3,fV out)::FQ u x,6⟩
set_option maxRecDepth 100000 in
set_option maxHeartbeats 4000000 in
theorem wz {u:Un}(hu:jP u)(x:Ce)(hb:IN x):ae Tryz.prog 9 [dt u,ja (av u),oD x] (.db [jJ (dM u x).1,I (dM u x).2.1,I (dM u x).2.2]):=by
 have Kd:=bB u;have KN:=cM (av u);have KE:=du x.rules;obtain⟨K1,K0⟩:=hb;refine ae.aD af Tryz.func9 rfl lz (by simp[Tryz.ntmps9]) (by simp only[tree,trees,lO,Bool.true_and]) fun C hC xJ=>?_;rw[Tryz.ntmps9] at hC;simp only[dj,fe,ints] at Kd KN;simp only[dt,ja,dj,fe,ints,oD,qz,ct];apply ah;simp[hC];by_cases h0:x.lock<0
 ·have hv:dM u x=([],0,6):=by simp[dM,h0]
  apply aL;simp[hC,h0];refine cz ?_;simp;apply ah;simp[hC];apply T.ret;simp;refine aa.le (Le.nz [6] []) ?_;apply aa.here;simp[Tryz.results9,hv,jJ]
 obtain⟨m,hm⟩:∃ m:Nat,x.lock=m:=⟨x.lock.toNat,by omega⟩;have OL:¬ (m:Int)<0:=by omega
 by_cases h1:m<u.ms.length
 case neg=>
  have h2:(u.ms.length:Int)≤m:=by omega
  have hv:dM u x=([],0,6):=by simp[dM,hm,h2]
  apply aL;simp[hC,hm,OL,h2];refine cz ?_;simp;apply ah;simp[hC];apply T.ret;simp;refine aa.le (Le.nz [6] []) ?_;apply aa.here;simp[Tryz.results9,hv,jJ]
 have h2:¬ (u.ms.length:Int)≤m:=by omega
 have hv:dM u x=fX u (av u) x.rules m x.rules []:=by rw[dM,if_neg yA,hm,Int.toNat_natCast]
 apply aL;simp[hC,hm,OL,h2];refine dg ?_;simp;apply ah;simp[hC];apply aL;simp[hC];apply T.block;refine T.aI (J203 u x m) (n:=x.rules.length) ?_ ?_
 ·refine aa.le (Le.own 9 47 3 rfl) ?_;simp[St.own];refine aa.trim [10,9,5,4,3] [3,2,1,0] 4 (by simp[-List.all_eq_true,aj Kd,aj KN]) yA ⟨0,[],by omega,by omega,rfl,by simp,?_⟩;simp[FQ,mw,dj,fe,ints,qz,ct,fV,hm]
 ·rintro n s ⟨i,out,rfl,Kz,NO,hD,rfl⟩;simp only[FQ,mw,dj,fe,ints,qz,ct,hm];by_cases nr:i<x.rules.length
  ·obtain⟨r,hr⟩:∃ r,x.rules[i]? = some r:=⟨_,List.getElem?_eq_getElem nr⟩;have R5:=K0 r (List.mem_of_getElem? hr);have oy:=az (f:=cZ) (n:=3) cj hr;have wi:=cm ((i:Int)+1) yA yA;have S7:=AQ hu x.rules i r hr K1 R5;have Ss:trees [dt u,ja (av u),ct x.rules,I (i:Int)]=true:=by simp only[trees,tree,dt,ja,bB,cM,iC,Bool.and_self]
   rw[rP hr,fX,NO] at hD;simp only[dt,ja,dj,fe,ints,ct] at S7 Ss;apply aL;simp[hC,nr];refine gF ?_;simp;apply fw;apply aL;simp[hC];refine dk Ss S7 ?_
   cases PW:cO u (av u) x.rules i r with
   | false=>
    rw[PW,if_neg j5] at hD;rw[hD] at hv;simp[hC];refine cz ?_;simp;apply ah;simp[hC];apply T.ret;refine aa.le (Le.trim [6,7,8] [] 0 j5 yA) ?_;simp;refine aa.le (Le.nz [6] []) ?_;apply aa.here;simp[hv,jJ]
   | true=>
    rw[PW,if_pos rfl] at hD;obtain⟨ii,y,KC,hy,QU,LO⟩:=lY PW;have Nm:=rS hu hy;have NY:=(List.getElem?_eq_some_iff.1 hy).1;have MF:=az (f:=cP) (n:=2) dV hy;have Kq:=od _ _ LO;have Rx:Bv u (av u) m out r=qd u y m out r.items ⟨0,0,0⟩:=by rw[Bv,QU]
    rw[Rx] at hD;simp[hC];refine dg ?_;simp;apply T.seq;have rU:=fun ρ=>aF ρ _ Kd;have rC:=fun ρ=>aF ρ _ KN;have rT:=fun ρ=>aF ρ _ (eB out);have Sv:=aP (av u).roots;refine T.rx af follows [0,1,2,3,4,5,6,7,8,9] [(2,6),(2,7),(2,8),(5,6),(5,7),(5,8),(6,7)] lz ?_;simp[hC,nr,oy,cZ,eU,KC];apply aL;simp[hC];apply T.block;refine T.aI (J204 u x m i out r y) (n:=r.items.length) ?_ ?_
    ·refine aa.le (Le.norm [13,12,11,10,9,5,4,3] [(11,5),(10,4),(3,3),(2,2),(1,1),(0,0)] 0 6 Lb La (by simp[e8,yf,sI,tree,assoc,-List.all_eq_true,-List.all_flatMap,fV,aK Kd,aK KN,aK (eB out)]) yA) ?_;simp[dP,cr,cg,en,gA,assoc,fV,rT,qT];refine aa.here ⟨0,⟨0,0,0⟩,by omega,by omega,by simp,?_⟩;simp[FQ,mw,dj,fe,ints,qz,ct,hm,cZ,eU,KC,fV,dD]
    ·rintro n s ⟨j,e,rfl,Yg,hE,rfl⟩;simp only[FQ,mw,dj,fe,ints,qz,ct,hm,cZ,eU,KC];by_cases KT:j<r.items.length
     ·obtain⟨it,Fl⟩:∃ it,r.items[j]? = some it:=⟨_,List.getElem?_eq_getElem KT⟩;have ND:=az (f:=kY) (n:=2) iq Fl;have Ry:=bb (f:=kY) (n:=2) iq Fl 1 yA;have wj:=cm ((j:Int)+1) yA yA;obtain⟨z,Pa,Nw,hz,Lc⟩:=Kq it (List.mem_of_getElem? Fl);obtain⟨p,rl⟩:=it;obtain⟨pn,rfl⟩:∃ pn:Nat,p=pn:=⟨p.toNat,by simp only at Nw;omega⟩;simp only[Int.toNat_natCast] at hz Pa Lc;rw[rP Fl,ua] at hE;have OC:=gX hu y;have Qh:=(List.getElem?_eq_some_iff.1 hz).1;apply aL;simp[hC,KT];refine gF ?_;simp;apply fw;rcases Lc with Lc | Lc
      ·subst Lc;have OD:sA u y m out ⟨pn,-1⟩=Bf (dO y m z):=by simp[sA,Pa]
       rw[OD] at hE;have NH:=yO hu Nm hz m;have ti:=bL y;have Oy:trees [dt u,.agg (cP y),I (pn:Int),I (m:Int)]=true:=by simp only[trees,tree,dt,bB,ti,Bool.and_self]
       have UA:=rof_e (dO y m z);have Ns:=wa e (Bf (dO y m z));simp only[dt,dj,cP,ints] at NH Oy;apply ah;simp[hC,KT,Ry,kY];refine aU ?_;simp;refine T.rx af follows [0,1,2,3,4,5,6,7,8,9,10,11,12,13,14,15,16,17,18,19] [(0,16),(0,17)] lz ?_;simp[hC,KT,ND,kY,MF,cP,NY,dD];refine RX.call rfl j5 rfl rfl rfl Oy NH ?_;simp;refine RX.call rfl j5 rfl rfl rfl rfl UA ?_;simp;refine RX.call rfl j5 rfl rfl rfl rfl Ns ?_;simp[dD];apply a8;simp[hC,wj];refine⟨r.items.length-(j+1),by omega,aa.trim [13,12,11,10,9,5,4,3] [5,4,3,2,1,0] 6 (by simp[fV,-List.all_eq_true,-List.all_flatMap,aj Kd,aj KN,aj (eB _)]) yA ⟨j+1,iM e (Bf (dO y m z)),rfl,by omega,hE,?_⟩⟩;simp[FQ,mw,dj,fe,ints,qz,ct,hm,cZ,eU,KC,fV,dD]
      ·obtain⟨rn,rfl⟩:∃ rn:Nat,rl=rn:=⟨rl.toNat,by omega⟩;obtain⟨e2,TM⟩:∃ e2,out[rn]? = some e2:=⟨_,List.getElem?_eq_getElem yA⟩;have OD:sA u y m out ⟨pn,rn⟩=e2:=by
        have:¬ (rn:Int)=-1:=by omega
        simp[sA,this,List.getD_eq_getElem?_getD,TM]
       rw[OD] at hE;have TO:=az (f:=dD) (n:=3) fW TM;have LK:rn<i:=by omega
       have Ns:=wa e e2;have MK:(0:Int)≤rn:=by omega
       apply ah;simp[hC,KT,Ry,kY];refine cz ?_;simp;refine T.rx af follows [0,1,2,3,4,5,6,7,8,9,10,11] [] lz ?_;simp[hC,KT,Ry,kY,LK,fV,TO,dD];refine RX.call rfl j5 rfl rfl rfl rfl Ns ?_;simp[dD];apply a8;simp[hC,wj];refine⟨r.items.length-(j+1),by omega,aa.trim [13,12,11,10,9,5,4,3] [5,4,3,2,1,0] 6 (by simp[-List.all_eq_true,-List.all_flatMap,aj Kd,aj KN,aj (eB _)]) yA ⟨j+1,iM e (e2),rfl,by omega,hE,?_⟩⟩;simp[FQ,mw,dj,fe,ints,qz,ct,hm,cZ,eU,KC,fV,dD]
     ·have Qi:j=r.items.length:=by omega
      subst Qi;rw[List.drop_length] at hE;rw[xC] at hE;apply aL;simp[hC];refine aU ?_;simp;apply T.exit;simp;have Ki:(fV out).cells.length=out.length*3:=aQ (f:=dD) (n:=3) fW out;have PR:(i+1)*24≤140737488355328:=by omega
      apply a8;simp[hC,aS,Ki,NO,PR,dD,show (fV out).sz=3 from rfl,show (fV out).elem=47 from rfl];have K4:trees ((fV out).cells++[I e.lo,I e.hi,I e.gm])=true:=by rw[bu,show trees (fV out).cells=true from eB out];rfl
      have rN:=fun ρ=>aF ρ _ K4;apply a8;simp[hC,wi];refine⟨x.rules.length-(i+1),by omega,?_⟩;refine aa.le (Le.norm [10,9,5,4,3] [(7,3),(2,2),(1,1),(0,0)] 0 4 Lb La (by simp[e8,yf,sI,tree,assoc,-List.all_eq_true,-List.all_flatMap,aK Kd,aK KN,aK K4]) yA) ?_;simp[dP,cr,cg,en,gA,assoc,rN,qT];rw[hE] at hD;refine aa.here ⟨i+1,out++[e],rfl,by omega,by simp[NO],hD,?_⟩;simp[FQ,mw,dj,fe,ints,qz,ct,hm,fV,dD]
  ·have CW:i=x.rules.length:=by omega
   subst CW;rw[List.drop_length,fX] at hD;rw[hD] at hv;have LY:=eB out;apply aL;simp[hC];refine aU ?_;simp;apply T.exit;simp;apply ah;simp[hC];apply T.ret;have Kk:List.take (x.rules.length*3) (out.flatMap dD)=out.flatMap dD:=List.take_of_length_le (by rw[aQ fW,NO];omega);refine aa.le (Le.trim [6,7,8] [3] 4 (by simp[fV,-List.all_eq_true,aj (eB out)]) yA) ?_;simp;refine aa.le (Le.dC (o:=3) rfl LY) ?_;apply aa.here;simp[hv,jJ,fV,bZ,NO,Kk]
end Go.Proofs.YtlkmbdfhdknlgaaGreatDoor
