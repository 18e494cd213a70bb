/- Close. -/
import Derived.Test.YtlkmbdfhdknlgaaGreatDoorZ36
namespace Go.aT
open Go.Can
theorem n9:∀ {a b:List Nat},(a.map fun n:Nat=>(n:Int))=b.map (fun n:Nat=>(n:Int))→a=b
 | [],[],_=>rfl
 | [],_::_,h=>by simp at h
 | _::_,[],h=>by simp at h
 | x::a,y::b,h=>by
  simp only[List.map_cons,List.cons.injEq] at h;rw[n9 h.2];congr 1;omega
theorem Fg (y x:Is):mr y x.proc (x.bx.map fun n:Nat=>(n:Int))=decide (y=x):=by
 by_cases h:y=x
 ·subst h;simp[mr]
 ·have:¬ ((y.proc:Int)=x.proc∧(y.bx.map fun n:Nat=>(n:Int))=x.bx.map fun n:Nat=>(n:Int)):=fun⟨h1,h2⟩=>by
   apply h;cases y;cases x;simp only at h1 h2;rw[n9 h2];congr 1;omega
  simp only[h,decide_false,mr]
  simpa using this
theorem vc (x:Is):∀ (l:List Is) (k:Nat),mA l x.proc (x.bx.map fun n:Nat=>(n:Int)) k=if x∈l then ((fo l x+k:Nat):Int) else -1
 | [],k=>by simp[mA]
 | y::r,k=>by
  have ih:=vc x r (k+1);rw[mA,Fg];by_cases h:y=x
  ·subst h;simp[fo,List.findIdx_cons]
  ·have h':¬ x=y:=fun e=>h e.symm;simp only[h,decide_false,Bool.false_eq_true,if_false,List.mem_cons,h',false_or];have:((k:Int)+1)=((k+1:Nat):Int):=by simp
   rw[this,ih];split
   ·have:fo (y::r) x=fo r x+1:=by simp[fo,List.findIdx_cons,h]
    rw[this];congr 1;omega
   ·rfl
end Go.aT
namespace Go.Proofs.YtlkmbdfhdknlgaaGreatDoor
open Go.Can Go.aT
def jf (cs:List (List Int)):Ob:=⟨22,1,cs.map ints⟩
theorem iD (l:List Int):tree (ints l)=true:=by simp[ints,tree]
theorem nJ (cs:List (List Int)):trees (cs.map ints)=true:=by
 induction cs with
 | nil=>rfl
 | cons a r ih=>rw[List.map_cons,trees,ih,iD];rfl
def mB (n m:Nat)(r:List Nat):Ob:=⟨34,0,[.bw 3 0 n,.bw 4 0 m,aN r]⟩
def gY:Ob:=⟨34,0,[.ag,.ag,.ag]⟩
@[simp] theorem Dv (l:List Is)(n:Nat):(fa l).cells.all (aZ n)=true:=aj (aE bL l) n
@[simp] theorem isOb_ltS (l:List Is)(n:Nat):aO n (fa l).cells=true:=by rw[bU];exact Dv l n
@[simp] theorem isOb_rnm (ρ:Nat→Nat)(l:List Is):cr ρ (fa l)=fa l:=cq _ _ _ (aE bL l)
@[simp] theorem D5 (l:List (List Int))(n:Nat):(jf l).cells.all (aZ n)=true:=aj (nJ l) n
@[simp] theorem csOb_ltS (l:List (List Int))(n:Nat):aO n (jf l).cells=true:=by rw[bU];exact D5 l n
@[simp] theorem csOb_rnm (ρ:Nat→Nat)(l:List (List Int)):cr ρ (jf l)=jf l:=cq _ _ _ (nJ l)
theorem ry (d:List Int)(n:Nat):trees (d.map I++List.replicate n (I 0))=true:=by
 rw[bu,iK,Bool.true_and]
 induction n with
 | zero=>rfl
 | succ n ih=>rw[List.replicate_succ,trees,ih];rfl
def u6 (d:List Int)(n:Nat):Ob:=⟨3,1,d.map I++List.replicate n (I 0)⟩
@[simp] theorem Dd (d:List Int)(n k:Nat):(u6 d n).cells.all (aZ k)=true:=aj (ry d n) k
@[simp] theorem mkOb_ltS (d:List Int)(n k:Nat):aO k (u6 d n).cells=true:=by rw[bU];exact Dd d n k
theorem FG (d:List Int)(n:Nat)(v:CV):List.take d.length (d.map I++List.replicate (n+1) (I 0))++v::List.drop (d.length+1) (d.map I++List.replicate (n+1) (I 0))=d.map I++v::List.replicate n (I 0):=by
 rw[List.take_append,List.drop_append,List.take_of_length_le j5,List.drop_of_length_le j5];simp[List.replicate_succ]
structure sq (u:Un)(l:List Is):Prop where
 nd:l.Nodup
 v:∀ x∈l,p6 u x
def ClH (u:Un)(l:List Is)(cs:List (List Int))(r:List Nat):List (Nat×Ob):=[(0,⟨30,0,dj u⟩),(1,gY),(2,mB l.length cs.length r),(3,fa l),(4,jf cs)]
structure InvI (u:Un)(x:Is)(i:Nat)(l:List Is)(r:List Nat)(code:List In)(pc:Nat)(l':List Is)(r':List Nat)(d:List Int):Prop where
 kp:pc≤code.length
 c:sq u l'
 at_:l'[i]? = some x
 rl:r'.length≤200*(i+1)+pc
 dl:d.length=pc
 e1:(fJ x code l r).1=(fJ x (code.drop pc) l' r').1
 e2:(fJ x code l r).2.1=d++(fJ x (code.drop pc) l' r').2.1
 e3:(fJ x code l r).2.2=(fJ x (code.drop pc) l' r').2.2
def iE (i sites:Nat)(code:List In)(pc:Nat):List (Nat×CV):=[(9,I pc),(8,.bw 5 0 code.length),(7,.au (code.flatMap cK) code.length),(6,I i),(5,I sites),(4,.ai 2 0),(2,.ai 1 0),(1,.ai 0 0)]
def iH (u:Un)(cs:List (List Int))(l':List Is)(r':List Nat)(d:List Int)(n:Nat):List (Nat×Ob):=[(0,⟨30,0,dj u⟩),(1,gY),(2,mB l'.length cs.length r'),(3,fa l'),(4,jf cs),(5,u6 d n)]
def J36i (u:Un)(x:Is)(i sites:Nat)(l:List Is)(cs:List (List Int))(r:List Nat)(code:List In)(m:Nat)(s:St):Prop:=∃ pc l' r' d,m=code.length-pc∧InvI u x i l r code pc l' r' d∧
 s=⟨iE i sites code pc,iH u cs l' r' d (code.length-pc),6⟩
def J36 (u:Un)(m:Nat)(s:St):Prop:=∃ i l cs r,m=100-i∧i≤l.length∧cs.length=i∧r.length≤200*(i+1)∧sq u l∧kG u (100-i) i l cs r=av u∧
 s=⟨[(6,I i),(5,I ((l.take i).map fun x=>(aC u x).length).sum),(4,.ai 2 0),(2,.ai 1 0),(1,.ai 0 0)],ClH u l cs r,5⟩
set_option maxHeartbeats 4000000 in
theorem tj (u:Un)(hu:jP u):ae Tryz.prog 20 [dt u] (.db [ja (av u),I 0]):=by
 have Kd:=bB u;have To:=hu.main;have Qq:sq u [⟨u.main,[]⟩]:=⟨by simp,fun x hx=>by
  rw[List.mem_singleton] at hx;subst hx;have OS:=hu.np;obtain⟨q,hq⟩:∃ q,u.ps[0]? = some q:=⟨_,List.getElem?_eq_getElem yA⟩;exact⟨⟨q,by simp only;rw[To];exact hq,by simp[(hu.p0 q hq).2]⟩,by simp⟩⟩
 have LN:tree (.db [ja (av u),I 0])=true:=by
  simp only[tree,trees,ja,fe,aP,Bool.and_true]
 refine ae.aD af Tryz.func20 rfl lz (by simp[Tryz.ntmps20]) LN fun C hC xJ=>?_;rw[Tryz.ntmps20] at hC;simp only[dt,dj,ints];apply ah;simp[hC];apply ah;simp[hC,aS];apply ah;simp[hC];apply aL;simp[hC];apply T.block;refine T.aI (J36 u) (n:=100) ?_ ?_
 ·have YS:trees (u.gs.map (CV.int .i64))=true:=iK u.gs;refine aa.le (Le.trim [6,5,4,2,1] [4,3,2,1,0] 5 LR yA) ?_;simp;refine aa.le (Le.dC (o:=3) rfl rfl) ?_;simp;refine aa.le (Le.nz [] [2]) ?_;simp;refine aa.le (Le.nZ 4 1 22 1 rfl rfl) ?_;simp;refine aa.le (Le.norm [6,5,4,2,1] [(0,0),(1,1),(4,2),(2,3),(5,4)] 0 5 Lb La Ui yA) ?_;simp[dP,cr,cg,en,gA,assoc];refine aa.here ⟨0,[⟨u.main,[]⟩],[],[0],by omega,by simp,rfl,by simp,Qq,rfl,?_⟩;simp[ClH,dj,ints,gY,mB,fa,jf,cP,aN]
 ·rintro n s ⟨i,l,cs,r,rfl,hi,P3,Lc,hI,hS,rfl⟩;have ZH:=iU hu hI.nd hI.v;have VJ:=y6 hu hI.nd hI.v;have YS:trees (u.gs.map (CV.int .i64))=true:=iK u.gs;have Sw:=aE bL l;have LS:=nJ cs;simp only[ClH,dj,ints,gY,mB];by_cases nr:i<l.length
  ·obtain⟨x,hx⟩:∃ x,l[i]? = some x:=⟨l[i],List.getElem?_eq_getElem nr⟩;have SG:=hI.v x (List.mem_of_getElem? hx);obtain⟨⟨pq,K2,MD⟩,Wb⟩:=id SG;have J9:aC u x=pq.code:=by simp only[aC,K2]
   have LX:=(List.getElem?_eq_some_iff.1 K2).1;have UI:=bb (f:=kR) (n:=5) ig K2 4 yA;have hlen:=(hu.pr pq (List.mem_of_getElem? K2)).2.2.2.2;have MF:=az (f:=cP) (n:=2) dV hx;have Kk:l.take (i+1)=l.take i++[x]:=by rw[List.take_add_one,hx];rfl
   have SQ:((l.take (i+1)).map fun x=>(aC u x).length).sum=((l.take i).map fun x=>(aC u x).length).sum+pq.code.length:=by
    rw[Kk,List.map_append,List.sum_append];simp[J9]
   have XW:((l.take (i+1)).map fun x=>(aC u x).length).sum≤7105:=by
    have:=List.take_append_drop (i+1) l;have h2:(l.map fun x=>(aC u x).length).sum=((l.take (i+1)).map fun x=>(aC u x).length).sum+((l.drop (i+1)).map fun x=>(aC u x).length).sum:=by
     rw[← List.sum_append,← List.map_append,this]
    omega
   generalize hG:((l.take i).map fun x=>(aC u x).length).sum=sites at SQ;have wi:=cm ((i:Int)+1) yA yA;have ws:=cm ((sites:Int)+(pq.code.length:Int)) yA yA;have Oc:¬ (256:Int)≤(i:Int):=by omega
   have Lu:¬ (8000:Int)<(sites:Int)+(pq.code.length:Int):=by omega
   apply aL;simp[hC,nr,fa];refine gF ?_;simp;apply fw;apply T.seq;refine T.rx af follows [0,1,2,3,4,5,6,7,8,9,10,11] [] lz ?_;simp[hC,nr,MF,cP,LX,UI,kR];apply ah;simp[hC,ws];apply aL;simp[hC,Oc,Lu];refine dg ?_;simp;have K1:8*(pq.code.length:Int)≤281474976710656:=by omega
   have K0:(pq.code.length:Int)≤9223372036854775807:=by omega
   apply ah;simp[hC,K1,K0];apply aL;simp[hC];have Qy:=bP pq.code;have Sf:kG u (100-(i+1)) (i+1) (fJ x pq.code l r).1 (cs++[(fJ x pq.code l r).2.1]) (fJ x pq.code l r).2.2=av u:=by
    rw[← hS];have:100-i=(100-(i+1))+1:=by omega
    rw[this,kG,hx];simp only[J9]
   obtain⟨ext,TG⟩:=qh x pq.code l r;have QC:(((fJ x pq.code l r).1.take (i+1)).map fun x=>(aC u x).length).sum=sites+pq.code.length:=by
    rw[TG,List.take_append_of_le_length yA];exact SQ
   refine T.cutL (fun s=>∃ d,(fJ x pq.code l r).2.1=d∧d.length=pq.code.length∧sq u (fJ x pq.code l r).1∧(fJ x pq.code l r).2.2.length≤200*(i+1)+145∧i<(fJ x pq.code l r).1.length∧s=⟨[(8,.bw 5 0 pq.code.length),(6,I i),(5,I (sites+pq.code.length:Nat)),(4,.ai 2 0),(2,.ai 1 0),(1,.ai 0 0)],iH u cs (fJ x pq.code l r).1 (fJ x pq.code l r).2.2 d 0,6⟩) ?_ ?_
   ·apply T.block;refine T.aI (J36i u x i (sites+pq.code.length) l cs r pq.code) (n:=pq.code.length) ?_ ?_
    ·have Su:trees (List.replicate pq.code.length (CV.int .i64 0))=true:=ry [] pq.code.length;refine aa.le (Le.norm [9,8,7,6,5,4,2,1] [(0,0),(1,1),(2,2),(3,3),(4,4),(17,5)] 0 6 Lb La (by simp[e8,yf,sI,tree,assoc,-List.all_eq_true,-List.all_flatMap,jf,aK LS,aK Sw,aN,aK Su]) yA) ?_;simp[dP,cr,cg,en,gA,assoc,jf,aF _ _ LS,aF _ _ Sw,aN,aF _ _ Su];refine aa.here ⟨0,l,r,[],by omega,⟨by omega,hI,hx,by omega,rfl,rfl,rfl,rfl⟩,?_⟩;simp[iE,iH,gY,mB,u6,fa,dj,ints,jf,aN]
    ·rintro n s ⟨pc,l',r',d,rfl,hV,rfl⟩;obtain⟨v1,v2,v3,v4,v5,v6,v7,v8⟩:=hV;simp only[iE,iH];by_cases kp:pc<pq.code.length
     ·obtain⟨ins,OG⟩:∃ ins,pq.code[pc]? = some ins:=⟨_,List.getElem?_eq_getElem kp⟩;have WI:pq.code.drop pc=ins::pq.code.drop (pc+1):=by
       rw[List.drop_eq_getElem_cons kp,(List.getElem?_eq_some_iff.1 OG).2]
      rw[WI] at v6 v7 v8;have LI:pB u x (pc:Int)=iy x ins:=by
       have:¬ (pc:Int)<0:=by omega
       simp[pB,J9,OG,this]
      have RE:=yP u hu x SG pc;rw[LI] at RE;have Lw:trees [dt u,.agg (cP x),I pc]=true:=by
       simp only[trees,dt,tree,Kd,bL,Bool.and_self]
      have WJ:=az (f:=cP) (n:=2) dV v3;have Wt:=(List.getElem?_eq_some_iff.1 v3).1;have Td:pc+1≤pq.code.length:=by omega
      have U3:=cm ((pc:Int)+1) yA yA;have Yb:=iU hu v2.nd v2.v;have O6:=aE bL l';obtain⟨n',OF⟩:∃ n',pq.code.length-pc=n' + 1:=⟨pq.code.length-pc-1,by omega⟩;have My:=fun v=>FG d n' v;rw[v5] at My;have PE:(d.map I++List.replicate (n' + 1) (I 0)).length=pq.code.length:=by simp;omega
      rw[OF];simp only[u6];have tD:=ry d (n' + 1);generalize hDe:d.map I++List.replicate (n' + 1) (I 0)=D at My PE tD;simp only[dj,ints,dt,cP] at RE Lw;simp only[dj,ints,gY,mB];apply aL;simp[hC,kp];refine gF ?_;simp;apply fw;apply T.seq;refine T.rx af follows [0,1,2,3,4,5,6,11,7,8,9,10,12,13] [(0,11),(2,11),(5,11),(11,7)] lz ?_;simp[hC,Wt,WJ,fa,cP];refine RX.call rfl rfl rfl rfl rfl Lw RE ?_
      cases Qr:iy x ins with
      | none=>
       simp only[Qr,fJ] at v6 v7 v8;simp[vw];apply aL;simp[hC];refine cz ?_;simp;apply ah;simp[hC,kp,Td,PE,My];apply T.exit;simp;apply a8;simp[hC,U3];have tN:trees (d.map I++(I (-1)::List.replicate n' (I 0)))=true:=by
        simp
       refine⟨pq.code.length-(pc+1),by omega,aa.trim [9,8,7,6,5,4,2,1] [0,1,2,3,4,5] 6 (by simp[-List.all_eq_true,-List.all_flatMap,aj O6,bq 6 _ (aP r'),aj tN]) yA ⟨pc+1,l',r',d++[-1],rfl,⟨by omega,v2,v3,by omega,by simp[v5],v6,by rw[v7];simp,v8⟩,?_⟩⟩;have Mp:pq.code.length-(pc+1)=n':=by omega
       rw[Mp];simp[iE,iH,gY,mB,u6,fa,dj,ints]
      | some y=>
       have Vm:=zk hu SG (by rw[J9];exact List.mem_of_getElem? OG) Qr;simp only[Qr,fJ] at v6 v7 v8;simp[vw,cP];apply aL;simp[hC];refine dg ?_;simp;have hf:=te l' yA (fun z hz=>by
        obtain⟨⟨q,hq,hl⟩,_⟩:=v2.v z hz;have:=(hu.pr q (List.mem_of_getElem? hq)).2.1;omega) cs.length (jf cs) LS (aN r') (aP r') y.proc (y.bx.map fun n:Nat=>(n:Int))
       have Qj:mA l' y.proc (y.bx.map fun n:Nat=>(n:Int)) 0=if y∈l' then ((fo l' y:Nat):Int) else -1:=by simpa using vc y l' 0
       rw[← l8,Qj] at hf;refine T.le (Le.norm [10,9,8,7,6,5,4,2,1] [(0,0),(1,1),(2,2),(3,3),(4,4),(5,5),(17,6)] 0 7 Lb La (by simp[e8,yf,sI,tree,assoc,-List.all_eq_true,-List.all_flatMap,jf,aK LS,aK O6,aN,aK tD]) yA) ?_;simp[dP,cr,cg,en,gA,assoc,jf,aF _ _ LS,aF _ _ O6,aN,aF _ _ tD];have tny:=dJ y.bx;have QT:=dJ r';refine T.cut (fun s=>s=⟨(10,.ai 6 0)::iE i (sites+pq.code.length) pq.code pc,[(0,⟨30,0,dj u⟩),(1,gY),(2,mB (dQ l' y).length cs.length r'),(3,fa (dQ l' y)),(4,jf cs),(5,⟨3,1,D⟩),(6,⟨75,0,cP y⟩)],7⟩) ?_ ?_
       ·have On:(⟨75,2,l'.flatMap cP⟩:Ob)=fa l':=rfl;have Mi:(⟨22,1,cs.map ints⟩:Ob)=jf cs:=rfl;simp only[On,Mi];simp only[aN] at hf;apply ah;simp[hC];refine TL.rZ af [3,4] [3,4] 2 0 hf rfl (by rfl) yI rfl rfl (by simp[bl,ev,assoc,cg,en,cU]) (by simp[er,assoc,bY,cU]) (by simp[aO,aZ]) (by simp[cV]) rfl (by simp[pD,bY,cU,dG,iY]) (TL.go' af ?_);by_cases Us:y∈l'
        ·have W3:dQ l' y=l':=if_pos Us;have MU:¬ ((fo l' y:Nat):Int)<0:=by omega
         simp[hC,cU,Us,MU];refine dg ?_;simp;refine aa.trim [10,9,8,7,6,5,4,2,1] [0,1,2,3,4,5,6] 7 (by simp[-List.all_eq_true,-List.all_flatMap,aj tD]) yA ?_;rw[W3];simp[iE,gY,mB,dj,ints,cP,aN]
        ·have W3:dQ l' y=l'++[y]:=if_neg Us;have N5:=aQ (f:=cP) (n:=2) dV l';have Nj:(l'.length+1)*32≤140737488355328:=by omega
         simp[hC,cU,Us];refine cz ?_;simp;apply a8;simp[hC,fa,N5,Nj,aS];have tN:trees (l'.flatMap cP++[.int .i64 y.proc,.au (y.bx.map fun n:Nat=>I n) y.bx.length])=true:=by
          rw[bu,O6];simp[trees,tree]
         have Kz:=aK tN;have LK:=fun ρ=>aF ρ _ tN;refine aa.le (Le.norm [10,9,8,7,6,5,4,2,1] [(0,0),(1,1),(2,2),(8,3),(4,4),(5,5),(6,6)] 0 7 Lb La (by simp[e8,yf,sI,tree,assoc,-List.all_eq_true,-List.all_flatMap,Kz,jf,aK LS,aK tD]) yA) ?_;simp[dP,cr,cg,en,gA,assoc,LK,jf,aF _ _ LS,aF _ _ tD];apply aa.here;rw[W3];simp[iE,gY,mB,dj,ints,cP,aN]
       ·rintro s rfl;have PO:sq u (dQ l' y):=⟨kN v2.nd,zp v2.v Vm⟩;have KR:=iU hu PO.nd PO.v;have Oq:=te (dQ l' y) yA (fun z hz=>by
         obtain⟨⟨q,hq,hl⟩,_⟩:=PO.v z hz;have:=(hu.pr q (List.mem_of_getElem? hq)).2.1;omega) cs.length (jf cs) LS (aN r') (aP r') y.proc (y.bx.map fun n:Nat=>(n:Int))
        have Rq:mA (dQ l' y) y.proc (y.bx.map fun n:Nat=>(n:Int)) 0=((fo (dQ l' y) y:Nat):Int):=by
         have:=vc y (dQ l' y) 0;rw[if_pos (x7 l' y),Nat.add_zero] at this;exact this
        rw[← l8,Rq] at Oq;have NV:=Gi (x:=y) v3;generalize dQ l' y=L at v6 v7 v8 PO KR Oq Rq NV;generalize hk:fo L y=k at v6 v7 v8 Oq Rq;have Qa:=aE bL L;have tN:trees (d.map I++(I k::List.replicate n' (I 0)))=true:=by
         simp
        have Z2:List.drop pc (d.map I++(I k::List.replicate n' (I 0)))=I k::List.replicate n' (I 0):=by
         rw[← v5];have:(d.map I).length=d.length:=by simp
         rw[← this,List.drop_left]
        have QA:=v9 r' k yA;have Qz:trees [aN r',I k]=true:=by simp only[trees,aP,tree,Bool.and_self]
        have QV:(eY r' k).length≤r'.length+1:=by
         unfold eY;split
         ·omega
         ·simp;omega
        simp only[iE,mB,cP,aN] at Oq ⊢;have KJ:=az (f:=cK) (n:=12) eV OG;obtain⟨xc,Lp,_⟩:=jG ins;rw[Lp] at KJ;apply ah;simp[hC];refine TL.rZ af [3,4] [3,4] 2 0 Oq rfl (by rfl) yI rfl rfl (by simp[bl,ev,assoc,cg,en,cU]) (by simp[er,assoc,bY,cU]) (by simp[aO,aZ]) (by simp[cV]) rfl (by simp[pD,bY,cU,dG,iY]) (TL.go' af ?_);simp[hC,cU,kp,Td,PE,My];have Q9:(lA ins == 3)=pj ins:=by
         cases ins with
         | call g _ _ _=>cases g<;>rfl
         | _=>simp[iy] at Qr
        have tnw:=dJ (eY r' k);have Mp:pq.code.length-(pc+1)=n':=by omega
        apply ah;simp[hC,kp,KJ,Q9]
        cases Ro:pj ins with
        | true=>
         simp only[Ro,if_true] at v6 v7 v8;refine T.cond (b:=true) (by simp[ev,assoc]) ?_;simp;refine T.rx af follows [0,1,2,3,4,5,6,7,8] [] lz ?_;simp[hC,kp,Z2];simp only[aN] at QA Qz;refine RX.call rfl rfl rfl rfl rfl Qz QA ?_;simp;apply a8;simp[hC,U3];refine⟨pq.code.length-(pc+1),by omega,aa.trim [9,8,7,6,5,4,2,1] [0,1,2,3,4,5] 6 (by simp[-List.all_eq_true,-List.all_flatMap,aj Kd,aj tN,gY]) yA ⟨pc+1,L,eY r' k,d++[(k:Int)],rfl,⟨by omega,PO,NV,by omega,by simp[v5],v6,by rw[v7];simp,v8⟩,?_⟩⟩;rw[Mp];simp[iE,iH,gY,mB,u6,fa,dj,ints,aN]
        | false=>
         simp only[Ro,Bool.false_eq_true,if_false] at v6 v7 v8;refine T.cond (b:=false) (by simp[ev,assoc]) (T.skip ?_);simp;apply a8;simp[hC,U3];refine⟨pq.code.length-(pc+1),by omega,aa.trim [9,8,7,6,5,4,2,1] [0,1,2,3,4,5] 6 (by simp[-List.all_eq_true,-List.all_flatMap,aj Kd,aj tN,gY]) yA ⟨pc+1,L,r',d++[(k:Int)],rfl,⟨by omega,PO,NV,by omega,by simp[v5],v6,by rw[v7];simp,v8⟩,?_⟩⟩;rw[Mp];simp[iE,iH,gY,mB,u6,fa,dj,ints,aN]
     ·have Tc:pc=pq.code.length:=by omega
      subst Tc;rw[List.drop_length] at v6 v7 v8;simp only[fJ,List.append_nil] at v6 v7 v8;have N5:=iU hu v2.nd v2.v;have O6:=aE bL l';have QT:=dJ r';rw[Nat.sub_self];have tD:=ry d 0;apply aL;simp[hC];refine aU ?_;simp;apply T.exit;simp;refine aa.trim [8,6,5,4,2,1] [0,1,2,3,4,5] 6 (by simp[-List.all_eq_true,-List.all_flatMap,aj Kd,gY,mB,aN]) yA ?_;simp only[v6,v7,v8];refine⟨v5,v2,by omega,(List.getElem?_eq_some_iff.1 v3).1,?_⟩;simp
   ·rintro s ⟨d,hd,PE,PO,Kl,KK,rfl⟩;have KR:=iU hu PO.nd PO.v;rw[hd] at Sf;generalize (fJ x pq.code l r).1=L at PO KK KR Sf QC ⊢;generalize (fJ x pq.code l r).2.2=R at Kl Sf ⊢;clear hd TG;have Qa:=aE bL L;simp only[eC,iH];have tD:=ry d 0;simp only[List.replicate_zero,List.append_nil] at tD;have YP:List.take pq.code.length (d.map I)=d.map I:=List.take_of_length_le Lv;have Nj:(cs.length+1)*24≤140737488355328:=by omega
    have De:(cs.map ints).length=cs.length:=by simp
    have hints:(CV.au (d.map I) pq.code.length)=ints d:=by rw[ints,PE]
    have QT:=dJ R;have tN:trees (cs.map ints++[ints d])=true:=by rw[bu,LS,trees,iD];rfl
    simp only[u6,List.replicate_zero,List.append_nil];refine T.le (Le.dC (o:=5) rfl tD) ?_;simp[YP,dv LS,dv Qa,jf,fa,mB,gY,aN,dv Kd];rw[hints];apply a8;simp[hC,De,Nj,aS];apply a8;simp[hC,wi];have Kz:=aK tN;have LK:=fun ρ=>aF ρ _ tN;refine⟨100-(i+1),by omega,?_⟩;refine aa.le (Le.norm [6,5,4,2,1] [(0,0),(1,1),(2,2),(3,3),(7,4)] 0 5 Lb La (by simp[e8,yf,sI,tree,assoc,-List.all_eq_true,-List.all_flatMap,Kz,aK Kd,aK Qa]) yA) ?_;simp[dP,cr,cg,en,gA,assoc,LK,aF _ _ Kd,aF _ _ Qa];refine aa.here ⟨i+1,L,cs++[d],R,by omega,by omega,by simp[P3],by omega,PO,Sf,?_⟩;rw[QC];simp[ClH,gY,mB,fa,jf,aN]
  ·have CW:i=l.length:=by omega
   have MY:av u=⟨l,cs,r⟩:=by
    rw[← hS];have h1:l[i]? = none:=by rw[List.getElem?_eq_none_iff];omega
    obtain⟨k,hk⟩:∃ k,100-i=k+1:=⟨99-i,by omega⟩;rw[hk,kG,h1]
   have QT:=dJ r;have Uk:List.take (l.length*2) (l.flatMap cP)=l.flatMap cP:=List.take_of_length_le (by rw[aQ (f:=cP) (n:=2) dV];omega);have YQ:List.take cs.length (cs.map ints)=cs.map ints:=List.take_of_length_le j5;apply aL;simp[hC,nr,fa];refine aU ?_;simp;apply T.exit;simp;apply ah;simp[hC];apply T.ret;rw[MY];refine aa.le (Le.trim [3,2] [1,3,4] 5 (by simp[-List.all_eq_true,-List.all_flatMap,aj Sw,aj LS,aN,jf]) yA) ?_;simp[aN];refine aa.le (Le.dC (o:=3) rfl Sw) ?_;simp[Uk,dv LS,jf];refine aa.le (Le.dC (o:=4) rfl LS) ?_;simp[YQ];apply aa.here;simp[ja,fe,aN]
end Go.Proofs.YtlkmbdfhdknlgaaGreatDoor
