/- Lemmas. -/
import Derived.Test.YtlkmbdfhdknlgaaGreatW22
namespace Go.aK
open Go.Can List
theorem sI:∀ {a b:List Nat},(a.map λ n:Nat=>(n:Int))=b.map (λ n:Nat=>(n:Int))->a=b
 | [],[],_=>rfl
 | [],_::_,h=>by simp at h
 | _::_,[],h=>by simp at h
 | x::a,y::b,h=>by
  simp only[map_cons,cons.injEq] at h;rw[sI h.2];congr 1;omega
theorem M8 (y x:Is):nO y x.proc (x.bh.map λ n:Nat=>(n:Int))=decide (y=x):=by
 by_cases h:y=x
 .subst h;simp[nO]
 .have:¬ ((y.proc:Int)=x.proc/\(y.bh.map λ n:Nat=>(n:Int))=x.bh.map λ n:Nat=>(n:Int)):=λ⟨h1,h2⟩=>by
   apply h;cases y;cases x;simp only at h1 h2;rw[sI h2];congr 1;omega
  simp only[h,decide_false,nO]
  simpa using this
theorem wy (x:Is):∀ (l:List Is) (k:Nat),ln l x.proc (x.bh.map λ n:Nat=>(n:Int)) k=if x∈l then ((eC l x+k:Nat):Int) else -1
 | [],k=>by simp[ln]
 | y::r,k=>by
  have ih:=wy x r (k+1);rw[ln,M8];by_cases h:y=x
  .subst h;simp[eC,findIdx_cons]
  .have h':¬ x=y:=λ e=>h e.symm;simp only[h,decide_false,Bool.false_eq_true,if_false,mem_cons,h',false_or];have:((k:Int)+1)=((k+1:Nat):Int):=by simp
   rw[this,ih];split
   .have:eC (y::r) x=eC r x+1:=by simp[eC,findIdx_cons,h]
    rw[this];congr 1;omega
   .rfl
end Go.aK
namespace Go.Proofs.YtlkmbdfhdknlgaaGreat
open Go.Can Go.aK List
def lM (cs:List (List Int)):Ob:=⟨22,1,cs.map ints⟩
theorem de (l:List Int):tree (ints l)=true:=by simp[ints,tree]
theorem jP (cs:List (List Int)):trees (cs.map ints)=true:=by
 induction cs with
 | nil=>rfl
 | cons a r ih=>rw[map_cons,trees,ih,de];rfl
def qz (n m:Nat)(r:List Nat):Ob:=⟨34,0,[.a7 3 0 n,.a7 4 0 m,aA r]⟩
def jZ:Ob:=⟨34,0,[.aj,.aj,.aj]⟩
@[simp] theorem KU (l:List Is)(n:Nat):(gM l).cells.all (aU n)=true:=ai (ak bS l) n
@[simp] theorem isOb_ltS (l:List Is)(n:Nat):ba n (gM l).cells=true:=by rw[aT];exact KU l n
@[simp] theorem isOb_rnm (ρ:Nat->Nat)(l:List Is):bb ρ (gM l)=gM l:=dm _ _ _ (ak bS l)
@[simp] theorem LF (l:List (List Int))(n:Nat):(lM l).cells.all (aU n)=true:=ai (jP l) n
@[simp] theorem csOb_ltS (l:List (List Int))(n:Nat):ba n (lM l).cells=true:=by rw[aT];exact LF l n
@[simp] theorem csOb_rnm (ρ:Nat->Nat)(l:List (List Int)):bb ρ (lM l)=lM l:=dm _ _ _ (jP l)
theorem xH (d:List Int)(n:Nat):trees (d.map I++replicate n (I 0))=true:=by
 rw[a9,aP,Bool.true_and]
 induction n with
 | zero=>rfl
 | succ n ih=>rw[replicate_succ,trees,ih];rfl
def AT (d:List Int)(n:Nat):Ob:=⟨3,1,d.map I++replicate n (I 0)⟩
@[simp] theorem KC (d:List Int)(n k:Nat):(AT d n).cells.all (aU k)=true:=ai (xH d n) k
@[simp] theorem mkOb_ltS (d:List Int)(n k:Nat):ba k (AT d n).cells=true:=by rw[aT];exact KC d n k
theorem NH (d:List Int)(n:Nat)(v:CV):take d.length (d.map I++replicate (n+1) (I 0))++v::drop (d.length+1) (d.map I++replicate (n+1) (I 0))=d.map I++v::replicate n (I 0):=by
 rw[take_append,drop_append,take_of_length_le xr,drop_of_length_le xr];simp[replicate_succ]
structure yG (u:Un)(l:List Is):Prop where
 nd:l.Nodup
 v:∀ x∈l,ub u x
def ClH (u:Un)(l:List Is)(cs:List (List Int))(r:List Nat):List (Nat×Ob):=[(0,⟨30,0,dk u⟩),(1,jZ),(2,qz l.length cs.length r),(3,gM l),(4,lM cs)]
structure InvI (u:Un)(x:Is)(i:Nat)(l:List Is)(r:List Nat)(code:List In)(pc:Nat)(l':List Is)(r':List Nat)(d:List Int):Prop where
 gQ:pc<=code.length
 c:yG u l'
 at_:l'[i]? = some x
 rl:r'.length<=200*(i+1)+pc
 dl:d.length=pc
 e1:(iM x code l r).1=(iM x (code.drop pc) l' r').1
 e2:(iM x code l r).2.1=d++(iM x (code.drop pc) l' r').2.1
 e3:(iM x code l r).2.2=(iM x (code.drop pc) l' r').2.2
def iE (i sites:Nat)(code:List In)(pc:Nat):List (Nat×CV):=[(9,I pc),(8,.a7 5 0 code.length),(7,.az (code.flatMap cY) code.length),(6,I i),(5,I sites),(4,.ax 2 0),(2,.ax 1 0),(1,.ax 0 0)]
def iH (u:Un)(cs:List (List Int))(l':List Is)(r':List Nat)(d:List Int)(n:Nat):List (Nat×Ob):=[(0,⟨30,0,dk u⟩),(1,jZ),(2,qz l'.length cs.length r'),(3,gM l'),(4,lM cs),(5,AT d n)]
def J36i (u:Un)(x:Is)(i sites:Nat)(l:List Is)(cs:List (List Int))(r:List Nat)(code:List In)(m:Nat)(s:St):Prop:=∃ pc l' r' d,m=code.length-pc/\InvI u x i l r code pc l' r' d/\
 s=⟨iE i sites code pc,iH u cs l' r' d (code.length-pc),6⟩
def J36 (u:Un)(m:Nat)(s:St):Prop:=∃ i l cs r,m=100-i/\i<=l.length/\cs.length=i/\r.length<=200*(i+1)/\yG u l/\lz u (100-i) i l cs r=aw u/\
 s=⟨[(6,I i),(5,I ((l.take i).map λ x=>(ay u x).length).sum),(4,.ax 2 0),(2,.ax 1 0),(1,.ax 0 0)],ClH u l cs r,5⟩
set_option maxHeartbeats 4000000 in
theorem zn (u:Un)(hu:gg u):ae Tryz.prog 28 [cf u] (.cF [ib (aw u),I 0]):=by
 have SH:=bm u;have hmain:=hu.main;have hcl0:yG u [⟨u.main,[]⟩]:=⟨by simp,λ x hx=>by
  rw[mem_singleton] at hx;subst hx;have XW:=hu.np;obtain⟨q,hq⟩:∃ q,u.ps[0]? = some q:=⟨_,getElem?_eq_getElem yA⟩;exact⟨⟨q,by simp only;rw[hmain];exact hq,by simp[(hu.p0 q hq).2]⟩,by simp⟩⟩
 have SJ:tree (.cF [ib (aw u),I 0])=true:=by
  simp only[tree,trees,ib,gE,aE,Bool.and_true]
 refine ae.aD af Tryz.func28 rfl Bw (by simp[Tryz.ntmps28]) SJ λ C hC M0=>?_;rw[Tryz.ntmps28] at hC;simp only[cf,dk,ints];apply aq;simp[hC];apply aq;simp[hC,aY];apply aq;simp[hC];apply aW;simp[hC];apply T.block;refine T.aI (J36 u) (n:=100) ?_ ?_
 .have tgs:trees (u.gs.map (CV.int .i64))=true:=aP u.gs;refine aa.le (Le.trim [6,5,4,2,1] [4,3,2,1,0] 5 We yA) ?_;simp;refine aa.le (Le.di (o:=3) rfl rfl) ?_;simp;refine aa.le (Le.nz [] [2]) ?_;simp;refine aa.le (Le.mU 4 1 22 1 rfl rfl) ?_;simp;refine aa.le (Le.norm [6,5,4,2,1] [(0,0),(1,1),(4,2),(2,3),(5,4)] 0 5 SZ SY yCu yA) ?_;simp[cq,bb,aX,cO,ec,assoc];refine aa.here ⟨0,[⟨u.main,[]⟩],[],[0],by omega,by simp,rfl,by simp,hcl0,rfl,?_⟩;simp[ClH,dk,ints,jZ,qz,gM,lM,dW,aA]
 .rintro n s ⟨i,l,cs,r,rfl,hi,hci,hrl,hI,hS,rfl⟩;have hl49:=jU hu hI.nd hI.v;have hsites:=Fa hu hI.nd hI.v;have tgs:trees (u.gs.map (CV.int .i64))=true:=aP u.gs;have XR:=ak bS l;have T8:=jP cs;simp only[ClH,dk,ints,jZ,qz];by_cases Jz:i<l.length
  .obtain⟨x,hx⟩:∃ x,l[i]? = some x:=⟨l[i],getElem?_eq_getElem Jz⟩;have hxv:=hI.v x (mem_of_getElem? hx);obtain⟨⟨pq,TE,TY⟩,VA⟩:=id hxv;have Sw:ay u x=pq.code:=by simp only[ay,TE]
   have Tx:=(List.getElem?_eq_some_iff.1 TE).1;have UQ:=cb (f:=nA) (n:=5) iY TE 4 yA;have hlen:=(hu.pr pq (mem_of_getElem? TE)).2.2.2.2;have hdi:=aL (f:=dW) (n:=2) g9 hx;have SE:l.take (i+1)=l.take i++[x]:=by rw[take_add_one,hx];rfl
   have Yl:((l.take (i+1)).map λ x=>(ay u x).length).sum=((l.take i).map λ x=>(ay u x).length).sum+pq.code.length:=by
    rw[SE,map_append,sum_append];simp[Sw]
   have hsum2:((l.take (i+1)).map λ x=>(ay u x).length).sum<=7105:=by
    have:=take_append_drop (i+1) l;have h2:(l.map λ x=>(ay u x).length).sum=((l.take (i+1)).map λ x=>(ay u x).length).sum+((l.drop (i+1)).map λ x=>(ay u x).length).sum:=by
     rw[<- sum_append,<- map_append,this]
    omega
   generalize hG:((l.take i).map λ x=>(ay u x).length).sum=sites at Yl;have wi:=cr ((i:Int)+1) yA yA;have ws:=cr ((sites:Int)+(pq.code.length:Int)) yA yA;have WK:¬ (256:Int)<=(i:Int):=by omega
   have T7:¬ (8000:Int)<(sites:Int)+(pq.code.length:Int):=by omega
   apply aW;simp[hC,Jz,gM];refine jk ?_;simp;apply eE;apply T.seq;refine T.rx af follows [0,1,2,3,4,5,6,7,8,9,10,11] [] Bw ?_;simp[hC,Jz,hdi,dW,Tx,UQ,nA];apply aq;simp[hC,ws];apply aW;simp[hC,WK,T7];refine gk ?_;simp;have WW:8*(pq.code.length:Int)<=281474976710656:=by omega
   have T0:(pq.code.length:Int)<=9223372036854775807:=by omega
   apply aq;simp[hC,WW,T0];apply aW;simp[hC];have tco:=cA pq.code;have hS2:lz u (100-(i+1)) (i+1) (iM x pq.code l r).1 (cs++[(iM x pq.code l r).2.1]) (iM x pq.code l r).2.2=aw u:=by
    rw[<- hS];have:100-i=(100-(i+1))+1:=by omega
    rw[this,lz,hx];simp only[Sw]
   obtain⟨ext,hext⟩:=su x pq.code l r;have ZS:(((iM x pq.code l r).1.take (i+1)).map λ x=>(ay u x).length).sum=sites+pq.code.length:=by
    rw[hext,take_append_of_le_length yA];exact Yl
   refine T.cutL (λ s=>∃ d,(iM x pq.code l r).2.1=d/\d.length=pq.code.length/\yG u (iM x pq.code l r).1/\(iM x pq.code l r).2.2.length<=200*(i+1)+145/\i<(iM x pq.code l r).1.length/\s=⟨[(8,.a7 5 0 pq.code.length),(6,I i),(5,I (sites+pq.code.length:Nat)),(4,.ax 2 0),(2,.ax 1 0),(1,.ax 0 0)],iH u cs (iM x pq.code l r).1 (iM x pq.code l r).2.2 d 0,6⟩) ?_ ?_
   .apply T.block;refine T.aI (J36i u x i (sites+pq.code.length) l cs r pq.code) (n:=pq.code.length) ?_ ?_
    .have trep:trees (replicate pq.code.length (CV.int .i64 0))=true:=xH [] pq.code.length;refine aa.le (Le.norm [9,8,7,6,5,4,2,1] [(0,0),(1,1),(2,2),(3,3),(4,4),(17,5)] 0 6 SZ SY (by simp[cB,mZ,lF,tree,assoc,-all_eq_true,-all_flatMap,lM,au T8,au XR,aA,au trep]) yA) ?_;simp[cq,bb,aX,cO,ec,assoc,lM,ah _ _ T8,ah _ _ XR,aA,ah _ _ trep];refine aa.here ⟨0,l,r,[],by omega,⟨by omega,hI,hx,by omega,rfl,rfl,rfl,rfl⟩,?_⟩;simp[iE,iH,jZ,qz,AT,gM,dk,ints,lM,aA]
    .rintro n s ⟨pc,l',r',d,rfl,hV,rfl⟩;obtain⟨v1,v2,v3,v4,v5,v6,v7,v8⟩:=hV;simp only[iE,iH];by_cases gQ:pc<pq.code.length
     .obtain⟨ins,VU⟩:∃ ins,pq.code[pc]? = some ins:=⟨_,getElem?_eq_getElem gQ⟩;have hdn:pq.code.drop pc=ins::pq.code.drop (pc+1):=by
       rw[drop_eq_getElem_cons gQ,(List.getElem?_eq_some_iff.1 VU).2]
      rw[hdn] at v6 v7 v8;have U0:uX u x (pc:Int)=kK x ins:=by
       have:¬ (pc:Int)<0:=by omega
       simp[uX,Sw,VU,this]
      have WT:=ED u hu x hxv pc;rw[U0] at WT;have MY:trees [cf u,.agg (dW x),I pc]=true:=by
       simp only[trees,cf,tree,SH,bS,Bool.and_self]
      have hdi':=aL (f:=dW) (n:=2) g9 v3;have hil':=(List.getElem?_eq_some_iff.1 v3).1;have hpc1:pc+1<=pq.code.length:=by omega
      have Zb:=cr ((pc:Int)+1) yA yA;have hl49':=jU hu v2.nd v2.v;have Ya:=ak bS l';obtain⟨n',XF⟩:∃ n',pq.code.length-pc=n' + 1:=⟨pq.code.length-pc-1,by omega⟩;have Vz:=λ v=>NH d n' v;rw[v5] at Vz;have UX:(d.map I++replicate (n' + 1) (I 0)).length=pq.code.length:=by simp;omega
      rw[XF];simp only[AT];have tD:=xH d (n' + 1);generalize hDe:d.map I++replicate (n' + 1) (I 0)=D at Vz UX tD;simp only[dk,ints,cf,dW] at WT MY;simp only[dk,ints,jZ,qz];apply aW;simp[hC,gQ];refine jk ?_;simp;apply eE;apply T.seq;refine T.rx af follows [0,1,2,3,4,5,6,11,7,8,9,10,12,13] [(0,11),(2,11),(5,11),(11,7)] Bw ?_;simp[hC,hil',hdi',gM,dW];refine RX.call rfl rfl rfl rfl rfl MY WT ?_
      cases YL:kK x ins with
      | none=>
       simp only[YL,iM] at v6 v7 v8;simp[Bv];apply aW;simp[hC];refine du ?_;simp;apply aq;simp[hC,gQ,hpc1,UX,Vz];apply T.exit;simp;apply aM;simp[hC,Zb];have tN:trees (d.map I++(I (-1)::replicate n' (I 0)))=true:=by
        simp
       refine⟨pq.code.length-(pc+1),by omega,aa.trim [9,8,7,6,5,4,2,1] [0,1,2,3,4,5] 6 (by simp[-all_eq_true,-all_flatMap,ai Ya,bG 6 _ (aE r'),ai tN]) yA ⟨pc+1,l',r',d++[-1],rfl,⟨by omega,v2,v3,by omega,by simp[v5],v6,by rw[v7];simp,v8⟩,?_⟩⟩;have U5:pq.code.length-(pc+1)=n':=by omega
       rw[U5];simp[iE,iH,jZ,qz,AT,gM,dk,ints]
      | some y=>
       have hyv:=Fy hu hxv (by rw[Sw];exact mem_of_getElem? VU) YL;simp only[YL,iM] at v6 v7 v8;simp[Bv,dW];apply aW;simp[hC];refine gk ?_;simp;have hf:=zk l' yA (λ z hz=>by
        obtain⟨⟨q,hq,hl⟩,_⟩:=v2.v z hz;have:=(hu.pr q (mem_of_getElem? hq)).2.1;omega) cs.length (lM cs) T8 (aA r') (aE r') y.proc (y.bh.map λ n:Nat=>(n:Int))
       have Up:ln l' y.proc (y.bh.map λ n:Nat=>(n:Int)) 0=if y∈l' then ((eC l' y:Nat):Int) else -1:=by simpa using wy y l' 0
       rw[<- kR,Up] at hf;refine T.le (Le.norm [10,9,8,7,6,5,4,2,1] [(0,0),(1,1),(2,2),(3,3),(4,4),(5,5),(17,6)] 0 7 SZ SY (by simp[cB,mZ,lF,tree,assoc,-all_eq_true,-all_flatMap,lM,au T8,au Ya,aA,au tD]) yA) ?_;simp[cq,bb,aX,cO,ec,assoc,lM,ah _ _ T8,ah _ _ Ya,aA,ah _ _ tD];have tny:=aC y.bh;have tnr:=aC r';refine T.cut (λ s=>s=⟨(10,.ax 6 0)::iE i (sites+pq.code.length) pq.code pc,[(0,⟨30,0,dk u⟩),(1,jZ),(2,qz (fy l' y).length cs.length r'),(3,gM (fy l' y)),(4,lM cs),(5,⟨3,1,D⟩),(6,⟨95,0,dW y⟩)],7⟩) ?_ ?_
       .have Vu:(⟨95,2,l'.flatMap dW⟩:Ob)=gM l':=rfl;have TV:(⟨22,1,cs.map ints⟩:Ob)=lM cs:=rfl;simp only[Vu,TV];simp only[aA] at hf;apply aq;simp[hC];refine TL.yk af [3,4] [3,4] 2 0 hf rfl Ts Rg rfl rfl (by simp[bK,ev,assoc,aX,cO,bU]) (by simp[eZ,assoc,bz,bU]) (by simp[ba,aU]) (by simp[dn]) rfl yBv (TL.go' af ?_);by_cases hym:y∈l'
        .have had:fy l' y=l':=if_pos hym;have hneg:¬ ((eC l' y:Nat):Int)<0:=by omega
         simp[hC,bU,hym,hneg];refine gk ?_;simp;refine aa.trim [10,9,8,7,6,5,4,2,1] [0,1,2,3,4,5,6] 7 (by simp[-all_eq_true,-all_flatMap,ai tD]) yA ?_;rw[had];simp[iE,jZ,qz,dk,ints,dW,aA]
        .have had:fy l' y=l'++[y]:=if_neg hym;have W5:=aG (f:=dW) (n:=2) g9 l';have WX:(l'.length+1)*32<=140737488355328:=by omega
         simp[hC,bU,hym];refine du ?_;simp;apply aM;simp[hC,gM,W5,WX,aY];have tN:trees (l'.flatMap dW++[.int .i64 y.proc,.az (y.bh.map λ n:Nat=>I n) y.bh.length])=true:=by
          rw[a9,Ya];simp[trees,tree]
         have SF:=au tN;have VM:=λ ρ=>ah ρ _ tN;refine aa.le (Le.norm [10,9,8,7,6,5,4,2,1] [(0,0),(1,1),(2,2),(8,3),(4,4),(5,5),(6,6)] 0 7 SZ SY (by simp[cB,mZ,lF,tree,assoc,-all_eq_true,-all_flatMap,SF,lM,au T8,au tD]) yA) ?_;simp[cq,bb,aX,cO,ec,assoc,VM,lM,ah _ _ T8,ah _ _ tD];apply aa.here;rw[had];simp[iE,jZ,qz,dk,ints,dW,aA]
       .rintro s rfl;have XO:yG u (fy l' y):=⟨oA v2.nd,FH v2.v hyv⟩;have TO:=jU hu XO.nd XO.v;have Tm:=zk (fy l' y) yA (λ z hz=>by
         obtain⟨⟨q,hq,hl⟩,_⟩:=XO.v z hz;have:=(hu.pr q (mem_of_getElem? hq)).2.1;omega) cs.length (lM cs) T8 (aA r') (aE r') y.proc (y.bh.map λ n:Nat=>(n:Int))
        have hfr2:ln (fy l' y) y.proc (y.bh.map λ n:Nat=>(n:Int)) 0=((eC (fy l' y) y:Nat):Int):=by
         have:=wy y (fy l' y) 0;rw[if_pos (DT l' y),Nat.add_zero] at this;exact this
        rw[<- kR,hfr2] at Tm;have Uc:=OC (x:=y) v3;generalize fy l' y=L at v6 v7 v8 XO TO Tm hfr2 Uc;generalize hk:eC L y=k at v6 v7 v8 Tm hfr2;have Zd:=ak bS L;have tN:trees (d.map I++(I k::replicate n' (I 0)))=true:=by
         simp
        have hdd:drop pc (d.map I++(I k::replicate n' (I 0)))=I k::replicate n' (I 0):=by
         rw[<- v5];have:(d.map I).length=d.length:=by simp
         rw[<- this,drop_left]
        have ZP:=JP r' k yA;have Tk:trees [aA r',I k]=true:=by simp only[trees,aE,tree,Bool.and_self]
        have ZO:(iR r' k).length<=r'.length+1:=by
         unfold iR;split
         .omega
         .simp;omega
        simp only[iE,qz,dW,aA] at Tm |-;have Vf:=aL (f:=cY) (n:=12) hU VU;obtain⟨xc,Vo,_⟩:=nW ins;rw[Vo] at Vf;apply aq;simp[hC];refine TL.yk af [3,4] [3,4] 2 0 Tm rfl Ts Rg rfl rfl (by simp[bK,ev,assoc,aX,cO,bU]) (by simp[eZ,assoc,bz,bU]) (by simp[ba,aU]) (by simp[dn]) rfl yBv (TL.go' af ?_);simp[hC,bU,gQ,hpc1,UX,Vz];have hopg:(qU ins == 3)=uJ ins:=by
         cases ins with
         | call g _ _ _=>cases g<;>rfl
         | _=>simp[kK] at YL
        have tnw:=aC (iR r' k);have U5:pq.code.length-(pc+1)=n':=by omega
        apply aq;simp[hC,gQ,Vf,hopg]
        cases X2:uJ ins with
        | true=>
         simp only[X2,if_true] at v6 v7 v8;refine T.cond (b:=true) Tt ?_;simp;refine T.rx af follows [0,1,2,3,4,5,6,7,8] [] Bw ?_;simp[hC,gQ,hdd];simp only[aA] at ZP Tk;refine RX.call rfl rfl rfl rfl rfl Tk ZP ?_;simp;apply aM;simp[hC,Zb];refine⟨pq.code.length-(pc+1),by omega,aa.trim [9,8,7,6,5,4,2,1] [0,1,2,3,4,5] 6 (by simp[-all_eq_true,-all_flatMap,ai SH,ai tN,jZ]) yA ⟨pc+1,L,iR r' k,d++[(k:Int)],rfl,⟨by omega,XO,Uc,by omega,by simp[v5],v6,by rw[v7];simp,v8⟩,?_⟩⟩;rw[U5];simp[iE,iH,jZ,qz,AT,gM,dk,ints,aA]
        | false=>
         simp only[X2,Bool.false_eq_true,if_false] at v6 v7 v8;refine T.cond (b:=false) Tt (T.skip ?_);simp;apply aM;simp[hC,Zb];refine⟨pq.code.length-(pc+1),by omega,aa.trim [9,8,7,6,5,4,2,1] [0,1,2,3,4,5] 6 (by simp[-all_eq_true,-all_flatMap,ai SH,ai tN,jZ]) yA ⟨pc+1,L,r',d++[(k:Int)],rfl,⟨by omega,XO,Uc,by omega,by simp[v5],v6,by rw[v7];simp,v8⟩,?_⟩⟩;rw[U5];simp[iE,iH,jZ,qz,AT,gM,dk,ints,aA]
     .have XD:pc=pq.code.length:=by omega
      subst XD;rw[drop_length] at v6 v7 v8;simp only[iM,append_nil] at v6 v7 v8;have W5:=jU hu v2.nd v2.v;have Ya:=ak bS l';have tnr:=aC r';rw[Nat.sub_self];have tD:=xH d 0;apply aW;simp[hC];refine bg ?_;simp;apply T.exit;simp;refine aa.trim [8,6,5,4,2,1] [0,1,2,3,4,5] 6 (by simp[-all_eq_true,-all_flatMap,ai SH,jZ,qz,aA]) yA ?_;simp only[v6,v7,v8];refine⟨v5,v2,by omega,(List.getElem?_eq_some_iff.1 v3).1,?_⟩;simp
   .rintro s ⟨d,hd,UX,XO,Tb,TQ,rfl⟩;have TO:=jU hu XO.nd XO.v;rw[hd] at hS2;generalize (iM x pq.code l r).1=L at XO TQ TO hS2 ZS |-;generalize (iM x pq.code l r).2.2=R at Tb hS2 |-;clear hd hext;have Zd:=ak bS L;simp only[fz,iH];have tD:=xH d 0;simp only[replicate_zero,append_nil] at tD;have tkD:take pq.code.length (d.map I)=d.map I:=take_of_length_le Tv;have WX:(cs.length+1)*24<=140737488355328:=by omega
    have SA:(cs.map ints).length=cs.length:=by simp
    have hints:(CV.az (d.map I) pq.code.length)=ints d:=by rw[ints,UX]
    have tnr:=aC R;have tN:trees (cs.map ints++[ints d])=true:=by rw[a9,T8,trees,de];rfl
    simp only[AT,replicate_zero,append_nil];refine T.le (Le.di (o:=5) rfl tD) ?_;simp[tkD,aN T8,aN Zd,lM,gM,qz,jZ,aA,aN SH];rw[hints];apply aM;simp[hC,SA,WX,aY];apply aM;simp[hC,wi];have SF:=au tN;have VM:=λ ρ=>ah ρ _ tN;refine⟨100-(i+1),by omega,?_⟩;refine aa.le (Le.norm [6,5,4,2,1] [(0,0),(1,1),(2,2),(3,3),(7,4)] 0 5 SZ SY (by simp[cB,mZ,lF,tree,assoc,-all_eq_true,-all_flatMap,SF,au SH,au Zd]) yA) ?_;simp[cq,bb,aX,cO,ec,assoc,VM,ah _ _ SH,ah _ _ Zd];refine aa.here ⟨i+1,L,cs++[d],R,by omega,by omega,by simp[hci],by omega,XO,hS2,?_⟩;rw[ZS];simp[ClH,jZ,qz,gM,lM,aA]
  .have Rz:i=l.length:=by omega
   have TB:aw u=⟨l,cs,r⟩:=by
    rw[<- hS];have h1:l[i]? = none:=by rw[List.getElem?_eq_none_iff];omega
    obtain⟨k,hk⟩:∃ k,100-i=k+1:=⟨99-i,by omega⟩;rw[hk,lz,h1]
   have tnr:=aC r;have tkI:take (l.length*2) (l.flatMap dW)=l.flatMap dW:=take_of_length_le (by rw[aG (f:=dW) (n:=2) g9];omega);have tkC:take cs.length (cs.map ints)=cs.map ints:=take_of_length_le xr;apply aW;simp[hC,Jz,gM];refine bg ?_;simp;apply T.exit;simp;apply aq;simp[hC];apply T.ret;rw[TB];refine aa.le (Le.trim [3,2] [1,3,4] 5 (by simp[-all_eq_true,-all_flatMap,ai XR,ai T8,aA,lM]) yA) ?_;simp[aA];refine aa.le (Le.di (o:=3) rfl XR) ?_;simp[tkI,aN T8,lM];refine aa.le (Le.di (o:=4) rfl T8) ?_;simp[tkC];apply aa.here;simp[ib,gE,aA]
end Go.Proofs.YtlkmbdfhdknlgaaGreat
