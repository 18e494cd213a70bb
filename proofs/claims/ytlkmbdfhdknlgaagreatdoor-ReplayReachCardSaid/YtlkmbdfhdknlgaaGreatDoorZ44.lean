/- Spoilt certificates. -/
import Derived.Test.YtlkmbdfhdknlgaaGreatDoorZ43
namespace Go.Proofs.YtlkmbdfhdknlgaaGreatDoor
open Go.Can Go.aN
theorem putR3 {l:List Ru}{i:Nat}{r:Ru}(h:l[i]? = some r)(q:Ru):List.take (i*3) (l.flatMap cj)++I q.inst::CV.bool q.ct :: .az (q.items.flatMap eX) q.items.length::List.drop (i*3+3) (l.flatMap cj)=(l.set i q).flatMap cj:=by
 obtain⟨hi,rfl⟩:=List.getElem?_eq_some_iff.1 h;rw[oz cI,show i*3+3=(i+1)*3 by omega,lQ cI,List.set_eq_take_append_cons_drop,if_pos hi,List.flatMap_append,List.flatMap_cons];rfl
def S36 (x:Ce)(i kk:Nat)(s:St):Prop:=∃ (lk ins pc dp:Int) (q:Ru),i64 ins∧i64 pc∧q.items.length≤kk+1∧s=⟨[(10,.aq 4 0),(9,I i),(8,.aq 1 0),(4,.aq 0 0)],[(4,⟨55,0,cj q⟩),(3,⟨55,3,x.rules.flatMap cj⟩),(1,⟨39,0,[I 0,I 0,I 0,I 0,.aj]⟩),(0,⟨39,0,[I lk,I ins,I pc,I dp,.bp 3 0 x.rules.length]⟩)],5⟩
set_option maxRecDepth 100000 in
set_option maxHeartbeats 4000000 in
theorem EA (x:Ce)(nn kk:Nat)(Ul:nn≤100)(hkk:kk≤100)(hx:CeK nn kk x)(a b c:Int):jk Tryz.prog 12 [pX x,I a,I b,I c] (fun r=>∃ y:Ce,r=pX y∧CeK (nn+1) (kk+1) y):=by
 obtain⟨UN,PU,RS,RQ⟩:=hx;have Rj:=cQ x.rules;have SH:(x.rules.flatMap cj).length=x.rules.length*3:=aM (f:=cj) (n:=3) (fun _=>rfl) _;have On:List.take (x.rules.length*3) (x.rules.flatMap cj)=x.rules.flatMap cj:=List.take_of_length_le (by rw[SH];exact Nat.le_refl _);have bd:x.rules.length*40≤140737488355328:=by omega
 refine jk.iV af Tryz.func12 rfl N4 (by simp[Tryz.ntmps12]) fun C hC N8=>?_;rw[Tryz.ntmps12] at hC;simp only[pX,qL,df];apply ai;simp[hC];apply ai;simp[hC,SH,bd,aS];refine T.le (Le.trim [8,4,1,2,3] [3,1,0] 4 Sr yA) ?_;simp;apply aL;simp[hC];by_cases h0:x.rules=[]
 ·refine T.cond (b:=true) (by simp[ev,assoc,h0]) ?_;simp;apply ai;simp[hC];apply T.ret;refine aa.le (Le.cV (o:=3) rfl Rj) ?_;simp[bQ];refine aa.trim [8] [1] 2 Qt yA ⟨_,rfl,?_,x,?_,by omega,fun r hr=>Nat.le_succ_of_le (PU r hr),RS,RQ⟩
  ·simp only[List.drop_zero,List.take,tree,trees,On,Bool.and_self]
  ·simp[On]
 refine T.cond (b:=false) (by simp[ev,assoc,h0]) (T.skip ?_);simp;have Q9:=List.length_pos_iff.2 h0;obtain⟨i,hi⟩:∃ i:Nat,a % (x.rules.length:Int)=i:=⟨_,(Int.toNat_of_nonneg (Int.emod_nonneg _ yA)).symm⟩;have N6:i<x.rules.length:=by
  have:=Int.emod_lt_of_pos a (b:=(x.rules.length:Int)) yA;omega
 have hwi:=cJ a x.rules.length yA yA;rw[hi] at hwi;obtain⟨r,hr⟩:∃ r,x.rules[i]? = some r:=⟨_,List.getElem?_eq_getElem N6⟩;have Pd:=PU r (List.mem_of_getElem? hr);have N7:=aD (f:=cj) (n:=3) cI hr;have PG:=fN r.items;have Qe:(r.items.flatMap eX).length=r.items.length*2:=aM dq _;have Q7:List.take (r.items.length*2) (r.items.flatMap eX)=r.items.flatMap eX:=List.take_of_length_le (by rw[Qe];exact Nat.le_refl _);have RO:r.items.length*16≤140737488355328:=by omega
 apply ai;simp[hC];refine dc Od (hwi) ?_;simp[hC];apply ai;simp[hC,N6,N7,cj,di];apply ai;simp[hC,Qe,RO,aS];refine T.le (Le.trim [11,10,9,8,4,1,2,3] [6,4,3,1,0] 7 (by simp[-List.all_eq_true,-List.all_flatMap,ah Rj,ah PG]) yA) ?_;simp;have Qq:=fun o cs n=>dk Rj o cs n;have w7:=cf ((r.items.length:Int)+1) yA yA;obtain⟨a4,ha4⟩:∃ a4:Int,a.fdiv (2 ^ min 4 IntKind.i64.bits)=a4:=⟨_,rfl⟩;obtain⟨j,hj⟩:∃ j:Nat,a4 % ((r.items.length:Int)+1)=j:=⟨_,(Int.toNat_of_nonneg (Int.emod_nonneg _ yA)).symm⟩;have OD:j≤r.items.length:=by
  have:=Int.emod_lt_of_pos a4 (b:=(r.items.length:Int)+1) yA;omega
 have hwj:=cJ a4 ((r.items.length:Int)+1) yA yA;rw[hj] at hwj;apply ai;simp[hC,w7,ha4];refine dc Od (hwj) ?_;simp[hC];obtain⟨k,hk⟩:∃ k:Nat,b % 12=k:=⟨_,(Int.toNat_of_nonneg (Int.emod_nonneg _ yA)).symm⟩;have Ot:k<12:=by
  have:=Int.emod_lt_of_pos b (b:=12) yA;omega
 have hwk:=cJ b 12 yA yA;rw[hk] at hwk;have Tc:∀ n:Int,0<n→0≤c % n∧c % n<n:=fun n hn=>⟨Int.emod_nonneg _ yA,Int.emod_lt_of_pos _ hn⟩;obtain⟨A,hA⟩:∃ A,(r.items.take j).flatMap eX=A:=⟨_,rfl⟩;obtain⟨D,hD⟩:∃ D,(r.items.drop j).flatMap eX=D:=⟨_,rfl⟩;have Wk:List.take (j*2) (r.items.flatMap eX)=A:=by rw[← hA,oz dq]
 have hdj:List.drop (j*2) (r.items.flatMap eX)=D:=by rw[← hD,lQ dq]
 have U0:A.length=j*2:=by rw[← hA,aM dq,List.length_take,Nat.min_eq_left OD]
 have hDl:D.length=(r.items.length-j)*2:=by rw[← hD,aM dq,List.length_drop]
 have tA:trees A=true:=by rw[← hA];exact fN _
 have tD:trees D=true:=by rw[← hD];exact fN _
 have bdj:j*16≤140737488355328:=by omega
 have Xj:(j+1)*16≤140737488355328:=by omega
 have bdd:(j+1+(r.items.length-j))*16≤140737488355328:=by omega
 obtain⟨c4,hc4⟩:∃ c4:Int,c.fdiv (2 ^ min 4 IntKind.i64.bits)=c4:=⟨_,rfl⟩;have hc4b:=And.intro (Int.emod_nonneg c4 (show (5:Int)≠0 by omega)) (Int.emod_lt_of_pos c4 (show (0:Int)<5 by omega));have hc8:=Tc 8 yA;have wc4:=cf (c4 % 5-1) yA yA;have wc8:=cf (c % 8-1) yA yA;have QC:(List.map (fun a=>(eX a).length) r.items).sum=r.items.length*2:=by rw[← List.length_flatMap];exact Qe
 have w9n:=cf ((x.rules.length:Int)+2) yA yA;refine T.cut (S36 x i kk) ?_ ?_
 ·have WM:k=0∨k=1∨k=2∨k=3∨k=4∨k=5∨k=6∨k=7∨k=8∨k=9∨k=10∨k=11:=by omega
  apply ai;simp[hC];refine dc Od (hwk) ?_;simp;clear Ot hwk;apply T.block;rcases WM with rfl | rfl | rfl | rfl | rfl | rfl | rfl | rfl | rfl | rfl | rfl | rfl
  ·apply ai;simp[hC];refine cB ?_;simp;have hm:=Tc 6 yA;have wm:=cf (c % 6-1) yA yA;apply aY;simp[hC];refine dc Od (cJ c 6 yA yA) ?_;simp[hC,wm];refine aa.le (Le.cV (o:=6) rfl PG) ?_;simp[bQ,Q7,Qq];refine aa.trim [10,9,8,4] [4,3,1,0] 5 Sr yA ⟨c % 6-1,x.inst,x.pc,x.depth,r,RS,RQ,Nat.le_succ_of_le Pd,?_⟩;simp[cj,di]
  ·iterate 1 (apply ai;simp[hC];refine aX ?_;simp)
   apply ai;simp[hC];refine cB ?_;simp;have hm:=Tc 5 yA;have wm:=cf (c % 5-1) yA yA;apply aY;simp[hC];refine dc Od (cJ c 5 yA yA) ?_;simp[hC,wm];refine aa.le (Le.cV (o:=6) rfl PG) ?_;simp[bQ,Q7,Qq];refine aa.trim [10,9,8,4] [4,3,1,0] 5 Sr yA ⟨x.lock,c % 5-1,x.pc,x.depth,r,by constructor<;>omega,RQ,Nat.le_succ_of_le Pd,?_⟩;simp[cj,di]
  ·iterate 2 (apply ai;simp[hC];refine aX ?_;simp)
   apply ai;simp[hC];refine cB ?_;simp;have hm:=Tc 8 yA;have wm:=cf (c % 8-2) yA yA;apply aY;simp[hC];refine dc Od (cJ c 8 yA yA) ?_;simp[hC,wm];refine aa.le (Le.cV (o:=6) rfl PG) ?_;simp[bQ,Q7,Qq];refine aa.trim [10,9,8,4] [4,3,1,0] 5 Sr yA ⟨x.lock,x.inst,c % 8-2,x.depth,r,RS,by constructor<;>omega,Nat.le_succ_of_le Pd,?_⟩;simp[cj,di]
  ·iterate 3 (apply ai;simp[hC];refine aX ?_;simp)
   apply ai;simp[hC];refine cB ?_;simp;have hm:=Tc 10 yA;have wm:=cf (c % 10-1) yA yA;apply aY;simp[hC];refine dc Od (cJ c 10 yA yA) ?_;simp[hC,wm];refine aa.le (Le.cV (o:=6) rfl PG) ?_;simp[bQ,Q7,Qq];refine aa.trim [10,9,8,4] [4,3,1,0] 5 Sr yA ⟨x.lock,x.inst,x.pc,c % 10-1,r,RS,RQ,Nat.le_succ_of_le Pd,?_⟩;simp[cj,di]
  ·iterate 4 (apply ai;simp[hC];refine aX ?_;simp)
   apply ai;simp[hC];refine cB ?_;simp;apply aY;simp[hC];refine aa.le (Le.cV (o:=6) rfl PG) ?_;simp[bQ,Q7,Qq];refine aa.trim [10,9,8,4] [4,3,1,0] 5 Sr yA ⟨x.lock,x.inst,x.pc,x.depth,⟨r.inst,!r.ct,r.items⟩,RS,RQ,Nat.le_succ_of_le Pd,?_⟩;simp[cj,di]
  ·iterate 5 (apply ai;simp[hC];refine aX ?_;simp)
   apply ai;simp[hC];refine cB ?_;simp;have hm:=Tc 6 yA;have wm:=cf (c % 6-1) yA yA;apply aY;simp[hC];refine dc Od (cJ c 6 yA yA) ?_;simp[hC,wm];refine aa.le (Le.cV (o:=6) rfl PG) ?_;simp[bQ,Q7,Qq];refine aa.trim [10,9,8,4] [4,3,1,0] 5 Sr yA ⟨x.lock,x.inst,x.pc,x.depth,⟨c % 6-1,r.ct,r.items⟩,RS,RQ,Nat.le_succ_of_le Pd,?_⟩;simp[cj,di]
  ·iterate 6 (apply ai;simp[hC];refine aX ?_;simp)
   apply ai;simp[hC];refine cB ?_;simp;refine T.rx af follows [0,1,2,3,4,5,6,9,10,16,17,18,19,7,8,11,12,13,14,15,20,21,22] [(0,2),(0,4),(0,17),(0,19),(5,17),(5,19),(17,7),(17,11),(17,14),(17,15),(19,7),(19,11),(19,14),(19,15)] N4 ?_;simp[hC,OD,Wk,U0,aS,bdj,hc4];have htD:List.take ((r.items.length-j)*2) D=D:=List.take_of_length_le yA;have e1:(j+1)*2=j*2+2:=by omega
   have bdf:(j+1+r.items.length)*16≤140737488355328:=by omega
   by_cases j0:j=0
   ·rw[if_pos j0];simp;refine RX.call rfl N3 rfl rfl rfl Od (cJ c 8 yA yA) ?_;simp[wc8];refine RX.call rfl N3 rfl rfl rfl Od (cJ c4 5 yA yA) ?_;simp[wc4,U0,Xj,Q7,Qe,aS,e1,bdf];have tX:trees (A++I (c % 8-1)::I (c4 % 5-1)::r.items.flatMap eX)=true:=by rw[aZ,tA];simp only[trees,tree,PG,Bool.and_self]
    have Yv:List.take ((j+1+r.items.length)*2) (A++I (c % 8-1)::I (c4 % 5-1)::r.items.flatMap eX)=A++I (c % 8-1)::I (c4 % 5-1)::r.items.flatMap eX:=List.take_of_length_le (by rw[List.length_append,U0,List.length_cons,List.length_cons,Qe];omega);refine aa.le (Le.cV (o:=32) rfl tX) ?_;simp[bQ,Qq,Yv];refine aa.trim [10,9,8,4] [4,3,1,0] 5 Sr yA ⟨x.lock,x.inst,x.pc,x.depth,⟨r.inst,r.ct,r.items.take j++⟨c % 8-1,c4 % 5-1⟩ :: r.items.drop j⟩,RS,RQ,by simp;omega,?_⟩;simp[cj,di,eX,hA,hD,Nat.min_eq_left OD];subst j0;simp at hD;simp[← hD];omega
   ·rw[if_neg j0];by_cases jl:r.items.length=j
    ·rw[if_pos jl];simp;refine RX.call rfl N3 rfl rfl rfl Od (cJ c 8 yA yA) ?_;simp[wc8];refine RX.call rfl N3 rfl rfl rfl Od (cJ c4 5 yA yA) ?_;simp[wc4,U0,Xj,aS,e1];have tX:trees (A++I (c % 8-1)::I (c4 % 5-1)::[])=true:=by rw[aZ,tA];simp only[trees,tree,Bool.and_self]
     have Yv:List.take ((j+1)*2) (A++I (c % 8-1)::I (c4 % 5-1)::[])=A++I (c % 8-1)::I (c4 % 5-1)::[]:=List.take_of_length_le (by rw[List.length_append,U0,List.length_cons,List.length_cons,List.length_nil];omega);refine aa.le (Le.cV (o:=32) rfl tX) ?_;simp[bQ,Qq,Yv];refine aa.trim [10,9,8,4] [4,3,1,0] 5 Sr yA ⟨x.lock,x.inst,x.pc,x.depth,⟨r.inst,r.ct,r.items.take j++⟨c % 8-1,c4 % 5-1⟩ :: r.items.drop j⟩,RS,RQ,by simp;omega,?_⟩;simp[cj,di,eX,hA,hD,Nat.min_eq_left OD];exact⟨List.eq_nil_of_length_eq_zero (by rw[hDl];omega),by omega⟩
    ·rw[if_neg jl];simp;refine RX.call rfl N3 rfl rfl rfl Od (cJ c 8 yA yA) ?_;simp[wc8];refine RX.call rfl N3 rfl rfl rfl Od (cJ c4 5 yA yA) ?_;simp[wc4,U0,hDl,Xj,bdd,hdj,aS,e1,htD];have tX:trees (A++I (c % 8-1)::I (c4 % 5-1)::D)=true:=by rw[aZ,tA];simp only[trees,tree,tD,Bool.and_self]
     have Yv:List.take ((j+1+(r.items.length-j))*2) (A++I (c % 8-1)::I (c4 % 5-1)::D)=A++I (c % 8-1)::I (c4 % 5-1)::D:=List.take_of_length_le (by rw[List.length_append,U0,List.length_cons,List.length_cons,hDl];omega);refine aa.le (Le.cV (o:=32) rfl tX) ?_;simp[bQ,Qq,Yv];refine aa.trim [10,9,8,4] [4,3,1,0] 5 Sr yA ⟨x.lock,x.inst,x.pc,x.depth,⟨r.inst,r.ct,r.items.take j++⟨c % 8-1,c4 % 5-1⟩ :: r.items.drop j⟩,RS,RQ,by simp;omega,?_⟩;simp[cj,di,eX,hA,hD,Nat.min_eq_left OD];omega
  ·iterate 7 (apply ai;simp[hC];refine aX ?_;simp)
   apply ai;simp[hC];refine cB ?_;simp;apply aY;simp[hC,OD];refine aa.le (Le.cV (o:=6) rfl PG) ?_;simp[bQ,Wk,Qq];refine aa.trim [10,9,8,4] [4,3,1,0] 5 Sr yA ⟨x.lock,x.inst,x.pc,x.depth,⟨r.inst,r.ct,r.items.take j⟩,RS,RQ,by simp;omega,?_⟩;simp[cj,di,hA,Nat.min_eq_left OD]
  ·iterate 8 (apply ai;simp[hC];refine aX ?_;simp)
   apply ai;simp[hC];refine cB ?_;simp;apply ai;simp[hC];by_cases Us:j<r.items.length
   ·obtain⟨it,Oq⟩:∃ it,r.items[j]? = some it:=⟨_,List.getElem?_eq_getElem Us⟩;have Ut:j*2+1≤r.items.length*2:=by omega
    have Sl:=a8 (f:=eX) (n:=2) dq Oq 0 yA;have hm:=Tc 10 yA;have wm:=cf (c % 10-1) yA yA;have Pa:=AH (f:=eX) (n:=2) (k:=0) (c:=I (c % 10-1)) (e':=⟨c % 10-1,it.l8⟩) dq Oq yA rfl;refine T.cond (b:=true) (by simp[ev,assoc,Us]) ?_;simp;refine T.rx af follows [0,1,2,3,4,5,6,7,8] [(1,4)] N4 ?_;simp[hC,Us];have Uf:List.take (j*2) (r.items.flatMap eX)++I (c % 10-1)::List.drop (j*2+1) (r.items.flatMap eX)=(r.items.set j ⟨c % 10-1,it.l8⟩).flatMap eX:=by simpa [gA] using Pa
    refine RX.call rfl N3 rfl rfl rfl Od (cJ c 10 yA yA) ?_;simp[wm,Us,Uf,QC,Ut];have TZ:=fN (r.items.set j ⟨c % 10-1,it.l8⟩);have PK:List.take (r.items.length*2) ((r.items.set j ⟨c % 10-1,it.l8⟩).flatMap eX)=(r.items.set j ⟨c % 10-1,it.l8⟩).flatMap eX:=List.take_of_length_le (by rw[aM dq,List.length_set];exact Nat.le_refl _);refine aa.le (Le.cV (o:=6) rfl TZ) ?_;simp[bQ,PK,Qq];refine aa.trim [10,9,8,4] [4,3,1,0] 5 Sr yA ⟨x.lock,x.inst,x.pc,x.depth,⟨r.inst,r.ct,r.items.set j ⟨c % 10-1,it.l8⟩⟩,RS,RQ,by simp;omega,?_⟩;simp[cj,di]
   ·refine T.cond (b:=false) (by simp[ev,assoc,Us]) (T.skip ?_);simp;refine aa.le (Le.cV (o:=6) rfl PG) ?_;simp[bQ,Q7,Qq];refine aa.trim [10,9,8,4] [4,3,1,0] 5 Sr yA ⟨x.lock,x.inst,x.pc,x.depth,r,RS,RQ,Nat.le_succ_of_le Pd,?_⟩;simp[cj,di]
  ·iterate 9 (apply ai;simp[hC];refine aX ?_;simp)
   apply ai;simp[hC];refine cB ?_;simp;apply ai;simp[hC];by_cases Us:j<r.items.length
   ·obtain⟨it,Oq⟩:∃ it,r.items[j]? = some it:=⟨_,List.getElem?_eq_getElem Us⟩;have Ut:j*2+1+1≤r.items.length*2:=by omega
    have Sl:=a8 (f:=eX) (n:=2) dq Oq 1 yA;have hm:=Tc ((x.rules.length:Int)+2) yA;have wm:=cf (c % ((x.rules.length:Int)+2)-1) yA yA;have Pa:=AH (f:=eX) (n:=2) (k:=1) (c:=I (c % ((x.rules.length:Int)+2)-1)) (e':=⟨it.pc,c % ((x.rules.length:Int)+2)-1⟩) dq Oq yA rfl;refine T.cond (b:=true) (by simp[ev,assoc,Us]) ?_;simp;refine T.rx af follows [0,1,2,3,4,5,6,7,8,9,10,11,12] [(1,8)] N4 ?_;simp[hC,Us,w9n];have Uf:List.take (j*2+1) (r.items.flatMap eX)++I (c % ((x.rules.length:Int)+2)-1)::List.drop (j*2+1+1) (r.items.flatMap eX)=(r.items.set j ⟨it.pc,c % ((x.rules.length:Int)+2)-1⟩).flatMap eX:=by simpa [gA] using Pa
    refine RX.call rfl N3 rfl rfl rfl Od (cJ c ((x.rules.length:Int)+2) yA yA) ?_;simp[wm,Us,Uf,QC,Ut];have TZ:=fN (r.items.set j ⟨it.pc,c % ((x.rules.length:Int)+2)-1⟩);have PK:List.take (r.items.length*2) ((r.items.set j ⟨it.pc,c % ((x.rules.length:Int)+2)-1⟩).flatMap eX)=(r.items.set j ⟨it.pc,c % ((x.rules.length:Int)+2)-1⟩).flatMap eX:=List.take_of_length_le (by rw[aM dq,List.length_set];exact Nat.le_refl _);refine aa.le (Le.cV (o:=6) rfl TZ) ?_;simp[bQ,PK,Qq];refine aa.trim [10,9,8,4] [4,3,1,0] 5 Sr yA ⟨x.lock,x.inst,x.pc,x.depth,⟨r.inst,r.ct,r.items.set j ⟨it.pc,c % ((x.rules.length:Int)+2)-1⟩⟩,RS,RQ,by simp;omega,?_⟩;simp[cj,di]
   ·refine T.cond (b:=false) (by simp[ev,assoc,Us]) (T.skip ?_);simp;refine aa.le (Le.cV (o:=6) rfl PG) ?_;simp[bQ,Q7,Qq];refine aa.trim [10,9,8,4] [4,3,1,0] 5 Sr yA ⟨x.lock,x.inst,x.pc,x.depth,r,RS,RQ,Nat.le_succ_of_le Pd,?_⟩;simp[cj,di]
  ·iterate 10 (apply ai;simp[hC];refine aX ?_;simp)
   apply ai;simp[hC];refine cB ?_;simp;have Fe:List.take (i*3) (x.rules.flatMap cj)=(x.rules.take i).flatMap cj:=oz cI _ _;have hdA:List.drop ((i+1)*3) (x.rules.flatMap cj)=(x.rules.drop (i+1)).flatMap cj:=lQ cI _ _;have Vy:((x.rules.take i).flatMap cj).length=i*3:=by rw[aM cI,List.length_take,Nat.min_eq_left yA]
   have hD1:((x.rules.drop (i+1)).flatMap cj).length=(x.rules.length-(i+1))*3:=by rw[aM cI,List.length_drop]
   have tR:=cQ (x.rules.take i++x.rules.drop (i+1));have Xb:(x.rules.take i++x.rules.drop (i+1)).length=i+(x.rules.length-(i+1)):=by rw[List.length_append,List.length_take,List.length_drop,Nat.min_eq_left yA]
   have Tx:∀ r∈x.rules.take i++x.rules.drop (i+1),r.items.length≤kk+1:=fun r hr=>by
    rcases List.mem_append.1 hr with h | h
    ·exact Nat.le_succ_of_le (PU r (List.mem_of_mem_take h))
    ·exact Nat.le_succ_of_le (PU r (List.mem_of_mem_drop h))
   obtain⟨RR,Tw⟩:∃ RR,x.rules.take i++x.rules.drop (i+1)=RR:=⟨_,rfl⟩;have O8:(x.rules.take i).flatMap cj++(x.rules.drop (i+1)).flatMap cj=RR.flatMap cj:=by rw[← Tw,List.flatMap_append]
   rw[Tw] at tR Xb Tx;generalize (x.rules.take i).flatMap cj=AR at Fe Vy O8;generalize (x.rules.drop (i+1)).flatMap cj=DR at hdA hD1 O8;have wi1:=cf ((i:Int)+1) yA yA;have bi:i*40≤140737488355328:=by omega
   have bi2:(i+(x.rules.length-(i+1)))*40≤140737488355328:=by omega
   have OL:i≤x.rules.length:=by omega
   have Pe:i+1≤x.rules.length:=by omega
   have hi0':(0:Int)≤(i:Int)+1:=by omega
   apply T.seq;refine T.rx af follows [0,1,2,3,4,5,6,7,8,9,10,11,12,13] [(0,2),(0,4),(0,7),(0,10),(5,7),(5,10)] N4 ?_;simp[hC,hi0',OL,Pe,Fe,Vy,aS,bi,wi1];have htD:List.take ((x.rules.length-(i+1))*3) DR=DR:=List.take_of_length_le yA;by_cases jl:x.rules.length=i+1
   ·have hDn:DR=[]:=List.eq_nil_of_length_eq_zero (by rw[hD1,jl];omega);rw[hDn,List.append_nil] at O8;have ZP:RR.length=i:=by omega
    rw[if_pos jl];simp[Vy,bi];apply ai;simp[hC];simp only[O8];have PK:List.take ((i)*3) (RR.flatMap cj)=RR.flatMap cj:=List.take_of_length_le (by rw[aM cI,ZP];exact Nat.le_refl _);apply T.ret;refine aa.le (Le.cV (o:=22) rfl tR) ?_;simp[bQ,PK];refine aa.trim [8] [1] 2 Qt yA ⟨_,rfl,?_,⟨x.lock,x.inst,x.pc,x.depth,RR⟩,?_,by simp only;omega,Tx,RS,RQ⟩
    ·simp only[List.drop_zero,List.take,tree,trees,Bool.and_self]
    ·simp[ZP]
   ·rw[if_neg jl];simp[Vy,hD1,hdA,bi2,htD];apply ai;simp[hC];simp only[O8];have PK:List.take ((i+(x.rules.length-(i+1)))*3) (RR.flatMap cj)=RR.flatMap cj:=List.take_of_length_le yCt;apply T.ret;refine aa.le (Le.cV (o:=22) rfl tR) ?_;simp[bQ,PK];refine aa.trim [8] [1] 2 Qt yA ⟨_,rfl,?_,⟨x.lock,x.inst,x.pc,x.depth,RR⟩,?_,by simp only;omega,Tx,RS,RQ⟩
    ·simp only[List.drop_zero,List.take,tree,trees,Bool.and_self]
    ·simp[Xb]
  ·iterate 11 (apply ai;simp[hC];refine aX ?_;simp)
   refine T.le (Le.cV (o:=6) rfl PG) ?_;simp[bQ,Q7,Qq];have bi:(x.rules.length+1)*40≤140737488355328:=by omega
   apply ai;simp[hC,SH,bi,aS];apply ai;simp[hC];obtain⟨RR,Tw⟩:∃ RR,x.rules++[r]=RR:=⟨_,rfl⟩;have O8:x.rules.flatMap cj++[I r.inst,.bool r.ct,.az (r.items.flatMap eX) r.items.length]=RR.flatMap cj:=by rw[← Tw];simp[cj,di]
   have Xb:RR.length=x.rules.length+1:=by rw[← Tw];simp
   have Tx:∀ r∈RR,r.items.length≤kk+1:=fun q hq=>by
    rw[← Tw] at hq;rcases List.mem_append.1 hq with h | h
    ·exact Nat.le_succ_of_le (PU q h)
    ·rw[List.mem_singleton.1 h];exact Nat.le_succ_of_le Pd
   have tR:=cQ RR;simp only[O8];have PK:List.take ((x.rules.length+1)*3) ((RR).flatMap cj)=(RR).flatMap cj:=List.take_of_length_le yCt;apply T.ret;refine aa.le (Le.cV (o:=8) rfl tR) ?_;simp[bQ,PK];refine aa.trim [8] [1] 2 Qt yA ⟨_,rfl,?_,⟨x.lock,x.inst,x.pc,x.depth,RR⟩,?_,by simp only;omega,Tx,RS,RQ⟩
   ·simp only[List.drop_zero,List.take,tree,trees,Bool.and_self]
   ·simp[Xb]
 rintro s ⟨lk,ins,pc,dp,q,Tq,ji,hq,rfl⟩;have Pa:=putR3 hr q;simp only[cj,di];have hsmr:(List.map (fun a=>(cj a).length) x.rules).sum=x.rules.length*3:=by rw[← List.length_flatMap];exact SH
 have Rg:i*3+3≤x.rules.length*3:=by omega
 apply ai;simp[hC,N6,hsmr,Rg,Pa];apply ai;simp[hC];obtain⟨RR,Tw⟩:∃ RR,x.rules.set i q=RR:=⟨_,rfl⟩;have Xb:RR.length=x.rules.length:=by rw[← Tw];simp
 have Tx:∀ r∈RR,r.items.length≤kk+1:=fun r' OS=>by
  rw[← Tw] at OS;rcases List.mem_or_eq_of_mem_set OS with h | h
  ·exact Nat.le_succ_of_le (PU r' h)
  ·rw[h];exact hq
 have tR:=cQ RR;simp only[Tw];have PK:List.take ((x.rules.length)*3) ((RR).flatMap cj)=(RR).flatMap cj:=List.take_of_length_le yCt;apply T.ret;refine aa.le (Le.cV (o:=3) rfl tR) ?_;simp[bQ,PK];refine aa.trim [8] [1] 2 Qt yA ⟨_,rfl,?_,⟨lk,ins,pc,dp,RR⟩,?_,by simp only;omega,Tx,Tq,ji⟩
 ·simp only[List.drop_zero,List.take,tree,trees,Bool.and_self]
 ·simp[Xb]
end Go.Proofs.YtlkmbdfhdknlgaaGreatDoor
