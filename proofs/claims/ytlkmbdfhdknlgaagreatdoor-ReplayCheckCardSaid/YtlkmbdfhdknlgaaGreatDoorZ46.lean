/- Spoilt certificates. -/
import Derived.Test.YtlkmbdfhdknlgaaGreatDoorZ45
namespace Go.Proofs.YtlkmbdfhdknlgaaGreatDoor
open Go.Can Go.aT
theorem putR3 {l:List Ru}{i:Nat}{r:Ru}(h:l[i]? = some r)(q:Ru):List.take (i*3) (l.flatMap cZ)++I q.inst::CV.bool q.dU :: .au (q.items.flatMap kY) q.items.length::List.drop (i*3+3) (l.flatMap cZ)=(l.set i q).flatMap cZ:=by
 obtain⟨hi,rfl⟩:=List.getElem?_eq_some_iff.1 h;rw[tU cj,show i*3+3=(i+1)*3 by omega,tV cj,List.set_eq_take_append_cons_drop,if_pos hi,List.flatMap_append,List.flatMap_cons];rfl
def S36 (x:Ce)(i kk:Nat)(s:St):Prop:=∃ (lk ins pc dp:Int) (q:Ru),i64 ins∧i64 pc∧q.items.length≤kk+1∧s=⟨[(10,.ai 4 0),(9,I i),(8,.ai 1 0),(4,.ai 0 0)],[(4,⟨55,0,cZ q⟩),(3,⟨55,3,x.rules.flatMap cZ⟩),(1,⟨39,0,[I 0,I 0,I 0,I 0,.ag]⟩),(0,⟨39,0,[I lk,I ins,I pc,I dp,.bw 3 0 x.rules.length]⟩)],5⟩
set_option maxRecDepth 100000 in
set_option maxHeartbeats 4000000 in
theorem JX (x:Ce)(nn kk:Nat)(Pq:nn≤100)(hkk:kk≤100)(hx:J8 nn kk x)(a b c:Int):kU Tryz.prog 12 [oD x,I a,I b,I c] (fun r=>∃ y:Ce,r=oD y∧J8 (nn+1) (kk+1) y):=by
 obtain⟨PU,Lq,No,Nn⟩:=hx;have KE:=du x.rules;have N4:(x.rules.flatMap cZ).length=x.rules.length*3:=aQ (f:=cZ) (n:=3) (fun _=>rfl) _;have Kk:List.take (x.rules.length*3) (x.rules.flatMap cZ)=x.rules.flatMap cZ:=List.take_of_length_le (by rw[N4];exact Nat.le_refl _);have bd:x.rules.length*40≤140737488355328:=by omega
 refine kU.je af Tryz.func12 rfl lz (by simp[Tryz.ntmps12]) fun C hC xJ=>?_;rw[Tryz.ntmps12] at hC;simp only[oD,qz,ct];apply ah;simp[hC];apply ah;simp[hC,N4,bd,aS];refine T.le (Le.trim [8,4,1,2,3] [3,1,0] 4 (by simp[-List.all_eq_true,-List.all_flatMap,aj KE]) yA) ?_;simp;apply aL;simp[hC];by_cases h0:x.rules=[]
 ·refine T.cond (b:=true) (by simp[ev,assoc,h0]) ?_;simp;apply ah;simp[hC];apply T.ret;refine aa.le (Le.dC (o:=3) rfl KE) ?_;simp[bZ];refine aa.trim [8] [1] 2 LR yA ⟨_,rfl,?_,x,?_,by omega,fun r hr=>Nat.le_succ_of_le (Lq r hr),No,Nn⟩
  ·simp only[List.drop_zero,List.take,tree,trees,Kk,Bool.and_self]
  ·simp[Kk]
 refine T.cond (b:=false) (by simp[ev,assoc,h0]) (T.skip ?_);simp;have Nv:=List.length_pos_iff.2 h0;obtain⟨i,hi⟩:∃ i:Nat,a % (x.rules.length:Int)=i:=⟨_,(Int.toNat_of_nonneg (Int.emod_nonneg _ yA)).symm⟩;have nr:i<x.rules.length:=by
  have:=Int.emod_lt_of_pos a (b:=(x.rules.length:Int)) yA;omega
 have XQ:=AA a x.rules.length yA yA;rw[hi] at XQ;obtain⟨r,hr⟩:∃ r,x.rules[i]? = some r:=⟨_,List.getElem?_eq_getElem nr⟩;have Lr:=Lq r (List.mem_of_getElem? hr);have oy:=az (f:=cZ) (n:=3) cj hr;have Lf:=wc r.items;have Ma:(r.items.flatMap kY).length=r.items.length*2:=aQ iq _;have Mv:List.take (r.items.length*2) (r.items.flatMap kY)=r.items.flatMap kY:=List.take_of_length_le (by rw[Ma];exact Nat.le_refl _);have Nj:r.items.length*16≤140737488355328:=by omega
 apply ah;simp[hC];refine dk zK (XQ) ?_;simp[hC];apply ah;simp[hC,nr,oy,cZ,eU];apply ah;simp[hC,Ma,Nj,aS];refine T.le (Le.trim [11,10,9,8,4,1,2,3] [6,4,3,1,0] 7 (by simp[-List.all_eq_true,-List.all_flatMap,aj KE,aj Lf]) yA) ?_;simp;have LY:=fun o cs n=>dv KE o cs n;have w7:=cm ((r.items.length:Int)+1) yA yA;obtain⟨a4,ha4⟩:∃ a4:Int,a.fdiv (2 ^ min 4 IntKind.i64.bits)=a4:=⟨_,rfl⟩;obtain⟨j,hj⟩:∃ j:Nat,a4 % ((r.items.length:Int)+1)=j:=⟨_,(Int.toNat_of_nonneg (Int.emod_nonneg _ yA)).symm⟩;have KT:j≤r.items.length:=by
  have:=Int.emod_lt_of_pos a4 (b:=(r.items.length:Int)+1) yA;omega
 have XP:=AA a4 ((r.items.length:Int)+1) yA yA;rw[hj] at XP;apply ah;simp[hC,w7,ha4];refine dk zK (XP) ?_;simp[hC];obtain⟨k,hk⟩:∃ k:Nat,b % 12=k:=⟨_,(Int.toNat_of_nonneg (Int.emod_nonneg _ yA)).symm⟩;have Ke:k<12:=by
  have:=Int.emod_lt_of_pos b (b:=12) yA;omega
 have Vs:=AA b 12 yA yA;rw[hk] at Vs;have Ou:∀ n:Int,0<n→0≤c % n∧c % n<n:=fun n hn=>⟨Int.emod_nonneg _ yA,Int.emod_lt_of_pos _ hn⟩;obtain⟨A,hA⟩:∃ A,(r.items.take j).flatMap kY=A:=⟨_,rfl⟩;obtain⟨D,hD⟩:∃ D,(r.items.drop j).flatMap kY=D:=⟨_,rfl⟩;have XT:List.take (j*2) (r.items.flatMap kY)=A:=by rw[← hA,tU iq]
 have Z1:List.drop (j*2) (r.items.flatMap kY)=D:=by rw[← hD,tV iq]
 have P4:A.length=j*2:=by rw[← hA,aQ iq,List.length_take,Nat.min_eq_left KT]
 have W9:D.length=(r.items.length-j)*2:=by rw[← hD,aQ iq,List.length_drop]
 have tA:trees A=true:=by rw[← hA];exact wc _
 have tD:trees D=true:=by rw[← hD];exact wc _
 have bdj:j*16≤140737488355328:=by omega
 have RN:(j+1)*16≤140737488355328:=by omega
 have bdd:(j+1+(r.items.length-j))*16≤140737488355328:=by omega
 obtain⟨c4,Z7⟩:∃ c4:Int,c.fdiv (2 ^ min 4 IntKind.i64.bits)=c4:=⟨_,rfl⟩;have Z6:=And.intro (Int.emod_nonneg c4 (show (5:Int)≠0 by omega)) (Int.emod_lt_of_pos c4 (show (0:Int)<5 by omega));have hc8:=Ou 8 yA;have U5:=cm (c4 % 5-1) yA yA;have U4:=cm (c % 8-1) yA yA;have MJ:(List.map (fun a=>(kY a).length) r.items).sum=r.items.length*2:=by rw[← List.length_flatMap];exact Ma
 have YJ:=cm ((x.rules.length:Int)+2) yA yA;refine T.cut (S36 x i kk) ?_ ?_
 ·have Rm:k=0∨k=1∨k=2∨k=3∨k=4∨k=5∨k=6∨k=7∨k=8∨k=9∨k=10∨k=11:=by omega
  apply ah;simp[hC];refine dk zK (Vs) ?_;simp;clear Ke Vs;apply T.block;rcases Rm with rfl | rfl | rfl | rfl | rfl | rfl | rfl | rfl | rfl | rfl | rfl | rfl
  ·apply ah;simp[hC];refine cz ?_;simp;have hm:=Ou 6 yA;have wm:=cm (c % 6-1) yA yA;apply a8;simp[hC];refine dk zK (AA c 6 yA yA) ?_;simp[hC,wm];refine aa.le (Le.dC (o:=6) rfl Lf) ?_;simp[bZ,Mv,LY];refine aa.trim [10,9,8,4] [4,3,1,0] 5 (by simp[-List.all_eq_true,-List.all_flatMap,aj KE]) yA ⟨c % 6-1,x.inst,x.pc,x.depth,r,No,Nn,Nat.le_succ_of_le Lr,?_⟩;simp[cZ,eU]
  ·iterate 1 (apply ah;simp[hC];refine aU ?_;simp)
   apply ah;simp[hC];refine cz ?_;simp;have hm:=Ou 5 yA;have wm:=cm (c % 5-1) yA yA;apply a8;simp[hC];refine dk zK (AA c 5 yA yA) ?_;simp[hC,wm];refine aa.le (Le.dC (o:=6) rfl Lf) ?_;simp[bZ,Mv,LY];refine aa.trim [10,9,8,4] [4,3,1,0] 5 (by simp[-List.all_eq_true,-List.all_flatMap,aj KE]) yA ⟨x.lock,c % 5-1,x.pc,x.depth,r,by constructor<;>omega,Nn,Nat.le_succ_of_le Lr,?_⟩;simp[cZ,eU]
  ·iterate 2 (apply ah;simp[hC];refine aU ?_;simp)
   apply ah;simp[hC];refine cz ?_;simp;have hm:=Ou 8 yA;have wm:=cm (c % 8-2) yA yA;apply a8;simp[hC];refine dk zK (AA c 8 yA yA) ?_;simp[hC,wm];refine aa.le (Le.dC (o:=6) rfl Lf) ?_;simp[bZ,Mv,LY];refine aa.trim [10,9,8,4] [4,3,1,0] 5 (by simp[-List.all_eq_true,-List.all_flatMap,aj KE]) yA ⟨x.lock,x.inst,c % 8-2,x.depth,r,No,by constructor<;>omega,Nat.le_succ_of_le Lr,?_⟩;simp[cZ,eU]
  ·iterate 3 (apply ah;simp[hC];refine aU ?_;simp)
   apply ah;simp[hC];refine cz ?_;simp;have hm:=Ou 10 yA;have wm:=cm (c % 10-1) yA yA;apply a8;simp[hC];refine dk zK (AA c 10 yA yA) ?_;simp[hC,wm];refine aa.le (Le.dC (o:=6) rfl Lf) ?_;simp[bZ,Mv,LY];refine aa.trim [10,9,8,4] [4,3,1,0] 5 (by simp[-List.all_eq_true,-List.all_flatMap,aj KE]) yA ⟨x.lock,x.inst,x.pc,c % 10-1,r,No,Nn,Nat.le_succ_of_le Lr,?_⟩;simp[cZ,eU]
  ·iterate 4 (apply ah;simp[hC];refine aU ?_;simp)
   apply ah;simp[hC];refine cz ?_;simp;apply a8;simp[hC];refine aa.le (Le.dC (o:=6) rfl Lf) ?_;simp[bZ,Mv,LY];refine aa.trim [10,9,8,4] [4,3,1,0] 5 (by simp[-List.all_eq_true,-List.all_flatMap,aj KE]) yA ⟨x.lock,x.inst,x.pc,x.depth,⟨r.inst,!r.dU,r.items⟩,No,Nn,Nat.le_succ_of_le Lr,?_⟩;simp[cZ,eU]
  ·iterate 5 (apply ah;simp[hC];refine aU ?_;simp)
   apply ah;simp[hC];refine cz ?_;simp;have hm:=Ou 6 yA;have wm:=cm (c % 6-1) yA yA;apply a8;simp[hC];refine dk zK (AA c 6 yA yA) ?_;simp[hC,wm];refine aa.le (Le.dC (o:=6) rfl Lf) ?_;simp[bZ,Mv,LY];refine aa.trim [10,9,8,4] [4,3,1,0] 5 (by simp[-List.all_eq_true,-List.all_flatMap,aj KE]) yA ⟨x.lock,x.inst,x.pc,x.depth,⟨c % 6-1,r.dU,r.items⟩,No,Nn,Nat.le_succ_of_le Lr,?_⟩;simp[cZ,eU]
  ·iterate 6 (apply ah;simp[hC];refine aU ?_;simp)
   apply ah;simp[hC];refine cz ?_;simp;refine T.rx af follows [0,1,2,3,4,5,6,9,10,16,17,18,19,7,8,11,12,13,14,15,20,21,22] [(0,2),(0,4),(0,17),(0,19),(5,17),(5,19),(17,7),(17,11),(17,14),(17,15),(19,7),(19,11),(19,14),(19,15)] lz ?_;simp[hC,KT,XT,P4,aS,bdj,Z7];have VD:List.take ((r.items.length-j)*2) D=D:=List.take_of_length_le yA;have e1:(j+1)*2=j*2+2:=by omega
   have bdf:(j+1+r.items.length)*16≤140737488355328:=by omega
   by_cases j0:j=0
   ·rw[if_pos j0];simp;refine RX.call rfl j5 rfl rfl rfl zK (AA c 8 yA yA) ?_;simp[U4];refine RX.call rfl j5 rfl rfl rfl zK (AA c4 5 yA yA) ?_;simp[U5,P4,RN,Mv,Ma,aS,e1,bdf];have tX:trees (A++I (c % 8-1)::I (c4 % 5-1)::r.items.flatMap kY)=true:=by rw[bu,tA];simp only[trees,tree,Lf,Bool.and_self]
    have SO:List.take ((j+1+r.items.length)*2) (A++I (c % 8-1)::I (c4 % 5-1)::r.items.flatMap kY)=A++I (c % 8-1)::I (c4 % 5-1)::r.items.flatMap kY:=List.take_of_length_le (by rw[List.length_append,P4,List.length_cons,List.length_cons,Ma];omega);refine aa.le (Le.dC (o:=32) rfl tX) ?_;simp[bZ,LY,SO];refine aa.trim [10,9,8,4] [4,3,1,0] 5 (by simp[-List.all_eq_true,-List.all_flatMap,aj KE]) yA ⟨x.lock,x.inst,x.pc,x.depth,⟨r.inst,r.dU,r.items.take j++⟨c % 8-1,c4 % 5-1⟩ :: r.items.drop j⟩,No,Nn,by simp;omega,?_⟩;simp[cZ,eU,kY,hA,hD,Nat.min_eq_left KT];subst j0;simp at hD;simp[← hD];omega
   ·rw[if_neg j0];by_cases jl:r.items.length=j
    ·rw[if_pos jl];simp;refine RX.call rfl j5 rfl rfl rfl zK (AA c 8 yA yA) ?_;simp[U4];refine RX.call rfl j5 rfl rfl rfl zK (AA c4 5 yA yA) ?_;simp[U5,P4,RN,aS,e1];have tX:trees (A++I (c % 8-1)::I (c4 % 5-1)::[])=true:=by rw[bu,tA];simp only[trees,tree,Bool.and_self]
     have SO:List.take ((j+1)*2) (A++I (c % 8-1)::I (c4 % 5-1)::[])=A++I (c % 8-1)::I (c4 % 5-1)::[]:=List.take_of_length_le (by rw[List.length_append,P4,List.length_cons,List.length_cons,List.length_nil];omega);refine aa.le (Le.dC (o:=32) rfl tX) ?_;simp[bZ,LY,SO];refine aa.trim [10,9,8,4] [4,3,1,0] 5 (by simp[-List.all_eq_true,-List.all_flatMap,aj KE]) yA ⟨x.lock,x.inst,x.pc,x.depth,⟨r.inst,r.dU,r.items.take j++⟨c % 8-1,c4 % 5-1⟩ :: r.items.drop j⟩,No,Nn,by simp;omega,?_⟩;simp[cZ,eU,kY,hA,hD,Nat.min_eq_left KT];exact⟨List.eq_nil_of_length_eq_zero (by rw[W9];omega),by omega⟩
    ·rw[if_neg jl];simp;refine RX.call rfl j5 rfl rfl rfl zK (AA c 8 yA yA) ?_;simp[U4];refine RX.call rfl j5 rfl rfl rfl zK (AA c4 5 yA yA) ?_;simp[U5,P4,W9,RN,bdd,Z1,aS,e1,VD];have tX:trees (A++I (c % 8-1)::I (c4 % 5-1)::D)=true:=by rw[bu,tA];simp only[trees,tree,tD,Bool.and_self]
     have SO:List.take ((j+1+(r.items.length-j))*2) (A++I (c % 8-1)::I (c4 % 5-1)::D)=A++I (c % 8-1)::I (c4 % 5-1)::D:=List.take_of_length_le (by rw[List.length_append,P4,List.length_cons,List.length_cons,W9];omega);refine aa.le (Le.dC (o:=32) rfl tX) ?_;simp[bZ,LY,SO];refine aa.trim [10,9,8,4] [4,3,1,0] 5 (by simp[-List.all_eq_true,-List.all_flatMap,aj KE]) yA ⟨x.lock,x.inst,x.pc,x.depth,⟨r.inst,r.dU,r.items.take j++⟨c % 8-1,c4 % 5-1⟩ :: r.items.drop j⟩,No,Nn,by simp;omega,?_⟩;simp[cZ,eU,kY,hA,hD,Nat.min_eq_left KT];omega
  ·iterate 7 (apply ah;simp[hC];refine aU ?_;simp)
   apply ah;simp[hC];refine cz ?_;simp;apply a8;simp[hC,KT];refine aa.le (Le.dC (o:=6) rfl Lf) ?_;simp[bZ,XT,LY];refine aa.trim [10,9,8,4] [4,3,1,0] 5 (by simp[-List.all_eq_true,-List.all_flatMap,aj KE]) yA ⟨x.lock,x.inst,x.pc,x.depth,⟨r.inst,r.dU,r.items.take j⟩,No,Nn,by simp;omega,?_⟩;simp[cZ,eU,hA,Nat.min_eq_left KT]
  ·iterate 8 (apply ah;simp[hC];refine aU ?_;simp)
   apply ah;simp[hC];refine cz ?_;simp;apply ah;simp[hC];by_cases Pw:j<r.items.length
   ·obtain⟨it,Fl⟩:∃ it,r.items[j]? = some it:=⟨_,List.getElem?_eq_getElem Pw⟩;have Px:j*2+1≤r.items.length*2:=by omega
    have ND:=bb (f:=kY) (n:=2) iq Fl 0 yA;have hm:=Ou 10 yA;have wm:=cm (c % 10-1) yA yA;have My:=DP (f:=kY) (n:=2) (k:=0) (c:=I (c % 10-1)) (e':=⟨c % 10-1,it.o0⟩) iq Fl yA rfl;refine T.cond (b:=true) (by simp[ev,assoc,Pw]) ?_;simp;refine T.rx af follows [0,1,2,3,4,5,6,7,8] [(1,4)] lz ?_;simp[hC,Pw];have Pj:List.take (j*2) (r.items.flatMap kY)++I (c % 10-1)::List.drop (j*2+1) (r.items.flatMap kY)=(r.items.set j ⟨c % 10-1,it.o0⟩).flatMap kY:=by simpa [fL] using My
    refine RX.call rfl j5 rfl rfl rfl zK (AA c 10 yA yA) ?_;simp[wm,Pw,Pj,MJ,Px];have O5:=wc (r.items.set j ⟨c % 10-1,it.o0⟩);have Ly:List.take (r.items.length*2) ((r.items.set j ⟨c % 10-1,it.o0⟩).flatMap kY)=(r.items.set j ⟨c % 10-1,it.o0⟩).flatMap kY:=List.take_of_length_le (by rw[aQ iq,List.length_set];exact Nat.le_refl _);refine aa.le (Le.dC (o:=6) rfl O5) ?_;simp[bZ,Ly,LY];refine aa.trim [10,9,8,4] [4,3,1,0] 5 (by simp[-List.all_eq_true,-List.all_flatMap,aj KE]) yA ⟨x.lock,x.inst,x.pc,x.depth,⟨r.inst,r.dU,r.items.set j ⟨c % 10-1,it.o0⟩⟩,No,Nn,by simp;omega,?_⟩;simp[cZ,eU]
   ·refine T.cond (b:=false) (by simp[ev,assoc,Pw]) (T.skip ?_);simp;refine aa.le (Le.dC (o:=6) rfl Lf) ?_;simp[bZ,Mv,LY];refine aa.trim [10,9,8,4] [4,3,1,0] 5 (by simp[-List.all_eq_true,-List.all_flatMap,aj KE]) yA ⟨x.lock,x.inst,x.pc,x.depth,r,No,Nn,Nat.le_succ_of_le Lr,?_⟩;simp[cZ,eU]
  ·iterate 9 (apply ah;simp[hC];refine aU ?_;simp)
   apply ah;simp[hC];refine cz ?_;simp;apply ah;simp[hC];by_cases Pw:j<r.items.length
   ·obtain⟨it,Fl⟩:∃ it,r.items[j]? = some it:=⟨_,List.getElem?_eq_getElem Pw⟩;have Px:j*2+1+1≤r.items.length*2:=by omega
    have ND:=bb (f:=kY) (n:=2) iq Fl 1 yA;have hm:=Ou ((x.rules.length:Int)+2) yA;have wm:=cm (c % ((x.rules.length:Int)+2)-1) yA yA;have My:=DP (f:=kY) (n:=2) (k:=1) (c:=I (c % ((x.rules.length:Int)+2)-1)) (e':=⟨it.pc,c % ((x.rules.length:Int)+2)-1⟩) iq Fl yA rfl;refine T.cond (b:=true) (by simp[ev,assoc,Pw]) ?_;simp;refine T.rx af follows [0,1,2,3,4,5,6,7,8,9,10,11,12] [(1,8)] lz ?_;simp[hC,Pw,YJ];have Pj:List.take (j*2+1) (r.items.flatMap kY)++I (c % ((x.rules.length:Int)+2)-1)::List.drop (j*2+1+1) (r.items.flatMap kY)=(r.items.set j ⟨it.pc,c % ((x.rules.length:Int)+2)-1⟩).flatMap kY:=by simpa [fL] using My
    refine RX.call rfl j5 rfl rfl rfl zK (AA c ((x.rules.length:Int)+2) yA yA) ?_;simp[wm,Pw,Pj,MJ,Px];have O5:=wc (r.items.set j ⟨it.pc,c % ((x.rules.length:Int)+2)-1⟩);have Ly:List.take (r.items.length*2) ((r.items.set j ⟨it.pc,c % ((x.rules.length:Int)+2)-1⟩).flatMap kY)=(r.items.set j ⟨it.pc,c % ((x.rules.length:Int)+2)-1⟩).flatMap kY:=List.take_of_length_le (by rw[aQ iq,List.length_set];exact Nat.le_refl _);refine aa.le (Le.dC (o:=6) rfl O5) ?_;simp[bZ,Ly,LY];refine aa.trim [10,9,8,4] [4,3,1,0] 5 (by simp[-List.all_eq_true,-List.all_flatMap,aj KE]) yA ⟨x.lock,x.inst,x.pc,x.depth,⟨r.inst,r.dU,r.items.set j ⟨it.pc,c % ((x.rules.length:Int)+2)-1⟩⟩,No,Nn,by simp;omega,?_⟩;simp[cZ,eU]
   ·refine T.cond (b:=false) (by simp[ev,assoc,Pw]) (T.skip ?_);simp;refine aa.le (Le.dC (o:=6) rfl Lf) ?_;simp[bZ,Mv,LY];refine aa.trim [10,9,8,4] [4,3,1,0] 5 (by simp[-List.all_eq_true,-List.all_flatMap,aj KE]) yA ⟨x.lock,x.inst,x.pc,x.depth,r,No,Nn,Nat.le_succ_of_le Lr,?_⟩;simp[cZ,eU]
  ·iterate 10 (apply ah;simp[hC];refine aU ?_;simp)
   apply ah;simp[hC];refine cz ?_;simp;have EM:List.take (i*3) (x.rules.flatMap cZ)=(x.rules.take i).flatMap cZ:=tU cj _ _;have Ym:List.drop ((i+1)*3) (x.rules.flatMap cZ)=(x.rules.drop (i+1)).flatMap cZ:=tV cj _ _;have Qv:((x.rules.take i).flatMap cZ).length=i*3:=by rw[aQ cj,List.length_take,Nat.min_eq_left yA]
   have Xa:((x.rules.drop (i+1)).flatMap cZ).length=(x.rules.length-(i+1))*3:=by rw[aQ cj,List.length_drop]
   have tR:=du (x.rules.take i++x.rules.drop (i+1));have Qu:(x.rules.take i++x.rules.drop (i+1)).length=i+(x.rules.length-(i+1)):=by rw[List.length_append,List.length_take,List.length_drop,Nat.min_eq_left yA]
   have RH:∀ r∈x.rules.take i++x.rules.drop (i+1),r.items.length≤kk+1:=fun r hr=>by
    rcases List.mem_append.1 hr with h | h
    ·exact Nat.le_succ_of_le (Lq r (List.mem_of_mem_take h))
    ·exact Nat.le_succ_of_le (Lq r (List.mem_of_mem_drop h))
   obtain⟨RR,OK⟩:∃ RR,x.rules.take i++x.rules.drop (i+1)=RR:=⟨_,rfl⟩;have Ld:(x.rules.take i).flatMap cZ++(x.rules.drop (i+1)).flatMap cZ=RR.flatMap cZ:=by rw[← OK,List.flatMap_append]
   rw[OK] at tR Qu RH;generalize (x.rules.take i).flatMap cZ=AR at EM Qv Ld;generalize (x.rules.drop (i+1)).flatMap cZ=DR at Ym Xa Ld;have YI:=cm ((i:Int)+1) yA yA;have bi:i*40≤140737488355328:=by omega
   have bi2:(i+(x.rules.length-(i+1)))*40≤140737488355328:=by omega
   have Kp:i≤x.rules.length:=by omega
   have KK:i+1≤x.rules.length:=by omega
   have Wy:(0:Int)≤(i:Int)+1:=by omega
   apply T.seq;refine T.rx af follows [0,1,2,3,4,5,6,7,8,9,10,11,12,13] [(0,2),(0,4),(0,7),(0,10),(5,7),(5,10)] lz ?_;simp[hC,Wy,Kp,KK,EM,Qv,aS,bi,YI];have VD:List.take ((x.rules.length-(i+1))*3) DR=DR:=List.take_of_length_le yA;by_cases jl:x.rules.length=i+1
   ·have hDn:DR=[]:=List.eq_nil_of_length_eq_zero (by rw[Xa,jl];omega);rw[hDn,List.append_nil] at Ld;have T9:RR.length=i:=by omega
    rw[if_pos jl];simp[Qv,bi];apply ah;simp[hC];simp only[Ld];have Ly:List.take ((i)*3) (RR.flatMap cZ)=RR.flatMap cZ:=List.take_of_length_le (by rw[aQ cj,T9];exact Nat.le_refl _);apply T.ret;refine aa.le (Le.dC (o:=22) rfl tR) ?_;simp[bZ,Ly];refine aa.trim [8] [1] 2 LR yA ⟨_,rfl,?_,⟨x.lock,x.inst,x.pc,x.depth,RR⟩,?_,by simp only;omega,RH,No,Nn⟩
    ·simp only[List.drop_zero,List.take,tree,trees,Bool.and_self]
    ·simp[T9]
   ·rw[if_neg jl];simp[Qv,Xa,Ym,bi2,VD];apply ah;simp[hC];simp only[Ld];have Ly:List.take ((i+(x.rules.length-(i+1)))*3) (RR.flatMap cZ)=RR.flatMap cZ:=List.take_of_length_le (by rw[aQ cj,Qu];exact Nat.le_refl _);apply T.ret;refine aa.le (Le.dC (o:=22) rfl tR) ?_;simp[bZ,Ly];refine aa.trim [8] [1] 2 LR yA ⟨_,rfl,?_,⟨x.lock,x.inst,x.pc,x.depth,RR⟩,?_,by simp only;omega,RH,No,Nn⟩
    ·simp only[List.drop_zero,List.take,tree,trees,Bool.and_self]
    ·simp[Qu]
  ·iterate 11 (apply ah;simp[hC];refine aU ?_;simp)
   refine T.le (Le.dC (o:=6) rfl Lf) ?_;simp[bZ,Mv,LY];have bi:(x.rules.length+1)*40≤140737488355328:=by omega
   apply ah;simp[hC,N4,bi,aS];apply ah;simp[hC];obtain⟨RR,OK⟩:∃ RR,x.rules++[r]=RR:=⟨_,rfl⟩;have Ld:x.rules.flatMap cZ++[I r.inst,.bool r.dU,.au (r.items.flatMap kY) r.items.length]=RR.flatMap cZ:=by rw[← OK];simp[cZ,eU]
   have Qu:RR.length=x.rules.length+1:=by rw[← OK];simp
   have RH:∀ r∈RR,r.items.length≤kk+1:=fun q hq=>by
    rw[← OK] at hq;rcases List.mem_append.1 hq with h | h
    ·exact Nat.le_succ_of_le (Lq q h)
    ·rw[List.mem_singleton.1 h];exact Nat.le_succ_of_le Lr
   have tR:=du RR;simp only[Ld];have Ly:List.take ((x.rules.length+1)*3) ((RR).flatMap cZ)=(RR).flatMap cZ:=List.take_of_length_le (by rw[aQ cj,Qu];exact Nat.le_refl _);apply T.ret;refine aa.le (Le.dC (o:=8) rfl tR) ?_;simp[bZ,Ly];refine aa.trim [8] [1] 2 LR yA ⟨_,rfl,?_,⟨x.lock,x.inst,x.pc,x.depth,RR⟩,?_,by simp only;omega,RH,No,Nn⟩
   ·simp only[List.drop_zero,List.take,tree,trees,Bool.and_self]
   ·simp[Qu]
 rintro s ⟨lk,ins,pc,dp,q,OG,kp,hq,rfl⟩;have My:=putR3 hr q;simp only[cZ,eU];have VH:(List.map (fun a=>(cZ a).length) x.rules).sum=x.rules.length*3:=by rw[← List.length_flatMap];exact N4
 have Mq:i*3+3≤x.rules.length*3:=by omega
 apply ah;simp[hC,nr,VH,Mq,My];apply ah;simp[hC];obtain⟨RR,OK⟩:∃ RR,x.rules.set i q=RR:=⟨_,rfl⟩;have Qu:RR.length=x.rules.length:=by rw[← OK];simp
 have RH:∀ r∈RR,r.items.length≤kk+1:=fun r' KF=>by
  rw[← OK] at KF;rcases List.mem_or_eq_of_mem_set KF with h | h
  ·exact Nat.le_succ_of_le (Lq r' h)
  ·rw[h];exact hq
 have tR:=du RR;simp only[OK];have Ly:List.take ((x.rules.length)*3) ((RR).flatMap cZ)=(RR).flatMap cZ:=List.take_of_length_le (by rw[aQ cj,Qu];exact Nat.le_refl _);apply T.ret;refine aa.le (Le.dC (o:=3) rfl tR) ?_;simp[bZ,Ly];refine aa.trim [8] [1] 2 LR yA ⟨_,rfl,?_,⟨lk,ins,pc,dp,RR⟩,?_,by simp only;omega,RH,OG,kp⟩
 ·simp only[List.drop_zero,List.take,tree,trees,Bool.and_self]
 ·simp[Qu]
end Go.Proofs.YtlkmbdfhdknlgaaGreatDoor
