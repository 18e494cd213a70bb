/- Lemmas. -/
import Derived.Test.YtlkmbdfhdknlgaaGreatW21
set_option maxHeartbeats 4000000
namespace Go.aK
open Go.Can List
theorem jL (c:Nat):∀ (l:List ByteArray) (i:Nat),(GS c i l).length=l.length
 | [],_=>rfl
 | s::r,i=>by simp[GS,jL c r]
theorem Bh {c:Nat}:∀ {l:List ByteArray} {i j:Nat} {s:ByteArray},l[j]? = some s->(GS c i l)[j]? = some ⟨s,c,i+j⟩
 | [],_,_,_,h=>by simp at h
 | x::r,i,0,s,h=>by
  simp only[getElem?_cons_zero,Option.some.injEq] at h;subst h;rfl
 | x::r,i,j+1,s,h=>by
  simp only[getElem?_cons_succ] at h;simp only[GS,getElem?_cons_succ];rw[Bh h];congr 2;omega
theorem Ds (p:Pg):(dB p).length=p.gs.length+p.ms.length+p.fs.length:=by simp[dB,jL];omega
theorem QV {p:Pg}{i:Nat}{x:Gl}(h:p.gs[i]? = some x):(dB p)[i]? = some ⟨x.name,1,i⟩:=by
 have hl:=(List.getElem?_eq_some_iff.1 h).1;have h2:(p.gs.map (·.name))[i]? = some x.name:=by rw[getElem?_map,h];rfl
 rw[dB,append_assoc,getElem?_append_left (by rw[jL,length_map];exact hl),Bh h2,Nat.zero_add]
theorem QU {p:Pg}{i:Nat}{x:Mx}(h:p.ms[i]? = some x):(dB p)[p.gs.length+i]? = some ⟨x.name,2,i⟩:=by
 have hl:=(List.getElem?_eq_some_iff.1 h).1;have h2:(p.ms.map (·.name))[i]? = some x.name:=by rw[getElem?_map,h];rfl
 rw[dB,append_assoc,getElem?_append_right (by rw[jL,length_map];omega),jL,length_map,Nat.add_sub_cancel_left,getElem?_append_left (by rw[jL,length_map];exact hl),Bh h2,Nat.zero_add]
theorem QW {p:Pg}{i:Nat}{x:Fu}(h:p.fs[i]? = some x):(dB p)[p.gs.length+p.ms.length+i]? = some ⟨x.name,3,i⟩:=by
 have h2:(p.fs.map (·.name))[i]? = some x.name:=by rw[getElem?_map,h];rfl
 rw[dB,getElem?_append_right (by rw[length_append,jL,jL,length_map,length_map];omega),length_append,jL,jL,length_map,length_map,Nat.add_sub_cancel_left,Bh h2,Nat.zero_add]
theorem Oa {p:Pg}(h:lN p):((dB p).map (·.name)).Nodup:=by
 obtain⟨a1,a2,_,_⟩:=iz;obtain⟨s1,s2,s3,_⟩:=h.sub;obtain⟨d1,d2,d3,_⟩:=h.nd;rw[dB,map_append,map_append,nj,nj,nj];refine nodup_append.2 ⟨nodup_append.2 ⟨d1,d2,λ a ha b hb e=>?_⟩,d3,λ a ha b hb e=>?_⟩
 .subst e;exact a1 _ (s2 _ hb) (s1 _ ha)
 .subst e;rcases mem_append.1 ha with ha | ha
  .exact (a2 _ (s3 _ hb)).1 (s1 _ ha)
  .exact (a2 _ (s3 _ hb)).2 (s2 _ ha)
theorem Li {E:List En}(h:(E.map (·.name)).Nodup){i:Nat}{x:En}(hx:E[i]? = some x):jJ (E.take i) x.name=none:=by
 obtain⟨hl,Ur⟩:=List.getElem?_eq_some_iff.1 hx;have e:E=E.take i++x::E.drop (i+1):=by rw[<- Ur,<- drop_eq_getElem_cons hl,take_append_drop]
 have h2:((E.take i++x::E.drop (i+1)).map (·.name)).Nodup:=by rw[<- e];exact h
 rw[map_append,map_cons,nodup_append] at h2;rw[sN];exact λ hm=>h2.2.2 _ hm _ mem_cons_self rfl
end Go.aK
namespace Go.Proofs.YtlkmbdfhdknlgaaGreat
open Go.Can Go.aK List
def jm (E:List En):Ob:=⟨145,3,E.flatMap jj⟩
@[simp] theorem Lq (E:List En)(n:Nat):(jm E).cells.all (aU n)=true:=ai (cK E) n
@[simp] theorem enOb_ltS (E:List En)(n:Nat):ba n (jm E).cells=true:=by rw[aT];exact Lq E n
@[simp] theorem enOb_frz (E:List En)(o:Nat)(cs:List CV)(n:Nat):(jm E).cells.map (cC o cs n)=(jm E).cells:=aN (cK E) o cs n
@[simp] theorem enOb_eta (E:List En):(⟨(jm E).elem,(jm E).sz,(jm E).cells⟩:Ob)=jm E:=rfl
@[simp] theorem RD (ρ:Nat->Nat)(E:List En):bb ρ (jm E)=jm E:=dm _ _ _ (cK E)
def J59B (E:List En)(s:ByteArray)(n:Nat)(st:St):Prop:=∃ i:Nat,n=E.length-i/\i<=E.length/\jJ E s=jJ (E.drop i) s/\st=⟨[(6,I i),(5,.bool false),(4,.ax 1 0),(0,.a7 0 0 E.length),(1,.str s)],[(1,⟨145,0,[.str ⟨#[]⟩,I 0,I 0]⟩),(0,jm E)],2⟩
theorem Df (E:List En)(s:ByteArray)(hl:E.length<=100000):Body Tryz.prog av 69 [.a7 0 0 E.length,.str s] [(0,jm E)] 1 (iO (sP (jJ E s)) [(0,jm E)] 1):=by
 have Tg:=λ (i:Nat) (x:En) (h:E[i]? = some x)=>aL (f:=jj) (n:=3) l6 (m:=E) h;refine Body.iZ Tryz.func69 rfl Bw (by simp[Tryz.ntmps69]) λ C hC M0=>?_;rw[Tryz.ntmps69] at hC;apply aq;simp[hC];apply aW;simp[hC];apply T.block;refine T.aI (J59B E s) (n:=E.length) ?_ ?_
 .refine aa.here ⟨0,by omega,by omega,rfl,?_⟩;simp
 .rintro n st ⟨i,rfl,hi,hf,rfl⟩;by_cases Jz:i<E.length
  .obtain⟨a,Tn⟩:∃ a,E[i]? = some a:=⟨E[i],getElem?_eq_getElem Jz⟩;have OZ:=Tg i a Tn;have wi:=cr ((i:Int)+1) yA yA;have hd:E.drop i=a::E.drop (i+1):=by
    rw[drop_eq_getElem_cons Jz,(List.getElem?_eq_some_iff.1 Tn).2]
   rw[hd,jJ] at hf;apply aW;simp[hC,Jz];refine jk ?_;simp;apply eE;apply aq;simp[hC,Jz,OZ,jj,jv,jm];by_cases hn:a.name=s
   .rw[if_pos hn] at hf;simp only[hn,decide_true];refine du ?_;simp;apply aq;simp[hC,Jz,OZ,jj];apply T.ret;refine aa.le (Le.di (o:=1) rfl rfl) ?_;simp[aN (cK E)];refine aa.trim [4,5] [0] 1 (by simp[-all_eq_true,-all_flatMap,ai (cK E)]) yA ⟨_,?_,rfl,?_,rfl⟩
    .simp[hf,sP,jj]
    .simp
   .rw[if_neg hn] at hf;simp only[hn,decide_false];refine gk ?_;simp;apply aM;simp[hC,wi];refine⟨E.length-(i+1),by omega,?_⟩;refine aa.trim [6,5,4,0,1] [1,0] 2 (by simp[-all_eq_true,-all_flatMap,ai (cK E)]) yA ⟨i+1,rfl,by omega,hf,?_⟩;simp[jm]
  .have Rz:i=E.length:=by omega
   rw[Rz,drop_length,jJ] at hf;apply aW;simp[hC,Jz];refine bg ?_;simp;apply T.exit;simp;apply aq;simp[hC];apply T.ret;refine aa.le (Le.di (o:=1) rfl rfl) ?_;simp;refine aa.trim [4,5] [0] 1 We yA ⟨_,?_,rfl,?_,rfl⟩
   .simp[hf,sP]
   .simp
def J58 (p:Pg)(m:Nat)(s:St):Prop:=∃ i:Nat,m=(dB p).length-i/\i<=(dB p).length/\
 s=⟨[(7,I i),(6,I (dB p).length),(5,I (-1)),(4,.a7 1 0 i),(1,.ax 0 0)],[(0,⟨27,0,fp p⟩),(1,jm ((dB p).take i))],2⟩
theorem Dr (p:Pg)(h:lN p)(hm:p.ms.length<=1000)(hf:p.fs.length<=1000)(hg:p.gs.length<=1000):ae Tryz.prog 68 [zt p] (.cF [.az ((dB p).flatMap jj) (dB p).length,I (-1)]):=by
 have UX:=Ds p;have VP:=Oa h;obtain⟨t1,t2,t3⟩:=iS p;refine ae.aD af Tryz.func68 rfl Bw (by simp[Tryz.ntmps68]) rfl λ C hC M0=>?_;rw[Tryz.ntmps68] at hC;have hw1:=cr ((p.gs.length:Int)+p.ms.length) yA yA;have hw2:=cr ((p.gs.length:Int)+p.ms.length+p.fs.length) yA yA;simp only[zt,fp];apply aq;simp[hC];apply aq;simp[hC];apply aq;simp[hC];apply aq;simp[hC,hw1,hw2];apply aW;simp[hC];apply T.block;refine T.aI (J58 p) (n:=(dB p).length) ?_ ?_
 .refine aa.le (Le.own 4 145 3 rfl) ?_;simp;refine aa.trim [7,6,5,4,1] [0,1] 2 We yA ⟨0,by omega,by omega,?_⟩;simp[fp,UX,jm]
 .rintro n s ⟨i,rfl,hi,rfl⟩;by_cases Jz:i<(dB p).length
  .obtain⟨x,VB⟩:∃ x,(dB p)[i]? = some x:=⟨(dB p)[i],getElem?_eq_getElem Jz⟩;have wi:=cr ((i:Int)+1) yA yA;have wd:=cr ((i:Int)-(p.gs.length:Int)) yA yA;apply aW;simp[hC,Jz];refine jk ?_;simp;apply eE;apply aq;simp[hC];refine T.cut (λ z=>z=⟨[(8,.ax 2 0),(7,I i),(6,I (dB p).length),(5,I (-1)),(4,.a7 1 0 i),(1,.ax 0 0)],[(0,⟨27,0,fp p⟩),(1,jm ((dB p).take i)),(2,⟨145,0,jj x⟩)],3⟩) ?_ ?_
   .simp only[fp];by_cases c1:i<p.gs.length
    .obtain⟨y,hy⟩:∃ y,p.gs[i]? = some y:=⟨p.gs[i],getElem?_eq_getElem c1⟩;have hx:=QV hy;rw[VB] at hx;cases hx;have OZ:=aL (f:=qH) (n:=2) (λ _=>rfl) hy;have hneg:(i:Int)-(p.gs.length:Int)<0:=by omega
     apply aq;simp[hC,wd];apply T.block;apply aq;simp[hC,hneg];refine du ?_;simp;apply aM;simp[hC,c1,OZ,qH];refine aa.trim [8,7,6,5,4,1] [0,1,2] 3 We yA ?_;simp[jj]
    .by_cases c2:i<p.gs.length+p.ms.length
     .obtain⟨j,rfl⟩:∃ j,i=p.gs.length+j:=⟨i-p.gs.length,by omega⟩;have c3:j<p.ms.length:=by omega
      obtain⟨y,hy⟩:∃ y,p.ms[j]? = some y:=⟨p.ms[j],getElem?_eq_getElem c3⟩;have hx:=QU hy;rw[VB] at hx;cases hx;have OZ:=aL (f:=cP) (n:=3) (λ _=>rfl) hy;have TN:(p.gs.length:Int)+(j:Int)-(p.gs.length:Int)=(j:Int):=by omega
      have wj:=cr (j:Int) yA yA;apply aq;simp[hC,TN,wj];apply T.block;apply aq;simp[hC];refine bg ?_;simp;apply aq;simp[hC,c3];refine du ?_;simp;apply aM;simp[hC,c3,OZ,cP];refine aa.trim [8,7,6,5,4,1] [0,1,2] 3 We yA ?_;simp[jj]
     .obtain⟨j,rfl⟩:∃ j,i=p.gs.length+p.ms.length+j:=⟨i-p.gs.length-p.ms.length,by omega⟩;have c3:j<p.fs.length:=by omega
      obtain⟨y,hy⟩:∃ y,p.fs[j]? = some y:=⟨p.fs[j],getElem?_eq_getElem c3⟩;have hx:=QW hy;rw[VB] at hx;cases hx;have OZ:=aL (f:=fT) (n:=3) (λ _=>rfl) hy;have TN:(p.gs.length:Int)+(p.ms.length:Int)+(j:Int)-(p.gs.length:Int)=(p.ms.length:Int)+(j:Int):=by omega
      have hsub2:(p.ms.length:Int)+(j:Int)-(p.ms.length:Int)=(j:Int):=by omega
      have wj:=cr (j:Int) yA yA;have wmj:=cr ((p.ms.length:Int)+(j:Int)) yA yA;have ZZ:¬ (p.ms.length:Int)+(j:Int)<0:=by omega
      have Tu:¬ (p.ms.length:Int)+(j:Int)<(p.ms.length:Int):=by omega
      apply aq;simp[hC,TN,wmj];apply T.block;apply aq;simp[hC,ZZ];refine bg ?_;simp;apply aq;simp[hC,Tu];refine bg ?_;simp;refine T.rx af follows [0,1,2,3,4,5,6,7,8,9,10,11,12,13,14,15,16] [] Bw ?_;simp[hC,hsub2,wj,c3,OZ,fT];refine aa.trim [8,7,6,5,4,1] [0,1,2] 3 We yA ?_;simp[jj]
   .rintro z rfl;simp only[fp];have VW:=Df ((dB p).take i) x.name (by rw[length_take];omega);rw[Li VP VB,length_take,Nat.min_eq_left yA] at VW;have f1:=aG (f:=jj) (n:=3) l6 ((dB p).take i);rw[length_take,Nat.min_eq_left yA] at f1;have WX:(i+1)*32<=140737488355328:=by omega
    apply aW;simp[hC,jj];refine TL.ke af 0 1 [1] 1 VW Rg rfl rfl (by simp[aX,cO,bK,ev,assoc]) xr yA xr xr (by simp[ba,aU]) xr rfl (by simp[aX,cO,aU]) xr xr (TL.go' af ?_);simp[hC,sP];apply aq;simp[hC];refine gk ?_;simp;apply aM;simp[hC,f1,WX,aY,jm];apply aM;simp[hC,wi];have SE:(dB p).take (i+1)=(dB p).take i++[x]:=by rw[take_add_one,VB];rfl
    refine⟨(dB p).length-(i+1),by omega,?_⟩;refine aa.le (Le.trim [7,6,5,4,1] [0,5] 6 (by simp[-all_eq_true,-all_flatMap,ai (cK _)]) yA) ?_;simp;refine aa.le (Le.qt 5 1 rfl rfl yA xr xr (by simp[-all_eq_true,-all_flatMap,bx (cK _),sG 5 1 _ t1,sG 5 1 _ t2,sG 5 1 _ t3])) ?_;simp[bl (cK _)];refine aa.trim [7,6,5,4,1] [0,1] 2 (by simp[-all_eq_true,-all_flatMap,ai (cK _)]) yA ⟨i+1,rfl,by omega,?_⟩;simp[jm,SE,fp,jj]
  .have Rz:i=(dB p).length:=by omega
   apply aW;simp[hC,Jz];refine bg ?_;simp;apply T.exit;simp;apply aq;simp[hC];apply T.ret;subst Rz;have tk:take ((dB p).length*3) ((dB p).flatMap jj)=(dB p).flatMap jj:=take_of_length_le (by rw[aG (f:=jj) (n:=3) l6];omega);refine aa.le (Le.trim [2,3] [1] 2 We yA) ?_;simp[take_length];refine aa.le (Le.di (o:=1) rfl (cK _)) ?_;apply aa.here;simp[jm,tk]
end Go.Proofs.YtlkmbdfhdknlgaaGreat
namespace Go.aK
open Go.Can List
def Qk (i j:Nat)(q:Pm):En:=if q.mutex=true then ⟨q.name,5,j⟩ else ⟨q.name,4,i⟩
theorem xn:∀ (a:List Pm) (q:Pm) (i j:Nat),mq i j (a++[q])=mq i j a++[Qk (i+pI a) (j+pL a) q]
 | [],q,i,j=>by
  simp only[nil_append,mq,pI,pL,Nat.add_zero,Qk];split<;>rfl
 | p::r,q,i,j=>by
  simp only[cons_append,mq,pI,pL];split
  .rw[xn r q,cons_append];congr 3;simp only[Qk];congr 2<;>omega
  .rw[xn r q,cons_append];congr 3;simp only[Qk];congr 2<;>omega
theorem ER:∀ (a:List Pm) (q:Pm),pI (a++[q])=pI a+if q.mutex=true then 0 else 1
 | [],q=>by simp[pI]
 | p::r,q=>by simp only[cons_append,pI,ER r q];omega
theorem EP:∀ (a:List Pm) (q:Pm),pL (a++[q])=pL a+if q.mutex=true then 1 else 0
 | [],q=>by simp[pL]
 | p::r,q=>by simp only[cons_append,pL,EP r q];omega
theorem Co:∀ (l:List Pm) (i j:Nat),(mq i j l).length=l.length
 | [],_,_=>rfl
 | p::r,i,j=>by
  simp only[mq];split<;>simp[Co r]
def oO (p:Pg)(f:Fu)(j:Nat):List En:=dB p++mq 0 0 (f.params.take j)
theorem Io (p:Pg)(f:Fu)(j:Nat)(q:Pm)(h:f.params[j]? = some q):oO p f (j+1)=oO p f j++[Qk (pI (f.params.take j)) (pL (f.params.take j)) q]:=by
 have:f.params.take (j+1)=f.params.take j++[q]:=by rw[take_add_one,h];rfl
 simp only[oO,this,xn,Nat.zero_add,append_assoc]
theorem Dc (p:Pg)(f:Fu)(j:Nat)(h:j<=f.params.length):(oO p f j).length=(dB p).length+j:=by
 simp only[oO,length_append,Co,length_take];omega
theorem Lc {p:Pg}(h:lN p){f:Fu}(hf:f∈p.fs){j:Nat}{q:Pm}(hq:f.params[j]? = some q):jJ (oO p f j) q.name=none:=by
 obtain⟨_,_,_,d4⟩:=h.dec;obtain⟨_,_,a3,_⟩:=iz;obtain⟨_,_,_,s4⟩:=h.sub;obtain⟨_,_,_,n4⟩:=h.nd;have hm:=s4 f hf _ (mem_map_of_mem (f:=(·.name)) (mem_of_getElem? hq));have ha:=a3 _ hm;rw[oO,dT,d4 _ (by simp only[mem_append,not_or];exact⟨⟨ha.1,ha.2.1⟩,ha.2.2⟩)];simp only;rw[sN,qT];obtain⟨hl,Ur⟩:=List.getElem?_eq_some_iff.1 hq;have e:f.params=f.params.take j++q::f.params.drop (j+1):=by rw[<- Ur,<- drop_eq_getElem_cons hl,take_append_drop]
 have h2:((f.params.take j++q::f.params.drop (j+1)).map (·.name)).Nodup:=by rw[<- e];exact n4 f hf
 rw[map_append,map_cons,nodup_append] at h2;exact λ hm=>h2.2.2 _ hm _ mem_cons_self rfl
end Go.aK
namespace Go.Proofs.YtlkmbdfhdknlgaaGreat
open Go.Can Go.aK List
def zp:Ob:=⟨150,0,[.str ⟨#[]⟩,I 0,I 0,I 0,.aj]⟩
def zi (p:Pg)(n:Nat):Ob:=⟨215,0,[.az (p.gs.flatMap qH) p.gs.length,.az (p.ms.flatMap cP) p.ms.length,.az (p.fs.flatMap fT) p.fs.length,.a7 3 0 n,I 0,I 0,I 0,I 0,.aj,.aj]⟩
def J60 (p:Pg)(f:Fu)(m:Nat)(s:St):Prop:=∃ j:Nat,m=f.params.length-j/\j<=f.params.length/\
 s=⟨[(12,I j),(11,.ax 4 0),(10,.ax 2 0),(6,.ax 1 0),(5,.ax 0 0)],
  [(0,⟨136,0,fT f⟩),(1,zp),(2,zi p (oO p f j).length),(3,jm (oO p f j)),(4,⟨150,0,[.str f.name,I (pI (f.params.take j)),I (pL (f.params.take j)),I 0,.aj]⟩)],5⟩
theorem Db (p:Pg)(h:lN p)(hB:PgB p)(UX:(dB p).length<=3000)(f:Fu)(hf:f∈p.fs)(hw:bY f.body<=1200)(Tx:f.params.length<=100) :
  ae Tryz.prog 70 [zt p,.az ((dB p).flatMap jj) (dB p).length,.agg (fT f)] (.cF [.agg (nA (oS p f)),.az ((jw f.body 0++[fY f.body]).map λ n:Nat=>I n) (jw f.body 0++[fY f.body]).length,I 0,I 0]):=by
 obtain⟨t1,t2,t3⟩:=iS p;have tE:=cK (dB p);have f0:=aG (f:=jj) (n:=3) l6 (dB p);have bd0:(dB p).length*32<=140737488355328:=by omega
 refine ae.aD af Tryz.func70 rfl Bw (by simp[Tryz.ntmps70]) rfl λ C hC M0=>?_;rw[Tryz.ntmps70] at hC;simp only[zt,fp,fT];apply aq;simp[hC];apply T.seq;refine T.rx af follows [0,1,2,3,4,5,6] [(0,1),(0,3)] Bw ?_;simp[hC,f0,bd0,aY];apply aq;simp[hC];apply aW;simp[hC];apply T.block;refine T.aI (J60 p f) (n:=f.params.length) ?_ ?_
 .refine aa.le (Le.norm [12,11,10,6,5] [(1,0),(2,1),(8,2),(10,3),(11,4)] 0 5 SZ SY (by simp[cB,mZ,lF,tree,assoc,-all_eq_true,-all_flatMap,au tE]) yA) ?_;simp[cq,bb,aX,cO,ec,assoc,ah _ _ tE];refine aa.here ⟨0,by omega,by omega,?_⟩;simp[fT,zp,zi,jm,oO,mq,pI,pL]
 .rintro n s ⟨j,rfl,hj,rfl⟩;by_cases Jz:j<f.params.length
  .obtain⟨q,hq⟩:∃ q,f.params[j]? = some q:=⟨f.params[j],getElem?_eq_getElem Jz⟩;have hEl:=Dc p f j hj;have VW:=Df (oO p f j) q.name yA;rw[Lc h hf hq] at VW;have OZ:=aL (f:=mr) (n:=2) (λ _=>rfl) hq;have Uq:=cb (f:=mr) (n:=2) (λ _=>rfl) hq 1 yA;have wi:=cr ((j:Int)+1) yA yA;have V5:=pIL (f.params.take j);rw[length_take] at V5;have hpi2:pI (f.params.take j)+pL (f.params.take j)<=100:=by omega
   have SE:f.params.take (j+1)=f.params.take j++[q]:=by rw[take_add_one,hq];rfl
   have T6:=Io p f j q hq;have f1:=aG (f:=jj) (n:=3) l6 (oO p f j);have WX:((oO p f j).length+1)*32<=140737488355328:=by omega
   have tEj:=cK (oO p f j);simp only[fT,zi,zp];apply aW;simp[hC,Jz];refine jk ?_;simp;apply eE;refine T.seq (T.seq ?_);refine T.rx af follows [0,1,2,3,4,5,6,7,8,9,14,10,11,12,13,15,16] [(3,14),(5,14),(9,14),(14,10)] Bw ?_;simp[hC,Jz,OZ,mr];refine RX.ke 0 3 [3] [] 1 (VW) rfl xr rfl rfl rfl xr yA xr xr rfl xr Xd rfl xr xr xr rfl xr ?_;simp[sP];apply aq;simp[hC];refine gk ?_;simp;apply aq;simp[hC,Jz,Uq,mr]
   cases hm:q.mutex with
   | true=>
    have wl:=cr ((pL (f.params.take j):Int)+1) yA yA;refine T.cond (b:=true) Tt ?_;simp;apply T.seq;refine T.rx af follows [0,1,2,3,4,5,6,7,8,9,10,11,12,13,14,15,16,17,18] [(4,14)] Bw ?_;simp[hC,Jz,OZ,mr,jm,f1,WX,aY];apply aM;simp[hC,wl];apply aM;simp[hC,wi];refine⟨f.params.length-(j+1),by omega,?_⟩;have tN:trees ((oO p f j).flatMap jj++[.str q.name,I 5,I (pL (f.params.take j))])=true:=by rw[a9,cK];rfl
    have SF:=au tN;have VM:=λ ρ=>ah ρ _ tN;refine aa.le (Le.norm [12,11,10,6,5] [(0,0),(1,1),(2,2),(41,3),(4,4)] 0 5 SZ SY yCl yA) ?_;simp[cq,bb,aX,cO,ec,assoc,VM];refine aa.here ⟨j+1,rfl,by omega,?_⟩;simp[fT,zp,zi,jm,T6,SE,Qk,hm,jj,ER,EP]
   | false=>
    have wl:=cr ((pI (f.params.take j):Int)+1) yA yA;refine T.cond (b:=false) Tt ?_;simp;apply T.seq;refine T.rx af follows [0,1,2,3,4,5,6,7,8,9,10,11,12,13,14,15,16,17,18] [(4,14)] Bw ?_;simp[hC,Jz,OZ,mr,jm,f1,WX,aY];apply aM;simp[hC,wl];apply aM;simp[hC,wi];refine⟨f.params.length-(j+1),by omega,?_⟩;have tN:trees ((oO p f j).flatMap jj++[.str q.name,I 4,I (pI (f.params.take j))])=true:=by rw[a9,cK];rfl
    have SF:=au tN;have VM:=λ ρ=>ah ρ _ tN;refine aa.le (Le.norm [12,11,10,6,5] [(0,0),(1,1),(2,2),(41,3),(4,4)] 0 5 SZ SY yCl yA) ?_;simp[cq,bb,aX,cO,ec,assoc,VM];refine aa.here ⟨j+1,rfl,by omega,?_⟩;simp[fT,zp,zi,jm,T6,SE,Qk,hm,jj,ER,EP]
  .have VG:j=f.params.length:=by omega
   subst VG;have hEl:=Dc p f f.params.length (Nat.le_refl _);have hfe:oO p f f.params.length=uf p f:=by simp only[oO,uf,take_length]
   rw[hfe] at hEl;simp only[fT,zi,zp,take_length,hfe];have hEW:=h.ew hf;have UE:=LV hB 2 f.body _ (uf p f) (pI f.params) 0 [] [] hEW (h.bd f hf) yA (by have:=pIL f.params;omega) Tv Tv yA;have tEj:=cK (uf p f);have tk:take ((uf p f).length*3) ((uf p f).flatMap jj)=(uf p f).flatMap jj:=take_of_length_le (by rw[aG (f:=jj) (n:=3) l6];omega);have Jz:¬ f.params.length<f.params.length:=by omega
   apply aW;simp[hC];refine bg ?_;simp;apply T.exit;simp;apply aq;simp[hC];refine T.le (Le.di (o:=3) rfl tEj) ?_;simp[jm,tk];refine T.le (Le.mU 2 8 90 12 rfl rfl) ?_;simp;refine T.le (Le.mU 2 9 3 1 rfl rfl) ?_;simp;refine T.le (Le.norm [11,10,6,5] [(2,0),(5,3),(6,4),(0,5),(1,6),(4,7)] 0 8 SZ SY yCu yA) ?_;simp[cq,bb,aX,cO,ec,assoc];simp only[I4,length_nil,Nat.zero_add,nil_append] at UE;have hlen:=vX.2 f.body (uf p f) (pI f.params) 0 0;obtain⟨v1,v2,v3,v4⟩:=B8.2 f.body 2 _ _ _ 0 hEW (h.bd f hf);have v5:=At.2 f.body;have Ws:oS p f=⟨f.name,pI f.params,pL f.params,(cc f.body (uf p f) (pI f.params) 0).2,(cc f.body (uf p f) (pI f.params) 0).1++[.ret]⟩:=rfl;generalize cc f.body (uf p f) (pI f.params) 0=S at UE hlen v1 v2 v3 v4 Ws;obtain⟨S1,S2⟩:=S;generalize hS3:jw f.body 0=S3 at UE hlen;generalize hN:fY f.body=NN at UE v4 v5;simp only at UE hlen v1 v3 v4 Ws;have tb:=bQ f.body;apply aq;simp[hC];refine TL.jf UE rfl rfl (cA _) (a8 _) yA rfl Rg rfl rfl rfl yCn rfl (TL.go' af ?_);simp;have tS1:=cA S1;have tS3:=a8 S3;refine T.le (Le.norm [11,10,6,5] [(0,0),(8,3),(9,4),(5,5),(6,6),(7,7)] 0 8 SZ SY (by simp[cB,mZ,lF,tree,assoc,-all_eq_true,-all_flatMap,gG,fO,gK,au tS1,au tS3]) yA) ?_;simp[cq,bb,aX,cO,ec,assoc,gG,fO,gK,ah _ _ tS1,ah _ _ tS3];apply aq;simp[hC];refine TL.jf (Qg p (uf p f) S2 NN S1 S3 S1.length S3.length rfl rfl [I 8,I 0,.bool false,I 0,I 0,.str eS,.aj,.bool false,I 0,.aj,.aj,.aj] rfl rfl NN yA yA) (cA _) (a8 _) (za _ rfl) (a8 _) yA rfl Rg rfl rfl rfl rfl rfl (TL.go' af ?_);simp;have tS4:trees (S1.flatMap cY++[I 8,I 0,.bool false,I 0,I 0,.str eS,.aj,.bool false,I 0,.aj,.aj,.aj])=true:=by rw[a9,tS1];rfl
   refine T.le (Le.nz [] [8]) ?_;simp[Sn,sH];apply T.seq;refine T.rx af follows [0,1,2,3,4,5,6,7,8,9,10,11] [(7,9)] Bw ?_;simp[hC,gG];apply T.seq;refine T.rx af follows [0,1,2,3,4,5,6,7,8,9,10,11,12,13,14,15,16] [(4,13),(8,13),(12,13)] Bw ?_;simp[hC];apply T.ret;have hinr:cY In.ret=[I 8,I 0,.bool false,I 0,I 0,.str eS,.az [] 0,.bool false,I 0,.az [] 0,.az [] 0,.az [] 0]:=by simp[cY,bf,oE]
   have TV:S1.flatMap cY++[I 8,I 0,.bool false,I 0,I 0,.str eS,.az [] 0,.bool false,I 0,.az [] 0,.az [] 0,.az [] 0]=(S1++[In.ret]).flatMap cY:=by simp[hinr]
   have tS5:=cA (S1++[In.ret]);have tS6:=a8 (S3++[NN]);have tk5:take ((S1.length+1)*12) ((S1++[In.ret]).flatMap cY)=(S1++[In.ret]).flatMap cY:=take_of_length_le (by rw[Bm];simp);have tk6:take (S3.length+1) ((S3++[NN]).map λ n:Nat=>I n)=(S3++[NN]).map λ n:Nat=>I n:=take_of_length_le xr;simp only[TV];generalize hX:(S1++[In.ret]).flatMap cY=X at tS5 tk5;generalize hY:((S3++[NN]).map λ n:Nat=>I n)=Y at tS6 tk6;refine aa.le (Le.trim [6,7,8,9] [6,8,9] 10 (by simp[gK,hY,-all_eq_true,-all_flatMap,ai tS5,ai tS6]) yA) ?_;simp[gK,hY];refine aa.le (Le.di (o:=8) rfl tS5) ?_;simp[tk5,aN tS6];refine aa.le (Le.di (o:=9) rfl tS6) ?_;simp[tk6];apply aa.here;simp only[Ws,nA];simp;exact⟨by rw[<- hX];simp,by rw[<- hY];simp⟩
end Go.Proofs.YtlkmbdfhdknlgaaGreat
namespace Go.aK
open Go.Can List
theorem lN.main {p:Pg}(h:lN p):∃ f r,p.fs=f::r/\f.params=[]/\jJ (dB p) f.name=some ⟨f.name,3,0⟩/\nF.head? = some f.name:=by
 obtain⟨a1,a2,_,_⟩:=iz;obtain⟨s1,s2,s3,_⟩:=h.sub;obtain⟨d1,d2,d3,_⟩:=h.nd;obtain⟨k,hk,_,he⟩:=h.fn
 cases TZ:p.fs with
 | nil=>
  rw[TZ] at he;have:=congrArg length he;simp[nF] at this;omega
 | cons f r=>
  refine⟨f,r,rfl,h.f0 f (by rw[TZ];rfl),?_,?_⟩
  .have hm:f.name∈nF:=s3 _ (by rw[TZ];simp);have h0:(p.fs.map (·.name))[0]? = some f.name:=by rw[TZ];rfl
   rw[dB,dT,dT,e8 (λ hx=>(a2 _ hm).1 (s1 _ hx)),e8 (λ hx=>(a2 _ hm).2 (s2 _ hx))];simp only;rw[sO h0 d3]
  .rw[TZ] at he;obtain⟨k,rfl⟩:∃ k',k=k' + 1:=⟨k-1,by omega⟩;simp only[nF,map_cons,take_succ_cons,cons.injEq] at he;rw[he.1];rfl
end Go.aK
namespace Go.Proofs.YtlkmbdfhdknlgaaGreat
open Go.Can Go.aK List
theorem fS (x:Pr):trees (nA x)=true:=by simp only[nA,trees,tree,Bool.and_true]
theorem iY (x:Pr):(nA x).length=5:=rfl
def Cm (l:List Pr):Ob:=⟨150,5,l.flatMap nA⟩
def KR (l:List Int):Ob:=⟨3,1,l.map I⟩
theorem aP (l:List Int):trees (l.map I)=true:=by
 induction l with
 | nil=>rfl
 | cons a r ih=>rw[map_cons,trees,ih];rfl
theorem E7:∀ {l:List Nat} {x:Nat},x∈l->x<=l.sum
 | a::r,x,h=>by
  rw[sum_cons];rcases mem_cons.1 h with rfl | h
  .omega
  .have:=E7 h;omega
def qD:Ob:=⟨30,0,[.aj,.aj,.aj,I 0]⟩
def JL1 (p:Pg)(m:Nat)(s:St):Prop:=∃ i:Nat,m=p.gs.length-i/\i<=p.gs.length/\
 s=⟨[(11,I i),(10,.ax 2 0),(6,.az ((dB p).flatMap jj) (dB p).length),(2,.ax 1 0),(1,.ax 0 0)],
  [(0,⟨27,0,fp p⟩),(1,qD),(2,⟨30,0,[.a7 3 0 i,.az (p.ms.flatMap cP) p.ms.length,.aj,I 0]⟩),(3,KR ((p.gs.take i).map (·.init)))],4⟩
def JL2 (p:Pg)(m:Nat)(s:St):Prop:=∃ i:Nat,m=p.fs.length-i/\i<=p.fs.length/\
 s=⟨[(12,I i),(10,.ax 2 0),(6,.az ((dB p).flatMap jj) (dB p).length),(2,.ax 1 0),(1,.ax 0 0)],
  [(0,⟨27,0,fp p⟩),(1,qD),(2,⟨30,0,[.az ((p.gs.map (·.init)).map I) p.gs.length,.az (p.ms.flatMap cP) p.ms.length,.a7 3 0 i,I 0]⟩),(3,Cm ((p.fs.take i).map (oS p)))],4⟩
theorem KL (p:Pg)(h:lN p):ae Tryz.prog 27 [zt p] (.cF [cf (mN p),I 0,I 0,I 0]):=by
 obtain⟨k1,WQ,e1⟩:=h.gn;obtain⟨k2,_,X0,e2⟩:=h.mn;obtain⟨k3,_,hk3,e3⟩:=h.fn;have l1:=congrArg length e1;have l2:=congrArg length e2;have l3:=congrArg length e3;simp[nG] at l1;simp[nM] at l2;simp[nF] at l3;have Zn:∀ f∈p.fs,f.params.length<=2:=λ f hf=>by
  obtain⟨k,hk,e⟩:=h.pn f hf;have h5:=congrArg length e;simp only[length_map,length_reverse,length_take,nP,length_cons,length_nil] at h5;omega
 have hB:PgB p:=⟨by omega,by omega,λ f hf=>by have:=Zn f hf;omega⟩;have UX:=Ds p;have Us:=Jf p h;have hdec:=Dr p h yA yA yA;obtain⟨fm,fr,TZ,V7,hfm,W7⟩:=h.main;have VW:=sQ (dB p) fm.name yA;rw[hfm] at VW;have Xn:fm.name=⟨#[109,97,105,110]⟩:=by
  simp only[nF,head?_cons,Option.some.injEq] at W7;rw[<- W7]
 obtain⟨t1,t2,t3⟩:=iS p;have tE:=cK (dB p);have fm1:=aG (f:=cP) (n:=3) (λ _=>rfl) p.ms;have bd0:p.ms.length*32<=140737488355328:=by omega
 have Tq:p.fs[0]? = some fm:=by rw[TZ];rfl
 have OZ:=cb (f:=fT) (n:=3) (λ _=>rfl) Tq 1 yA;have Tg:0<p.fs.length:=by rw[TZ];simp
 refine ae.aD af Tryz.func27 rfl Bw (by simp[Tryz.ntmps27]) rfl λ C hC M0=>?_;rw[Tryz.ntmps27] at hC;simp only[zt,fp] at Us hdec |-;apply aq;simp[hC];apply aW;simp[hC];refine cS SD (Us) ?_;simp[hC];refine gk ?_;simp;apply aq;simp[hC];refine cS SD (hdec) ?_;simp[hC];apply aW;simp[hC];refine gk ?_;simp;rw[Xn] at VW;apply aq;simp[hC];refine cS SD (VW) ?_;simp[hC,sP,jj];apply aW;simp[hC,OZ,Tg,fT,V7];refine gk ?_;simp;apply T.seq;refine T.rx af follows [0,1,2,3,4,5,6,7,8] [(1,2),(1,5),(1,7),(2,4),(2,7),(4,7),(5,7)] Bw ?_;simp[hC,fm1,bd0,aY];apply aW;simp[hC];apply T.block;refine T.aI (JL1 p) (n:=p.gs.length) ?_ ?_
 .have tk:take (p.ms.length*3) (p.ms.flatMap cP)=p.ms.flatMap cP:=take_of_length_le (by rw[fm1];exact Nat.le_refl _);refine aa.le (Le.trim [11,10,6,2,1] [10,12,1,0] 13 (by simp[-all_eq_true,-all_flatMap,ai (dw p.ms)]) yA) ?_;simp;refine aa.le (Le.di (o:=12) rfl (dw p.ms)) ?_;simp[tk];refine aa.le (Le.mU 10 0 3 1 rfl rfl) ?_;simp;refine aa.le (Le.norm [11,10,6,2,1] [(0,0),(1,1),(10,2),(13,3)] 0 4 SZ SY yCu yA) ?_;simp[cq,bb,aX,cO,ec,assoc];refine aa.here ⟨0,by omega,by omega,?_⟩;simp[fp,qD,KR]
 .rintro n s ⟨i,rfl,hi,rfl⟩;by_cases Jz:i<p.gs.length
  .obtain⟨y,hy⟩:∃ y,p.gs[i]? = some y:=⟨p.gs[i],getElem?_eq_getElem Jz⟩;have OZ:=aL (f:=qH) (n:=2) (λ _=>rfl) hy;have Uq:=cb (f:=qH) (n:=2) (λ _=>rfl) hy 1 yA;have wi:=cr ((i:Int)+1) yA yA;have SE:p.gs.take (i+1)=p.gs.take i++[y]:=by rw[take_add_one,hy];rfl
   have Ua:((p.gs.take i).map (·.init)).length=i:=by simp;omega
   have WX:(i+1)*8<=140737488355328:=by omega
   have tI:=aP ((p.gs.take i).map (·.init));generalize hG:(p.gs.take i).map (·.init)=G at Ua tI;simp only[fp,qD,KR];apply aW;simp[hC,Jz];refine jk ?_;simp;apply eE;refine T.rx af follows [0,1,2,3,4,5,6,7,8,9,10,11] [(1,8)] Bw ?_;simp[hC,Jz,OZ,qH,Ua,WX,aY];apply aM;simp[hC,wi];refine⟨p.gs.length-(i+1),by omega,?_⟩;have tN:trees (G.map I++[I y.init])=true:=by rw[a9,tI];rfl
   have SF:=au tN;have VM:=λ ρ=>ah ρ _ tN;refine aa.le (Le.norm [11,10,6,2,1] [(0,0),(1,1),(2,2),(16,3)] 0 4 SZ SY yCl yA) ?_;simp[cq,bb,aX,cO,ec,assoc,VM];refine aa.here ⟨i+1,rfl,by omega,?_⟩;simp[fp,qD,KR,SE,hG]
  .have Rz:i=p.gs.length:=by omega
   subst Rz;apply aW;simp[hC,fp];refine bg ?_;simp;apply T.exit;simp;have tI:=aP (p.gs.map (·.init));have tkI:take p.gs.length ((p.gs.map (·.init)).map I)=(p.gs.map (·.init)).map I:=take_of_length_le xr;have hints:ints (p.gs.map (·.init))=.az ((p.gs.map (·.init)).map I) p.gs.length:=by simp[ints]
   generalize hG:p.gs.map (·.init)=G at tI tkI hints;simp only[qD,KR];apply aW;simp[hC];apply T.block;refine T.aI (JL2 p) (n:=p.fs.length) ?_ ?_
   .refine aa.le (Le.trim [12,10,6,2,1] [0,1,2,3] 4 (by simp[-all_eq_true,-all_flatMap,ai tI]) yA) ?_;simp;refine aa.le (Le.di (o:=3) rfl tI) ?_;simp[tkI];refine aa.le (Le.mU 2 2 150 5 rfl rfl) ?_;simp;refine aa.le (Le.norm [12,10,6,2,1] [(0,0),(1,1),(2,2),(4,3)] 0 4 SZ SY yCu yA) ?_;simp[cq,bb,aX,cO,ec,assoc];refine aa.here ⟨0,by omega,by omega,?_⟩;simp[fp,qD,Cm,hG]
   .rintro n s ⟨i,rfl,hi,rfl⟩;by_cases Jz:i<p.fs.length
    .obtain⟨f,hf⟩:∃ f,p.fs[i]? = some f:=⟨p.fs[i],getElem?_eq_getElem Jz⟩;have hfm:=mem_of_getElem? hf;have hfk:bY f.body<=1200:=by
      have h1:=E7 (mem_map_of_mem (f:=λ f:Fu=>bY f.body) hfm);have h2:=h.wt;omega
     have W7:=Db p h hB yA f hfm hfk (by have:=Zn f hfm;omega);have OZ:=aL (f:=fT) (n:=3) (λ _=>rfl) hf;have wi:=cr ((i:Int)+1) yA yA;have SE:p.fs.take (i+1)=p.fs.take i++[f]:=by rw[take_add_one,hf];rfl
     have Ua:((p.fs.take i).map (oS p)).length=i:=by simp;omega
     have tP:=ak fS ((p.fs.take i).map (oS p));have fP:=aG (f:=nA) (n:=5) iY ((p.fs.take i).map (oS p));rw[Ua] at fP;have WX:(i+1)*64<=140737488355328:=by omega
     generalize hH:(p.fs.take i).map (oS p)=Hs at Ua tP fP;have hprx:nA (oS p f)=[.str (oS p f).name,I (oS p f).ints,I (oS p f).bh,I (oS p f).locals,.az ((oS p f).code.flatMap cY) (oS p f).code.length]:=rfl;have tpr:=fS (oS p f);rw[hprx] at W7 tpr;have tcd:=cA (oS p f).code;simp only[fp,fT,zt] at W7;simp only[fp,qD,Cm];apply aW;simp[hC,Jz];refine jk ?_;simp;apply eE;apply T.seq;refine T.rx af follows [0,1,2,3,4,5,6,13,7,8,9,10,11,12,14,15,16,17] [(0,13),(3,13),(6,13),(13,7)] Bw ?_;simp[hC,Jz,OZ,fT];have MY:trees [.agg [.az (p.gs.flatMap qH) p.gs.length,.az (p.ms.flatMap cP) p.ms.length,.az (p.fs.flatMap fT) p.fs.length],.az ((dB p).flatMap jj) (dB p).length,.agg [.str f.name,.az (f.params.flatMap mr) f.params.length,.az (bP f.body) f.body.length]]=true:=by
      simp only[trees,tree];rfl
     refine RX.call rfl rfl rfl rfl rfl MY W7 ?_;simp;apply aW;simp[hC];refine gk ?_;simp;apply aM;simp[hC,fP,WX,aY];apply aM;simp[hC,wi];refine⟨p.fs.length-(i+1),by omega,?_⟩;have tN:trees (Hs.flatMap nA++[.str (oS p f).name,I (oS p f).ints,I (oS p f).bh,I (oS p f).locals,.az ((oS p f).code.flatMap cY) (oS p f).code.length])=true:=by rw[a9,tP,tpr];rfl
     have SF:=au tN;have VM:=λ ρ=>ah ρ _ tN;have tI2:=aP (p.gs.map (·.init));refine aa.le (Le.norm [12,10,6,2,1] [(0,0),(1,1),(2,2),(23,3)] 0 4 SZ SY yCl yA) ?_;simp[cq,bb,aX,cO,ec,assoc,VM];refine aa.here ⟨i+1,rfl,by omega,?_⟩;simp[fp,qD,Cm,SE,hH,hprx]
    .have Rz:i=p.fs.length:=by omega
     subst Rz;have tP:=ak fS (p.fs.map (oS p));have fP:=aG (f:=nA) (n:=5) iY (p.fs.map (oS p));have Ua:(p.fs.map (oS p)).length=p.fs.length:=by simp
     rw[Ua] at fP;have tkP:take (p.fs.length*5) ((p.fs.map (oS p)).flatMap nA)=(p.fs.map (oS p)).flatMap nA:=take_of_length_le yA;have Xj:dk (mN p)=[.az ((p.gs.map (·.init)).map I) p.gs.length,.az (p.ms.flatMap cP) p.ms.length,.az ((p.fs.map (oS p)).flatMap nA) p.fs.length,I 0]:=by simp[dk,mN,ints]
     simp only[fp,qD,Cm,take_length];generalize hH:p.fs.map (oS p)=Hs at tP fP tkP Xj;apply aW;simp[hC];refine bg ?_;simp;apply T.exit;simp;apply aq;simp[hC];apply T.ret;have tI2:=aP (p.gs.map (·.init));generalize hG:(p.gs.map (·.init)).map I=Gs at tI2 Xj;refine aa.le (Le.trim [5,4,3,2] [1,3] 4 (by simp[-all_eq_true,-all_flatMap,ai tP]) yA) ?_;simp;refine aa.le (Le.di (o:=3) rfl tP) ?_;simp[tkP];apply aa.here;simp[cf,Xj];rw[<- hG,map_map]
end Go.Proofs.YtlkmbdfhdknlgaaGreat
namespace Go.aK
open Go.Can List
deriving instance DecidableEq for Is
def jl (is:Is)(q:Pl):Nat:=if q.param=true then is.bh.getD q.index 0 else q.index
def qU:In->Int
 | .set _ _ _=>1
 | .call g _ _ _=>if g=true then 3 else 2
 | .lock u _=>if u=true then 5 else 4
 | .branch _ _=>6
 | .jump _=>7
 | .ret=>8
def kK (is:Is):In->Option Is
 | .call _ t _ ps=>some ⟨t,ps.map (jl is)⟩
 | _=>none
def ay (u:Un)(is:Is):List In:=match u.ps[is.proc]? with
 | some q=>q.code
 | none=>[]
def uX (u:Un)(is:Is)(pc:Int):Option Is:=if pc<0 then none else match (ay u is)[pc.toNat]? with
 | some i=>kK is i
 | none=>none
def Bv:Option Is->CV
 | some x=>.cF [.agg (dW x),.bool true]
 | none=>.cF [.agg [I 0,.az [] 0],.bool false]
theorem nW (i:In):∃ cs,cY i=I (qU i)::cs/\cs.length=11:=by
 have h:∃ cs,cY i=I (qU i)::cs:=by cases i<;>exact⟨_,rfl⟩
 obtain⟨cs,h⟩:=h;have:=hU i;rw[h] at this;exact⟨cs,h,by simpa using this⟩
structure ub (u:Un)(is:Is):Prop where
 q:∃ q,u.ps[is.proc]? = some q/\is.bh.length=q.bh
 m:∀ l∈is.bh,l<u.ms.length
theorem Kv {u:Un}{is:Is}{g k L:Nat}{q:Pl}(hm:∀ l∈is.bh,l<u.ms.length)(hL:is.bh.length=L)(h:wM u.ms g k L q):jl is q<u.ms.length:=by
 rcases h with ⟨h1,h2,_⟩ | ⟨h1,m,h2,_⟩
 .simp only[jl,h1,if_true];rw[getD_eq_getElem?_getD,getElem?_eq_getElem yA];exact hm _ (getElem_mem yA)
 .simp only[jl,h1,Bool.false_eq_true,if_false];exact (List.getElem?_eq_some_iff.1 h2).1
theorem Fy {u:Un}(hu:gg u){is:Is}(hi:ub u is){i:In}(hm:i∈ay u is){x:Is}(hx:kK is i=some x):ub u x:=by
 obtain⟨⟨q,hq,hl⟩,VA⟩:=hi;simp only[ay,hq] at hm;have hv:=(hu.pc q (mem_of_getElem? hq)).2 i hm
 cases i with
 | call g t is' ps=>
  simp only[kK,Option.some.injEq] at hx;subst hx;obtain⟨h1,_,h3⟩:=hv;rw[getElem?_map,Option.map_eq_some_iff] at h1;obtain⟨q',h4,h5⟩:=h1;simp only[Prod.mk.injEq] at h5;refine⟨⟨q',h4,?_⟩,λ l W5=>?_⟩
  .simp only[length_map];omega
  .simp only[mem_map] at W5;obtain⟨pl,Tx,rfl⟩:=W5;exact Kv VA hl (h3 pl Tx)
 | _=>simp[kK] at hx
def uJ:In->Bool
 | .call g _ _ _=>g
 | _=>false
def cR (l:List Nat)(n:Nat):Nat:=(l.takeWhile (· < n)).length
def iR (l:List Nat)(n:Nat):List Nat:=if n∈l then l else l.take (cR l n)++n::l.drop (cR l n)
def fy (l:List Is)(x:Is):List Is:=if x∈l then l else l++[x]
def eC (l:List Is)(x:Is):Nat:=l.findIdx λ y=>decide (y=x)
def iM (is:Is):List In->List Is->List Nat->List Is×List Int×List Nat
 | [],l,r=>(l,[],r)
 | i::c,l,r=>match kK is i with
  | none=>((iM is c l r).1,-1::(iM is c l r).2.1,(iM is c l r).2.2)
  | some x=>((iM is c (fy l x) (if uJ i=true then iR r (eC (fy l x) x) else r)).1,(eC (fy l x) x:Int)::(iM is c (fy l x) (if uJ i=true then iR r (eC (fy l x) x) else r)).2.1,(iM is c (fy l x) (if uJ i=true then iR r (eC (fy l x) x) else r)).2.2)
def lz (u:Un):Nat->Nat->List Is->List (List Int)->List Nat->Cl
 | 0,_,l,cs,r=>⟨l,cs,r⟩
 | f+1,i,l,cs,r=>match l[i]? with
  | none=>⟨l,cs,r⟩
  | some x=>lz u f (i+1) (iM x (ay u x) l r).1 (cs++[(iM x (ay u x) l r).2.1]) (iM x (ay u x) l r).2.2
def aw (u:Un):Cl:=lz u 100 0 [⟨u.main,[]⟩] [] [0]
end Go.aK
namespace Go.Proofs.YtlkmbdfhdknlgaaGreat
open Go.Can Go.aK List Tryz
theorem aC (l:List Nat):trees (l.map λ n:Nat=>I n)=true:=a8 l
theorem aE (l:List Nat):tree (aA l)=true:=by simp only[aA,tree]
theorem bS (x:Is):trees (dW x)=true:=by simp only[dW,trees,aE,Bool.and_true];rfl
theorem g9 (x:Is):(dW x).length=2:=rfl
theorem dV {l:List Nat}{i n:Nat}(h:l[i]? = some n):(l.map λ n:Nat=>I n).drop i=I n::(l.drop (i+1)).map λ n:Nat=>I n:=by
 obtain⟨hl,rfl⟩:=List.getElem?_eq_some_iff.1 h;rw[<- map_drop,drop_eq_getElem_cons hl,map_cons]
theorem HK (is:Is)(q:Pl)(h:q.param=true->q.index<is.bh.length):ae prog 117 [.agg (dW is),.agg (iq q)] (I (jl is q)):=by
 refine ae.aD af Tryz.func117 rfl Bw (by simp[Tryz.ntmps117]) rfl λ C hC M0=>?_;rw[Tryz.ntmps117] at hC;simp only[dW,iq,aA,ph];apply aq;simp[hC];apply aW;simp[hC]
 cases hq:q.param with
 | true=>
  have P1:=h hq;obtain⟨n,hn⟩:∃ n,is.bh[q.index]? = some n:=⟨_,getElem?_eq_getElem P1⟩;have OZ:=dV hn;have VQ:jl is q=n:=by simp[jl,hq,getD_eq_getElem?_getD,hn]
  refine T.cond (b:=true) Tt ?_;simp;apply aq;simp[hC,P1,OZ];apply T.ret;apply aa.here;simp[Tryz.results117,VQ]
 | false=>
  have VQ:jl is q=q.index:=by simp[jl,hq]
  refine T.cond (b:=false) Tt (T.skip ?_);simp;apply aq;simp[hC];apply T.ret;apply aa.here;simp[Tryz.results117,VQ]
theorem KZ (g:Bool)(t:Nat)(l:List Ex)(ps:List Pl):cY (.call g t l ps)=[I (if g=true then 3 else 2),I t,.bool false,I 0,I 0,.str eS,.az [] 0,.bool false,I 0,.az [] 0,.az (l.flatMap bf) l.length,.az (ps.flatMap iq) ps.length]:=rfl
def cV (l:List Nat):Ob:=⟨3,1,l.map λ n:Nat=>I n⟩
def J27 (_u:Un)(is:Is)(cs:List CV)(cn:Nat)(pc:Int)(t:Nat)(ps:List Pl)(m:Nat)(s:St):Prop:=∃ i:Nat,m=ps.length-i/\i<=ps.length/\
 s=⟨[(10,I i),(9,.ax 3 0),(8,.az cs cn),(6,.ax 2 0),(4,.ax 1 0),(2,I pc)],[(1,⟨95,0,dW is⟩),(2,⟨95,0,[I 0,.aj]⟩),(3,⟨95,0,[I t,.a7 4 0 i]⟩),(4,cV ((ps.take i).map (jl is)))],5⟩
theorem bm (u:Un):trees (dk u)=true:=by
 simp only[dk,trees,ints,tree];simp
theorem ED (u:Un)(hu:gg u)(is:Is)(hi:ub u is)(pc:Int):ae prog 71 [cf u,.agg (dW is),I pc] (Bv (uX u is pc)):=by
 obtain⟨⟨pq,TE,TY⟩,VA⟩:=id hi;have Sw:ay u is=pq.code:=by simp only[ay,TE]
 have Tx:=(List.getElem?_eq_some_iff.1 TE).1;have OZ:=cb (f:=nA) (n:=5) iY TE 4 yA;have hlen:=(hu.pr pq (mem_of_getElem? TE)).2.2.2.2;have SJ:tree (Bv (uX u is pc))=true:=by
  cases uX u is pc with
  | none=>rfl
  | some x=>simp only[Bv,tree,trees,bS];rfl
 have SH:=bm u;simp only[dk,ints] at SH;refine ae.aD af Tryz.func71 rfl Bw (by simp[Tryz.ntmps71]) SJ λ C hC M0=>?_;rw[Tryz.ntmps71] at hC;simp only[cf,dk,dW,ints];apply aq;simp[hC];apply aq;simp[hC,Tx,OZ,nA];have tco:=cA pq.code;have tco:=cA pq.code;by_cases h1:pc<0
 .have hn:uX u is pc=none:=by simp[uX,h1]
  apply aW;simp[hC,h1];refine du ?_;simp;apply aq;simp[hC];apply T.ret;simp;refine aa.le (Le.trim [6,7] [2] 3 xr yA) ?_;simp;refine aa.le (Le.nz [] [2]) ?_;apply aa.here;simp[hn,Bv]
 .obtain⟨k,rfl⟩:∃ k:Nat,pc=k:=⟨pc.toNat,by omega⟩;by_cases h2:k<pq.code.length
  .obtain⟨x,hx⟩:∃ x,pq.code[k]? = some x:=⟨_,getElem?_eq_getElem h2⟩;have U0:uX u is k=kK is x:=by simp[uX,Sw,hx,h1]
   have Vf:=aL (f:=cY) (n:=12) hU hx;obtain⟨xc,Vo,_⟩:=nW x;rw[Vo] at Vf;have Vs:¬ ((pq.code.length:Int)<=(k:Int)):=by omega
   by_cases SG:∃ g t l ps,x=.call g t l ps
   .obtain⟨g,t,l,ps,rfl⟩:=SG;have hcal2:uX u is k=some ⟨t,ps.map (jl is)⟩:=by rw[U0];rfl
    have hic:I3 (u.ps.map λ q=>(q.ints,q.bh)) u.ms u.gs.length pq.locals pq.bh (pq.code.length-1) (.call g t l ps):=(hu.pc pq (mem_of_getElem? TE)).2 _ (mem_of_getElem? hx);have UC:=hic.2.2;have Tz:=cb (f:=cY) (n:=12) hU hx 1 yA;have ZB:=cb (f:=cY) (n:=12) hU hx 11 yA;rw[KZ] at Tz ZB;have ho2:((qU (.call g t l ps) == 2) && (qU (.call g t l ps) == 3))=false:=by cases g<;>rfl
    have hdc2:drop (k*12) (pq.code.flatMap cY)=I (if g=true then 3 else 2)::xc++(pq.code.drop (k+1)).flatMap cY:=by rw[Vf];cases g<;>rfl
    have hpsl:ps.length<=100:=by
     have h5:=hic.1;rw[getElem?_map,Option.map_eq_some_iff] at h5;obtain⟨q',h6,h7⟩:=h5;simp only[Prod.mk.injEq] at h7;have:=(hu.pr q' (mem_of_getElem? h6)).2.1;omega
    rw[hcal2];simp only[Bv];clear Vf;generalize X2:(if g=true then (3:Int) else 2)=op at hdc2;have hop3:((op != 2) && (op != 3))=false:=by subst X2;cases g<;>rfl
    have XM:(op != 2)=false\/((op != 2)=true/\(op != 3)=false):=by subst X2;cases g<;>simp
    refine T.cut (λ s=>s=⟨[(8,.az (pq.code.flatMap cY) pq.code.length),(6,.ax 2 0),(4,.ax 1 0),(2,I k)],[(2,⟨95,0,[I 0,.aj]⟩),(1,⟨95,0,dW is⟩)],3⟩) ?_ ?_
    .rcases XM with hb | ⟨hb,T0⟩
     .apply aq;simp[hC,Vs,h1,h2,hdc2,hb];refine gk ?_;simp;refine aa.trim [8,6,4,2] [2,1] 3 (by simp[-all_eq_true,-all_flatMap,bG 3 _ (aE is.bh)]) yA ?_;simp[dW]
     .apply aq;simp[hC,Vs,h1,h2,hdc2,hb,T0];refine gk ?_;simp;refine aa.trim [8,6,4,2] [2,1] 3 (by simp[-all_eq_true,-all_flatMap,bG 3 _ (aE is.bh)]) yA ?_;simp[dW]
    .rintro s rfl;simp only[dW];apply aq;simp[hC,h2,Tz];apply aW;simp[hC];apply T.block;refine T.aI (J27 u is (pq.code.flatMap cY) pq.code.length k t ps) (n:=ps.length) ?_ ?_
     .refine aa.le (Le.mU 3 1 3 1 rfl rfl) ?_;simp;refine aa.trim [10,9,8,6,4,2] [1,2,3,4] 5 (by simp[-all_eq_true,-all_flatMap,bG 5 _ (aE is.bh)]) yA ⟨0,by omega,by omega,?_⟩;simp[dW,cV]
     .rintro n s ⟨i,rfl,X1,rfl⟩;by_cases Jz:i<ps.length
      .obtain⟨q,hq⟩:∃ q,ps[i]? = some q:=⟨ps[i],getElem?_eq_getElem Jz⟩;have Zz:=aL (f:=iq) (n:=3) lR hq;have hqv:q.param=true->q.index<is.bh.length:=λ hp=>by
        rcases UC q (mem_of_getElem? hq) with ⟨_,h8,_⟩ | ⟨h8,_⟩
        .omega
        .rw[hp] at h8;cases h8
       have VC:=HK is q hqv;have wi:=cr ((i:Int)+1) yA yA;have SE:ps.take (i+1)=ps.take i++[q]:=by rw[take_add_one,hq];rfl
       have Ua:((ps.take i).map (jl is)).length=i:=by simp;omega
       have tN:=aC ((ps.take i).map (jl is));have WX:(i+1)*8<=140737488355328:=by omega
       obtain⟨q1,q2,q3,q4,hqc,tq⟩:=pb q;rw[hqc] at Zz VC;generalize hG:(ps.take i).map (jl is)=G at Ua tN;simp only[dW,cV] at VC |-;apply aW;simp[hC,h2,ZB,Jz];refine jk ?_;simp;apply eE;refine T.rx af follows [0,1,2,3,4,5,6,7,8,9,10,11,12,13,14,15] [(1,11),(1,12)] Bw ?_;simp[hC,h2,ZB,Jz,Zz];have MY:trees [.agg [I is.proc,aA is.bh],.agg [.bool q1,I q2,.az q3 q4]]=true:=by
        simp only[trees,tree,aE,Bool.and_true]
       refine RX.call rfl rfl rfl rfl rfl MY VC ?_;simp[Ua,WX,aY];apply aM;simp[hC,wi];refine⟨ps.length-(i+1),by omega,?_⟩;have tN2:trees ((G.map λ n:Nat=>I n)++[I (jl is q)])=true:=by rw[a9,tN];rfl
       have SF:=au tN2;have VM:=λ ρ=>ah ρ _ tN2;have tnt:=aE is.bh;simp only[aA,tree] at tnt;simp only[aA];refine aa.le (Le.norm [10,9,8,6,4,2] [(1,1),(2,2),(3,3),(21,4)] 0 5 SZ SY yCl yA) ?_;simp[cq,bb,aX,cO,ec,assoc,VM];refine aa.here ⟨i+1,rfl,by omega,?_⟩;simp[dW,cV,SE,hG,aA]
      .have Rz:i=ps.length:=by omega
       subst Rz;rw[take_length];have tN:=aC (ps.map (jl is));have tkN:take ps.length ((ps.map (jl is)).map λ n:Nat=>I n)=(ps.map (jl is)).map λ n:Nat=>I n:=take_of_length_le xr;have hnt:aA (ps.map (jl is))=.az ((ps.map (jl is)).map λ n:Nat=>I n) ps.length:=by simp[aA]
       simp only[dW,cV];rw[hnt];generalize hG:((ps.map (jl is)).map λ n:Nat=>I n)=G at tN tkN;apply aW;simp[hC,h2,ZB];refine bg ?_;simp;apply T.exit;simp;apply aq;simp[hC];apply T.ret;refine aa.le (Le.trim [6,7] [2,4] 5 (by simp[-all_eq_true,-all_flatMap,ai tN]) yA) ?_;simp;refine aa.le (Le.di (o:=4) rfl tN) ?_;simp[tkN];apply aa.here;simp
   .have hn:uX u is k=none:=by
     rw[U0]
     cases x with
     | call g t l ps=>exact (SG ⟨g,t,l,ps,rfl⟩).elim
     | _=>rfl
    have ho2:((qU x != 2)=true)/\((qU x != 3)=true):=by
     cases x with
     | call g t l ps=>exact (SG ⟨g,t,l,ps,rfl⟩).elim
     | lock u _=>cases u<;>exact⟨rfl,rfl⟩
     | _=>exact⟨rfl,rfl⟩
    apply aW;simp[hC,Vs,h1,h2,Vf,ho2.1,ho2.2];refine du ?_;simp;apply aq;simp[hC];apply T.ret;simp;refine aa.le (Le.trim [6,7] [2] 3 xr yA) ?_;simp;refine aa.le (Le.nz [] [2]) ?_;apply aa.here;simp[hn,Bv]
  .have hn:uX u is k=none:=by simp[uX,Sw,getElem?_eq_none (Nat.le_of_not_lt h2)]
   have Vs:(pq.code.length:Int)<=(k:Int):=by omega
   apply aW;simp[hC,Vs,h1];refine du ?_;simp;apply aq;simp[hC];apply T.ret;simp;refine aa.le (Le.trim [6,7] [2] 3 xr yA) ?_;simp;refine aa.le (Le.nz [] [2]) ?_;apply aa.here;simp[hn,Bv]
def J94 (l:List Nat)(x:Nat)(m:Nat)(s:St):Prop:=∃ i:Nat,m=l.length-i/\i<=l.length/\(x∉l.take i)/\s=⟨[(5,I i),(0,aA l),(1,I x)],[],0⟩
theorem M4 (l:List Nat)(x:Nat)(hl:l.length<=100000):ae prog 131 [aA l,I x] (.bool (decide (x∈l))):=by
 refine ae.aD af Tryz.func131 rfl Bw (by simp[Tryz.ntmps131]) rfl λ C hC M0=>?_;rw[Tryz.ntmps131] at hC;simp only[aA];apply aq;simp[hC];apply aW;simp[hC];apply T.block;refine T.aI (J94 l x) (n:=l.length) ?_ ?_
 .refine aa.trim [5,0,1] [] 0 U2 yA ⟨0,by omega,by omega,by simp,?_⟩;simp[aA]
 .rintro n s ⟨i,rfl,hi,hx,rfl⟩;simp only[aA];by_cases Jz:i<l.length
  .obtain⟨a,ha⟩:∃ a,l[i]? = some a:=⟨l[i],getElem?_eq_getElem Jz⟩;have OZ:=dV ha;have wi:=cr ((i:Int)+1) yA yA;have SE:l.take (i+1)=l.take i++[a]:=by rw[take_add_one,ha];rfl
   apply aW;simp[hC,Jz];refine jk ?_;simp;apply eE;by_cases hax:a=x
   .have hd:decide (x∈l)=true:=by simp only[decide_eq_true_eq];exact hax ▸ mem_of_getElem? ha
    subst hax;apply aq;simp[hC,Jz,OZ];refine du ?_;simp;apply aq;simp[hC];apply T.ret;apply aa.here;rw[hd];simp[Tryz.results131]
   .have SL:((a:Int) == (x:Int))=false:=by
     rw[beq_eq_false_iff_ne];omega
    apply aq;simp[hC,Jz,OZ,SL];refine gk ?_;simp;apply aM;simp[hC,wi];refine⟨l.length-(i+1),by omega,aa.trim [5,0,1] [] 0 U2 yA ⟨i+1,rfl,by omega,?_,?_⟩⟩
    .rw[SE,mem_append,mem_singleton,not_or];exact⟨hx,λ h=>hax h.symm⟩
    .simp[aA]
  .have Rz:i=l.length:=by omega
   subst Rz;rw[take_length] at hx;have hd:decide (x∈l)=false:=by simp[hx]
   apply aW;simp[hC];refine bg ?_;simp;apply T.exit;simp;apply aq;simp[hC];apply T.ret;apply aa.here;rw[hd];simp[Tryz.results131]
theorem BO:∀ (l:List Nat) (x i:Nat),i<cR l x->∃ a,l[i]? = some a/\a<x
 | [],x,i,h=>by simp[cR] at h
 | b::r,x,i,h=>by
  simp only[cR,takeWhile_cons] at h;split at h
  .rename_i hb
   cases i with
   | zero=>exact⟨b,rfl,by simpa using hb⟩
   | succ i=>
    obtain⟨a,h1,h2⟩:=BO r x i (by simp only[cR];simpa using h);exact⟨a,by simpa using h1,h2⟩
  .simp at h
theorem y3:∀ (l:List Nat) (x:Nat),cR l x<=l.length/\∀ a,l[cR l x]? = some a->¬ a<x
 | [],x=>⟨by simp[cR],λ a h=>by simp[cR] at h⟩
 | b::r,x=>by
  obtain⟨h1,h2⟩:=y3 r x;simp only[cR,takeWhile_cons] at h1 h2 |-;split
  .exact⟨by simpa using h1,λ a h=>h2 a UA⟩
  .rename_i hb;refine⟨by simp,λ a h=>?_⟩;simp only[length_nil,getElem?_cons_zero,Option.some.injEq] at h;subst h
   simpa using hb
def J61 (l:List Nat)(x:Nat)(m:Nat)(s:St):Prop:=∃ i:Nat,m=cR l x-i/\i<=cR l x/\s=⟨[(5,I i),(0,aA l),(1,I x)],[],0⟩
theorem JP (l:List Nat)(x:Nat)(hl:l.length<=100000):ae prog 73 [aA l,I x] (aA (iR l x)):=by
 have hhas:=M4 l x hl;have tl:=aC l;obtain⟨WQ,X0⟩:=y3 l x;refine ae.aD af Tryz.func73 rfl Bw (by simp[Tryz.ntmps73]) (aE _) λ C hC M0=>?_;rw[Tryz.ntmps73] at hC;apply aq;simp[hC];apply aW;simp[hC];have MY:trees [aA l,I x]=true:=by simp only[trees,aE,tree,Bool.and_self]
 refine cS MY hhas ?_;simp;by_cases hm:x∈l
 .have hw:iR l x=l:=if_pos hm;rw[hw];refine T.cond (b:=true) (by simp[ev,assoc,hm]) ?_;simp;apply aq;simp[hC];apply T.ret;apply aa.here;simp[Tryz.results73]
 .have hw:iR l x=l.take (cR l x)++x::l.drop (cR l x):=if_neg hm;rw[hw];refine T.cond (b:=false) (by simp[ev,assoc,hm]) (T.skip ?_);simp;apply aq;simp[hC];apply eE;refine T.aI (J61 l x) (n:=cR l x) ?_ ?_
  .refine aa.trim [5,0,1] [] 0 (by simp[-all_eq_true,bG 0 _ (aE l)]) yA ⟨0,by omega,by omega,?_⟩;simp
  .rintro n s ⟨i,rfl,hi,rfl⟩;simp only[aA];by_cases Jz:i<cR l x
   .obtain⟨a,ha,hax⟩:=BO l x i Jz;have OZ:=dV ha;have TY:i<l.length:=(List.getElem?_eq_some_iff.1 ha).1;have wi:=cr ((i:Int)+1) yA yA;have hax':(a:Int)<(x:Int):=by omega
    apply aW;simp[hC,TY,OZ,hax'];refine jk ?_;simp;apply T.block;apply aM;simp[hC,wi];refine⟨cR l x-(i+1),by omega,aa.trim [5,0,1] [] 0 U2 yA ⟨i+1,rfl,by omega,?_⟩⟩;simp[aA]
   .have Rz:i=cR l x:=by omega
    subst Rz;apply T.seq;refine T.cut (λ s=>s=⟨[(21,.bool false),(5,I (cR l x)),(0,aA l),(1,I x)],[],0⟩) ?_ ?_
    .cases TO:l[cR l x]? with
     | none=>
      have TY:¬ cR l x<l.length:=by
       rw[List.getElem?_eq_none_iff] at TO;omega
      apply aM;simp[hC,TY];refine aa.trim [21,5,0,1] [] 0 U2 yA ?_;simp[aA]
     | some a=>
      have TY:=(List.getElem?_eq_some_iff.1 TO).1;have OZ:=dV TO;have WD:¬ (a:Int)<(x:Int):=by have:=X0 a TO;omega
      apply aM;simp[hC,TY,OZ,WD];refine aa.trim [21,5,0,1] [] 0 U2 yA ?_;simp[aA]
    rintro s rfl;refine bg ?_;simp;apply T.exit;simp[aA];have WW:cR l x*8<=140737488355328:=by omega
    have T0:(cR l x+1)*8<=140737488355328:=by omega
    have hb3:(l.length+1)*8<=140737488355328:=by omega
    have hb4:(cR l x+1+(l.length-cR l x))*8<=140737488355328:=by omega
    apply T.seq;refine T.rx af follows [0,1,2,3,4,5,6,7,8,9,10,11,12] [(0,3),(0,6),(0,10),(3,6),(4,6),(4,10),(6,10),(7,10)] Bw ?_;simp[hC,WQ,WW,T0,hb4,aY];apply T.ret;have hlast:take (l.length-cR l x) (drop (cR l x) (l.map λ n:Nat=>I n))=(l.drop (cR l x)).map λ n:Nat=>I n:=by
     rw[<- map_drop,take_of_length_le xr]
    have Tr:take (cR l x) (l.map λ n:Nat=>I n)++I x::((l.drop (cR l x)).map λ n:Nat=>I n)=(l.take (cR l x)++x::l.drop (cR l x)).map λ n:Nat=>I n:=by simp
    have hlen:cR l x+1+(l.length-cR l x)=(l.take (cR l x)++x::l.drop (cR l x)).length:=by simp;omega
    have tN:=aC (l.take (cR l x)++x::l.drop (cR l x));simp only[hlast];rw[Tr];have SE:take (l.take (cR l x)++x::l.drop (cR l x)).length ((l.take (cR l x)++x::l.drop (cR l x)).map λ n:Nat=>I n)=(l.take (cR l x)++x::l.drop (cR l x)).map λ n:Nat=>I n:=take_of_length_le xr;rw[hlen];generalize hL:(l.take (cR l x)++x::l.drop (cR l x))=L at tN SE;refine aa.le (Le.trim [4] [15] 16 (by simp[-all_eq_true,ai tN]) yA) ?_;simp;refine aa.le (Le.di (o:=15) rfl tN) ?_;simp[SE];apply aa.here;simp;exact⟨by rw[<- hL];simp,by rw[<- hL];simp;omega⟩
end Go.Proofs.YtlkmbdfhdknlgaaGreat
namespace Go.aK
open Go.Can
theorem kR (l:List Nat):aA l=ints (l.map λ n:Nat=>(n:Int)):=by simp[aA,ints,List.map_map,Function.comp_def]
def nO (y:Is)(p:Int)(ls:List Int):Bool:=decide ((y.proc:Int)=p) && decide ((y.bh.map λ n:Nat=>(n:Int))=ls)
def ln:List Is->Int->List Int->Int->Int
 | [],_,_,_=>-1
 | y::r,p,ls,i=>if nO y p ls=true then i else ln r p ls (i+1)
end Go.aK
namespace Go.Proofs.YtlkmbdfhdknlgaaGreat
open Go.Can Go.aK List Tryz
set_option maxRecDepth 10000 in
theorem vf (a b:List Int)(ha:a.length<=4611686018427387904):ae prog 88 [ints a,ints b] (.bool (decide (a=b))):=by
 refine ae.aD af Tryz.func88 rfl Bw (by simp[Tryz.ntmps88]) rfl λ C hC M0=>?_;rw[Tryz.ntmps88] at hC;apply aq;simp[hC];apply aW;simp[hC,ints];refine T.bw rfl (λ h=>?_) (λ h=>?_)
 .apply aq;simp[hC];apply T.ret;apply aa.here;simp[Tryz.results88];intro e;subst e;simp at h
 .apply T.skip;have hl:a.length=b.length:=by simp at h;omega
  apply aW;simp[hC];apply T.block;refine T.aI (λ m s=>∃ i,m=a.length-i/\i<=a.length/\(∀ j,j<i->a[j]? = b[j]?)/\s=⟨[(5,.int .i64 i),(0,ints a),(1,ints b)],[],0⟩) (n:=a.length) ?_ ?_
  .refine aa.trim [5,0,1] [] 0 rfl yA ⟨0,rfl,Nat.zero_le _,by simp,?_⟩;simp[ints]
  .rintro n s ⟨i,rfl,hi,hj,rfl⟩;apply aW;simp[hC,ints];refine T.bw rfl (λ h=>?_) (λ h=>?_)
   .apply T.skip;have hib:i<a.length:=by simpa using h
    simp;have ea:a[i]? = some a[i]:=getElem?_eq_getElem hib;have eb:b[i]? = some b[i]:=getElem?_eq_getElem yA;refine T.seq (T.block (T.seq (T.rx af follows [0,1,2,3,4,5,6,7,8] [] Bw ?_)));simp[hC,hib,<- hl];refine T.bw rfl (λ h=>?_) (λ h=>?_)
    .apply aq;simp[hC];apply T.ret;apply aa.here;simp[Tryz.results88];intro e;subst e;simp at h
    .apply T.skip;simp;apply aM;simp[hC];refine⟨_,?_,aa.trim [5,0,1] [] 0 rfl yA ⟨i+1,rfl,hib,?_,?_⟩⟩
     .omega
     .intro j hj';by_cases e:j=i
      .subst e;rw[ea,eb];simpa using h
      .exact hj j yA
     .simp;rw[cr _ yA yA]
   .apply T.exit;simp;apply aq;simp[hC];apply T.ret;apply aa.here;simp[Tryz.results88];have:i=a.length:=by simp at h;omega
    subst this;refine ext_getElem? λ j=>?_;by_cases Tl:j<a.length
    .exact hj j Tl
    .rw[getElem?_eq_none yA,getElem?_eq_none yA]
def gM (l:List Is):Ob:=⟨95,2,l.flatMap dW⟩
def J33 (l:List Is)(X Y:CV)(p:Int)(ls:List Int)(n:Nat)(s:St):Prop:=∃ i:Nat,n=l.length-i/\i<=l.length/\ln l p ls 0=ln (l.drop i) p ls i/\s=⟨[(5,I i),(3,.ax 1 0),(2,.ax 0 0)],[(0,⟨34,0,[.az (l.flatMap dW) l.length,X,Y]⟩),(1,⟨95,0,[I p,ints ls]⟩)],2⟩
theorem JS (l:List Is)(hl:l.length<=100000)(TY:∀ x∈l,x.bh.length<=100000)(X Y:CV)(hX:tree X=true)(hY:tree Y=true)(p:Int)(ls:List Int) :
  ae prog 72 [.agg [.az (l.flatMap dW) l.length,X,Y],.agg [I p,ints ls]] (I (ln l p ls 0)):=by
 have YU:tree (ints ls)=true:=by simp[ints,tree]
 refine ae.aD af Tryz.func72 rfl Bw (by simp[Tryz.ntmps72]) rfl λ C hC M0=>?_;rw[Tryz.ntmps72] at hC;apply aq;simp[hC];apply aW;simp[hC];apply T.block;refine T.aI (J33 l X Y p ls) (n:=l.length) ?_ ?_
 .refine aa.trim [5,3,2] [0,1] 2 yCs yA ⟨0,by omega,by omega,rfl,?_⟩;simp
 .rintro n s ⟨i,rfl,hi,hf,rfl⟩;by_cases Jz:i<l.length
  .obtain⟨y,hy⟩:∃ y,l[i]? = some y:=⟨l[i],getElem?_eq_getElem Jz⟩;have hd:l.drop i=y::l.drop (i+1):=by
    rw[drop_eq_getElem_cons Jz,(List.getElem?_eq_some_iff.1 hy).2]
   rw[hd,ln] at hf;have OZ:=aL (f:=dW) (n:=2) g9 hy;have Uq:=cb (f:=dW) (n:=2) g9 hy 1 yA;have wi:=cr ((i:Int)+1) yA yA;have Wm:=vf (y.bh.map λ n:Nat=>(n:Int)) ls (by have:=TY y (mem_of_getElem? hy);simp;omega);rw[<- kR] at Wm;have MY:trees [aA y.bh,ints ls]=true:=by simp only[trees,aE,YU,Bool.and_self]
   apply aW;simp[hC,Jz];refine jk ?_;simp;apply eE;refine T.cut (λ s=>s=⟨(32,.bool (nO y p ls))::[(5,I i),(3,.ax 1 0),(2,.ax 0 0)],[(0,⟨34,0,[.az (l.flatMap dW) l.length,X,Y]⟩),(1,⟨95,0,[I p,ints ls]⟩)],2⟩) ?_ ?_
   .refine T.rx af follows [0,1,2,3,4,5,6,7,8,9,10,11,12,13,14,15,16,17,18,19] [] Bw ?_;by_cases hp:(y.proc:Int)=p
    .have Vy:nO y p ls=decide ((y.bh.map λ n:Nat=>(n:Int))=ls):=by simp[nO,hp]
     simp[hC,Jz,OZ,dW,hp];refine RX.call rfl rfl rfl rfl rfl MY Wm ?_;simp;refine aa.trim [32,5,3,2] [0,1] 2 yCs yA ?_;simp[Vy]
    .have Vy:nO y p ls=false:=by simp[nO,hp]
     have XD:((y.proc:Int) == p)=false:=by simpa using hp
     simp[hC,Jz,OZ,dW,XD];refine aa.trim [32,5,3,2] [0,1] 2 yCs yA ?_;simp[Vy]
   rintro s rfl
   cases hr:nO y p ls with
   | true=>
    rw[if_pos hr] at hf;refine du ?_;simp;apply aq;simp[hC];apply T.ret;have Tw:=hf;simp;apply aa.here;simp[Tryz.results72,Tw]
   | false=>
    rw[if_neg (by simp[hr])] at hf;refine gk ?_;simp;apply aM;simp[hC,wi];refine⟨l.length-(i+1),by omega,aa.trim [5,3,2] [0,1] 2 yCs yA ⟨i+1,rfl,by omega,hf,?_⟩⟩;simp
  .have Rz:i=l.length:=by omega
   rw[Rz,drop_length,ln] at hf;have Tw:=hf;apply aW;simp[hC,Jz];refine bg ?_;simp;apply T.exit;simp;apply aq;simp[hC];apply T.ret;apply aa.here;simp[Tryz.results72,Tw]
def J33B (l:List Is)(m:Nat)(cob:Ob)(Y:CV)(p:Int)(ls:List Int)(n:Nat)(s:St):Prop:=∃ i:Nat,n=l.length-i/\i<=l.length/\ln l p ls 0=ln (l.drop i) p ls i/\s=⟨[(5,I i),(3,.ax 3 0),(2,.ax 2 0)],[(2,⟨34,0,[.a7 0 0 l.length,.a7 1 0 m,Y]⟩),(3,⟨95,0,[I p,ints ls]⟩),(0,gM l),(1,cob)],4⟩
theorem zk (l:List Is)(hl:l.length<=100000)(TY:∀ x∈l,x.bh.length<=100000)(m:Nat)(cob:Ob)(ZC:trees cob.cells=true)(Y:CV)(hY:tree Y=true)(p:Int)(ls:List Int) :
  Body prog av 72 [.agg [.a7 0 0 l.length,.a7 1 0 m,Y],.agg [I p,ints ls]] [(0,gM l),(1,cob)] 2 (iO (I (ln l p ls 0)) [(0,gM l),(1,cob)] 2):=by
 have YU:tree (ints ls)=true:=by simp[ints,tree]
 refine Body.iZ Tryz.func72 rfl Bw (by simp[Tryz.ntmps72]) λ C hC M0=>?_;rw[Tryz.ntmps72] at hC;apply aq;simp[hC,gM];apply aW;simp[hC];apply T.block;refine T.aI (J33B l m cob Y p ls) (n:=l.length) ?_ ?_
 .refine aa.trim [5,3,2] [2,3,0,1] 4 yD yA ⟨0,by omega,by omega,rfl,?_⟩;simp[gM]
 .rintro n s ⟨i,rfl,hi,hf,rfl⟩;by_cases Jz:i<l.length
  .obtain⟨y,hy⟩:∃ y,l[i]? = some y:=⟨l[i],getElem?_eq_getElem Jz⟩;have hd:l.drop i=y::l.drop (i+1):=by
    rw[drop_eq_getElem_cons Jz,(List.getElem?_eq_some_iff.1 hy).2]
   rw[hd,ln] at hf;have OZ:=aL (f:=dW) (n:=2) g9 hy;have Uq:=cb (f:=dW) (n:=2) g9 hy 1 yA;have wi:=cr ((i:Int)+1) yA yA;have Wm:=vf (y.bh.map λ n:Nat=>(n:Int)) ls (by have:=TY y (mem_of_getElem? hy);simp;omega);rw[<- kR] at Wm;have MY:trees [aA y.bh,ints ls]=true:=by simp only[trees,aE,YU,Bool.and_self]
   apply aW;simp[hC,Jz];refine jk ?_;simp;apply eE;refine T.cut (λ s=>s=⟨(32,.bool (nO y p ls))::[(5,I i),(3,.ax 3 0),(2,.ax 2 0)],[(2,⟨34,0,[.a7 0 0 l.length,.a7 1 0 m,Y]⟩),(3,⟨95,0,[I p,ints ls]⟩),(0,gM l),(1,cob)],4⟩) ?_ ?_
   .refine T.rx af follows [0,1,2,3,4,5,6,7,8,9,10,11,12,13,14,15,16,17,18,19] [] Bw ?_;by_cases hp:(y.proc:Int)=p
    .have Vy:nO y p ls=decide ((y.bh.map λ n:Nat=>(n:Int))=ls):=by simp[nO,hp]
     simp[hC,Jz,OZ,Uq,dW,hp,gM];refine RX.call rfl rfl rfl rfl rfl MY Wm ?_;simp;refine aa.trim [32,5,3,2] [2,3,0,1] 4 yD yA ?_;simp[Vy]
    .have Vy:nO y p ls=false:=by simp[nO,hp]
     have XD:((y.proc:Int) == p)=false:=by simpa using hp
     simp[hC,Jz,OZ,dW,XD,gM];refine aa.trim [32,5,3,2] [2,3,0,1] 4 yD yA ?_;simp[Vy]
   rintro s rfl
   cases hr:nO y p ls with
   | true=>
    rw[if_pos hr] at hf;refine du ?_;simp;apply aq;simp[hC];apply T.ret;have Tw:=hf;simp;refine aa.trim [4] [0,1] 2 (by simp[-all_eq_true,ai ZC,ai (ak bS l),gM]) yA ⟨_,?_,rfl,?_,rfl⟩
    .simp[Tryz.results72,Tw]
    .simp[gM]
   | false=>
    rw[if_neg (by simp[hr])] at hf;refine gk ?_;simp;apply aM;simp[hC,wi];refine⟨l.length-(i+1),by omega,aa.trim [5,3,2] [2,3,0,1] 4 (by simp[-all_eq_true,-all_flatMap,bG 4 _ hY,ai (ak bS l),bG 4 _ YU,ai ZC,gM]) yA ⟨i+1,rfl,by omega,hf,?_⟩⟩;simp[gM]
  .have Rz:i=l.length:=by omega
   rw[Rz,drop_length,ln] at hf;have Tw:=hf;apply aW;simp[hC,Jz];refine bg ?_;simp;apply T.exit;simp;apply aq;simp[hC];apply T.ret;refine aa.trim [4] [0,1] 2 (by simp[-all_eq_true,ai ZC,ai (ak bS l),gM]) yA ⟨_,?_,rfl,?_,rfl⟩
   .simp[Tryz.results72,Tw]
   .simp[gM]
end Go.Proofs.YtlkmbdfhdknlgaaGreat
namespace Go.aK
open Go.Can List
def comb (n:Nat):Nat->List (List Nat)
 | 0=>[[]]
 | k+1=>(range n).flatMap λ a=>(comb n k).map (a :: ·)
theorem CM (n:Nat):∀ (l:List Nat),(∀ x∈l,x<n)->l∈comb n l.length
 | [],_=>by simp[comb]
 | a::r,h=>by
  simp only[length_cons,comb,mem_flatMap,mem_range,mem_map];exact⟨a,h a mem_cons_self,r,CM n r λ x hx=>h x (mem_cons_of_mem _ hx),rfl⟩
theorem B6 (c:Nat):∀ l:List Nat,(∀ x∈l,x<=c)->l.sum<=l.length*c
 | [],_=>by simp
 | a::r,h=>by
  have h1:=h a mem_cons_self;have h2:=B6 c r λ x hx=>h x (mem_cons_of_mem _ hx);rw[sum_cons,length_cons,Nat.succ_mul];omega
theorem Dz (n:Nat):∀ k,(comb n k).length=n ^ k
 | 0=>by simp[comb]
 | k+1=>by
  simp only[comb,length_flatMap,length_map,Dz n k];rw[map_const',sum_replicate_nat,length_range,Nat.pow_succ,Nat.mul_comm]
def yy (n:Nat):Nat->List Pr->List Is
 | _,[]=>[]
 | t,q::r=>(comb n q.bh).map (λ ls=>⟨t,ls⟩)++yy n (t+1) r
theorem CN (n:Nat):∀ (l:List Pr) (t j:Nat) (q:Pr) (x:Is),l[j]? = some q->x.proc=t+j->x.bh.length=q.bh->(∀ a∈x.bh,a<n)->x∈yy n t l
 | [],_,_,_,_,h,_,_,_=>by simp at h
 | p::r,t,0,q,x,h,hp,hl,ha=>by
  simp only[getElem?_cons_zero,Option.some.injEq] at h;subst h;simp only[yy,mem_append,mem_map];refine .inl ⟨x.bh,by rw[<- hl];exact CM n _ ha,?_⟩;cases x;simp only at hp;simp[hp]
 | p::r,t,j+1,q,x,h,hp,hl,ha=>by
  simp only[getElem?_cons_succ] at h;simp only[yy,mem_append];exact .inr (CN n r (t+1) j q x h yA hl ha)
theorem zC {α:Type}(w:α->Nat):∀ (l m:List α),l.Nodup->(∀ x∈l,x∈m)->(l.map w).sum<=(m.map w).sum
 | [],_,_,_=>by simp
 | a::r,m,hn,hs=>by
  obtain⟨m1,m2,rfl⟩:=append_of_mem (hs a mem_cons_self);rw[nodup_cons] at hn;have ih:=zC w r (m1++m2) hn.2 λ x hx=>by
   have h1:=hs x (mem_cons_of_mem _ hx);have SL:x≠a:=λ e=>hn.1 (e ▸ hx);simp only[mem_append,mem_cons] at h1 |-;rcases h1 with h | h | h
   .exact .inl h
   .exact (SL h).elim
   .exact .inr h
  simp only[map_append,sum_append,map_cons,sum_cons] at ih |-;omega
theorem DR {u:Un}(w:Is->Nat)(c:Nat)(n:Nat)(hw:∀ x,w x<=c)(hn:n<=4):∀ (l:List Pr) (t:Nat),(∀ q∈l,q.bh<=2)->((yy n t l).map w).sum<=l.length*(16*c)
 | [],_,_=>by simp[yy]
 | q::r,t,h=>by
  have h1:=DR (u:=u) w c n hw hn r (t+1) λ x hx=>h x (mem_cons_of_mem _ hx);have h2:=h q mem_cons_self;have h3:(comb n q.bh).length<=16:=by
   rw[Dz]
   calc n ^ q.bh<=4 ^ q.bh:=Nat.pow_le_pow_left hn _
    _<=4 ^ 2:=Nat.pow_le_pow_right yA h2
  have h4:(((comb n q.bh).map λ ls=>(⟨t,ls⟩:Is)).map w).sum<=16*c:=by
   refine Nat.le_trans (B6 c _ λ x hx=>?_) (Nat.mul_le_mul_right c (by simpa using h3));simp only[mem_map] at hx;obtain⟨y,_,rfl⟩:=hx;exact hw y
  have h5:(r.length+1)*(16*c)=r.length*(16*c)+16*c:=Nat.succ_mul _ _;simp only[yy,map_append,sum_append,length_cons];omega
theorem C2 {u:Un}(hu:gg u)(w:Is->Nat)(c:Nat)(hw:∀ x,w x<=c){l:List Is}(hn:l.Nodup)(hv:∀ x∈l,ub u x):(l.map w).sum<=c+48*c:=by
 have XW:=hu.np;have Tu:=hu.nm;have h1:=zC w l (yy u.ms.length 0 u.ps) hn λ x hx=>by
  obtain⟨⟨q,hq,hl⟩,hm⟩:=hv x hx;exact CN _ _ 0 x.proc q x hq yA hl hm
 refine Nat.le_trans h1 ?_
 cases Uk:u.ps with
 | nil=>rw[Uk] at XW;simp at XW
 | cons q0 r=>
  have h0:=hu.p0 q0 (by rw[Uk];rfl);have hr:r.length<=3:=by rw[Uk] at XW;simp at XW;omega
  have h2:=DR (u:=u) w c u.ms.length hw Tu.2 r 1 λ q hq=>(hu.pr q (by rw[Uk];exact mem_cons_of_mem _ hq)).2.1;have h3:(yy u.ms.length 0 (q0::r))=⟨0,[]⟩ :: yy u.ms.length 1 r:=by simp[yy,h0.2,comb]
  rw[h3,map_cons,sum_cons];have h4:=hw ⟨0,[]⟩;have h5:r.length*(16*c)<=48*c:=by
   calc r.length*(16*c)<=3*(16*c):=Nat.mul_le_mul_right _ hr
    _=48*c:=by omega
  omega
theorem jU {u:Un}(hu:gg u){l:List Is}(hn:l.Nodup)(hv:∀ x∈l,ub u x):l.length<=49:=by
 have:=C2 hu (λ _=>1) 1 (λ _=>Nat.le_refl _) hn hv;rw[map_const',sum_replicate_nat] at this;omega
theorem lv {u:Un}(hu:gg u)(x:Is):(ay u x).length<=145:=by
 unfold ay
 cases h:u.ps[x.proc]? with
 | none=>simp
 | some q=>exact (hu.pr q (mem_of_getElem? h)).2.2.2.2
theorem Fa {u:Un}(hu:gg u){l:List Is}(hn:l.Nodup)(hv:∀ x∈l,ub u x):(l.map λ x=>(ay u x).length).sum<=7105:=
 C2 hu _ 145 (lv hu) hn hv
theorem oA {l:List Is}{x:Is}(h:l.Nodup):(fy l x).Nodup:=by
 unfold fy;split
 .exact h
 .rename_i hx;refine nodup_append.2 ⟨h,by simp,λ a ha b hb e=>?_⟩;rw[mem_singleton] at hb;subst hb;subst e;exact hx ha
theorem FH {u:Un}{l:List Is}{x:Is}(h:∀ y∈l,ub u y)(hx:ub u x):∀ y∈fy l x,ub u y:=by
 unfold fy;split
 .exact h
 .intro y hy;rcases mem_append.1 hy with hy | hy
  .exact h y hy
  .rw[mem_singleton] at hy;subst hy;exact hx
theorem OC {l:List Is}{x y:Is}{i:Nat}(h:l[i]? = some y):(fy l x)[i]? = some y:=by
 unfold fy;split
 .exact h
 .rw[getElem?_append_left (List.getElem?_eq_some_iff.1 h).1];exact h
theorem DT (l:List Is)(x:Is):x∈fy l x:=by
 unfold fy;split
 .assumption
 .simp
theorem DS (l:List Is)(x:Is):∃ t,fy l x=l++t:=by
 unfold fy;split
 .exact⟨[],by simp⟩
 .exact⟨[x],rfl⟩
theorem su (x:Is):∀ (c:List In) (l:List Is) (r:List Nat),∃ t,(iM x c l r).1=l++t
 | [],l,r=>⟨[],by simp[iM]⟩
 | i::c,l,r=>by
  simp only[iM]
  cases kK x i with
  | none=>exact su x c l r
  | some y=>
   simp only;obtain⟨t1,h1⟩:=DS l y;obtain⟨t2,h2⟩:=su x c (fy l y) (if uJ i=true then iR r (eC (fy l y) y) else r);exact⟨t1++t2,by rw[h2,h1,append_assoc]⟩
theorem wx {l:List Is}{x:Is}(h:x∈l):eC l x<l.length:=by
 unfold eC;exact findIdx_lt_length_of_exists ⟨x,h,by simp⟩
end Go.aK
