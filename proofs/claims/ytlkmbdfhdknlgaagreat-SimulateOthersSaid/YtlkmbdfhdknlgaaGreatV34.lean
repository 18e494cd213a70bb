/- declared. -/
import Derived.Test.YtlkmbdfhdknlgaaGreatV33
namespace Go.aV
open Go.Can List
theorem jj (c:Nat):∀ (l:List ByteArray) (i:Nat),(D7 c i l).length=l.length
 | [],_=>rfl
 | s::r,i=>by simp[D7,jj c r]
theorem zm {c:Nat}:∀ {l:List ByteArray} {i j:Nat} {s:ByteArray},l[j]? = some s->(D7 c i l)[j]? = some ⟨s,c,i+j⟩
 | [],_,_,_,h=>by simp at h
 | x::r,i,0,s,h=>by
  simp only[getElem?_cons_zero,Option.some.injEq] at h;subst h;rfl
 | x::r,i,j+1,s,h=>by
  simp only[getElem?_cons_succ] at h;simp only[D7,getElem?_cons_succ];rw[zm h];congr 2;omega
theorem Bw (p:Pg):(dz p).length=p.gs.length+p.ms.length+p.fs.length:=by simp[dz,jj];omega
theorem Nc {p:Pg}{i:Nat}{x:Gl}(h:p.gs[i]? = some x):(dz p)[i]? = some ⟨x.name,1,i⟩:=by
 have hl:=(List.getElem?_eq_some_iff.1 h).1;have h2:(p.gs.map (·.name))[i]? = some x.name:=by rw[getElem?_map,h];rfl
 rw[dz,append_assoc,getElem?_append_left (by rw[jj,length_map];exact hl),zm h2,Nat.zero_add]
theorem Nb {p:Pg}{i:Nat}{x:Mx}(h:p.ms[i]? = some x):(dz p)[p.gs.length+i]? = some ⟨x.name,2,i⟩:=by
 have hl:=(List.getElem?_eq_some_iff.1 h).1;have h2:(p.ms.map (·.name))[i]? = some x.name:=by rw[getElem?_map,h];rfl
 rw[dz,append_assoc,getElem?_append_right (by rw[jj,length_map];omega),jj,length_map,Nat.add_sub_cancel_left,getElem?_append_left (by rw[jj,length_map];exact hl),zm h2,Nat.zero_add]
theorem Nd {p:Pg}{i:Nat}{x:Fu}(h:p.fs[i]? = some x):(dz p)[p.gs.length+p.ms.length+i]? = some ⟨x.name,3,i⟩:=by
 have h2:(p.fs.map (·.name))[i]? = some x.name:=by rw[getElem?_map,h];rfl
 rw[dz,getElem?_append_right (by rw[length_append,jj,jj,length_map,length_map];omega),length_append,jj,jj,length_map,length_map,Nat.add_sub_cancel_left,zm h2,Nat.zero_add]
theorem KB {p:Pg}(h:kM p):((dz p).map (·.name)).Nodup:=by
 obtain⟨a1,a2,_,_⟩:=gQ;obtain⟨s1,s2,s3,_⟩:=h.sub;obtain⟨d1,d2,d3,_⟩:=h.nd;rw[dz,map_append,map_append,mb,mb,mb];refine nodup_append.2 ⟨nodup_append.2 ⟨d1,d2,λ a ha b hb e=>?_⟩,d3,λ a ha b hb e=>?_⟩
 ·subst e;exact a1 _ (s2 _ hb) (s1 _ ha)
 ·subst e;rcases mem_append.1 ha with ha | ha
  ·exact (a2 _ (s3 _ hb)).1 (s1 _ ha)
  ·exact (a2 _ (s3 _ hb)).2 (s2 _ ha)
theorem H9 {E:List En}(h:(E.map (·.name)).Nodup){i:Nat}{x:En}(hx:E[i]? = some x):jh (E.take i) x.name=none:=by
 obtain⟨hl,QD⟩:=List.getElem?_eq_some_iff.1 hx;have e:E=E.take i++x::E.drop (i+1):=by rw[<- QD,<- drop_eq_getElem_cons hl,take_append_drop]
 have h2:((E.take i++x::E.drop (i+1)).map (·.name)).Nodup:=by rw[<- e];exact h
 rw[map_append,map_cons,nodup_append] at h2;rw[qO];exact λ hm=>h2.2.2 _ hm _ mem_cons_self rfl
end Go.aV
namespace Go.Proofs.YtlkmbdfhdknlgaaGreat
open Go.Can Go.aV List
def iM (E:List En):Ob:=⟨145,3,E.flatMap iF⟩
@[simp] theorem Ig (E:List En)(n:Nat):(iM E).cells.all (aU n)=true:=aj (cM E) n
@[simp] theorem enOb_ltS (E:List En)(n:Nat):aX n (iM E).cells=true:=by rw[aE];exact Ig E n
@[simp] theorem enOb_frz (E:List En)(o:Nat)(cs:List CV)(n:Nat):(iM E).cells.map (cK o cs n)=(iM E).cells:=ai (cM E) o cs n
@[simp] theorem enOb_eta (E:List En):(⟨(iM E).elem,(iM E).sz,(iM E).cells⟩:Ob)=iM E:=rfl
@[simp] theorem NW (ρ:Nat->Nat)(E:List En):bf ρ (iM E)=iM E:=dp _ _ _ (cM E)
def J59B (E:List En)(s:ByteArray)(n:Nat)(st:St):Prop:=∃ i:Nat,n=E.length-i/\i<=E.length/\jh E s=jh (E.drop i) s/\st=⟨[(6,I i),(5,.bool false),(4,.ax 1 0),(0,.bg 0 0 E.length),(1,.str s)],[(1,⟨145,0,[.str ⟨#[]⟩,I 0,I 0]⟩),(0,iM E)],2⟩
theorem Bi (E:List En)(s:ByteArray)(hl:E.length<=100000):Body Tryz.prog av 69 [.bg 0 0 E.length,.str s] [(0,iM E)] 1 (jk (qQ (jh E s)) [(0,iM E)] 1):=by
 have PS:=λ (i:Nat) (x:En) (h:E[i]? = some x)=>aH (f:=iF) (n:=3) kU (m:=E) h;refine Body.jb Tryz.func69 rfl GK (by simp[Tryz.ntmps69]) λ C hC OR=>?_;rw[Tryz.ntmps69] at hC;apply aq;simp[hC];apply aT;simp[hC];apply T.block;refine T.aQ (J59B E s) (n:=E.length) ?_ ?_
 ·refine aa.here ⟨0,by omega,by omega,rfl,?_⟩;simp
 ·rintro n st ⟨i,rfl,hi,hf,rfl⟩;by_cases OP:i<E.length
  ·obtain⟨a,PX⟩:∃ a,E[i]? = some a:=⟨E[i],getElem?_eq_getElem OP⟩;have OS:=PS i a PX;have wi:=cw ((i:Int)+1) yA yA;have hd:E.drop i=a::E.drop (i+1):=by
    rw[drop_eq_getElem_cons OP,(List.getElem?_eq_some_iff.1 PX).2]
   rw[hd,jh] at hf;apply aT;simp[hC,OP];refine iI ?_;simp;apply eZ;apply aq;simp[hC,OP,OS,iF,iV,iM];by_cases hn:a.name=s
   ·rw[if_pos hn] at hf;simp only[hn,decide_true];refine cX ?_;simp;apply aq;simp[hC,OP,OS,iF];apply T.ret;refine aa.le (Le.cF (o:=1) rfl rfl) ?_;simp[ai (cM E)];refine aa.trim [4,5] [0] 1 (by simp[-all_eq_true,-all_flatMap,aj (cM E)]) yA ⟨_,?_,rfl,?_,rfl⟩
    ·simp[hf,qQ,iF]
    ·simp
   ·rw[if_neg hn] at hf;simp only[hn,decide_false];refine eQ ?_;simp;apply aG;simp[hC,wi];refine⟨E.length-(i+1),by omega,?_⟩;refine aa.trim [6,5,4,0,1] [1,0] 2 (by simp[-all_eq_true,-all_flatMap,aj (cM E)]) yA ⟨i+1,rfl,by omega,hf,?_⟩;simp[iM]
  ·have OV:i=E.length:=by omega
   rw[OV,drop_length,jh] at hf;apply aT;simp[hC,OP];refine bh ?_;simp;apply T.exit;simp;apply aq;simp[hC];apply T.ret;refine aa.le (Le.cF (o:=1) rfl rfl) ?_;simp;refine aa.trim [4,5] [0] 1 RY yA ⟨_,?_,rfl,?_,rfl⟩
   ·simp[hf,qQ]
   ·simp
def J58 (p:Pg)(m:Nat)(s:St):Prop:=∃ i:Nat,m=(dz p).length-i/\i<=(dz p).length/\
 s=⟨[(7,I i),(6,I (dz p).length),(5,I (-1)),(4,.bg 1 0 i),(1,.ax 0 0)],[(0,⟨27,0,eU p⟩),(1,iM ((dz p).take i))],2⟩
theorem Bv (p:Pg)(h:kM p)(hm:p.ms.length<=1000)(hf:p.fs.length<=1000)(hg:p.gs.length<=1000):af Tryz.prog 68 [xB p] (.bY [.au ((dz p).flatMap iF) (dz p).length,I (-1)]):=by
 have Q4:=Bw p;have QU:=KB h;obtain⟨t1,t2,t3⟩:=hU p;refine af.aC ag Tryz.func68 rfl GK (by simp[Tryz.ntmps68]) rfl λ C hC OR=>?_;rw[Tryz.ntmps68] at hC;have hw1:=cw ((p.gs.length:Int)+p.ms.length) yA yA;have hw2:=cw ((p.gs.length:Int)+p.ms.length+p.fs.length) yA yA;simp only[xB,eU];apply aq;simp[hC];apply aq;simp[hC];apply aq;simp[hC];apply aq;simp[hC,hw1,hw2];apply aT;simp[hC];apply T.block;refine T.aQ (J58 p) (n:=(dz p).length) ?_ ?_
 ·refine aa.le (Le.own 4 145 3 rfl) ?_;simp;refine aa.trim [7,6,5,4,1] [0,1] 2 RY yA ⟨0,by omega,by omega,?_⟩;simp[eU,Q4,iM]
 ·rintro n s ⟨i,rfl,hi,rfl⟩;by_cases OP:i<(dz p).length
  ·obtain⟨x,Rp⟩:∃ x,(dz p)[i]? = some x:=⟨(dz p)[i],getElem?_eq_getElem OP⟩;have wi:=cw ((i:Int)+1) yA yA;have wd:=cw ((i:Int)-(p.gs.length:Int)) yA yA;apply aT;simp[hC,OP];refine iI ?_;simp;apply eZ;apply aq;simp[hC];refine T.cut (λ z=>z=⟨[(8,.ax 2 0),(7,I i),(6,I (dz p).length),(5,I (-1)),(4,.bg 1 0 i),(1,.ax 0 0)],[(0,⟨27,0,eU p⟩),(1,iM ((dz p).take i)),(2,⟨145,0,iF x⟩)],3⟩) ?_ ?_
   ·simp only[eU];by_cases c1:i<p.gs.length
    ·obtain⟨y,hy⟩:∃ y,p.gs[i]? = some y:=⟨p.gs[i],getElem?_eq_getElem c1⟩;have hx:=Nc hy;rw[Rp] at hx;cases hx;have OS:=aH (f:=pE) (n:=2) (λ _=>rfl) hy;have W9:(i:Int)-(p.gs.length:Int)<0:=by omega
     apply aq;simp[hC,wd];apply T.block;apply aq;simp[hC,W9];refine cX ?_;simp;apply aG;simp[hC,c1,OS,pE];refine aa.trim [8,7,6,5,4,1] [0,1,2] 3 RY yA ?_;simp[iF]
    ·by_cases c2:i<p.gs.length+p.ms.length
     ·obtain⟨j,rfl⟩:∃ j,i=p.gs.length+j:=⟨i-p.gs.length,by omega⟩;have c3:j<p.ms.length:=by omega
      obtain⟨y,hy⟩:∃ y,p.ms[j]? = some y:=⟨p.ms[j],getElem?_eq_getElem c3⟩;have hx:=Nb hy;rw[Rp] at hx;cases hx;have OS:=aH (f:=cI) (n:=3) (λ _=>rfl) hy;have Qz:(p.gs.length:Int)+(j:Int)-(p.gs.length:Int)=(j:Int):=by omega
      have wj:=cw (j:Int) yA yA;apply aq;simp[hC,Qz,wj];apply T.block;apply aq;simp[hC];refine bh ?_;simp;apply aq;simp[hC,c3];refine cX ?_;simp;apply aG;simp[hC,c3,OS,cI];refine aa.trim [8,7,6,5,4,1] [0,1,2] 3 RY yA ?_;simp[iF]
     ·obtain⟨j,rfl⟩:∃ j,i=p.gs.length+p.ms.length+j:=⟨i-p.gs.length-p.ms.length,by omega⟩;have c3:j<p.fs.length:=by omega
      obtain⟨y,hy⟩:∃ y,p.fs[j]? = some y:=⟨p.fs[j],getElem?_eq_getElem c3⟩;have hx:=Nd hy;rw[Rp] at hx;cases hx;have OS:=aH (f:=fD) (n:=3) (λ _=>rfl) hy;have Qz:(p.gs.length:Int)+(p.ms.length:Int)+(j:Int)-(p.gs.length:Int)=(p.ms.length:Int)+(j:Int):=by omega
      have YT:(p.ms.length:Int)+(j:Int)-(p.ms.length:Int)=(j:Int):=by omega
      have wj:=cw (j:Int) yA yA;have wmj:=cw ((p.ms.length:Int)+(j:Int)) yA yA;have Wt:¬ (p.ms.length:Int)+(j:Int)<0:=by omega
      have P5:¬ (p.ms.length:Int)+(j:Int)<(p.ms.length:Int):=by omega
      apply aq;simp[hC,Qz,wmj];apply T.block;apply aq;simp[hC,Wt];refine bh ?_;simp;apply aq;simp[hC,P5];refine bh ?_;simp;refine T.rx ag follows [0,1,2,3,4,5,6,7,8,9,10,11,12,13,14,15,16] [] GK ?_;simp[hC,YT,wj,c3,OS,fD];refine aa.trim [8,7,6,5,4,1] [0,1,2] 3 RY yA ?_;simp[iF]
   ·rintro z rfl;simp only[eU];have Sl:=Bi ((dz p).take i) x.name (by rw[length_take];omega);rw[H9 QU Rp,length_take,Nat.min_eq_left yA] at Sl;have f1:=aA (f:=iF) (n:=3) kU ((dz p).take i);rw[length_take,Nat.min_eq_left yA] at f1;have SJ:(i+1)*32<=140737488355328:=by omega
    apply aT;simp[hC,iF];refine TL.jG ag 0 1 [1] 1 Sl OU rfl rfl (by simp[aL,cQ,bJ,ev,assoc]) xr yA xr xr (by simp[aX,aU]) xr rfl (by simp[aL,cQ,aU]) xr xr (TL.go' ag ?_);simp[hC,qQ];apply aq;simp[hC];refine eQ ?_;simp;apply aG;simp[hC,f1,SJ,aS,iM];apply aG;simp[hC,wi];have Pb:(dz p).take (i+1)=(dz p).take i++[x]:=by rw[take_add_one,Rp];rfl
    refine⟨(dz p).length-(i+1),by omega,?_⟩;refine aa.le (Le.trim [7,6,5,4,1] [0,5] 6 (by simp[-all_eq_true,-all_flatMap,aj (cM _)]) yA) ?_;simp;refine aa.le (Le.ph 5 1 rfl rfl yA xr xr (by simp[-all_eq_true,-all_flatMap,bC (cM _),qI 5 1 _ t1,qI 5 1 _ t2,qI 5 1 _ t3])) ?_;simp[bm (cM _)];refine aa.trim [7,6,5,4,1] [0,1] 2 (by simp[-all_eq_true,-all_flatMap,aj (cM _)]) yA ⟨i+1,rfl,by omega,?_⟩;simp[iM,Pb,eU,iF]
  ·have OV:i=(dz p).length:=by omega
   apply aT;simp[hC,OP];refine bh ?_;simp;apply T.exit;simp;apply aq;simp[hC];apply T.ret;subst OV;have tk:take ((dz p).length*3) ((dz p).flatMap iF)=(dz p).flatMap iF:=take_of_length_le (by rw[aA (f:=iF) (n:=3) kU];omega);refine aa.le (Le.trim [2,3] [1] 2 RY yA) ?_;simp[take_length];refine aa.le (Le.cF (o:=1) rfl (cM _)) ?_;apply aa.here;simp[iM,tk]
end Go.Proofs.YtlkmbdfhdknlgaaGreat
namespace Go.aV
open Go.Can List
def Mu (i j:Nat)(q:Pm):En:=if q.mutex=true then ⟨q.name,5,j⟩ else ⟨q.name,4,i⟩
theorem vd:∀ (a:List Pm) (q:Pm) (i j:Nat),ll i j (a++[q])=ll i j a++[Mu (i+pI a) (j+pL a) q]
 | [],q,i,j=>by
  simp only[nil_append,ll,pI,pL,Nat.add_zero,Mu];split<;>rfl
 | p::r,q,i,j=>by
  simp only[cons_append,ll,pI,pL];split
  ·rw[vd r q,cons_append];congr 3;simp only[Mu];congr 2<;>omega
  ·rw[vd r q,cons_append];congr 3;simp only[Mu];congr 2<;>omega
theorem CH:∀ (a:List Pm) (q:Pm),pI (a++[q])=pI a+if q.mutex=true then 0 else 1
 | [],q=>by simp[pI]
 | p::r,q=>by simp only[cons_append,pI,CH r q];omega
theorem CG:∀ (a:List Pm) (q:Pm),pL (a++[q])=pL a+if q.mutex=true then 1 else 0
 | [],q=>by simp[pL]
 | p::r,q=>by simp only[cons_append,pL,CG r q];omega
theorem Ap:∀ (l:List Pm) (i j:Nat),(ll i j l).length=l.length
 | [],_,_=>rfl
 | p::r,i,j=>by
  simp only[ll];split<;>simp[Ap r]
def nD (p:Pg)(f:Fu)(j:Nat):List En:=dz p++ll 0 0 (f.params.take j)
theorem FG (p:Pg)(f:Fu)(j:Nat)(q:Pm)(h:f.params[j]? = some q):nD p f (j+1)=nD p f j++[Mu (pI (f.params.take j)) (pL (f.params.take j)) q]:=by
 have:f.params.take (j+1)=f.params.take j++[q]:=by rw[take_add_one,h];rfl
 simp only[nD,this,vd,Nat.zero_add,append_assoc]
theorem Bf (p:Pg)(f:Fu)(j:Nat)(h:j<=f.params.length):(nD p f j).length=(dz p).length+j:=by
 simp only[nD,length_append,Ap,length_take];omega
theorem H4 {p:Pg}(h:kM p){f:Fu}(hf:f∈p.fs){j:Nat}{q:Pm}(hq:f.params[j]? = some q):jh (nD p f j) q.name=none:=by
 obtain⟨_,_,_,d4⟩:=h.dec;obtain⟨_,_,a3,_⟩:=gQ;obtain⟨_,_,_,s4⟩:=h.sub;obtain⟨_,_,_,n4⟩:=h.nd;have hm:=s4 f hf _ (mem_map_of_mem (f:=(·.name)) (mem_of_getElem? hq));have ha:=a3 _ hm;rw[nD,dQ,d4 _ (by simp only[mem_append,not_or];exact⟨⟨ha.1,ha.2.1⟩,ha.2.2⟩)];simp only;rw[qO,pU];obtain⟨hl,QD⟩:=List.getElem?_eq_some_iff.1 hq;have e:f.params=f.params.take j++q::f.params.drop (j+1):=by rw[<- QD,<- drop_eq_getElem_cons hl,take_append_drop]
 have h2:((f.params.take j++q::f.params.drop (j+1)).map (·.name)).Nodup:=by rw[<- e];exact n4 f hf
 rw[map_append,map_cons,nodup_append] at h2;exact λ hm=>h2.2.2 _ hm _ mem_cons_self rfl
end Go.aV
namespace Go.Proofs.YtlkmbdfhdknlgaaGreat
open Go.Can Go.aV List
def xz:Ob:=⟨150,0,[.str ⟨#[]⟩,I 0,I 0,I 0,.ak]⟩
def xo (p:Pg)(n:Nat):Ob:=⟨215,0,[.au (p.gs.flatMap pE) p.gs.length,.au (p.ms.flatMap cI) p.ms.length,.au (p.fs.flatMap fD) p.fs.length,.bg 3 0 n,I 0,I 0,I 0,I 0,.ak,.ak]⟩
def J60 (p:Pg)(f:Fu)(m:Nat)(s:St):Prop:=∃ j:Nat,m=f.params.length-j/\j<=f.params.length/\
 s=⟨[(12,I j),(11,.ax 4 0),(10,.ax 2 0),(6,.ax 1 0),(5,.ax 0 0)],
  [(0,⟨136,0,fD f⟩),(1,xz),(2,xo p (nD p f j).length),(3,iM (nD p f j)),(4,⟨150,0,[.str f.name,I (pI (f.params.take j)),I (pL (f.params.take j)),I 0,.ak]⟩)],5⟩
set_option maxHeartbeats 4000000 in
theorem Bd (p:Pg)(h:kM p)(hB:PgB p)(Q4:(dz p).length<=3000)(f:Fu)(hf:f∈p.fs)(hw:bZ f.body<=1200)(Qx:f.params.length<=100) :
  af Tryz.prog 70 [xB p,.au ((dz p).flatMap iF) (dz p).length,.agg (fD f)] (.bY [.agg (mw (nN p f)),.au ((iW f.body 0++[fG f.body]).map λ n:Nat=>I n) (iW f.body 0++[fG f.body]).length,I 0,I 0]):=by
 obtain⟨t1,t2,t3⟩:=hU p;have tE:=cM (dz p);have f0:=aA (f:=iF) (n:=3) kU (dz p);have bd0:(dz p).length*32<=140737488355328:=by omega
 refine af.aC ag Tryz.func70 rfl GK (by simp[Tryz.ntmps70]) rfl λ C hC OR=>?_;rw[Tryz.ntmps70] at hC;simp only[xB,eU,fD];apply aq;simp[hC];apply T.seq;refine T.rx ag follows [0,1,2,3,4,5,6] [(0,1),(0,3)] GK ?_;simp[hC,f0,bd0,aS];apply aq;simp[hC];apply aT;simp[hC];apply T.block;refine T.aQ (J60 p f) (n:=f.params.length) ?_ ?_
 ·refine aa.le (Le.norm [12,11,10,6,5] [(1,0),(2,1),(8,2),(10,3),(11,4)] 0 5 Px Pw (by simp[cO,nu,lF,tree,assoc,-all_eq_true,-all_flatMap,aw tE]) yA) ?_;simp[cz,bf,aL,cQ,dW,assoc,ae _ _ tE];refine aa.here ⟨0,by omega,by omega,?_⟩;simp[fD,xz,xo,iM,nD,ll,pI,pL]
 ·rintro n s ⟨j,rfl,hj,rfl⟩;by_cases OP:j<f.params.length
  ·obtain⟨q,hq⟩:∃ q,f.params[j]? = some q:=⟨f.params[j],getElem?_eq_getElem OP⟩;have hEl:=Bf p f j hj;have Sl:=Bi (nD p f j) q.name yA;rw[H4 h hf hq] at Sl;have OS:=aH (f:=ln) (n:=2) (λ _=>rfl) hq;have QO:=cq (f:=ln) (n:=2) (λ _=>rfl) hq 1 yA;have wi:=cw ((j:Int)+1) yA yA;have Rv:=pIL (f.params.take j);rw[length_take] at Rv;have hpi2:pI (f.params.take j)+pL (f.params.take j)<=100:=by omega
   have Pb:f.params.take (j+1)=f.params.take j++[q]:=by rw[take_add_one,hq];rfl
   have QP:=FG p f j q hq;have f1:=aA (f:=iF) (n:=3) kU (nD p f j);have SJ:((nD p f j).length+1)*32<=140737488355328:=by omega
   have tEj:=cM (nD p f j);simp only[fD,xo,xz];apply aT;simp[hC,OP];refine iI ?_;simp;apply eZ;refine T.seq (T.seq ?_);refine T.rx ag follows [0,1,2,3,4,5,6,7,8,9,14,10,11,12,13,15,16] [(3,14),(5,14),(9,14),(14,10)] GK ?_;simp[hC,OP,OS,ln];refine RX.jG 0 3 [3] [] 1 (Sl) rfl xr rfl rfl rfl xr yA xr xr rfl xr Tz rfl xr xr xr rfl xr ?_;simp[qQ];apply aq;simp[hC];refine eQ ?_;simp;apply aq;simp[hC,OP,QO,ln]
   cases hm:q.mutex with
   | true=>
    have wl:=cw ((pL (f.params.take j):Int)+1) yA yA;refine T.cond (b:=true) PC ?_;simp;apply T.seq;refine T.rx ag follows [0,1,2,3,4,5,6,7,8,9,10,11,12,13,14,15,16,17,18] [(4,14)] GK ?_;simp[hC,OP,OS,ln,iM,f1,SJ,aS];apply aG;simp[hC,wl];apply aG;simp[hC,wi];refine⟨f.params.length-(j+1),by omega,?_⟩;have tN:trees ((nD p f j).flatMap iF++[.str q.name,I 5,I (pL (f.params.take j))])=true:=by rw[aF,cM];rfl
    have OZ:=aw tN;have Ta:=λ ρ=>ae ρ _ tN;refine aa.le (Le.norm [12,11,10,6,5] [(0,0),(1,1),(2,2),(41,3),(4,4)] 0 5 Px Pw Yo yA) ?_;simp[cz,bf,aL,cQ,dW,assoc,Ta];refine aa.here ⟨j+1,rfl,by omega,?_⟩;simp[fD,xz,xo,iM,QP,Pb,Mu,hm,iF,CH,CG]
   | false=>
    have wl:=cw ((pI (f.params.take j):Int)+1) yA yA;refine T.cond (b:=false) PC ?_;simp;apply T.seq;refine T.rx ag follows [0,1,2,3,4,5,6,7,8,9,10,11,12,13,14,15,16,17,18] [(4,14)] GK ?_;simp[hC,OP,OS,ln,iM,f1,SJ,aS];apply aG;simp[hC,wl];apply aG;simp[hC,wi];refine⟨f.params.length-(j+1),by omega,?_⟩;have tN:trees ((nD p f j).flatMap iF++[.str q.name,I 4,I (pI (f.params.take j))])=true:=by rw[aF,cM];rfl
    have OZ:=aw tN;have Ta:=λ ρ=>ae ρ _ tN;refine aa.le (Le.norm [12,11,10,6,5] [(0,0),(1,1),(2,2),(41,3),(4,4)] 0 5 Px Pw Yo yA) ?_;simp[cz,bf,aL,cQ,dW,assoc,Ta];refine aa.here ⟨j+1,rfl,by omega,?_⟩;simp[fD,xz,xo,iM,QP,Pb,Mu,hm,iF,CH,CG]
  ·have Vn:j=f.params.length:=by omega
   subst Vn;have hEl:=Bf p f f.params.length (Nat.le_refl _);have hfe:nD p f f.params.length=rI p f:=by simp only[nD,rI,take_length]
   rw[hfe] at hEl;simp only[fD,xo,xz,take_length,hfe];have hEW:=h.ew hf;have S8:=IB hB 2 f.body _ (rI p f) (pI f.params) 0 [] [] hEW (h.bd f hf) yA (by have:=pIL f.params;omega) PA PA yA;have tEj:=cM (rI p f);have tk:take ((rI p f).length*3) ((rI p f).flatMap iF)=(rI p f).flatMap iF:=take_of_length_le (by rw[aA (f:=iF) (n:=3) kU];omega);have OP:¬ f.params.length<f.params.length:=by omega
   apply aT;simp[hC];refine bh ?_;simp;apply T.exit;simp;apply aq;simp[hC];refine T.le (Le.cF (o:=3) rfl tEj) ?_;simp[iM,tk];refine T.le (Le.lq 2 8 90 12 rfl rfl) ?_;simp;refine T.le (Le.lq 2 9 3 1 rfl rfl) ?_;simp;refine T.le (Le.norm [11,10,6,5] [(2,0),(5,3),(6,4),(0,5),(1,6),(4,7)] 0 8 Px Pw Z9 yA) ?_;simp[cz,bf,aL,cQ,dW,assoc];simp only[Gd,length_nil,Nat.zero_add,nil_append] at S8;have hlen:=uw.2 f.body (rI p f) (pI f.params) 0 0;obtain⟨v1,v2,v3,v4⟩:=Aa.2 f.body 2 _ _ _ 0 hEW (h.bd f hf);have v5:=yJ.2 f.body;have Tn:nN p f=⟨f.name,pI f.params,pL f.params,(cf f.body (rI p f) (pI f.params) 0).2,(cf f.body (rI p f) (pI f.params) 0).1++[.ret]⟩:=rfl;generalize cf f.body (rI p f) (pI f.params) 0=S at S8 hlen v1 v2 v3 v4 Tn;obtain⟨S1,S2⟩:=S;generalize hS3:iW f.body 0=S3 at S8 hlen;generalize hN:fG f.body=NN at S8 v4 v5;simp only at S8 hlen v1 v3 v4 Tn;have tb:=bU f.body;apply aq;simp[hC];refine TL.iA S8 rfl rfl (cC _) (bb _) yA rfl OU rfl rfl rfl Yn rfl (TL.go' ag ?_);simp;have Yy:=cC S1;have tS3:=bb S3;refine T.le (Le.norm [11,10,6,5] [(0,0),(8,3),(9,4),(5,5),(6,6),(7,7)] 0 8 Px Pw (by simp[cO,nu,lF,tree,assoc,-all_eq_true,-all_flatMap,gf,fB,gm,aw Yy,aw tS3]) yA) ?_;simp[cz,bf,aL,cQ,dW,assoc,gf,fB,gm,ae _ _ Yy,ae _ _ tS3];apply aq;simp[hC];refine TL.iA (Ms p (rI p f) S2 NN S1 S3 S1.length S3.length rfl rfl [I 8,I 0,.bool false,I 0,I 0,.str eS,.ak,.bool false,I 0,.ak,.ak,.ak] rfl rfl NN yA yA) (cC _) (bb _) (xe _ rfl) (bb _) yA rfl OU rfl rfl rfl rfl rfl (TL.go' ag ?_);simp;have tS4:trees (S1.flatMap df++[I 8,I 0,.bool false,I 0,I 0,.str eS,.ak,.bool false,I 0,.ak,.ak,.ak])=true:=by rw[aF,Yy];rfl
   refine T.le (Le.nz [] [8]) ?_;simp[OI,qJ];apply T.seq;refine T.rx ag follows [0,1,2,3,4,5,6,7,8,9,10,11] [(7,9)] GK ?_;simp[hC,gf];apply T.seq;refine T.rx ag follows [0,1,2,3,4,5,6,7,8,9,10,11,12,13,14,15,16] [(4,13),(8,13),(12,13)] GK ?_;simp[hC];apply T.ret;have hinr:df In.ret=[I 8,I 0,.bool false,I 0,I 0,.str eS,.au [] 0,.bool false,I 0,.au [] 0,.au [] 0,.au [] 0]:=by simp[df,a8,kI]
   have PN:S1.flatMap df++[I 8,I 0,.bool false,I 0,I 0,.str eS,.au [] 0,.bool false,I 0,.au [] 0,.au [] 0,.au [] 0]=(S1++[In.ret]).flatMap df:=by simp[hinr]
   have tS5:=cC (S1++[In.ret]);have tS6:=bb (S3++[NN]);have tk5:take ((S1.length+1)*12) ((S1++[In.ret]).flatMap df)=(S1++[In.ret]).flatMap df:=take_of_length_le (by rw[zr];simp);have tk6:take (S3.length+1) ((S3++[NN]).map λ n:Nat=>I n)=(S3++[NN]).map λ n:Nat=>I n:=take_of_length_le xr;simp only[PN];generalize hX:(S1++[In.ret]).flatMap df=X at tS5 tk5;generalize hY:((S3++[NN]).map λ n:Nat=>I n)=Y at tS6 tk6;refine aa.le (Le.trim [6,7,8,9] [6,8,9] 10 (by simp[gm,hY,-all_eq_true,-all_flatMap,aj tS5,aj tS6]) yA) ?_;simp[gm,hY];refine aa.le (Le.cF (o:=8) rfl tS5) ?_;simp[tk5,ai tS6];refine aa.le (Le.cF (o:=9) rfl tS6) ?_;simp[tk6];apply aa.here;simp only[Tn,mw];simp;exact⟨by rw[<- hX];simp,by rw[<- hY];simp⟩
end Go.Proofs.YtlkmbdfhdknlgaaGreat
namespace Go.aV
open Go.Can List
theorem kM.main {p:Pg}(h:kM p):∃ f r,p.fs=f::r/\f.params=[]/\jh (dz p) f.name=some ⟨f.name,3,0⟩/\nF.head? = some f.name:=by
 obtain⟨a1,a2,_,_⟩:=gQ;obtain⟨s1,s2,s3,_⟩:=h.sub;obtain⟨d1,d2,d3,_⟩:=h.nd;obtain⟨k,hk,_,he⟩:=h.fn
 cases Qq:p.fs with
 | nil=>
  rw[Qq] at he;have:=congrArg length he;simp[nF] at this;omega
 | cons f r=>
  refine⟨f,r,rfl,h.f0 f (by rw[Qq];rfl),?_,?_⟩
  ·have hm:f.name∈nF:=s3 _ (by rw[Qq];simp);have h0:(p.fs.map (·.name))[0]? = some f.name:=by rw[Qq];rfl
   rw[dz,dQ,dQ,eM (λ hx=>(a2 _ hm).1 (s1 _ hx)),eM (λ hx=>(a2 _ hm).2 (s2 _ hx))];simp only;rw[qP h0 d3]
  ·rw[Qq] at he;obtain⟨k,rfl⟩:∃ k',k=k' + 1:=⟨k-1,by omega⟩;simp only[nF,map_cons,take_succ_cons,cons.injEq] at he;rw[he.1];rfl
end Go.aV
namespace Go.Proofs.YtlkmbdfhdknlgaaGreat
open Go.Can Go.aV List
theorem eX (x:Pr):trees (mw x)=true:=by simp only[mw,trees,tree,Bool.and_true]
theorem jM (x:Pr):(mw x).length=5:=rfl
def Am (l:List Pr):Ob:=⟨150,5,l.flatMap mw⟩
def HG (l:List Int):Ob:=⟨3,1,l.map I⟩
theorem aB (l:List Int):trees (l.map I)=true:=by
 induction l with
 | nil=>rfl
 | cons a r ih=>rw[map_cons,trees,ih];rfl
theorem CT:∀ {l:List Nat} {x:Nat},x∈l->x<=l.sum
 | a::r,x,h=>by
  rw[sum_cons];rcases mem_cons.1 h with rfl | h
  ·omega
  ·have:=CT h;omega
def pA:Ob:=⟨30,0,[.ak,.ak,.ak,I 0]⟩
def JL1 (p:Pg)(m:Nat)(s:St):Prop:=∃ i:Nat,m=p.gs.length-i/\i<=p.gs.length/\
 s=⟨[(11,I i),(10,.ax 2 0),(6,.au ((dz p).flatMap iF) (dz p).length),(2,.ax 1 0),(1,.ax 0 0)],
  [(0,⟨27,0,eU p⟩),(1,pA),(2,⟨30,0,[.bg 3 0 i,.au (p.ms.flatMap cI) p.ms.length,.ak,I 0]⟩),(3,HG ((p.gs.take i).map (·.init)))],4⟩
def JL2 (p:Pg)(m:Nat)(s:St):Prop:=∃ i:Nat,m=p.fs.length-i/\i<=p.fs.length/\
 s=⟨[(12,I i),(10,.ax 2 0),(6,.au ((dz p).flatMap iF) (dz p).length),(2,.ax 1 0),(1,.ax 0 0)],
  [(0,⟨27,0,eU p⟩),(1,pA),(2,⟨30,0,[.au ((p.gs.map (·.init)).map I) p.gs.length,.au (p.ms.flatMap cI) p.ms.length,.bg 3 0 i,I 0]⟩),(3,Am ((p.fs.take i).map (nN p)))],4⟩
set_option maxHeartbeats 4000000 in
theorem HD (p:Pg)(h:kM p):af Tryz.prog 27 [xB p] (.bY [cb (lQ p),I 0,I 0,I 0]):=by
 obtain⟨k1,RU,e1⟩:=h.gn;obtain⟨k2,_,Uo,e2⟩:=h.mn;obtain⟨k3,_,hk3,e3⟩:=h.fn;have l1:=congrArg length e1;have l2:=congrArg length e2;have l3:=congrArg length e3;simp[nG] at l1;simp[nM] at l2;simp[nF] at l3;have VO:∀ f∈p.fs,f.params.length<=2:=λ f hf=>by
  obtain⟨k,hk,e⟩:=h.pn f hf;have h5:=congrArg length e;simp only[length_map,length_reverse,length_take,nP,length_cons,length_nil] at h5;omega
 have hB:PgB p:=⟨by omega,by omega,λ f hf=>by have:=VO f hf;omega⟩;have Q4:=Bw p;have QQ:=Gq p h;have ZJ:=Bv p h yA yA yA;obtain⟨fm,fr,Qq,SE,ZB,Tt⟩:=h.main;have Sl:=qR (dz p) fm.name yA;rw[ZB] at Sl;have TN:fm.name=⟨#[109,97,105,110]⟩:=by
  simp only[nF,head?_cons,Option.some.injEq] at Tt;rw[<- Tt]
 obtain⟨t1,t2,t3⟩:=hU p;have tE:=cM (dz p);have fm1:=aA (f:=cI) (n:=3) (λ _=>rfl) p.ms;have bd0:p.ms.length*32<=140737488355328:=by omega
 have PI:p.fs[0]? = some fm:=by rw[Qq];rfl
 have OS:=cq (f:=fD) (n:=3) (λ _=>rfl) PI 1 yA;have PS:0<p.fs.length:=by rw[Qq];simp
 refine af.aC ag Tryz.func27 rfl GK (by simp[Tryz.ntmps27]) rfl λ C hC OR=>?_;rw[Tryz.ntmps27] at hC;simp only[xB,eU] at QQ ZJ |-;apply aq;simp[hC];apply aT;simp[hC];refine ct O4 (QQ) ?_;simp[hC];refine eQ ?_;simp;apply aq;simp[hC];refine ct O4 (ZJ) ?_;simp[hC];apply aT;simp[hC];refine eQ ?_;simp;rw[TN] at Sl;apply aq;simp[hC];refine ct O4 (Sl) ?_;simp[hC,qQ,iF];apply aT;simp[hC,OS,PS,fD,SE];refine eQ ?_;simp;apply T.seq;refine T.rx ag follows [0,1,2,3,4,5,6,7,8] [(1,2),(1,5),(1,7),(2,4),(2,7),(4,7),(5,7)] GK ?_;simp[hC,fm1,bd0,aS];apply aT;simp[hC];apply T.block;refine T.aQ (JL1 p) (n:=p.gs.length) ?_ ?_
 ·have tk:take (p.ms.length*3) (p.ms.flatMap cI)=p.ms.flatMap cI:=take_of_length_le (by rw[fm1];exact Nat.le_refl _);refine aa.le (Le.trim [11,10,6,2,1] [10,12,1,0] 13 (by simp[-all_eq_true,-all_flatMap,aj (dm p.ms)]) yA) ?_;simp;refine aa.le (Le.cF (o:=12) rfl (dm p.ms)) ?_;simp[tk];refine aa.le (Le.lq 10 0 3 1 rfl rfl) ?_;simp;refine aa.le (Le.norm [11,10,6,2,1] [(0,0),(1,1),(10,2),(13,3)] 0 4 Px Pw Z9 yA) ?_;simp[cz,bf,aL,cQ,dW,assoc];refine aa.here ⟨0,by omega,by omega,?_⟩;simp[eU,pA,HG]
 ·rintro n s ⟨i,rfl,hi,rfl⟩;by_cases OP:i<p.gs.length
  ·obtain⟨y,hy⟩:∃ y,p.gs[i]? = some y:=⟨p.gs[i],getElem?_eq_getElem OP⟩;have OS:=aH (f:=pE) (n:=2) (λ _=>rfl) hy;have QO:=cq (f:=pE) (n:=2) (λ _=>rfl) hy 1 yA;have wi:=cw ((i:Int)+1) yA yA;have Pb:p.gs.take (i+1)=p.gs.take i++[y]:=by rw[take_add_one,hy];rfl
   have Q3:((p.gs.take i).map (·.init)).length=i:=by simp;omega
   have SJ:(i+1)*8<=140737488355328:=by omega
   have tI:=aB ((p.gs.take i).map (·.init));generalize hG:(p.gs.take i).map (·.init)=G at Q3 tI;simp only[eU,pA,HG];apply aT;simp[hC,OP];refine iI ?_;simp;apply eZ;refine T.rx ag follows [0,1,2,3,4,5,6,7,8,9,10,11] [(1,8)] GK ?_;simp[hC,OP,OS,pE,Q3,SJ,aS];apply aG;simp[hC,wi];refine⟨p.gs.length-(i+1),by omega,?_⟩;have tN:trees (G.map I++[I y.init])=true:=by rw[aF,tI];rfl
   have OZ:=aw tN;have Ta:=λ ρ=>ae ρ _ tN;refine aa.le (Le.norm [11,10,6,2,1] [(0,0),(1,1),(2,2),(16,3)] 0 4 Px Pw Yo yA) ?_;simp[cz,bf,aL,cQ,dW,assoc,Ta];refine aa.here ⟨i+1,rfl,by omega,?_⟩;simp[eU,pA,HG,Pb,hG]
  ·have OV:i=p.gs.length:=by omega
   subst OV;apply aT;simp[hC,eU];refine bh ?_;simp;apply T.exit;simp;have tI:=aB (p.gs.map (·.init));have tkI:take p.gs.length ((p.gs.map (·.init)).map I)=(p.gs.map (·.init)).map I:=take_of_length_le xr;have hints:ints (p.gs.map (·.init))=.au ((p.gs.map (·.init)).map I) p.gs.length:=by simp[ints]
   generalize hG:p.gs.map (·.init)=G at tI tkI hints;simp only[pA,HG];apply aT;simp[hC];apply T.block;refine T.aQ (JL2 p) (n:=p.fs.length) ?_ ?_
   ·refine aa.le (Le.trim [12,10,6,2,1] [0,1,2,3] 4 (by simp[-all_eq_true,-all_flatMap,aj tI]) yA) ?_;simp;refine aa.le (Le.cF (o:=3) rfl tI) ?_;simp[tkI];refine aa.le (Le.lq 2 2 150 5 rfl rfl) ?_;simp;refine aa.le (Le.norm [12,10,6,2,1] [(0,0),(1,1),(2,2),(4,3)] 0 4 Px Pw Z9 yA) ?_;simp[cz,bf,aL,cQ,dW,assoc];refine aa.here ⟨0,by omega,by omega,?_⟩;simp[eU,pA,Am,hG]
   ·rintro n s ⟨i,rfl,hi,rfl⟩;by_cases OP:i<p.fs.length
    ·obtain⟨f,hf⟩:∃ f,p.fs[i]? = some f:=⟨p.fs[i],getElem?_eq_getElem OP⟩;have ZB:=mem_of_getElem? hf;have hfk:bZ f.body<=1200:=by
      have h1:=CT (mem_map_of_mem (f:=λ f:Fu=>bZ f.body) ZB);have h2:=h.wt;omega
     have Tt:=Bd p h hB yA f ZB hfk (by have:=VO f ZB;omega);have OS:=aH (f:=fD) (n:=3) (λ _=>rfl) hf;have wi:=cw ((i:Int)+1) yA yA;have Pb:p.fs.take (i+1)=p.fs.take i++[f]:=by rw[take_add_one,hf];rfl
     have Q3:((p.fs.take i).map (nN p)).length=i:=by simp;omega
     have tP:=ah eX ((p.fs.take i).map (nN p));have fP:=aA (f:=mw) (n:=5) jM ((p.fs.take i).map (nN p));rw[Q3] at fP;have SJ:(i+1)*64<=140737488355328:=by omega
     generalize hH:(p.fs.take i).map (nN p)=Hs at Q3 tP fP;have Y5:mw (nN p f)=[.str (nN p f).name,I (nN p f).ints,I (nN p f).bz,I (nN p f).locals,.au ((nN p f).code.flatMap df) (nN p f).code.length]:=rfl;have tpr:=eX (nN p f);rw[Y5] at Tt tpr;have tcd:=cC (nN p f).code;simp only[eU,fD,xB] at Tt;simp only[eU,pA,Am];apply aT;simp[hC,OP];refine iI ?_;simp;apply eZ;apply T.seq;refine T.rx ag follows [0,1,2,3,4,5,6,13,7,8,9,10,11,12,14,15,16,17] [(0,13),(3,13),(6,13),(13,7)] GK ?_;simp[hC,OP,OS,fD];have OQ:trees [.agg [.au (p.gs.flatMap pE) p.gs.length,.au (p.ms.flatMap cI) p.ms.length,.au (p.fs.flatMap fD) p.fs.length],.au ((dz p).flatMap iF) (dz p).length,.agg [.str f.name,.au (f.params.flatMap ln) f.params.length,.au (bS f.body) f.body.length]]=true:=by
      simp only[trees,tree];rfl
     refine RX.call rfl rfl rfl rfl rfl OQ Tt ?_;simp;apply aT;simp[hC];refine eQ ?_;simp;apply aG;simp[hC,fP,SJ,aS];apply aG;simp[hC,wi];refine⟨p.fs.length-(i+1),by omega,?_⟩;have tN:trees (Hs.flatMap mw++[.str (nN p f).name,I (nN p f).ints,I (nN p f).bz,I (nN p f).locals,.au ((nN p f).code.flatMap df) (nN p f).code.length])=true:=by rw[aF,tP,tpr];rfl
     have OZ:=aw tN;have Ta:=λ ρ=>ae ρ _ tN;have tI2:=aB (p.gs.map (·.init));refine aa.le (Le.norm [12,10,6,2,1] [(0,0),(1,1),(2,2),(23,3)] 0 4 Px Pw Yo yA) ?_;simp[cz,bf,aL,cQ,dW,assoc,Ta];refine aa.here ⟨i+1,rfl,by omega,?_⟩;simp[eU,pA,Am,Pb,hH,Y5]
    ·have OV:i=p.fs.length:=by omega
     subst OV;have tP:=ah eX (p.fs.map (nN p));have fP:=aA (f:=mw) (n:=5) jM (p.fs.map (nN p));have Q3:(p.fs.map (nN p)).length=p.fs.length:=by simp
     rw[Q3] at fP;have Ys:take (p.fs.length*5) ((p.fs.map (nN p)).flatMap mw)=(p.fs.map (nN p)).flatMap mw:=take_of_length_le yA;have TE:eD (lQ p)=[.au ((p.gs.map (·.init)).map I) p.gs.length,.au (p.ms.flatMap cI) p.ms.length,.au ((p.fs.map (nN p)).flatMap mw) p.fs.length,I 0]:=by simp[eD,lQ,ints]
     simp only[eU,pA,Am,take_length];generalize hH:p.fs.map (nN p)=Hs at tP fP Ys TE;apply aT;simp[hC];refine bh ?_;simp;apply T.exit;simp;apply aq;simp[hC];apply T.ret;have tI2:=aB (p.gs.map (·.init));generalize hG:(p.gs.map (·.init)).map I=Gs at tI2 TE;refine aa.le (Le.trim [5,4,3,2] [1,3] 4 (by simp[-all_eq_true,-all_flatMap,aj tP]) yA) ?_;simp;refine aa.le (Le.cF (o:=3) rfl tP) ?_;simp[Ys];apply aa.here;simp[cb,TE];rw[<- hG,map_map]
end Go.Proofs.YtlkmbdfhdknlgaaGreat
namespace Go.aV
open Go.Can List
deriving instance DecidableEq for Is
def lC (is:Is)(q:Pl):Nat:=if q.param=true then is.bz.getD q.index 0 else q.index
def DK:In->Int
 | .set _ _ _=>1
 | .call g _ _ _=>if g=true then 3 else 2
 | .lock u _=>if u=true then 5 else 4
 | .branch _ _=>6
 | .jump _=>7
 | .ret=>8
def jZ (is:Is):In->Option Is
 | .call _ t _ ps=>some ⟨t,ps.map (lC is)⟩
 | _=>none
def bN (u:Un)(is:Is):List In:=match u.ps[is.proc]? with
 | some q=>q.code
 | none=>[]
def sG (u:Un)(is:Is)(pc:Int):Option Is:=if pc<0 then none else match (bN u is)[pc.toNat]? with
 | some i=>jZ is i
 | none=>none
def zE:Option Is->CV
 | some x=>.bY [.agg (gI x),.bool true]
 | none=>.bY [.agg [I 0,.au [] 0],.bool false]
theorem zg (i:In):∃ cs,df i=I (DK i)::cs/\cs.length=11:=by
 have h:∃ cs,df i=I (DK i)::cs:=by cases i<;>exact⟨_,rfl⟩
 obtain⟨cs,h⟩:=h;have:=jS i;rw[h] at this;exact⟨cs,h,by simpa using this⟩
structure B5 (u:Un)(is:Is):Prop where
 q:∃ q,u.ps[is.proc]? = some q/\is.bz.length=q.bz
 m:∀ l∈is.bz,l<u.ms.length
theorem Hq {u:Un}{is:Is}{g k L:Nat}{q:Pl}(hm:∀ l∈is.bz,l<u.ms.length)(hL:is.bz.length=L)(h:pN u.ms g k L q):lC is q<u.ms.length:=by
 rcases h with ⟨h1,h2,_⟩ | ⟨h1,m,h2,_⟩
 ·simp only[lC,h1,if_true];rw[getD_eq_getElem?_getD,getElem?_eq_getElem yA];exact hm _ (getElem_mem yA)
 ·simp only[lC,h1,Bool.false_eq_true,if_false];exact (List.getElem?_eq_some_iff.1 h2).1
theorem Df {u:Un}(hu:jx u){is:Is}(hi:B5 u is){i:In}(hm:i∈bN u is){x:Is}(hx:jZ is i=some x):B5 u x:=by
 obtain⟨⟨q,hq,hl⟩,RT⟩:=hi;simp only[bN,hq] at hm;have hv:=(hu.pc q (mem_of_getElem? hq)).2 i hm
 cases i with
 | call g t is' ps=>
  simp only[jZ,Option.some.injEq] at hx;subst hx;obtain⟨h1,_,h3⟩:=hv;rw[getElem?_map,Option.map_eq_some_iff] at h1;obtain⟨q',h4,h5⟩:=h1;simp only[Prod.mk.injEq] at h5;refine⟨⟨q',h4,?_⟩,λ l Tq=>?_⟩
  ·simp only[length_map];omega
  ·simp only[mem_map] at Tq;obtain⟨pl,Qx,rfl⟩:=Tq;exact Hq RT hl (h3 pl Qx)
 | _=>simp[jZ] at hx
def sq:In->Bool
 | .call g _ _ _=>g
 | _=>false
def cW (l:List Nat)(n:Nat):Nat:=(l.takeWhile (· < n)).length
def g9 (l:List Nat)(n:Nat):List Nat:=if n∈l then l else l.take (cW l n)++n::l.drop (cW l n)
def fh (l:List Is)(x:Is):List Is:=if x∈l then l else l++[x]
def fc (l:List Is)(x:Is):Nat:=l.findIdx λ y=>decide (y=x)
def g6 (is:Is):List In->List Is->List Nat->List Is×List Int×List Nat
 | [],l,r=>(l,[],r)
 | i::c,l,r=>match jZ is i with
  | none=>((g6 is c l r).1,-1::(g6 is c l r).2.1,(g6 is c l r).2.2)
  | some x=>((g6 is c (fh l x) (if sq i=true then g9 r (fc (fh l x) x) else r)).1,(fc (fh l x) x:Int)::(g6 is c (fh l x) (if sq i=true then g9 r (fc (fh l x) x) else r)).2.1,(g6 is c (fh l x) (if sq i=true then g9 r (fc (fh l x) x) else r)).2.2)
def mT (u:Un):Nat->Nat->List Is->List (List Int)->List Nat->Cl
 | 0,_,l,cs,r=>⟨l,cs,r⟩
 | f+1,i,l,cs,r=>match l[i]? with
  | none=>⟨l,cs,r⟩
  | some x=>mT u f (i+1) (g6 x (bN u x) l r).1 (cs++[(g6 x (bN u x) l r).2.1]) (g6 x (bN u x) l r).2.2
def cc (u:Un):Cl:=mT u 100 0 [⟨u.main,[]⟩] [] [0]
end Go.aV
