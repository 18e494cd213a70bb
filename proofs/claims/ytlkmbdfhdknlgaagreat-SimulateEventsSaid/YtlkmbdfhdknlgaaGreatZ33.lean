/- declared. -/
import Derived.Test.YtlkmbdfhdknlgaaGreatZ32
namespace Go.aJ
open Go.Can List
theorem jo (c:Nat):∀ (l:List ByteArray) (i:Nat),(Gw c i l).length=l.length
 | [],_=>rfl
 | s::r,i=>by simp[Gw,jo c r]
theorem AX {c:Nat}:∀ {l:List ByteArray} {i j:Nat} {s:ByteArray},l[j]? = some s->(Gw c i l)[j]? = some ⟨s,c,i+j⟩
 | [],_,_,_,h=>by simp at h
 | x::r,i,0,s,h=>by
  simp only[getElem?_cons_zero,Option.some.injEq] at h;subst h;rfl
 | x::r,i,j+1,s,h=>by
  simp only[getElem?_cons_succ] at h;simp only[Gw,getElem?_cons_succ];rw[AX h];congr 2;omega
theorem Dh (p:Pg):(dv p).length=p.gs.length+p.ms.length+p.fs.length:=by simp[dv,jo];omega
theorem Qi {p:Pg}{i:Nat}{x:Gl}(h:p.gs[i]? = some x):(dv p)[i]? = some ⟨x.name,1,i⟩:=by
 have hl:=(List.getElem?_eq_some_iff.1 h).1;have h2:(p.gs.map (·.name))[i]? = some x.name:=by rw[getElem?_map,h];rfl
 rw[dv,append_assoc,getElem?_append_left (by rw[jo,length_map];exact hl),AX h2,Nat.zero_add]
theorem Qh {p:Pg}{i:Nat}{x:Mx}(h:p.ms[i]? = some x):(dv p)[p.gs.length+i]? = some ⟨x.name,2,i⟩:=by
 have hl:=(List.getElem?_eq_some_iff.1 h).1;have h2:(p.ms.map (·.name))[i]? = some x.name:=by rw[getElem?_map,h];rfl
 rw[dv,append_assoc,getElem?_append_right (by rw[jo,length_map];omega),jo,length_map,Nat.add_sub_cancel_left,getElem?_append_left (by rw[jo,length_map];exact hl),AX h2,Nat.zero_add]
theorem Qj {p:Pg}{i:Nat}{x:Fu}(h:p.fs[i]? = some x):(dv p)[p.gs.length+p.ms.length+i]? = some ⟨x.name,3,i⟩:=by
 have h2:(p.fs.map (·.name))[i]? = some x.name:=by rw[getElem?_map,h];rfl
 rw[dv,getElem?_append_right (by rw[length_append,jo,jo,length_map,length_map];omega),length_append,jo,jo,length_map,length_map,Nat.add_sub_cancel_left,AX h2,Nat.zero_add]
theorem Ns {p:Pg}(h:k9 p):((dv p).map (·.name)).Nodup:=by
 obtain⟨a1,a2,_,_⟩:=ia;obtain⟨s1,s2,s3,_⟩:=h.sub;obtain⟨d1,d2,d3,_⟩:=h.nd;rw[dv,map_append,map_append,mM,mM,mM];refine nodup_append.2 ⟨nodup_append.2 ⟨d1,d2,λ a ha b hb e=>?_⟩,d3,λ a ha b hb e=>?_⟩
 ·subst e;exact a1 _ (s2 _ hb) (s1 _ ha)
 ·subst e;rcases mem_append.1 ha with ha | ha
  ·exact (a2 _ (s3 _ hb)).1 (s1 _ ha)
  ·exact (a2 _ (s3 _ hb)).2 (s2 _ ha)
theorem KN {E:List En}(h:(E.map (·.name)).Nodup){i:Nat}{x:En}(hx:E[i]? = some x):jm (E.take i) x.name=none:=by
 obtain⟨hl,TM⟩:=List.getElem?_eq_some_iff.1 hx;have e:E=E.take i++x::E.drop (i+1):=by rw[<- TM,<- drop_eq_getElem_cons hl,take_append_drop]
 have h2:((E.take i++x::E.drop (i+1)).map (·.name)).Nodup:=by rw[<- e];exact h
 rw[map_append,map_cons,nodup_append] at h2;rw[sh];exact λ hm=>h2.2.2 _ hm _ mem_cons_self rfl
end Go.aJ
namespace Go.Proofs.YtlkmbdfhdknlgaaGreat
open Go.Can Go.aJ List
def iU (E:List En):Ob:=⟨145,3,E.flatMap iS⟩
@[simp] theorem KW (E:List En)(n:Nat):(iU E).cells.all (aU n)=true:=ai (cG E) n
@[simp] theorem enOb_ltS (E:List En)(n:Nat):ba n (iU E).cells=true:=by rw[aT];exact KW E n
@[simp] theorem enOb_frz (E:List En)(o:Nat)(cs:List CV)(n:Nat):(iU E).cells.map (cw o cs n)=(iU E).cells:=aS (cG E) o cs n
@[simp] theorem enOb_eta (E:List En):(⟨(iU E).elem,(iU E).sz,(iU E).cells⟩:Ob)=iU E:=rfl
@[simp] theorem QY (ρ:Nat->Nat)(E:List En):bh ρ (iU E)=iU E:=dg _ _ _ (cG E)
def J59B (E:List En)(s:ByteArray)(n:Nat)(st:St):Prop:=∃ i:Nat,n=E.length-i/\i<=E.length/\jm E s=jm (E.drop i) s/\st=⟨[(6,I i),(5,.bool false),(4,.aw 1 0),(0,.bb 0 0 E.length),(1,.str s)],[(1,⟨145,0,[.str ⟨#[]⟩,I 0,I 0]⟩),(0,iU E)],2⟩
theorem C4 (E:List En)(s:ByteArray)(hl:E.length<=100000):Body Tryz.prog av 69 [.bb 0 0 E.length,.str s] [(0,iU E)] 1 (jC (sq (jm E s)) [(0,iU E)] 1):=by
 have SK:=λ (i:Nat) (x:En) (h:E[i]? = some x)=>aI (f:=iS) (n:=3) lv (m:=E) h;refine Body.jv Tryz.func69 rfl Ix (by simp[Tryz.ntmps69]) λ C hC RR=>?_;rw[Tryz.ntmps69] at hC;apply aq;simp[hC];apply aW;simp[hC];apply T.block;refine T.aH (J59B E s) (n:=E.length) ?_ ?_
 ·refine aa.here ⟨0,by omega,by omega,rfl,?_⟩;simp
 ·rintro n st ⟨i,rfl,hi,hf,rfl⟩;by_cases Og:i<E.length
  ·obtain⟨a,SH⟩:∃ a,E[i]? = some a:=⟨E[i],getElem?_eq_getElem Og⟩;have Qd:=SK i a SH;have wi:=cF ((i:Int)+1) yA yA;have hd:E.drop i=a::E.drop (i+1):=by
    rw[drop_eq_getElem_cons Og,(List.getElem?_eq_some_iff.1 SH).2]
   rw[hd,jm] at hf;apply aW;simp[hC,Og];refine gw ?_;simp;apply eN;apply aq;simp[hC,Og,Qd,iS,jb,iU];by_cases hn:a.name=s
   ·rw[if_pos hn] at hf;simp only[hn,decide_true];refine dy ?_;simp;apply aq;simp[hC,Og,Qd,iS];apply T.ret;refine aa.le (Le.dn (o:=1) rfl rfl) ?_;simp[aS (cG E)];refine aa.trim [4,5] [0] 1 (by simp[-all_eq_true,-all_flatMap,ai (cG E)]) yA ⟨_,?_,rfl,?_,rfl⟩
    ·simp[hf,sq,iS]
    ·simp
   ·rw[if_neg hn] at hf;simp only[hn,decide_false];refine fX ?_;simp;apply aN;simp[hC,wi];refine⟨E.length-(i+1),by omega,?_⟩;refine aa.trim [6,5,4,0,1] [1,0] 2 (by simp[-all_eq_true,-all_flatMap,ai (cG E)]) yA ⟨i+1,rfl,by omega,hf,?_⟩;simp[iU]
  ·have RU:i=E.length:=by omega
   rw[RU,drop_length,jm] at hf;apply aW;simp[hC,Og];refine a9 ?_;simp;apply T.exit;simp;apply aq;simp[hC];apply T.ret;refine aa.le (Le.dn (o:=1) rfl rfl) ?_;simp;refine aa.trim [4,5] [0] 1 Vz yA ⟨_,?_,rfl,?_,rfl⟩
   ·simp[hf,sq]
   ·simp
def J58 (p:Pg)(m:Nat)(s:St):Prop:=∃ i:Nat,m=(dv p).length-i/\i<=(dv p).length/\
 s=⟨[(7,I i),(6,I (dv p).length),(5,I (-1)),(4,.bb 1 0 i),(1,.aw 0 0)],[(0,⟨27,0,fo p⟩),(1,iU ((dv p).take i))],2⟩
theorem Dg (p:Pg)(h:k9 p)(hm:p.ms.length<=1000)(hf:p.fs.length<=1000)(hg:p.gs.length<=1000):ae Tryz.prog 68 [y9 p] (.cB [.ax ((dv p).flatMap iS) (dv p).length,I (-1)]):=by
 have Uk:=Dh p;have U9:=Ns h;obtain⟨t1,t2,t3⟩:=iy p;refine ae.aE ah Tryz.func68 rfl Ix (by simp[Tryz.ntmps68]) rfl λ C hC RR=>?_;rw[Tryz.ntmps68] at hC;have ZO:=cF ((p.gs.length:Int)+p.ms.length) yA yA;have hw2:=cF ((p.gs.length:Int)+p.ms.length+p.fs.length) yA yA;simp only[y9,fo];apply aq;simp[hC];apply aq;simp[hC];apply aq;simp[hC];apply aq;simp[hC,ZO,hw2];apply aW;simp[hC];apply T.block;refine T.aH (J58 p) (n:=(dv p).length) ?_ ?_
 ·refine aa.le (Le.own 4 145 3 rfl) ?_;simp;refine aa.trim [7,6,5,4,1] [0,1] 2 Vz yA ⟨0,by omega,by omega,?_⟩;simp[fo,Uk,iU]
 ·rintro n s ⟨i,rfl,hi,rfl⟩;by_cases Og:i<(dv p).length
  ·obtain⟨x,US⟩:∃ x,(dv p)[i]? = some x:=⟨(dv p)[i],getElem?_eq_getElem Og⟩;have wi:=cF ((i:Int)+1) yA yA;have wd:=cF ((i:Int)-(p.gs.length:Int)) yA yA;apply aW;simp[hC,Og];refine gw ?_;simp;apply eN;apply aq;simp[hC];refine T.cut (λ z=>z=⟨[(8,.aw 2 0),(7,I i),(6,I (dv p).length),(5,I (-1)),(4,.bb 1 0 i),(1,.aw 0 0)],[(0,⟨27,0,fo p⟩),(1,iU ((dv p).take i)),(2,⟨145,0,iS x⟩)],3⟩) ?_ ?_
   ·simp only[fo];by_cases c1:i<p.gs.length
    ·obtain⟨y,hy⟩:∃ y,p.gs[i]? = some y:=⟨p.gs[i],getElem?_eq_getElem c1⟩;have hx:=Qi hy;rw[US] at hx;cases hx;have Qd:=aI (f:=qk) (n:=2) (λ _=>rfl) hy;have Z7:(i:Int)-(p.gs.length:Int)<0:=by omega
     apply aq;simp[hC,wd];apply T.block;apply aq;simp[hC,Z7];refine dy ?_;simp;apply aN;simp[hC,c1,Qd,qk];refine aa.trim [8,7,6,5,4,1] [0,1,2] 3 Vz yA ?_;simp[iS]
    ·by_cases c2:i<p.gs.length+p.ms.length
     ·obtain⟨j,rfl⟩:∃ j,i=p.gs.length+j:=⟨i-p.gs.length,by omega⟩;have c3:j<p.ms.length:=by omega
      obtain⟨y,hy⟩:∃ y,p.ms[j]? = some y:=⟨p.ms[j],getElem?_eq_getElem c3⟩;have hx:=Qh hy;rw[US] at hx;cases hx;have Qd:=aI (f:=cH) (n:=3) (λ _=>rfl) hy;have Tq:(p.gs.length:Int)+(j:Int)-(p.gs.length:Int)=(j:Int):=by omega
      have wj:=cF (j:Int) yA yA;apply aq;simp[hC,Tq,wj];apply T.block;apply aq;simp[hC];refine a9 ?_;simp;apply aq;simp[hC,c3];refine dy ?_;simp;apply aN;simp[hC,c3,Qd,cH];refine aa.trim [8,7,6,5,4,1] [0,1,2] 3 Vz yA ?_;simp[iS]
     ·obtain⟨j,rfl⟩:∃ j,i=p.gs.length+p.ms.length+j:=⟨i-p.gs.length-p.ms.length,by omega⟩;have c3:j<p.fs.length:=by omega
      obtain⟨y,hy⟩:∃ y,p.fs[j]? = some y:=⟨p.fs[j],getElem?_eq_getElem c3⟩;have hx:=Qj hy;rw[US] at hx;cases hx;have Qd:=aI (f:=fL) (n:=3) (λ _=>rfl) hy;have Tq:(p.gs.length:Int)+(p.ms.length:Int)+(j:Int)-(p.gs.length:Int)=(p.ms.length:Int)+(j:Int):=by omega
      have hsub2:(p.ms.length:Int)+(j:Int)-(p.ms.length:Int)=(j:Int):=by omega
      have wj:=cF (j:Int) yA yA;have wmj:=cF ((p.ms.length:Int)+(j:Int)) yA yA;have Zm:¬ (p.ms.length:Int)+(j:Int)<0:=by omega
      have SW:¬ (p.ms.length:Int)+(j:Int)<(p.ms.length:Int):=by omega
      apply aq;simp[hC,Tq,wmj];apply T.block;apply aq;simp[hC,Zm];refine a9 ?_;simp;apply aq;simp[hC,SW];refine a9 ?_;simp;refine T.rx ah follows [0,1,2,3,4,5,6,7,8,9,10,11,12,13,14,15,16] [] Ix ?_;simp[hC,hsub2,wj,c3,Qd,fL];refine aa.trim [8,7,6,5,4,1] [0,1,2] 3 Vz yA ?_;simp[iS]
   ·rintro z rfl;simp only[fo];have Vd:=C4 ((dv p).take i) x.name (by rw[length_take];omega);rw[KN U9 US,length_take,Nat.min_eq_left yA] at Vd;have f1:=aC (f:=iS) (n:=3) lv ((dv p).take i);rw[length_take,Nat.min_eq_left yA] at f1;have Wa:(i+1)*32<=140737488355328:=by omega
    apply aW;simp[hC,iS];refine TL.jM ah 0 1 [1] 1 Vd RT rfl rfl (by simp[aX,cN,bM,ev,assoc]) xr yA xr xr (by simp[ba,aU]) xr rfl (by simp[aX,cN,aU]) xr xr (TL.go' ah ?_);simp[hC,sq];apply aq;simp[hC];refine fX ?_;simp;apply aN;simp[hC,f1,Wa,aY,iU];apply aN;simp[hC,wi];have R3:(dv p).take (i+1)=(dv p).take i++[x]:=by rw[take_add_one,US];rfl
    refine⟨(dv p).length-(i+1),by omega,?_⟩;refine aa.le (Le.trim [7,6,5,4,1] [0,5] 6 (by simp[-all_eq_true,-all_flatMap,ai (cG _)]) yA) ?_;simp;refine aa.le (Le.p7 5 1 rfl rfl yA xr xr (by simp[-all_eq_true,-all_flatMap,bw (cG _),r8 5 1 _ t1,r8 5 1 _ t2,r8 5 1 _ t3])) ?_;simp[bl (cG _)];refine aa.trim [7,6,5,4,1] [0,1] 2 (by simp[-all_eq_true,-all_flatMap,ai (cG _)]) yA ⟨i+1,rfl,by omega,?_⟩;simp[iU,R3,fo,iS]
  ·have RU:i=(dv p).length:=by omega
   apply aW;simp[hC,Og];refine a9 ?_;simp;apply T.exit;simp;apply aq;simp[hC];apply T.ret;subst RU;have tk:take ((dv p).length*3) ((dv p).flatMap iS)=(dv p).flatMap iS:=take_of_length_le (by rw[aC (f:=iS) (n:=3) lv];omega);refine aa.le (Le.trim [2,3] [1] 2 Vz yA) ?_;simp[take_length];refine aa.le (Le.dn (o:=1) rfl (cG _)) ?_;apply aa.here;simp[iU,tk]
end Go.Proofs.YtlkmbdfhdknlgaaGreat
namespace Go.aJ
open Go.Can List
def PD (i j:Nat)(q:Pm):En:=if q.mutex=true then ⟨q.name,5,j⟩ else ⟨q.name,4,i⟩
theorem wP:∀ (a:List Pm) (q:Pm) (i j:Nat),lR i j (a++[q])=lR i j a++[PD (i+pI a) (j+pL a) q]
 | [],q,i,j=>by
  simp only[nil_append,lR,pI,pL,Nat.add_zero,PD];split<;>rfl
 | p::r,q,i,j=>by
  simp only[cons_append,lR,pI,pL];split
  ·rw[wP r q,cons_append];congr 3;simp only[PD];congr 2<;>omega
  ·rw[wP r q,cons_append];congr 3;simp only[PD];congr 2<;>omega
theorem Ey:∀ (a:List Pm) (q:Pm),pI (a++[q])=pI a+if q.mutex=true then 0 else 1
 | [],q=>by simp[pI]
 | p::r,q=>by simp only[cons_append,pI,Ey r q];omega
theorem Ew:∀ (a:List Pm) (q:Pm),pL (a++[q])=pL a+if q.mutex=true then 1 else 0
 | [],q=>by simp[pL]
 | p::r,q=>by simp only[cons_append,pL,Ew r q];omega
theorem Cf:∀ (l:List Pm) (i j:Nat),(lR i j l).length=l.length
 | [],_,_=>rfl
 | p::r,i,j=>by
  simp only[lR];split<;>simp[Cf r]
def og (p:Pg)(f:Fu)(j:Nat):List En:=dv p++lR 0 0 (f.params.take j)
theorem HU (p:Pg)(f:Fu)(j:Nat)(q:Pm)(h:f.params[j]? = some q):og p f (j+1)=og p f j++[PD (pI (f.params.take j)) (pL (f.params.take j)) q]:=by
 have:f.params.take (j+1)=f.params.take j++[q]:=by rw[take_add_one,h];rfl
 simp only[og,this,wP,Nat.zero_add,append_assoc]
theorem C1 (p:Pg)(f:Fu)(j:Nat)(h:j<=f.params.length):(og p f j).length=(dv p).length+j:=by
 simp only[og,length_append,Cf,length_take];omega
theorem KI {p:Pg}(h:k9 p){f:Fu}(hf:f∈p.fs){j:Nat}{q:Pm}(hq:f.params[j]? = some q):jm (og p f j) q.name=none:=by
 obtain⟨_,_,_,d4⟩:=h.dec;obtain⟨_,_,a3,_⟩:=ia;obtain⟨_,_,_,s4⟩:=h.sub;obtain⟨_,_,_,n4⟩:=h.nd;have hm:=s4 f hf _ (mem_map_of_mem (f:=(·.name)) (mem_of_getElem? hq));have ha:=a3 _ hm;rw[og,dQ,d4 _ (by simp only[mem_append,not_or];exact⟨⟨ha.1,ha.2.1⟩,ha.2.2⟩)];simp only;rw[sh,qz];obtain⟨hl,TM⟩:=List.getElem?_eq_some_iff.1 hq;have e:f.params=f.params.take j++q::f.params.drop (j+1):=by rw[<- TM,<- drop_eq_getElem_cons hl,take_append_drop]
 have h2:((f.params.take j++q::f.params.drop (j+1)).map (·.name)).Nodup:=by rw[<- e];exact n4 f hf
 rw[map_append,map_cons,nodup_append] at h2;exact λ hm=>h2.2.2 _ hm _ mem_cons_self rfl
end Go.aJ
namespace Go.Proofs.YtlkmbdfhdknlgaaGreat
open Go.Can Go.aJ List
def y7:Ob:=⟨150,0,[.str ⟨#[]⟩,I 0,I 0,I 0,.aj]⟩
def yU (p:Pg)(n:Nat):Ob:=⟨215,0,[.ax (p.gs.flatMap qk) p.gs.length,.ax (p.ms.flatMap cH) p.ms.length,.ax (p.fs.flatMap fL) p.fs.length,.bb 3 0 n,I 0,I 0,I 0,I 0,.aj,.aj]⟩
def J60 (p:Pg)(f:Fu)(m:Nat)(s:St):Prop:=∃ j:Nat,m=f.params.length-j/\j<=f.params.length/\
 s=⟨[(12,I j),(11,.aw 4 0),(10,.aw 2 0),(6,.aw 1 0),(5,.aw 0 0)],
  [(0,⟨136,0,fL f⟩),(1,y7),(2,yU p (og p f j).length),(3,iU (og p f j)),(4,⟨150,0,[.str f.name,I (pI (f.params.take j)),I (pL (f.params.take j)),I 0,.aj]⟩)],5⟩
set_option maxHeartbeats 4000000 in
theorem C0 (p:Pg)(h:k9 p)(hB:PgB p)(Uk:(dv p).length<=3000)(f:Fu)(hf:f∈p.fs)(hw:bV f.body<=1200)(SR:f.params.length<=100) :
  ae Tryz.prog 70 [y9 p,.ax ((dv p).flatMap iS) (dv p).length,.agg (fL f)] (.cB [.agg (mW (ou p f)),.ax ((jc f.body 0++[fO f.body]).map λ n:Nat=>I n) (jc f.body 0++[fO f.body]).length,I 0,I 0]):=by
 obtain⟨t1,t2,t3⟩:=iy p;have tE:=cG (dv p);have f0:=aC (f:=iS) (n:=3) lv (dv p);have bd0:(dv p).length*32<=140737488355328:=by omega
 refine ae.aE ah Tryz.func70 rfl Ix (by simp[Tryz.ntmps70]) rfl λ C hC RR=>?_;rw[Tryz.ntmps70] at hC;simp only[y9,fo,fL];apply aq;simp[hC];apply T.seq;refine T.rx ah follows [0,1,2,3,4,5,6] [(0,1),(0,3)] Ix ?_;simp[hC,f0,bd0,aY];apply aq;simp[hC];apply aW;simp[hC];apply T.block;refine T.aH (J60 p f) (n:=f.params.length) ?_ ?_
 ·refine aa.le (Le.norm [12,11,10,6,5] [(1,0),(2,1),(8,2),(10,3),(11,4)] 0 5 Sn Sl (by simp[cI,oe,mg,tree,assoc,-all_eq_true,-all_flatMap,au tE]) yA) ?_;simp[cm,bh,aX,cN,dZ,assoc,af _ _ tE];refine aa.here ⟨0,by omega,by omega,?_⟩;simp[fL,y7,yU,iU,og,lR,pI,pL]
 ·rintro n s ⟨j,rfl,hj,rfl⟩;by_cases Og:j<f.params.length
  ·obtain⟨q,hq⟩:∃ q,f.params[j]? = some q:=⟨f.params[j],getElem?_eq_getElem Og⟩;have hEl:=C1 p f j hj;have Vd:=C4 (og p f j) q.name yA;rw[KI h hf hq] at Vd;have Qd:=aI (f:=lU) (n:=2) (λ _=>rfl) hq;have TF:=b9 (f:=lU) (n:=2) (λ _=>rfl) hq 1 yA;have wi:=cF ((j:Int)+1) yA yA;have Wf:=pIL (f.params.take j);rw[length_take] at Wf;have hpi2:pI (f.params.take j)+pL (f.params.take j)<=100:=by omega
   have R3:f.params.take (j+1)=f.params.take j++[q]:=by rw[take_add_one,hq];rfl
   have Te:=HU p f j q hq;have f1:=aC (f:=iS) (n:=3) lv (og p f j);have Wa:((og p f j).length+1)*32<=140737488355328:=by omega
   have tEj:=cG (og p f j);simp only[fL,yU,y7];apply aW;simp[hC,Og];refine gw ?_;simp;apply eN;refine T.seq (T.seq ?_);refine T.rx ah follows [0,1,2,3,4,5,6,7,8,9,14,10,11,12,13,15,16] [(3,14),(5,14),(9,14),(14,10)] Ix ?_;simp[hC,Og,Qd,lU];refine RX.jM 0 3 [3] [] 1 (Vd) rfl xr rfl rfl rfl xr yA xr xr rfl xr Wt rfl xr xr xr rfl xr ?_;simp[sq];apply aq;simp[hC];refine fX ?_;simp;apply aq;simp[hC,Og,TF,lU]
   cases hm:q.mutex with
   | true=>
    have wl:=cF ((pL (f.params.take j):Int)+1) yA yA;refine T.cond (b:=true) Ta ?_;simp;apply T.seq;refine T.rx ah follows [0,1,2,3,4,5,6,7,8,9,10,11,12,13,14,15,16,17,18] [(4,14)] Ix ?_;simp[hC,Og,Qd,lU,iU,f1,Wa,aY];apply aN;simp[hC,wl];apply aN;simp[hC,wi];refine⟨f.params.length-(j+1),by omega,?_⟩;have tN:trees ((og p f j).flatMap iS++[.str q.name,I 5,I (pL (f.params.take j))])=true:=by rw[bg,cG];rfl
    have R4:=au tN;have U5:=λ ρ=>af ρ _ tN;refine aa.le (Le.norm [12,11,10,6,5] [(0,0),(1,1),(2,2),(41,3),(4,4)] 0 5 Sn Sl yCl yA) ?_;simp[cm,bh,aX,cN,dZ,assoc,U5];refine aa.here ⟨j+1,rfl,by omega,?_⟩;simp[fL,y7,yU,iU,Te,R3,PD,hm,iS,Ey,Ew]
   | false=>
    have wl:=cF ((pI (f.params.take j):Int)+1) yA yA;refine T.cond (b:=false) Ta ?_;simp;apply T.seq;refine T.rx ah follows [0,1,2,3,4,5,6,7,8,9,10,11,12,13,14,15,16,17,18] [(4,14)] Ix ?_;simp[hC,Og,Qd,lU,iU,f1,Wa,aY];apply aN;simp[hC,wl];apply aN;simp[hC,wi];refine⟨f.params.length-(j+1),by omega,?_⟩;have tN:trees ((og p f j).flatMap iS++[.str q.name,I 4,I (pI (f.params.take j))])=true:=by rw[bg,cG];rfl
    have R4:=au tN;have U5:=λ ρ=>af ρ _ tN;refine aa.le (Le.norm [12,11,10,6,5] [(0,0),(1,1),(2,2),(41,3),(4,4)] 0 5 Sn Sl yCl yA) ?_;simp[cm,bh,aX,cN,dZ,assoc,U5];refine aa.here ⟨j+1,rfl,by omega,?_⟩;simp[fL,y7,yU,iU,Te,R3,PD,hm,iS,Ey,Ew]
  ·have U0:j=f.params.length:=by omega
   subst U0;have hEl:=C1 p f f.params.length (Nat.le_refl _);have hfe:og p f f.params.length=sV p f:=by simp only[og,sV,take_length]
   rw[hfe] at hEl;simp only[fL,yU,y7,take_length,hfe];have hEW:=h.ew hf;have TO:=Lk hB 2 f.body _ (sV p f) (pI f.params) 0 [] [] hEW (h.bd f hf) yA (by have:=pIL f.params;omega) SO SO yA;have tEj:=cG (sV p f);have tk:take ((sV p f).length*3) ((sV p f).flatMap iS)=(sV p f).flatMap iS:=take_of_length_le (by rw[aC (f:=iS) (n:=3) lv];omega);have Og:¬ f.params.length<f.params.length:=by omega
   apply aW;simp[hC];refine a9 ?_;simp;apply T.exit;simp;apply aq;simp[hC];refine T.le (Le.dn (o:=3) rfl tEj) ?_;simp[iU,tk];refine T.le (Le.nk 2 8 90 12 rfl rfl) ?_;simp;refine T.le (Le.nk 2 9 3 1 rfl rfl) ?_;simp;refine T.le (Le.norm [11,10,6,5] [(2,0),(5,3),(6,4),(0,5),(1,6),(4,7)] 0 8 Sn Sl yCu yA) ?_;simp[cm,bh,aX,cN,dZ,assoc];simp only[IB,length_nil,Nat.zero_add,nil_append] at TO;have hlen:=vD.2 f.body (sV p f) (pI f.params) 0 0;obtain⟨v1,v2,v3,v4⟩:=BW.2 f.body 2 _ _ _ 0 hEW (h.bd f hf);have v5:=Ah.2 f.body;have UU:ou p f=⟨f.name,pI f.params,pL f.params,(cb f.body (sV p f) (pI f.params) 0).2,(cb f.body (sV p f) (pI f.params) 0).1++[.ret]⟩:=rfl;generalize cb f.body (sV p f) (pI f.params) 0=S at TO hlen v1 v2 v3 v4 UU;obtain⟨S1,S2⟩:=S;generalize hS3:jc f.body 0=S3 at TO hlen;generalize hN:fO f.body=NN at TO v4 v5;simp only at TO hlen v1 v3 v4 UU;have tb:=bQ f.body;apply aq;simp[hC];refine TL.iM TO rfl rfl (cu _) (a8 _) yA rfl RT rfl rfl rfl yCn rfl (TL.go' ah ?_);simp;have tS1:=cu S1;have Y8:=a8 S3;refine T.le (Le.norm [11,10,6,5] [(0,0),(8,3),(9,4),(5,5),(6,6),(7,7)] 0 8 Sn Sl (by simp[cI,oe,mg,tree,assoc,-all_eq_true,-all_flatMap,gz,fJ,gH,au tS1,au Y8]) yA) ?_;simp[cm,bh,aX,cN,dZ,assoc,gz,fJ,gH,af _ _ tS1,af _ _ Y8];apply aq;simp[hC];refine TL.iM (PB p (sV p f) S2 NN S1 S3 S1.length S3.length rfl rfl [I 8,I 0,.bool false,I 0,I 0,.str eS,.aj,.bool false,I 0,.aj,.aj,.aj] rfl rfl NN yA yA) (cu _) (a8 _) (yN _ rfl) (a8 _) yA rfl RT rfl rfl rfl rfl rfl (TL.go' ah ?_);simp;have tS4:trees (S1.flatMap cW++[I 8,I 0,.bool false,I 0,I 0,.str eS,.aj,.bool false,I 0,.aj,.aj,.aj])=true:=by rw[bg,tS1];rfl
   refine T.le (Le.nz [] [8]) ?_;simp[RJ,r9];apply T.seq;refine T.rx ah follows [0,1,2,3,4,5,6,7,8,9,10,11] [(7,9)] Ix ?_;simp[hC,gz];apply T.seq;refine T.rx ah follows [0,1,2,3,4,5,6,7,8,9,10,11,12,13,14,15,16] [(4,13),(8,13),(12,13)] Ix ?_;simp[hC];apply T.ret;have hinr:cW In.ret=[I 8,I 0,.bool false,I 0,I 0,.str eS,.ax [] 0,.bool false,I 0,.ax [] 0,.ax [] 0,.ax [] 0]:=by simp[cW,bf,nZ]
   have TN:S1.flatMap cW++[I 8,I 0,.bool false,I 0,I 0,.str eS,.ax [] 0,.bool false,I 0,.ax [] 0,.ax [] 0,.ax [] 0]=(S1++[In.ret]).flatMap cW:=by simp[hinr]
   have tS5:=cu (S1++[In.ret]);have tS6:=a8 (S3++[NN]);have tk5:take ((S1.length+1)*12) ((S1++[In.ret]).flatMap cW)=(S1++[In.ret]).flatMap cW:=take_of_length_le (by rw[Bc];simp);have tk6:take (S3.length+1) ((S3++[NN]).map λ n:Nat=>I n)=(S3++[NN]).map λ n:Nat=>I n:=take_of_length_le xr;simp only[TN];generalize hX:(S1++[In.ret]).flatMap cW=X at tS5 tk5;generalize hY:((S3++[NN]).map λ n:Nat=>I n)=Y at tS6 tk6;refine aa.le (Le.trim [6,7,8,9] [6,8,9] 10 (by simp[gH,hY,-all_eq_true,-all_flatMap,ai tS5,ai tS6]) yA) ?_;simp[gH,hY];refine aa.le (Le.dn (o:=8) rfl tS5) ?_;simp[tk5,aS tS6];refine aa.le (Le.dn (o:=9) rfl tS6) ?_;simp[tk6];apply aa.here;simp only[UU,mW];simp;exact⟨by rw[<- hX];simp,by rw[<- hY];simp⟩
end Go.Proofs.YtlkmbdfhdknlgaaGreat
namespace Go.aJ
open Go.Can List
theorem k9.main {p:Pg}(h:k9 p):∃ f r,p.fs=f::r/\f.params=[]/\jm (dv p) f.name=some ⟨f.name,3,0⟩/\nF.head? = some f.name:=by
 obtain⟨a1,a2,_,_⟩:=ia;obtain⟨s1,s2,s3,_⟩:=h.sub;obtain⟨d1,d2,d3,_⟩:=h.nd;obtain⟨k,hk,_,he⟩:=h.fn
 cases Th:p.fs with
 | nil=>
  rw[Th] at he;have:=congrArg length he;simp[nF] at this;omega
 | cons f r=>
  refine⟨f,r,rfl,h.f0 f (by rw[Th];rfl),?_,?_⟩
  ·have hm:f.name∈nF:=s3 _ (by rw[Th];simp);have h0:(p.fs.map (·.name))[0]? = some f.name:=by rw[Th];rfl
   rw[dv,dQ,dQ,e8 (λ hx=>(a2 _ hm).1 (s1 _ hx)),e8 (λ hx=>(a2 _ hm).2 (s2 _ hx))];simp only;rw[sj h0 d3]
  ·rw[Th] at he;obtain⟨k,rfl⟩:∃ k',k=k' + 1:=⟨k-1,by omega⟩;simp only[nF,map_cons,take_succ_cons,cons.injEq] at he;rw[he.1];rfl
end Go.aJ
namespace Go.Proofs.YtlkmbdfhdknlgaaGreat
open Go.Can Go.aJ List
theorem gy (x:Pr):trees (mW x)=true:=by simp only[mW,trees,tree,Bool.and_true]
theorem iC (x:Pr):(mW x).length=5:=rfl
def Cd (l:List Pr):Ob:=⟨150,5,l.flatMap mW⟩
def Kj (l:List Int):Ob:=⟨3,1,l.map I⟩
theorem aO (l:List Int):trees (l.map I)=true:=by
 induction l with
 | nil=>rfl
 | cons a r ih=>rw[map_cons,trees,ih];rfl
theorem EL:∀ {l:List Nat} {x:Nat},x∈l->x<=l.sum
 | a::r,x,h=>by
  rw[sum_cons];rcases mem_cons.1 h with rfl | h
  ·omega
  ·have:=EL h;omega
def qf:Ob:=⟨30,0,[.aj,.aj,.aj,I 0]⟩
def JL1 (p:Pg)(m:Nat)(s:St):Prop:=∃ i:Nat,m=p.gs.length-i/\i<=p.gs.length/\
 s=⟨[(11,I i),(10,.aw 2 0),(6,.ax ((dv p).flatMap iS) (dv p).length),(2,.aw 1 0),(1,.aw 0 0)],
  [(0,⟨27,0,fo p⟩),(1,qf),(2,⟨30,0,[.bb 3 0 i,.ax (p.ms.flatMap cH) p.ms.length,.aj,I 0]⟩),(3,Kj ((p.gs.take i).map (·.init)))],4⟩
def JL2 (p:Pg)(m:Nat)(s:St):Prop:=∃ i:Nat,m=p.fs.length-i/\i<=p.fs.length/\
 s=⟨[(12,I i),(10,.aw 2 0),(6,.ax ((dv p).flatMap iS) (dv p).length),(2,.aw 1 0),(1,.aw 0 0)],
  [(0,⟨27,0,fo p⟩),(1,qf),(2,⟨30,0,[.ax ((p.gs.map (·.init)).map I) p.gs.length,.ax (p.ms.flatMap cH) p.ms.length,.bb 3 0 i,I 0]⟩),(3,Cd ((p.fs.take i).map (ou p)))],4⟩
set_option maxHeartbeats 4000000 in
theorem Ke (p:Pg)(h:k9 p):ae Tryz.prog 27 [y9 p] (.cB [cg (mj p),I 0,I 0,I 0]):=by
 obtain⟨k1,V6,e1⟩:=h.gn;obtain⟨k2,_,Xg,e2⟩:=h.mn;obtain⟨k3,_,hk3,e3⟩:=h.fn;have l1:=congrArg length e1;have l2:=congrArg length e2;have l3:=congrArg length e3;simp[nG] at l1;simp[nM] at l2;simp[nF] at l3;have YH:∀ f∈p.fs,f.params.length<=2:=λ f hf=>by
  obtain⟨k,hk,e⟩:=h.pn f hf;have h5:=congrArg length e;simp only[length_map,length_reverse,length_take,nP,length_cons,length_nil] at h5;omega
 have hB:PgB p:=⟨by omega,by omega,λ f hf=>by have:=YH f hf;omega⟩;have Uk:=Dh p;have Uh:=IN p h;have hdec:=Dg p h yA yA yA;obtain⟨fm,fr,Th,Vr,hfm,Wm⟩:=h.main;have Vd:=sr (dv p) fm.name yA;rw[hfm] at Vd;have WE:fm.name=⟨#[109,97,105,110]⟩:=by
  simp only[nF,head?_cons,Option.some.injEq] at Wm;rw[<- Wm]
 obtain⟨t1,t2,t3⟩:=iy p;have tE:=cG (dv p);have fm1:=aC (f:=cH) (n:=3) (λ _=>rfl) p.ms;have bd0:p.ms.length*32<=140737488355328:=by omega
 have SL:p.fs[0]? = some fm:=by rw[Th];rfl
 have Qd:=b9 (f:=fL) (n:=3) (λ _=>rfl) SL 1 yA;have SK:0<p.fs.length:=by rw[Th];simp
 refine ae.aE ah Tryz.func27 rfl Ix (by simp[Tryz.ntmps27]) rfl λ C hC RR=>?_;rw[Tryz.ntmps27] at hC;simp only[y9,fo] at Uh hdec |-;apply aq;simp[hC];apply aW;simp[hC];refine cX R2 (Uh) ?_;simp[hC];refine fX ?_;simp;apply aq;simp[hC];refine cX R2 (hdec) ?_;simp[hC];apply aW;simp[hC];refine fX ?_;simp;rw[WE] at Vd;apply aq;simp[hC];refine cX R2 (Vd) ?_;simp[hC,sq,iS];apply aW;simp[hC,Qd,SK,fL,Vr];refine fX ?_;simp;apply T.seq;refine T.rx ah follows [0,1,2,3,4,5,6,7,8] [(1,2),(1,5),(1,7),(2,4),(2,7),(4,7),(5,7)] Ix ?_;simp[hC,fm1,bd0,aY];apply aW;simp[hC];apply T.block;refine T.aH (JL1 p) (n:=p.gs.length) ?_ ?_
 ·have tk:take (p.ms.length*3) (p.ms.flatMap cH)=p.ms.flatMap cH:=take_of_length_le (by rw[fm1];exact Nat.le_refl _);refine aa.le (Le.trim [11,10,6,2,1] [10,12,1,0] 13 (by simp[-all_eq_true,-all_flatMap,ai (dG p.ms)]) yA) ?_;simp;refine aa.le (Le.dn (o:=12) rfl (dG p.ms)) ?_;simp[tk];refine aa.le (Le.nk 10 0 3 1 rfl rfl) ?_;simp;refine aa.le (Le.norm [11,10,6,2,1] [(0,0),(1,1),(10,2),(13,3)] 0 4 Sn Sl yCu yA) ?_;simp[cm,bh,aX,cN,dZ,assoc];refine aa.here ⟨0,by omega,by omega,?_⟩;simp[fo,qf,Kj]
 ·rintro n s ⟨i,rfl,hi,rfl⟩;by_cases Og:i<p.gs.length
  ·obtain⟨y,hy⟩:∃ y,p.gs[i]? = some y:=⟨p.gs[i],getElem?_eq_getElem Og⟩;have Qd:=aI (f:=qk) (n:=2) (λ _=>rfl) hy;have TF:=b9 (f:=qk) (n:=2) (λ _=>rfl) hy 1 yA;have wi:=cF ((i:Int)+1) yA yA;have R3:p.gs.take (i+1)=p.gs.take i++[y]:=by rw[take_add_one,hy];rfl
   have Tb:((p.gs.take i).map (·.init)).length=i:=by simp;omega
   have Wa:(i+1)*8<=140737488355328:=by omega
   have tI:=aO ((p.gs.take i).map (·.init));generalize hG:(p.gs.take i).map (·.init)=G at Tb tI;simp only[fo,qf,Kj];apply aW;simp[hC,Og];refine gw ?_;simp;apply eN;refine T.rx ah follows [0,1,2,3,4,5,6,7,8,9,10,11] [(1,8)] Ix ?_;simp[hC,Og,Qd,qk,Tb,Wa,aY];apply aN;simp[hC,wi];refine⟨p.gs.length-(i+1),by omega,?_⟩;have tN:trees (G.map I++[I y.init])=true:=by rw[bg,tI];rfl
   have R4:=au tN;have U5:=λ ρ=>af ρ _ tN;refine aa.le (Le.norm [11,10,6,2,1] [(0,0),(1,1),(2,2),(16,3)] 0 4 Sn Sl yCl yA) ?_;simp[cm,bh,aX,cN,dZ,assoc,U5];refine aa.here ⟨i+1,rfl,by omega,?_⟩;simp[fo,qf,Kj,R3,hG]
  ·have RU:i=p.gs.length:=by omega
   subst RU;apply aW;simp[hC,fo];refine a9 ?_;simp;apply T.exit;simp;have tI:=aO (p.gs.map (·.init));have tkI:take p.gs.length ((p.gs.map (·.init)).map I)=(p.gs.map (·.init)).map I:=take_of_length_le xr;have hints:ints (p.gs.map (·.init))=.ax ((p.gs.map (·.init)).map I) p.gs.length:=by simp[ints]
   generalize hG:p.gs.map (·.init)=G at tI tkI hints;simp only[qf,Kj];apply aW;simp[hC];apply T.block;refine T.aH (JL2 p) (n:=p.fs.length) ?_ ?_
   ·refine aa.le (Le.trim [12,10,6,2,1] [0,1,2,3] 4 (by simp[-all_eq_true,-all_flatMap,ai tI]) yA) ?_;simp;refine aa.le (Le.dn (o:=3) rfl tI) ?_;simp[tkI];refine aa.le (Le.nk 2 2 150 5 rfl rfl) ?_;simp;refine aa.le (Le.norm [12,10,6,2,1] [(0,0),(1,1),(2,2),(4,3)] 0 4 Sn Sl yCu yA) ?_;simp[cm,bh,aX,cN,dZ,assoc];refine aa.here ⟨0,by omega,by omega,?_⟩;simp[fo,qf,Cd,hG]
   ·rintro n s ⟨i,rfl,hi,rfl⟩;by_cases Og:i<p.fs.length
    ·obtain⟨f,hf⟩:∃ f,p.fs[i]? = some f:=⟨p.fs[i],getElem?_eq_getElem Og⟩;have hfm:=mem_of_getElem? hf;have hfk:bV f.body<=1200:=by
      have h1:=EL (mem_map_of_mem (f:=λ f:Fu=>bV f.body) hfm);have h2:=h.wt;omega
     have Wm:=C0 p h hB yA f hfm hfk (by have:=YH f hfm;omega);have Qd:=aI (f:=fL) (n:=3) (λ _=>rfl) hf;have wi:=cF ((i:Int)+1) yA yA;have R3:p.fs.take (i+1)=p.fs.take i++[f]:=by rw[take_add_one,hf];rfl
     have Tb:((p.fs.take i).map (ou p)).length=i:=by simp;omega
     have tP:=ak gy ((p.fs.take i).map (ou p));have fP:=aC (f:=mW) (n:=5) iC ((p.fs.take i).map (ou p));rw[Tb] at fP;have Wa:(i+1)*64<=140737488355328:=by omega
     generalize hH:(p.fs.take i).map (ou p)=Hs at Tb tP fP;have hprx:mW (ou p f)=[.str (ou p f).name,I (ou p f).ints,I (ou p f).bp,I (ou p f).locals,.ax ((ou p f).code.flatMap cW) (ou p f).code.length]:=rfl;have tpr:=gy (ou p f);rw[hprx] at Wm tpr;have tcd:=cu (ou p f).code;simp only[fo,fL,y9] at Wm;simp only[fo,qf,Cd];apply aW;simp[hC,Og];refine gw ?_;simp;apply eN;apply T.seq;refine T.rx ah follows [0,1,2,3,4,5,6,13,7,8,9,10,11,12,14,15,16,17] [(0,13),(3,13),(6,13),(13,7)] Ix ?_;simp[hC,Og,Qd,fL];have RQ:trees [.agg [.ax (p.gs.flatMap qk) p.gs.length,.ax (p.ms.flatMap cH) p.ms.length,.ax (p.fs.flatMap fL) p.fs.length],.ax ((dv p).flatMap iS) (dv p).length,.agg [.str f.name,.ax (f.params.flatMap lU) f.params.length,.ax (bO f.body) f.body.length]]=true:=by
      simp only[trees,tree];rfl
     refine RX.call rfl rfl rfl rfl rfl RQ Wm ?_;simp;apply aW;simp[hC];refine fX ?_;simp;apply aN;simp[hC,fP,Wa,aY];apply aN;simp[hC,wi];refine⟨p.fs.length-(i+1),by omega,?_⟩;have tN:trees (Hs.flatMap mW++[.str (ou p f).name,I (ou p f).ints,I (ou p f).bp,I (ou p f).locals,.ax ((ou p f).code.flatMap cW) (ou p f).code.length])=true:=by rw[bg,tP,tpr];rfl
     have R4:=au tN;have U5:=λ ρ=>af ρ _ tN;have tI2:=aO (p.gs.map (·.init));refine aa.le (Le.norm [12,10,6,2,1] [(0,0),(1,1),(2,2),(23,3)] 0 4 Sn Sl yCl yA) ?_;simp[cm,bh,aX,cN,dZ,assoc,U5];refine aa.here ⟨i+1,rfl,by omega,?_⟩;simp[fo,qf,Cd,R3,hH,hprx]
    ·have RU:i=p.fs.length:=by omega
     subst RU;have tP:=ak gy (p.fs.map (ou p));have fP:=aC (f:=mW) (n:=5) iC (p.fs.map (ou p));have Tb:(p.fs.map (ou p)).length=p.fs.length:=by simp
     rw[Tb] at fP;have tkP:take (p.fs.length*5) ((p.fs.map (ou p)).flatMap mW)=(p.fs.map (ou p)).flatMap mW:=take_of_length_le yA;have WA:cR (mj p)=[.ax ((p.gs.map (·.init)).map I) p.gs.length,.ax (p.ms.flatMap cH) p.ms.length,.ax ((p.fs.map (ou p)).flatMap mW) p.fs.length,I 0]:=by simp[cR,mj,ints]
     simp only[fo,qf,Cd,take_length];generalize hH:p.fs.map (ou p)=Hs at tP fP tkP WA;apply aW;simp[hC];refine a9 ?_;simp;apply T.exit;simp;apply aq;simp[hC];apply T.ret;have tI2:=aO (p.gs.map (·.init));generalize hG:(p.gs.map (·.init)).map I=Gs at tI2 WA;refine aa.le (Le.trim [5,4,3,2] [1,3] 4 (by simp[-all_eq_true,-all_flatMap,ai tP]) yA) ?_;simp;refine aa.le (Le.dn (o:=3) rfl tP) ?_;simp[tkP];apply aa.here;simp[cg,WA];rw[<- hG,map_map]
end Go.Proofs.YtlkmbdfhdknlgaaGreat
namespace Go.aJ
open Go.Can List
deriving instance DecidableEq for Is
def iV (is:Is)(q:Pl):Nat:=if q.param=true then is.bp.getD q.index 0 else q.index
def qX:In->Int
 | .set _ _ _=>1
 | .call g _ _ _=>if g=true then 3 else 2
 | .lock u _=>if u=true then 5 else 4
 | .branch _ _=>6
 | .jump _=>7
 | .ret=>8
def j4 (is:Is):In->Option Is
 | .call _ t _ ps=>some ⟨t,ps.map (iV is)⟩
 | _=>none
def ay (u:Un)(is:Is):List In:=match u.ps[is.proc]? with
 | some q=>q.code
 | none=>[]
def uF (u:Un)(is:Is)(pc:Int):Option Is:=if pc<0 then none else match (ay u is)[pc.toNat]? with
 | some i=>j4 is i
 | none=>none
def Bn:Option Is->CV
 | some x=>.cB [.agg (dV x),.bool true]
 | none=>.cB [.agg [I 0,.ax [] 0],.bool false]
theorem oW (i:In):∃ cs,cW i=I (qX i)::cs/\cs.length=11:=by
 have h:∃ cs,cW i=I (qX i)::cs:=by cases i<;>exact⟨_,rfl⟩
 obtain⟨cs,h⟩:=h;have:=gB i;rw[h] at this;exact⟨cs,h,by simpa using this⟩
structure sX (u:Un)(is:Is):Prop where
 q:∃ q,u.ps[is.proc]? = some q/\is.bp.length=q.bp
 m:∀ l∈is.bp,l<u.ms.length
theorem JY {u:Un}{is:Is}{g k L:Nat}{q:Pl}(hm:∀ l∈is.bp,l<u.ms.length)(hL:is.bp.length=L)(h:vW u.ms g k L q):iV is q<u.ms.length:=by
 rcases h with ⟨h1,h2,_⟩ | ⟨h1,m,h2,_⟩
 ·simp only[iV,h1,if_true];rw[getD_eq_getElem?_getD,getElem?_eq_getElem yA];exact hm _ (getElem_mem yA)
 ·simp only[iV,h1,Bool.false_eq_true,if_false];exact (List.getElem?_eq_some_iff.1 h2).1
theorem Fc {u:Un}(hu:fV u){is:Is}(hi:sX u is){i:In}(hm:i∈ay u is){x:Is}(hx:j4 is i=some x):sX u x:=by
 obtain⟨⟨q,hq,hl⟩,UR⟩:=hi;simp only[ay,hq] at hm;have hv:=(hu.pc q (mem_of_getElem? hq)).2 i hm
 cases i with
 | call g t is' ps=>
  simp only[j4,Option.some.injEq] at hx;subst hx;obtain⟨h1,_,h3⟩:=hv;rw[getElem?_map,Option.map_eq_some_iff] at h1;obtain⟨q',h4,h5⟩:=h1;simp only[Prod.mk.injEq] at h5;refine⟨⟨q',h4,?_⟩,λ l Wk=>?_⟩
  ·simp only[length_map];omega
  ·simp only[mem_map] at Wk;obtain⟨pl,SR,rfl⟩:=Wk;exact JY UR hl (h3 pl SR)
 | _=>simp[j4] at hx
def uk:In->Bool
 | .call g _ _ _=>g
 | _=>false
def cJ (l:List Nat)(n:Nat):Nat:=(l.takeWhile (· < n)).length
def gF (l:List Nat)(n:Nat):List Nat:=if n∈l then l else l.take (cJ l n)++n::l.drop (cJ l n)
def fx (l:List Is)(x:Is):List Is:=if x∈l then l else l++[x]
def ez (l:List Is)(x:Is):Nat:=l.findIdx λ y=>decide (y=x)
def iu (is:Is):List In->List Is->List Nat->List Is×List Int×List Nat
 | [],l,r=>(l,[],r)
 | i::c,l,r=>match j4 is i with
  | none=>((iu is c l r).1,-1::(iu is c l r).2.1,(iu is c l r).2.2)
  | some x=>((iu is c (fx l x) (if uk i=true then gF r (ez (fx l x) x) else r)).1,(ez (fx l x) x:Int)::(iu is c (fx l x) (if uk i=true then gF r (ez (fx l x) x) else r)).2.1,(iu is c (fx l x) (if uk i=true then gF r (ez (fx l x) x) else r)).2.2)
def kQ (u:Un):Nat->Nat->List Is->List (List Int)->List Nat->Cl
 | 0,_,l,cs,r=>⟨l,cs,r⟩
 | f+1,i,l,cs,r=>match l[i]? with
  | none=>⟨l,cs,r⟩
  | some x=>kQ u f (i+1) (iu x (ay u x) l r).1 (cs++[(iu x (ay u x) l r).2.1]) (iu x (ay u x) l r).2.2
def az (u:Un):Cl:=kQ u 100 0 [⟨u.main,[]⟩] [] [0]
end Go.aJ
