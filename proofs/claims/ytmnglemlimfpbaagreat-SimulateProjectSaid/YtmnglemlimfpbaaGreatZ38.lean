/- function. -/
import Derived.Test.YtmnglemlimfpbaaGreatZ37
namespace Go.aX
open Go.Can
def KB (i j:Nat)(q:Pm):En:=if q.mutex=true then ⟨q.name,5,j⟩ else ⟨q.name,4,i⟩
theorem uv:∀ (a:List Pm) (q:Pm) (i j:Nat),lb i j (a++[q])=lb i j a++[KB (i+pI a) (j+pL a) q]
 | [],q,i,j=>by
  simp only[List.nil_append,lb,pI,pL,Nat.add_zero,KB]
  split<;>rfl
 | p::r,q,i,j=>by
  simp only[List.cons_append,lb,pI,pL]
  split
  ·rw[uv r q,List.cons_append]
   congr 3
   simp only[KB]
   congr 2<;>omega
  ·rw[uv r q,List.cons_append]
   congr 3
   simp only[KB]
   congr 2<;>omega
theorem BP:∀ (a:List Pm) (q:Pm),pI (a++[q])=pI a+if q.mutex=true then 0 else 1
 | [],q=>by simp[pI]
 | p::r,q=>by simp only[List.cons_append,pI,BP r q];omega
theorem BO:∀ (a:List Pm) (q:Pm),pL (a++[q])=pL a+if q.mutex=true then 1 else 0
 | [],q=>by simp[pL]
 | p::r,q=>by simp only[List.cons_append,pL,BO r q];omega
theorem zO:∀ (l:List Pm) (i j:Nat),(lb i j l).length=l.length
 | [],_,_=>rfl
 | p::r,i,j=>by
  simp only[lb]
  split<;>simp[zO r]
def na (p:Pg)(f:Fu)(j:Nat):List En:=df p++lb 0 0 (f.params.take j)
theorem Eo (p:Pg)(f:Fu)(j:Nat)(q:Pm)(h:f.params[j]? = some q):na p f (j+1)=na p f j++[KB (pI (f.params.take j)) (pL (f.params.take j)) q]:=by
 have:f.params.take (j+1)=f.params.take j++[q]:=by rw[List.take_add_one,h];rfl
 simp only[na,this,uv,Nat.zero_add,List.append_assoc]
theorem Aq (p:Pg)(f:Fu)(j:Nat)(h:j≤f.params.length):(na p f j).length=(df p).length+j:=by
 simp only[na,List.length_append,zO,List.length_take];omega
theorem GR {p:Pg}(h:kD p){f:Fu}(hf:f∈p.fs){j:Nat}{q:Pm}(hq:f.params[j]? = some q):iZ (na p f j) q.name=none:=by
 obtain⟨_,_,_,d4⟩:=h.dec
 obtain⟨_,_,a3,_⟩:=gP
 obtain⟨_,_,_,s4⟩:=h.sub
 obtain⟨_,_,_,n4⟩:=h.nd
 have hm:=s4 f hf _ (List.mem_map_of_mem (f:=(·.name)) (List.mem_of_getElem? hq))
 have ha:=a3 _ hm
 rw[na,dC,d4 _ (by simp only[List.mem_append,not_or];exact⟨⟨ha.1,ha.2.1⟩,ha.2.2⟩)]
 simp only
 rw[qn,pA]
 obtain⟨hl,hx'⟩:=List.getElem?_eq_some_iff.1 hq
 have e:f.params=f.params.take j++q::f.params.drop (j+1):=by rw[← hx',← List.drop_eq_getElem_cons hl,List.take_append_drop]
 have h2:((f.params.take j++q::f.params.drop (j+1)).map (·.name)).Nodup:=by rw[← e];exact n4 f hf
 rw[List.map_append,List.map_cons,List.nodup_append] at h2
 exact fun hm=>h2.2.2 _ hm _ List.mem_cons_self rfl
end Go.aX
namespace Go.Proofs.YtmnglemlimfpbaaGreat
open Go.Can Go.aX
def wS:Ob:=⟨72,0,[.str ⟨#[]⟩,I 0,I 0,I 0,.ah]⟩
def wJ (p:Pg)(n:Nat):Ob:=⟨196,0,[.av (p.gs.flatMap pd) p.gs.length,.av (p.ms.flatMap cq) p.ms.length,.av (p.fs.flatMap fk) p.fs.length,.bx 3 0 n,I 0,I 0,I 0,I 0,.ah,.ah]⟩
def J60 (p:Pg)(f:Fu)(m:Nat)(s:St):Prop:=∃ j:Nat,m=f.params.length-j∧j≤f.params.length∧
 s=⟨[(12,I j),(11,.aw 4 0),(10,.aw 2 0),(6,.aw 1 0),(5,.aw 0 0)],
  [(0,⟨137,0,fk f⟩),(1,wS),(2,wJ p (na p f j).length),(3,iw (na p f j)),(4,⟨72,0,[.str f.name,I (pI (f.params.take j)),I (pL (f.params.take j)),I 0,.ah]⟩)],5⟩
set_option maxHeartbeats 4000000 in
theorem Ap (p:Pg)(h:kD p)(hB:PgB p)(hdl:(df p).length≤3000)(f:Fu)(hf:f∈p.fs)(hw:bG f.body≤1200)(hpl:f.params.length≤100) :
  ae Tryz.prog 60 [wT p,.av ((df p).flatMap iu) (df p).length,.agg (fk f)] (.cr [.agg (oR (ni p f)),.av ((iD f.body 0++[fp f.body]).map fun n:Nat=>I n) (iD f.body 0++[fp f.body]).length,I 0,I 0]):=by
 obtain⟨t1,t2,t3⟩:=gY p
 have tE:=cm (df p)
 have f0:=aD (f:=iu) (n:=3) kP (df p)
 have bd0:(df p).length*32≤140737488355328:=by omega
 refine ae.aB ag Tryz.func60 rfl yAb (by simp[Tryz.ntmps60]) rfl fun C hC hC0=>?_
 rw[Tryz.ntmps60] at hC
 simp only[wT,eH,fk]
 apply au
 simp[hC]
 apply T.seq
 refine T.rx ag follows [0,1,2,3,4,5,6] [(0,1),(0,3)] yAb ?_
 simp[hC,f0,bd0,aI]
 apply au
 simp[hC]
 apply aJ
 simp[hC]
 apply T.block
 refine T.aL (J60 p f) (n:=f.params.length) ?_ ?_
 ·refine aa.le (Le.norm [12,11,10,6,5] [(1,0),(2,1),(8,2),(10,3),(11,4)] 0 5 yAl yAm (by simp[eC,vV,sh,tree,assoc,-List.all_eq_true,-List.all_flatMap,aH tE]) yA) ?_
  simp[dF,ca,bu,dU,gg,assoc,af _ _ tE]
  refine aa.here ⟨0,by omega,by omega,?_⟩
  simp[fk,wS,wJ,iw,na,lb,pI,pL]
 ·rintro n s ⟨j,rfl,hj,rfl⟩
  by_cases hil:j<f.params.length
  ·obtain⟨q,hq⟩:∃ q,f.params[j]? = some q:=⟨f.params[j],List.getElem?_eq_getElem hil⟩
   have hEl:=Aq p f j hj
   have hfd:=Av (na p f j) q.name yA
   rw[GR h hf hq] at hfd
   have hdr:=aE (f:=ld) (n:=2) (fun _=>rfl) hq
   have hdr1:=cB (f:=ld) (n:=2) (fun _=>rfl) hq 1 yA
   have wi:=ct ((j:Int)+1) yA yA
   have hpi:=pIL (f.params.take j)
   rw[List.length_take] at hpi
   have hpi2:pI (f.params.take j)+pL (f.params.take j)≤100:=by omega
   have htk:f.params.take (j+1)=f.params.take j++[q]:=by rw[List.take_add_one,hq];rfl
   have hnx:=Eo p f j q hq
   have f1:=aD (f:=iu) (n:=3) kP (na p f j)
   have bd1:((na p f j).length+1)*32≤140737488355328:=by omega
   have tEj:=cm (na p f j)
   simp only[fk,wJ,wS]
   apply aJ
   simp[hC,hil]
   refine iv ?_
   simp
   apply fq
   refine T.seq (T.seq ?_)
   refine T.rx ag follows [0,1,2,3,4,5,6,7,8,9,14,10,11,12,13,15,16] [(3,14),(5,14),(9,14),(14,10)] yAb ?_
   simp[hC,hil,hdr,ld]
   refine RX.jq 0 3 [3] [] 1 (hfd) rfl yAa rfl rfl rfl yAa yA yAa yAa rfl yAa yBa rfl yAa yAa yAa rfl yAa ?_
   simp[qp]
   apply au
   simp[hC]
   refine e9 ?_
   simp
   apply au
   simp[hC,hil,hdr1,ld]
   cases hm:q.mutex with
   | true=>
    have wl:=ct ((pL (f.params.take j):Int)+1) yA yA
    refine T.cond (b:=true) yAf ?_
    simp
    apply T.seq
    refine T.rx ag follows [0,1,2,3,4,5,6,7,8,9,10,11,12,13,14,15,16,17,18] [(4,14)] yAb ?_
    simp[hC,hil,hdr,ld,iw,f1,bd1,aI]
    apply aO
    simp[hC,wl]
    apply aO
    simp[hC,wi]
    refine⟨f.params.length-(j+1),by omega,?_⟩
    have tN:trees ((na p f j).flatMap iu++[.str q.name,I 5,I (pL (f.params.take j))])=true:=by rw[aC,cm];rfl
    have hin:=aH tN
    have hrn:=fun ρ=>af ρ _ tN
    refine aa.le (Le.norm [12,11,10,6,5] [(0,0),(1,1),(2,2),(41,3),(4,4)] 0 5 yAl yAm yBv yA) ?_
    simp[dF,ca,bu,dU,gg,assoc,hrn]
    refine aa.here ⟨j+1,rfl,by omega,?_⟩
    simp[fk,wS,wJ,iw,hnx,htk,KB,hm,iu,BP,BO]
   | false=>
    have wl:=ct ((pI (f.params.take j):Int)+1) yA yA
    refine T.cond (b:=false) yAf ?_
    simp
    apply T.seq
    refine T.rx ag follows [0,1,2,3,4,5,6,7,8,9,10,11,12,13,14,15,16,17,18] [(4,14)] yAb ?_
    simp[hC,hil,hdr,ld,iw,f1,bd1,aI]
    apply aO
    simp[hC,wl]
    apply aO
    simp[hC,wi]
    refine⟨f.params.length-(j+1),by omega,?_⟩
    have tN:trees ((na p f j).flatMap iu++[.str q.name,I 4,I (pI (f.params.take j))])=true:=by rw[aC,cm];rfl
    have hin:=aH tN
    have hrn:=fun ρ=>af ρ _ tN
    refine aa.le (Le.norm [12,11,10,6,5] [(0,0),(1,1),(2,2),(41,3),(4,4)] 0 5 yAl yAm yBv yA) ?_
    simp[dF,ca,bu,dU,gg,assoc,hrn]
    refine aa.here ⟨j+1,rfl,by omega,?_⟩
    simp[fk,wS,wJ,iw,hnx,htk,KB,hm,iu,BP,BO]
  ·have hje:j=f.params.length:=by omega
   subst hje
   have hEl:=Aq p f f.params.length (Nat.le_refl _)
   have hfe:na p f f.params.length=qN p f:=by simp only[na,qN,List.take_length]
   rw[hfe] at hEl
   simp only[fk,wJ,wS,List.take_length,hfe]
   have hEW:=h.ew hf
   have hbl:=Hu hB 2 f.body _ (qN p f) (pI f.params) 0 [] [] hEW (h.bd f hf) yA (by have:=pIL f.params;omega) yAg yAg yA
   have tEj:=cm (qN p f)
   have tk:List.take ((qN p f).length*3) ((qN p f).flatMap iu)=(qN p f).flatMap iu:=List.take_of_length_le (by rw[aD (f:=iu) (n:=3) kP];omega)
   have hil:¬ f.params.length<f.params.length:=by omega
   apply aJ
   simp[hC]
   refine bj ?_
   simp
   apply T.exit
   simp
   apply au
   simp[hC]
   refine T.le (Le.cG (o:=3) rfl tEj) ?_
   simp[iw,tk]
   refine T.le (Le.kz 2 8 69 12 rfl rfl) ?_
   simp
   refine T.le (Le.kz 2 9 3 1 rfl rfl) ?_
   simp
   refine T.le (Le.norm [11,10,6,5] [(2,0),(5,3),(6,4),(0,5),(1,6),(4,7)] 0 8 yAl yAm yCb yA) ?_
   simp[dF,ca,bu,dU,gg,assoc]
   simp only[EY,List.length_nil,Nat.zero_add,List.nil_append] at hbl
   have hlen:=sR.2 f.body (qN p f) (pI f.params) 0 0
   obtain⟨v1,v2,v3,v4⟩:=zC.2 f.body 2 _ _ _ 0 hEW (h.bd f hf)
   have v5:=x8.2 f.body
   have hpr:ni p f=⟨f.name,pI f.params,pL f.params,(bO f.body (qN p f) (pI f.params) 0).2,(bO f.body (qN p f) (pI f.params) 0).1++[.ret]⟩:=rfl
   generalize bO f.body (qN p f) (pI f.params) 0=S at hbl hlen v1 v2 v3 v4 hpr
   obtain⟨S1,S2⟩:=S
   generalize hS3:iD f.body 0=S3 at hbl hlen
   generalize hN:fp f.body=NN at hbl v4 v5
   simp only at hbl hlen v1 v3 v4 hpr
   have tb:=bC f.body
   apply au
   simp[hC]
   refine TL.ik hbl rfl rfl (cc _) (aT _) yA rfl yAc rfl rfl rfl yBw rfl (TL.go' ag ?_)
   simp
   have tS1:=cc S1
   have tS3:=aT S3
   refine T.le (Le.norm [11,10,6,5] [(0,0),(8,3),(9,4),(5,5),(6,6),(7,7)] 0 8 yAl yAm (by simp[eC,vV,sh,tree,assoc,-List.all_eq_true,-List.all_flatMap,fQ,fh,fW,aH tS1,aH tS3]) yA) ?_
   simp[dF,ca,bu,dU,gg,assoc,fQ,fh,fW,af _ _ tS1,af _ _ tS3]
   apply au
   simp[hC]
   refine TL.ik (Ky p (qN p f) S2 NN S1 S3 S1.length S3.length rfl rfl [I 8,I 0,.bool false,I 0,I 0,.str eS,.ah,.bool false,I 0,.ah,.ah,.ah] rfl rfl NN yA yA) (cc _) (aT _) (wz _ rfl) (aT _) yA rfl yAc rfl rfl rfl rfl rfl (TL.go' ag ?_)
   simp
   have tS4:trees (S1.flatMap dv++[I 8,I 0,.bool false,I 0,I 0,.str eS,.ah,.bool false,I 0,.ah,.ah,.ah])=true:=by rw[aC,tS1];rfl
   refine T.le (Le.nz [] [8]) ?_
   simp[Mw,qh]
   apply T.seq
   refine T.rx ag follows [0,1,2,3,4,5,6,7,8,9,10,11] [(7,9)] yAb ?_
   simp[hC,fQ]
   apply T.seq
   refine T.rx ag follows [0,1,2,3,4,5,6,7,8,9,10,11,12,13,14,15,16] [(4,13),(8,13),(12,13)] yAb ?_
   simp[hC]
   apply T.ret
   have hinr:dv In.ret=[I 8,I 0,.bool false,I 0,I 0,.str eS,.av [] 0,.bool false,I 0,.av [] 0,.av [] 0,.av [] 0]:=by simp[dv,aZ,oz]
   have hco:S1.flatMap dv++[I 8,I 0,.bool false,I 0,I 0,.str eS,.av [] 0,.bool false,I 0,.av [] 0,.av [] 0,.av [] 0]=(S1++[In.ret]).flatMap dv:=by simp[hinr]
   have tS5:=cc (S1++[In.ret])
   have tS6:=aT (S3++[NN])
   have tk5:List.take ((S1.length+1)*12) ((S1++[In.ret]).flatMap dv)=(S1++[In.ret]).flatMap dv:=List.take_of_length_le (by rw[yQ];simp)
   have tk6:List.take (S3.length+1) ((S3++[NN]).map fun n:Nat=>I n)=(S3++[NN]).map fun n:Nat=>I n:=List.take_of_length_le yAa
   simp only[hco]
   generalize hX:(S1++[In.ret]).flatMap dv=X at tS5 tk5
   generalize hY:((S3++[NN]).map fun n:Nat=>I n)=Y at tS6 tk6
   refine aa.le (Le.trim [6,7,8,9] [6,8,9] 10 (by simp[fW,hY,-List.all_eq_true,-List.all_flatMap,aj tS5,aj tS6]) yA) ?_
   simp[fW,hY]
   refine aa.le (Le.cG (o:=8) rfl tS5) ?_
   simp[tk5,ak tS6]
   refine aa.le (Le.cG (o:=9) rfl tS6) ?_
   simp[tk6]
   apply aa.here
   simp only[hpr,oR]
   simp
   exact⟨by rw[← hX];simp,by rw[← hY];simp⟩
end Go.Proofs.YtmnglemlimfpbaaGreat
namespace Go.aX
open Go.Can
theorem kD.main {p:Pg}(h:kD p):∃ f r,p.fs=f::r∧f.params=[]∧iZ (df p) f.name=some ⟨f.name,3,0⟩∧nF.head? = some f.name:=by
 obtain⟨a1,a2,_,_⟩:=gP
 obtain⟨s1,s2,s3,_⟩:=h.sub
 obtain⟨d1,d2,d3,_⟩:=h.nd
 obtain⟨k,hk,_,he⟩:=h.fn
 cases hfs:p.fs with
 | nil=>
  rw[hfs] at he
  have:=congrArg List.length he
  simp[nF] at this
  omega
 | cons f r=>
  refine⟨f,r,rfl,h.f0 f (by rw[hfs];rfl),?_,?_⟩
  ·have hm:f.name∈nF:=s3 _ (by rw[hfs];simp)
   have h0:(p.fs.map (·.name))[0]? = some f.name:=by rw[hfs];rfl
   rw[df,dC,dC,ez (fun hx=>(a2 _ hm).1 (s1 _ hx)),ez (fun hx=>(a2 _ hm).2 (s2 _ hx))]
   simp only
   rw[qo h0 d3]
  ·rw[hfs] at he
   obtain⟨k,rfl⟩:∃ k',k=k' + 1:=⟨k-1,by omega⟩
   simp only[nF,List.map_cons,List.take_succ_cons,List.cons.injEq] at he
   rw[he.1]
   rfl
end Go.aX
namespace Go.Proofs.YtmnglemlimfpbaaGreat
open Go.Can Go.aX
theorem gN (x:Pr):trees (oR x)=true:=by simp only[oR,trees,tree,Bool.and_true]
theorem kJ (x:Pr):(oR x).length=5:=rfl
def zM (l:List Pr):Ob:=⟨72,5,l.flatMap oR⟩
def Gt (l:List Int):Ob:=⟨3,1,l.map I⟩
theorem aM (l:List Int):trees (l.map I)=true:=by
 induction l with
 | nil=>rfl
 | cons a r ih=>rw[List.map_cons,trees,ih];rfl
theorem BY:∀ {l:List Nat} {x:Nat},x∈l→x≤l.sum
 | a::r,x,h=>by
  rw[List.sum_cons]
  rcases List.mem_cons.1 h with rfl | h
  ·omega
  ·have:=BY h;omega
def o0:Ob:=⟨30,0,[.ah,.ah,.ah,I 0]⟩
def JL1 (p:Pg)(m:Nat)(s:St):Prop:=∃ i:Nat,m=p.gs.length-i∧i≤p.gs.length∧
 s=⟨[(11,I i),(10,.aw 2 0),(6,.av ((df p).flatMap iu) (df p).length),(2,.aw 1 0),(1,.aw 0 0)],
  [(0,⟨27,0,eH p⟩),(1,o0),(2,⟨30,0,[.bx 3 0 i,.av (p.ms.flatMap cq) p.ms.length,.ah,I 0]⟩),(3,Gt ((p.gs.take i).map (·.init)))],4⟩
def JL2 (p:Pg)(m:Nat)(s:St):Prop:=∃ i:Nat,m=p.fs.length-i∧i≤p.fs.length∧
 s=⟨[(12,I i),(10,.aw 2 0),(6,.av ((df p).flatMap iu) (df p).length),(2,.aw 1 0),(1,.aw 0 0)],
  [(0,⟨27,0,eH p⟩),(1,o0),(2,⟨30,0,[.av ((p.gs.map (·.init)).map I) p.gs.length,.av (p.ms.flatMap cq) p.ms.length,.bx 3 0 i,I 0]⟩),(3,zM ((p.fs.take i).map (ni p)))],4⟩
set_option maxHeartbeats 4000000 in
theorem Gn (p:Pg)(h:kD p):ae Tryz.prog 35 [wT p] (.cr [cS (lI p),I 0,I 0,I 0]):=by
 obtain⟨k1,hk1,e1⟩:=h.gn
 obtain⟨k2,_,hk2,e2⟩:=h.mn
 obtain⟨k3,_,hk3,e3⟩:=h.fn
 have l1:=congrArg List.length e1
 have l2:=congrArg List.length e2
 have l3:=congrArg List.length e3
 simp[nG] at l1
 simp[nM] at l2
 simp[nF] at l3
 have hpn:∀ f∈p.fs,f.params.length≤2:=fun f hf=>by
  obtain⟨k,hk,e⟩:=h.pn f hf
  have h5:=congrArg List.length e
  simp only[List.length_map,List.length_reverse,List.length_take,nP,List.length_cons,List.length_nil] at h5
  omega
 have hB:PgB p:=⟨by omega,by omega,fun f hf=>by have:=hpn f hf;omega⟩
 have hdl:=AK p
 have hval:=E8 p h
 have hdec:=AJ p h yA yA yA
 obtain⟨fm,fr,hfs,hfp,hfm,hfn⟩:=h.main
 have hfd:=qt (df p) fm.name yA
 rw[hfm] at hfd
 have hname:fm.name=⟨#[109,97,105,110]⟩:=by
  simp only[nF,List.head?_cons,Option.some.injEq] at hfn
  rw[← hfn]
 obtain⟨t1,t2,t3⟩:=gY p
 have tE:=cm (df p)
 have fm1:=aD (f:=cq) (n:=3) (fun _=>rfl) p.ms
 have bd0:p.ms.length*32≤140737488355328:=by omega
 have hf0:p.fs[0]? = some fm:=by rw[hfs];rfl
 have hdr:=cB (f:=fk) (n:=3) (fun _=>rfl) hf0 1 yA
 have hfl:0<p.fs.length:=by rw[hfs];simp
 refine ae.aB ag Tryz.func35 rfl yAb (by simp[Tryz.ntmps35]) rfl fun C hC hC0=>?_
 rw[Tryz.ntmps35] at hC
 simp only[wT,eH] at hval hdec ⊢
 apply au
 simp[hC]
 apply aJ
 simp[hC]
 refine cH yAd (hval) ?_
 simp[hC]
 refine e9 ?_
 simp
 apply au
 simp[hC]
 refine cH yAd (hdec) ?_
 simp[hC]
 apply aJ
 simp[hC]
 refine e9 ?_
 simp
 rw[hname] at hfd
 apply au
 simp[hC]
 refine cH yAd (hfd) ?_
 simp[hC,qp,iu]
 apply aJ
 simp[hC,hdr,hfl,fk,hfp]
 refine e9 ?_
 simp
 apply T.seq
 refine T.rx ag follows [0,1,2,3,4,5,6,7,8] [(1,2),(1,5),(1,7),(2,4),(2,7),(4,7),(5,7)] yAb ?_
 simp[hC,fm1,bd0,aI]
 apply aJ
 simp[hC]
 apply T.block
 refine T.aL (JL1 p) (n:=p.gs.length) ?_ ?_
 ·have tk:List.take (p.ms.length*3) (p.ms.flatMap cq)=p.ms.flatMap cq:=List.take_of_length_le (by rw[fm1];exact Nat.le_refl _)
  refine aa.le (Le.trim [11,10,6,2,1] [10,12,1,0] 13 (by simp[-List.all_eq_true,-List.all_flatMap,aj (dp p.ms)]) yA) ?_
  simp
  refine aa.le (Le.cG (o:=12) rfl (dp p.ms)) ?_
  simp[tk]
  refine aa.le (Le.kz 10 0 3 1 rfl rfl) ?_
  simp
  refine aa.le (Le.norm [11,10,6,2,1] [(0,0),(1,1),(10,2),(13,3)] 0 4 yAl yAm yCb yA) ?_
  simp[dF,ca,bu,dU,gg,assoc]
  refine aa.here ⟨0,by omega,by omega,?_⟩
  simp[eH,o0,Gt]
 ·rintro n s ⟨i,rfl,hi,rfl⟩
  by_cases hil:i<p.gs.length
  ·obtain⟨y,hy⟩:∃ y,p.gs[i]? = some y:=⟨p.gs[i],List.getElem?_eq_getElem hil⟩
   have hdr:=aE (f:=pd) (n:=2) (fun _=>rfl) hy
   have hdr1:=cB (f:=pd) (n:=2) (fun _=>rfl) hy 1 yA
   have wi:=ct ((i:Int)+1) yA yA
   have htk:p.gs.take (i+1)=p.gs.take i++[y]:=by rw[List.take_add_one,hy];rfl
   have hml:((p.gs.take i).map (·.init)).length=i:=by simp;omega
   have bd1:(i+1)*8≤140737488355328:=by omega
   have tI:=aM ((p.gs.take i).map (·.init))
   generalize hG:(p.gs.take i).map (·.init)=G at hml tI
   simp only[eH,o0,Gt]
   apply aJ
   simp[hC,hil]
   refine iv ?_
   simp
   apply fq
   refine T.rx ag follows [0,1,2,3,4,5,6,7,8,9,10,11] [(1,8)] yAb ?_
   simp[hC,hil,hdr,pd,hml,bd1,aI]
   apply aO
   simp[hC,wi]
   refine⟨p.gs.length-(i+1),by omega,?_⟩
   have tN:trees (G.map I++[I y.init])=true:=by rw[aC,tI];rfl
   have hin:=aH tN
   have hrn:=fun ρ=>af ρ _ tN
   refine aa.le (Le.norm [11,10,6,2,1] [(0,0),(1,1),(2,2),(16,3)] 0 4 yAl yAm yBv yA) ?_
   simp[dF,ca,bu,dU,gg,assoc,hrn]
   refine aa.here ⟨i+1,rfl,by omega,?_⟩
   simp[eH,o0,Gt,htk,hG]
  ·have hie:i=p.gs.length:=by omega
   subst hie
   apply aJ
   simp[hC,eH]
   refine bj ?_
   simp
   apply T.exit
   simp
   have tI:=aM (p.gs.map (·.init))
   have tkI:List.take p.gs.length ((p.gs.map (·.init)).map I)=(p.gs.map (·.init)).map I:=List.take_of_length_le yAa
   have hints:ints (p.gs.map (·.init))=.av ((p.gs.map (·.init)).map I) p.gs.length:=by simp[ints]
   generalize hG:p.gs.map (·.init)=G at tI tkI hints
   simp only[o0,Gt]
   apply aJ
   simp[hC]
   apply T.block
   refine T.aL (JL2 p) (n:=p.fs.length) ?_ ?_
   ·refine aa.le (Le.trim [12,10,6,2,1] [0,1,2,3] 4 (by simp[-List.all_eq_true,-List.all_flatMap,aj tI]) yA) ?_
    simp
    refine aa.le (Le.cG (o:=3) rfl tI) ?_
    simp[tkI]
    refine aa.le (Le.kz 2 2 72 5 rfl rfl) ?_
    simp
    refine aa.le (Le.norm [12,10,6,2,1] [(0,0),(1,1),(2,2),(4,3)] 0 4 yAl yAm yCb yA) ?_
    simp[dF,ca,bu,dU,gg,assoc]
    refine aa.here ⟨0,by omega,by omega,?_⟩
    simp[eH,o0,zM,hG]
   ·rintro n s ⟨i,rfl,hi,rfl⟩
    by_cases hil:i<p.fs.length
    ·obtain⟨f,hf⟩:∃ f,p.fs[i]? = some f:=⟨p.fs[i],List.getElem?_eq_getElem hil⟩
     have hfm:=List.mem_of_getElem? hf
     have hfk:bG f.body≤1200:=by
      have h1:=BY (List.mem_map_of_mem (f:=fun f:Fu=>bG f.body) hfm)
      have h2:=h.wt
      omega
     have hfn:=Ap p h hB yA f hfm hfk (by have:=hpn f hfm;omega)
     have hdr:=aE (f:=fk) (n:=3) (fun _=>rfl) hf
     have wi:=ct ((i:Int)+1) yA yA
     have htk:p.fs.take (i+1)=p.fs.take i++[f]:=by rw[List.take_add_one,hf];rfl
     have hml:((p.fs.take i).map (ni p)).length=i:=by simp;omega
     have tP:=ai gN ((p.fs.take i).map (ni p))
     have fP:=aD (f:=oR) (n:=5) kJ ((p.fs.take i).map (ni p))
     rw[hml] at fP
     have bd1:(i+1)*64≤140737488355328:=by omega
     generalize hH:(p.fs.take i).map (ni p)=Hs at hml tP fP
     have hprx:oR (ni p f)=[.str (ni p f).name,I (ni p f).ints,I (ni p f).bf,I (ni p f).locals,.av ((ni p f).code.flatMap dv) (ni p f).code.length]:=rfl
     have tpr:=gN (ni p f)
     rw[hprx] at hfn tpr
     have tcd:=cc (ni p f).code
     simp only[eH,fk,wT] at hfn
     simp only[eH,o0,zM]
     apply aJ
     simp[hC,hil]
     refine iv ?_
     simp
     apply fq
     apply T.seq
     refine T.rx ag follows [0,1,2,3,4,5,6,13,7,8,9,10,11,12,14,15,16,17] [(0,13),(3,13),(6,13),(13,7)] yAb ?_
     simp[hC,hil,hdr,fk]
     have targ:trees [.agg [.av (p.gs.flatMap pd) p.gs.length,.av (p.ms.flatMap cq) p.ms.length,.av (p.fs.flatMap fk) p.fs.length],.av ((df p).flatMap iu) (df p).length,.agg [.str f.name,.av (f.params.flatMap ld) f.params.length,.av (bA f.body) f.body.length]]=true:=by
      simp only[trees,tree]
      rfl
     refine RX.call rfl rfl rfl rfl rfl targ hfn ?_
     simp
     apply aJ
     simp[hC]
     refine e9 ?_
     simp
     apply aO
     simp[hC,fP,bd1,aI]
     apply aO
     simp[hC,wi]
     refine⟨p.fs.length-(i+1),by omega,?_⟩
     have tN:trees (Hs.flatMap oR++[.str (ni p f).name,I (ni p f).ints,I (ni p f).bf,I (ni p f).locals,.av ((ni p f).code.flatMap dv) (ni p f).code.length])=true:=by rw[aC,tP,tpr];rfl
     have hin:=aH tN
     have hrn:=fun ρ=>af ρ _ tN
     have tI2:=aM (p.gs.map (·.init))
     refine aa.le (Le.norm [12,10,6,2,1] [(0,0),(1,1),(2,2),(23,3)] 0 4 yAl yAm yBv yA) ?_
     simp[dF,ca,bu,dU,gg,assoc,hrn]
     refine aa.here ⟨i+1,rfl,by omega,?_⟩
     simp[eH,o0,zM,htk,hH,hprx]
    ·have hie:i=p.fs.length:=by omega
     subst hie
     have tP:=ai gN (p.fs.map (ni p))
     have fP:=aD (f:=oR) (n:=5) kJ (p.fs.map (ni p))
     have hml:(p.fs.map (ni p)).length=p.fs.length:=by simp
     rw[hml] at fP
     have tkP:List.take (p.fs.length*5) ((p.fs.map (ni p)).flatMap oR)=(p.fs.map (ni p)).flatMap oR:=List.take_of_length_le yA
     have hun:fy (lI p)=[.av ((p.gs.map (·.init)).map I) p.gs.length,.av (p.ms.flatMap cq) p.ms.length,.av ((p.fs.map (ni p)).flatMap oR) p.fs.length,I 0]:=by simp[fy,lI,ints]
     simp only[eH,o0,zM,List.take_length]
     generalize hH:p.fs.map (ni p)=Hs at tP fP tkP hun
     apply aJ
     simp[hC]
     refine bj ?_
     simp
     apply T.exit
     simp
     apply au
     simp[hC]
     apply T.ret
     have tI2:=aM (p.gs.map (·.init))
     generalize hG:(p.gs.map (·.init)).map I=Gs at tI2 hun
     refine aa.le (Le.trim [5,4,3,2] [1,3] 4 (by simp[-List.all_eq_true,-List.all_flatMap,aj tP]) yA) ?_
     simp
     refine aa.le (Le.cG (o:=3) rfl tP) ?_
     simp[tkP]
     apply aa.here
     simp[cS,hun]
     rw[← hG,List.map_map]
end Go.Proofs.YtmnglemlimfpbaaGreat
namespace Go.aX
open Go.Can
deriving instance DecidableEq for Is
def jW (is:Is)(q:Pl):Nat:=if q.param=true then is.bf.getD q.index 0 else q.index
def Bi:In→Int
 | .set _ _ _=>1
 | .call g _ _ _=>if g=true then 3 else 2
 | .lock u _=>if u=true then 5 else 4
 | .branch _ _=>6
 | .jump _=>7
 | .ret=>8
def lz (is:Is):In→Option Is
 | .call _ t _ ps=>some ⟨t,ps.map (jW is)⟩
 | _=>none
def bX (u:Un)(is:Is):List In:=match u.ps[is.proc]? with
 | some q=>q.code
 | none=>[]
def rK (u:Un)(is:Is)(pc:Int):Option Is:=if pc<0 then none else match (bX u is)[pc.toNat]? with
 | some i=>lz is i
 | none=>none
def y0:Option Is→CV
 | some x=>.cr [.agg (fV x),.bool true]
 | none=>.cr [.agg [I 0,.av [] 0],.bool false]
theorem uX (i:In):∃ cs,dv i=I (Bi i)::cs∧cs.length=11:=by
 have h:∃ cs,dv i=I (Bi i)::cs:=by cases i<;>exact⟨_,rfl⟩
 obtain⟨cs,h⟩:=h
 have:=jI i
 rw[h] at this
 exact⟨cs,h,by simpa using this⟩
structure Bn (u:Un)(is:Is):Prop where
 q:∃ q,u.ps[is.proc]? = some q∧is.bf.length=q.bf
 m:∀ l∈is.bf,l<u.ms.length
theorem Gc {u:Un}{is:Is}{g k L:Nat}{q:Pl}(hm:∀ l∈is.bf,l<u.ms.length)(hL:is.bf.length=L)(h:vF u.ms g k L q):jW is q<u.ms.length:=by
 rcases h with ⟨h1,h2,_⟩ | ⟨h1,m,h2,_⟩
 ·simp only[jW,h1,if_true]
  rw[List.getD_eq_getElem?_getD,List.getElem?_eq_getElem yA]
  exact hm _ (List.getElem_mem yA)
 ·simp only[jW,h1,Bool.false_eq_true,if_false]
  exact (List.getElem?_eq_some_iff.1 h2).1
theorem Cj {u:Un}(hu:l9 u){is:Is}(hi:Bn u is){i:In}(hm:i∈bX u is){x:Is}(hx:lz is i=some x):Bn u x:=by
 obtain⟨⟨q,hq,hl⟩,hlm⟩:=hi
 simp only[bX,hq] at hm
 have hv:=(hu.pc q (List.mem_of_getElem? hq)).2 i hm
 cases i with
 | call g t is' ps=>
  simp only[lz,Option.some.injEq] at hx
  subst hx
  obtain⟨h1,_,h3⟩:=hv
  rw[List.getElem?_map,Option.map_eq_some_iff] at h1
  obtain⟨q',h4,h5⟩:=h1
  simp only[Prod.mk.injEq] at h5
  refine⟨⟨q',h4,?_⟩,fun l hl'=>?_⟩
  ·simp only[List.length_map];omega
  ·simp only[List.mem_map] at hl'
   obtain⟨pl,hpl,rfl⟩:=hl'
   exact Gc hlm hl (h3 pl hpl)
 | _=>simp[lz] at hx
def uV:In→Bool
 | .call g _ _ _=>g
 | _=>false
def cE (l:List Nat)(n:Nat):Nat:=(l.takeWhile (· < n)).length
def jY (l:List Nat)(n:Nat):List Nat:=if n∈l then l else l.take (cE l n)++n::l.drop (cE l n)
def fv (l:List Is)(x:Is):List Is:=if x∈l then l else l++[x]
def eF (l:List Is)(x:Is):Nat:=l.findIdx fun y=>decide (y=x)
def iW (is:Is):List In→List Is→List Nat→List Is×List Int×List Nat
 | [],l,r=>(l,[],r)
 | i::c,l,r=>match lz is i with
  | none=>((iW is c l r).1,-1::(iW is c l r).2.1,(iW is c l r).2.2)
  | some x=>((iW is c (fv l x) (if uV i=true then jY r (eF (fv l x) x) else r)).1,(eF (fv l x) x:Int)::(iW is c (fv l x) (if uV i=true then jY r (eF (fv l x) x) else r)).2.1,(iW is c (fv l x) (if uV i=true then jY r (eF (fv l x) x) else r)).2.2)
def oU (u:Un):Nat→Nat→List Is→List (List Int)→List Nat→Cl
 | 0,_,l,cs,r=>⟨l,cs,r⟩
 | f+1,i,l,cs,r=>match l[i]? with
  | none=>⟨l,cs,r⟩
  | some x=>oU u f (i+1) (iW x (bX u x) l r).1 (cs++[(iW x (bX u x) l r).2.1]) (iW x (bX u x) l r).2.2
def ch (u:Un):Cl:=oU u 100 0 [⟨u.main,[]⟩] [] [0]
end Go.aX
namespace Go.Proofs.YtmnglemlimfpbaaGreat
open Go.Can Go.aX
theorem aP (l:List Nat):trees (l.map fun n:Nat=>I n)=true:=aT l
theorem bW (l:List Nat):tree (aW l)=true:=by simp only[aW,tree]
theorem bP (x:Is):trees (fV x)=true:=by simp only[fV,trees,bW,Bool.and_true];rfl
theorem iY (x:Is):(fV x).length=2:=rfl
theorem j7 {l:List Nat}{i n:Nat}(h:l[i]? = some n):(l.map fun n:Nat=>I n).drop i=I n::(l.drop (i+1)).map fun n:Nat=>I n:=by
 obtain⟨hl,rfl⟩:=List.getElem?_eq_some_iff.1 h
 rw[← List.map_drop,List.drop_eq_getElem_cons hl,List.map_cons]
theorem wL (is:Is)(q:Pl)(h:q.param=true→q.index<is.bf.length):ae Tryz.prog 30 [.agg (fV is),.agg (gz q)] (I (jW is q)):=by
 refine ae.aB ag Tryz.func30 rfl yAb (by simp[Tryz.ntmps30]) rfl fun C hC hC0=>?_
 rw[Tryz.ntmps30] at hC
 simp only[fV,gz,aW,nL]
 apply au
 simp[hC]
 apply aJ
 simp[hC]
 cases hq:q.param with
 | true=>
  have hlt:=h hq
  obtain⟨n,hn⟩:∃ n,is.bf[q.index]? = some n:=⟨_,List.getElem?_eq_getElem hlt⟩
  have hdr:=j7 hn
  have hmu:jW is q=n:=by simp[jW,hq,List.getD_eq_getElem?_getD,hn]
  refine T.cond (b:=true) yAf ?_
  simp
  apply au
  simp[hC,hlt,hdr]
  apply T.ret
  apply aa.here
  simp[Tryz.results30,hmu]
 | false=>
  have hmu:jW is q=q.index:=by simp[jW,hq]
  refine T.cond (b:=false) yAf (T.skip ?_)
  simp
  apply au
  simp[hC]
  apply T.ret
  apply aa.here
  simp[Tryz.results30,hmu]
theorem GC (g:Bool)(t:Nat)(l:List Ex)(ps:List Pl):dv (.call g t l ps)=[I (if g=true then 3 else 2),I t,.bool false,I 0,I 0,.str eS,.av [] 0,.bool false,I 0,.av [] 0,.av (l.flatMap aZ) l.length,.av (ps.flatMap gz) ps.length]:=rfl
def fC (l:List Nat):Ob:=⟨3,1,l.map fun n:Nat=>I n⟩
def J27 (_u:Un)(is:Is)(cs:List CV)(cn:Nat)(pc:Int)(t:Nat)(ps:List Pl)(m:Nat)(s:St):Prop:=∃ i:Nat,m=ps.length-i∧i≤ps.length∧
 s=⟨[(10,I i),(9,.aw 3 0),(8,.av cs cn),(6,.aw 2 0),(4,.aw 1 0),(2,I pc)],[(1,⟨74,0,fV is⟩),(2,⟨74,0,[I 0,.ah]⟩),(3,⟨74,0,[I t,.bx 4 0 i]⟩),(4,fC ((ps.take i).map (jW is)))],5⟩
theorem bR (u:Un):trees (fy u)=true:=by
 simp only[fy,trees,ints,tree]
 simp
set_option maxHeartbeats 4000000 in
theorem BL (u:Un)(hu:l9 u)(is:Is)(hi:Bn u is)(pc:Int):ae Tryz.prog 27 [cS u,.agg (fV is),I pc] (y0 (rK u is pc)):=by
 obtain⟨⟨pq,hpq,hll⟩,hlm⟩:=id hi
 have hcode:bX u is=pq.code:=by simp only[bX,hpq]
 have hpl:=(List.getElem?_eq_some_iff.1 hpq).1
 have hdr:=cB (f:=oR) (n:=5) kJ hpq 4 yA
 have hlen:=(hu.pr pq (List.mem_of_getElem? hpq)).2.2.2.2
 have htr:tree (y0 (rK u is pc))=true:=by
  cases rK u is pc with
  | none=>rfl
  | some x=>simp only[y0,tree,trees,bP];rfl
 have tun:=bR u
 simp only[fy,ints] at tun
 refine ae.aB ag Tryz.func27 rfl yAb (by simp[Tryz.ntmps27]) htr fun C hC hC0=>?_
 rw[Tryz.ntmps27] at hC
 simp only[cS,fy,fV,ints]
 apply au
 simp[hC]
 apply au
 simp[hC,hpl,hdr,oR]
 have tco:=cc pq.code
 have tco:=cc pq.code
 by_cases h1:pc<0
 ·have hn:rK u is pc=none:=by simp[rK,h1]
  apply aJ
  simp[hC,h1]
  refine dN ?_
  simp
  apply au
  simp[hC]
  apply T.ret
  simp
  refine aa.le (Le.trim [6,7] [2] 3 yAa yA) ?_
  simp
  refine aa.le (Le.nz [] [2]) ?_
  apply aa.here
  simp[hn,y0]
 ·obtain⟨k,rfl⟩:∃ k:Nat,pc=k:=⟨pc.toNat,by omega⟩
  by_cases h2:k<pq.code.length
  ·obtain⟨x,hx⟩:∃ x,pq.code[k]? = some x:=⟨_,List.getElem?_eq_getElem h2⟩
   have hcal:rK u is k=lz is x:=by simp[rK,hcode,hx,h1]
   have hdc:=aE (f:=dv) (n:=12) jI hx
   obtain⟨xc,hxc,_⟩:=uX x
   rw[hxc] at hdc
   have hng:¬ ((pq.code.length:Int)≤(k:Int)):=by omega
   by_cases hop:∃ g t l ps,x=.call g t l ps
   ·obtain⟨g,t,l,ps,rfl⟩:=hop
    have hcal2:rK u is k=some ⟨t,ps.map (jW is)⟩:=by rw[hcal];rfl
    have hic:HI (u.ps.map fun q=>(q.ints,q.bf)) u.ms u.gs.length pq.locals pq.bf (pq.code.length-1) (.call g t l ps):=(hu.pc pq (List.mem_of_getElem? hpq)).2 _ (List.mem_of_getElem? hx)
    have hpv:=hic.2.2
    have hd1:=cB (f:=dv) (n:=12) jI hx 1 yA
    have hd11:=cB (f:=dv) (n:=12) jI hx 11 yA
    rw[GC] at hd1 hd11
    have ho2:((Bi (.call g t l ps) == 2) && (Bi (.call g t l ps) == 3))=false:=by cases g<;>rfl
    have hdc2:List.drop (k*12) (pq.code.flatMap dv)=I (if g=true then 3 else 2)::xc++(pq.code.drop (k+1)).flatMap dv:=by rw[hdc];cases g<;>rfl
    have hpsl:ps.length≤100:=by
     have h5:=hic.1
     rw[List.getElem?_map,Option.map_eq_some_iff] at h5
     obtain⟨q',h6,h7⟩:=h5
     simp only[Prod.mk.injEq] at h7
     have:=(hu.pr q' (List.mem_of_getElem? h6)).2.1
     omega
    rw[hcal2]
    simp only[y0]
    clear hdc
    generalize hgo:(if g=true then (3:Int) else 2)=op at hdc2
    have hop3:((op != 2) && (op != 3))=false:=by subst hgo;cases g<;>rfl
    have hbr:(op != 2)=false∨((op != 2)=true∧(op != 3)=false):=by subst hgo;cases g<;>simp
    refine T.cut (fun s=>s=⟨[(8,.av (pq.code.flatMap dv) pq.code.length),(6,.aw 2 0),(4,.aw 1 0),(2,I k)],[(2,⟨74,0,[I 0,.ah]⟩),(1,⟨74,0,fV is⟩)],3⟩) ?_ ?_
    ·rcases hbr with hb | ⟨hb,hb2⟩
     ·apply au
      simp[hC,hng,h1,h2,hdc2,hb]
      refine e9 ?_
      simp
      refine aa.trim [8,6,4,2] [2,1] 3 (by simp[-List.all_eq_true,-List.all_flatMap,a6 3 _ (bW is.bf)]) yA ?_
      simp[fV]
     ·apply au
      simp[hC,hng,h1,h2,hdc2,hb,hb2]
      refine e9 ?_
      simp
      refine aa.trim [8,6,4,2] [2,1] 3 (by simp[-List.all_eq_true,-List.all_flatMap,a6 3 _ (bW is.bf)]) yA ?_
      simp[fV]
    ·rintro s rfl
     simp only[fV]
     apply au
     simp[hC,h2,hd1]
     apply aJ
     simp[hC]
     apply T.block
     refine T.aL (J27 u is (pq.code.flatMap dv) pq.code.length k t ps) (n:=ps.length) ?_ ?_
     ·refine aa.le (Le.kz 3 1 3 1 rfl rfl) ?_
      simp
      refine aa.trim [10,9,8,6,4,2] [1,2,3,4] 5 (by simp[-List.all_eq_true,-List.all_flatMap,a6 5 _ (bW is.bf)]) yA ⟨0,by omega,by omega,?_⟩
      simp[fV,fC]
     ·rintro n s ⟨i,rfl,hi',rfl⟩
      by_cases hil:i<ps.length
      ·obtain⟨q,hq⟩:∃ q,ps[i]? = some q:=⟨ps[i],List.getElem?_eq_getElem hil⟩
       have hdq:=aE (f:=gz) (n:=3) kK hq
       have hqv:q.param=true→q.index<is.bf.length:=fun hp=>by
        rcases hpv q (List.mem_of_getElem? hq) with ⟨_,h8,_⟩ | ⟨h8,_⟩
        ·omega
        ·rw[hp] at h8;cases h8
       have hmx:=wL is q hqv
       have wi:=ct ((i:Int)+1) yA yA
       have htk:ps.take (i+1)=ps.take i++[q]:=by rw[List.take_add_one,hq];rfl
       have hml:((ps.take i).map (jW is)).length=i:=by simp;omega
       have tN:=aP ((ps.take i).map (jW is))
       have bd1:(i+1)*8≤140737488355328:=by omega
       obtain⟨q1,q2,q3,q4,hqc,tq⟩:=nI q
       rw[hqc] at hdq hmx
       generalize hG:(ps.take i).map (jW is)=G at hml tN
       simp only[fV,fC] at hmx ⊢
       apply aJ
       simp[hC,h2,hd11,hil]
       refine iv ?_
       simp
       apply fq
       refine T.rx ag follows [0,1,2,3,4,5,6,7,8,9,10,11,12,13,14,15] [(1,11),(1,12)] yAb ?_
       simp[hC,h2,hd11,hil,hdq]
       have targ:trees [.agg [I is.proc,aW is.bf],.agg [.bool q1,I q2,.av q3 q4]]=true:=by
        simp only[trees,tree,bW,Bool.and_true]
       refine RX.call rfl rfl rfl rfl rfl targ hmx ?_
       simp[hml,bd1,aI]
       apply aO
       simp[hC,wi]
       refine⟨ps.length-(i+1),by omega,?_⟩
       have tN2:trees ((G.map fun n:Nat=>I n)++[I (jW is q)])=true:=by rw[aC,tN];rfl
       have hin:=aH tN2
       have hrn:=fun ρ=>af ρ _ tN2
       have tnt:=bW is.bf
       simp only[aW,tree] at tnt
       simp only[aW]
       refine aa.le (Le.norm [10,9,8,6,4,2] [(1,1),(2,2),(3,3),(21,4)] 0 5 yAl yAm yBv yA) ?_
       simp[dF,ca,bu,dU,gg,assoc,hrn]
       refine aa.here ⟨i+1,rfl,by omega,?_⟩
       simp[fV,fC,htk,hG,aW]
      ·have hie:i=ps.length:=by omega
       subst hie
       rw[List.take_length]
       have tN:=aP (ps.map (jW is))
       have tkN:List.take ps.length ((ps.map (jW is)).map fun n:Nat=>I n)=(ps.map (jW is)).map fun n:Nat=>I n:=List.take_of_length_le yAa
       have hnt:aW (ps.map (jW is))=.av ((ps.map (jW is)).map fun n:Nat=>I n) ps.length:=by simp[aW]
       simp only[fV,fC]
       rw[hnt]
       generalize hG:((ps.map (jW is)).map fun n:Nat=>I n)=G at tN tkN
       apply aJ
       simp[hC,h2,hd11]
       refine bj ?_
       simp
       apply T.exit
       simp
       apply au
       simp[hC]
       apply T.ret
       refine aa.le (Le.trim [6,7] [2,4] 5 (by simp[-List.all_eq_true,-List.all_flatMap,aj tN]) yA) ?_
       simp
       refine aa.le (Le.cG (o:=4) rfl tN) ?_
       simp[tkN]
       apply aa.here
       simp
   ·have hn:rK u is k=none:=by
     rw[hcal]
     cases x with
     | call g t l ps=>exact (hop ⟨g,t,l,ps,rfl⟩).elim
     | _=>rfl
    have ho2:((Bi x != 2)=true)∧((Bi x != 3)=true):=by
     cases x with
     | call g t l ps=>exact (hop ⟨g,t,l,ps,rfl⟩).elim
     | lock u _=>cases u<;>exact⟨rfl,rfl⟩
     | _=>exact⟨rfl,rfl⟩
    apply aJ
    simp[hC,hng,h1,h2,hdc,ho2.1,ho2.2]
    refine dN ?_
    simp
    apply au
    simp[hC]
    apply T.ret
    simp
    refine aa.le (Le.trim [6,7] [2] 3 yAa yA) ?_
    simp
    refine aa.le (Le.nz [] [2]) ?_
    apply aa.here
    simp[hn,y0]
  ·have hn:rK u is k=none:=by simp[rK,hcode,List.getElem?_eq_none (Nat.le_of_not_lt h2)]
   have hng:(pq.code.length:Int)≤(k:Int):=by omega
   apply aJ
   simp[hC,hng,h1]
   refine dN ?_
   simp
   apply au
   simp[hC]
   apply T.ret
   simp
   refine aa.le (Le.trim [6,7] [2] 3 yAa yA) ?_
   simp
   refine aa.le (Le.nz [] [2]) ?_
   apply aa.here
   simp[hn,y0]
end Go.Proofs.YtmnglemlimfpbaaGreat
