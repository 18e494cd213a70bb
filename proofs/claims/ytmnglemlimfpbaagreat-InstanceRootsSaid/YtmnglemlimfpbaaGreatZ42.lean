/- function. | Lower. | Instances and their closure. No function of the program is mentioned here. | Mutex, Callee. -/
import Derived.Test.YtmnglemlimfpbaaGreatZ41
import Derived.Test.YtmnglemlimfpbaaGreatZ36
namespace Go.bg
open Go.Can
def Ib (i j:Nat)(q:Pm):En:=if q.mutex=true then ⟨q.name,5,j⟩ else ⟨q.name,4,i⟩
theorem r7:∀ (a:List Pm) (q:Pm) (i j:Nat),j8 i j (a++[q])=j8 i j a++[Ib (i+pI a) (j+pL a) q]
 | [],q,i,j=>by
  simp only[List.nil_append,j8,pI,pL,Nat.add_zero,Ib]
  split<;>rfl
 | p::r,q,i,j=>by
  simp only[List.cons_append,j8,pI,pL]
  split
  ·rw[r7 r q,List.cons_append]
   congr 3
   simp only[Ib]
   congr 2<;>omega
  ·rw[r7 r q,List.cons_append]
   congr 3
   simp only[Ib]
   congr 2<;>omega
theorem zu:∀ (a:List Pm) (q:Pm),pI (a++[q])=pI a+if q.mutex=true then 0 else 1
 | [],q=>by simp[pI]
 | p::r,q=>by simp only[List.cons_append,pI,zu r q];omega
theorem zt:∀ (a:List Pm) (q:Pm),pL (a++[q])=pL a+if q.mutex=true then 1 else 0
 | [],q=>by simp[pL]
 | p::r,q=>by simp only[List.cons_append,pL,zt r q];omega
theorem xJ:∀ (l:List Pm) (i j:Nat),(j8 i j l).length=l.length
 | [],_,_=>rfl
 | p::r,i,j=>by
  simp only[j8]
  split<;>simp[xJ r]
def lO (p:Pg)(f:Fu)(j:Nat):List En:=cT p++j8 0 0 (f.params.take j)
theorem Ce (p:Pg)(f:Fu)(j:Nat)(q:Pm)(h:f.params[j]? = some q):lO p f (j+1)=lO p f j++[Ib (pI (f.params.take j)) (pL (f.params.take j)) q]:=by
 have:f.params.take (j+1)=f.params.take j++[q]:=by rw[List.take_add_one,h];rfl
 simp only[lO,this,r7,Nat.zero_add,List.append_assoc]
theorem yi (p:Pg)(f:Fu)(j:Nat)(h:j≤f.params.length):(lO p f j).length=(cT p).length+j:=by
 simp only[lO,List.length_append,xJ,List.length_take];omega
theorem EA {p:Pg}(h:jJ p){f:Fu}(hf:f∈p.fs){j:Nat}{q:Pm}(hq:f.params[j]? = some q):ig (lO p f j) q.name=none:=by
 obtain⟨_,_,_,d4⟩:=h.dec
 obtain⟨_,_,a3,_⟩:=fZ
 obtain⟨_,_,_,s4⟩:=h.sub
 obtain⟨_,_,_,n4⟩:=h.nd
 have hm:=s4 f hf _ (List.mem_map_of_mem (f:=(·.name)) (List.mem_of_getElem? hq))
 have ha:=a3 _ hm
 rw[lO,di,d4 _ (by simp only[List.mem_append,not_or];exact⟨⟨ha.1,ha.2.1⟩,ha.2.2⟩)]
 simp only
 rw[oX,nN]
 obtain⟨hl,hx'⟩:=List.getElem?_eq_some_iff.1 hq
 have e:f.params=f.params.take j++q::f.params.drop (j+1):=by rw[← hx',← List.drop_eq_getElem_cons hl,List.take_append_drop]
 have h2:((f.params.take j++q::f.params.drop (j+1)).map (·.name)).Nodup:=by rw[← e];exact n4 f hf
 rw[List.map_append,List.map_cons,List.nodup_append] at h2
 exact fun hm=>h2.2.2 _ hm _ List.mem_cons_self rfl
end Go.bg
namespace Go.Proofs.YtmnglemlimfpbaaGreat
open Go.Can Go.bg
def uN:Ob:=⟨72,0,[.str ⟨#[]⟩,I 0,I 0,I 0,.ai]⟩
def uF (p:Pg)(n:Nat):Ob:=⟨196,0,[.ax (p.gs.flatMap ny) p.gs.length,.ax (p.ms.flatMap js) p.ms.length,.ax (p.fs.flatMap eP) p.fs.length,.bw 3 0 n,I 0,I 0,I 0,I 0,.ai,.ai]⟩
def J60 (p:Pg)(f:Fu)(m:Nat)(s:St):Prop:=∃ j:Nat,m=f.params.length-j∧j≤f.params.length∧
 s=⟨[(12,I j),(11,.aq 4 0),(10,.aq 2 0),(6,.aq 1 0),(5,.aq 0 0)],
  [(0,⟨137,0,eP f⟩),(1,uN),(2,uF p (lO p f j).length),(3,gO (lO p f j)),(4,⟨72,0,[.str f.name,I (pI (f.params.take j)),I (pL (f.params.take j)),I 0,.ai]⟩)],5⟩
theorem Jb (q:Pm):trees (jL q)=true:=rfl
set_option maxHeartbeats 4000000 in
theorem yh (p:Pg)(h:jJ p)(hB:PgB p)(hdl:(cT p).length≤3000)(f:Fu)(hf:f∈p.fs)(hw:bz f.body≤1200)(hpl:f.params.length≤100) :
  ah Tryz.prog 60 [qX p,.ax ((cT p).flatMap gJ) (cT p).length,.agg (eP f)] (.df [.agg (kX (lT p f)),.ax ((gU f.body 0++[eR f.body]).map fun n:Nat=>I n) (gU f.body 0++[eR f.body]).length,I 0,I 0]):=by
 obtain⟨t1,t2,t3⟩:=iq p
 have tE:=bY (cT p)
 have f0:=bu (f:=gJ) (n:=3) jR (cT p)
 have bd0:(cT p).length*32≤140737488355328:=by omega
 refine ah.bl aa Tryz.func60 rfl (by kernel_rfl) (by simp[Tryz.ntmps60]) rfl fun C hC hC0=>?_
 rw[Tryz.ntmps60] at hC
 simp only[qX,dq,eP]
 refine T.seq (T.go' aa ?_)
 simp[hC]
 refine T.seq ?_
 refine T.rx aa follows [0,1,2,3,4,5,6] [(0,1),(0,3)] (by kernel_rfl) ?_
 simp[hC,f0,bd0,aX]
 refine T.seq (T.go' aa ?_)
 simp[hC]
 refine T.seq (T.seq (T.go' aa ?_))
 simp[hC]
 refine T.block ?_
 refine T.aS (J60 p f) (n:=f.params.length) ?_ ?_
 ·refine ae.le (Le.norm [12,11,10,6,5] [(1,0),(2,1),(8,2),(10,3),(11,4)] 0 5 (by first | rfl | decide) (by simp[assoc]) (by simp[ca,lN,ky,tree,assoc,-List.all_eq_true,-List.all_flatMap,aA tE]) (by omega)) ?_
  simp[cW,bD,bJ,dr,fx,assoc,az _ _ tE]
  refine ae.here ⟨0,by omega,by omega,?_⟩
  simp[eP,uN,uF,gO,lO,j8,pI,pL]
 ·rintro n s ⟨j,rfl,hj,rfl⟩
  by_cases hil:j<f.params.length
  ·obtain⟨q,hq⟩:∃ q,f.params[j]? = some q:=⟨f.params[j],List.getElem?_eq_getElem hil⟩
   have hEl:=yi p f j hj
   have hfd:=yk (lO p f j) q.name (by omega)
   rw[EA h hf hq] at hfd
   have hdr:=aV (f:=jL) (n:=2) (fun _=>rfl) hq
   have hdr1:=bG (f:=jL) (n:=2) (fun _=>rfl) hq 1 (by omega)
   have wi:=db ((j:Int)+1) (by omega) (by omega)
   have hpi:=pIL (f.params.take j)
   rw[List.length_take] at hpi
   have hpi2:pI (f.params.take j)+pL (f.params.take j)≤100:=by omega
   have htk:f.params.take (j+1)=f.params.take j++[q]:=by rw[List.take_add_one,hq];rfl
   have hnx:=Ce p f j q hq
   have f1:=bu (f:=gJ) (n:=3) jR (lO p f j)
   have bd1:((lO p f j).length+1)*32≤140737488355328:=by omega
   have tEj:=bY (lO p f j)
   simp only[eP,uF,uN]
   refine T.seq (T.seq (T.go' aa ?_))
   simp[hC,hil]
   refine T.cond (b:=true) rfl (T.skip ?_)
   simp
   refine T.seq (T.block ?_)
   refine T.seq (T.seq ?_)
   refine T.rx aa follows [0,1,2,3,4,5,6,7,8,9,14,10,11,12,13,15,16] [(3,14),(5,14),(9,14),(14,10)] (by kernel_rfl) ?_
   simp[hC,hil,hdr,jL]
   refine RX.iF 0 3 [3] [] 1 (hfd) rfl (by simp) rfl rfl rfl (by simp) (by omega) (by simp) (by simp) rfl (by simp) (by first | rfl | exact ag _ | exact ak _) rfl (by simp) (by simp) (by simp) rfl (by simp) ?_
   simp[o0]
   refine T.seq (T.go' aa ?_)
   simp[hC]
   refine T.cond (b:=false) rfl (T.skip ?_)
   simp
   refine T.seq (T.go' aa ?_)
   simp[hC,hil,hdr1,jL]
   cases hm:q.mutex with
   | true=>
    have wl:=db ((pL (f.params.take j):Int)+1) (by omega) (by omega)
    refine T.cond (b:=true) (by simp[ev,assoc]) ?_
    simp
    refine T.seq ?_
    refine T.rx aa follows [0,1,2,3,4,5,6,7,8,9,10,11,12,13,14,15,16,17,18] [(4,14)] (by kernel_rfl) ?_
    simp[hC,hil,hdr,jL,gO,f1,bd1,aX]
    refine T.go' aa ?_
    simp[hC,wl]
    refine T.go' aa ?_
    simp[hC,wi]
    refine⟨f.params.length-(j+1),by omega,?_⟩
    have tN:trees ((lO p f j).flatMap gJ++[.str q.name,I 5,I (pL (f.params.take j))])=true:=by rw[bh,bY];rfl
    have hin:=aA tN
    have hrn:=fun ρ=>az ρ _ tN
    refine ae.le (Le.norm [12,11,10,6,5] [(0,0),(1,1),(2,2),(41,3),(4,4)] 0 5 (by first | rfl | decide) (by simp[assoc]) (by simp[ca,lN,ky,tree,assoc,-List.all_eq_true,-List.all_flatMap,hin]) (by omega)) ?_
    simp[cW,bD,bJ,dr,fx,assoc,hrn]
    refine ae.here ⟨j+1,rfl,by omega,?_⟩
    simp[eP,uN,uF,gO,hnx,htk,Ib,hm,gJ,zu,zt]
   | false=>
    have wl:=db ((pI (f.params.take j):Int)+1) (by omega) (by omega)
    refine T.cond (b:=false) (by simp[ev,assoc]) ?_
    simp
    refine T.seq ?_
    refine T.rx aa follows [0,1,2,3,4,5,6,7,8,9,10,11,12,13,14,15,16,17,18] [(4,14)] (by kernel_rfl) ?_
    simp[hC,hil,hdr,jL,gO,f1,bd1,aX]
    refine T.go' aa ?_
    simp[hC,wl]
    refine T.go' aa ?_
    simp[hC,wi]
    refine⟨f.params.length-(j+1),by omega,?_⟩
    have tN:trees ((lO p f j).flatMap gJ++[.str q.name,I 4,I (pI (f.params.take j))])=true:=by rw[bh,bY];rfl
    have hin:=aA tN
    have hrn:=fun ρ=>az ρ _ tN
    refine ae.le (Le.norm [12,11,10,6,5] [(0,0),(1,1),(2,2),(41,3),(4,4)] 0 5 (by first | rfl | decide) (by simp[assoc]) (by simp[ca,lN,ky,tree,assoc,-List.all_eq_true,-List.all_flatMap,hin]) (by omega)) ?_
    simp[cW,bD,bJ,dr,fx,assoc,hrn]
    refine ae.here ⟨j+1,rfl,by omega,?_⟩
    simp[eP,uN,uF,gO,hnx,htk,Ib,hm,gJ,zu,zt]
  ·have hje:j=f.params.length:=by omega
   subst hje
   have hEl:=yi p f f.params.length (Nat.le_refl _)
   have hfe:lO p f f.params.length=pE p f:=by simp only[lO,pE,List.take_length]
   rw[hfe] at hEl
   simp only[eP,uF,uN,List.take_length,hfe]
   have hEW:=h.ew hf
   have hbl:=Fa hB 2 f.body _ (pE p f) (pI f.params) 0 [] [] hEW (h.bd f hf) (by omega) (by have:=pIL f.params;omega) (by simp;omega) (by simp;omega) (by omega)
   have tEj:=bY (pE p f)
   have tk:List.take ((pE p f).length*3) ((pE p f).flatMap gJ)=(pE p f).flatMap gJ:=List.take_of_length_le (by rw[bu (f:=gJ) (n:=3) jR];omega)
   have hil:¬ f.params.length<f.params.length:=by omega
   refine T.seq (T.seq (T.go' aa ?_))
   simp[hC]
   refine T.cond (b:=false) rfl ?_
   simp
   refine T.exit ?_
   simp
   refine T.seq (T.go' aa ?_)
   simp[hC]
   refine T.le (Le.eM (o:=3) rfl tEj) ?_
   simp[gO,tk]
   refine T.le (Le.lK 2 8 69 12 rfl rfl) ?_
   simp
   refine T.le (Le.lK 2 9 3 1 rfl rfl) ?_
   simp
   refine T.le (Le.norm [11,10,6,5] [(2,0),(5,3),(6,4),(0,5),(1,6),(4,7)] 0 8 (by first | rfl | decide) (by simp[assoc]) (by simp[ca,lN,ky,tree,assoc,-List.all_eq_true,-List.all_flatMap]) (by omega)) ?_
   simp[cW,bD,bJ,dr,fx,assoc]
   simp only[CM,List.length_nil,Nat.zero_add,List.nil_append] at hbl
   have hlen:=qT.2 f.body (pE p f) (pI f.params) 0 0
   obtain⟨v1,v2,v3,v4⟩:=xz.2 f.body 2 _ _ _ 0 hEW (h.bd f hf)
   have v5:=vB.2 f.body
   have hpr:lT p f=⟨f.name,pI f.params,pL f.params,(bI f.body (pE p f) (pI f.params) 0).2,(bI f.body (pE p f) (pI f.params) 0).1++[.ret]⟩:=rfl
   generalize bI f.body (pE p f) (pI f.params) 0=S at hbl hlen v1 v2 v3 v4 hpr
   obtain⟨S1,S2⟩:=S
   generalize hS3:gU f.body 0=S3 at hbl hlen
   generalize hN:eR f.body=NN at hbl v4 v5
   simp only at hbl hlen v1 v3 v4 hpr
   have tb:=bk f.body
   refine T.seq (T.go' aa ?_)
   simp[hC]
   refine TL.gG hbl rfl rfl (aP _) (aU _) (by omega) rfl (by simp[hC]) rfl rfl rfl (by simp only[List.all_cons,List.all_nil,okW,tree];rfl) rfl (TL.go' aa ?_)
   simp
   have tS1:=aP S1
   have tS3:=aU S3
   refine T.le (Le.norm [11,10,6,5] [(0,0),(8,3),(9,4),(5,5),(6,6),(7,7)] 0 8 (by first | rfl | decide) (by simp[assoc]) (by simp[ca,lN,ky,tree,assoc,-List.all_eq_true,-List.all_flatMap,fw,eN,fA,aA tS1,aA tS3]) (by omega)) ?_
   simp[cW,bD,bJ,dr,fx,assoc,fw,eN,fA,az _ _ tS1,az _ _ tS3]
   refine T.seq (T.go' aa ?_)
   simp[hC]
   refine TL.gG (H8 p (pE p f) S2 NN S1 S3 S1.length S3.length rfl rfl [I 8,I 0,.bool false,I 0,I 0,.str eS,.ai,.bool false,I 0,.ai,.ai,.ai] rfl rfl NN (by omega) (by omega)) (aP _) (aU _) (bL _ rfl) (aU _) (by omega) rfl (by simp[hC]) rfl rfl rfl rfl rfl (TL.go' aa ?_)
   simp
   have tS4:trees (S1.flatMap dt++[I 8,I 0,.bool false,I 0,I 0,.str eS,.ai,.bool false,I 0,.ai,.ai,.ai])=true:=by rw[bh,tS1];rfl
   refine T.le (Le.nz [] [8]) ?_
   simp[J3,oQ]
   refine T.seq ?_
   refine T.rx aa follows [0,1,2,3,4,5,6,7,8,9,10,11] [(7,9)] (by kernel_rfl) ?_
   simp[hC,fw]
   refine T.seq ?_
   refine T.rx aa follows [0,1,2,3,4,5,6,7,8,9,10,11,12,13,14,15,16] [(4,13),(8,13),(12,13)] (by kernel_rfl) ?_
   simp[hC]
   refine T.ret ?_
   have hinr:dt In.ret=[I 8,I 0,.bool false,I 0,I 0,.str eS,.ax [] 0,.bool false,I 0,.ax [] 0,.ax [] 0,.ax [] 0]:=by simp[dt,bB,qp]
   have hco:S1.flatMap dt++[I 8,I 0,.bool false,I 0,I 0,.str eS,.ax [] 0,.bool false,I 0,.ax [] 0,.ax [] 0,.ax [] 0]=(S1++[In.ret]).flatMap dt:=by simp[hinr]
   have tS5:=aP (S1++[In.ret])
   have tS6:=aU (S3++[NN])
   have tk5:List.take ((S1.length+1)*12) ((S1++[In.ret]).flatMap dt)=(S1++[In.ret]).flatMap dt:=List.take_of_length_le (by rw[wG];simp)
   have tk6:List.take (S3.length+1) ((S3++[NN]).map fun n:Nat=>I n)=(S3++[NN]).map fun n:Nat=>I n:=List.take_of_length_le (by simp)
   simp only[hco]
   generalize hX:(S1++[In.ret]).flatMap dt=X at tS5 tk5
   generalize hY:((S3++[NN]).map fun n:Nat=>I n)=Y at tS6 tk6
   refine ae.le (Le.trim [6,7,8,9] [6,8,9] 10 (by simp[fA,hY,-List.all_eq_true,-List.all_flatMap,af tS5,af tS6]) (by omega)) ?_
   simp[fA,hY]
   refine ae.le (Le.eM (o:=8) rfl tS5) ?_
   simp[tk5,cw tS6]
   refine ae.le (Le.eM (o:=9) rfl tS6) ?_
   simp[tk6]
   refine ae.here ?_
   simp only[hpr,kX]
   simp
   exact⟨by rw[← hX];simp,by rw[← hY];simp⟩
end Go.Proofs.YtmnglemlimfpbaaGreat
namespace Go.bg
open Go.Can
theorem jJ.main {p:Pg}(h:jJ p):∃ f r,p.fs=f::r∧f.params=[]∧ig (cT p) f.name=some ⟨f.name,3,0⟩∧nF.head? = some f.name:=by
 obtain⟨a1,a2,_,_⟩:=fZ
 obtain⟨s1,s2,s3,_⟩:=h.sub
 obtain⟨d1,d2,d3,_⟩:=h.nd
 obtain⟨k,hk,_,he⟩:=h.fn
 cases hfs:p.fs with
 | nil=>
  rw[hfs] at he
  have:=congrArg List.length he
  simp[nF] at this
  omega
 | cons f r=>
  refine⟨f,r,rfl,h.f0 f (by rw[hfs];rfl),?_,?_⟩
  ·have hm:f.name∈nF:=s3 _ (by rw[hfs];simp)
   have h0:(p.fs.map (·.name))[0]? = some f.name:=by rw[hfs];rfl
   rw[cT,di,di,dR (fun hx=>(a2 _ hm).1 (s1 _ hx)),dR (fun hx=>(a2 _ hm).2 (s2 _ hx))]
   simp only
   rw[oY h0 d3]
  ·rw[hfs] at he
   obtain⟨k,rfl⟩:∃ k',k=k' + 1:=⟨k-1,by omega⟩
   simp only[nF,List.map_cons,List.take_succ_cons,List.cons.injEq] at he
   rw[he.1]
   rfl
end Go.bg
namespace Go.Proofs.YtmnglemlimfpbaaGreat
open Go.Can Go.bg
theorem mJ (x:Pr):trees (kX x)=true:=by simp only[kX,trees,tree,Bool.and_true]
theorem eU (x:Pr):(kX x).length=5:=rfl
def xH (l:List Pr):Ob:=⟨72,5,l.flatMap kX⟩
def D7 (l:List Int):Ob:=⟨3,1,l.map I⟩
theorem ef (l:List Int):trees (l.map I)=true:=by
 induction l with
 | nil=>rfl
 | cons a r ih=>rw[List.map_cons,trees,ih];rfl
theorem zG:∀ {l:List Nat} {x:Nat},x∈l→x≤l.sum
 | a::r,x,h=>by
  rw[List.sum_cons]
  rcases List.mem_cons.1 h with rfl | h
  ·omega
  ·have:=zG h;omega
def nq:Ob:=⟨30,0,[.ai,.ai,.ai,I 0]⟩
def JL1 (p:Pg)(m:Nat)(s:St):Prop:=∃ i:Nat,m=p.gs.length-i∧i≤p.gs.length∧
 s=⟨[(11,I i),(10,.aq 2 0),(6,.ax ((cT p).flatMap gJ) (cT p).length),(2,.aq 1 0),(1,.aq 0 0)],
  [(0,⟨27,0,dq p⟩),(1,nq),(2,⟨30,0,[.bw 3 0 i,.ax (p.ms.flatMap js) p.ms.length,.ai,I 0]⟩),(3,D7 ((p.gs.take i).map (·.init)))],4⟩
def JL2 (p:Pg)(m:Nat)(s:St):Prop:=∃ i:Nat,m=p.fs.length-i∧i≤p.fs.length∧
 s=⟨[(12,I i),(10,.aq 2 0),(6,.ax ((cT p).flatMap gJ) (cT p).length),(2,.aq 1 0),(1,.aq 0 0)],
  [(0,⟨27,0,dq p⟩),(1,nq),(2,⟨30,0,[.ax ((p.gs.map (·.init)).map I) p.gs.length,.ax (p.ms.flatMap js) p.ms.length,.bw 3 0 i,I 0]⟩),(3,xH ((p.fs.take i).map (lT p)))],4⟩
set_option maxHeartbeats 4000000 in
theorem D3 (p:Pg)(h:jJ p):ah Tryz.prog 35 [qX p] (.df [gq (iT p),I 0,I 0,I 0]):=by
 obtain⟨k1,hk1,e1⟩:=h.gn
 obtain⟨k2,_,hk2,e2⟩:=h.mn
 obtain⟨k3,_,hk3,e3⟩:=h.fn
 have l1:=congrArg List.length e1
 have l2:=congrArg List.length e2
 have l3:=congrArg List.length e3
 simp[nG] at l1
 simp[nM] at l2
 simp[nF] at l3
 have hpn:∀ f∈p.fs,f.params.length≤2:=fun f hf=>by
  obtain⟨k,hk,e⟩:=h.pn f hf
  have h5:=congrArg List.length e
  simp only[List.length_map,List.length_reverse,List.length_take,nP,List.length_cons,List.length_nil] at h5
  omega
 have hB:PgB p:=⟨by omega,by omega,fun f hf=>by have:=hpn f hf;omega⟩
 have hdl:=yw p
 have hval:=C0 p h
 have hdec:=yv p h (by omega) (by omega) (by omega)
 obtain⟨fm,fr,hfs,hfp,hfm,hfn⟩:=h.main
 have hfd:=pa (cT p) fm.name (by omega)
 rw[hfm] at hfd
 have hname:fm.name=⟨#[109,97,105,110]⟩:=by
  simp only[nF,List.head?_cons,Option.some.injEq] at hfn
  rw[← hfn]
 obtain⟨t1,t2,t3⟩:=iq p
 have tE:=bY (cT p)
 have fm1:=bu (f:=js) (n:=3) (fun _=>rfl) p.ms
 have bd0:p.ms.length*32≤140737488355328:=by omega
 have hf0:p.fs[0]? = some fm:=by rw[hfs];rfl
 have hdr:=bG (f:=eP) (n:=3) (fun _=>rfl) hf0 1 (by omega)
 have hfl:0<p.fs.length:=by rw[hfs];simp
 refine ah.bl aa Tryz.func35 rfl (by kernel_rfl) (by simp[Tryz.ntmps35]) rfl fun C hC hC0=>?_
 rw[Tryz.ntmps35] at hC
 simp only[qX,dq] at hval hdec ⊢
 refine T.seq (T.go' aa ?_)
 simp[hC]
 refine T.seq (T.seq (T.go' aa ?_))
 simp[hC]
 refine TL.call (by simp[hC]) rfl rfl (aI.of rfl (by first | rfl | simp only[List.cons_append,List.nil_append,List.append_nil,trees,tree,ag,ak,Bool.and_self,Bool.and_true,Bool.true_and]) (hval)) (TL.go' aa ?_)
 simp[hC]
 refine T.cond (b:=false) rfl (T.skip ?_)
 simp
 refine T.seq (T.go' aa ?_)
 simp[hC]
 refine TL.call (by simp[hC]) rfl rfl (aI.of rfl (by first | rfl | simp only[List.cons_append,List.nil_append,List.append_nil,trees,tree,ag,ak,Bool.and_self,Bool.and_true,Bool.true_and]) (hdec)) (TL.go' aa ?_)
 simp[hC]
 refine T.seq (T.seq (T.go' aa ?_))
 simp[hC]
 refine T.cond (b:=false) rfl (T.skip ?_)
 simp
 rw[hname] at hfd
 refine T.seq (T.go' aa ?_)
 simp[hC]
 refine TL.call (by simp[hC]) rfl rfl (aI.of rfl (by first | rfl | simp only[List.cons_append,List.nil_append,List.append_nil,trees,tree,ag,ak,Bool.and_self,Bool.and_true,Bool.true_and]) (hfd)) (TL.go' aa ?_)
 simp[hC,o0,gJ]
 refine T.seq (T.seq (T.go' aa ?_))
 simp[hC,hdr,hfl,eP,hfp]
 refine T.cond (b:=false) rfl (T.skip ?_)
 simp
 refine T.seq ?_
 refine T.rx aa follows [0,1,2,3,4,5,6,7,8] [(1,2),(1,5),(1,7),(2,4),(2,7),(4,7),(5,7)] (by kernel_rfl) ?_
 simp[hC,fm1,bd0,aX]
 refine T.seq (T.seq (T.go' aa ?_))
 simp[hC]
 refine T.block ?_
 refine T.aS (JL1 p) (n:=p.gs.length) ?_ ?_
 ·have tk:List.take (p.ms.length*3) (p.ms.flatMap js)=p.ms.flatMap js:=List.take_of_length_le (by rw[fm1];exact Nat.le_refl _)
  refine ae.le (Le.trim [11,10,6,2,1] [10,12,1,0] 13 (by simp[-List.all_eq_true,-List.all_flatMap,af (eJ p.ms)]) (by omega)) ?_
  simp
  refine ae.le (Le.eM (o:=12) rfl (eJ p.ms)) ?_
  simp[tk]
  refine ae.le (Le.lK 10 0 3 1 rfl rfl) ?_
  simp
  refine ae.le (Le.norm [11,10,6,2,1] [(0,0),(1,1),(10,2),(13,3)] 0 4 (by first | rfl | decide) (by simp[assoc]) (by simp[ca,lN,ky,tree,assoc,-List.all_eq_true,-List.all_flatMap]) (by omega)) ?_
  simp[cW,bD,bJ,dr,fx,assoc]
  refine ae.here ⟨0,by omega,by omega,?_⟩
  simp[dq,nq,D7]
 ·rintro n s ⟨i,rfl,hi,rfl⟩
  by_cases hil:i<p.gs.length
  ·obtain⟨y,hy⟩:∃ y,p.gs[i]? = some y:=⟨p.gs[i],List.getElem?_eq_getElem hil⟩
   have hdr:=aV (f:=ny) (n:=2) (fun _=>rfl) hy
   have hdr1:=bG (f:=ny) (n:=2) (fun _=>rfl) hy 1 (by omega)
   have wi:=db ((i:Int)+1) (by omega) (by omega)
   have htk:p.gs.take (i+1)=p.gs.take i++[y]:=by rw[List.take_add_one,hy];rfl
   have hml:((p.gs.take i).map (·.init)).length=i:=by simp;omega
   have bd1:(i+1)*8≤140737488355328:=by omega
   have tI:=ef ((p.gs.take i).map (·.init))
   generalize hG:(p.gs.take i).map (·.init)=G at hml tI
   simp only[dq,nq,D7]
   refine T.seq (T.seq (T.go' aa ?_))
   simp[hC,hil]
   refine T.cond (b:=true) rfl (T.skip ?_)
   simp
   refine T.seq (T.block ?_)
   refine T.rx aa follows [0,1,2,3,4,5,6,7,8,9,10,11] [(1,8)] (by kernel_rfl) ?_
   simp[hC,hil,hdr,ny,hml,bd1,aX]
   refine T.go' aa ?_
   simp[hC,wi]
   refine⟨p.gs.length-(i+1),by omega,?_⟩
   have tN:trees (G.map I++[I y.init])=true:=by rw[bh,tI];rfl
   have hin:=aA tN
   have hrn:=fun ρ=>az ρ _ tN
   refine ae.le (Le.norm [11,10,6,2,1] [(0,0),(1,1),(2,2),(16,3)] 0 4 (by first | rfl | decide) (by simp[assoc]) (by simp[ca,lN,ky,tree,assoc,-List.all_eq_true,-List.all_flatMap,hin]) (by omega)) ?_
   simp[cW,bD,bJ,dr,fx,assoc,hrn]
   refine ae.here ⟨i+1,rfl,by omega,?_⟩
   simp[dq,nq,D7,htk,hG]
  ·have hie:i=p.gs.length:=by omega
   subst hie
   refine T.seq (T.seq (T.go' aa ?_))
   simp[hC,dq]
   refine T.cond (b:=false) rfl ?_
   simp
   refine T.exit ?_
   simp
   have tI:=ef (p.gs.map (·.init))
   have tkI:List.take p.gs.length ((p.gs.map (·.init)).map I)=(p.gs.map (·.init)).map I:=List.take_of_length_le (by simp)
   have hints:ints (p.gs.map (·.init))=.ax ((p.gs.map (·.init)).map I) p.gs.length:=by simp[ints]
   generalize hG:p.gs.map (·.init)=G at tI tkI hints
   simp only[nq,D7]
   refine T.seq (T.seq (T.go' aa ?_))
   simp[hC]
   refine T.block ?_
   refine T.aS (JL2 p) (n:=p.fs.length) ?_ ?_
   ·refine ae.le (Le.trim [12,10,6,2,1] [0,1,2,3] 4 (by simp[-List.all_eq_true,-List.all_flatMap,af tI]) (by omega)) ?_
    simp
    refine ae.le (Le.eM (o:=3) rfl tI) ?_
    simp[tkI]
    refine ae.le (Le.lK 2 2 72 5 rfl rfl) ?_
    simp
    refine ae.le (Le.norm [12,10,6,2,1] [(0,0),(1,1),(2,2),(4,3)] 0 4 (by first | rfl | decide) (by simp[assoc]) (by simp[ca,lN,ky,tree,assoc,-List.all_eq_true,-List.all_flatMap]) (by omega)) ?_
    simp[cW,bD,bJ,dr,fx,assoc]
    refine ae.here ⟨0,by omega,by omega,?_⟩
    simp[dq,nq,xH,hG]
   ·rintro n s ⟨i,rfl,hi,rfl⟩
    by_cases hil:i<p.fs.length
    ·obtain⟨f,hf⟩:∃ f,p.fs[i]? = some f:=⟨p.fs[i],List.getElem?_eq_getElem hil⟩
     have hfm:=List.mem_of_getElem? hf
     have hfk:bz f.body≤1200:=by
      have h1:=zG (List.mem_map_of_mem (f:=fun f:Fu=>bz f.body) hfm)
      have h2:=h.wt
      omega
     have hfn:=yh p h hB (by omega) f hfm hfk (by have:=hpn f hfm;omega)
     have hdr:=aV (f:=eP) (n:=3) (fun _=>rfl) hf
     have wi:=db ((i:Int)+1) (by omega) (by omega)
     have htk:p.fs.take (i+1)=p.fs.take i++[f]:=by rw[List.take_add_one,hf];rfl
     have hml:((p.fs.take i).map (lT p)).length=i:=by simp;omega
     have tP:=ay mJ ((p.fs.take i).map (lT p))
     have fP:=bu (f:=kX) (n:=5) eU ((p.fs.take i).map (lT p))
     rw[hml] at fP
     have bd1:(i+1)*64≤140737488355328:=by omega
     generalize hH:(p.fs.take i).map (lT p)=Hs at hml tP fP
     have hprx:kX (lT p f)=[.str (lT p f).name,I (lT p f).ints,I (lT p f).aE,I (lT p f).locals,.ax ((lT p f).code.flatMap dt) (lT p f).code.length]:=rfl
     have tpr:=mJ (lT p f)
     rw[hprx] at hfn tpr
     have tcd:=aP (lT p f).code
     simp only[dq,eP,qX] at hfn
     simp only[dq,nq,xH]
     refine T.seq (T.seq (T.go' aa ?_))
     simp[hC,hil]
     refine T.cond (b:=true) rfl (T.skip ?_)
     simp
     refine T.seq (T.block ?_)
     refine T.seq ?_
     refine T.rx aa follows [0,1,2,3,4,5,6,13,7,8,9,10,11,12,14,15,16,17] [(0,13),(3,13),(6,13),(13,7)] (by kernel_rfl) ?_
     simp[hC,hil,hdr,eP]
     have targ:trees [.agg [.ax (p.gs.flatMap ny) p.gs.length,.ax (p.ms.flatMap js) p.ms.length,.ax (p.fs.flatMap eP) p.fs.length],.ax ((cT p).flatMap gJ) (cT p).length,.agg [.str f.name,.ax (f.params.flatMap jL) f.params.length,.ax (bt f.body) f.body.length]]=true:=by
      simp only[trees,tree]
      rfl
     refine RX.call rfl rfl rfl rfl rfl targ hfn ?_
     simp
     refine T.seq (T.seq (T.go' aa ?_))
     simp[hC]
     refine T.cond (b:=false) rfl (T.skip ?_)
     simp
     refine T.go' aa ?_
     simp[hC,fP,bd1,aX]
     refine T.go' aa ?_
     simp[hC,wi]
     refine⟨p.fs.length-(i+1),by omega,?_⟩
     have tN:trees (Hs.flatMap kX++[.str (lT p f).name,I (lT p f).ints,I (lT p f).aE,I (lT p f).locals,.ax ((lT p f).code.flatMap dt) (lT p f).code.length])=true:=by rw[bh,tP,tpr];rfl
     have hin:=aA tN
     have hrn:=fun ρ=>az ρ _ tN
     have tI2:=ef (p.gs.map (·.init))
     refine ae.le (Le.norm [12,10,6,2,1] [(0,0),(1,1),(2,2),(23,3)] 0 4 (by first | rfl | decide) (by simp[assoc]) (by simp[ca,lN,ky,tree,assoc,-List.all_eq_true,-List.all_flatMap,hin]) (by omega)) ?_
     simp[cW,bD,bJ,dr,fx,assoc,hrn]
     refine ae.here ⟨i+1,rfl,by omega,?_⟩
     simp[dq,nq,xH,htk,hH,hprx]
    ·have hie:i=p.fs.length:=by omega
     subst hie
     have tP:=ay mJ (p.fs.map (lT p))
     have fP:=bu (f:=kX) (n:=5) eU (p.fs.map (lT p))
     have hml:(p.fs.map (lT p)).length=p.fs.length:=by simp
     rw[hml] at fP
     have tkP:List.take (p.fs.length*5) ((p.fs.map (lT p)).flatMap kX)=(p.fs.map (lT p)).flatMap kX:=List.take_of_length_le (by omega)
     have hun:de (iT p)=[.ax ((p.gs.map (·.init)).map I) p.gs.length,.ax (p.ms.flatMap js) p.ms.length,.ax ((p.fs.map (lT p)).flatMap kX) p.fs.length,I 0]:=by simp[de,iT,ints]
     simp only[dq,nq,xH,List.take_length]
     generalize hH:p.fs.map (lT p)=Hs at tP fP tkP hun
     refine T.seq (T.seq (T.go' aa ?_))
     simp[hC]
     refine T.cond (b:=false) rfl ?_
     simp
     refine T.exit ?_
     simp
     refine T.seq (T.go' aa ?_)
     simp[hC]
     refine T.ret ?_
     have tI2:=ef (p.gs.map (·.init))
     generalize hG:(p.gs.map (·.init)).map I=Gs at tI2 hun
     refine ae.le (Le.trim [5,4,3,2] [1,3] 4 (by simp[-List.all_eq_true,-List.all_flatMap,af tP]) (by omega)) ?_
     simp
     refine ae.le (Le.eM (o:=3) rfl tP) ?_
     simp[tkP]
     refine ae.here ?_
     simp[gq,hun]
     rw[← hG,List.map_map]
end Go.Proofs.YtmnglemlimfpbaaGreat
namespace Go.bg
open Go.Can
deriving instance DecidableEq for Is
def lF (is:Is)(q:Pl):Nat:=if q.param=true then is.aE.getD q.index 0 else q.index
def tZ:In→Int
 | .set _ _ _=>1
 | .call g _ _ _=>if g=true then 3 else 2
 | .lock u _=>if u=true then 5 else 4
 | .branch _ _=>6
 | .jump _=>7
 | .ret=>8
def eT (is:Is):In→Option Is
 | .call _ t _ ps=>some ⟨t,ps.map (lF is)⟩
 | _=>none
def aM (u:Un)(is:Is):List In:=match u.ps[is.proc]? with
 | some q=>q.code
 | none=>[]
def fS (u:Un)(is:Is)(pc:Int):Option Is:=if pc<0 then none else match (aM u is)[pc.toNat]? with
 | some i=>eT is i
 | none=>none
def jH:Option Is→CV
 | some x=>.df [.agg (cg x),.bool true]
 | none=>.df [.agg [I 0,.ax [] 0],.bool false]
theorem p6 (i:In):∃ cs,dt i=I (tZ i)::cs∧cs.length=11:=by
 have h:∃ cs,dt i=I (tZ i)::cs:=by cases i<;>exact⟨_,rfl⟩
 obtain⟨cs,h⟩:=h
 have:=gz i
 rw[h] at this
 exact⟨cs,h,by simpa using this⟩
structure qh (u:Un)(is:Is):Prop where
 q:∃ q,u.ps[is.proc]? = some q∧is.aE.length=q.aE
 m:∀ l∈is.aE,l<u.ms.length
theorem DS {u:Un}{is:Is}{g k L:Nat}{q:Pl}(hm:∀ l∈is.aE,l<u.ms.length)(hL:is.aE.length=L)(h:GZ u.ms g k L q):lF is q<u.ms.length:=by
 rcases h with ⟨h1,h2,_⟩ | ⟨h1,m,h2,_⟩
 ·simp only[lF,h1,if_true]
  rw[List.getD_eq_getElem?_getD,List.getElem?_eq_getElem (by omega)]
  exact hm _ (List.getElem_mem (by omega))
 ·simp only[lF,h1,Bool.false_eq_true,if_false]
  exact (List.getElem?_eq_some_iff.1 h2).1
theorem te {u:Un}(hu:ox u){is:Is}(hi:qh u is){i:In}(hm:i∈aM u is){x:Is}(hx:eT is i=some x):qh u x:=by
 obtain⟨⟨q,hq,hl⟩,hlm⟩:=hi
 simp only[aM,hq] at hm
 have hv:=(hu.pc q (List.mem_of_getElem? hq)).2 i hm
 cases i with
 | call g t is' ps=>
  simp only[eT,Option.some.injEq] at hx
  subst hx
  obtain⟨h1,_,h3⟩:=hv
  rw[List.getElem?_map,Option.map_eq_some_iff] at h1
  obtain⟨q',h4,h5⟩:=h1
  simp only[Prod.mk.injEq] at h5
  refine⟨⟨q',h4,?_⟩,fun l hl'=>?_⟩
  ·simp only[List.length_map];omega
  ·simp only[List.mem_map] at hl'
   obtain⟨pl,hpl,rfl⟩:=hl'
   exact DS hlm hl (h3 pl hpl)
 | _=>simp[eT] at hx
def gx:In→Bool
 | .call g _ _ _=>g
 | _=>false
def bU (l:List Nat)(n:Nat):Nat:=(l.takeWhile (· < n)).length
def dM (l:List Nat)(n:Nat):List Nat:=if n∈l then l else l.take (bU l n)++n::l.drop (bU l n)
def cK (l:List Is)(x:Is):List Is:=if x∈l then l else l++[x]
def cM (l:List Is)(x:Is):Nat:=l.findIdx fun y=>decide (y=x)
def fM (is:Is):List In→List Is→List Nat→List Is×List Int×List Nat
 | [],l,r=>(l,[],r)
 | i::c,l,r=>match eT is i with
  | none=>((fM is c l r).1,-1::(fM is c l r).2.1,(fM is c l r).2.2)
  | some x=>((fM is c (cK l x) (if gx i=true then dM r (cM (cK l x) x) else r)).1,(cM (cK l x) x:Int)::(fM is c (cK l x) (if gx i=true then dM r (cM (cK l x) x) else r)).2.1,(fM is c (cK l x) (if gx i=true then dM r (cM (cK l x) x) else r)).2.2)
def km (u:Un):Nat→Nat→List Is→List (List Int)→List Nat→Cl
 | 0,_,l,cs,r=>⟨l,cs,r⟩
 | f+1,i,l,cs,r=>match l[i]? with
  | none=>⟨l,cs,r⟩
  | some x=>km u f (i+1) (fM x (aM u x) l r).1 (cs++[(fM x (aM u x) l r).2.1]) (fM x (aM u x) l r).2.2
def gE (u:Un):Cl:=km u 100 0 [⟨u.main,[]⟩] [] [0]
end Go.bg
namespace Go.Proofs.YtmnglemlimfpbaaGreat
open Go.Can Go.bg
theorem ch (l:List Nat):trees (l.map fun n:Nat=>I n)=true:=aU l
theorem aN (l:List Nat):tree (aZ l)=true:=by simp only[aZ,tree]
theorem aO (x:Is):trees (cg x)=true:=by simp only[cg,trees,aN,Bool.and_true];rfl
theorem dh (x:Is):(cg x).length=2:=rfl
theorem pX {l:List Nat}{i n:Nat}(h:l[i]? = some n):(l.map fun n:Nat=>I n).drop i=I n::(l.drop (i+1)).map fun n:Nat=>I n:=by
 obtain⟨hl,rfl⟩:=List.getElem?_eq_some_iff.1 h
 rw[← List.map_drop,List.drop_eq_getElem_cons hl,List.map_cons]
theorem uH (is:Is)(q:Pl)(h:q.param=true→q.index<is.aE.length):ah Tryz.prog 30 [.agg (cg is),.agg (nO q)] (I (lF is q)):=by
 refine ah.bl aa Tryz.func30 rfl (by kernel_rfl) (by simp[Tryz.ntmps30]) rfl fun C hC hC0=>?_
 rw[Tryz.ntmps30] at hC
 simp only[cg,nO,aZ,mf]
 refine T.seq (T.go' aa ?_)
 simp[hC]
 refine T.seq (T.seq (T.go' aa ?_))
 simp[hC]
 cases hq:q.param with
 | true=>
  have hlt:=h hq
  obtain⟨n,hn⟩:∃ n,is.aE[q.index]? = some n:=⟨_,List.getElem?_eq_getElem hlt⟩
  have hdr:=pX hn
  have hmu:lF is q=n:=by simp[lF,hq,List.getD_eq_getElem?_getD,hn]
  refine T.cond (b:=true) (by simp[ev,assoc]) ?_
  simp
  refine T.seq (T.go' aa ?_)
  simp[hC,hlt,hdr]
  refine T.ret ?_
  refine ae.here ?_
  simp[Tryz.results30,hmu]
 | false=>
  have hmu:lF is q=q.index:=by simp[lF,hq]
  refine T.cond (b:=false) (by simp[ev,assoc]) (T.skip ?_)
  simp
  refine T.seq (T.go' aa ?_)
  simp[hC]
  refine T.ret ?_
  refine ae.here ?_
  simp[Tryz.results30,hmu]
theorem yc (g:Bool)(t:Nat)(l:List Ex)(ps:List Pl):dt (.call g t l ps)=[I (if g=true then 3 else 2),I t,.bool false,I 0,I 0,.str eS,.ax [] 0,.bool false,I 0,.ax [] 0,.ax (l.flatMap bB) l.length,.ax (ps.flatMap nO) ps.length]:=rfl
def dP (l:List Nat):Ob:=⟨3,1,l.map fun n:Nat=>I n⟩
def J27 (_u:Un)(is:Is)(cs:List CV)(cn:Nat)(pc:Int)(t:Nat)(ps:List Pl)(m:Nat)(s:St):Prop:=∃ i:Nat,m=ps.length-i∧i≤ps.length∧
 s=⟨[(10,I i),(9,.aq 3 0),(8,.ax cs cn),(6,.aq 2 0),(4,.aq 1 0),(2,I pc)],[(1,⟨74,0,cg is⟩),(2,⟨74,0,[I 0,.ai]⟩),(3,⟨74,0,[I t,.bw 4 0 i]⟩),(4,dP ((ps.take i).map (lF is)))],5⟩
theorem dD (u:Un):trees (de u)=true:=by
 simp only[de,trees,ints,tree]
 simp
set_option maxHeartbeats 4000000 in
theorem rY (u:Un)(hu:ox u)(is:Is)(hi:qh u is)(pc:Int):ah Tryz.prog 27 [gq u,.agg (cg is),I pc] (jH (fS u is pc)):=by
 obtain⟨⟨pq,hpq,hll⟩,hlm⟩:=id hi
 have hcode:aM u is=pq.code:=by simp only[aM,hpq]
 have hpl:=(List.getElem?_eq_some_iff.1 hpq).1
 have hdr:=bG (f:=kX) (n:=5) eU hpq 4 (by omega)
 have hlen:=(hu.pr pq (List.mem_of_getElem? hpq)).2.2.2.2
 have htr:tree (jH (fS u is pc))=true:=by
  cases fS u is pc with
  | none=>rfl
  | some x=>simp only[jH,tree,trees,aO];rfl
 have tun:=dD u
 simp only[de,ints] at tun
 refine ah.bl aa Tryz.func27 rfl (by kernel_rfl) (by simp[Tryz.ntmps27]) htr fun C hC hC0=>?_
 rw[Tryz.ntmps27] at hC
 simp only[gq,de,cg,ints]
 refine T.seq (T.go' aa ?_)
 simp[hC]
 refine T.seq (T.go' aa ?_)
 simp[hC,hpl,hdr,kX]
 have tco:=aP pq.code
 have tco:=aP pq.code
 by_cases h1:pc<0
 ·have hn:fS u is pc=none:=by simp[fS,h1]
  refine T.seq (T.seq (T.go' aa ?_))
  simp[hC,h1]
  refine T.cond (b:=true) rfl ?_
  simp
  refine T.seq (T.go' aa ?_)
  simp[hC]
  refine T.ret ?_
  simp
  refine ae.le (Le.trim [6,7] [2] 3 (by simp) (by omega)) ?_
  simp
  refine ae.le (Le.nz [] [2]) ?_
  refine ae.here ?_
  simp[hn,jH]
 ·obtain⟨k,rfl⟩:∃ k:Nat,pc=k:=⟨pc.toNat,by omega⟩
  by_cases h2:k<pq.code.length
  ·obtain⟨x,hx⟩:∃ x,pq.code[k]? = some x:=⟨_,List.getElem?_eq_getElem h2⟩
   have hcal:fS u is k=eT is x:=by simp[fS,hcode,hx,h1]
   have hdc:=aV (f:=dt) (n:=12) gz hx
   obtain⟨xc,hxc,_⟩:=p6 x
   rw[hxc] at hdc
   have hng:¬ ((pq.code.length:Int)≤(k:Int)):=by omega
   by_cases hop:∃ g t l ps,x=.call g t l ps
   ·obtain⟨g,t,l,ps,rfl⟩:=hop
    have hcal2:fS u is k=some ⟨t,ps.map (lF is)⟩:=by rw[hcal];rfl
    have hic:CC (u.ps.map fun q=>(q.ints,q.aE)) u.ms u.gs.length pq.locals pq.aE (pq.code.length-1) (.call g t l ps):=(hu.pc pq (List.mem_of_getElem? hpq)).2 _ (List.mem_of_getElem? hx)
    have hpv:=hic.2.2
    have hd1:=bG (f:=dt) (n:=12) gz hx 1 (by omega)
    have hd11:=bG (f:=dt) (n:=12) gz hx 11 (by omega)
    rw[yc] at hd1 hd11
    have ho2:((tZ (.call g t l ps) == 2) && (tZ (.call g t l ps) == 3))=false:=by cases g<;>rfl
    have hdc2:List.drop (k*12) (pq.code.flatMap dt)=I (if g=true then 3 else 2)::xc++(pq.code.drop (k+1)).flatMap dt:=by rw[hdc];cases g<;>rfl
    have hpsl:ps.length≤100:=by
     have h5:=hic.1
     rw[List.getElem?_map,Option.map_eq_some_iff] at h5
     obtain⟨q',h6,h7⟩:=h5
     simp only[Prod.mk.injEq] at h7
     have:=(hu.pr q' (List.mem_of_getElem? h6)).2.1
     omega
    rw[hcal2]
    simp only[jH]
    clear hdc
    generalize hgo:(if g=true then (3:Int) else 2)=op at hdc2
    have hop3:((op != 2) && (op != 3))=false:=by subst hgo;cases g<;>rfl
    have hbr:(op != 2)=false∨((op != 2)=true∧(op != 3)=false):=by subst hgo;cases g<;>simp
    refine T.cut (fun s=>s=⟨[(8,.ax (pq.code.flatMap dt) pq.code.length),(6,.aq 2 0),(4,.aq 1 0),(2,I k)],[(2,⟨74,0,[I 0,.ai]⟩),(1,⟨74,0,cg is⟩)],3⟩) ?_ ?_
    ·rcases hbr with hb | ⟨hb,hb2⟩
     ·refine T.seq (T.go' aa ?_)
      simp[hC,hng,h1,h2,hdc2,hb]
      refine T.cond (b:=false) rfl (T.skip ?_)
      simp
      refine ae.trim [8,6,4,2] [2,1] 3 (by simp[-List.all_eq_true,-List.all_flatMap,aB 3 _ (aN is.aE)]) (by omega) ?_
      simp[cg]
     ·refine T.seq (T.go' aa ?_)
      simp[hC,hng,h1,h2,hdc2,hb,hb2]
      refine T.cond (b:=false) rfl (T.skip ?_)
      simp
      refine ae.trim [8,6,4,2] [2,1] 3 (by simp[-List.all_eq_true,-List.all_flatMap,aB 3 _ (aN is.aE)]) (by omega) ?_
      simp[cg]
    ·rintro s rfl
     simp only[cg]
     refine T.seq (T.go' aa ?_)
     simp[hC,h2,hd1]
     refine T.seq (T.seq (T.go' aa ?_))
     simp[hC]
     refine T.block ?_
     refine T.aS (J27 u is (pq.code.flatMap dt) pq.code.length k t ps) (n:=ps.length) ?_ ?_
     ·refine ae.le (Le.lK 3 1 3 1 rfl rfl) ?_
      simp
      refine ae.trim [10,9,8,6,4,2] [1,2,3,4] 5 (by simp[-List.all_eq_true,-List.all_flatMap,aB 5 _ (aN is.aE)]) (by omega) ⟨0,by omega,by omega,?_⟩
      simp[cg,dP]
     ·rintro n s ⟨i,rfl,hi',rfl⟩
      by_cases hil:i<ps.length
      ·obtain⟨q,hq⟩:∃ q,ps[i]? = some q:=⟨ps[i],List.getElem?_eq_getElem hil⟩
       have hdq:=aV (f:=nO) (n:=3) oM hq
       have hqv:q.param=true→q.index<is.aE.length:=fun hp=>by
        rcases hpv q (List.mem_of_getElem? hq) with ⟨_,h8,_⟩ | ⟨h8,_⟩
        ·omega
        ·rw[hp] at h8;cases h8
       have hmx:=uH is q hqv
       have wi:=db ((i:Int)+1) (by omega) (by omega)
       have htk:ps.take (i+1)=ps.take i++[q]:=by rw[List.take_add_one,hq];rfl
       have hml:((ps.take i).map (lF is)).length=i:=by simp;omega
       have tN:=ch ((ps.take i).map (lF is))
       have bd1:(i+1)*8≤140737488355328:=by omega
       obtain⟨q1,q2,q3,q4,hqc,tq⟩:=vM q
       rw[hqc] at hdq hmx
       generalize hG:(ps.take i).map (lF is)=G at hml tN
       simp only[cg,dP] at hmx ⊢
       refine T.seq (T.seq (T.go' aa ?_))
       simp[hC,h2,hd11,hil]
       refine T.cond (b:=true) rfl (T.skip ?_)
       simp
       refine T.seq (T.block ?_)
       refine T.rx aa follows [0,1,2,3,4,5,6,7,8,9,10,11,12,13,14,15] [(1,11),(1,12)] (by kernel_rfl) ?_
       simp[hC,h2,hd11,hil,hdq]
       have targ:trees [.agg [I is.proc,aZ is.aE],.agg [.bool q1,I q2,.ax q3 q4]]=true:=by
        simp only[trees,tree,aN,Bool.and_true]
       refine RX.call rfl rfl rfl rfl rfl targ hmx ?_
       simp[hml,bd1,aX]
       refine T.go' aa ?_
       simp[hC,wi]
       refine⟨ps.length-(i+1),by omega,?_⟩
       have tN2:trees ((G.map fun n:Nat=>I n)++[I (lF is q)])=true:=by rw[bh,tN];rfl
       have hin:=aA tN2
       have hrn:=fun ρ=>az ρ _ tN2
       have tnt:=aN is.aE
       simp only[aZ,tree] at tnt
       simp only[aZ]
       refine ae.le (Le.norm [10,9,8,6,4,2] [(1,1),(2,2),(3,3),(21,4)] 0 5 (by first | rfl | decide) (by simp[assoc]) (by simp[ca,lN,ky,tree,assoc,-List.all_eq_true,-List.all_flatMap,hin]) (by omega)) ?_
       simp[cW,bD,bJ,dr,fx,assoc,hrn]
       refine ae.here ⟨i+1,rfl,by omega,?_⟩
       simp[cg,dP,htk,hG,aZ]
      ·have hie:i=ps.length:=by omega
       subst hie
       rw[List.take_length]
       have tN:=ch (ps.map (lF is))
       have tkN:List.take ps.length ((ps.map (lF is)).map fun n:Nat=>I n)=(ps.map (lF is)).map fun n:Nat=>I n:=List.take_of_length_le (by simp)
       have hnt:aZ (ps.map (lF is))=.ax ((ps.map (lF is)).map fun n:Nat=>I n) ps.length:=by simp[aZ]
       simp only[cg,dP]
       rw[hnt]
       generalize hG:((ps.map (lF is)).map fun n:Nat=>I n)=G at tN tkN
       refine T.seq (T.seq (T.go' aa ?_))
       simp[hC,h2,hd11]
       refine T.cond (b:=false) rfl ?_
       simp
       refine T.exit ?_
       simp
       refine T.seq (T.go' aa ?_)
       simp[hC]
       refine T.ret ?_
       refine ae.le (Le.trim [6,7] [2,4] 5 (by simp[-List.all_eq_true,-List.all_flatMap,af tN]) (by omega)) ?_
       simp
       refine ae.le (Le.eM (o:=4) rfl tN) ?_
       simp[tkN]
       refine ae.here ?_
       simp
   ·have hn:fS u is k=none:=by
     rw[hcal]
     cases x with
     | call g t l ps=>exact (hop ⟨g,t,l,ps,rfl⟩).elim
     | _=>rfl
    have ho2:((tZ x != 2)=true)∧((tZ x != 3)=true):=by
     cases x with
     | call g t l ps=>exact (hop ⟨g,t,l,ps,rfl⟩).elim
     | lock u _=>cases u<;>exact⟨rfl,rfl⟩
     | _=>exact⟨rfl,rfl⟩
    refine T.seq (T.seq (T.go' aa ?_))
    simp[hC,hng,h1,h2,hdc,ho2.1,ho2.2]
    refine T.cond (b:=true) rfl ?_
    simp
    refine T.seq (T.go' aa ?_)
    simp[hC]
    refine T.ret ?_
    simp
    refine ae.le (Le.trim [6,7] [2] 3 (by simp) (by omega)) ?_
    simp
    refine ae.le (Le.nz [] [2]) ?_
    refine ae.here ?_
    simp[hn,jH]
  ·have hn:fS u is k=none:=by simp[fS,hcode,List.getElem?_eq_none (Nat.le_of_not_lt h2)]
   have hng:(pq.code.length:Int)≤(k:Int):=by omega
   refine T.seq (T.seq (T.go' aa ?_))
   simp[hC,hng,h1]
   refine T.cond (b:=true) rfl ?_
   simp
   refine T.seq (T.go' aa ?_)
   simp[hC]
   refine T.ret ?_
   simp
   refine ae.le (Le.trim [6,7] [2] 3 (by simp) (by omega)) ?_
   simp
   refine ae.le (Le.nz [] [2]) ?_
   refine ae.here ?_
   simp[hn,jH]
end Go.Proofs.YtmnglemlimfpbaaGreat
