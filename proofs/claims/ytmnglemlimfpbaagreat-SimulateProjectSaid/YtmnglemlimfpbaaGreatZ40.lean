/- Close. -/
import Derived.Test.YtmnglemlimfpbaaGreatZ39
namespace Go.aX
open Go.Can
theorem qi:∀ {a b:List Nat},(a.map fun n:Nat=>(n:Int))=b.map (fun n:Nat=>(n:Int))→a=b
 | [],[],_=>rfl
 | [],_::_,h=>by simp at h
 | _::_,[],h=>by simp at h
 | x::a,y::b,h=>by
  simp only[List.map_cons,List.cons.injEq] at h
  rw[qi h.2]
  congr 1
  omega
theorem Ik (y x:Is):me y x.proc (x.bf.map fun n:Nat=>(n:Int))=decide (y=x):=by
 by_cases h:y=x
 ·subst h;simp[me]
 ·have:¬ ((y.proc:Int)=x.proc∧(y.bf.map fun n:Nat=>(n:Int))=x.bf.map fun n:Nat=>(n:Int)):=fun⟨h1,h2⟩=>by
   apply h
   cases y
   cases x
   simp only at h1 h2
   rw[qi h2]
   congr 1
   omega
  simp only[h,decide_false,me]
  simpa using this
theorem s7 (x:Is):∀ (l:List Is) (k:Nat),ka l x.proc (x.bf.map fun n:Nat=>(n:Int)) k=if x∈l then ((eF l x+k:Nat):Int) else -1
 | [],k=>by simp[ka]
 | y::r,k=>by
  have ih:=s7 x r (k+1)
  rw[ka,Ik]
  by_cases h:y=x
  ·subst h
   simp[eF,List.findIdx_cons]
  ·have h':¬ x=y:=fun e=>h e.symm
   simp only[h,decide_false,Bool.false_eq_true,if_false,List.mem_cons,h',false_or]
   have:((k:Int)+1)=((k+1:Nat):Int):=by simp
   rw[this,ih]
   split
   ·have:eF (y::r) x=eF r x+1:=by simp[eF,List.findIdx_cons,h]
    rw[this]
    congr 1
    omega
   ·rfl
end Go.aX
namespace Go.Proofs.YtmnglemlimfpbaaGreat
open Go.Can Go.aX
def kA (cs:List (List Int)):Ob:=⟨22,1,cs.map ints⟩
theorem bQ (l:List Int):tree (ints l)=true:=by simp[ints,tree]
theorem gj (cs:List (List Int)):trees (cs.map ints)=true:=by
 induction cs with
 | nil=>rfl
 | cons a r ih=>rw[List.map_cons,trees,ih,bQ];rfl
def oV (n m:Nat)(r:List Nat):Ob:=⟨34,0,[.bx 3 0 n,.bx 4 0 m,aW r]⟩
def jn:Ob:=⟨34,0,[.ah,.ah,.ah]⟩
@[simp] theorem Gv (l:List Is)(n:Nat):(fY l).cells.all (a8 n)=true:=aj (ai bP l) n
@[simp] theorem isOb_ltS (l:List Is)(n:Nat):aQ n (fY l).cells=true:=by rw[a7];exact Gv l n
@[simp] theorem isOb_rnm (ρ:Nat→Nat)(l:List Is):ca ρ (fY l)=fY l:=cU _ _ _ (ai bP l)
@[simp] theorem Hb (l:List (List Int))(n:Nat):(kA l).cells.all (a8 n)=true:=aj (gj l) n
@[simp] theorem csOb_ltS (l:List (List Int))(n:Nat):aQ n (kA l).cells=true:=by rw[a7];exact Hb l n
@[simp] theorem csOb_rnm (ρ:Nat→Nat)(l:List (List Int)):ca ρ (kA l)=kA l:=cU _ _ _ (gj l)
theorem uL (d:List Int)(n:Nat):trees (d.map I++List.replicate n (I 0))=true:=by
 rw[aC,aM,Bool.true_and]
 induction n with
 | zero=>rfl
 | succ n ih=>rw[List.replicate_succ,trees,ih];rfl
def yx (d:List Int)(n:Nat):Ob:=⟨3,1,d.map I++List.replicate n (I 0)⟩
@[simp] theorem Gg (d:List Int)(n k:Nat):(yx d n).cells.all (a8 k)=true:=aj (uL d n) k
@[simp] theorem mkOb_ltS (d:List Int)(n k:Nat):aQ k (yx d n).cells=true:=by rw[a7];exact Gg d n k
theorem IG (d:List Int)(n:Nat)(v:CV):List.take d.length (d.map I++List.replicate (n+1) (I 0))++v::List.drop (d.length+1) (d.map I++List.replicate (n+1) (I 0))=d.map I++v::List.replicate n (I 0):=by
 rw[List.take_append,List.drop_append,List.take_of_length_le yAa,List.drop_of_length_le yAa]
 simp[List.replicate_succ]
structure vG (u:Un)(l:List Is):Prop where
 nd:l.Nodup
 v:∀ x∈l,Bn u x
def ClH (u:Un)(l:List Is)(cs:List (List Int))(r:List Nat):List (Nat×Ob):=[(0,⟨30,0,fy u⟩),(1,jn),(2,oV l.length cs.length r),(3,fY l),(4,kA cs)]
structure InvI (u:Un)(x:Is)(i:Nat)(l:List Is)(r:List Nat)(code:List In)(pc:Nat)(l':List Is)(r':List Nat)(d:List Int):Prop where
 ln:pc≤code.length
 c:vG u l'
 at_:l'[i]? = some x
 rl:r'.length≤200*(i+1)+pc
 dl:d.length=pc
 e1:(iW x code l r).1=(iW x (code.drop pc) l' r').1
 e2:(iW x code l r).2.1=d++(iW x (code.drop pc) l' r').2.1
 e3:(iW x code l r).2.2=(iW x (code.drop pc) l' r').2.2
def iE (i sites:Nat)(code:List In)(pc:Nat):List (Nat×CV):=[(9,I pc),(8,.bx 5 0 code.length),(7,.av (code.flatMap dv) code.length),(6,I i),(5,I sites),(4,.aw 2 0),(2,.aw 1 0),(1,.aw 0 0)]
def iH (u:Un)(cs:List (List Int))(l':List Is)(r':List Nat)(d:List Int)(n:Nat):List (Nat×Ob):=[(0,⟨30,0,fy u⟩),(1,jn),(2,oV l'.length cs.length r'),(3,fY l'),(4,kA cs),(5,yx d n)]
def J36i (u:Un)(x:Is)(i sites:Nat)(l:List Is)(cs:List (List Int))(r:List Nat)(code:List In)(m:Nat)(s:St):Prop:=∃ pc l' r' d,m=code.length-pc∧InvI u x i l r code pc l' r' d∧
 s=⟨iE i sites code pc,iH u cs l' r' d (code.length-pc),6⟩
def J36 (u:Un)(m:Nat)(s:St):Prop:=∃ i l cs r,m=100-i∧i≤l.length∧cs.length=i∧r.length≤200*(i+1)∧vG u l∧oU u (100-i) i l cs r=ch u∧
 s=⟨[(6,I i),(5,I ((l.take i).map fun x=>(bX u x).length).sum),(4,.aw 2 0),(2,.aw 1 0),(1,.aw 0 0)],ClH u l cs r,5⟩
set_option maxHeartbeats 4000000 in
theorem wP (u:Un)(hu:l9 u):ae Tryz.prog 36 [cS u] (.cr [mU (ch u),I 0]):=by
 have tun:=bR u
 have hmain:=hu.main
 have hcl0:vG u [⟨u.main,[]⟩]:=⟨by simp,fun x hx=>by
  rw[List.mem_singleton] at hx
  subst hx
  have hnp:=hu.np
  obtain⟨q,hq⟩:∃ q,u.ps[0]? = some q:=⟨_,List.getElem?_eq_getElem yA⟩
  exact⟨⟨q,by simp only;rw[hmain];exact hq,by simp[(hu.p0 q hq).2]⟩,by simp⟩⟩
 have htr:tree (.cr [mU (ch u),I 0])=true:=by
  simp only[tree,trees,mU,oW,bW,Bool.and_true]
 refine ae.aB ag Tryz.func36 rfl yAb (by simp[Tryz.ntmps36]) htr fun C hC hC0=>?_
 rw[Tryz.ntmps36] at hC
 simp only[cS,fy,ints]
 apply au
 simp[hC]
 apply au
 simp[hC,aI]
 apply au
 simp[hC]
 apply aJ
 simp[hC]
 apply T.block
 refine T.aL (J36 u) (n:=100) ?_ ?_
 ·have tgs:trees (u.gs.map (CV.int .i64))=true:=aM u.gs
  refine aa.le (Le.trim [6,5,4,2,1] [4,3,2,1,0] 5 yAu yA) ?_
  simp
  refine aa.le (Le.cG (o:=3) rfl rfl) ?_
  simp
  refine aa.le (Le.nz [] [2]) ?_
  simp
  refine aa.le (Le.kz 4 1 22 1 rfl rfl) ?_
  simp
  refine aa.le (Le.norm [6,5,4,2,1] [(0,0),(1,1),(4,2),(2,3),(5,4)] 0 5 yAl yAm yCb yA) ?_
  simp[dF,ca,bu,dU,gg,assoc]
  refine aa.here ⟨0,[⟨u.main,[]⟩],[],[0],by omega,by simp,rfl,by simp,hcl0,rfl,?_⟩
  simp[ClH,fy,ints,jn,oV,fY,kA,fV,aW]
 ·rintro n s ⟨i,l,cs,r,rfl,hi,hci,hrl,hI,hS,rfl⟩
  have hl49:=j9 hu hI.nd hI.v
  have hsites:=B3 hu hI.nd hI.v
  have tgs:trees (u.gs.map (CV.int .i64))=true:=aM u.gs
  have tis:=ai bP l
  have tcs:=gj cs
  simp only[ClH,fy,ints,jn,oV]
  by_cases hil:i<l.length
  ·obtain⟨x,hx⟩:∃ x,l[i]? = some x:=⟨l[i],List.getElem?_eq_getElem hil⟩
   have hxv:=hI.v x (List.mem_of_getElem? hx)
   obtain⟨⟨pq,hpq,hll⟩,hlm⟩:=id hxv
   have hcode:bX u x=pq.code:=by simp only[bX,hpq]
   have hpl:=(List.getElem?_eq_some_iff.1 hpq).1
   have hdp:=cB (f:=oR) (n:=5) kJ hpq 4 yA
   have hlen:=(hu.pr pq (List.mem_of_getElem? hpq)).2.2.2.2
   have hdi:=aE (f:=fV) (n:=2) iY hx
   have htk:l.take (i+1)=l.take i++[x]:=by rw[List.take_add_one,hx];rfl
   have hsum:((l.take (i+1)).map fun x=>(bX u x).length).sum=((l.take i).map fun x=>(bX u x).length).sum+pq.code.length:=by
    rw[htk,List.map_append,List.sum_append]
    simp[hcode]
   have hsum2:((l.take (i+1)).map fun x=>(bX u x).length).sum≤7105:=by
    have:=List.take_append_drop (i+1) l
    have h2:(l.map fun x=>(bX u x).length).sum=((l.take (i+1)).map fun x=>(bX u x).length).sum+((l.drop (i+1)).map fun x=>(bX u x).length).sum:=by
     rw[← List.sum_append,← List.map_append,this]
    omega
   generalize hG:((l.take i).map fun x=>(bX u x).length).sum=sites at hsum
   have wi:=ct ((i:Int)+1) yA yA
   have ws:=ct ((sites:Int)+(pq.code.length:Int)) yA yA
   have hc1:¬ (256:Int)≤(i:Int):=by omega
   have hc2:¬ (8000:Int)<(sites:Int)+(pq.code.length:Int):=by omega
   apply aJ
   simp[hC,hil,fY]
   refine iv ?_
   simp
   apply fq
   apply T.seq
   refine T.rx ag follows [0,1,2,3,4,5,6,7,8,9,10,11] [] yAb ?_
   simp[hC,hil,hdi,fV,hpl,hdp,oR]
   apply au
   simp[hC,ws]
   apply aJ
   simp[hC,hc1,hc2]
   refine e9 ?_
   simp
   have hb1:8*(pq.code.length:Int)≤281474976710656:=by omega
   have hb2:(pq.code.length:Int)≤9223372036854775807:=by omega
   apply au
   simp[hC,hb1,hb2]
   apply aJ
   simp[hC]
   have tco:=cc pq.code
   have hS2:oU u (100-(i+1)) (i+1) (iW x pq.code l r).1 (cs++[(iW x pq.code l r).2.1]) (iW x pq.code l r).2.2=ch u:=by
    rw[← hS]
    have:100-i=(100-(i+1))+1:=by omega
    rw[this,oU,hx]
    simp only[hcode]
   obtain⟨ext,hext⟩:=qa x pq.code l r
   have hsumL:(((iW x pq.code l r).1.take (i+1)).map fun x=>(bX u x).length).sum=sites+pq.code.length:=by
    rw[hext,List.take_append_of_le_length yA]
    exact hsum
   refine T.cutL (fun s=>∃ d,(iW x pq.code l r).2.1=d∧d.length=pq.code.length∧vG u (iW x pq.code l r).1∧(iW x pq.code l r).2.2.length≤200*(i+1)+145∧i<(iW x pq.code l r).1.length∧s=⟨[(8,.bx 5 0 pq.code.length),(6,I i),(5,I (sites+pq.code.length:Nat)),(4,.aw 2 0),(2,.aw 1 0),(1,.aw 0 0)],iH u cs (iW x pq.code l r).1 (iW x pq.code l r).2.2 d 0,6⟩) ?_ ?_
   ·apply T.block
    refine T.aL (J36i u x i (sites+pq.code.length) l cs r pq.code) (n:=pq.code.length) ?_ ?_
    ·have trep:trees (List.replicate pq.code.length (CV.int .i64 0))=true:=uL [] pq.code.length
     refine aa.le (Le.norm [9,8,7,6,5,4,2,1] [(0,0),(1,1),(2,2),(3,3),(4,4),(17,5)] 0 6 yAl yAm (by simp[eC,vV,sh,tree,assoc,-List.all_eq_true,-List.all_flatMap,kA,aH tcs,aH tis,aW,aH trep]) yA) ?_
     simp[dF,ca,bu,dU,gg,assoc,kA,af _ _ tcs,af _ _ tis,aW,af _ _ trep]
     refine aa.here ⟨0,l,r,[],by omega,⟨by omega,hI,hx,by omega,rfl,rfl,rfl,rfl⟩,?_⟩
     simp[iE,iH,jn,oV,yx,fY,fy,ints,kA,aW]
    ·rintro n s ⟨pc,l',r',d,rfl,hV,rfl⟩
     obtain⟨v1,v2,v3,v4,v5,v6,v7,v8⟩:=hV
     simp only[iE,iH]
     by_cases ln:pc<pq.code.length
     ·obtain⟨ins,hins⟩:∃ ins,pq.code[pc]? = some ins:=⟨_,List.getElem?_eq_getElem ln⟩
      have hdn:pq.code.drop pc=ins::pq.code.drop (pc+1):=by
       rw[List.drop_eq_getElem_cons ln,(List.getElem?_eq_some_iff.1 hins).2]
      rw[hdn] at v6 v7 v8
      have hcal:rK u x (pc:Int)=lz x ins:=by
       have:¬ (pc:Int)<0:=by omega
       simp[rK,hcode,hins,this]
      have hcc:=BL u hu x hxv pc
      rw[hcal] at hcc
      have targ:trees [cS u,.agg (fV x),I pc]=true:=by
       simp only[trees,cS,tree,tun,bP,Bool.and_self]
      have hdi':=aE (f:=fV) (n:=2) iY v3
      have hil':=(List.getElem?_eq_some_iff.1 v3).1
      have hpc1:pc+1≤pq.code.length:=by omega
      have wpc:=ct ((pc:Int)+1) yA yA
      have hl49':=j9 hu v2.nd v2.v
      have tis':=ai bP l'
      obtain⟨n',hn'⟩:∃ n',pq.code.length-pc=n' + 1:=⟨pq.code.length-pc-1,by omega⟩
      have hput:=fun v=>IG d n' v
      rw[v5] at hput
      have hdl:(d.map I++List.replicate (n' + 1) (I 0)).length=pq.code.length:=by simp;omega
      rw[hn']
      simp only[yx]
      have tD:=uL d (n' + 1)
      generalize hDe:d.map I++List.replicate (n' + 1) (I 0)=D at hput hdl tD
      simp only[fy,ints,cS,fV] at hcc targ
      simp only[fy,ints,jn,oV]
      apply aJ
      simp[hC,ln]
      refine iv ?_
      simp
      apply fq
      apply T.seq
      refine T.rx ag follows [0,1,2,3,4,5,6,11,7,8,9,10,12,13] [(0,11),(2,11),(5,11),(11,7)] yAb ?_
      simp[hC,hil',hdi',fY,fV]
      refine RX.call rfl rfl rfl rfl rfl targ hcc ?_
      cases hce:lz x ins with
      | none=>
       simp only[hce,iW] at v6 v7 v8
       simp[y0]
       apply aJ
       simp[hC]
       refine dN ?_
       simp
       apply au
       simp[hC,ln,hpc1,hdl,hput]
       apply T.exit
       simp
       apply aO
       simp[hC,wpc]
       have tN:trees (d.map I++(I (-1)::List.replicate n' (I 0)))=true:=by
        simp
       refine⟨pq.code.length-(pc+1),by omega,aa.trim [9,8,7,6,5,4,2,1] [0,1,2,3,4,5] 6 (by simp[-List.all_eq_true,-List.all_flatMap,aj tis',a6 6 _ (bW r'),aj tN]) yA ⟨pc+1,l',r',d++[-1],rfl,⟨by omega,v2,v3,by omega,by simp[v5],v6,by rw[v7];simp,v8⟩,?_⟩⟩
       have hn2:pq.code.length-(pc+1)=n':=by omega
       rw[hn2]
       simp[iE,iH,jn,oV,yx,fY,fy,ints]
      | some y=>
       have hyv:=Cj hu hxv (by rw[hcode];exact List.mem_of_getElem? hins) hce
       simp only[hce,iW] at v6 v7 v8
       simp[y0,fV]
       apply aJ
       simp[hC]
       refine e9 ?_
       simp
       have hf:=wM l' yA (fun z hz=>by
        obtain⟨⟨q,hq,hl⟩,_⟩:=v2.v z hz
        have:=(hu.pr q (List.mem_of_getElem? hq)).2.1
        omega) cs.length (kA cs) tcs (aW r') (bW r') y.proc (y.bf.map fun n:Nat=>(n:Int))
       have hfr:ka l' y.proc (y.bf.map fun n:Nat=>(n:Int)) 0=if y∈l' then ((eF l' y:Nat):Int) else -1:=by simpa using s7 y l' 0
       rw[← jV,hfr] at hf
       refine T.le (Le.norm [10,9,8,7,6,5,4,2,1] [(0,0),(1,1),(2,2),(3,3),(4,4),(5,5),(17,6)] 0 7 yAl yAm (by simp[eC,vV,sh,tree,assoc,-List.all_eq_true,-List.all_flatMap,kA,aH tcs,aH tis',aW,aH tD]) yA) ?_
       simp[dF,ca,bu,dU,gg,assoc,kA,af _ _ tcs,af _ _ tis',aW,af _ _ tD]
       have tny:=aP y.bf
       have tnr:=aP r'
       refine T.cut (fun s=>s=⟨(10,.aw 6 0)::iE i (sites+pq.code.length) pq.code pc,[(0,⟨30,0,fy u⟩),(1,jn),(2,oV (fv l' y).length cs.length r'),(3,fY (fv l' y)),(4,kA cs),(5,⟨3,1,D⟩),(6,⟨74,0,fV y⟩)],7⟩) ?_ ?_
       ·have hio:(⟨74,2,l'.flatMap fV⟩:Ob)=fY l':=rfl
        have hco:(⟨22,1,cs.map ints⟩:Ob)=kA cs:=rfl
        simp only[hio,hco]
        simp only[aW] at hf
        apply au
        simp[hC]
        refine TL.vu ag [3,4] [3,4] 2 0 hf rfl (by rfl) yAc rfl rfl (by simp[bl,ev,assoc,bu,dU,cI]) (by simp[dZ,assoc,bT,cI]) (by simp[aQ,a8]) (by simp[de]) rfl (by simp[lF,bT,cI,dx,jy]) (TL.go' ag ?_)
        by_cases hym:y∈l'
        ·have had:fv l' y=l':=if_pos hym
         have hneg:¬ ((eF l' y:Nat):Int)<0:=by omega
         simp[hC,cI,hym,hneg]
         refine e9 ?_
         simp
         refine aa.trim [10,9,8,7,6,5,4,2,1] [0,1,2,3,4,5,6] 7 (by simp[-List.all_eq_true,-List.all_flatMap,aj tD]) yA ?_
         rw[had]
         simp[iE,jn,oV,fy,ints,fV,aW]
        ·have had:fv l' y=l'++[y]:=if_neg hym
         have hl':=aD (f:=fV) (n:=2) iY l'
         have bd1:(l'.length+1)*32≤140737488355328:=by omega
         simp[hC,cI,hym]
         refine dN ?_
         simp
         apply aO
         simp[hC,fY,hl',bd1,aI]
         have tN:trees (l'.flatMap fV++[.int .i64 y.proc,.av (y.bf.map fun n:Nat=>I n) y.bf.length])=true:=by
          rw[aC,tis']
          simp[trees,tree]
         have hin:=aH tN
         have hrn:=fun ρ=>af ρ _ tN
         refine aa.le (Le.norm [10,9,8,7,6,5,4,2,1] [(0,0),(1,1),(2,2),(8,3),(4,4),(5,5),(6,6)] 0 7 yAl yAm (by simp[eC,vV,sh,tree,assoc,-List.all_eq_true,-List.all_flatMap,hin,kA,aH tcs,aH tD]) yA) ?_
         simp[dF,ca,bu,dU,gg,assoc,hrn,kA,af _ _ tcs,af _ _ tD]
         apply aa.here
         rw[had]
         simp[iE,jn,oV,fy,ints,fV,aW]
       ·rintro s rfl
        have hI2:vG u (fv l' y):=⟨mN v2.nd,Cq v2.v hyv⟩
        have hl2:=j9 hu hI2.nd hI2.v
        have hf2:=wM (fv l' y) yA (fun z hz=>by
         obtain⟨⟨q,hq,hl⟩,_⟩:=hI2.v z hz
         have:=(hu.pr q (List.mem_of_getElem? hq)).2.1
         omega) cs.length (kA cs) tcs (aW r') (bW r') y.proc (y.bf.map fun n:Nat=>(n:Int))
        have hfr2:ka (fv l' y) y.proc (y.bf.map fun n:Nat=>(n:Int)) 0=((eF (fv l' y) y:Nat):Int):=by
         have:=s7 y (fv l' y) 0
         rw[if_pos (Bc l' y),Nat.add_zero] at this
         exact this
        rw[← jV,hfr2] at hf2
        have hat:=Jo (x:=y) v3
        generalize fv l' y=L at v6 v7 v8 hI2 hl2 hf2 hfr2 hat
        generalize hk:eF L y=k at v6 v7 v8 hf2 hfr2
        have tisL:=ai bP L
        have tN:trees (d.map I++(I k::List.replicate n' (I 0)))=true:=by
         simp
        have hdd:List.drop pc (d.map I++(I k::List.replicate n' (I 0)))=I k::List.replicate n' (I 0):=by
         rw[← v5]
         have:(d.map I).length=d.length:=by simp
         rw[← this,List.drop_left]
        have hwith:=FI r' k yA
        have targ2:trees [aW r',I k]=true:=by simp only[trees,bW,tree,Bool.and_self]
        have hwl:(jY r' k).length≤r'.length+1:=by
         unfold jY
         split
         ·omega
         ·simp;omega
        simp only[iE,oV,fV,aW] at hf2 ⊢
        have hdc:=aE (f:=dv) (n:=12) jI hins
        obtain⟨xc,hxc,_⟩:=uX ins
        rw[hxc] at hdc
        apply au
        simp[hC]
        refine TL.vu ag [3,4] [3,4] 2 0 hf2 rfl (by rfl) yAc rfl rfl (by simp[bl,ev,assoc,bu,dU,cI]) (by simp[dZ,assoc,bT,cI]) (by simp[aQ,a8]) (by simp[de]) rfl (by simp[lF,bT,cI,dx,jy]) (TL.go' ag ?_)
        simp[hC,cI,ln,hpc1,hdl,hput]
        have hopg:(Bi ins == 3)=uV ins:=by
         cases ins with
         | call g _ _ _=>cases g<;>rfl
         | _=>simp[lz] at hce
        have tnw:=aP (jY r' k)
        have hn2:pq.code.length-(pc+1)=n':=by omega
        apply au
        simp[hC,ln,hdc,hopg]
        cases hgo:uV ins with
        | true=>
         simp only[hgo,if_true] at v6 v7 v8
         refine T.cond (b:=true) yAf ?_
         simp
         refine T.rx ag follows [0,1,2,3,4,5,6,7,8] [] yAb ?_
         simp[hC,ln,hdd]
         simp only[aW] at hwith targ2
         refine RX.call rfl rfl rfl rfl rfl targ2 hwith ?_
         simp
         apply aO
         simp[hC,wpc]
         refine⟨pq.code.length-(pc+1),by omega,aa.trim [9,8,7,6,5,4,2,1] [0,1,2,3,4,5] 6 (by simp[-List.all_eq_true,-List.all_flatMap,aj tun,aj tN,jn]) yA ⟨pc+1,L,jY r' k,d++[(k:Int)],rfl,⟨by omega,hI2,hat,by omega,by simp[v5],v6,by rw[v7];simp,v8⟩,?_⟩⟩
         rw[hn2]
         simp[iE,iH,jn,oV,yx,fY,fy,ints,aW]
        | false=>
         simp only[hgo,Bool.false_eq_true,if_false] at v6 v7 v8
         refine T.cond (b:=false) yAf (T.skip ?_)
         simp
         apply aO
         simp[hC,wpc]
         refine⟨pq.code.length-(pc+1),by omega,aa.trim [9,8,7,6,5,4,2,1] [0,1,2,3,4,5] 6 (by simp[-List.all_eq_true,-List.all_flatMap,aj tun,aj tN,jn]) yA ⟨pc+1,L,r',d++[(k:Int)],rfl,⟨by omega,hI2,hat,by omega,by simp[v5],v6,by rw[v7];simp,v8⟩,?_⟩⟩
         rw[hn2]
         simp[iE,iH,jn,oV,yx,fY,fy,ints,aW]
     ·have hpe:pc=pq.code.length:=by omega
      subst hpe
      rw[List.drop_length] at v6 v7 v8
      simp only[iW,List.append_nil] at v6 v7 v8
      have hl':=j9 hu v2.nd v2.v
      have tis':=ai bP l'
      have tnr:=aP r'
      rw[Nat.sub_self]
      have tD:=uL d 0
      apply aJ
      simp[hC]
      refine bj ?_
      simp
      apply T.exit
      simp
      refine aa.trim [8,6,5,4,2,1] [0,1,2,3,4,5] 6 (by simp[-List.all_eq_true,-List.all_flatMap,aj tun,jn,oV,aW]) yA ?_
      simp only[v6,v7,v8]
      refine⟨v5,v2,by omega,(List.getElem?_eq_some_iff.1 v3).1,?_⟩
      simp
   ·rintro s ⟨d,hd,hdl,hI2,hr2,hi2,rfl⟩
    have hl2:=j9 hu hI2.nd hI2.v
    rw[hd] at hS2
    generalize (iW x pq.code l r).1=L at hI2 hi2 hl2 hS2 hsumL ⊢
    generalize (iW x pq.code l r).2.2=R at hr2 hS2 ⊢
    clear hd hext
    have tisL:=ai bP L
    simp only[eR,iH]
    have tD:=uL d 0
    simp only[List.replicate_zero,List.append_nil] at tD
    have tkD:List.take pq.code.length (d.map I)=d.map I:=List.take_of_length_le yAg
    have bd1:(cs.length+1)*24≤140737488355328:=by omega
    have hcl:(cs.map ints).length=cs.length:=by simp
    have hints:(CV.av (d.map I) pq.code.length)=ints d:=by rw[ints,hdl]
    have tnr:=aP R
    have tN:trees (cs.map ints++[ints d])=true:=by rw[aC,tcs,trees,bQ];rfl
    simp only[yx,List.replicate_zero,List.append_nil]
    refine T.le (Le.cG (o:=5) rfl tD) ?_
    simp[tkD,ak tcs,ak tisL,kA,fY,oV,jn,aW,ak tun]
    rw[hints]
    apply aO
    simp[hC,hcl,bd1,aI]
    apply aO
    simp[hC,wi]
    have hin:=aH tN
    have hrn:=fun ρ=>af ρ _ tN
    refine⟨100-(i+1),by omega,?_⟩
    refine aa.le (Le.norm [6,5,4,2,1] [(0,0),(1,1),(2,2),(3,3),(7,4)] 0 5 yAl yAm (by simp[eC,vV,sh,tree,assoc,-List.all_eq_true,-List.all_flatMap,hin,aH tun,aH tisL]) yA) ?_
    simp[dF,ca,bu,dU,gg,assoc,hrn,af _ _ tun,af _ _ tisL]
    refine aa.here ⟨i+1,L,cs++[d],R,by omega,by omega,by simp[hci],by omega,hI2,hS2,?_⟩
    rw[hsumL]
    simp[ClH,jn,oV,fY,kA,aW]
  ·have hie:i=l.length:=by omega
   have hfin:ch u=⟨l,cs,r⟩:=by
    rw[← hS]
    have h1:l[i]? = none:=by rw[List.getElem?_eq_none_iff];omega
    obtain⟨k,hk⟩:∃ k,100-i=k+1:=⟨99-i,by omega⟩
    rw[hk,oU,h1]
   have tnr:=aP r
   have tkI:List.take (l.length*2) (l.flatMap fV)=l.flatMap fV:=List.take_of_length_le (by rw[aD (f:=fV) (n:=2) iY];omega)
   have tkC:List.take cs.length (cs.map ints)=cs.map ints:=List.take_of_length_le yAa
   apply aJ
   simp[hC,hil,fY]
   refine bj ?_
   simp
   apply T.exit
   simp
   apply au
   simp[hC]
   apply T.ret
   rw[hfin]
   refine aa.le (Le.trim [3,2] [1,3,4] 5 (by simp[-List.all_eq_true,-List.all_flatMap,aj tis,aj tcs,aW,kA]) yA) ?_
   simp[aW]
   refine aa.le (Le.cG (o:=3) rfl tis) ?_
   simp[tkI,ak tcs,kA]
   refine aa.le (Le.cG (o:=4) rfl tcs) ?_
   simp[tkC]
   apply aa.here
   simp[mU,oW,aW]
theorem z4 (l:List Int):l9 (lI (Bj l)):=by
 have h:=Jx l
 refine h.unit (fun f hf=>?_) fun f hf=>?_
 ·have h1:=BY (List.mem_map_of_mem (f:=fun f:Fu=>bG f.body) hf)
  have h2:=h.wt
  omega
 ·obtain⟨k,hk,e⟩:=h.pn f hf
  have h5:=congrArg List.length e
  simp only[List.length_map,List.length_reverse,List.length_take,nP,List.length_cons,List.length_nil] at h5
  omega
theorem HV (l:List Int)(hl:l.length≤9223372036854775807):ae Tryz.prog 10 [ints l] (.cr [wT (Bj l),cS (lI (Bj l)),mU (ch (lI (Bj l)))]):=by
 have hp:=BN l hl
 have hlo:=Gn (Bj l) (Jx l)
 have hcl:=wP (lI (Bj l)) (z4 l)
 generalize lI (Bj l)=u at hlo hcl
 generalize Bj l=p at hp hlo
 generalize ch u=c at hcl
 have tun:=bR u
 obtain⟨t1,t2,t3⟩:=gY p
 have tp:trees (eH p)=true:=by simp only[eH,trees,t1,t2,t3];rfl
 have tc:trees (oW c)=true:=by simp only[oW,trees,tree,bW];rfl
 have htr:tree (.cr [wT p,cS u,mU c])=true:=by simp only[tree,trees,wT,cS,mU,tp,tun,tc];rfl
 refine ae.aB ag Tryz.func10 rfl yAb (by simp[Tryz.ntmps10]) htr fun C hC hC0=>?_
 rw[Tryz.ntmps10] at hC
 have ta1:trees [ints l]=true:=by simp only[trees,bQ,Bool.and_self]
 have ta2:trees [wT p]=true:=by simp only[trees,tree,wT,tp,Bool.and_self]
 have ta3:trees [cS u]=true:=by simp only[trees,tree,cS,tun,Bool.and_self]
 simp only[wT,eH,cS,fy,mU,oW] at hp hlo hcl ta2 ta3 ⊢
 apply au
 simp[hC]
 apply au
 simp[hC]
 refine cH ta1 hp ?_
 simp[hC]
 apply au
 simp[hC]
 refine cH ta2 hlo ?_
 simp[hC]
 apply au
 simp[hC]
 refine cH ta3 hcl ?_
 simp[hC]
 apply T.seq
 refine T.rx ag follows [0,1,2,3,4,5] [(1,3),(2,3),(2,4)] yAb ?_
 simp[hC]
 apply T.ret
 apply aa.here
 simp[Tryz.results10]
end Go.Proofs.YtmnglemlimfpbaaGreat
namespace Go.aX
open Go.Can
def BI (l:List Is)(x:Is)(c:List In):List Int:=c.map fun i=>match lz x i with
 | none=>-1
 | some y=>(eF l y:Int)
theorem uY {l:List Is}{y:Is}(h:y∈l)(t:List Is):eF (l++t) y=eF l y:=by
 unfold eF
 rw[List.findIdx_append,if_pos]
 exact List.findIdx_lt_length_of_exists ⟨y,h,by simp⟩
theorem IW {l:List Is}{y:Is}(h:y∈l):l[eF l y]? = some y:=by
 have hl:=IV h
 have h2:=List.findIdx_getElem (xs:=l) (p:=fun y'=>decide (y'=y)) (w:=hl)
 rw[List.getElem?_eq_getElem hl]
 exact congrArg some (of_decide_eq_true h2)
theorem zF (x:Is)(t:List Is):∀ (c:List In) (l:List Is),(∀ i∈c,∀ y,lz x i=some y→y∈l)→BI (l++t) x c=BI l x c
 | [],_,_=>rfl
 | i::c,l,h=>by
  have ih:=zF x t c l fun j hj=>h j (List.mem_cons_of_mem _ hj)
  unfold BI at ih ⊢
  rw[List.map_cons,List.map_cons,ih]
  congr 1
  cases hc:lz x i with
  | none=>rfl
  | some y=>
   simp only
   rw[uY (h i List.mem_cons_self y hc)]
theorem pE (l:List Nat)(n x:Nat):x∈jY l n↔x∈l∨x=n:=by
 unfold jY
 split
 ·rename_i h
  exact⟨.inl,fun h2=>h2.elim id fun e=>e ▸ h⟩
 ·rw[List.mem_append,List.mem_cons]
  have:=List.take_append_drop (cE l n) l
  constructor
  ·rintro (h | h | h)
   ·exact .inl (List.mem_of_mem_take h)
   ·exact .inr h
   ·exact .inl (List.mem_of_mem_drop h)
  ·rintro (h | h)
   ·rw[← this,List.mem_append] at h
    exact h.elim .inl fun h=>.inr (.inr h)
   ·exact .inr (.inl h)
structure SI (x:Is)(c:List In)(l:List Is)(r:List Nat)(L:List Is)(row:List Int)(R:List Nat):Prop where
 pre:∃ t,L=l++t
 row:row=BI L x c
 mem:∀ i∈c,∀ y,lz x i=some y→y∈L
 nd:l.Nodup→L.Nodup
 new:∀ k y,l.length≤k→L[k]? = some y→∃ i∈c,lz x i=some y
 root:∀ n,n∈R↔n∈r∨∃ i∈c,uV i=true∧∃ y,lz x i=some y∧eF L y=n
theorem BC (x:Is):∀ (c:List In) (l:List Is) (r:List Nat),SI x c l r (iW x c l r).1 (iW x c l r).2.1 (iW x c l r).2.2
 | [],l,r=>by
  refine⟨⟨[],by simp[iW]⟩,rfl,(fun i hi=>by cases hi),id,fun k y h1 h2=>?_,fun n=>by simp[iW]⟩
  simp only[iW] at h2
  rw[List.getElem?_eq_none h1] at h2
  cases h2
 | i::c,l,r=>by
  cases hc:lz x i with
  | none=>
   have ih:=BC x c l r
   simp only[iW,hc]
   refine⟨ih.pre,?_,?_,ih.nd,?_,?_⟩
   ·rw[ih.row];simp only[BI,List.map_cons,hc]
   ·intro j hj y hy
    rcases List.mem_cons.1 hj with rfl | hj
    ·rw[hc] at hy;cases hy
    ·exact ih.mem j hj y hy
   ·intro k y h1 h2
    obtain⟨j,hj,hy⟩:=ih.new k y h1 h2
    exact⟨j,List.mem_cons_of_mem _ hj,hy⟩
   ·intro n
    rw[ih.root]
    constructor
    ·rintro (h | ⟨j,hj,h⟩)
     ·exact .inl h
     ·exact .inr ⟨j,List.mem_cons_of_mem _ hj,h⟩
    ·rintro (h | ⟨j,hj,hg,y,hy,h⟩)
     ·exact .inl h
     ·rcases List.mem_cons.1 hj with rfl | hj
      ·rw[hc] at hy;cases hy
      ·exact .inr ⟨j,hj,hg,y,hy,h⟩
  | some z=>
   have ih:=BC x c (fv l z) (if uV i=true then jY r (eF (fv l z) z) else r)
   simp only[iW,hc]
   generalize iW x c (fv l z) (if uV i=true then jY r (eF (fv l z) z) else r)=S at ih ⊢
   obtain⟨t,ht⟩:=ih.pre
   obtain⟨t',ht'⟩:=Bb l z
   have hz:z∈fv l z:=Bc l z
   have hzi:eF S.1 z=eF (fv l z) z:=by rw[ht];exact uY hz t
   refine⟨⟨t'++t,by rw[ht,ht',List.append_assoc]⟩,?_,?_,fun h=>ih.nd (mN h),?_,?_⟩
   ·rw[ih.row];simp only[BI,List.map_cons,hc,hzi]
   ·intro j hj y hy
    rcases List.mem_cons.1 hj with rfl | hj
    ·rw[hc] at hy;cases hy;rw[ht];exact List.mem_append_left _ hz
    ·exact ih.mem j hj y hy
   ·intro k y h1 h2
    by_cases hk:(fv l z).length≤k
    ·obtain⟨j,hj,hy⟩:=ih.new k y hk h2
     exact⟨j,List.mem_cons_of_mem _ hj,hy⟩
    ·rw[ht,List.getElem?_append_left yA] at h2
     refine⟨i,List.mem_cons_self,?_⟩
     unfold fv at h2 hk
     split at h2
     ·rw[List.getElem?_eq_none h1] at h2;cases h2
     ·rw[List.getElem?_append_right h1] at h2
      have:k-l.length=0:=by
       have:=(List.getElem?_eq_some_iff.1 h2).1
       simp only[List.length_cons,List.length_nil] at this
       omega
      rw[this] at h2
      simp only[List.getElem?_cons_zero,Option.some.injEq] at h2
      rw[hc,h2]
   ·intro n
    rw[ih.root]
    constructor
    ·rintro (h | ⟨j,hj,h⟩)
     ·by_cases hg:uV i=true
      ·rw[if_pos hg,pE] at h
       rcases h with h | h
       ·exact .inl h
       ·exact .inr ⟨i,List.mem_cons_self,hg,z,hc,by rw[hzi,h]⟩
      ·rw[if_neg hg] at h
       exact .inl h
     ·exact .inr ⟨j,List.mem_cons_of_mem _ hj,h⟩
    ·rintro (h | ⟨j,hj,hg,y,hy,h⟩)
     ·refine .inl ?_
      split
      ·rw[pE];exact .inl h
      ·exact h
     ·rcases List.mem_cons.1 hj with rfl | hj
      ·refine .inl ?_
       rw[if_pos hg,pE]
       rw[hc] at hy;cases hy
       exact .inr (by rw[← h,hzi])
      ·exact .inr ⟨j,hj,hg,y,hy,h⟩
structure CI (u:Un)(i:Nat)(l:List Is)(cs:List (List Int))(r:List Nat):Prop where
 len:cs.length=i
 le:i≤l.length
 pos:0<l.length
 nd:l.Nodup
 mem:∀ j x,j<i→l[j]? = some x→∀ c∈bX u x,∀ y,lz x c=some y→y∈l
 row:∀ j x,j<i→l[j]? = some x→cs[j]? = some (BI l x (bX u x))
 up:∀ k y,0<k→l[k]? = some y→∃ j x,j<i∧j<k∧l[j]? = some x∧∃ c∈bX u x,lz x c=some y
 root:∀ n,n∈r↔n=0∨∃ j x,j<i∧l[j]? = some x∧∃ c∈bX u x,uV c=true∧∃ y,lz x c=some y∧eF l y=n
theorem CI.step {u:Un}{i:Nat}{l:List Is}{cs:List (List Int)}{r:List Nat}(h:CI u i l cs r){x:Is}(hx:l[i]? = some x) :
  CI u (i+1) (iW x (bX u x) l r).1 (cs++[(iW x (bX u x) l r).2.1]) (iW x (bX u x) l r).2.2:=by
 have s:=BC x (bX u x) l r
 generalize iW x (bX u x) l r=S at s ⊢
 obtain⟨t,ht⟩:=s.pre
 have hil:=(List.getElem?_eq_some_iff.1 hx).1
 have hat:∀ j,j<l.length→S.1[j]? = l[j]?:=fun j hj=>by rw[ht,List.getElem?_append_left hj]
 have hle:l.length≤S.1.length:=by rw[ht];simp
 have hsx:S.1[i]? = some x:=by rw[hat i hil,hx]
 have hlen:=h.len
 have hmem:∀ j y,j<i→l[j]? = some y→∀ c∈bX u y,∀ z,lz y c=some z→eF S.1 z=eF l z:=fun j y hj hy c hc z hz=>by
  rw[ht];exact uY (h.mem j y hj hy c hc z hz) t
 refine⟨by simp[hlen],by omega,by have:=h.pos;omega,s.nd h.nd,?_,?_,?_,?_⟩
 ·intro j y hj hy c hc z hz
  by_cases e:j=i
  ·subst e
   rw[hsx] at hy;cases hy
   exact s.mem c hc z hz
  ·rw[hat j yA] at hy
   rw[ht]
   exact List.mem_append_left _ (h.mem j y yA hy c hc z hz)
 ·intro j y hj hy
  by_cases e:j=i
  ·subst e
   rw[hsx] at hy;cases hy
   rw[List.getElem?_append_right yA,hlen,Nat.sub_self,s.row]
   rfl
  ·rw[hat j yA] at hy
   rw[List.getElem?_append_left yA,h.row j y yA hy,ht,zF]
   exact fun c hc z hz=>h.mem j y yA hy c hc z hz
 ·intro k y hk hy
  by_cases hkl:k<l.length
  ·rw[hat k hkl] at hy
   obtain⟨j,z,h1,h2,h3,h4⟩:=h.up k y hk hy
   exact⟨j,z,by omega,h2,by rw[hat j yA];exact h3,h4⟩
  ·obtain⟨c,hc,hy2⟩:=s.new k y yA hy
   exact⟨i,x,by omega,by omega,hsx,c,hc,hy2⟩
 ·intro n
  rw[s.root,h.root]
  constructor
  ·rintro ((h1 | ⟨j,y,h1,h2,c,h3,h4,z,h5,h6⟩) | ⟨c,hc,hg,y,hy,h1⟩)
   ·exact .inl h1
   ·exact .inr ⟨j,y,by omega,by rw[hat j yA];exact h2,c,h3,h4,z,h5,by rw[hmem j y h1 h2 c h3 z h5];exact h6⟩
   ·exact .inr ⟨i,x,by omega,hsx,c,hc,hg,y,hy,h1⟩
  ·rintro (h1 | ⟨j,y,h1,h2,c,h3,h4,z,h5,h6⟩)
   ·exact .inl (.inl h1)
   ·by_cases e:j=i
    ·subst e
     rw[hsx] at h2;cases h2
     exact .inr ⟨c,h3,h4,z,h5,h6⟩
    ·rw[hat j yA] at h2
     exact .inl (.inr ⟨j,y,by omega,h2,c,h3,h4,z,h5,by rw[← hmem j y yA h2 c h3 z h5];exact h6⟩)
theorem uc {u:Un}(hu:l9 u){x:Is}(hx:Bn u x):∀ (c:List In) (l:List Is) (r:List Nat),(∀ i∈c,i∈bX u x)→l.Nodup→(∀ y∈l,Bn u y)→(iW x c l r).1.Nodup∧∀ y∈(iW x c l r).1,Bn u y
 | [],_,_,_,h1,h2=>⟨h1,h2⟩
 | i::c,l,r,hc,h1,h2=>by
  simp only[iW]
  split
  ·exact uc hu hx c l r (fun j hj=>hc j (List.mem_cons_of_mem _ hj)) h1 h2
  ·rename_i y hy
   exact uc hu hx c _ _ (fun j hj=>hc j (List.mem_cons_of_mem _ hj)) (mN h1) (Cq h2 (Cj hu hx (hc i List.mem_cons_self) hy))
theorem Dp {u:Un}(hu:l9 u):∀ (f i:Nat) (l:List Is) (cs:List (List Int)) (r:List Nat),i+f=100→(∀ y∈l,Bn u y)→CI u i l cs r →
  CI u (oU u f i l cs r).is.length (oU u f i l cs r).is (oU u f i l cs r).calls (oU u f i l cs r).roots
 | 0,i,l,cs,r,hf,hv,h=>by
  have:=j9 hu h.nd hv
  have:=h.le
  omega
 | f+1,i,l,cs,r,hf,hv,h=>by
  simp only[oU]
  split
  ·rename_i hn
   have hle:l.length≤i:=by simpa using hn
   have hi:i=l.length:=by have:=h.le;omega
   subst hi
   exact h
  ·rename_i x hx
   exact Dp hu f (i+1) _ _ _ yA (uc hu (hv x (List.mem_of_getElem? hx)) (bX u x) l r (fun _ h=>h) h.nd hv).2 (h.step hx)
theorem Ja {u:Un}(hu:l9 u):CI u (ch u).is.length (ch u).is (ch u).calls (ch u).roots:=by
 refine Dp hu 100 0 [⟨u.main,[]⟩] [] [0] rfl (fun x hx=>?_) ⟨rfl,by simp,by simp,by simp,(fun j x hj=>by omega),(fun j x hj=>by omega),fun k y hk hy=>?_,fun n=>by simp⟩
 ·rw[List.mem_singleton.1 hx]
  have hp:=hu.np.1
  obtain⟨q,hq⟩:∃ q,u.ps[0]? = some q:=⟨_,List.getElem?_eq_getElem yA⟩
  exact⟨⟨q,by rw[hu.main];exact hq,by rw[(hu.p0 q hq).2];rfl⟩,fun l hl=>by cases hl⟩
 ·obtain⟨k',rfl⟩:∃ k',k=k' + 1:=⟨k-1,by omega⟩
  simp at hy
def wr (n:Int):Int:=IntKind.i64.wrap n
def tw (b:Bool):Int:=if b=true then 1 else 0
def FT (a b:Int):Int:=if b=-1 then wr (0-a) else wr (a.tdiv b)
def unZ (k:Nat)(a:Int):Int:=if k=0 then wr (0-a) else tw (a == 0)
def AZ (k:Nat)(a b:Int):Int×Nat:=
 if k=0 then (wr (a*b),0)
 else if k=1 then (if b=0 then (0,1) else (FT a b,0))
 else if k=2 then (if b=0 then (0,1) else (wr (a-wr (FT a b*b)),0))
 else if k=3 then (wr (a+b),0)
 else if k=4 then (wr (a-b),0)
 else if k=5 then (tw (decide (a<b)),0)
 else if k=6 then (tw (decide (a≤b)),0)
 else if k=7 then (tw (decide (a > b)),0)
 else if k=8 then (tw (decide (a≥b)),0)
 else if k=9 then (tw (a == b),0)
 else if k=10 then (tw (a != b),0)
 else (tw (b != 0),0)
def bI (gs ls:List Int):Ex→Int×Nat
 | .num n=>(n,0)
 | .loc i=>(ls.getD i 0,0)
 | .ji i=>(gs.getD i 0,0)
 | .un k e=>if (bI gs ls e).2=0 then (unZ k (bI gs ls e).1,0) else (0,(bI gs ls e).2)
 | .bin k a b=>if (bI gs ls a).2=0 then
   (if k=11∧(bI gs ls a).1=0 then (0,0) else if k=12∧(bI gs ls a).1≠0 then (1,0)
    else if (bI gs ls b).2=0 then AZ k (bI gs ls a).1 (bI gs ls b).1 else (0,(bI gs ls b).2))
   else (0,(bI gs ls a).2)
 | .zero=>(0,0)
 | .nm _=>(0,0)
def gC (ms:List Mx)(gs ls:List Int)(p:Pl):Int×Nat:=match p.at_ with
 | none=>(0,0)
 | some e=>if (bI gs ls e).2=0 then
   (match ms[p.index]? with
    | some m=>if (bI gs ls e).1<0∨(m.size:Int)≤(bI gs ls e).1 then (0,2) else ((bI gs ls e).1,0)
    | none=>(0,0))
   else (0,(bI gs ls e).2)
def br:List Mx→Nat→List Nat
 | [],_=>[]
 | m::r,i=>List.replicate (max m.size 1) i++br r (i+1)
def aK (ms:List Mx):List Nat:=br ms 0
def l7:List Nat→Nat→Nat→Int
 | [],_,_=>-1
 | a::r,m,i=>if a=m then i else l7 r m (i+1)
def xH (ms:List Mx)(m:Nat):Int:=l7 (aK ms) m 0
def fE (ms:List Mx)(e:Int):Int:=if e<0 then -1 else match (aK ms)[e.toNat]? with
 | some m=>m
 | none=>-1
structure Ho where
 o:Nat
 d:Nat
def cW (h:Ho):List CV:=[I h.o,I h.d]
structure Fr where
 proc:Nat
 pc:Nat
 az:List Int
 ck:List Nat
def e8 (f:Fr):List CV:=[I f.proc,I f.pc,ints f.az,aW f.ck]
structure Sy where
 gs:List Int
 tb:List Ho
 ts:List (List Fr)
 fault:Nat
def dt (l:List Fr):List CV:=[.av (l.flatMap e8) l.length]
def ed (s:Sy):List CV:=[ints s.gs,.av (s.tb.flatMap cW) s.tb.length,.av (s.ts.flatMap dt) s.ts.length,I s.fault]
def cf (s:Sy):CV:=.agg (ed s)
theorem eJ (h:Ho):(cW h).length=2:=rfl
theorem eK (f:Fr):(e8 f).length=4:=rfl
theorem xX (l:List Fr):(dt l).length=1:=rfl
theorem bV (h:Ho):trees (cW h)=true:=rfl
theorem dr (f:Fr):trees (e8 f)=true:=rfl
theorem a9 (l:List Fr):trees (dt l)=true:=rfl
def Au (ms:List Mx)(tb:List Ho)(e th:Nat):Bool:=match (aK ms)[e]?,tb[e]? with
 | some m,some h=>decide (h.o=0) || (decide (h.o=th+1) && (match ms[m]? with
  | some x=>x.re
  | none=>false))
 | _,_=>false
def kM (ms:List Mx)(tb:List Ho)(e th:Nat):List Ho×Bool:=
 if Au ms tb e th=true then (tb.set e ⟨th+1,(match tb[e]? with
  | some h=>h.d
  | none=>0)+1⟩,true) else (tb,false)
def fO (ms:List Mx)(tb:List Ho)(e th:Nat):List Ho×Bool:=match (aK ms)[e]?,tb[e]? with
 | some _,some h=>if h.o=th+1 then (tb.set e (if h.d=1 then ⟨0,0⟩ else ⟨th+1,h.d-1⟩),true) else (tb,false)
 | _,_=>(tb,false)
def dM (m th:Nat):List Nat→List Ho→Nat
 | o::os,h::hs=>(if o=m∧h.o=th+1 then h.d else 0)+dM m th os hs
 | _,_=>0
def dL (ms:List Mx)(tb:List Ho)(m th:Nat):Nat:=dM m th (aK ms) tb
def cT (s:Sy)(t:Int):Option Fr:=if t<0∨s.fault≠0 then none else match s.ts[t.toNat]? with
 | some l=>l.getLast?
 | none=>none
def K3:List CV:=[I 0,I 0,.av [] 0,.av [] 0]
def sC:Option Fr→CV
 | some f=>.cr [.agg (e8 f),.bool true]
 | none=>.cr [.agg K3,.bool false]
def dX (u:Un)(s:Sy)(t:Int):Option In:=match cT s t with
 | some f=>match u.ps[f.proc]? with
  | some q=>q.code[f.pc]?
  | none=>none
 | none=>none
end Go.aX
