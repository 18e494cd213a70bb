/- Close. | Unit. | Maps that stand in cells of objects: lookups and updates. The slice of an array field; copies into it. No function of the program is mentioned here. | Calls that may turn maps: a body's contract may ask that the blocks of certain handed-in maps are its own. No function of the program is mentioned here. -/
import Derived.Test.YtmnglemlimfpbaaGreatZ43
import Derived.Test.YtmnglemlimfpbaaGreatZ38
import Derived.Test.YtmnglemlimfpbaaGreatZ26
namespace Go.bg
open Go.Can
theorem oR:∀ {a b:List Nat},(a.map fun n:Nat=>(n:Int))=b.map (fun n:Nat=>(n:Int))→a=b
 | [],[],_=>rfl
 | [],_::_,h=>by simp at h
 | _::_,[],h=>by simp at h
 | x::a,y::b,h=>by
  simp only[List.map_cons,List.cons.injEq] at h
  rw[oR h.2]
  congr 1
  omega
theorem Ao (y x:Is):kE y x.proc (x.aE.map fun n:Nat=>(n:Int))=decide (y=x):=by
 by_cases h:y=x
 ·subst h;simp[kE]
 ·have:¬ ((y.proc:Int)=x.proc∧(y.aE.map fun n:Nat=>(n:Int))=x.aE.map fun n:Nat=>(n:Int)):=fun⟨h1,h2⟩=>by
   apply h
   cases y
   cases x
   simp only at h1 h2
   rw[oR h2]
   congr 1
   omega
  simp only[h,decide_false,kE]
  simpa using this
theorem oZ (x:Is):∀ (l:List Is) (k:Nat),gN l x.proc (x.aE.map fun n:Nat=>(n:Int)) k=if x∈l then ((cM l x+k:Nat):Int) else -1
 | [],k=>by simp[gN]
 | y::r,k=>by
  have ih:=oZ x r (k+1)
  rw[gN,Ao]
  by_cases h:y=x
  ·subst h
   simp[cM,List.findIdx_cons]
  ·have h':¬ x=y:=fun e=>h e.symm
   simp only[h,decide_false,Bool.false_eq_true,if_false,List.mem_cons,h',false_or]
   have:((k:Int)+1)=((k+1:Nat):Int):=by simp
   rw[this,ih]
   split
   ·have:cM (y::r) x=cM r x+1:=by simp[cM,List.findIdx_cons,h]
    rw[this]
    congr 1
    omega
   ·rfl
end Go.bg
namespace Go.Proofs.YtmnglemlimfpbaaGreat
open Go.Can Go.bg
def ez (cs:List (List Int)):Ob:=⟨22,1,cs.map ints⟩
theorem fv (l:List Int):tree (ints l)=true:=by simp[ints,tree]
theorem eg (cs:List (List Int)):trees (cs.map ints)=true:=by
 induction cs with
 | nil=>rfl
 | cons a r ih=>rw[List.map_cons,trees,ih,fv];rfl
def nh (n m:Nat)(r:List Nat):Ob:=⟨34,0,[.bw 3 0 n,.bw 4 0 m,aZ r]⟩
def fL:Ob:=⟨34,0,[.ai,.ai,.ai]⟩
@[simp] theorem D9 (l:List Is)(n:Nat):(cL l).cells.all (aG n)=true:=af (ay aO l) n
@[simp] theorem isOb_ltS (l:List Is)(n:Nat):aC n (cL l).cells=true:=by rw[aD];exact D9 l n
@[simp] theorem isOb_rnm (ρ:Nat→Nat)(l:List Is):bD ρ (cL l)=cL l:=cD _ _ _ (ay aO l)
@[simp] theorem ET (l:List (List Int))(n:Nat):(ez l).cells.all (aG n)=true:=af (eg l) n
@[simp] theorem csOb_ltS (l:List (List Int))(n:Nat):aC n (ez l).cells=true:=by rw[aD];exact ET l n
@[simp] theorem csOb_rnm (ρ:Nat→Nat)(l:List (List Int)):bD ρ (ez l)=ez l:=cD _ _ _ (eg l)
theorem mh (d:List Int)(n:Nat):trees (d.map I++List.replicate n (I 0))=true:=by
 rw[bh,ef,Bool.true_and]
 induction n with
 | zero=>rfl
 | succ n ih=>rw[List.replicate_succ,trees,ih];rfl
def vY (d:List Int)(n:Nat):Ob:=⟨3,1,d.map I++List.replicate n (I 0)⟩
@[simp] theorem DX (d:List Int)(n k:Nat):(vY d n).cells.all (aG k)=true:=af (mh d n) k
@[simp] theorem mkOb_ltS (d:List Int)(n k:Nat):aC k (vY d n).cells=true:=by rw[aD];exact DX d n k
theorem Gk (d:List Int)(n:Nat)(v:CV):List.take d.length (d.map I++List.replicate (n+1) (I 0))++v::List.drop (d.length+1) (d.map I++List.replicate (n+1) (I 0))=d.map I++v::List.replicate n (I 0):=by
 rw[List.take_append,List.drop_append,List.take_of_length_le (by simp),List.drop_of_length_le (by simp)]
 simp[List.replicate_succ]
structure lR (u:Un)(l:List Is):Prop where
 nd:l.Nodup
 v:∀ x∈l,qh u x
def ClH (u:Un)(l:List Is)(cs:List (List Int))(r:List Nat):List (Nat×Ob):=[(0,⟨30,0,de u⟩),(1,fL),(2,nh l.length cs.length r),(3,cL l),(4,ez cs)]
structure InvI (u:Un)(x:Is)(i:Nat)(l:List Is)(r:List Nat)(code:List In)(pc:Nat)(l':List Is)(r':List Nat)(d:List Int):Prop where
 tJ:pc≤code.length
 c:lR u l'
 at_:l'[i]? = some x
 rl:r'.length≤200*(i+1)+pc
 dl:d.length=pc
 e1:(fM x code l r).1=(fM x (code.drop pc) l' r').1
 e2:(fM x code l r).2.1=d++(fM x (code.drop pc) l' r').2.1
 e3:(fM x code l r).2.2=(fM x (code.drop pc) l' r').2.2
def iE (i sites:Nat)(code:List In)(pc:Nat):List (Nat×CV):=[(9,I pc),(8,.bw 5 0 code.length),(7,.ax (code.flatMap dt) code.length),(6,I i),(5,I sites),(4,.aq 2 0),(2,.aq 1 0),(1,.aq 0 0)]
def iH (u:Un)(cs:List (List Int))(l':List Is)(r':List Nat)(d:List Int)(n:Nat):List (Nat×Ob):=[(0,⟨30,0,de u⟩),(1,fL),(2,nh l'.length cs.length r'),(3,cL l'),(4,ez cs),(5,vY d n)]
def J36i (u:Un)(x:Is)(i sites:Nat)(l:List Is)(cs:List (List Int))(r:List Nat)(code:List In)(m:Nat)(s:St):Prop:=∃ pc l' r' d,m=code.length-pc∧InvI u x i l r code pc l' r' d∧
 s=⟨iE i sites code pc,iH u cs l' r' d (code.length-pc),6⟩
def J36 (u:Un)(m:Nat)(s:St):Prop:=∃ i l cs r,m=100-i∧i≤l.length∧cs.length=i∧r.length≤200*(i+1)∧lR u l∧km u (100-i) i l cs r=gE u∧
 s=⟨[(6,I i),(5,I ((l.take i).map fun x=>(aM u x).length).sum),(4,.aq 2 0),(2,.aq 1 0),(1,.aq 0 0)],ClH u l cs r,5⟩
set_option maxHeartbeats 4000000 in
theorem BO (u:Un)(hu:ox u):ah Tryz.prog 36 [gq u] (.df [mv (gE u),I 0]):=by
 have tun:=dD u
 have hmain:=hu.main
 have hcl0:lR u [⟨u.main,[]⟩]:=⟨by simp,fun x hx=>by
  rw[List.mem_singleton] at hx
  subst hx
  have hnp:=hu.np
  obtain⟨q,hq⟩:∃ q,u.ps[0]? = some q:=⟨_,List.getElem?_eq_getElem (by omega)⟩
  exact⟨⟨q,by simp only;rw[hmain];exact hq,by simp[(hu.p0 q hq).2]⟩,by simp⟩⟩
 have htr:tree (.df [mv (gE u),I 0])=true:=by
  simp only[tree,trees,mv,iL,aN,Bool.and_true]
 refine ah.bl aa Tryz.func36 rfl (by kernel_rfl) (by simp[Tryz.ntmps36]) htr fun C hC hC0=>?_
 rw[Tryz.ntmps36] at hC
 simp only[gq,de,ints]
 refine T.seq (T.go' aa ?_)
 simp[hC]
 refine T.seq (T.go' aa ?_)
 simp[hC,aX]
 refine T.seq (T.go' aa ?_)
 simp[hC]
 refine T.seq (T.seq (T.go' aa ?_))
 simp[hC]
 refine T.block ?_
 refine T.aS (J36 u) (n:=100) ?_ ?_
 ·have tgs:trees (u.gs.map (CV.int .i64))=true:=ef u.gs
  refine ae.le (Le.trim [6,5,4,2,1] [4,3,2,1,0] 5 (by simp[-List.all_eq_true,-List.all_flatMap]) (by omega)) ?_
  simp
  refine ae.le (Le.eM (o:=3) rfl rfl) ?_
  simp
  refine ae.le (Le.nz [] [2]) ?_
  simp
  refine ae.le (Le.lK 4 1 22 1 rfl rfl) ?_
  simp
  refine ae.le (Le.norm [6,5,4,2,1] [(0,0),(1,1),(4,2),(2,3),(5,4)] 0 5 (by first | rfl | decide) (by simp[assoc]) (by simp[ca,lN,ky,tree,assoc,-List.all_eq_true,-List.all_flatMap]) (by omega)) ?_
  simp[cW,bD,bJ,dr,fx,assoc]
  refine ae.here ⟨0,[⟨u.main,[]⟩],[],[0],by omega,by simp,rfl,by simp,hcl0,rfl,?_⟩
  simp[ClH,de,ints,fL,nh,cL,ez,cg,aZ]
 ·rintro n s ⟨i,l,cs,r,rfl,hi,hci,hrl,hI,hS,rfl⟩
  have hl49:=dG hu hI.nd hI.v
  have hsites:=k9 hu hI.nd hI.v
  have tgs:trees (u.gs.map (CV.int .i64))=true:=ef u.gs
  have tis:=ay aO l
  have tcs:=eg cs
  simp only[ClH,de,ints,fL,nh]
  by_cases hil:i<l.length
  ·obtain⟨x,hx⟩:∃ x,l[i]? = some x:=⟨l[i],List.getElem?_eq_getElem hil⟩
   have hxv:=hI.v x (List.mem_of_getElem? hx)
   obtain⟨⟨pq,hpq,hll⟩,hlm⟩:=id hxv
   have hcode:aM u x=pq.code:=by simp only[aM,hpq]
   have hpl:=(List.getElem?_eq_some_iff.1 hpq).1
   have hdp:=bG (f:=kX) (n:=5) eU hpq 4 (by omega)
   have hlen:=(hu.pr pq (List.mem_of_getElem? hpq)).2.2.2.2
   have hdi:=aV (f:=cg) (n:=2) dh hx
   have htk:l.take (i+1)=l.take i++[x]:=by rw[List.take_add_one,hx];rfl
   have hsum:((l.take (i+1)).map fun x=>(aM u x).length).sum=((l.take i).map fun x=>(aM u x).length).sum+pq.code.length:=by
    rw[htk,List.map_append,List.sum_append]
    simp[hcode]
   have hsum2:((l.take (i+1)).map fun x=>(aM u x).length).sum≤7105:=by
    have:=List.take_append_drop (i+1) l
    have h2:(l.map fun x=>(aM u x).length).sum=((l.take (i+1)).map fun x=>(aM u x).length).sum+((l.drop (i+1)).map fun x=>(aM u x).length).sum:=by
     rw[← List.sum_append,← List.map_append,this]
    omega
   generalize hG:((l.take i).map fun x=>(aM u x).length).sum=sites at hsum
   have wi:=db ((i:Int)+1) (by omega) (by omega)
   have ws:=db ((sites:Int)+(pq.code.length:Int)) (by omega) (by omega)
   have hc1:¬ (256:Int)≤(i:Int):=by omega
   have hc2:¬ (8000:Int)<(sites:Int)+(pq.code.length:Int):=by omega
   refine T.seq (T.seq (T.go' aa ?_))
   simp[hC,hil,cL]
   refine T.cond (b:=true) rfl (T.skip ?_)
   simp
   refine T.seq (T.block ?_)
   refine T.seq ?_
   refine T.rx aa follows [0,1,2,3,4,5,6,7,8,9,10,11] [] (by kernel_rfl) ?_
   simp[hC,hil,hdi,cg,hpl,hdp,kX]
   refine T.seq (T.go' aa ?_)
   simp[hC,ws]
   refine T.seq (T.seq (T.go' aa ?_))
   simp[hC,hc1,hc2]
   refine T.cond (b:=false) rfl (T.skip ?_)
   simp
   have hb1:8*(pq.code.length:Int)≤281474976710656:=by omega
   have hb2:(pq.code.length:Int)≤9223372036854775807:=by omega
   refine T.seq (T.go' aa ?_)
   simp[hC,hb1,hb2]
   refine T.seq (T.seq (T.go' aa ?_))
   simp[hC]
   have tco:=aP pq.code
   have hS2:km u (100-(i+1)) (i+1) (fM x pq.code l r).1 (cs++[(fM x pq.code l r).2.1]) (fM x pq.code l r).2.2=gE u:=by
    rw[← hS]
    have:100-i=(100-(i+1))+1:=by omega
    rw[this,km,hx]
    simp only[hcode]
   obtain⟨ext,hext⟩:=oG x pq.code l r
   have hsumL:(((fM x pq.code l r).1.take (i+1)).map fun x=>(aM u x).length).sum=sites+pq.code.length:=by
    rw[hext,List.take_append_of_le_length (by omega)]
    exact hsum
   refine T.cutL (fun s=>∃ d,(fM x pq.code l r).2.1=d∧d.length=pq.code.length∧lR u (fM x pq.code l r).1∧(fM x pq.code l r).2.2.length≤200*(i+1)+145∧i<(fM x pq.code l r).1.length∧s=⟨[(8,.bw 5 0 pq.code.length),(6,I i),(5,I (sites+pq.code.length:Nat)),(4,.aq 2 0),(2,.aq 1 0),(1,.aq 0 0)],iH u cs (fM x pq.code l r).1 (fM x pq.code l r).2.2 d 0,6⟩) ?_ ?_
   ·refine T.block ?_
    refine T.aS (J36i u x i (sites+pq.code.length) l cs r pq.code) (n:=pq.code.length) ?_ ?_
    ·have trep:trees (List.replicate pq.code.length (CV.int .i64 0))=true:=mh [] pq.code.length
     refine ae.le (Le.norm [9,8,7,6,5,4,2,1] [(0,0),(1,1),(2,2),(3,3),(4,4),(17,5)] 0 6 (by first | rfl | decide) (by simp[assoc]) (by simp[ca,lN,ky,tree,assoc,-List.all_eq_true,-List.all_flatMap,ez,aA tcs,aA tis,aZ,aA trep]) (by omega)) ?_
     simp[cW,bD,bJ,dr,fx,assoc,ez,az _ _ tcs,az _ _ tis,aZ,az _ _ trep]
     refine ae.here ⟨0,l,r,[],by omega,⟨by omega,hI,hx,by omega,rfl,rfl,rfl,rfl⟩,?_⟩
     simp[iE,iH,fL,nh,vY,cL,de,ints,ez,aZ]
    ·rintro n s ⟨pc,l',r',d,rfl,hV,rfl⟩
     obtain⟨v1,v2,v3,v4,v5,v6,v7,v8⟩:=hV
     simp only[iE,iH]
     by_cases tJ:pc<pq.code.length
     ·obtain⟨ins,hins⟩:∃ ins,pq.code[pc]? = some ins:=⟨_,List.getElem?_eq_getElem tJ⟩
      have hdn:pq.code.drop pc=ins::pq.code.drop (pc+1):=by
       rw[List.drop_eq_getElem_cons tJ,(List.getElem?_eq_some_iff.1 hins).2]
      rw[hdn] at v6 v7 v8
      have hcal:fS u x (pc:Int)=eT x ins:=by
       have:¬ (pc:Int)<0:=by omega
       simp[fS,hcode,hins,this]
      have hcc:=rY u hu x hxv pc
      rw[hcal] at hcc
      have targ:trees [gq u,.agg (cg x),I pc]=true:=by
       simp only[trees,gq,tree,tun,aO,Bool.and_self]
      have hdi':=aV (f:=cg) (n:=2) dh v3
      have hil':=(List.getElem?_eq_some_iff.1 v3).1
      have hpc1:pc+1≤pq.code.length:=by omega
      have wpc:=db ((pc:Int)+1) (by omega) (by omega)
      have hl49':=dG hu v2.nd v2.v
      have tis':=ay aO l'
      obtain⟨n',hn'⟩:∃ n',pq.code.length-pc=n' + 1:=⟨pq.code.length-pc-1,by omega⟩
      have hput:=fun v=>Gk d n' v
      rw[v5] at hput
      have hdl:(d.map I++List.replicate (n' + 1) (I 0)).length=pq.code.length:=by simp;omega
      rw[hn']
      simp only[vY]
      have tD:=mh d (n' + 1)
      generalize hDe:d.map I++List.replicate (n' + 1) (I 0)=D at hput hdl tD
      simp only[de,ints,gq,cg] at hcc targ
      simp only[de,ints,fL,nh]
      refine T.seq (T.seq (T.go' aa ?_))
      simp[hC,tJ]
      refine T.cond (b:=true) rfl (T.skip ?_)
      simp
      refine T.seq (T.block ?_)
      refine T.seq ?_
      refine T.rx aa follows [0,1,2,3,4,5,6,11,7,8,9,10,12,13] [(0,11),(2,11),(5,11),(11,7)] (by kernel_rfl) ?_
      simp[hC,hil',hdi',cL,cg]
      refine RX.call rfl rfl rfl rfl rfl targ hcc ?_
      cases hce:eT x ins with
      | none=>
       simp only[hce,fM] at v6 v7 v8
       simp[jH]
       refine T.seq (T.seq (T.go' aa ?_))
       simp[hC]
       refine T.cond (b:=true) rfl ?_
       simp
       refine T.seq (T.go' aa ?_)
       simp[hC,tJ,hpc1,hdl,hput]
       refine T.exit ?_
       simp
       refine T.go' aa ?_
       simp[hC,wpc]
       have tN:trees (d.map I++(I (-1)::List.replicate n' (I 0)))=true:=by
        have:=mh (d++[-1]) n'
        simp
       refine⟨pq.code.length-(pc+1),by omega,ae.trim [9,8,7,6,5,4,2,1] [0,1,2,3,4,5] 6 (by simp[-List.all_eq_true,-List.all_flatMap,af tis',aB 6 _ (aN r'),af tN]) (by omega) ⟨pc+1,l',r',d++[-1],rfl,⟨by omega,v2,v3,by omega,by simp[v5],v6,by rw[v7];simp,v8⟩,?_⟩⟩
       have hn2:pq.code.length-(pc+1)=n':=by omega
       rw[hn2]
       simp[iE,iH,fL,nh,vY,cL,de,ints]
      | some y=>
       have hyv:=te hu hxv (by rw[hcode];exact List.mem_of_getElem? hins) hce
       simp only[hce,fM] at v6 v7 v8
       simp[jH,cg]
       refine T.seq (T.seq (T.go' aa ?_))
       simp[hC]
       refine T.cond (b:=false) rfl (T.skip ?_)
       simp
       have hf:=uI l' (by omega) (fun z hz=>by
        obtain⟨⟨q,hq,hl⟩,_⟩:=v2.v z hz
        have:=(hu.pr q (List.mem_of_getElem? hq)).2.1
        omega) cs.length (ez cs) tcs (aZ r') (aN r') y.proc (y.aE.map fun n:Nat=>(n:Int))
       have hfr:gN l' y.proc (y.aE.map fun n:Nat=>(n:Int)) 0=if y∈l' then ((cM l' y:Nat):Int) else -1:=by simpa using oZ y l' 0
       rw[← en,hfr] at hf
       refine T.le (Le.norm [10,9,8,7,6,5,4,2,1] [(0,0),(1,1),(2,2),(3,3),(4,4),(5,5),(17,6)] 0 7 (by first | rfl | decide) (by simp[assoc]) (by simp[ca,lN,ky,tree,assoc,-List.all_eq_true,-List.all_flatMap,ez,aA tcs,aA tis',aZ,aA tD]) (by omega)) ?_
       simp[cW,bD,bJ,dr,fx,assoc,ez,az _ _ tcs,az _ _ tis',aZ,az _ _ tD]
       have tny:=ch y.aE
       have tnr:=ch r'
       refine T.cut (fun s=>s=⟨(10,.aq 6 0)::iE i (sites+pq.code.length) pq.code pc,[(0,⟨30,0,de u⟩),(1,fL),(2,nh (cK l' y).length cs.length r'),(3,cL (cK l' y)),(4,ez cs),(5,⟨3,1,D⟩),(6,⟨74,0,cg y⟩)],7⟩) ?_ ?_
       ·have hio:(⟨74,2,l'.flatMap cg⟩:Ob)=cL l':=rfl
        have hco:(⟨22,1,cs.map ints⟩:Ob)=ez cs:=rfl
        simp only[hio,hco]
        simp only[aZ] at hf
        refine T.seq (T.go' aa ?_)
        simp[hC]
        refine TL.s8 aa [3,4] [3,4] 2 0 hf rfl (by rfl) (by simp[hC]) rfl rfl (by simp[aK,ev,assoc,bJ,dr,bZ]) (by simp[dE,assoc,bF,bZ]) (by simp[aC,aG]) (by simp[cF]) rfl (by simp[jy,bF,bZ,cN,gD]) (TL.go' aa ?_)
        by_cases hym:y∈l'
        ·have had:cK l' y=l':=if_pos hym
         have hneg:¬ ((cM l' y:Nat):Int)<0:=by omega
         simp[hC,bZ,hym,hneg]
         refine T.cond (b:=false) rfl (T.skip ?_)
         simp
         refine ae.trim [10,9,8,7,6,5,4,2,1] [0,1,2,3,4,5,6] 7 (by simp[-List.all_eq_true,-List.all_flatMap,af tD]) (by omega) ?_
         rw[had]
         simp[iE,fL,nh,de,ints,cg,aZ]
        ·have had:cK l' y=l'++[y]:=if_neg hym
         have hl':=bu (f:=cg) (n:=2) dh l'
         have bd1:(l'.length+1)*32≤140737488355328:=by omega
         simp[hC,bZ,hym]
         refine T.cond (b:=true) rfl ?_
         simp
         refine T.go' aa ?_
         simp[hC,cL,hl',bd1,aX]
         have tN:trees (l'.flatMap cg++[.int .i64 y.proc,.ax (y.aE.map fun n:Nat=>I n) y.aE.length])=true:=by
          rw[bh,tis']
          simp[trees,tree]
         have hin:=aA tN
         have hrn:=fun ρ=>az ρ _ tN
         refine ae.le (Le.norm [10,9,8,7,6,5,4,2,1] [(0,0),(1,1),(2,2),(8,3),(4,4),(5,5),(6,6)] 0 7 (by first | rfl | decide) (by simp[assoc]) (by simp[ca,lN,ky,tree,assoc,-List.all_eq_true,-List.all_flatMap,hin,ez,aA tcs,aA tD]) (by omega)) ?_
         simp[cW,bD,bJ,dr,fx,assoc,hrn,ez,az _ _ tcs,az _ _ tD]
         refine ae.here ?_
         rw[had]
         simp[iE,fL,nh,de,ints,cg,aZ]
       ·rintro s rfl
        have hI2:lR u (cK l' y):=⟨jz v2.nd,wU v2.v hyv⟩
        have hl2:=dG hu hI2.nd hI2.v
        have hf2:=uI (cK l' y) (by omega) (fun z hz=>by
         obtain⟨⟨q,hq,hl⟩,_⟩:=hI2.v z hz
         have:=(hu.pr q (List.mem_of_getElem? hq)).2.1
         omega) cs.length (ez cs) tcs (aZ r') (aN r') y.proc (y.aE.map fun n:Nat=>(n:Int))
        have hfr2:gN (cK l' y) y.proc (y.aE.map fun n:Nat=>(n:Int)) 0=((cM (cK l' y) y:Nat):Int):=by
         have:=oZ y (cK l' y) 0
         rw[if_pos (yR l' y),Nat.add_zero] at this
         exact this
        rw[← en,hfr2] at hf2
        have hat:=GW (x:=y) v3
        generalize cK l' y=L at v6 v7 v8 hI2 hl2 hf2 hfr2 hat
        generalize hk:cM L y=k at v6 v7 v8 hf2 hfr2
        have tisL:=ay aO L
        have tN:trees (d.map I++(I k::List.replicate n' (I 0)))=true:=by
         have:=mh (d++[(k:Int)]) n'
         simp
        have hdd:List.drop pc (d.map I++(I k::List.replicate n' (I 0)))=I k::List.replicate n' (I 0):=by
         rw[← v5]
         have:(d.map I).length=d.length:=by simp
         rw[← this,List.drop_left]
        have hwith:=Du r' k (by omega)
        have targ2:trees [aZ r',I k]=true:=by simp only[trees,aN,tree,Bool.and_self]
        have hwl:(dM r' k).length≤r'.length+1:=by
         unfold dM
         split
         ·omega
         ·simp;omega
        simp only[iE,nh,cg,aZ] at hf2 ⊢
        have hdc:=aV (f:=dt) (n:=12) gz hins
        obtain⟨xc,hxc,_⟩:=p6 ins
        rw[hxc] at hdc
        refine T.seq (T.go' aa ?_)
        simp[hC]
        refine TL.s8 aa [3,4] [3,4] 2 0 hf2 rfl (by rfl) (by simp[hC]) rfl rfl (by simp[aK,ev,assoc,bJ,dr,bZ]) (by simp[dE,assoc,bF,bZ]) (by simp[aC,aG]) (by simp[cF]) rfl (by simp[jy,bF,bZ,cN,gD]) (TL.go' aa ?_)
        simp[hC,bZ,tJ,hpc1,hdl,hput]
        have hopg:(tZ ins == 3)=gx ins:=by
         cases ins with
         | call g _ _ _=>cases g<;>rfl
         | _=>simp[eT] at hce
        have tnw:=ch (dM r' k)
        have hn2:pq.code.length-(pc+1)=n':=by omega
        refine T.seq (T.go' aa ?_)
        simp[hC,tJ,hdc,hopg]
        cases hgo:gx ins with
        | true=>
         simp only[hgo,if_true] at v6 v7 v8
         refine T.cond (b:=true) (by simp[ev,assoc]) ?_
         simp
         refine T.rx aa follows [0,1,2,3,4,5,6,7,8] [] (by kernel_rfl) ?_
         simp[hC,tJ,hdd]
         simp only[aZ] at hwith targ2
         refine RX.call rfl rfl rfl rfl rfl targ2 hwith ?_
         simp
         refine T.go' aa ?_
         simp[hC,wpc]
         refine⟨pq.code.length-(pc+1),by omega,ae.trim [9,8,7,6,5,4,2,1] [0,1,2,3,4,5] 6 (by simp[-List.all_eq_true,-List.all_flatMap,af tun,af tN,fL]) (by omega) ⟨pc+1,L,dM r' k,d++[(k:Int)],rfl,⟨by omega,hI2,hat,by omega,by simp[v5],v6,by rw[v7];simp,v8⟩,?_⟩⟩
         rw[hn2]
         simp[iE,iH,fL,nh,vY,cL,de,ints,aZ]
        | false=>
         simp only[hgo,Bool.false_eq_true,if_false] at v6 v7 v8
         refine T.cond (b:=false) (by simp[ev,assoc]) (T.skip ?_)
         simp
         refine T.go' aa ?_
         simp[hC,wpc]
         refine⟨pq.code.length-(pc+1),by omega,ae.trim [9,8,7,6,5,4,2,1] [0,1,2,3,4,5] 6 (by simp[-List.all_eq_true,-List.all_flatMap,af tun,af tN,fL]) (by omega) ⟨pc+1,L,r',d++[(k:Int)],rfl,⟨by omega,hI2,hat,by omega,by simp[v5],v6,by rw[v7];simp,v8⟩,?_⟩⟩
         rw[hn2]
         simp[iE,iH,fL,nh,vY,cL,de,ints,aZ]
     ·have hpe:pc=pq.code.length:=by omega
      subst hpe
      rw[List.drop_length] at v6 v7 v8
      simp only[fM,List.append_nil] at v6 v7 v8
      have hl':=dG hu v2.nd v2.v
      have tis':=ay aO l'
      have tnr:=ch r'
      rw[Nat.sub_self]
      have tD:=mh d 0
      refine T.seq (T.seq (T.go' aa ?_))
      simp[hC]
      refine T.cond (b:=false) rfl ?_
      simp
      refine T.exit ?_
      simp
      refine ae.trim [8,6,5,4,2,1] [0,1,2,3,4,5] 6 (by simp[-List.all_eq_true,-List.all_flatMap,af tun,fL,nh,aZ]) (by omega) ?_
      simp only[v6,v7,v8]
      refine⟨v5,v2,by omega,(List.getElem?_eq_some_iff.1 v3).1,?_⟩
      simp
   ·rintro s ⟨d,hd,hdl,hI2,hr2,hi2,rfl⟩
    have hl2:=dG hu hI2.nd hI2.v
    rw[hd] at hS2
    generalize (fM x pq.code l r).1=L at hI2 hi2 hl2 hS2 hsumL ⊢
    generalize (fM x pq.code l r).2.2=R at hr2 hS2 ⊢
    clear hd hext
    have tisL:=ay aO L
    simp only[thenS,iH]
    have tD:=mh d 0
    simp only[List.replicate_zero,List.append_nil] at tD
    have tkD:List.take pq.code.length (d.map I)=d.map I:=List.take_of_length_le (by simp;omega)
    have bd1:(cs.length+1)*24≤140737488355328:=by omega
    have hcl:(cs.map ints).length=cs.length:=by simp
    have hints:(CV.ax (d.map I) pq.code.length)=ints d:=by rw[ints,hdl]
    have tnr:=ch R
    have tN:trees (cs.map ints++[ints d])=true:=by rw[bh,tcs,trees,fv];rfl
    simp only[vY,List.replicate_zero,List.append_nil]
    refine T.le (Le.eM (o:=5) rfl tD) ?_
    simp[tkD,cw tcs,cw tisL,ez,cL,nh,fL,aZ,cw tun]
    rw[hints]
    refine T.go' aa ?_
    simp[hC,hcl,bd1,aX]
    refine T.go' aa ?_
    simp[hC,wi]
    have hin:=aA tN
    have hrn:=fun ρ=>az ρ _ tN
    refine⟨100-(i+1),by omega,?_⟩
    refine ae.le (Le.norm [6,5,4,2,1] [(0,0),(1,1),(2,2),(3,3),(7,4)] 0 5 (by first | rfl | decide) (by simp[assoc]) (by simp[ca,lN,ky,tree,assoc,-List.all_eq_true,-List.all_flatMap,hin,aA tun,aA tisL]) (by omega)) ?_
    simp[cW,bD,bJ,dr,fx,assoc,hrn,az _ _ tun,az _ _ tisL]
    refine ae.here ⟨i+1,L,cs++[d],R,by omega,by omega,by simp[hci],by omega,hI2,hS2,?_⟩
    rw[hsumL]
    simp[ClH,fL,nh,cL,ez,aZ]
  ·have hie:i=l.length:=by omega
   have hfin:gE u=⟨l,cs,r⟩:=by
    rw[← hS]
    have h1:l[i]? = none:=by rw[List.getElem?_eq_none_iff];omega
    obtain⟨k,hk⟩:∃ k,100-i=k+1:=⟨99-i,by omega⟩
    rw[hk,km,h1]
   have tnr:=ch r
   have tkI:List.take (l.length*2) (l.flatMap cg)=l.flatMap cg:=List.take_of_length_le (by rw[bu (f:=cg) (n:=2) dh];omega)
   have tkC:List.take cs.length (cs.map ints)=cs.map ints:=List.take_of_length_le (by simp)
   refine T.seq (T.seq (T.go' aa ?_))
   simp[hC,hil,cL]
   refine T.cond (b:=false) rfl ?_
   simp
   refine T.exit ?_
   simp
   refine T.seq (T.go' aa ?_)
   simp[hC]
   refine T.ret ?_
   rw[hfin]
   refine ae.le (Le.trim [3,2] [1,3,4] 5 (by simp[-List.all_eq_true,-List.all_flatMap,af tis,af tcs,aZ,ez]) (by omega)) ?_
   simp[aZ]
   refine ae.le (Le.eM (o:=3) rfl tis) ?_
   simp[tkI,cw tcs,ez]
   refine ae.le (Le.eM (o:=4) rfl tcs) ?_
   simp[tkC]
   refine ae.here ?_
   simp[mv,iL,aZ]
end Go.Proofs.YtmnglemlimfpbaaGreat
namespace Go.Proofs.YtmnglemlimfpbaaGreat
open Go.Can Go.bg
theorem kG (l:List Int):ox (iT (ss l)):=by
 have h:=G5 l
 refine h.unit (fun f hf=>?_) fun f hf=>?_
 ·have h1:=zG (List.mem_map_of_mem (f:=fun f:Fu=>bz f.body) hf)
  have h2:=h.wt
  omega
 ·obtain⟨k,hk,e⟩:=h.pn f hf
  have h5:=congrArg List.length e
  simp only[List.length_map,List.length_reverse,List.length_take,nP,List.length_cons,List.length_nil] at h5
  omega
theorem oz (l:List Int)(hl:l.length≤9223372036854775807):ah Tryz.prog 10 [ints l] (.df [qX (ss l),gq (iT (ss l)),mv (gE (iT (ss l)))]):=by
 have hp:=zr l hl
 have hlo:=D3 (ss l) (G5 l)
 have hcl:=BO (iT (ss l)) (kG l)
 generalize iT (ss l)=u at hlo hcl
 generalize ss l=p at hp hlo
 generalize gE u=c at hcl
 have tun:=dD u
 obtain⟨t1,t2,t3⟩:=iq p
 have tp:trees (dq p)=true:=by simp only[dq,trees,t1,t2,t3];rfl
 have tc:trees (iL c)=true:=by simp only[iL,trees,tree,aN];rfl
 have htr:tree (.df [qX p,gq u,mv c])=true:=by simp only[tree,trees,qX,gq,mv,tp,tun,tc];rfl
 refine ah.bl aa Tryz.func10 rfl (by kernel_rfl) (by simp[Tryz.ntmps10]) htr fun C hC hC0=>?_
 rw[Tryz.ntmps10] at hC
 have ta1:trees [ints l]=true:=by simp only[trees,fv,Bool.and_self]
 have ta2:trees [qX p]=true:=by simp only[trees,tree,qX,tp,Bool.and_self]
 have ta3:trees [gq u]=true:=by simp only[trees,tree,gq,tun,Bool.and_self]
 simp only[qX,dq,gq,de,mv,iL] at hp hlo hcl ta2 ta3 ⊢
 refine T.seq (T.go' aa ?_)
 simp[hC]
 refine T.seq (T.go' aa ?_)
 simp[hC]
 refine TL.call (by simp[hC]) rfl rfl (aI.of rfl ta1 hp) (TL.go' aa ?_)
 simp[hC]
 refine T.seq (T.go' aa ?_)
 simp[hC]
 refine TL.call (by simp[hC]) rfl rfl (aI.of rfl ta2 hlo) (TL.go' aa ?_)
 simp[hC]
 refine T.seq (T.go' aa ?_)
 simp[hC]
 refine TL.call (by simp[hC]) rfl rfl (aI.of rfl ta3 hcl) (TL.go' aa ?_)
 simp[hC]
 refine T.seq ?_
 refine T.rx aa follows [0,1,2,3,4,5] [(1,3),(2,3),(2,4)] (by kernel_rfl) ?_
 simp[hC]
 refine T.ret ?_
 refine ae.here ?_
 simp[Tryz.results10]
end Go.Proofs.YtmnglemlimfpbaaGreat
namespace Go.Can
open Go.RowKit
section
variable {P:Program}{C:Cx}{σ:Nat→Option OB}{s:St}{a:Act}{w:World}{ops:Array Oper}{aj:List (Nat×TI)}
theorem sC {t kt et:TypeId}{kb:Value→Bool}{zv:Value}(M:Ad P t kt et kb zv){o:Oper}{x y:Operand}{k:Nat}{es:List (Value×Value)}{cy c:CV}{kv:Value}(hd:aW C.nt o.dst=true)(ho:o.op=.lookup t x y true)
  (hx:ev s x=some (.mp k es)) (hy:ev s y=some cy) (hk:iB cy=some kv) (hkb:kb kv=true) (hes:(es.all fun e=>kb e.1)=true)
  (hc:(match jt kv es with | some v=>eB v | none=>eB zv)=some c):pA P C o s (s.put o.dst (.df [c,.bool (jt kv es).isSome])):=by
 rintro a w ⟨σ,h⟩
 have hv:=bq h hx
 simp only[VR] at hv
 obtain⟨B,r,arr,clock,hB,hb,hv,hr,hmap,hnd,hf⟩:=hv
 obtain⟨hkv,hclo⟩:=iA hk (bq h hy)
 obtain⟨l,hl⟩:=M.key kv hkb
 have hkeys:∀ e∈arr.toList,∃ l,keyOf P kt e.key=some l:=fun e he=>by
  have:(e.key,e.val)∈es:=by rw[← hmap];exact List.mem_map.2 ⟨e,he,rfl⟩
  exact M.key _ (List.all_eq_true.1 hes _ this)
 have hget:(getObj r).run P w=.ok (.map arr clock) w:=by simp[getObj,Sem.run,hr]
 have hchk:=M.keyed.check w arr.isEmpty hl
 obtain⟨f,g1,g2⟩:=M.zero
 have hrun:∃ u,(Instr.lookup t (.map (some r)) kv true).run P w=.ok (.tuple #[u,.bool (jt kv es).isSome]) w∧eB u=some c:=by
  rcases M.keyed.find w hl arr.toList hkeys with ⟨hf1,hf2⟩ | ⟨j,e,hf1,hf2,hf3⟩
  ·have hno:jt kv es=none:=by
    cases hm:jt kv es with
    | none=>rfl
    | some v=>
     exfalso
     have:=su es v hm
     rw[← hmap] at this
     obtain⟨e,he,e2⟩:=List.mem_map.1 this
     simp only[Prod.mk.injEq] at e2
     exact hf2 e he e2.1
   rw[hno] at hc
   refine⟨zv,?_,hc⟩
   have hzr:=gv (P:=P) g1 g2 w
   simp[Instr.lookup,bj M.uy,hget,hchk,hf1,hzr,hno]
  ·have hmem:(kv,e.val)∈es:=by
    rw[← hmap]
    exact List.mem_map.2 ⟨e,List.mem_of_getElem? hf2,by rw[hf3]⟩
   have hm:=pY hclo es hnd _ hmem
   rw[hm] at hc
   refine⟨e.val,?_,hc⟩
   simp[Instr.lookup,bj M.uy,hget,hchk,hf1,hm]
 obtain⟨u,k1,k2⟩:=hrun
 refine⟨w,.inl ⟨.tuple #[u,.bool (jt kv es).isSome],?_,eG hd h ?_⟩⟩
 ·simp[execOp,ho,hv,hkv,k1]
 ·have h1:VR w (FB C σ s.heap) σ c u:=VR.cb _ _ (jU k2).1
  have h2:VR w (FB C σ s.heap) σ (.bool (jt kv es).isSome) (.bool (jt kv es).isSome):=dk _
  simp only[VR]
  exact⟨[u,.bool (jt kv es).isSome],rfl,by simp only[aQ];exact⟨u,_,rfl,h1,_,_,rfl,h2,rfl⟩⟩
def w9 (k:Nat)(es:List (Value×Value))(c:CV):CV:=if ja k c then .mp k es else c
def DW (k:Nat)(es:List (Value×Value)):List (Nat×Ob)→List (Nat×Ob)
 | []=>[]
 | (q,ob)::r=>(q,⟨ob.elem,ob.sz,ob.cells.map (w9 k es)⟩)::DW k es r
theorem mY {k:Nat}{es:List (Value×Value)}:∀ (l:List (Nat×Ob)) (q:Nat),assoc (DW k es l) q=(assoc l q).map fun ob=>⟨ob.elem,ob.sz,ob.cells.map (w9 k es)⟩
 | [],q=>by simp[DW,assoc]
 | (u,d)::r,q=>by
  simp only[DW,assoc]
  split
  ·rfl
  ·exact mY r q
def y9 (s:St)(k:Nat):Bool:=(s.env.all fun x=>cE x.2 || ja k x.2 || Eb x.2) && s.heap.all fun x=>x.2.cells.all fun c=>cE c || ja k c
theorem F8 (k:Nat)(es:List (Value×Value))(c:CV):one (w9 k es c)=one c:=by
 unfold w9
 split
 ·rename_i h
  cases c<;>simp only[ja,Bool.false_eq_true] at h
  rfl
 ·rfl
theorem yO (k:Nat)(es:List (Value×Value))(cs:List CV):(cs.map (w9 k es)).all one=cs.all one:=by
 induction cs with
 | nil=>rfl
 | cons c cs ih=>simp only[List.map_cons,List.all_cons,F8,ih]
theorem zD {t kt et:TypeId}{kb:Value→Bool}{zv:Value}(M:Ad P t kt et kb zv){o:Oper}{x y v:Operand}{k:Nat}{es:List (Value×Value)}{cy cv:CV}{kv vv:Value}(_hd:aW C.nt o.dst=true)(ho:o.op=.mapUpdate t x y v)
  (hx:ev s x=some (.mp k es)) (hy:ev s y=some cy) (hk:iB cy=some kv) (hv0:ev s v=some cv) (hvv:iB cv=some vv) (hkb:kb kv=true) (hes:(es.all fun e=>kb e.1)=true) (hk0:C.n0≤k∨∀ B b,C.σ0 k=some B→B.gK=some b→C.own b∨C.w0.heap.size≤b) (hok:y9 s k=true) :
  pA P C o s (St.del ⟨Fw k (gM kv vv es) s.env,DW k (gM kv vv es) s.heap,s.nx⟩ o.dst):=by
 rintro a w ⟨σ,h⟩
 have hv:=bq h hx
 simp only[VR] at hv
 obtain⟨B,r,arr,clock,hB,hb,hv,hr,hmap,hnd,hf⟩:=hv
 obtain⟨hkv,hclo⟩:=iA hk (bq h hy)
 obtain⟨hval,_⟩:=iA hvv (bq h hv0)
 obtain⟨l,hl⟩:=M.key kv hkb
 have hrl:=(Array.getElem?_eq_some_iff.1 hr).1
 have hkeys:∀ e∈arr.toList,∃ l,keyOf P kt e.key=some l:=fun e he=>by
  have:(e.key,e.val)∈es:=by rw[← hmap];exact List.mem_map.2 ⟨e,he,rfl⟩
  exact M.key _ (List.all_eq_true.1 hes _ this)
 have hget:(getObj r).run P w=.ok (.map arr clock) w:=by simp[getObj,Sem.run,hr]
 have hset:∀ q,(setObj r q).run P w=.ok () { w with heap:=w.heap.setIfInBounds r q }:=fun q=>by simp[setObj,Sem.run,hr]
 have hchk:=M.keyed.check w false hl
 have hrun:∃ arr' clock',(Instr.mapUpdate t (.map (some r)) kv vv).run P w=.ok () { w with heap:=w.heap.setIfInBounds r (.map arr' clock') }∧arr'.toList.map (fun e=>(e.key,e.val))=gM kv vv es:=by
  rcases M.keyed.find w hl arr.toList hkeys with ⟨hf1,hf2⟩ | ⟨j,e,hf1,hf2,hf3⟩
  ·refine⟨arr.push { key:=kv,val:=vv,born:=clock },clock+1,?_,?_⟩
   ·simp[Instr.mapUpdate,bj M.uy,hget,hchk,hf1,hset]
   ·rw[jN es fun x hx=>by
     rw[← hmap] at hx
     obtain⟨e,he,rfl⟩:=List.mem_map.1 hx
     exact hf2 e he,← hmap]
    simp
  ·have hstay:=M.keyed.stays w hl
   have hj:arr[j]? = some e:=by simpa using hf2
   refine⟨arr.modify j fun e=>{ e with key:=kv,val:=vv },clock,?_,?_⟩
   ·simp[Instr.mapUpdate,bj M.uy,hget,hchk,hf1,hj,hf3,hstay,hset]
   ·have hj2:es[j]? = some (kv,e.val):=by
     rw[← hmap,List.getElem?_map,hf2]
     simp[hf3]
    rw[vX hclo es j e.val hnd hj2,← hmap]
    apply List.ext_getElem?
    intro i
    simp only[List.getElem?_map,List.getElem?_set,Array.getElem?_toList,Array.getElem?_modify,List.length_map,Array.length_toList]
    by_cases hij:j=i
    ·subst hij
     have hjl:=(Array.getElem?_eq_some_iff.1 hj).1
     rw[if_pos rfl,if_pos rfl,if_pos hjl,hj]
     rfl
    ·rw[if_neg hij,if_neg hij]
 obtain⟨arr',clock',k1,k2⟩:=hrun
 simp only[y9,Bool.and_eq_true,List.all_eq_true,Bool.or_eq_true] at hok
 generalize hw':({ w with heap:=w.heap.setIfInBounds r (.map arr' clock') }:World)=w' at k1
 have hother:∀ j,j≠r→w'.heap[j]? = w.heap[j]?:=fun j hj=>by simp[← hw',Ne.symm hj]
 have hself:w'.heap[r]? = some (.map arr' clock'):=by simp[← hw',hrl]
 have hsz:w'.heap.size=w.heap.size:=by simp[← hw']
 have hFB:∀ b,FB C σ (DW k (gM kv vv es) s.heap) b→FB C σ s.heap b:=by
  rintro b (hb2 | ⟨q,ob,hq,hb2⟩)
  ·exact .inl hb2
  ·rw[mY] at hq
   obtain⟨ob',hq',_⟩:=Option.map_eq_some_iff.1 hq
   exact .inr ⟨q,ob',hq',hb2⟩
 have hkc:jC w w' (FB C σ s.heap) (FB C σ (DW k (gM kv vv es) s.heap)):=fun ad u hf hu=>by
  have hne:ad.block≠r:=fun e=>by
   unfold World.cell? at hu
   rw[e,hr] at hu
   cases hu
  exact⟨by rw[World.cell?_of_block (hother _ hne)];exact hu,fun hx=>hf (hFB _ hx)⟩
 have hmpC:∀ (c:CV) (u:Value),(cE c=true∨ja k c=true)→VR w (FB C σ s.heap) σ c u→VR w' (FB C σ (DW k (gM kv vv es) s.heap)) σ (w9 k (gM kv vv es) c) u:=by
  intro c u hcn hvr
  unfold w9
  by_cases hi:ja k c=true
  ·rw[if_pos hi]
   cases c<;>simp only[ja,Bool.false_eq_true] at hi
   rename_i k' es'
   have:k'=k:=by simpa using hi
   subst this
   simp only[VR] at hvr ⊢
   obtain⟨B2,r2,arr2,clock2,m1,m2,m3,m4,m5,m6,m7⟩:=hvr
   rw[hB] at m1;cases m1
   rw[hb] at m2;cases m2
   exact⟨B,r,arr',clock',hB,hb,m3,hself,k2,nS hclo es hnd,fun hx=>m7 (hFB _ hx)⟩
  ·rw[if_neg hi]
   rcases hcn with hcn | hcn
   ·exact VR.jP hkc _ _ hcn hvr
   ·exact absurd hcn hi
 have hcells:∀ (cs:List CV) (us:List Value),(∀ c∈cs,cE c=true∨ja k c=true)→aQ w (FB C σ s.heap) σ cs us→aQ w' (FB C σ (DW k (gM kv vv es) s.heap)) σ (cs.map (w9 k (gM kv vv es))) us:=by
  intro cs
  induction cs with
  | nil=>intro us _ h;simpa only[List.map_nil,aQ] using h
  | cons c cs ih=>
   intro us hn h
   simp only[aQ] at h
   obtain⟨u,r,rfl,h1,h2⟩:=h
   simp only[List.map_cons,aQ]
   exact⟨u,r,rfl,hmpC c u (hn c List.mem_cons_self) h1,ih r (fun c hc=>hn c (List.mem_cons_of_mem _ hc)) h2⟩
 have h':aH C σ ⟨Fw k (gM kv vv es) s.env,DW k (gM kv vv es) s.heap,s.nx⟩ a w':=by
  refine⟨h.kO,h.tm,(by rw[← hw'];exact h.os),(by rw[← hw'];exact h.tape),(by rw[← hw'];exact h.output),by rw[hsz];exact h.size,?_,?_,?_,?_,h.nx,h.ek,h.low,h.new⟩
  ·intro j hj1 hj2
   rw[hother j (fun e=>?_)]
   ·exact h.frame j hj1 hj2
   ·subst e
    have hown:C.own j∨C.w0.heap.size≤j:=by
     by_cases hlt:C.n0≤k
     ·exact h.new k B j hlt hB hb
     ·rcases hk0 with hk0 | hk0
      ·exact (hlt hk0).elim
      ·exact hk0 B j (by rw[← h.ek k (by omega)];exact hB) hb
    rcases hown with n4 | n4
    ·exact hj2 n4
    ·omega
  ·intro t c hc
   obtain⟨d,hd',rfl⟩:=qf _ _ _ hc
   obtain⟨v,q1,q2⟩:=h.env t d hd'
   refine⟨v,q1,?_⟩
   rcases hok.1 _ (a7 _ _ _ hd') with (q | q) | q
   ·exact hmpC d v (.inl q) q2
   ·exact hmpC d v (.inr q) q2
   ·cases d<;>simp only[Eb,Bool.false_eq_true] at q
    simp only[ja,Bool.false_eq_true,if_false]
    simp only[VR] at q2 ⊢
    obtain⟨B2,r2,m1,m2,m3,m4,m5⟩:=q2
    have hne:r2≠r:=fun e=>by rw[e,hr] at m4;cases m4
    exact⟨B2,r2,m1,m2,m3,by rw[hother r2 hne];exact m4,fun hx=>m5 (hFB _ hx)⟩
  ·intro q y hq
   simp only[mY] at hq
   obtain⟨y0,hq0,rfl⟩:=Option.map_eq_some_iff.1 hq
   obtain⟨B2,m1,m2,m3,m4,m5⟩:=h.obj q y0 hq0
   refine⟨B2,m1,m2,fun hb2=>by simp[m3 hb2],by simp only[yO];exact m4,fun b2 hb2=>?_⟩
   obtain⟨cur2,q1,q2,q3,q4,q5,q6⟩:=m5 b2 hb2
   have hne:b2≠r:=fun e=>by subst e;rw[hr] at q1;cases q1
   simp only[List.length_map]
   exact⟨cur2,by rw[hother b2 hne];exact q1,q2,q3,q4,q5,hcells _ _ (fun c hc=>hok.2 _ (a7 _ _ _ hq0) c hc) q6⟩
  ·intro q q' y y' b2 hq hq' hx hx'
   simp only[mY] at hq hq'
   obtain⟨y0,h0,_⟩:=Option.map_eq_some_iff.1 hq
   obtain⟨y1,h1,_⟩:=Option.map_eq_some_iff.1 hq'
   exact h.inj q q' y0 y1 b2 h0 h1 hx hx'
 refine⟨w',.inr ⟨?_,σ,h'.del undef⟩⟩
 simp[execOp,ho,hv,hkv,hval,k1]
end
end Go.Can
namespace Go.Can
open Go.RowKit
def gQ (P:Program)(aj:List (Nat×TI))(f:FuncId)(args:List CV)(H:List (Nat×Ob))(n:Nat)(ks:List Nat)(R:CV→St→Prop):Prop:=
 ∃ fn c, P.funcs[f]? = some fn ∧ fn.body = some c ∧ (fn.name == "runtime.NumGoroutine") = false ∧ args.length ≤ fn.ntmps ∧
  ∀ C:Cx,C.nt=fn.ntmps→C.n0=n→(∀ k∈ks,∀ B b,C.σ0 k=some B→B.gK=some b→C.own b∨C.w0.heap.size≤b)→T P C c ⟨(enter args).env,H,n⟩ (AZ C aj fn R)
section
variable {P:Program}{C:Cx}{σ σ':Nat→Option OB}{s s':St}{a a':Act}{w w':World}{ops:Array Oper}{aj:List (Nat×TI)}
def pB (C:Cx)(w:World)(σ:Nat→Option OB)(ks:List Nat):Prop:=∀ k∈ks,∀ b,aJ σ k=some b→(∃ arr clock,w.heap[b]? = some (.map arr clock))∧(C.own b∨C.w0.heap.size≤b)
theorem pB.of (h:aH C σ s a w){ks:List Nat}(hk:∀ k∈ks,C.n0≤k∨∀ B b,C.σ0 k=some B→B.gK=some b→C.own b∨C.w0.heap.size≤b)(hp:∀ k∈ks,∃ o ob,assoc s.heap o=some ob∧ob.cells.any (ja k)=true):pB C w σ ks:=by
 intro k hkm b hb
 obtain⟨o,ob,ho,hc⟩:=hp k hkm
 obtain⟨c,hc1,hc2⟩:=List.any_eq_true.1 hc
 cases c<;>simp only[ja,Bool.false_eq_true] at hc2
 rename_i k' es
 have e:k'=k:=by simpa using hc2
 subst e
 obtain⟨B,m1,m2,m3,m4,m5⟩:=h.obj o ob ho
 cases hblk:B.gK with
 | none=>rw[m3 hblk] at hc1;cases hc1
 | some b0=>
  obtain⟨cur,n1,n2,n3,n4,n5,n6⟩:=m5 b0 hblk
  obtain⟨j,hj⟩:=List.getElem?_of_mem hc1
  obtain⟨v,hv1,hv2⟩:=aQ.get _ _ n6 j _ hj
  simp only[VR] at hv2
  obtain⟨B2,r,arr,clock,q1,q2,q3,q4,q5,q6,q7⟩:=hv2
  have er:r=b:=by
   have:B2.gK=some b:=by simpa [aJ,q1] using hb
   rw[q2] at this
   exact Option.some.inj this
  subst er
  refine⟨⟨arr,clock,q4⟩,?_⟩
  rcases hk k' hkm with h1 | h1
  ·exact h.new k' B2 r h1 q1 q2
  ·rcases Nat.lt_or_ge k' C.n0 with hlt | hge
   ·exact h1 B2 r (by rw[← h.ek k' hlt];exact q1) q2
   ·exact h.new k' B2 r hge q1 q2
end
end Go.Can
