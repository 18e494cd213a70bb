/- The configuration of a thread, as the program makes it. -/
import Derived.Test.YtmnglemlimfpbaaGreatZ47
namespace Go.Proofs.YtmnglemlimfpbaaGreat
open Go.Can Go.aX
theorem I9 {u:Un}(hu:l9 u):(ch u).is.length≤49∧∀ z∈(ch u).is,z.bf.length≤6∧Aj z.proc=true∧∀ n∈z.bf,Aj (n:Int)=true:=by
 obtain⟨hI,hpos⟩:=AU hu
 refine⟨j9 hu hI.nd hI.v,fun z hz=>?_⟩
 have h1:=hI.v z hz
 have h2:=IM hu h1
 obtain⟨⟨q,hq,_⟩,hm⟩:=h1
 have h3:=(List.getElem?_eq_some_iff.1 hq).1
 have h4:=hu.np
 have h5:=hu.nm
 have hin:∀ n:Nat,n<10→Aj (n:Int)=true:=fun n hn=>by simp only[Aj,Bool.and_eq_true,decide_eq_true_eq];omega
 exact⟨by omega,hin _ yA,fun n hn=>hin _ (by have:=hm n hn;omega)⟩
theorem Db {u:Un}(hu:l9 u){x:Is}(hx:x∈(ch u).is):ae Tryz.prog 31 [mU (ch u),.agg (fV x)] (I (eF (ch u).is x))∧ae Tryz.prog 33 [mU (ch u),.agg (fV x)] (I (eF (ch u).is x)):=by
 obtain⟨h1,h2⟩:=I9 hu
 obtain⟨_,h3,h4⟩:=h2 x hx
 have h5:=s7 x (ch u).is 0
 rw[if_pos hx] at h5
 have trs:=bW (ch u).roots
 have tc:tree (.av ((ch u).calls.map ints) (ch u).calls.length)=true:=by simp only[tree]
 have a1:=GF (ch u).is yA h2 (.av ((ch u).calls.map ints) (ch u).calls.length) (aW (ch u).roots) tc trs x.proc (x.bf.map fun n:Nat=>(n:Int)) h3 (fun n hn=>by
  rw[List.mem_map] at hn
  obtain⟨m,hm,rfl⟩:=hn
  exact h4 m hm)
 have a2:=FK (ch u).is yA (fun z hz=>by have:=(h2 z hz).1;omega) (.av ((ch u).calls.map ints) (ch u).calls.length) (aW (ch u).roots) tc trs x.proc (x.bf.map fun n:Nat=>(n:Int))
 rw[show ((0:Nat):Int)=0 from rfl] at h5
 rw[h5,Nat.add_zero] at a1 a2
 rw[← jV] at a1 a2
 exact⟨a1,a2⟩
def pV (p:Nat×Nat):List CV:=[I p.1,I p.2]
theorem qf (p:Nat×Nat):(pV p).length=2:=rfl
theorem jR (p:Nat×Nat):trees (pV p)=true:=rfl
def oQ (u:Un)(f:Fr):Nat×Nat:=(eF (ch u).is (jt u.ms f),f.pc)
def Hl (d:Nat)(l:List (Nat×Nat)):List CV:=[I d,.av (l.flatMap pV) l.length]
def Hk:Option (Nat×List (Nat×Nat))→CV
 | some x=>.cr [.agg (Hl x.1 x.2),.bool true]
 | none=>.cr [.agg [I 0,.av [] 0],.bool false]
def JM:Option (Nat×List (Nat×Nat))→CV
 | some x=>.iface 46 [.agg (Hl x.1 x.2)]
 | none=>.iface 0 []
def g9 (u:Un)(s:Sy)(t:Int)(m:Nat):Option (Nat×List (Nat×Nat)):=if t<0 then none else match s.ts[t.toNat]? with
 | none=>none
 | some l=>match u.ms[m]? with
  | none=>none
  | some x=>some (min (dL u.ms s.tb m t.toNat) (gI x),l.map (oQ u))
theorem Fg (o:Option (Nat×List (Nat×Nat))):tree (JM o)=true:=by
 cases o with
 | none=>rfl
 | some x=>simp only[JM,tree,trees,Hl,Bool.and_self]
def J39 (u:Un)(l:List Fr)(d:Nat)(n:Nat)(s:St):Prop:=∃ i:Nat,n=l.length-i∧i≤l.length∧
 s=⟨[(46,I i),(45,I l.length),(44,.av (l.flatMap e8) l.length),(11,.aw 18 0),(6,.aw 1 0),(5,.aw 0 0)],[(19,⟨103,2,((l.take i).map (oQ u)).flatMap pV⟩),(18,⟨46,0,[I d,.bx 19 0 i]⟩),(1,⟨34,0,oW (ch u)⟩),(0,⟨30,0,fy u⟩)],20⟩
set_option maxHeartbeats 2000000 in
theorem BM {u:Un}(hu:l9 u){k:Nat}(hk:k≤1000){s:Sy}(hs:pW u k s)(t:Int)(m:Nat)(hm:m<u.ms.length):ae Tryz.prog 39 [cS u,mU (ch u),cf s,I t,I m] (JM (g9 u s t m)):=by
 obtain⟨h1,h2,h3,h4,h5⟩:=hs.bounds hu hk
 have hmb:=kE hu
 obtain⟨x,hx⟩:∃ x,u.ms[m]? = some x:=⟨_,List.getElem?_eq_getElem hm⟩
 refine ae.aB ag Tryz.func39 rfl yAb (by simp[Tryz.ntmps39]) (Fg _) fun C hC hC0=>?_
 rw[Tryz.ntmps39] at hC
 have tG:trees (s.gs.map bM)=true:=aM s.gs
 have tT:trees (s.tb.flatMap cW)=true:=ai bV _
 have tS:trees (s.ts.flatMap dt)=true:=ai a9 _
 have tug:trees (u.gs.map bM)=true:=aM u.gs
 have tum:=dp u.ms
 have cr:trees (u.ps.flatMap oR)=true:=ai gN u.ps
 have tis:=ai bP (ch u).is
 have tcs:=gj (ch u).calls
 have trs:=aP (ch u).roots
 simp only[cf,ed,cS,fy,mU,oW,ints,aW]
 apply au
 simp[hC]
 by_cases h0:t<0
 ·have hn:g9 u s t m=none:=by simp[g9,h0]
  rw[hn]
  apply aJ
  simp[hC,h0]
  refine T.cond (b:=true) yAf ?_
  simp
  apply au
  simp[hC]
  apply T.ret
  apply aa.here
  simp[Tryz.results39,JM]
 ·obtain⟨j,rfl⟩:∃ j:Nat,t=j:=⟨t.toNat,by omega⟩
  by_cases hj:j<s.ts.length
  ·obtain⟨l,hl⟩:∃ l,s.ts[j]? = some l:=⟨_,List.getElem?_eq_getElem hj⟩
   have hn:g9 u s j m=some (min (dL u.ms s.tb m j) (gI x),l.map (oQ u)):=by simp[g9,hl,hx]
   rw[hn]
   have hde:=wV u.ms hmb s.tb m j x hx hs.tb yA fun h hh=>⟨by have:=(hs.hd h hh).1;omega,by have:=hs.ho h hh;omega⟩
   have hca:=Io x
   have hdx:=aE (f:=cq) (n:=3) fD hx
   have hdl:=DD hl
   have hng:¬ ((s.ts.length:Int)≤(j:Int)):=by omega
   have targ:trees [.av (u.ms.flatMap cq) u.ms.length,.av (s.tb.flatMap cW) s.tb.length,I m,I j]=true:=by simp only[trees,tree,Bool.and_self]
   have targ2:trees [.agg (cq x)]=true:=rfl
   have hmin:(if gI x<dL u.ms s.tb m j then (gI x:Int) else (dL u.ms s.tb m j:Int))=((min (dL u.ms s.tb m j) (gI x):Nat):Int):=by split<;>omega
   generalize dL u.ms s.tb m j=dd at hde hmin ⊢
   generalize hdm:min dd (gI x)=d at hmin ⊢
   apply aJ
   simp[hC,h0,hng]
   refine T.cond (b:=false) yAf (T.skip ?_)
   simp
   refine T.seq (T.rx ag follows [0,1,2,3,4,5,7,8,9,10,11,15,6,12,13,14,16] [(1,15),(3,15),(8,15),(8,6),(11,15),(11,6),(15,6),(15,12)] yAb ?_)
   simp[hC,hm,hdx,cq]
   refine RX.call rfl rfl rfl rfl rfl targ hde ?_
   simp
   refine RX.call rfl rfl rfl rfl rfl targ2 hca ?_
   simp[hmin]
   have tF:trees (l.flatMap e8)=true:=ai dr _
   have hlb:=h4 l (List.mem_of_getElem? hl)
   apply aJ
   simp[hC,hj,hdl,dt]
   refine T.le (Le.trim [46,45,44,11,6,5] [18,1,0] 19 yAt yA) ?_
   simp
   apply T.block
   refine T.aL (J39 u l d) (n:=l.length) ?_ ?_
   ·refine aa.le (Le.kz 18 1 103 2 rfl rfl) ?_
    simp
    refine aa.here ⟨0,by omega,by omega,?_⟩
    simp[fy,oW,ints,aW]
   ·rintro n σ ⟨i,rfl,hi,rfl⟩
    simp only[fy,oW,ints,aW]
    by_cases hil:i<l.length
    ·obtain⟨f,hfi⟩:∃ f,l[i]? = some f:=⟨_,List.getElem?_eq_getElem hil⟩
     have hfv:=hs.fr l (List.mem_of_getElem? hl) f (List.mem_of_getElem? hfi)
     obtain⟨q,hq,ln,hvl,hel⟩:=hfv.q
     have hqv:=hu.pr q (List.mem_of_getElem? hq)
     have hio:=xn hu f yA hfv.el
     have hfn:=(Db hu hfv.ic).1
     have targ3:trees [cS u,.agg (e8 f)]=true:=by
      have:=bR u
      simp only[trees,tree,cS,this,dr,Bool.and_self]
     have targ4:trees [mU (ch u),.agg (fV (jt u.ms f))]=true:=by
      simp only[trees,tree,mU,oW,aW,bP,Bool.and_self]
     have hdf:=aE (f:=e8) (n:=4) eK hfi
     have wi:=ct ((i:Int)+1) yA yA
     have htk:(l.take (i+1)).map (oQ u)=(l.take i).map (oQ u)++[(eF (ch u).is (jt u.ms f),f.pc)]:=by
      rw[List.take_add_one,hfi]
      simp[oQ]
     have hl1:((l.take i).map (oQ u)).length=i:=by simp;omega
     generalize (l.take i).map (oQ u)=B at hl1 htk
     have hBl:=aD qf B
     rw[hl1] at hBl
     have tB:trees (B.flatMap pV)=true:=ai jR _
     have bd:(i+1)*16≤140737488355328:=by omega
     have b2:i*2+2=(i+1)*2:=by omega
     have hng2:¬ ((eF (ch u).is (jt u.ms f):Nat):Int)<0:=by omega
     generalize eF (ch u).is (jt u.ms f)=ix at hfn htk hng2
     obtain⟨i1,i2,i3,i4⟩:∃ p ls n,fV (jt u.ms f)=[I p,.av ls n]∧trees ls=true:=⟨_,_,_,rfl,aP _⟩
     rw[i4.1] at hio hfn targ4
     simp only[cS,fy,mU,oW,ints,aW,e8] at hio hfn targ3 targ4
     apply au
     simp[hC,hil]
     refine T.seq (T.cond (b:=true) rfl (T.skip ?_))
     simp
     apply fq
     apply au
     simp[hC,hil,hdf,e8,ints,aW]
     refine T.seq (T.rx ag follows [0,1,2,3,4,5] [(0,3)] yAb ?_)
     simp[hC]
     refine RX.call rfl rfl rfl rfl rfl targ3 hio ?_
     simp
     refine RX.call rfl rfl rfl rfl rfl targ4 hfn ?_
     simp
     apply aJ
     simp[hC,hng2]
     refine e9 ?_
     simp
     apply aO
     simp[hC,hBl,bd,aI]
     apply aO
     simp[hC,wi]
     refine⟨l.length-(i+1),by omega,?_⟩
     have tBa:trees (B.flatMap pV++[I ix,I f.pc])=true:=by rw[aC,tB];rfl
     have rBa:=fun ρ=>af ρ _ tBa
     have r1:=fun ρ=>af ρ _ tF
     have r2:=fun ρ=>af ρ _ tug
     have r3:=fun ρ=>af ρ _ tum
     have r4:=fun ρ=>af ρ _ cr
     have r5:=fun ρ=>af ρ _ tis
     have r6:=fun ρ=>af ρ _ tcs
     have r7:=fun ρ=>af ρ _ trs
     refine aa.le (Le.norm [46,45,44,11,6,5] [(28,19),(18,18),(1,1),(0,0)] 0 20 yAl yAm yBq yA) ?_
     simp[dF,ca,bu,dU,gg,assoc,rBa]
     refine aa.here ⟨i+1,rfl,by omega,?_⟩
     rw[htk]
     simp[fy,oW,ints,aW,pV]
    ·have hie:i=l.length:=by omega
     subst hie
     rw[List.take_length]
     have tP:trees ((l.map (oQ u)).flatMap pV)=true:=ai jR _
     have tkP:List.take (l.length*2) ((l.map (oQ u)).flatMap pV)=(l.map (oQ u)).flatMap pV:=List.take_of_length_le (by rw[aD qf];simp)
     have hPl:(l.map (oQ u)).length=l.length:=by simp
     generalize l.map (oQ u)=B at tP tkP hPl ⊢
     apply au
     simp[hC]
     apply T.seq
     refine T.cond (b:=false) yAf ?_
     simp
     apply T.exit
     simp
     refine T.seq (T.region (TL.some ag 1 ?_))
     simp[hC]
     refine lU rfl (Ak (d:=.bK [(0,3),(1,44)]) (c:=.agg [I d,.bx 19 0 l.length]) ag yAc rfl yAa rfl (fun h=>by cases h)) (TL.go' ag ?_)
     simp[hC]
     apply T.ret
     refine aa.le (Le.trim [10] [19] 20 (by simp[-List.all_eq_true,-List.all_flatMap,-List.all_map,aj tP]) yA) ?_
     simp
     refine aa.le (Le.cG (o:=19) rfl tP) ?_
     simp[tkP]
     apply aa.here
     simp[JM,Hl,hPl]
  ·have hn:g9 u s j m=none:=by simp[g9,List.getElem?_eq_none (Nat.le_of_not_lt hj)]
   have hng:(s.ts.length:Int)≤(j:Int):=by omega
   rw[hn]
   apply aJ
   simp[hC,h0,hng]
   refine T.cond (b:=true) yAf ?_
   simp
   apply au
   simp[hC]
   apply T.ret
   apply aa.here
   simp[Tryz.results39,JM]
theorem zl (o:Option (Nat×List (Nat×Nat))):tree (Hk o)=true:=by
 cases o with
 | none=>rfl
 | some x=>simp only[Hk,tree,trees,Hl,Bool.and_self]
theorem zQ {u:Un}(hu:l9 u){k:Nat}(hk:k≤1000){s:Sy}(hs:pW u k s)(t:Int)(m:Nat)(hm:m<u.ms.length):ae Tryz.prog 14 [cS u,mU (ch u),cf s,I t,I m] (Hk (g9 u s t m)):=by
 have hpr:=BM hu hk hs t m hm
 have tis:=ai bP (ch u).is
 have tcs:=gj (ch u).calls
 have trs:=aP (ch u).roots
 have targ:trees [cS u,mU (ch u),cf s,I t,I m]=true:=by
  have:=bR u
  simp only[trees,tree,cS,this,mU,oW,aW,cf,ed,ints,Bool.and_self]
 refine ae.aB ag Tryz.func14 rfl yAb (by simp[Tryz.ntmps14]) (zl _) fun C hC hC0=>?_
 rw[Tryz.ntmps14] at hC
 simp only[cf,ed,cS,fy,mU,oW,ints,aW] at hpr targ ⊢
 generalize g9 u s t m=o at hpr ⊢
 apply au
 simp[hC]
 apply au
 simp[hC]
 cases o with
 | none=>
  refine TL.call yAc rfl rfl (bF.of rfl targ hpr) ?_
  refine lU rfl (Co (c:=.agg [I 0,.ah]) (z:=.agg #[.int .i64 0,.slice none 0 0]) ag yAc rfl (by simp[JM]) rfl (fun h=>by cases h) yAb rfl) (TL.go' ag ?_)
  simp[hC]
  apply au
  simp[hC]
  apply T.ret
  refine aa.le (Le.trim [10,11] [3] 4 yAa yA) ?_
  simp
  refine aa.le (Le.nz [] [3]) ?_
  apply aa.here
  simp[Hk]
 | some x=>
  have tP:trees (x.2.flatMap pV)=true:=ai jR _
  refine TL.call yAc rfl rfl (bF.of rfl targ hpr) ?_
  refine lU rfl (EJ (c:=.agg (Hl x.1 x.2)) ag yAc rfl (by simp[JM]) rfl (fun h=>by cases h)) (TL.go' ag ?_)
  simp[hC,Hl]
  apply au
  simp[hC]
  apply T.ret
  apply aa.here
  simp[Tryz.results14,Hk,Hl]
theorem Kz:xA Tryz.prog 3 2 103=true:=by kernel_rfl
theorem ptEq:EqT Tryz.prog 103 (pz 2):=Az yA Kz yAb
theorem ptEI:Jq Tryz.prog [⟨103,pz 2⟩]:=fun x hx=>by
 simp only[List.mem_cons,List.not_mem_nil,or_false] at hx
 subst hx
 exact ptEq
def LV (p:Nat×Nat):Value:=.agg #[.int .i64 p.1,.int .i64 p.2]
theorem MF {C:Cx}{s:St}{o:Oper}{x y:Operand}{q:TypeId}{p:Nat×Nat}(hd:aU C.nt o.dst=true)(ho:o.op=.binOp .neq 103 x y q)(hx:ev s x=some (.agg (pV p)))(hy:ev s y=some (.agg (pV p)))(h1:p.1≤1000000)(h2:p.2≤1000000):pQ Tryz.prog C o s (s.put o.dst (.bool false)):=by
 have hc:kg (.agg (pV p))=some (LV p):=rfl
 have hk:pz 2 (LV p)=true:=by
  simp[pz,LV,wI,Aj]
  omega
 have hv:y6 (LV p) (LV p)=true:=by simp[LV,y6,tv,zh]
 refine vf ptEI hd ?_
 simp only[Ay,ho,hx,hy,hc,K4,if_true,hk,and_self,hv,Bool.not_true]
def J16 (d:Nat)(l:List (Nat×Nat))(n:Nat)(s:St):Prop:=∃ i:Nat,n=l.length-i∧i≤l.length∧
 s=⟨[(5,I i),(3,.aw 1 0),(2,.aw 0 0)],[(1,⟨46,0,Hl d l⟩),(0,⟨46,0,Hl d l⟩)],2⟩
theorem MA (d:Nat)(l:List (Nat×Nat))(hl:l.length≤1000000)(hp:∀ p∈l,p.1≤1000000∧p.2≤1000000):ae Tryz.prog 16 [.agg (Hl d l),.agg (Hl d l)] (.bool true):=by
 have tP:trees (l.flatMap pV)=true:=ai jR _
 refine ae.aB ag Tryz.func16 rfl yAb (by simp[Tryz.ntmps16]) rfl fun C hC hC0=>?_
 rw[Tryz.ntmps16] at hC
 simp only[Hl]
 apply au
 simp[hC]
 apply aJ
 simp[hC]
 refine T.cond (b:=false) yAf (T.skip ?_)
 simp
 apply aJ
 simp[hC]
 apply T.block
 refine T.aL (J16 d l) (n:=l.length) ?_ ?_
 ·refine aa.trim [5,3,2] [1,0] 2 yAt yA ⟨0,by omega,by omega,?_⟩
  simp[Hl]
 ·rintro n s ⟨i,rfl,hi,rfl⟩
  simp only[Hl]
  by_cases hil:i<l.length
  ·obtain⟨p,hpi⟩:∃ p,l[i]? = some p:=⟨_,List.getElem?_eq_getElem hil⟩
   have hdp:=aE (f:=pV) (n:=2) qf hpi
   obtain⟨b1,b2⟩:=hp p (List.mem_of_getElem? hpi)
   have wi:=ct ((i:Int)+1) yA yA
   apply aJ
   simp[hC,hil]
   refine iv ?_
   simp
   apply fq
   refine T.seq (T.draw ag follows [] [0,1,2,3,4,5,6,7,8,9] [10] yAb (TH.go' ?_))
   simp[hC,hil,hdp,pV]
   refine lU rfl (MF (p:=p) yAc rfl (by simp[pV]) (by simp[pV]) b1 b2) (TL.nil ?_)
   simp
   refine e9 ?_
   simp
   apply aO
   simp[hC,wi]
   refine⟨l.length-(i+1),by omega,aa.trim [5,3,2] [1,0] 2 yAt yA ⟨i+1,rfl,by omega,?_⟩⟩
   simp[Hl]
  ·have hie:i=l.length:=by omega
   subst hie
   apply aJ
   simp[hC]
   refine T.cond (b:=false) yAf ?_
   simp
   apply T.exit
   simp
   apply au
   simp[hC]
   apply T.ret
   apply aa.here
   simp[Tryz.results16]
def J2 (u:Un)(s:Sy)(d i:Nat)(B:List (Nat×Nat)):List (Nat×Ob):=[(20,⟨103,2,B.flatMap pV⟩),(19,⟨46,0,[I d,.bx 20 0 i]⟩),(3,⟨46,0,[I 0,.ah]⟩),(2,⟨40,0,ed s⟩),(1,⟨34,0,oW (ch u)⟩),(0,⟨30,0,fy u⟩)]
def J3 (t:Nat)(i:Nat):List (Nat×CV):=[(13,I i),(12,.aw 19 0),(10,.aw 3 0),(7,.aw 2 0),(6,.aw 1 0),(5,.aw 0 0),(3,I t)]
def J15 (u:Un)(y:Sy)(t:Nat)(l:List Fr)(d:Nat)(n:Nat)(s:St):Prop:=∃ i:Nat,n=l.length-i∧i≤l.length∧
 s=⟨J3 t i,J2 u y d i ((l.take i).map (oQ u)),21⟩
def J15b (u:Un)(y:Sy)(t:Nat)(f:Fr)(d i:Nat)(B:List (Nat×Nat))(n:Nat)(s:St):Prop:=∃ j:Nat,n=f.ck.length-j∧j≤f.ck.length∧
 s=⟨(16,I j)::(15,.aw 22 0)::(14,.aw 21 0)::J3 t i,(23,fC ((f.ck.take j).map (hU u.ms)))::(22,⟨74,0,[I f.proc,.bx 23 0 j]⟩)::(21,⟨100,0,e8 f⟩)::J2 u y d i B,24⟩
set_option maxHeartbeats 4000000 in
theorem zE {u:Un}(hu:l9 u){k:Nat}(hk:k≤1000){s:Sy}(hs:pW u k s)(t:Int)(m:Nat)(hm:m<u.ms.length):ae Tryz.prog 15 [cS u,mU (ch u),cf s,I t,I m] (Hk (g9 u s t m)):=by
 obtain⟨h1,h2,h3,h4,h5⟩:=hs.bounds hu hk
 have hmb:=kE hu
 obtain⟨x,hx⟩:∃ x,u.ms[m]? = some x:=⟨_,List.getElem?_eq_getElem hm⟩
 refine ae.aB ag Tryz.func15 rfl yAb (by simp[Tryz.ntmps15]) (zl _) fun C hC hC0=>?_
 rw[Tryz.ntmps15] at hC
 have tG:trees (s.gs.map bM)=true:=aM s.gs
 have tT:trees (s.tb.flatMap cW)=true:=ai bV _
 have tS:trees (s.ts.flatMap dt)=true:=ai a9 _
 have tug:trees (u.gs.map bM)=true:=aM u.gs
 have tum:=dp u.ms
 have cr:trees (u.ps.flatMap oR)=true:=ai gN u.ps
 have tis:=ai bP (ch u).is
 have tcs:=gj (ch u).calls
 have trs:=aP (ch u).roots
 simp only[cf,ed,cS,fy,mU,oW,ints,aW]
 apply au
 simp[hC]
 by_cases h0:t<0
 ·have hn:g9 u s t m=none:=by simp[g9,h0]
  rw[hn]
  apply aJ
  simp[hC,h0]
  refine T.cond (b:=true) yAf ?_
  simp
  apply au
  simp[hC]
  apply T.ret
  refine aa.le (Le.trim [10,11] [3] 4 yAa yA) ?_
  simp
  refine aa.le (Le.nz [] [3]) ?_
  apply aa.here
  simp[Hk]
 ·obtain⟨j,rfl⟩:∃ j:Nat,t=j:=⟨t.toNat,by omega⟩
  by_cases hj:j<s.ts.length
  ·obtain⟨l,hl⟩:∃ l,s.ts[j]? = some l:=⟨_,List.getElem?_eq_getElem hj⟩
   have hn:g9 u s j m=some (min (dL u.ms s.tb m j) (gI x),l.map (oQ u)):=by simp[g9,hl,hx]
   rw[hn]
   have hde:=AG u.ms hmb s.tb m j hs.tb yA fun h hh=>by have:=(hs.hd h hh).1;omega
   have hca:=CF x
   have hdx:=aE (f:=cq) (n:=3) fD hx
   have hdl:=DD hl
   have hng:¬ ((s.ts.length:Int)≤(j:Int)):=by omega
   have targ:trees [.av (u.ms.flatMap cq) u.ms.length,.av (s.tb.flatMap cW) s.tb.length,I m,I j]=true:=by simp only[trees,tree,Bool.and_self]
   have targ2:trees [.agg (cq x)]=true:=rfl
   have hmin:(if gI x<dL u.ms s.tb m j then (gI x:Int) else (dL u.ms s.tb m j:Int))=((min (dL u.ms s.tb m j) (gI x):Nat):Int):=by split<;>omega
   generalize dL u.ms s.tb m j=dd at hde hmin ⊢
   generalize hdm:min dd (gI x)=d at hmin ⊢
   apply aJ
   simp[hC,h0,hng]
   refine T.cond (b:=false) yAf (T.skip ?_)
   simp
   refine T.seq (T.rx ag follows [0,1,2,3,4,5,7,8,9,10,11,15,6,12,13,14,16] [(1,15),(3,15),(8,15),(8,6),(11,15),(11,6),(15,6),(15,12)] yAb ?_)
   simp[hC,hm,hdx,cq]
   refine RX.call rfl rfl rfl rfl rfl targ hde ?_
   simp
   refine RX.call rfl rfl rfl rfl rfl targ2 hca ?_
   simp[hmin]
   have tF:trees (l.flatMap e8)=true:=ai dr _
   have hlb:=h4 l (List.mem_of_getElem? hl)
   apply aJ
   simp[hC]
   refine T.le (Le.trim [13,12,10,7,6,5,3] [19,3,2,1,0] 20 yAt yA) ?_
   simp
   apply T.block
   refine T.aL (J15 u s j l d) (n:=l.length) ?_ ?_
   ·refine aa.le (Le.kz 19 1 103 2 rfl rfl) ?_
    simp
    refine aa.here ⟨0,by omega,by omega,?_⟩
    simp[J3,J2,ed,fy,oW,ints,aW]
   ·rintro n σ ⟨i,rfl,hi,rfl⟩
    simp only[J3,J2,ed,fy,oW,ints,aW]
    have tB:trees (((l.take i).map (oQ u)).flatMap pV)=true:=ai jR _
    have hl1:((l.take i).map (oQ u)).length=i:=by simp;omega
    by_cases hil:i<l.length
    ·obtain⟨f,hfi⟩:∃ f,l[i]? = some f:=⟨_,List.getElem?_eq_getElem hil⟩
     have hfv:=hs.fr l (List.mem_of_getElem? hl) f (List.mem_of_getElem? hfi)
     obtain⟨q,hq,ln,hvl,hel⟩:=hfv.q
     have hqv:=hu.pr q (List.mem_of_getElem? hq)
     have hfn:=(Db hu hfv.ic).2
     have targ4:trees [mU (ch u),.agg (fV (jt u.ms f))]=true:=by
      simp only[trees,tree,mU,oW,aW,bP,Bool.and_self]
     have hdf:=aE (f:=e8) (n:=4) eK hfi
     have wi:=ct ((i:Int)+1) yA yA
     have htk:(l.take (i+1)).map (oQ u)=(l.take i).map (oQ u)++[(eF (ch u).is (jt u.ms f),f.pc)]:=by
      rw[List.take_add_one,hfi]
      simp[oQ]
     generalize (l.take i).map (oQ u)=B at hl1 htk tB
     have hBl:=aD qf B
     rw[hl1] at hBl
     have bd:(i+1)*16≤140737488355328:=by omega
     have b2:i*2+2=(i+1)*2:=by omega
     have hng2:¬ ((eF (ch u).is (jt u.ms f):Nat):Int)<0:=by omega
     generalize eF (ch u).is (jt u.ms f)=ix at hfn htk hng2
     have tV:=aM f.az
     have tE:=aP f.ck
     simp only[mU,oW,aW,fV,jt] at hfn targ4
     apply aJ
     simp[hC,hj,hdl,dt,hil]
     refine iv ?_
     simp
     apply fq
     apply au
     simp[hC,hj,hdl,dt,hil,hdf,e8,ints,aW]
     apply au
     simp[hC]
     apply aJ
     simp[hC]
     apply T.block
     refine T.aL (J15b u s j f d i B) (n:=f.ck.length) ?_ ?_
     ·refine aa.le (Le.trim [16,15,14,13,12,10,7,6,5,3] [22,21,20,19,3,2,1,0] 23 (by simp[-List.all_eq_true,-List.all_flatMap,-List.all_map,aj tB]) yA) ?_
      simp
      refine aa.le (Le.kz 22 1 3 1 rfl rfl) ?_
      simp
      refine aa.here ⟨0,by omega,by omega,?_⟩
      simp[J3,J2,ed,fy,oW,ints,aW,e8,fC]
     ·rintro n σ ⟨e,rfl,he,rfl⟩
      simp only[J3,J2,ed,fy,oW,ints,aW,e8,fC]
      have r1:=fun ρ=>af ρ _ tG
      have r2:=fun ρ=>af ρ _ tT
      have r3:=fun ρ=>af ρ _ tS
      have r4:=fun ρ=>af ρ _ tug
      have r5:=fun ρ=>af ρ _ tum
      have r6:=fun ρ=>af ρ _ cr
      have r7:=fun ρ=>af ρ _ tis
      have r8:=fun ρ=>af ρ _ tcs
      have r9:=fun ρ=>af ρ _ trs
      have r10:=fun ρ=>af ρ _ tB
      have r11:=fun ρ=>af ρ _ tV
      have r12:=fun ρ=>af ρ _ tE
      by_cases hel2:e<f.ck.length
      ·obtain⟨a,hai⟩:∃ a,f.ck[e]? = some a:=⟨_,List.getElem?_eq_getElem hel2⟩
       have hea:=hfv.el a (List.mem_of_getElem? hai)
       have hda:=j7 hai
       have hmu:=pD u.ms hmb a
       rw[rZ hea] at hmu
       have targ3:trees [.av (u.ms.flatMap cq) u.ms.length,I a]=true:=by simp only[trees,tree,Bool.and_self]
       have we:=ct ((e:Int)+1) yA yA
       have htk2:(f.ck.take (e+1)).map (hU u.ms)=(f.ck.take e).map (hU u.ms)++[hU u.ms a]:=by
        rw[List.take_add_one,hai]
        simp
       have hl2:((f.ck.take e).map (hU u.ms)).length=e:=by simp;omega
       generalize (f.ck.take e).map (hU u.ms)=W at hl2 htk2
       have bd2:(e+1)*8≤140737488355328:=by omega
       apply aJ
       simp[hC,hel2]
       refine iv ?_
       simp
       apply fq
       refine T.rx ag follows [0,1,2,3,4,5,6,7,8,9,10,11,12,13] [(1,9),(1,10)] yAb ?_
       simp[hC,hel2,hda]
       refine RX.call rfl rfl rfl rfl rfl targ3 hmu ?_
       simp[hl2,bd2,aI]
       apply aO
       simp[hC,we]
       refine⟨f.ck.length-(e+1),by omega,?_⟩
       have tWa:trees (W.map (fun n:Nat=>I n)++[I (hU u.ms a)])=true:=by rw[aC,aP];rfl
       have rWa:=fun ρ=>af ρ _ tWa
       refine aa.le (Le.norm [16,15,14,13,12,10,7,6,5,3] [(38,23),(22,22),(21,21),(20,20),(19,19),(3,3),(2,2),(1,1),(0,0)] 0 24 yAl yAm (by simp[eC,vV,sh,tree,assoc,-List.all_eq_true,-List.all_flatMap,aH tWa,aH tB]) yA) ?_
       simp[dF,ca,bu,dU,gg,assoc,rWa,r10]
       refine aa.here ⟨e+1,rfl,by omega,?_⟩
       rw[htk2]
       simp[J3,J2,ed,fy,oW,ints,aW,e8,fC]
      ·have hee:e=f.ck.length:=by omega
       subst hee
       rw[List.take_length]
       have tO:=aP (f.ck.map (hU u.ms))
       have tkO:List.take f.ck.length ((f.ck.map (hU u.ms)).map fun n:Nat=>I n)=(f.ck.map (hU u.ms)).map fun n:Nat=>I n:=List.take_of_length_le yAa
       have hWl:(f.ck.map (hU u.ms)).length=f.ck.length:=by simp
       generalize f.ck.map (hU u.ms)=W at tO tkO hWl hfn targ4
       rw[hWl] at hfn targ4
       apply aJ
       simp[hC]
       refine T.cond (b:=false) yAf ?_
       simp
       apply T.exit
       simp
       refine T.le (Le.trim [15,14,13,12,10,7,6,5,3] [23,22,21,20,19,3,2,1,0] 24 (by simp[-List.all_eq_true,-List.all_flatMap,-List.all_map,aj tB,aj tO]) yA) ?_
       simp
       refine T.le (Le.cG (o:=23) rfl tO) ?_
       simp[tkO,ak tB]
       apply au
       simp[hC]
       refine cH targ4 hfn ?_
       simp[hC]
       apply aJ
       simp[hC,hng2]
       refine e9 ?_
       simp
       apply aO
       simp[hC,hBl,bd,aI]
       apply aO
       simp[hC,wi]
       refine⟨l.length-(i+1),by omega,?_⟩
       have tBa:trees (B.flatMap pV++[I ix,I f.pc])=true:=by rw[aC,tB];rfl
       have rBa:=fun ρ=>af ρ _ tBa
       refine aa.le (Le.norm [13,12,10,7,6,5,3] [(25,20),(19,19),(3,3),(2,2),(1,1),(0,0)] 0 21 yAl yAm yBq yA) ?_
       simp[dF,ca,bu,dU,gg,assoc,rBa]
       refine aa.here ⟨i+1,rfl,by omega,?_⟩
       rw[htk]
       simp[J3,J2,ed,fy,oW,ints,aW,pV]
    ·have hie:i=l.length:=by omega
     subst hie
     rw[List.take_length]
     have tP:trees ((l.map (oQ u)).flatMap pV)=true:=ai jR _
     have tkP:List.take (l.length*2) ((l.map (oQ u)).flatMap pV)=(l.map (oQ u)).flatMap pV:=List.take_of_length_le (by rw[aD qf];simp)
     have hPl:(l.map (oQ u)).length=l.length:=by simp
     generalize l.map (oQ u)=B at tP tkP hPl ⊢
     apply aJ
     simp[hC,hj,hdl,dt]
     refine T.cond (b:=false) yAf ?_
     simp
     apply T.exit
     simp
     apply au
     simp[hC]
     apply T.ret
     refine aa.le (Le.trim [10,11] [3,20] 21 (by simp[-List.all_eq_true,-List.all_flatMap,-List.all_map,aj tP]) yA) ?_
     simp
     refine aa.le (Le.cG (o:=20) rfl tP) ?_
     simp[tkP]
     apply aa.here
     simp[Hk,Hl,hPl]
  ·have hn:g9 u s j m=none:=by simp[g9,List.getElem?_eq_none (Nat.le_of_not_lt hj)]
   have hng:(s.ts.length:Int)≤(j:Int):=by omega
   rw[hn]
   apply aJ
   simp[hC,h0,hng]
   refine T.cond (b:=true) yAf ?_
   simp
   apply au
   simp[hC]
   apply T.ret
   refine aa.le (Le.trim [10,11] [3] 4 yAa yA) ?_
   simp
   refine aa.le (Le.nz [] [3]) ?_
   apply aa.here
   simp[Hk]
theorem qT {α:Type}(f:α→List CV){l:List α}{i:Nat}{x:α}(h:l[i]? = some x):(l.take i).flatMap f++f x=(l.take (i+1)).flatMap f:=by
 rw[List.take_add_one,h,List.flatMap_append]
 simp
def J77 (e:Ex)(n:Nat)(s:St):Prop:=∃ i:Nat,n=e.args.length-i∧i≤e.args.length∧
 s=⟨[(11,I i),(10,I e.args.length),(9,.av (e.args.flatMap aZ) e.args.length),(2,.aw 1 0),(1,.aw 0 0)],[(2,⟨64,4,(e.args.take i).flatMap aZ⟩),(1,⟨64,0,[I 0,I 0,.str eS,.ah]⟩),(0,⟨64,0,[I e.op,I e.n,.str e.name,.bx 2 0 i]⟩)],3⟩
theorem Ex.HA (e:Ex):e.args.length≤2:=by cases e<;>simp[Ex.args]
set_option maxHeartbeats 2000000 in
theorem Gh (e:Ex)(ih:∀ a∈e.args,ae Tryz.prog 77 [.agg (aZ a)] (.agg (aZ a))):ae Tryz.prog 77 [.agg (aZ e)] (.agg (aZ e)):=by
 have hlen:=Ex.HA e
 have tA:trees (e.args.flatMap aZ)=true:=ai aN _
 have htr:tree (.agg (aZ e))=true:=by simp only[tree,aN]
 refine ae.aB ag Tryz.func77 rfl yAb (by simp[Tryz.ntmps77]) htr fun C hC hC0=>?_
 rw[Tryz.ntmps77] at hC
 rw[bL e]
 apply au
 simp[hC]
 apply au
 simp[hC]
 apply au
 simp[hC]
 apply aJ
 simp[hC]
 apply T.block
 refine T.aL (J77 e) (n:=e.args.length) ?_ ?_
 ·refine aa.le (Le.kz 0 3 64 4 rfl rfl) ?_
  simp
  refine aa.trim [11,10,9,2,1] [2,1,0] 3 yAt yA ⟨0,by omega,by omega,?_⟩
  simp[eS]
 ·rintro n s ⟨i,rfl,hi,rfl⟩
  by_cases hil:i<e.args.length
  ·obtain⟨a,hai⟩:∃ a,e.args[i]? = some a:=⟨_,List.getElem?_eq_getElem hil⟩
   have hxa:=ih a (List.mem_of_getElem? hai)
   have targ:trees [.agg (aZ a)]=true:=by simp only[trees,tree,aN,Bool.and_self]
   have hda:=aE (f:=aZ) (n:=4) bk hai
   have hla:=aD bk (e.args.take i)
   have htk:=qT aZ hai
   have wi:=ct ((i:Int)+1) yA yA
   obtain⟨a1,a2,a3,a4,a5,hea,tea⟩:=gE a
   rw[hea] at hda hxa targ htk
   have tB:trees ((e.args.take i).flatMap aZ)=true:=ai aN _
   have tC:trees ((e.args.take (i+1)).flatMap aZ)=true:=ai aN _
   have hl1:(e.args.take i).length=i:=by simp;omega
   rw[hl1] at hla
   have b1:(i+1)*56≤140737488355328:=by omega
   have b2:i*4+4=(i+1)*4:=by omega
   generalize (e.args.take i).flatMap aZ=B at hla htk tB
   apply au
   simp[hC,hil]
   refine T.seq (T.cond (b:=true) rfl (T.skip ?_))
   simp
   apply fq
   apply au
   simp[hC,hil,hda]
   refine T.rx ag follows [0,1,2,3,4,5,6,7] [(1,3),(1,4)] yAb ?_
   simp[hC]
   refine RX.call rfl rfl rfl rfl rfl targ hxa ?_
   simp[hla,b1,aI]
   apply aO
   simp[hC,wi]
   refine⟨e.args.length-(i+1),by omega,?_⟩
   have tBa:trees (B++[I a1,I a2,.str a3,.av a4 a5])=true:=by rw[htk];exact tC
   have rBa:=fun ρ=>af ρ _ tBa
   have rA:=fun ρ=>af ρ _ tA
   refine aa.le (Le.norm [11,10,9,2,1] [(12,2),(1,1),(0,0)] 0 3 yAl yAm yBq yA) ?_
   simp[dF,ca,bu,dU,gg,assoc,rBa]
   refine aa.here ⟨i+1,rfl,by omega,?_⟩
   rw[← htk]
   simp
  ·have hie:i=e.args.length:=by omega
   subst hie
   apply au
   simp[hC]
   apply T.seq
   refine T.cond (b:=false) yAf ?_
   simp
   apply T.exit
   simp
   apply au
   simp[hC]
   apply T.ret
   have hkA:List.take (e.args.length*4) (e.args.flatMap aZ)=e.args.flatMap aZ:=List.take_of_length_le (by rw[aD bk];omega)
   refine aa.le (Le.trim [2] [1,2] 3 (by simp[-List.all_eq_true,-List.all_flatMap,-List.all_map,aj tA]) yA) ?_
   simp
   refine aa.le (Le.cG (o:=2) rfl tA) ?_
   simp[hkA]
   apply aa.here
   simp
theorem Ex.Jk:∀ (e a:Ex),a∈e.args→SizeOf.sizeOf a<SizeOf.sizeOf e
 | .un _ e,a,h=>by
  simp only[Ex.args,List.mem_singleton] at h
  subst h
  simp
  omega
 | .bin _ x y,a,h=>by
  simp only[Ex.args,List.mem_cons,List.not_mem_nil,or_false] at h
  rcases h with rfl | rfl<;>simp<;>omega
 | .zero,a,h=>by cases h
 | .num _,a,h=>by cases h
 | .nm _,a,h=>by cases h
 | .loc _,a,h=>by cases h
 | .ji _,a,h=>by cases h
theorem uM (e:Ex):ae Tryz.prog 77 [.agg (aZ e)] (.agg (aZ e)):=
 Gh e fun a _ha=>uM a
termination_by SizeOf.sizeOf e
decreasing_by exact Ex.Jk e a _ha
def J79 (l:List Ex)(n:Nat)(s:St):Prop:=∃ i:Nat,n=l.length-i∧i≤l.length∧
 s=⟨[(8,I i),(7,I l.length),(6,.av (l.flatMap aZ) l.length),(3,.bx 0 0 i)],[(0,⟨64,4,(l.take i).flatMap aZ⟩)],1⟩
set_option maxHeartbeats 2000000 in
theorem xg (l:List Ex)(hl:l.length≤1000):ae Tryz.prog 79 [.av (l.flatMap aZ) l.length] (.av (l.flatMap aZ) l.length):=by
 have tA:trees (l.flatMap aZ)=true:=ai aN _
 have htr:tree (.av (l.flatMap aZ) l.length)=true:=by simp only[tree]
 refine ae.aB ag Tryz.func79 rfl yAb (by simp[Tryz.ntmps79]) htr fun C hC hC0=>?_
 rw[Tryz.ntmps79] at hC
 apply au
 simp[hC]
 apply au
 simp[hC]
 apply aJ
 simp[hC]
 apply T.block
 refine T.aL (J79 l) (n:=l.length) ?_ ?_
 ·refine aa.le (Le.own 3 64 4 rfl) ?_
  simp[St.own]
  refine aa.trim [8,7,6,3] [0] 1 yAt yA ⟨0,by omega,by omega,?_⟩
  simp
 ·rintro n s ⟨i,rfl,hi,rfl⟩
  by_cases hil:i<l.length
  ·obtain⟨a,hai⟩:∃ a,l[i]? = some a:=⟨_,List.getElem?_eq_getElem hil⟩
   have hxa:=uM a
   have targ:trees [.agg (aZ a)]=true:=by simp only[trees,tree,aN,Bool.and_self]
   have hda:=aE (f:=aZ) (n:=4) bk hai
   have hla:=aD bk (l.take i)
   have htk:=qT aZ hai
   have wi:=ct ((i:Int)+1) yA yA
   obtain⟨a1,a2,a3,a4,a5,hea,tea⟩:=gE a
   rw[hea] at hda hxa targ htk
   have tB:trees ((l.take i).flatMap aZ)=true:=ai aN _
   have tC:trees ((l.take (i+1)).flatMap aZ)=true:=ai aN _
   have hl1:(l.take i).length=i:=by simp;omega
   rw[hl1] at hla
   have b1:(i+1)*56≤140737488355328:=by omega
   have b2:i*4+4=(i+1)*4:=by omega
   generalize (l.take i).flatMap aZ=B at hla htk tB
   apply au
   simp[hC,hil]
   refine T.seq (T.cond (b:=true) rfl (T.skip ?_))
   simp
   apply fq
   apply au
   simp[hC,hil,hda]
   apply aO
   simp[hC]
   refine cH targ hxa ?_
   simp[hC,hla,b1,aI]
   apply aO
   simp[hC,wi]
   refine⟨l.length-(i+1),by omega,?_⟩
   have tBa:trees (B++[I a1,I a2,.str a3,.av a4 a5])=true:=by rw[htk];exact tC
   have rBa:=fun ρ=>af ρ _ tBa
   have rA:=fun ρ=>af ρ _ tA
   refine aa.le (Le.norm [8,7,6,3] [(3,0)] 0 1 yAl yAm yBq yA) ?_
   simp[dF,ca,dU,gg,assoc,rBa]
   refine aa.here ⟨i+1,rfl,by omega,?_⟩
   rw[← htk]
   simp
  ·have hie:i=l.length:=by omega
   subst hie
   apply au
   simp[hC]
   apply T.seq
   refine T.cond (b:=false) yAf ?_
   simp
   apply T.exit
   simp
   apply au
   simp[hC]
   apply T.ret
   have hkA:List.take (l.length*4) (l.flatMap aZ)=l.flatMap aZ:=List.take_of_length_le (by rw[aD bk];omega)
   refine aa.le (Le.trim [2] [0] 1 (by simp[-List.all_eq_true,-List.all_flatMap,-List.all_map,aj tA]) yA) ?_
   simp
   refine aa.le (Le.cG (o:=0) rfl tA) ?_
   simp[hkA]
   apply aa.here
   simp
def Jv (p:Pl):List Ex:=match p.at_ with
 | some e=>[e]
 | none=>[]
theorem It (p:Pl):mZ p.at_=.av ((Jv p).flatMap aZ) (Jv p).length:=by
 unfold Jv
 cases p.at_<;>simp[mZ]
theorem Im (p:Pl):(Jv p).length≤1:=by
 unfold Jv
 cases p.at_<;>simp
theorem xd (p:Pl):ae Tryz.prog 78 [.agg (gz p)] (.agg (gz p)):=by
 have hx:=xg (Jv p) (by have:=Im p;omega)
 have targ:trees [.av ((Jv p).flatMap aZ) (Jv p).length]=true:=by simp only[trees,tree,Bool.and_self]
 have htr:tree (.agg (gz p))=true:=by simp only[tree,cV]
 refine ae.aB ag Tryz.func78 rfl yAb (by simp[Tryz.ntmps78]) htr fun C hC hC0=>?_
 rw[Tryz.ntmps78] at hC
 simp only[gz,It]
 apply au
 simp[hC]
 apply au
 simp[hC]
 refine cH targ hx ?_
 simp[hC]
 apply au
 simp[hC]
 apply T.ret
 apply aa.here
 simp[Tryz.results78]
def xV:Option Fr→CV
 | some f=>.cM (e8 f)
 | none=>.bm
theorem Il (s:Sy)(t:Int)(hb:s.ts.length≤1000000∧∀ l∈s.ts,l.length≤1000000):ae Tryz.prog 76 [cf s,I t] (xV (cT s t)):=by
 have htr:tree (xV (cT s t))=true:=by cases cT s t<;>rfl
 refine ae.aB ag Tryz.func76 rfl yAb (by simp[Tryz.ntmps76]) htr fun C hC hC0=>?_
 rw[Tryz.ntmps76] at hC
 simp only[cf,ed,ints]
 apply au
 simp[hC]
 by_cases hf:s.fault=0
 ·by_cases h0:t<0
  ·have hn:cT s t=none:=by simp[cT,h0]
   rw[hn]
   apply aJ
   simp[hC,hf,h0]
   refine T.cond (b:=true) yAf ?_
   simp
   apply au
   simp[hC]
   apply T.ret
   apply aa.here
   simp[Tryz.results76,xV]
  ·obtain⟨k,rfl⟩:∃ k:Nat,t=k:=⟨t.toNat,by omega⟩
   by_cases hk:k<s.ts.length
   ·obtain⟨l,hl⟩:∃ l,s.ts[k]? = some l:=⟨_,List.getElem?_eq_getElem hk⟩
    have hdl:=DD hl
    have hng:¬ (s.ts.length≤k):=by omega
    have hlb:=hb.2 l (List.mem_of_getElem? hl)
    by_cases hl0:l=[]
    ·have hn:cT s k=none:=by simp[cT,hl,hl0]
     rw[hn]
     subst hl0
     apply aJ
     simp[hC,hf,h0,hng,hk,hdl,dt]
     refine T.cond (b:=true) yAf ?_
     simp
     apply au
     simp[hC]
     apply T.ret
     apply aa.here
     simp[Tryz.results76,xV]
    ·have hlp:0<l.length:=List.length_pos_iff.2 hl0
     have hlz:((l.length:Int) == 0)=false:=by rw[beq_eq_false_iff_ne];omega
     obtain⟨f,hfl⟩:∃ f,l[l.length-1]? = some f:=⟨_,List.getElem?_eq_getElem yA⟩
     have hn:cT s k=some f:=by simp[cT,hl,hf,List.getLast?_eq_getElem?,hfl]
     rw[hn]
     have hdf:=aE (f:=e8) (n:=4) eK hfl
     rw[show l.length-1+1=l.length by omega,List.drop_length,List.flatMap_nil,List.append_nil] at hdf
     have wl:=ct ((l.length-1:Nat):Int) yA yA
     have hc1:((l.length:Int)-1)=((l.length-1:Nat):Int):=by omega
     have hlt:l.length-1<l.length:=by omega
     apply aJ
     simp[hC,hf,h0,hng,hk,hdl,dt,hlz]
     refine T.cond (b:=false) yAf (T.skip ?_)
     simp
     apply au
     simp[hC,hk,hdl,dt]
     apply au
     simp[hC,hc1,wl,hlt,hdf,e8]
     apply T.ret
     apply aa.here
     simp[Tryz.results76,xV,e8]
   ·have hn:cT s k=none:=by simp[cT,List.getElem?_eq_none (Nat.le_of_not_lt hk)]
    have hng:s.ts.length≤k:=by omega
    rw[hn]
    apply aJ
    simp[hC,hf,h0,hng]
    refine T.cond (b:=true) yAf ?_
    simp
    apply au
    simp[hC]
    apply T.ret
    apply aa.here
    simp[Tryz.results76,xV]
 ·have hn:cT s t=none:=by simp[cT,hf]
  rw[hn]
  have hf2:((s.fault:Int) != 0)=true:=by rw[bne_iff_ne];omega
  apply aJ
  simp[hC,hf2]
  refine T.cond (b:=true) yAf ?_
  simp
  apply au
  simp[hC]
  apply T.ret
  apply aa.here
  simp[Tryz.results76,xV]
def iT:In→Nat
 | .set t _ _=>t
 | .call _ t _ _=>t
 | .branch t _=>t
 | .jump t=>t
 | _=>0
def iG:In→Bool
 | .set _ g _=>g
 | _=>false
def inE:In→Ex
 | .set _ _ e=>e
 | .branch _ e=>e
 | _=>.zero
def iP:In→Pl
 | .lock _ p=>p
 | _=>⟨false,0,none⟩
def iL:In→List Ex
 | .call _ _ l _=>l
 | _=>[]
def iQ:In→List Pl
 | .call _ _ _ l=>l
 | _=>[]
theorem El (z:In):dv z=[I (Bi z),I (iT z),.bool (iG z)]++aZ (inE z)++gz (iP z)++[.av ((iL z).flatMap aZ) (iL z).length,.av ((iQ z).flatMap gz) (iQ z).length]:=by
 cases z<;>simp[dv,Bi,iT,iG,inE,iP,iL,iQ,oz,gz,mZ]
def J44 (l:List Pl)(o t:Int)(g:Bool)(a1 a2:Int)(a3:ByteArray)(a4:List CV)(a5:Nat)(p1:Bool)(p2:Int)(p3:List CV)(p4:Nat)(L:List CV)(Ln:Nat)(n:Nat)(s:St):Prop:=∃ i:Nat,n=l.length-i∧i≤l.length∧
 s=⟨[(51,I i),(50,I l.length),(49,.av (l.flatMap gz) l.length),(9,.aw 18 0),(7,.bool false),(6,.aw 2 0)],[(19,⟨66,3,(l.take i).flatMap gz⟩),(18,⟨69,0,[I o,I t,.bool g,I a1,I a2,.str a3,.av a4 a5,.bool p1,I p2,.av p3 p4,.av L Ln,.bx 19 0 i]⟩),(2,⟨69,0,[I 0,I 0,.bool false,I 0,I 0,.str eS,.ah,.bool false,I 0,.ah,.ah,.ah]⟩)],20⟩
set_option maxHeartbeats 2000000 in
theorem DZ (u:Un)(s:Sy)(t:Int)(hb:s.ts.length≤1000000∧∀ l∈s.ts,l.length≤1000000)(hf:sO u s)(hz:∀ z,dX u s t=some z→(iL z).length≤1000∧(iQ z).length≤1000):ae Tryz.prog 44 [cS u,cf s,I t] (jw (dX u s t)):=by
 have htp:=Il s t hb
 have htr:tree (jw (dX u s t))=true:=by
  cases dX u s t with
  | none=>rfl
  | some i=>simp only[jw,tree,trees,iA,Bool.and_self]
 have tun:=bR u
 simp only[fy,ints] at tun
 have tsy:trees [cf s,I t]=true:=by simp only[trees,tree,cf,ed,ints,Bool.and_self]
 refine ae.aB ag Tryz.func44 rfl yAb (by simp[Tryz.ntmps44]) htr fun C hC hC0=>?_
 rw[Tryz.ntmps44] at hC
 simp only[cf,ed,cS,fy,ints] at htp tsy ⊢
 apply au
 simp[hC]
 apply au
 simp[hC]
 refine cH tsy htp ?_
 cases hto:cT s t with
 | none=>
  have hn:dX u s t=none:=by simp[dX,hto]
  rw[hn]
  simp[hC,xV]
  apply aJ
  simp[hC]
  refine dN ?_
  simp
  apply au
  simp[hC]
  apply T.ret
  refine aa.le (Le.trim [6,7] [2] 3 yAa yA) ?_
  simp
  refine aa.le (Le.nz [] [2]) ?_
  apply aa.here
  simp[jw,eS]
 | some f=>
  obtain⟨l,hl1,hl2⟩:=zp hto
  obtain⟨q,hq,ln⟩:=hf l hl1 f hl2
  obtain⟨z,hzi⟩:∃ z,q.code[f.pc]? = some z:=⟨_,List.getElem?_eq_getElem ln⟩
  have hn:dX u s t=some z:=by simp[dX,hto,hq,hzi]
  obtain⟨hz1,hz2⟩:=hz z hn
  rw[hn]
  have hpl:=(List.getElem?_eq_some_iff.1 hq).1
  have hdr:=cB (f:=oR) (n:=5) kJ hq 4 yA
  have hdc:=aE (f:=dv) (n:=12) jI hzi
  have hip:=El z
  have hxe:=uM (inE z)
  have hxp:=xd (iP z)
  have hxl:=xg (iL z) hz1
  have te:trees [.agg (aZ (inE z))]=true:=by simp only[trees,tree,aN,Bool.and_self]
  have tp:trees [.agg (gz (iP z))]=true:=by simp only[trees,tree,cV,Bool.and_self]
  have tl:trees [.av ((iL z).flatMap aZ) (iL z).length]=true:=by simp only[trees,tree,Bool.and_self]
  obtain⟨a1,a2,a3,a4,a5,hea,tea⟩:=gE (inE z)
  obtain⟨p1,p2,p3,p4,hpc',tpc⟩:=nI (iP z)
  rw[hea,hpc'] at hip
  rw[hea] at hxe te
  rw[hpc'] at hxp tp
  simp only[List.cons_append,List.nil_append] at hip
  rw[hip] at hdc
  simp[hC,xV,e8]
  apply aJ
  simp[hC]
  refine e9 ?_
  simp
  refine T.seq (T.rx ag follows [0,1,2,3,4,5,6,7,8,9,10,11,12,13,14,15,16] [(1,15),(5,15),(8,15),(12,15),(14,15)] yAb ?_)
  simp[hC,hpl,hdr,oR,ln,hdc]
  refine T.seq (T.rx ag follows [0,1,3,4,6,7,2,9,5,8,10,11,12,13,14] [(4,2),(7,2),(7,5)] yAb ?_)
  simp[hC]
  refine RX.call rfl rfl rfl rfl rfl te hxe ?_
  simp
  refine RX.call rfl rfl rfl rfl rfl tp hxp ?_
  simp
  refine RX.call rfl rfl rfl rfl rfl tl hxl ?_
  simp
  have tL:trees ((iL z).flatMap aZ)=true:=ai aN _
  have tQ:trees ((iQ z).flatMap gz)=true:=ai cV _
  apply au
  simp[hC]
  apply au
  simp[hC]
  apply aJ
  simp[hC]
  apply T.block
  refine T.le (Le.trim [51,50,49,9,7,6] [18,2] 19 yAt yA) ?_
  simp
  refine T.aL (J44 (iQ z) (Bi z) (iT z) (iG z) a1 a2 a3 a4 a5 p1 p2 p3 p4 ((iL z).flatMap aZ) (iL z).length) (n:=(iQ z).length) ?_ ?_
  ·refine aa.le (Le.kz 18 11 66 3 rfl rfl) ?_
   simp
   refine aa.here ⟨0,by omega,by omega,?_⟩
   simp[eS]
  ·rintro n s ⟨i,rfl,hi,rfl⟩
   by_cases hil:i<(iQ z).length
   ·obtain⟨a,hai⟩:∃ a,(iQ z)[i]? = some a:=⟨_,List.getElem?_eq_getElem hil⟩
    have hxa:=xd a
    have targ:trees [.agg (gz a)]=true:=by simp only[trees,tree,cV,Bool.and_self]
    have hda:=aE (f:=gz) (n:=3) kK hai
    have hla:=aD kK ((iQ z).take i)
    have htk:=qT gz hai
    have wi:=ct ((i:Int)+1) yA yA
    obtain⟨c1,c2,c3,c4,hca,tca⟩:=nI a
    rw[hca] at hda hxa targ htk
    have tB:trees (((iQ z).take i).flatMap gz)=true:=ai cV _
    have tC:trees (((iQ z).take (i+1)).flatMap gz)=true:=ai cV _
    have hl1:((iQ z).take i).length=i:=by simp;omega
    rw[hl1] at hla
    have b1:(i+1)*40≤140737488355328:=by omega
    have b2:i*3+3=(i+1)*3:=by omega
    generalize ((iQ z).take i).flatMap gz=B at hla htk tB
    apply au
    simp[hC,hil]
    refine T.seq (T.cond (b:=true) rfl (T.skip ?_))
    simp
    apply fq
    apply au
    simp[hC,hil,hda]
    refine T.rx ag follows [0,1,2,3,4,5,6,7] [(1,3),(1,4)] yAb ?_
    simp[hC]
    refine RX.call rfl rfl rfl rfl rfl targ hxa ?_
    simp[hla,b1,aI]
    apply aO
    simp[hC,wi]
    refine⟨(iQ z).length-(i+1),by omega,?_⟩
    have tBa:trees (B++[.bool c1,I c2,.av c3 c4])=true:=by rw[htk];exact tC
    have rBa:=fun ρ=>af ρ _ tBa
    have rL:=fun ρ=>af ρ _ tL
    have rQ:=fun ρ=>af ρ _ tQ
    have r4:=fun ρ=>af ρ _ tea
    have r5:=fun ρ=>af ρ _ tpc
    refine aa.le (Le.norm [51,50,49,9,7,6] [(29,19),(18,18),(2,2)] 0 20 yAl yAm yBq yA) ?_
    simp[dF,ca,bu,dU,gg,assoc,rBa]
    refine aa.here ⟨i+1,rfl,by omega,?_⟩
    rw[← htk]
    simp
   ·have hie:i=(iQ z).length:=by omega
    subst hie
    apply au
    simp[hC]
    apply T.seq
    refine T.cond (b:=false) yAf ?_
    simp
    apply T.exit
    simp
    apply au
    simp[hC]
    apply T.ret
    have hkA:List.take ((iQ z).length*3) ((iQ z).flatMap gz)=(iQ z).flatMap gz:=List.take_of_length_le (by rw[aD kK];omega)
    refine aa.le (Le.trim [6,7] [2,19] 20 (by simp[-List.all_eq_true,-List.all_flatMap,-List.all_map,aj tQ]) yA) ?_
    simp
    refine aa.le (Le.cG (o:=19) rfl tQ) ?_
    simp[hkA]
    apply aa.here
    simp[jw,hip]
end Go.Proofs.YtmnglemlimfpbaaGreat
