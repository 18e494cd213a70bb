/- The program's Close. | Sites drawn from raw numbers. | The law InstanceCallee. | A nil slice reads as an empty one, however deep. No function of the program is mentioned here. | The interpreter's parameters for this program, and that they are right. -/
import Derived.Test.YtmnglemlimfpbaaGreatZ47
import Derived.Test.YtmnglemlimfpbaaGreatZ48
import Derived.Test.YtmnglemlimfpbaaGreatZ46
import Derived.Test.YtmnglemlimfpbaaGreatZ26
import Derived.Test.YtmnglemlimfpbaaGreatZ18
namespace Go.bg
open Go.Can
theorem vw (x:Is):∀ (c:List In) (l:List Is) (r:List Nat),r.length≤(ov x c l r).2.2.length∧(ov x c l r).2.2.length≤r.length+c.length
 | [],_,_=>by simp[ov]
 | i::c,l,r=>by
  cases h:eT x i with
  | none=>
   have:=vw x c l r
   simp only[ov,h,List.length_cons]
   omega
  | some y=>
   have:=vw x c (cK l y) (if gx i=true then r++[cM (cK l y) y] else r)
   have h2:r.length≤(if gx i=true then r++[cM (cK l y) y] else r).length∧(if gx i=true then r++[cM (cK l y) y] else r).length≤r.length+1:=by split<;>simp
   simp only[ov,h,List.length_cons]
   omega
end Go.bg
namespace Go.Proofs.YtmnglemlimfpbaaGreat
open Go.Can Go.bg
def J20 (u:Un)(m:Nat)(s:St):Prop:=∃ i l cs r,m=100-i∧i≤l.length∧cs.length=i∧r.length≤200*(i+1)∧0<r.length∧lR u l∧km u (100-i) i l cs (gL r)=gE u∧
 s=⟨[(5,I i),(4,.aq 0 0),(2,.aq 5 0)],qN u l 1 cs.length r.length (ez cs) (dP r) (dv u l)++[(5,fL)],6⟩
set_option maxHeartbeats 4000000 in
theorem mT (u:Un)(hu:ox u):ah Tryz.prog 20 [gq u] (.df [mv (gE u),I 0]):=by
 have tun:=dD u
 have hmain:=hu.main
 have hx0:qh u ⟨u.main,[]⟩:=by
  have hnp:=hu.np
  obtain⟨q,hq⟩:∃ q,u.ps[0]? = some q:=⟨_,List.getElem?_eq_getElem (by omega)⟩
  exact⟨⟨q,by simp only;rw[hmain];exact hq,by simp[(hu.p0 q hq).2]⟩,by simp⟩
 have hcl0:lR u [⟨u.main,[]⟩]:=⟨by simp,fun x hx=>by
  rw[List.mem_singleton] at hx
  subst hx
  exact hx0⟩
 have htr:tree (.df [mv (gE u),I 0])=true:=by
  simp only[tree,trees,mv,iL,aN,Bool.and_true]
 refine ah.bl aa Tryz.func20 rfl (by kernel_rfl) (by simp[Tryz.ntmps20]) htr fun C hC hC0=>?_
 rw[Tryz.ntmps20] at hC
 simp only[gq,de,ints]
 refine T.seq (T.go' aa ?_)
 simp[hC]
 refine T.seq (T.region (TL.some aa 1 ?_))
 simp[hC]
 have hcm:∀ (k:Nat) (es:List (Value×Value)),(CV.mp k es).cells=[.mp k es]:=fun _ _=>rfl
 refine mq rfl (D1 (by simp[hC]) rfl) (TL.go' aa ?_)
 simp[hC,hcm]
 have tgs:trees (u.gs.map (CV.int .i64))=true:=ef u.gs
 refine T.le (Le.lK 3 4 74 2 rfl rfl) ?_
 simp
 refine T.le (Le.lK 3 5 22 1 rfl rfl) ?_
 simp
 refine T.le (Le.lK 3 6 3 1 rfl rfl) ?_
 simp
 refine T.le (Le.norm [4,2,1] [(3,0),(4,1),(5,2),(6,3),(2,4),(1,5),(0,6)] 0 7 (by first | rfl | decide) (by simp[assoc]) (by simp[ca,lN,ky,tree,assoc,-List.all_eq_true,-List.all_flatMap]) (by omega)) ?_
 simp[cW,bD,bJ,dr,fx,assoc]
 have hadd:=Fl u hu [] (by simp) (by simp) ⟨u.main,[]⟩ hx0 0 (by have:=kQ hu ⟨u.main,[]⟩;omega) 0 0 (ez []) (dP []) rfl rfl
 have had:cK [] (⟨u.main,[]⟩:Is)=[⟨u.main,[]⟩]:=rfl
 have hix:cM [⟨u.main,[]⟩] (⟨u.main,[]⟩:Is)=0:=by simp[cM,List.findIdx_cons]
 simp only[had,hix] at hadd
 simp only[qN,lp,de,cg,cL,ez,dP,aZ,ints,List.cons_append,List.nil_append,List.flatMap_nil,List.map_nil,List.length_nil,List.not_mem_nil,if_false,qx] at hadd
 refine T.seq (T.seq (T.go' aa ?_))
 simp[hC]
 refine TL.le (Le.nz [13] []) ?_
 simp
 have q5:=dz _ (eJ u.ms)
 refine TL.z6 aa [0,1,2,3,4] [0,1,2,3] 5 1 (by simp) hadd (by intro k hk;exact .inl (by omega)) (by intro k hk;simp[bZ] at hk;subst hk;exact⟨0,_,rfl,by simp[ja]⟩) (by simp[cE,cZ]) (by simp[cN,gD,cE,cZ]) rfl (by rfl) (by simp[hC]) rfl rfl (by simp[aK,ev,assoc,bJ,dr,bZ]) (by simp[dE,assoc,bF,bD,bJ,dr,bZ]) (by simp[aC,aG]) (by simp[cF,aC,aG,-List.all_eq_true,-List.all_flatMap,-List.all_map]) rfl (by simp[jy,bF,bD,bZ,cN,gD]) (TL.go' aa ?_)
 simp[hC,bF,bD,bJ,dr,bZ]
 refine T.cond (b:=false) rfl (T.skip ?_)
 simp
 refine T.seq (T.go' aa ?_)
 simp[hC]
 refine T.seq (T.seq (T.go' aa ?_))
 simp[hC]
 refine T.block ?_
 refine T.aS (J20 u) (n:=100) ?_ ?_
 ·simp[cg,aZ,bJ,dr]
  refine ae.le (Le.norm [5,4,2] [(0,0),(7,1),(2,2),(8,3),(4,4),(5,5)] 0 6 (by first | rfl | decide) (by simp[assoc]) (by simp[ca,lN,ky,tree,assoc,-List.all_eq_true,-List.all_flatMap]) (by omega)) ?_
  simp[cW,bD,bJ,dr,fx,assoc]
  refine ae.here ⟨0,[⟨u.main,[]⟩],[],[0],by omega,by simp,rfl,by simp,by simp,hcl0,rfl,?_⟩
  simp[qN,lp,de,ints,fL,cL,ez,dP,cg,aZ,qx,dv]
 ·rintro n s ⟨i,l,cs,r,rfl,hi,hci,hrl,hr0,hI,hS,rfl⟩
  have hl49:=dG hu hI.nd hI.v
  have hsites:=k9 hu hI.nd hI.v
  have tis:=ay aO l
  have tcs:=eg cs
  have trr:=ch r
  simp only[qN,lp,de,cL,ez,dP,fL,ints,List.cons_append,List.nil_append]
  by_cases hil:i<l.length
  ·obtain⟨x,hx⟩:∃ x,l[i]? = some x:=⟨_,List.getElem?_eq_getElem hil⟩
   have hxv:=hI.v x (List.mem_of_getElem? hx)
   have hdr:=aV (f:=cg) (n:=2) dh hx
   have wi:=db ((i:Int)+1) (by omega) (by omega)
   have hex:=zN u hu l hI x hxv cs (by omega) r (by omega)
   refine T.seq (T.seq (T.go' aa ?_))
   simp[hC,hil]
   refine T.cond (b:=true) rfl (T.skip ?_)
   simp
   have hS2:km u (100-(i+1)) (i+1) (ov x (aM u x) l r).1 (cs++[(ov x (aM u x) l r).2.1]) (gL (ov x (aM u x) l r).2.2)=gE u:=by
    rw[← hS]
    have h1:100-i=(100-(i+1))+1:=by omega
    rw[h1,km,hx]
    simp only[qS]
   have hst:=qS x (aM u x) l r
   obtain⟨t,ht⟩:=oG x (aM u x) l (gL r)
   have hinv:=oH hu hxv (aM u x) l (gL r) (fun _ h=>h) hI.nd hI.v
   rw[hst] at ht hinv
   have hrl2:=vw x (aM u x) l r
   have hcl:=kQ hu x
   generalize ov x (aM u x) l r=S at hex hS2 ht hinv hrl2
   obtain⟨L,row,R⟩:=S
   simp only at ht hinv hrl2 hS2
   have tisL:=ay aO L
   have tC1:trees (cs.map ints++[ints row])=true:=by rw[bh,tcs,trees,fv];rfl
   have tR:=ch R
   have risL:=fun ρ=>az ρ _ tisL
   have rC1:=fun ρ=>az ρ _ tC1
   have rR:=fun ρ=>az ρ _ tR
   have tnx:=ch x.aE
   have rcs:=fun ρ=>az ρ _ tcs
   have ris:=fun ρ=>az ρ _ tis
   have rr:=fun ρ=>az ρ _ trr
   have q7:=cC 5 _ tnx
   simp only[qN,lp,Hm,zV,de,cg,cL,ez,dP,aZ,ints,List.cons_append,List.nil_append,List.map_append,List.map_cons,List.map_nil,List.length_append,List.length_cons,List.length_nil] at hex tC1 rC1
   refine T.seq (T.block ?_)
   refine T.seq (T.go' aa ?_)
   simp[hC,hil,hdr,cg,aZ]
   refine TL.z6 aa [0,1,2,3,4] [0,1,2,3] 5 3 (by simp) hex (by intro k hk;exact .inl (by omega)) (by intro k hk;simp[bZ] at hk;subst hk;exact⟨0,_,rfl,by simp[ja]⟩) (by simp[cE,cZ]) (by simp[cN,gD,cE,cZ]) rfl (by rfl) (by simp[hC]) rfl rfl (by simp[aK,ev,assoc,bJ,dr,bZ]) (by simp[dE,assoc,bF,bD,bJ,dr,bZ,rcs,ris,rr]) (by simp[aC,aG]) (by simp[cF,aC,aG,af tcs,af tis,af trr,-List.all_eq_true,-List.all_flatMap,-List.all_map]) rfl (by simp[jy,bF,bD,bZ,cN,gD]) (TL.go' aa ?_)
   simp[hC,bF,bD,bJ,dr,bZ,risL,rC1,rR]
   refine T.cond (b:=false) rfl (T.skip ?_)
   simp
   refine T.go' aa ?_
   simp[hC,wi]
   refine⟨100-(i+1),by omega,?_⟩
   refine ae.le (Le.norm [5,4,2] [(0,0),(6,1),(7,2),(8,3),(4,4),(5,5)] 0 6 (by first | rfl | decide) (by simp[assoc]) (by simp[ca,lN,ky,tree,assoc,-List.all_eq_true,-List.all_flatMap,aA tisL,aA tC1,aA tR]) (by omega)) ?_
   simp[cW,bD,bJ,dr,fx,assoc,risL,rC1,rR]
   have hLl:l.length≤L.length:=by rw[ht];simp
   refine ae.here ⟨i+1,L,cs++[row],R,by omega,by omega,by simp[hci],by omega,by omega,⟨hinv.1,hinv.2⟩,hS2,?_⟩
   simp[qN,lp,de,ints,fL,cL,ez,dP]
  ·have hie:i=l.length:=by omega
   have hfin:gE u=⟨l,cs,gL r⟩:=by
    rw[← hS]
    have h1:l[i]? = none:=by rw[List.getElem?_eq_none_iff];omega
    obtain⟨k,hk⟩:∃ k,100-i=k+1:=⟨99-i,by omega⟩
    rw[hk,km,h1]
   refine T.seq (T.seq (T.go' aa ?_))
   simp[hC,hil]
   refine T.cond (b:=false) rfl ?_
   simp
   refine T.exit ?_
   simp
   refine T.seq (T.go' aa ?_)
   simp[hC]
   refine TL.sortI srtI (zs:=r.map fun n:Nat=>(n:Int)) (q:=3) (el:=3) (Go.Can.enters_of (g:=xx.f 189) (fn:=Tryz.f50) Tryz.func50 rfl rfl) (by simp[hC]) rfl rfl (by simp[aK,ev,assoc];rfl) (by simp[assoc]) (by simp;omega) (by simp;omega) (TL.go' aa ?_)
   simp
   refine T.seq (T.go' aa ?_)
   simp[hC]
   refine TL.EX cmpI (zs:=(r.map fun n:Nat=>(n:Int)).mergeSort fun x y=>decide (x≤y)) (q:=3) (el:=3) (ds:=(gL r).map fun n:Nat=>(n:Int)) (Go.Can.enters_of (g:=yG.f 20) (fn:=Tryz.f51) Tryz.func51 rfl rfl) (by simp[hC]) rfl rfl (by simp[aK,ev,assoc];rfl) (by simp[assoc]) (by simp;omega) (by simp;omega) (yD r) (TL.go' aa ?_)
   simp[hC]
   refine T.seq (T.go' aa ?_)
   simp[hC]
   refine T.ret ?_
   have tR:trees ((gL r).map (fun n:Nat=>I n)++List.replicate (r.length-(gL r).length) (I 0))=true:=by
    have:=mh ((gL r).map fun n:Nat=>(n:Int)) (r.length-(gL r).length)
    simp
   have tkI:List.take (l.length*2) (l.flatMap cg)=l.flatMap cg:=List.take_of_length_le (by rw[bu (f:=cg) (n:=2) dh];omega)
   have tkC:List.take cs.length (cs.map ints)=cs.map ints:=List.take_of_length_le (by simp)
   have tkR:List.take (gL r).length ((gL r).map (fun n:Nat=>I n)++List.replicate (r.length-(gL r).length) (I 0))=(gL r).map fun n:Nat=>I n:=List.take_left' (by simp)
   rw[hfin]
   have hcomp:((fun n:Int=>CV.int .i64 n)∘fun n:Nat=>(n:Int))=fun n:Nat=>I n:=rfl
   rw[hcomp]
   generalize (gL r).map (fun n:Nat=>I n)++List.replicate (r.length-(gL r).length) (I 0)=G at tR tkR ⊢
   refine ae.le (Le.trim [3,2] [5,1,2,3] 6 (by simp[-List.all_eq_true,-List.all_flatMap,af tis,af tcs,af tR]) (by omega)) ?_
   simp
   refine ae.le (Le.eM (o:=1) rfl tis) ?_
   simp[tkI,cw tcs,cw tR]
   refine ae.le (Le.eM (o:=2) rfl tcs) ?_
   simp[tkC,cw tR]
   refine ae.le (Le.eM (o:=3) rfl tR) ?_
   simp[tkR]
   refine ae.here ?_
   simp[mv,iL,aZ]
end Go.Proofs.YtmnglemlimfpbaaGreat
namespace Go.Proofs.YtmnglemlimfpbaaGreat
open Go.Can Go.bg
theorem FR (u:Un)(hu:ox u)(l:List Is)(hl:l.length≤100000)(X Y:CV)(x y:Int)(i:Nat)(hi:x % (l.length:Int)=(i:Int))(is:Is)(his:l[i]? = some is)(hv:qh u is) :
  ah Tryz.prog 25 [gq u,.agg [.ax (l.flatMap cg) l.length,X,Y],I x,I y] (.df [I i,I (y % ((aM u is).length:Int))]):=by
 obtain⟨⟨pq,hpq,hll⟩,hlm⟩:=id hv
 have hcode:aM u is=pq.code:=by simp only[aM,hpq]
 rw[hcode]
 have hpl:=(List.getElem?_eq_some_iff.1 hpq).1
 have hil:=(List.getElem?_eq_some_iff.1 his).1
 have hdr:=bG (f:=kX) (n:=5) eU hpq 4 (by omega)
 have hdi:=aV (f:=cg) (n:=2) dh his
 have hprb:=hu.pr pq (List.mem_of_getElem? hpq)
 have hc0:0<pq.code.length:=by
  obtain⟨c,hc⟩:=(hu.pc pq (List.mem_of_getElem? hpq)).1
  rw[hc];simp
 have hw1:=kA x l.length (by omega) (by omega)
 rw[hi] at hw1
 have hw2:=kA y pq.code.length (by omega) (by omega)
 refine ah.bl aa Tryz.func25 rfl (by kernel_rfl) (by simp[Tryz.ntmps25]) rfl fun C hC hC0=>?_
 rw[Tryz.ntmps25] at hC
 simp only[gq,de,ints]
 refine T.seq (T.go' aa ?_)
 simp[hC]
 refine T.seq (T.go' aa ?_)
 simp[hC]
 refine TL.call (by simp[hC]) rfl rfl (aI.of rfl rfl hw1) (TL.go' aa ?_)
 simp[hC]
 refine T.seq (T.rx aa follows [0,1,2,3,4,5,6,7,8,9,10,11,12,13,14,15,16] [] (by kernel_rfl) ?_)
 simp[hC,hil,hdi,cg,hpl,hdr,kX]
 refine RX.call rfl rfl rfl rfl rfl rfl hw2 ?_
 simp
 refine T.ret ?_
 refine ae.here ?_
 simp[Tryz.results25]
end Go.Proofs.YtmnglemlimfpbaaGreat
namespace Go.Proofs.YtmnglemlimfpbaaGreat
open Go.Can Go.bg
theorem vz {u:Un}(hu:ox u){x:Is}(hx:qh u x):∀ (c:List In) (l:List Is) (r:List Nat),(∀ i∈c,i∈aM u x)→lR u l→lR u (fM x c l r).1
 | [],_,_,_,h=>h
 | i::c,l,r,hc,h=>by
  simp only[fM]
  split
  ·exact vz hu hx c l r (fun j hj=>hc j (List.mem_cons_of_mem _ hj)) h
  ·rename_i y hy
   have hyv:=te hu hx (hc i List.mem_cons_self) hy
   exact vz hu hx c _ _ (fun j hj=>hc j (List.mem_cons_of_mem _ hj)) ⟨jz h.nd,wU h.v hyv⟩
theorem yI {u:Un}(hu:ox u):∀ (f i:Nat) (l:List Is) (cs:List (List Int)) (r:List Nat),lR u l→lR u (km u f i l cs r).is∧l.length≤(km u f i l cs r).is.length
 | 0,_,l,_,_,h=>⟨h,Nat.le_refl _⟩
 | f+1,i,l,cs,r,h=>by
  simp only[km]
  split
  ·exact⟨h,Nat.le_refl _⟩
  ·rename_i x hx
   have hs:=vz hu (h.v x (List.mem_of_getElem? hx)) (aM u x) l r (fun _ hi=>hi) h
   obtain⟨h1,h2⟩:=yI hu f (i+1) (fM x (aM u x) l r).1 (cs++[(fM x (aM u x) l r).2.1]) (fM x (aM u x) l r).2.2 hs
   obtain⟨t,ht⟩:=oG x (aM u x) l r
   refine⟨h1,Nat.le_trans ?_ h2⟩
   rw[ht]
   simp
theorem kR {u:Un}(hu:ox u):lR u (gE u).is∧0<(gE u).is.length:=by
 have h0:lR u [⟨u.main,[]⟩]:=⟨by simp,fun x hx=>by
  rw[List.mem_singleton.1 hx]
  have hp:=hu.np.1
  obtain⟨q,hq⟩:∃ q,u.ps[0]? = some q:=⟨_,List.getElem?_eq_getElem (by omega)⟩
  exact⟨⟨q,by rw[hu.main];exact hq,by rw[(hu.p0 q hq).2];rfl⟩,fun l hl=>by cases hl⟩⟩
 obtain⟨h1,h2⟩:=yI hu 100 0 [⟨u.main,[]⟩] [] [0] h0
 exact⟨h1,h2⟩
theorem xj (n:Nat){cs:List CV}(h:trees cs=true):∀ c∈cs,aG n c=true:=fun c hc=>aB n c (fX h c hc)
theorem GP (o:Option Is)(h:∀ x,o=some x→x.aE.length≤2):∃ (p':Int) (L:List Int) (ok:Bool),jH o=.df [.agg [I p',ints L],.bool ok]∧L.length≤2:=by
 cases o with
 | none=>exact⟨0,[],false,rfl,by simp⟩
 | some x=>exact⟨x.proc,x.aE.map fun n:Nat=>(n:Int),true,by simp only[jH,cg,en],by simpa using h x rfl⟩
theorem I0 {u:Un}(hu:ox u){is:Is}(hi:qh u is){pc:Int}{x:Is}(h:fS u is pc=some x):qh u x:=by
 unfold fS at h
 split at h
 ·cases h
 ·split at h
  ·rename_i i hi2
   exact te hu hi (List.mem_of_getElem? hi2) h
  ·cases h
theorem oV {u:Un}(hu:ox u){x:Is}(h:qh u x):x.aE.length≤2:=by
 obtain⟨⟨q,hq,hl⟩,_⟩:=h
 have:=(hu.pr q (List.mem_of_getElem? hq)).2.1
 omega
theorem c6_ok (aw:ah Tryz.prog 24 [] (.bool true))(l:List Int)(hl:l.length≤9223372036854775807)(x y:Int)(raw:Bool):ah Tryz.prog 6 [ints l,I x,I y,.bool raw] (.bool true):=by
 have hun:=oz l hl
 have huv:=kG l
 generalize iT (ss l)=u at hun huv
 obtain⟨hI,hpos⟩:=kR huv
 have hlen:=dG huv hI.nd hI.v
 generalize gE u=c at hun hI hpos hlen
 obtain⟨i,hi,hil⟩:∃ i:Nat,x % (c.is.length:Int)=i∧i<c.is.length:=by
  have h1:=Int.emod_nonneg x (show (c.is.length:Int)≠0 by omega)
  have h2:=Int.emod_lt_of_pos x (show (0:Int)<c.is.length by omega)
  exact⟨(x % c.is.length).toNat,by omega,by omega⟩
 obtain⟨is,his⟩:∃ is,c.is[i]? = some is:=⟨_,List.getElem?_eq_getElem hil⟩
 have hv:=hI.v is (List.mem_of_getElem? his)
 obtain⟨⟨pq,hpq,hll⟩,hlm⟩:=id hv
 have hcode:aM u is=pq.code:=by simp only[aM,hpq]
 have hsite:=fun X Y=>FR u huv c.is (by omega) X Y x y i hi is his hv
 rw[hcode] at hsite
 have hc0:0<pq.code.length:=by
  obtain⟨c,hc⟩:=(huv.pc pq (List.mem_of_getElem? hpq)).1
  rw[hc];simp
 obtain⟨k,hk,hkl⟩:∃ k:Nat,y % (pq.code.length:Int)=k∧k<pq.code.length:=by
  have h1:=Int.emod_nonneg y (show (pq.code.length:Int)≠0 by omega)
  have h2:=Int.emod_lt_of_pos y (show (0:Int)<pq.code.length by omega)
  exact⟨(y % pq.code.length).toNat,by omega,by omega⟩
 rw[hk] at hsite
 have tun:=dD u
 have tis:=ay aO c.is
 have tcs:=eg c.calls
 have trs:=aN c.roots
 generalize ss l=p at hun
 have tl:trees [ints l]=true:=by simp[ints,trees,tree]
 refine ah.bl aa Tryz.func6 rfl (by kernel_rfl) (by simp[Tryz.ntmps6]) rfl fun C hC hC0=>?_
 rw[Tryz.ntmps6] at hC
 refine T.seq (T.go' aa ?_)
 simp[hC]
 refine T.seq (T.go' aa ?_)
 simp[hC]
 refine TL.call (by simp[hC]) rfl rfl (aI.of rfl tl hun) (TL.go' aa ?_)
 simp only[qX,dq,gq,de,mv,iL,ints]
 simp[hC]
 simp only[de,ints] at tun
 have tar:trees [gq u,.agg [.ax (c.is.flatMap cg) c.is.length,.ax (c.calls.map ints) c.calls.length,aZ c.roots],I x,I y]=true:=by
  simp only[gq,de,ints,trees,tree,trs,Bool.and_self]
 refine T.seq (T.go' aa ?_)
 simp[hC]
 refine TL.call (by simp[hC]) rfl rfl (aI.of rfl tar (hsite _ _)) (TL.go' aa ?_)
 simp[hC]
 refine T.le (Le.trim [13,12,11,10,2,3] [1,2] 3 (by simp[-List.all_eq_true,-List.all_flatMap,af tun,aB 3 _ trs]) (by omega)) ?_
 simp
 have hpl:=(List.getElem?_eq_some_iff.1 hpq).1
 have hdr:=bG (f:=kX) (n:=5) eU hpq 4 (by omega)
 have hdi:=aV (f:=cg) (n:=2) dh his
 obtain⟨z,hz⟩:∃ z,pq.code[k]? = some z:=⟨_,List.getElem?_eq_getElem hkl⟩
 have hdc:=aV (f:=dt) (n:=12) gz hz
 have hon:=sI z
 have tin:=eO z
 obtain⟨zc,hzc,hzl⟩:=p6 z
 obtain⟨c1,c2,c3,c4,c5,c6,c7,c8,c9,c10,c11,rfl⟩:=D4 hzl
 rw[hzc] at hdc hon tin
 simp only[List.all_cons,List.all_nil,Bool.and_true,Bool.and_eq_true] at hon
 obtain⟨_,o1,o2,o3,o4,o5,o6,o7,o8,o9,o10,o11⟩:=hon
 refine T.seq (T.rx aa follows [0,1,2,3,4,5,6,7,8,9,10,11,12,13,14,15] [(1,14),(3,14),(7,14),(10,14),(13,14)] (by kernel_rfl) ?_)
 simp[hC,hil,hdi,cg,hpl,hdr,kX,hkl,hdc]
 refine T.le (Le.trim [14,13,12,11,10,2,3] [1,2,17] 19 (by simp[-List.all_eq_true,-List.all_flatMap,af tun,aB 19 _ trs,xj 19 tin]) (by omega)) ?_
 simp
 rw[← hzc]
 refine T.cut (fun s=>∃ pc,s=⟨[(13,I pc),(14,.aq 3 0),(12,I i),(11,.aq 2 0),(10,.aq 1 0)],[(1,⟨30,0,de u⟩),(2,⟨34,0,[.ax (c.is.flatMap cg) c.is.length,.ax (c.calls.map ints) c.calls.length,aZ c.roots]⟩),(3,⟨69,0,dt z⟩)],4⟩) ?_ ?_
 ·have tz:=eO z
  have rz:=fun ρ=>az ρ _ tz
  have trn:=trs
  simp only[aZ,tree] at trn
  simp only[aZ]
  cases raw with
  | false=>
   refine T.seq (T.go' aa ?_)
   simp[hC]
   refine T.cond (b:=false) rfl (T.skip ?_)
   simp
   refine ae.le (Le.norm [13,14,12,11,10] [(1,1),(2,2),(17,3)] 0 4 (by first | rfl | decide) (by simp[assoc]) (by simp[ca,lN,ky,tree,assoc,-List.all_eq_true,-List.all_flatMap,aA tz]) (by omega)) ?_
   simp[cW,bD,bJ,dr,fx,assoc,rz]
   refine ae.here ⟨k,?_⟩
   simp[de,ints]
  | true=>
   refine T.seq (T.go' aa ?_)
   simp[hC]
   refine T.cond (b:=true) rfl ?_
   simp
   refine T.go' aa ?_
   simp[hC]
   refine ae.le (Le.norm [13,14,12,11,10] [(1,1),(2,2),(17,3)] 0 4 (by first | rfl | decide) (by simp[assoc]) (by simp[ca,lN,ky,tree,assoc,-List.all_eq_true,-List.all_flatMap,aA tz]) (by omega)) ?_
   simp[cW,bD,bJ,dr,fx,assoc,rz]
   refine ae.here ⟨y,?_⟩
   simp[de,ints]
 ·rintro s ⟨pc,rfl⟩
  have hcal:=qe u huv is hv pc
  have tunc:tree (gq u)=true:=by simp only[gq,de,ints,tree,tun]
  have targ:trees [gq u,.agg (cg is),I pc]=true:=by simp only[trees,tree,aO,tunc,Bool.and_self]
  simp only[gq,de,cg,ints] at hcal targ ⊢
  refine T.seq (T.rx aa follows [0,1,2,3,4,5,6,11,7,8,9,10,12,13] [(0,11),(2,11),(5,11),(11,7)] (by kernel_rfl) ?_)
  simp[hC,hil,hdi,cg]
  refine RX.call rfl rfl rfl rfl rfl targ hcal ?_
  obtain⟨p',L,ok,hcr,hL2⟩:=GP (fS u is pc) fun y hy=>oV huv (I0 huv hv hy)
  rw[hcr]
  simp
  have hrc:=rY u huv is hv pc
  rw[hcr] at hrc
  simp only[gq,de,cg,ints] at hrc
  have tL:tree (ints L)=true:=by simp[ints,tree]
  simp only[ints] at tL
  simp only[ints]
  refine T.le (Le.trim [16,15,13,14,12,11,10] [1,2,3,15] 18 (by simp[-List.all_eq_true,-List.all_flatMap,af tun,aB 18 _ trs,af (eO z)]) (by omega)) ?_
  simp
  refine T.seq (T.rx aa follows [0,1,2,3,4,5,6,11,7,8,9,10,12,13] [(0,11),(2,11),(5,11),(11,7)] (by kernel_rfl) ?_)
  simp[hC,hil,hdi,cg]
  refine RX.call rfl rfl rfl rfl rfl targ hrc ?_
  simp
  have hsame:=e9 L L (by omega)
  have targ2:trees [ints L,ints L]=true:=by simp only[trees,fv,Bool.and_self]
  simp only[ints,decide_true] at hsame targ2
  refine T.le (Le.trim [18,17,16,15,13,14,12,11,10] [1,2,3,15,29] 32 (by simp[-List.all_eq_true,-List.all_flatMap,af tun,aB 32 _ trs,af (eO z)]) (by omega)) ?_
  simp
  refine T.seq (T.seq (T.go' aa ?_))
  simp[hC]
  refine TL.bT (by simp[hC]) rfl rfl rfl rfl (aI.of rfl targ2 hsame) (TL.go' aa ?_)
  simp[hC]
  refine T.cond (b:=false) rfl (T.skip ?_)
  simp
  refine T.le (Le.trim [14,12,11,10] [1,2,3] 32 (by simp[-List.all_eq_true,-List.all_flatMap,af tun,aB 32 _ trs,af (eO z)]) (by omega)) ?_
  simp
  by_cases hLk:∃ un q,z=.lock un q
  ·obtain⟨un,q,rfl⟩:=hLk
   have hic:CC (u.ps.map fun q=>(q.ints,q.aE)) u.ms u.gs.length pq.locals pq.aE (pq.code.length-1) (.lock un q):=(huv.pc pq (List.mem_of_getElem? hpq)).2 _ (List.mem_of_getElem? hz)
   have hmq:q.param=true→q.index<is.aE.length:=fun hp=>by
    rcases hic with ⟨_,h8,_⟩ | ⟨h8,_⟩
    ·omega
    ·rw[hp] at h8;cases h8
   have hml:=DS hlm hll hic
   have hmu:=xT is q hmq
   have hrm:=uH is q hmq
   obtain⟨q1,q2,q3,q4,hqc,tq⟩:=vM q
   have targ3:trees [.agg (cg is),.agg (nO q)]=true:=by
    simp only[trees,tree,aO,hqc,Bool.and_true]
   rw[hqc] at hmu hrm targ3
   simp only[cg] at hmu hrm targ3
   have hinq:dt (.lock un q)=[I (if un then 5 else 4),I 0,.bool false,I 0,I 0,.str eS,.ax [] 0,.bool q1,I q2,.ax q3 q4,.ax [] 0,.ax [] 0]:=by
    simp only[dt,bB,hqc,List.cons_append,List.nil_append]
   rw[hinq]
   cases un
   all_goals
    simp
    refine T.seq (T.seq (T.go' aa ?_))
    simp[hC]
    refine T.cond (b:=false) rfl (T.skip ?_)
    simp
    refine T.seq (T.rx aa follows [0,1,2,3,4,5,6,7,8] [] (by kernel_rfl) ?_)
    simp[hC,hil,hdi,cg]
    refine RX.call rfl rfl rfl rfl rfl targ3 hmu ?_
    simp
    refine T.seq (T.rx aa follows [0,1,2,3,4,5,6,7,8,9,10,11,12,13,14,15,16,17,18,19,20,21,22,23,24] [] (by kernel_rfl) ?_)
    simp[hC,hil,hdi,cg]
    refine RX.call rfl rfl rfl rfl rfl targ3 hrm ?_
    simp[hml]
    refine RX.call rfl rfl rfl rfl rfl rfl aw ?_
    simp
    refine T.ret ?_
    refine ae.here ?_
    simp[Tryz.results6]
  ·have ho:(tZ z != 4)=true∧(tZ z != 5)=true:=by
    cases z with
    | lock un q=>exact (hLk ⟨un,q,rfl⟩).elim
    | call g t l ps=>cases g<;>exact⟨rfl,rfl⟩
    | _=>exact⟨rfl,rfl⟩
   rw[hzc]
   refine T.seq (T.seq (T.go' aa ?_))
   simp[hC,ho.1,ho.2]
   refine T.cond (b:=true) rfl ?_
   simp
   refine T.seq (T.go' aa ?_)
   simp
   refine TL.call (by simp[hC]) rfl rfl (aI.of rfl rfl aw) (TL.go' aa ?_)
   simp[hC]
   refine T.ret ?_
   refine ae.here ?_
   simp[Tryz.results6]
end Go.Proofs.YtmnglemlimfpbaaGreat
namespace Go.Can
mutual
def lU:CV→CV
 | .ai=>.ax [] 0
 | .agg cs=>.agg (nQ cs)
 | .ax cs n=>.ax (nQ cs) n
 | .df cs=>.df (nQ cs)
 | .int k n=>.int k n
 | .bool b=>.bool b
 | .str s=>.str s
 | .cq cs=>.cq cs
 | .br=>.br
 | .fn f cs=>.fn f cs
 | .iface f cs=>.iface f cs
 | .b9=>.b9
 | .iter k s p=>.iter k s p
 | .mp k es=>.mp k es
 | .bw o f n=>.bw o f n
 | .aq o f=>.aq o f
 | .any=>.any
def nQ:List CV→List CV
 | []=>[]
 | c::cs=>lU c::nQ cs
end
theorem Ax (c:CV):one (lU c)=one c:=by cases c<;>simp only[lU,one]
theorem xM:∀ cs:List CV,(nQ cs).all one=cs.all one
 | []=>by simp only[nQ]
 | c::cs=>by simp only[nQ,List.all_cons,Ax,xM cs]
theorem DP {cs:List CV}(h:cs=[]):nQ cs=[]:=by rw[h,nQ]
mutual
theorem bM.lU {w:World}{F:Nat→Prop}:∀ (c:CV) (v:Value),bM w F c v→bM w F (lU c) v
 | .ai,v,h=>by
  simp only[bM] at h
  subst h
  simp only[Can.lU,bM]
  exact⟨none,0,rfl,Nat.le_refl _,Nat.zero_le _,.inl ⟨trivial,trivial⟩⟩
 | .agg cs,v,h=>by
  simp only[bM] at h
  obtain⟨vs,h1,h2,h3⟩:=h
  simp only[Can.lU,bM]
  exact⟨vs,h1,bx.lU cs vs h2,by rw[xM];exact h3⟩
 | .ax cs n,v,h=>by
  simp only[bM] at h
  obtain⟨A,cap,h1,h2,h3,h4⟩:=h
  simp only[Can.lU,bM]
  refine⟨A,cap,h1,h2,h3,?_⟩
  rcases h4 with ⟨h4,h5⟩ | ⟨ad,h4,h5⟩
  ·exact .inl ⟨h4,DP h5⟩
  ·exact .inr ⟨ad,h4,eX.lU cs ad h5⟩
 | .df cs,v,h=>by
  simp only[bM] at h
  obtain⟨vs,h1,h2⟩:=h
  simp only[Can.lU,bM]
  exact⟨vs,h1,bx.lU cs vs h2⟩
 | .int _ _,_,h=>by simpa only[Can.lU] using h
 | .bool _,_,h=>by simpa only[Can.lU] using h
 | .str _,_,h=>by simpa only[Can.lU] using h
 | .cq _,_,h=>by simpa only[Can.lU] using h
 | .br,_,h=>by simpa only[Can.lU] using h
 | .fn _ _,_,h=>by simpa only[Can.lU] using h
 | .iface _ _,_,h=>by simpa only[Can.lU] using h
 | .b9,_,h=>by simpa only[Can.lU] using h
 | .iter _ _ _,_,h=>by simpa only[Can.lU] using h
 | .mp _ _,_,h=>by simpa only[Can.lU] using h
 | .bw _ _ _,_,h=>by simpa only[Can.lU] using h
 | .aq _ _,_,h=>by simpa only[Can.lU] using h
 | .any,_,h=>by simpa only[Can.lU] using h
theorem bx.lU {w:World}{F:Nat→Prop}:∀ (cs:List CV) (vs:List Value),bx w F cs vs→bx w F (nQ cs) vs
 | [],_,h=>by simpa only[nQ] using h
 | c::cs,vs,h=>by
  simp only[bx] at h
  obtain⟨v,r,h1,h2,h3⟩:=h
  simp only[nQ,bx]
  exact⟨v,r,h1,bM.lU c v h2,bx.lU cs r h3⟩
theorem eX.lU {w:World}{F:Nat→Prop}:∀ (cs:List CV) (ad:Addr),eX w F cs ad→eX w F (nQ cs) ad
 | [],_,_=>by simp only[nQ,eX]
 | c::cs,ad,h=>by
  simp only[eX] at h
  obtain⟨⟨u,h1,h2,h3⟩,h4,h5⟩:=h
  simp only[nQ,eX]
  exact⟨⟨u,h1,h2,bM.lU c u h3⟩,by rw[Ax];exact h4,eX.lU cs _ h5⟩
end
theorem ah.lU {P:Program}{f:FuncId}{args:List CV}{r:CV}(h:ah P f args r):ah P f args (Can.lU r):=
 ⟨h.1,fun F vs w hF hv=>(h.2 F vs w hF hv).mono fun _e _w' ⟨v,h1,h2,h3⟩=>⟨v,h1,h2,bM.lU r v h3⟩⟩
end Go.Can
namespace Go.Proofs.YtmnglemlimfpbaaGreat
open Go.Can
def xal:List Nat:=[35,43,52,57,58,59,60,66,67,68,70,72,73,74,75,89,90,91,92,93,102,103,104,105,107,108,109,125,126,127,129,133,134,140,142,143,155,156]
def xor:List (Nat×List (Nat×OrcE)):=[
 (35,[(9,.tr [0,1,2,3,4,5,6,7,8] [(5,7),(4,7),(2,7),(2,4),(1,7),(1,5),(1,2)]),(17,.tr [0,1,2,3,4,5,6,7,8,9,10,11,12,13,14,15,16,17] [(7,13),(6,13),(3,13),(0,13)])]),
 (43,[(13,.tr [0,1,2,3,4,5,6,7] [(1,4),(1,3)])]),
 (58,[(9,.ek [] [0,1,2,3,4,5,6,7,8,9,10,11,12,13,14,15] [16])]),
 (60,[(1,.tr [0,1,2,3,4,5,6] [(0,3),(0,1)]),(6,.tr [0,1,2,3,4,5,6,7,8,9,10,11,12,13,14,15,16] [(10,14),(9,14),(5,14),(3,14)]),(10,.tr [0,1,2,3,4,5,6,7,8,9,10,11,12,13,14,15,16,17,18] [(4,14)]),(17,.tr [0,1,2,3,4,5,6,7,8,9,10,11] [(7,9)]),(18,.tr [0,1,2,3,4,5,6,7,8,9,10,11,12,13,14,15,16] [(12,13),(8,13),(4,13)])]),
 (67,[(1,.ek [] [0,1,2,3,4,5,6,7,8,9,10,11,12,13,14,15,16,17,18,19,20] [])]),
 (68,[(1,.tr [0,1,2,3,4,5,6,7,8,9,10,11] [(9,10),(7,10),(3,10)])]),
 (73,[(5,.ek [] [0,1,2,3,4,5,6,7,8,9,10,11,12] [])]),
 (92,[(4,.tr [0,1,2,3,4,5,6,7,8,9,10] [(7,9),(7,8),(3,8)])]),
 (93,[(1,.tr [0,1,2,3,4,5,6,7,8,9,10,11,12,13,14,15,16,17,18,19,20,21] [(12,14),(8,14),(8,12),(7,14),(7,12),(6,14),(5,14),(5,7)])]),
 (129,[(14,.tr [0,1,2,3,4,5,6,7,8,9] [(2,6)]),(16,.tr [0,1,2,3,4,5,6,7,8,9,10] [(3,7)])]),
 (133,[(4,.tr [0,1,2,3,4,5,6,7,8,9,10,11,12] [(6,10),(5,10),(3,10)]),(12,.ek [] [0,1,2,3,4,5,6,7,8,9,10] []),(20,.ek [] [0,1,2,3,4,5,6,7] []),(24,.tr [0,1,2,3,4,5,6,7,8,9,10] [(1,7),(1,6)])]),
 (134,[(1,.tr [0,1,2,3,4,5,6,7,8,9,10,11,12] [(6,10),(5,10),(3,10)]),(3,.ek [] [0,1,2,3,4,5,6,7,8,9,10,11,12,13,14,15,16] [])])]
def Af:IP:=⟨aj,[],fun g=>xal.contains g,fun _=>true,fun g id=>match assoc xor g with
 | some l=>assoc l id
 | none=>none,[],[],[]⟩
def HH (B8:List (FuncId×List CV×CV)):IP:={ Af with B8:=B8 }
theorem xmtOk:AE Tryz.prog []=true:=by kernel_rfl
theorem xgd:yg Tryz.prog Af xal=true:=by kernel_rfl
theorem xok {B8:List (FuncId×List CV×CV)}(h:∀ x∈B8,ah Tryz.prog x.1 x.2.1 x.2.2):HC Tryz.prog (HH B8):=
 ⟨h,aa,sw xmtOk,(fun x hx=>by cases hx),(fun x hx=>by cases hx),follows,yf (l:=xal) ((Cd Af B8 xal).trans xgd) fun g ha=>by simpa [HH,Af] using ha⟩
end Go.Proofs.YtmnglemlimfpbaaGreat
