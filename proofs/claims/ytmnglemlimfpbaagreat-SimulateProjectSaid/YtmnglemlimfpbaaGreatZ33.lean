/- program: the text of a program. -/
import Derived.Test.YtmnglemlimfpbaaGreatZ32
namespace Go.Proofs.YtmnglemlimfpbaaGreat
open Go.Can Go.aX
def J91a (p:Pg)(X:ByteArray)(n:Nat)(s:St):Prop:=∃ (i:Nat) (x:ByteArray),n=p.gs.length-i∧i≤p.gs.length∧x++(jO JK (p.gs.drop i)++jO ID p.ms++jO ET p.fs)=X∧s=⟨[(4,I i),(3,.str x),(1,.aw 0 0)],[(0,⟨27,0,eH p⟩)],1⟩
def J91b (p:Pg)(X:ByteArray)(n:Nat)(s:St):Prop:=∃ (i:Nat) (x:ByteArray),n=p.ms.length-i∧i≤p.ms.length∧x++(jO ID (p.ms.drop i)++jO ET p.fs)=X∧s=⟨[(5,I i),(3,.str x),(1,.aw 0 0)],[(0,⟨27,0,eH p⟩)],1⟩
def J91c (p:Pg)(X:ByteArray)(n:Nat)(s:St):Prop:=∃ (i:Nat) (x:ByteArray),n=p.fs.length-i∧i≤p.fs.length∧x++jO ET (p.fs.drop i)=X∧s=⟨[(7,I i),(3,.str x),(1,.aw 0 0)],[(0,⟨27,0,eH p⟩)],1⟩
def J91d (p:Pg)(i:Nat)(nm:ByteArray)(ps:List Pm)(bd:List Sm)(Y:ByteArray)(n:Nat)(s:St):Prop:=∃ (q:Nat) (z:ByteArray),n=ps.length-q∧q≤ps.length∧z++uw (decide (q=0)) (ps.drop q)=Y∧s=⟨[(9,I q),(8,.aw 1 0),(7,I i),(3,.str z),(1,.aw 0 0)],[(0,⟨27,0,eH p⟩),(1,⟨137,0,fk ⟨nm,ps,bd⟩⟩)],2⟩
theorem yM (b:ByteArray):(⟨#[]⟩:ByteArray)++b=b:=ByteArray.empty_append
theorem mL (b:ByteArray):b++(⟨#[]⟩:ByteArray)=b:=ByteArray.append_empty
set_option maxHeartbeats 8000000 in
theorem zN (p:Pg)(hsz:(D0 p).size≤1000000)(h1:p.gs.length≤100)(h2:p.ms.length≤100)(h3:p.fs.length≤100)(hg:∀ g∈p.gs,-1000≤g.init∧g.init≤1000)(hm:∀ m∈p.ms,m.size≤1000)
  (hf:∀ f∈p.fs,f.params.length≤100∧ae Tryz.prog 129 [.av (bA f.body) f.body.length,.str ⟨#[9]⟩] (.str (js ⟨#[9]⟩ f.body))):ae Tryz.prog 91 [wT p] (.str (D0 p)):=by
 obtain⟨X,hX⟩:∃ X,D0 p=X:=⟨_,rfl⟩
 rw[hX] at hsz ⊢
 unfold D0 at hX
 have fg:=fun (k:Nat) (a:Gl) (h:p.gs[k]? = some a)=>aE (f:=pd) (n:=2) (fun _=>rfl) h
 have fg1:=fun (k:Nat) (a:Gl) (h:p.gs[k]? = some a)=>cB (f:=pd) (n:=2) (fun _=>rfl) h 1 yA
 have fm:=fun (k:Nat) (a:Mx) (h:p.ms[k]? = some a)=>aE (f:=cq) (n:=3) (fun _=>rfl) h
 have ff:=fun (k:Nat) (a:Fu) (h:p.fs[k]? = some a)=>aE (f:=fk) (n:=3) (fun _=>rfl) h
 refine ae.aB ag Tryz.func91 rfl yAb (by simp[Tryz.ntmps91]) rfl fun C hC hC0=>?_
 rw[Tryz.ntmps91] at hC
 apply au
 simp[hC,wT,eH]
 apply au
 simp[hC]
 refine T.cut (fun s=>∃ x,x++(jO ID p.ms++jO ET p.fs)=X∧s=⟨[(3,.str x),(1,.aw 0 0)],[(0,⟨27,0,eH p⟩)],1⟩) ?_ ?_
 ·apply au
  simp[hC]
  apply T.block
  refine T.aL (J91a p X) (n:=p.gs.length) ?_ ?_
  ·refine aa.trim [4,3,1] [0] 1 yAa yA ⟨0,⟨#[]⟩,by omega,by omega,?_,?_⟩
   ·rw[yM];exact hX
   ·simp[eH]
  ·rintro n s ⟨i,x,rfl,hi,hx,rfl⟩
   by_cases hil:i<p.gs.length
   ·obtain⟨a,hia⟩:∃ a,p.gs[i]? = some a:=⟨p.gs[i],List.getElem?_eq_getElem hil⟩
    have hdr:=fg i a hia
    have hdr1:=fg1 i a hia
    have hin:=hg a (List.mem_of_getElem? hia)
    have wi:=ct ((i:Int)+1) yA yA
    have hd:p.gs.drop i=a::p.gs.drop (i+1):=by
     rw[List.drop_eq_getElem_cons hil,(List.getElem?_eq_some_iff.1 hia).2]
    rw[hd,jO] at hx
    have hz:=congrArg ByteArray.size hx
    simp only[JK,zq,ByteArray.size_append] at hz
    have s0:=ax x ⟨#[118,97,114,32]⟩ yA
    have s1:=ax (x++⟨#[118,97,114,32]⟩) a.name yBb
    apply aJ
    simp[hC,hil,eH]
    refine iv ?_
    simp
    apply fq
    apply au
    simp[hC,hil,hdr,pd,s0,s1]
    by_cases h0:a.init=0
    ·rw[if_pos h0] at hz
     have s2:=ax (x++⟨#[118,97,114,32]⟩++a.name) ⟨#[59,10]⟩ yBb
     apply aJ
     simp[hC,hil,hdr,pd,h0]
     refine e9 ?_
     simp
     apply aO
     simp[hC,s2]
     apply aO
     simp[hC,wi]
     refine⟨p.gs.length-(i+1),by omega,?_⟩
     refine aa.trim [4,3,1] [0] 1 yAa yA ⟨i+1,x++⟨#[118,97,114,32]⟩++a.name++⟨#[59,10]⟩,rfl,by omega,?_,?_⟩
     ·rw[← hx,JK,if_pos h0,mL]
      simp only[zq,ByteArray.append_assoc]
     ·simp[eH]
    ·rw[if_neg h0] at hz
     simp only[Fk,ByteArray.size_append] at hz
     have h0b:(a.init != 0)=true:=by simp[h0]
     have s2:=ax (x++⟨#[118,97,114,32]⟩++a.name) ⟨#[32,61,32]⟩ yBb
     have s3:=ax (x++⟨#[118,97,114,32]⟩++a.name++⟨#[32,61,32]⟩) (lg a.init) yBb
     have s4:=ax (x++⟨#[118,97,114,32]⟩++a.name++⟨#[32,61,32]⟩++lg a.init) ⟨#[59,10]⟩ yBb
     apply aJ
     simp[hC,hil,hdr,pd,h0b]
     refine dN ?_
     simp
     apply aO
     simp[hC,hil,hdr,pd,s2]
     refine cH yAd (pC a.init yA yA) ?_
     simp[hC,s3]
     apply aO
     simp[hC,s4]
     apply aO
     simp[hC,wi]
     refine⟨p.gs.length-(i+1),by omega,?_⟩
     refine aa.trim [4,3,1] [0] 1 yAa yA ⟨i+1,x++⟨#[118,97,114,32]⟩++a.name++⟨#[32,61,32]⟩++lg a.init++⟨#[59,10]⟩,rfl,by omega,?_,?_⟩
     ·rw[← hx,JK,if_neg h0]
      simp only[zq,Fk,ByteArray.append_assoc]
     ·simp[eH]
   ·have hie:i=p.gs.length:=by omega
    rw[hie,List.drop_length,jO,yM] at hx
    apply aJ
    simp[hC,hil,eH]
    refine bj ?_
    simp
    apply T.exit
    simp
    refine aa.trim [3,1] [0] 1 yAa yA ⟨x,hx,?_⟩
    simp
 rintro s ⟨x0,hx0,rfl⟩
 clear hX
 refine T.cut (fun s=>∃ x,x++jO ET p.fs=X∧s=⟨[(3,.str x),(1,.aw 0 0)],[(0,⟨27,0,eH p⟩)],1⟩) ?_ ?_
 ·apply au
  simp[hC]
  apply T.block
  refine T.aL (J91b p X) (n:=p.ms.length) ?_ ?_
  ·refine aa.trim [5,3,1] [0] 1 yAz yA ⟨0,x0,by omega,by omega,hx0,?_⟩
   simp
  ·rintro n s ⟨i,x,rfl,hi,hx,rfl⟩
   by_cases hil:i<p.ms.length
   ·obtain⟨a,hia⟩:∃ a,p.ms[i]? = some a:=⟨p.ms[i],List.getElem?_eq_getElem hil⟩
    have hdr:=fm i a hia
    have hin:=hm a (List.mem_of_getElem? hia)
    have wi:=ct ((i:Int)+1) yA yA
    have hd:p.ms.drop i=a::p.ms.drop (i+1):=by
     rw[List.drop_eq_getElem_cons hil,(List.getElem?_eq_some_iff.1 hia).2]
    rw[hd,jO,ID] at hx
    have hz:=congrArg ByteArray.size hx
    simp only[ByteArray.size_append] at hz
    apply aJ
    simp[hC,hil,eH]
    refine iv ?_
    simp
    apply fq
    apply au
    simp[hC,hil,hdr,cq]
    obtain⟨y,hy⟩:∃ y,x++(if a.re=true then ⟨#[114]⟩ else ⟨#[]⟩)=y:=⟨_,rfl⟩
    have hys:y.size=x.size+(if a.re=true then (⟨#[114]⟩:ByteArray) else ⟨#[]⟩).size:=by rw[← hy,ByteArray.size_append]
    have hyX:y.size≤1000000:=by omega
    refine T.cut (fun s=>s=⟨[(6,.aw 1 0),(5,I i),(3,.str y),(1,.aw 0 0)],[(0,⟨27,0,eH p⟩),(1,⟨95,0,cq a⟩)],2⟩) ?_ ?_
    ·apply au
     simp[hC]
     refine T.cond (b:=a.re) rfl ?_
     cases hre:a.re with
     | true=>
      rw[hre,if_pos rfl] at hy hys
      have s0:=ax x ⟨#[114]⟩ yA
      simp
      apply aO
      simp[hC,s0]
      refine aa.trim [6,5,3,1] [0,1] 2 yAa yA ?_
      simp[← hy,cq,hre,eH]
     | false=>
      rw[hre,if_neg yAa,mL] at hy
      simp
      apply T.skip
      simp
      refine aa.trim [6,5,3,1] [0,1] 2 yAa yA ?_
      simp[← hy,cq,hre,eH]
    rintro s rfl
    have s1:=ax y ⟨#[109,117,116,101,120,32]⟩ yA
    have s2:=ax (y++⟨#[109,117,116,101,120,32]⟩) a.name yBb
    apply au
    simp[hC,s1,s2,cq]
    have hx2:y++(⟨#[109,117,116,101,120,32]⟩++a.name++(if a.size=0 then ⟨#[]⟩ else ⟨#[91]⟩++lg a.size++⟨#[93]⟩)++⟨#[59,10]⟩++(jO ID (p.ms.drop (i+1))++jO ET p.fs))=X:=by
     rw[← hx,← hy]
     simp only[ByteArray.append_assoc]
    by_cases h0:a.size=0
    ·rw[if_pos h0] at hz hx2
     have s3:=ax (y++⟨#[109,117,116,101,120,32]⟩++a.name) ⟨#[59,10]⟩ yBb
     apply aJ
     simp[hC,h0]
     refine e9 ?_
     simp
     apply aO
     simp[hC,s3]
     apply aO
     simp[hC,wi]
     refine⟨p.ms.length-(i+1),by omega,?_⟩
     refine aa.trim [5,3,1] [0] 1 yAz yA ⟨i+1,y++⟨#[109,117,116,101,120,32]⟩++a.name++⟨#[59,10]⟩,rfl,by omega,?_,?_⟩
     ·rw[← hx2,mL]
      simp only[ByteArray.append_assoc]
     ·simp[eH]
    ·rw[if_neg h0] at hz hx2
     simp only[ByteArray.size_append] at hz
     have h0b:0<a.size:=by omega
     have s3:=ax (y++⟨#[109,117,116,101,120,32]⟩++a.name) ⟨#[91]⟩ yBb
     have s4:=ax (y++⟨#[109,117,116,101,120,32]⟩++a.name++⟨#[91]⟩) (lg a.size) yBb
     have s5:=ax (y++⟨#[109,117,116,101,120,32]⟩++a.name++⟨#[91]⟩++lg a.size) ⟨#[93]⟩ yBb
     have s6:=ax (y++⟨#[109,117,116,101,120,32]⟩++a.name++⟨#[91]⟩++lg a.size++⟨#[93]⟩) ⟨#[59,10]⟩ yBb
     apply aJ
     simp[hC,h0b]
     refine dN ?_
     simp
     apply aO
     simp[hC,s3]
     refine cH yAd (pC (a.size:Int) yA yA) ?_
     simp[hC,s4,s5]
     apply aO
     simp[hC,s6]
     apply aO
     simp[hC,wi]
     refine⟨p.ms.length-(i+1),by omega,?_⟩
     refine aa.trim [5,3,1] [0] 1 yAz yA ⟨i+1,y++⟨#[109,117,116,101,120,32]⟩++a.name++⟨#[91]⟩++lg a.size++⟨#[93]⟩++⟨#[59,10]⟩,rfl,by omega,?_,?_⟩
     ·rw[← hx2]
      simp only[ByteArray.append_assoc]
     ·simp[eH]
   ·have hie:i=p.ms.length:=by omega
    rw[hie,List.drop_length,jO,yM] at hx
    apply aJ
    simp[hC,hil,eH]
    refine bj ?_
    simp
    apply T.exit
    simp
    refine aa.trim [3,1] [0] 1 yAa yA ⟨x,hx,?_⟩
    simp
 rintro s ⟨x1,hx1,rfl⟩
 clear hx0
 refine T.cut (fun s=>s=⟨[(3,.str X),(1,.aw 0 0)],[(0,⟨27,0,eH p⟩)],1⟩) ?_ ?_
 ·apply au
  simp[hC]
  apply T.block
  refine T.aL (J91c p X) (n:=p.fs.length) ?_ ?_
  ·refine aa.trim [7,3,1] [0] 1 yAz yA ⟨0,x1,by omega,by omega,hx1,?_⟩
   simp
  ·rintro n s ⟨i,x,rfl,hi,hx,rfl⟩
   by_cases hil:i<p.fs.length
   ·obtain⟨a,hia⟩:∃ a,p.fs[i]? = some a:=⟨p.fs[i],List.getElem?_eq_getElem hil⟩
    have hdr:=ff i a hia
    obtain⟨hpl,hcl⟩:=hf a (List.mem_of_getElem? hia)
    have wi:=ct ((i:Int)+1) yA yA
    have hd:p.fs.drop i=a::p.fs.drop (i+1):=by
     rw[List.drop_eq_getElem_cons hil,(List.getElem?_eq_some_iff.1 hia).2]
    rw[hd,jO,ET] at hx
    obtain⟨nm,ps,bd⟩:=a
    simp only at hx hpl hcl
    have hz:=congrArg ByteArray.size hx
    simp only[ByteArray.size_append] at hz
    obtain⟨y,hy⟩:∃ y,x++⟨#[102,117,110,99,32]⟩++nm++⟨#[40]⟩=y:=⟨_,rfl⟩
    have hys:y.size=x.size+(⟨#[102,117,110,99,32]⟩:ByteArray).size+nm.size+(⟨#[40]⟩:ByteArray).size:=by rw[← hy];simp only[ByteArray.size_append]
    obtain⟨Y,hY⟩:∃ Y,y++uw true ps=Y:=⟨_,rfl⟩
    have hYs:Y.size=y.size+(uw true ps).size:=by rw[← hY,ByteArray.size_append]
    have hx2:Y++(⟨#[41,32,123,10]⟩++js p6 bd++⟨#[125,10]⟩++jO ET (p.fs.drop (i+1)))=X:=by
     rw[← hx,← hY,← hy]
     simp only[ByteArray.append_assoc]
    have s0:=ax x ⟨#[102,117,110,99,32]⟩ yA
    have s1:=ax (x++⟨#[102,117,110,99,32]⟩) nm yBb
    have s2:=ax (x++⟨#[102,117,110,99,32]⟩++nm) ⟨#[40]⟩ yBb
    rw[hy] at s2
    apply aJ
    simp[hC,hil,eH]
    refine iv ?_
    simp
    apply fq
    apply au
    simp[hC,hil,hdr,fk]
    apply au
    simp[hC,s0,s1,s2]
    refine T.cut (fun s=>s=⟨[(8,.aw 1 0),(7,I i),(3,.str Y),(1,.aw 0 0)],[(0,⟨27,0,eH p⟩),(1,⟨137,0,fk ⟨nm,ps,bd⟩⟩)],2⟩) ?_ ?_
    ·apply au
     simp[hC]
     apply T.block
     refine T.aL (J91d p i nm ps bd Y) (n:=ps.length) ?_ ?_
     ·refine aa.trim [9,8,7,3,1] [0,1] 2 yAa yA ⟨0,y,by omega,by omega,hY,?_⟩
      simp[fk,eH]
     ·rintro n s ⟨q,z,rfl,hq,hzY,rfl⟩
      by_cases hql:q<ps.length
      ·obtain⟨b,hqb⟩:∃ b,ps[q]? = some b:=⟨ps[q],List.getElem?_eq_getElem hql⟩
       have hp0:=aE (f:=ld) (n:=2) (fun _=>rfl) hqb
       have hp1:=cB (f:=ld) (n:=2) (fun _=>rfl) hqb 1 yA
       have wq:=ct ((q:Int)+1) yA yA
       have hd2:ps.drop q=b::ps.drop (q+1):=by
        rw[List.drop_eq_getElem_cons hql,(List.getElem?_eq_some_iff.1 hqb).2]
       rw[hd2,uw] at hzY
       have hz3:=congrArg ByteArray.size hzY
       simp only[ByteArray.size_append] at hz3
       apply aJ
       simp[hC,hql,fk]
       refine iv ?_
       simp
       apply fq
       obtain⟨u,hu⟩:∃ u,z++(if decide (q=0)=true then ⟨#[]⟩ else ⟨#[44,32]⟩)=u:=⟨_,rfl⟩
       have hus:u.size=z.size+(if decide (q=0)=true then (⟨#[]⟩:ByteArray) else ⟨#[44,32]⟩).size:=by rw[← hu,ByteArray.size_append]
       obtain⟨v,hv⟩:∃ v,u++(if b.mutex=true then ⟨#[109,117,116,101,120,32]⟩ else ⟨#[]⟩)=v:=⟨_,rfl⟩
       have hvs:v.size=u.size+(if b.mutex=true then (⟨#[109,117,116,101,120,32]⟩:ByteArray) else ⟨#[]⟩).size:=by rw[← hv,ByteArray.size_append]
       have hvX:v.size≤1000000:=by omega
       have huX:u.size≤1000000:=by omega
       refine T.cut (fun s=>s=⟨[(9,I q),(8,.aw 1 0),(7,I i),(3,.str u),(1,.aw 0 0)],[(0,⟨27,0,eH p⟩),(1,⟨137,0,fk ⟨nm,ps,bd⟩⟩)],2⟩) ?_ ?_
       ·apply au
        simp[hC]
        by_cases hq0:q=0
        ·have hqb:¬ 0<q:=by omega
         simp only[hq0,decide_true,if_true,mL] at hu
         simp only[hqb,decide_false]
         refine e9 ?_
         simp
         refine aa.trim [9,8,7,3,1] [0,1] 2 yAz yA ?_
         simp[hu,fk,eH]
        ·have hqb:0<q:=by omega
         have e0:decide (q=0)=false:=by simp[hq0]
         rw[e0] at hu hus
         simp only[Bool.false_eq_true,if_false] at hu hus
         have t0:=ax z ⟨#[44,32]⟩ yA
         rw[hu] at t0
         simp only[hqb,decide_true]
         refine dN ?_
         simp
         apply aO
         simp[hC,t0]
         refine aa.trim [9,8,7,3,1] [0,1] 2 yAz yA ?_
         simp[fk,eH]
       rintro s rfl
       refine T.cut (fun s=>s=⟨[(9,I q),(8,.aw 1 0),(7,I i),(3,.str v),(1,.aw 0 0)],[(0,⟨27,0,eH p⟩),(1,⟨137,0,fk ⟨nm,ps,bd⟩⟩)],2⟩) ?_ ?_
       ·apply au
        simp[hC,hql,hp1,ld,fk]
        refine T.cond (b:=b.mutex) rfl ?_
        cases hbm:b.mutex with
        | true=>
         rw[hbm,if_pos rfl] at hv hvs
         have t0:=ax u ⟨#[109,117,116,101,120,32]⟩ yA
         rw[hv] at t0
         simp
         apply aO
         simp[hC,t0]
         refine aa.trim [9,8,7,3,1] [0,1] 2 yAz yA ?_
         simp[eH]
        | false=>
         rw[hbm,if_neg yAa,mL] at hv
         simp
         apply T.skip
         simp
         refine aa.trim [9,8,7,3,1] [0,1] 2 yAz yA ?_
         simp[hv,eH]
       rintro s rfl
       have t1:=ax v b.name yA
       apply aO
       simp[hC,hql,hp0,ld,fk,t1]
       apply aO
       simp[hC,wq]
       refine⟨ps.length-(q+1),by omega,?_⟩
       refine aa.trim [9,8,7,3,1] [0,1] 2 yAz yA ⟨q+1,v++b.name,rfl,by omega,?_,?_⟩
       ·rw[← hzY,← hv,← hu]
        simp only[ByteArray.append_assoc]
        simp
       ·simp[fk,eH]
      ·have hie:q=ps.length:=by omega
       rw[hie,List.drop_length,uw,mL] at hzY
       subst hzY
       apply aJ
       simp[hC,hql,fk]
       refine bj ?_
       simp
       apply T.exit
       simp
       refine aa.trim [8,7,3,1] [0,1] 2 yAz yA ?_
       simp[eH]
    rintro s rfl
    have t0:=ax Y ⟨#[41,32,123,10]⟩ yA
    have t1:=ax (Y++⟨#[41,32,123,10]⟩) (js ⟨#[9]⟩ bd) yCt
    have t2:=ax (Y++⟨#[41,32,123,10]⟩++js ⟨#[9]⟩ bd) ⟨#[125,10]⟩ yCt
    apply aO
    simp[hC,t0,fk]
    refine cH yAd (hcl) ?_
    simp[hC,t1,t2]
    apply aO
    simp[hC,wi]
    refine⟨p.fs.length-(i+1),by omega,?_⟩
    refine aa.trim [7,3,1] [0] 1 yAz yA ⟨i+1,Y++⟨#[41,32,123,10]⟩++js ⟨#[9]⟩ bd++⟨#[125,10]⟩,rfl,by omega,?_,?_⟩
    ·rw[← hx2]
     simp only[ByteArray.append_assoc]
     rfl
    ·simp[eH]
   ·have hie:i=p.fs.length:=by omega
    rw[hie,List.drop_length,jO,mL] at hx
    subst hx
    apply aJ
    simp[hC,hil,eH]
    refine bj ?_
    simp
    apply T.exit
    simp
    refine aa.trim [3,1] [0] 1 yAa yA ?_
    simp
 rintro s rfl
 apply au
 simp[hC]
 apply T.ret
 apply aa.here
 simp[Tryz.results91]
theorem sU:∀ s∈nG++nM++nF++nP,bs s∉q9:=by decide
theorem Kl (k:Nat)(hk:k<24):bs (fz k)∉q9:=by
 rw[gh]
 exact (by decide:∀ k,k<24→[118,UInt8.ofNat (97+k % 26),UInt8.ofNat (97+k / 26 % 26)]∉q9) k hk
theorem zg (k:Nat)(hk:k<24):mO (fz k):=by
 refine⟨⟨⟨118,_,gh k,by decide⟩,?_,by rw[gh];simp⟩,Kl k hk⟩
 rw[gh]
 exact (by decide:∀ k,k<24→List.all [118,UInt8.ofNat (97+k % 26),UInt8.ofNat (97+k / 26 % 26)] fG=true) k hk
theorem _root_.Go.aX.kD.gR {p:Pg}(h:kD p):∀ g∈p.gs,mO g.name:=fun g hg=>⟨h.ng g hg,by
 obtain⟨k,_,hk⟩:=h.gn
 have:=List.mem_map_of_mem (f:=(·.name)) hg
 rw[hk] at this
 exact sU _ (by simp only[List.mem_append];exact .inl (.inl (.inl (List.mem_of_mem_take this))))⟩
theorem _root_.Go.aX.kD.mR {p:Pg}(h:kD p):∀ g∈p.ms,mO g.name:=fun g hg=>⟨h.nm g hg,by
 obtain⟨k,_,_,hk⟩:=h.mn
 have:=List.mem_map_of_mem (f:=(·.name)) hg
 rw[hk] at this
 exact sU _ (by simp only[List.mem_append];exact .inl (.inl (.inr (List.mem_of_mem_take this))))⟩
theorem _root_.Go.aX.kD.fR {p:Pg}(h:kD p):∀ g∈p.fs,mO g.name:=fun g hg=>⟨h.nf g hg,by
 obtain⟨k,_,_,hk⟩:=h.fn
 have:=List.mem_map_of_mem (f:=(·.name)) hg
 rw[hk] at this
 exact sU _ (by simp only[List.mem_append];exact .inl (.inr (List.mem_of_mem_take this)))⟩
theorem _root_.Go.aX.kD.pR {p:Pg}(h:kD p):∀ f∈p.fs,∀ q∈f.params,mO q.name:=fun f hf q hq=>⟨h.np f hf q hq,by
 obtain⟨k,_,hk⟩:=h.pn f hf
 have:=List.mem_map_of_mem (f:=(·.name)) hq
 rw[hk,List.mem_reverse] at this
 exact sU _ (by simp only[List.mem_append];exact .inr (List.mem_of_mem_take this))⟩
theorem _root_.Go.aX.kD.vR {p:Pg}(h:kD p):∀ f∈p.fs,∀ s∈jF p.gs f.params,mO s:=fun f hf s hs=>by
 rcases uE hs with hs | hs
 ·rw[List.mem_map] at hs
  obtain⟨g,hg,rfl⟩:=hs
  exact h.gR g hg
 ·rw[List.mem_map] at hs
  obtain⟨g,hg,rfl⟩:=hs
  exact h.pR f hf g hg
theorem _root_.Go.aX.kD.pl {p:Pg}(h:kD p):∀ f∈p.fs,f.params.length≤2:=fun f hf=>by
 obtain⟨k,hk,hpk⟩:=h.pn f hf
 have:=congrArg List.length hpk
 simp[nP] at this
 omega
theorem H8 (s:Sm):2≤eA s:=by cases s<;>simp only[eA]<;>omega
theorem j0:∀ l:List Sm,2*l.length≤bG l
 | []=>by simp[bG]
 | s::r=>by
  have:=j0 r
  have:=H8 s
  simp only[bG,List.length_cons]
  omega
def OkF (deep:Nat)(s:Sm):Prop:=match s with
 | .gZ nm e=>mO nm∧ae Tryz.prog 124 [.agg (aZ e)] (.bool true)
 | .iF nm e=>mO nm∧ae Tryz.prog 124 [.agg (aZ e)] (.bool true)
 | .dY _ nm al=>mO nm∧al.length≤1000∧∀ a∈al,okA a
 | .dB _ r=>RfR r
 | .lG e th el=>ae Tryz.prog 124 [.agg (aZ e)] (.bool true)∧ae Tryz.prog 90 [.av (bA th) th.length,I ((deep+1:Nat))] (.bool true)∧ae Tryz.prog 90 [.av (bA el) el.length,I ((deep+1:Nat))] (.bool true)
 | .cJ e th=>ae Tryz.prog 124 [.agg (aZ e)] (.bool true)∧ae Tryz.prog 90 [.av (bA th) th.length,I ((deep+1:Nat))] (.bool true)
 | .jC=>True
theorem mg {l:List Sm}{deep:Nat}(hd:deep<20)(hl:l.length≤100000)(h:∀ s∈l,OkF deep s):ae Tryz.prog 90 [.av (bA l) l.length,I deep] (.bool true):=
 yo l deep hd hl fun s hs=>by
  have:=h s hs
  cases s<;>exact this
section
variable {ms:List Mx}{fs:List (ByteArray×List Pm)}{ps:List Pm}(hms:∀ m∈ms,mO m.name)(hfs:∀ x∈fs,mO x.1)(hfl:∀ x∈fs,x.2.length≤2)(hps:∀ q∈ps,mO q.name)
include hms hps
theorem rf_R {V:List ByteArray}(hV:∀ x∈V,mO x){r:Rf}(h:EX ms ps V r):RfR r:=by
 rcases h with ⟨m,hm,hn,hi⟩ | ⟨q,hq,_,hn,hi⟩
 ·refine⟨by rw[hn];exact hms m hm,fun e he=>?_⟩
  rcases hi with ⟨hi,_⟩ | ⟨e',hi,_,hw⟩
  ·rw[hi] at he;cases he
  ·rw[hi] at he
   cases he
   exact fN hV 1 _ yA hw
 ·exact⟨by rw[hn];exact hps q hq,fun e he=>by rw[hi] at he;cases he⟩
theorem JW {V:List ByteArray}(hV:∀ x∈V,mO x):∀ {gp:List Pm} {l:List Ar},jr ms ps V gp l→∀ a∈l,okA a
 | [],[],_=>by simp
 | q::gp,a::l,h=>by
  simp only[jr] at h
  intro x hx
  rcases List.mem_cons.1 hx with rfl | hx
  ·cases x with
   | uJ r=>exact rf_R hms hps hV h.1.2
   | exp e=>exact fN hV 2 _ yA h.1.2
  ·exact JW hV h.2 x hx
 | [],_::_,h=>h.elim
 | _::_,[],h=>h.elim
theorem rf_T {V:List ByteArray}(hV:∀ x∈V,mO x){r:Rf}(h:EX ms ps V r):Lv r:=by
 have hV':∀ x∈V,dm x:=fun x hx=>(hV x hx).1
 have hz:∀ s:ByteArray,dm s→s.size≤100:=fun s hs=>by
  have:=hs.2.2
  rw[lE] at this
  omega
 rcases h with ⟨m,hm,hn,hi⟩ | ⟨q,hq,_,hn,hi⟩
 ·refine⟨by rw[hn];exact hz _ (hms m hm).1,fun e he=>?_⟩
  rcases hi with ⟨hi,_⟩ | ⟨e',hi,_,hw⟩
  ·rw[hi] at he;cases he
  ·rw[hi] at he
   cases he
   exact⟨oq hV' 1 _ yA hw,lV hV' (d:=1) yA hw⟩
 ·exact⟨by rw[hn];exact hz _ (hps q hq).1,fun e he=>by rw[hi] at he;cases he⟩
theorem JV {V:List ByteArray}(hV:∀ x∈V,mO x):∀ {gp:List Pm} {l:List Ar},jr ms ps V gp l→∀ a∈l,TxA a
 | [],[],_=>by simp
 | q::gp,a::l,h=>by
  simp only[jr] at h
  intro x hx
  rcases List.mem_cons.1 hx with rfl | hx
  ·cases x with
   | uJ r=>exact rf_T hms hps hV h.1.2
   | exp e=>
    have hV':∀ x∈V,dm x:=fun x hx=>(hV x hx).1
    exact⟨oq hV' 2 _ yA h.1.2,lV hV' (d:=2) yA h.1.2⟩
  ·exact JV hV h.2 x hx
 | [],_::_,h=>h.elim
 | _::_,[],h=>h.elim
include hfs hfl
theorem zV:(∀ s:Sm,∀ d V deep,(∀ x∈V,mO x)→deep+d<20→dS ms fs ps d V s→eA s≤2000→OkF deep s)∧
  (∀ l:List Sm,∀ d V deep,(∀ x∈V,mO x)→deep+d<20→cR ms fs ps d V l→bG l≤2000→∀ s∈l,OkF deep s):=by
 let M1:Sm→Prop:=fun s=>∀ d V deep,(∀ x∈V,mO x)→deep+d<20→dS ms fs ps d V s→eA s≤2000→OkF deep s
 let M2:List Sm→Prop:=fun l=>∀ d V deep,(∀ x∈V,mO x)→deep+d<20→cR ms fs ps d V l→bG l≤2000→∀ s∈l,OkF deep s
 have hvn:∀ k,k<24→mO (fz k):=zg
 have A1:∀ (s:ByteArray) (e:Ex),M1 (.gZ s e):=by
  intro s e d V deep hV _ hw _
  simp only[dS] at hw
  obtain⟨⟨k,hk,rfl⟩,_,he⟩:=hw
  exact⟨hvn k hk,fN hV 2 _ yA he⟩
 have A2:∀ (s:ByteArray) (e:Ex),M1 (.iF s e):=by
  intro s e d V deep hV _ hw _
  simp only[dS] at hw
  exact⟨hV s hw.1,fN hV 2 _ yA hw.2⟩
 have A3:∀ (g:Bool) (s:ByteArray) (l:List Ar),M1 (.dY g s l):=by
  intro g s l d V deep hV _ hw hk
  simp only[dS] at hw
  obtain⟨gp,h1,h2⟩:=hw
  have:=h2.len
  have:=hfl _ h1
  simp only at this
  exact⟨hfs _ h1,by omega,JW hms hps hV h2⟩
 have A4:∀ (u:Bool) (r:Rf),M1 (.dB u r):=by
  intro u r d V deep hV _ hw _
  simp only[dS] at hw
  exact rf_R hms hps hV hw
 have A5:∀ (e:Ex) (th el:List Sm),M2 th→M2 el→M1 (.lG e th el):=by
  intro e th el i1 i2 d V deep hV hd hw hk
  cases d with
  | zero=>simp[dS] at hw
  | succ d=>
   simp only[dS] at hw
   simp only[eA] at hk
   have l1:=j0 th
   have l2:=j0 el
   exact⟨fN hV 2 _ yA hw.1,mg yA yA (i1 d V _ hV yA hw.2.1 yA),mg yA yA (i2 d V _ hV yA hw.2.2 yA)⟩
 have A6:∀ (e:Ex) (th:List Sm),M2 th→M1 (.cJ e th):=by
  intro e th i1 d V deep hV hd hw hk
  cases d with
  | zero=>simp[dS] at hw
  | succ d=>
   simp only[dS] at hw
   simp only[eA] at hk
   have l1:=j0 th
   exact⟨fN hV 2 _ yA hw.1,mg yA yA (i1 d V _ hV yA hw.2 yA)⟩
 have A7:M1 .jC:=fun _ _ _ _ _ _ _=>trivial
 have A0:M2 []:=fun _ _ _ _ _ _ _ s hs=>by simp at hs
 have A8:∀ (s:Sm) (r:List Sm),M1 s→M2 r→M2 (s::r):=by
  intro s r i1 i2 d V deep hV hd hw hk x hx
  simp only[cR] at hw
  simp only[bG] at hk
  have hV2:∀ x∈V++dW s,mO x:=by
   intro x hx
   rcases List.mem_append.1 hx with hx | hx
   ·exact hV x hx
   ·cases s<;>simp only[dW,List.mem_singleton,List.not_mem_nil] at hx
    subst hx
    have:=hw.1
    simp only[dS] at this
    obtain⟨⟨j,hj,rfl⟩,_⟩:=this
    exact hvn j hj
  rcases List.mem_cons.1 hx with rfl | hx
  ·exact i1 d V deep hV hd hw.1 yA
  ·exact i2 d _ deep hV2 hd hw.2 yA x hx
 exact⟨fun s=>Sm.rec (motive_1:=M1) (motive_2:=M2) A1 A2 A3 A4 A5 A6 A7 A0 A8 s,fun l=>Sm.rec_1 (motive_1:=M1) (motive_2:=M2) A1 A2 A3 A4 A5 A6 A7 A0 A8 l⟩
theorem Ed:(∀ s:Sm,∀ d V tabs,(∀ x∈V,mO x)→gL d tabs→dS ms fs ps d V s→eA s≤2000→TxS tabs s)∧
  (∀ l:List Sm,∀ d V tabs,(∀ x∈V,mO x)→gL d tabs→cR ms fs ps d V l→bG l≤2000→∀ s∈l,TxS tabs s):=by
 let M1:Sm→Prop:=fun s=>∀ d V tabs,(∀ x∈V,mO x)→gL d tabs→dS ms fs ps d V s→eA s≤2000→TxS tabs s
 let M2:List Sm→Prop:=fun l=>∀ d V tabs,(∀ x∈V,mO x)→gL d tabs→cR ms fs ps d V l→bG l≤2000→∀ s∈l,TxS tabs s
 have hvn:∀ k,k<24→mO (fz k):=zg
 have hz:∀ s:ByteArray,mO s→s.size≤100:=fun s hs=>by
  have:=hs.1.2.2
  rw[lE] at this
  omega
 have tx:∀ {V:List ByteArray} (_:∀ x∈V,mO x) {e:Ex},fM V 2 e→Lw e:=fun {V} hV {e} he=>⟨oq (fun x hx=>(hV x hx).1) 2 _ yA he,lV (fun x hx=>(hV x hx).1) (d:=2) yA he⟩
 have jX:∀ (l:List Sm) (d:Nat) (V:List ByteArray) (tabs:ByteArray),M2 l→(∀ x∈V,mO x)→gL d tabs→cR ms fs ps d V l→bG l≤2000→ae Tryz.prog 129 [.av (bA l) l.length,.str tabs] (.str (js tabs l)):=by
  intro l d V tabs i1 hV ht hw hk
  have hs:=((bZ.lines (ms:=ms) (fs:=fs) (ps:=ps) (fun m hm=>(hms m hm).1) (fun x hx=>(hfs x hx).1) (fun q hq=>(hps q hq).1)).2 l d V tabs (fun x hx=>(hV x hx).1) ht hw).1
  rw[lE] at hs
  have h2:=ht.2
  rw[lE] at h2
  have h3:=j0 l
  exact uS l tabs yA yA yA (i1 d V tabs hV ht hw hk)
 have A1:∀ (s:ByteArray) (e:Ex),M1 (.gZ s e):=by
  intro s e d V tabs hV _ hw _
  simp only[dS] at hw
  obtain⟨⟨k,hk,rfl⟩,_,he⟩:=hw
  exact⟨hz _ (hvn k hk),tx hV he⟩
 have A2:∀ (s:ByteArray) (e:Ex),M1 (.iF s e):=by
  intro s e d V tabs hV _ hw _
  simp only[dS] at hw
  exact⟨hz _ (hV s hw.1),tx hV hw.2⟩
 have A3:∀ (g:Bool) (s:ByteArray) (l:List Ar),M1 (.dY g s l):=by
  intro g s l d V tabs hV _ hw hk
  simp only[dS] at hw
  obtain⟨gp,h1,h2⟩:=hw
  have:=h2.len
  have:=hfl _ h1
  simp only at this
  exact⟨hz _ (hfs _ h1),by omega,JV hms hps hV h2⟩
 have A4:∀ (u:Bool) (r:Rf),M1 (.dB u r):=by
  intro u r d V tabs hV _ hw _
  simp only[dS] at hw
  exact rf_T hms hps hV hw
 have A5:∀ (e:Ex) (th el:List Sm),M2 th→M2 el→M1 (.lG e th el):=by
  intro e th el i1 i2 d V tabs hV ht hw hk
  cases d with
  | zero=>simp[dS] at hw
  | succ d=>
   simp only[dS] at hw
   simp only[eA] at hk
   exact⟨tx hV hw.1,jX th d V _ i1 hV ht.D9 hw.2.1 yA,jX el d V _ i2 hV ht.D9 hw.2.2 yA⟩
 have A6:∀ (e:Ex) (th:List Sm),M2 th→M1 (.cJ e th):=by
  intro e th i1 d V tabs hV ht hw hk
  cases d with
  | zero=>simp[dS] at hw
  | succ d=>
   simp only[dS] at hw
   simp only[eA] at hk
   exact⟨tx hV hw.1,jX th d V _ i1 hV ht.D9 hw.2 yA⟩
 have A7:M1 .jC:=fun _ _ _ _ _ _ _=>trivial
 have A0:M2 []:=fun _ _ _ _ _ _ _ s hs=>by simp at hs
 have A8:∀ (s:Sm) (r:List Sm),M1 s→M2 r→M2 (s::r):=by
  intro s r i1 i2 d V tabs hV hd hw hk x hx
  simp only[cR] at hw
  simp only[bG] at hk
  have hV2:∀ x∈V++dW s,mO x:=by
   intro x hx
   rcases List.mem_append.1 hx with hx | hx
   ·exact hV x hx
   ·cases s<;>simp only[dW,List.mem_singleton,List.not_mem_nil] at hx
    subst hx
    have:=hw.1
    simp only[dS] at this
    obtain⟨⟨j,hj,rfl⟩,_⟩:=this
    exact hvn j hj
  rcases List.mem_cons.1 hx with rfl | hx
  ·exact i1 d V tabs hV hd hw.1 yA
  ·exact i2 d _ tabs hV2 hd hw.2 yA x hx
 exact⟨fun s=>Sm.rec (motive_1:=M1) (motive_2:=M2) A1 A2 A3 A4 A5 A6 A7 A0 A8 s,fun l=>Sm.rec_1 (motive_1:=M1) (motive_2:=M2) A1 A2 A3 A4 A5 A6 A7 A0 A8 l⟩
end
section
variable {p:Pg}(h:kD p)
include h
theorem _root_.Go.aX.kD.CC (f:Fu)(hf:f∈p.fs):bG f.body≤1152:=by
 have hw:=h.wt
 have:bG f.body∈p.fs.map fun f=>bG f.body:=List.mem_map_of_mem (f:=fun f=>bG f.body) hf
 have h2:∀ {l:List Nat} {a:Nat},a∈l→a≤l.sum:=fun {l a} ha=>by
  induction l with
  | nil=>simp at ha
  | cons b r ih=>
   rcases List.mem_cons.1 ha with rfl | ha
   ·simp
   ·have:=ih ha
    simp only[List.sum_cons]
    omega
 have:=h2 this
 omega
theorem _root_.Go.aX.kD.HM:(∀ x∈p.fs.map fun f=>(f.name,f.params),mO x.1)∧(∀ x∈p.fs.map fun f=>(f.name,f.params),x.2.length≤2):=by
 refine⟨fun x hx=>?_,fun x hx=>?_⟩
 ·rw[List.mem_map] at hx
  obtain⟨f,hf,rfl⟩:=hx
  exact h.fR f hf
 ·rw[List.mem_map] at hx
  obtain⟨f,hf,rfl⟩:=hx
  exact h.pl f hf
theorem _root_.Go.aX.kD.okb (f:Fu)(hf:f∈p.fs):ae Tryz.prog 90 [.av (bA f.body) f.body.length,I (0:Nat)] (.bool true):=by
 have hk:=h.CC f hf
 have hl:=j0 f.body
 exact mg yA yA ((zV h.mR h.HM.1 h.HM.2 (h.pR f hf)).2 f.body 2 _ 0 (h.vR f hf) yA (h.bd f hf) yA)
theorem _root_.Go.aX.kD.lnb (f:Fu)(hf:f∈p.fs):ae Tryz.prog 129 [.av (bA f.body) f.body.length,.str ⟨#[9]⟩] (.str (js ⟨#[9]⟩ f.body)):=by
 have hk:=h.CC f hf
 have hl:=j0 f.body
 have ht:gL 2 ⟨#[9]⟩:=⟨by decide,by decide⟩
 have hs:=((bZ.lines (ms:=p.ms) (fs:=p.fs.map fun f=>(f.name,f.params)) (ps:=f.params) (fun m hm=>(h.mR m hm).1) (fun x hx=>(h.HM.1 x hx).1) (fun q hq=>(h.pR f hf q hq).1)).2 f.body 2 _ ⟨#[9]⟩ (fun x hx=>(h.vR f hf x hx).1) ht (h.bd f hf)).1
 rw[lE] at hs
 exact uS f.body ⟨#[9]⟩ yAe yA yA ((Ed h.mR h.HM.1 h.HM.2 (h.pR f hf)).2 f.body 2 _ _ (h.vR f hf) ht (h.bd f hf) yA)
end
def J57a (p:Pg)(n:Nat)(s:St):Prop:=∃ i:Nat,n=p.gs.length-i∧i≤p.gs.length∧s=⟨[(3,I i),(1,.aw 0 0)],[(0,⟨27,0,eH p⟩)],1⟩
def J57b (p:Pg)(n:Nat)(s:St):Prop:=∃ i:Nat,n=p.ms.length-i∧i≤p.ms.length∧s=⟨[(4,I i),(1,.aw 0 0)],[(0,⟨27,0,eH p⟩)],1⟩
def J57c (p:Pg)(n:Nat)(s:St):Prop:=∃ i:Nat,n=p.fs.length-i∧i≤p.fs.length∧s=⟨[(6,I i),(1,.aw 0 0)],[(0,⟨27,0,eH p⟩)],1⟩
def J57d (p:Pg)(i:Nat)(f:Fu)(n:Nat)(s:St):Prop:=∃ q:Nat,n=f.params.length-q∧q≤f.params.length∧s=⟨[(8,I q),(7,.aw 1 0),(6,I i),(1,.aw 0 0)],[(0,⟨27,0,eH p⟩),(1,⟨137,0,fk f⟩)],2⟩
set_option maxHeartbeats 8000000 in
theorem E8 (p:Pg)(h:kD p):ae Tryz.prog 57 [wT p] (.bool true):=by
 have hT:=KC h
 have hTs:(D0 p).size≤262144:=by have:=hT.2;rw[lE] at this;exact this
 obtain⟨k1,hk1,e1⟩:=h.gn
 obtain⟨k2,_,hk2,e2⟩:=h.mn
 obtain⟨k3,_,hk3,e3⟩:=h.fn
 have l1:=congrArg List.length e1
 have l2:=congrArg List.length e2
 have l3:=congrArg List.length e3
 simp[nG] at l1
 simp[nM] at l2
 simp[nF] at l3
 clear e1 e2 e3
 have hpr:=zN p yA yA yA yA (fun g hg=>by have:=h.gi g hg;omega) (fun m hm=>by have:=(h.mz m hm).1;omega) (fun f hf=>⟨by have:=h.pl f hf;omega,h.lnb f hf⟩)
 have hlx:=KQ (bs (D0 p)) hT.2 hT.1
 have g1:¬ (16:Int)<p.gs.length:=by omega
 have g2:¬ (12:Int)<p.ms.length:=by omega
 have g3:¬ (16:Int)<p.fs.length:=by omega
 have fg:=fun (k:Nat) (a:Gl) (h:p.gs[k]? = some a)=>aE (f:=pd) (n:=2) (fun _=>rfl) h
 have fg1:=fun (k:Nat) (a:Gl) (h:p.gs[k]? = some a)=>cB (f:=pd) (n:=2) (fun _=>rfl) h 1 yA
 have fm:=fun (k:Nat) (a:Mx) (h:p.ms[k]? = some a)=>aE (f:=cq) (n:=3) (fun _=>rfl) h
 have ff:=fun (k:Nat) (a:Fu) (h:p.fs[k]? = some a)=>aE (f:=fk) (n:=3) (fun _=>rfl) h
 refine ae.aB ag Tryz.func57 rfl yAb (by simp[Tryz.ntmps57]) rfl fun C hC hC0=>?_
 rw[Tryz.ntmps57] at hC
 apply au
 simp[hC,wT,eH]
 apply aJ
 simp[hC,g1,g2,g3]
 refine e9 ?_
 simp
 refine T.cut (fun s=>s=⟨[(1,.aw 0 0)],[(0,⟨27,0,eH p⟩)],1⟩) ?_ ?_
 ·apply au
  simp[hC]
  apply T.block
  refine T.aL (J57a p) (n:=p.gs.length) ?_ ?_
  ·refine aa.trim [3,1] [0] 1 yAa yA ⟨0,by omega,by omega,?_⟩
   simp[eH]
  ·rintro n s ⟨i,rfl,hi,rfl⟩
   by_cases hil:i<p.gs.length
   ·obtain⟨a,hia⟩:∃ a,p.gs[i]? = some a:=⟨p.gs[i],List.getElem?_eq_getElem hil⟩
    have hdr:=fg i a hia
    have hdr1:=fg1 i a hia
    have hm:=List.mem_of_getElem? hia
    have hn:=jH a.name (h.gR a hm).1 (h.gR a hm).2
    have hin:(a.init == -9223372036854775808)=false:=by have:=h.gi a hm;simp;omega
    have wi:=ct ((i:Int)+1) yA yA
    apply aJ
    simp[hC,hil,eH]
    refine iv ?_
    simp
    apply fq
    apply au
    simp[hC,hil,hdr,pd]
    refine cH yAd (hn) ?_
    simp[hC,hil,hdr,hin,pd]
    refine e9 ?_
    simp
    apply aO
    simp[hC,wi]
    refine⟨p.gs.length-(i+1),by omega,?_⟩
    refine aa.trim [3,1] [0] 1 yAa yA ⟨i+1,rfl,by omega,?_⟩
    simp[eH]
   ·apply aJ
    simp[hC,hil,eH]
    refine bj ?_
    simp
    apply T.exit
    simp
    refine aa.trim [1] [0] 1 yAa yA ?_
    simp
 rintro s rfl
 refine T.cut (fun s=>s=⟨[(1,.aw 0 0)],[(0,⟨27,0,eH p⟩)],1⟩) ?_ ?_
 ·apply au
  simp[hC]
  apply T.block
  refine T.aL (J57b p) (n:=p.ms.length) ?_ ?_
  ·refine aa.trim [4,1] [0] 1 yAz yA ⟨0,by omega,by omega,?_⟩
   simp[eH]
  ·rintro n s ⟨i,rfl,hi,rfl⟩
   by_cases hil:i<p.ms.length
   ·obtain⟨a,hia⟩:∃ a,p.ms[i]? = some a:=⟨p.ms[i],List.getElem?_eq_getElem hil⟩
    have hdr:=fm i a hia
    have hm:=List.mem_of_getElem? hia
    have hn:=jH a.name (h.mR a hm).1 (h.mR a hm).2
    have hz:=h.mz a hm
    have wi:=ct ((i:Int)+1) yA yA
    have z1:¬ (a.size:Int)<0:=by omega
    have z2:¬ (64:Int)<a.size:=by omega
    apply aJ
    simp[hC,hil,eH]
    refine iv ?_
    simp
    apply fq
    apply au
    simp[hC,hil,hdr,cq]
    cases hre:a.re with
    | true=>
     have z3:=hz.2 hre
     apply au
     simp[hC]
     refine cH yAd (hn) ?_
     simp[hC,z3]
     refine e9 ?_
     simp
     apply aO
     simp[hC,wi]
     refine⟨p.ms.length-(i+1),by omega,?_⟩
     refine aa.trim [4,1] [0] 1 yAa yA ⟨i+1,rfl,by omega,?_⟩
     simp[eH]
    | false=>
     apply au
     simp[hC]
     refine cH yAd (hn) ?_
     simp[hC,z1,z2]
     refine e9 ?_
     simp
     apply aO
     simp[hC,wi]
     refine⟨p.ms.length-(i+1),by omega,?_⟩
     refine aa.trim [4,1] [0] 1 yAa yA ⟨i+1,rfl,by omega,?_⟩
     simp[eH]
   ·apply aJ
    simp[hC,hil,eH]
    refine bj ?_
    simp
    apply T.exit
    simp
    refine aa.trim [1] [0] 1 yAa yA ?_
    simp
 rintro s rfl
 refine T.cut (fun s=>s=⟨[(1,.aw 0 0)],[(0,⟨27,0,eH p⟩)],1⟩) ?_ ?_
 ·apply au
  simp[hC]
  apply T.block
  refine T.aL (J57c p) (n:=p.fs.length) ?_ ?_
  ·refine aa.trim [6,1] [0] 1 yAz yA ⟨0,by omega,by omega,?_⟩
   simp[eH]
  ·rintro n s ⟨i,rfl,hi,rfl⟩
   by_cases hil:i<p.fs.length
   ·obtain⟨a,hia⟩:∃ a,p.fs[i]? = some a:=⟨p.fs[i],List.getElem?_eq_getElem hil⟩
    have hdr:=ff i a hia
    have hm:=List.mem_of_getElem? hia
    have hn:=jH a.name (h.fR a hm).1 (h.fR a hm).2
    have hb:=h.okb a hm
    have hpl:=h.pl a hm
    have wi:=ct ((i:Int)+1) yA yA
    have z1:¬ (6:Int)<a.params.length:=by omega
    apply aJ
    simp[hC,hil,eH]
    refine iv ?_
    simp
    apply fq
    apply au
    simp[hC,hil,hdr,fk]
    apply aJ
    simp[hC]
    refine cH yAd (hn) ?_
    simp[hC,z1]
    refine TL.cC yAc rfl rfl rfl rfl (bF.of rfl yAd (hb)) (TL.go' ag ?_)
    simp[hC]
    refine e9 ?_
    simp
    apply au
    simp[hC]
    apply T.block
    refine T.aL (J57d p i a) (n:=a.params.length) ?_ ?_
    ·refine aa.trim [8,7,6,1] [0,1] 2 yAa yA ⟨0,by omega,by omega,?_⟩
     simp[eH,fk]
    ·rintro n s ⟨q,rfl,hq,rfl⟩
     by_cases hql:q<a.params.length
     ·obtain⟨b,hqb⟩:∃ b,a.params[q]? = some b:=⟨a.params[q],List.getElem?_eq_getElem hql⟩
      have hp0:=aE (f:=ld) (n:=2) (fun _=>rfl) hqb
      have hbm:=List.mem_of_getElem? hqb
      have hn2:=jH b.name (h.pR a hm b hbm).1 (h.pR a hm b hbm).2
      have wq:=ct ((q:Int)+1) yA yA
      apply aJ
      simp[hC,hql,fk]
      refine iv ?_
      simp
      apply fq
      apply au
      simp[hC,hql,hp0,ld]
      refine cH yAd (hn2) ?_
      simp[hC]
      refine e9 ?_
      simp
      apply aO
      simp[hC,wq]
      refine⟨a.params.length-(q+1),by omega,?_⟩
      refine aa.trim [8,7,6,1] [0,1] 2 yAz yA ⟨q+1,rfl,by omega,?_⟩
      simp[eH,fk]
     ·apply aJ
      simp[hC,hql,fk]
      refine bj ?_
      simp
      apply T.exit
      simp
      apply aO
      simp[hC,wi]
      refine⟨p.fs.length-(i+1),by omega,?_⟩
      refine aa.trim [6,1] [0] 1 yAz yA ⟨i+1,rfl,by omega,?_⟩
      simp[eH]
   ·apply aJ
    simp[hC,hil,eH]
    refine bj ?_
    simp
    apply T.exit
    simp
    refine aa.trim [1] [0] 1 yAa yA ?_
    simp
 rintro s rfl
 apply au
 simp[hC,eH]
 refine TL.call yAc rfl rfl (bF.of rfl (by rfl) hpr) (TL.Bl ag ?_)
 have hTz:(D0 p).size≤1000000:=by omega
 have hby:dG (bs (D0 p))=.av (pM (D0 p)) (D0 p).size:=by rw[dG,lE];rfl
 rw[hby] at hlx
 simp[hC,hTz]
 refine TL.Hr yAc rfl rfl rfl (by rfl) hlx fun r hr=>TL.go' ag ?_
 obtain⟨cs,n,e,rfl⟩:=hr
 simp[hC]
 apply au
 simp[hC]
 apply T.ret
 apply aa.here
 simp[Tryz.results57]
end Go.Proofs.YtmnglemlimfpbaaGreat
