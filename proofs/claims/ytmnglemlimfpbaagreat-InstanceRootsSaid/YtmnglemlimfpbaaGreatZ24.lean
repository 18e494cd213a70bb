/- Reserved, Name, skip, number, sign. -/
import Derived.Test.YtmnglemlimfpbaaGreatZ23
namespace Go.Proofs.YtmnglemlimfpbaaGreat
open Go.Can Go.bg
def HW:List ByteArray:=[⟨#[118,97,114]⟩,⟨#[109,117,116,101,120]⟩,⟨#[114,109,117,116,101,120]⟩,⟨#[102,117,110,99]⟩,⟨#[108,111,99,107]⟩,⟨#[117,110,108,111,99,107]⟩,⟨#[103,111]⟩,⟨#[105,102]⟩,⟨#[101,108,115,101]⟩,⟨#[119,104,105,108,101]⟩,⟨#[114,101,116,117,114,110]⟩]
theorem F1:HW.map bs=pP:=rfl
theorem I1 {a b:ByteArray}(h:bs a=bs b):a=b:=by
 unfold bs at h
 exact ByteArray.ext (Array.toList_inj.1 h)
theorem Es (s:ByteArray):hasB HW s=decide (bs s∈pP):=by
 rw[Bool.eq_iff_iff,decide_eq_true_eq,← F1]
 unfold hasB
 rw[List.any_eq_true,List.mem_map]
 constructor
 ·rintro⟨x,h1,h2⟩
  exact⟨x,h1,by rw[of_decide_eq_true h2]⟩
 ·rintro⟨x,h1,h2⟩
  exact⟨x,h1,by rw[I1 h2];simp⟩
theorem ql (s:ByteArray):ah Tryz.prog 105 [.str s] (.bool (decide (bs s∈pP))):=by
 refine ah.bl aa Tryz.func105 rfl (by kernel_rfl) (by simp[Tryz.ntmps105]) rfl fun C hC hC0=>?_
 rw[Tryz.ntmps105] at hC
 refine T.seq (T.go' aa ?_)
 simp[hC]
 refine T.seq (T.go' aa ?_)
 simp[hC]
 refine TL.le (Le.eM (o:=0) rfl rfl) ?_
 simp[cm]
 have h:=wx HW s (by decide)
 rw[Es] at h
 refine TL.call (by simp[hC]) rfl rfl (aI.of rfl (by first | rfl | simp only[List.cons_append,List.nil_append,List.append_nil,trees,tree,ag,ak,Bool.and_self,Bool.and_true,Bool.true_and]) (h)) (TL.go' aa ?_)
 simp[hC]
 refine T.ret ?_
 refine ae.here ?_
 simp[Tryz.results105]
def dn (l:List UInt8):CV:=.ax (l.map fun x=>.int .u8 (x.toNat:Int)) l.length
theorem kp {l:List UInt8}{i:Nat}{c:UInt8}(h:l[i]? = some c):(l.map fun x=>CV.int .u8 (x.toNat:Int)).drop i=.int .u8 (c.toNat:Int)::(l.map fun x=>CV.int .u8 (x.toNat:Int)).drop (i+1):=by
 obtain⟨h1,h2⟩:=List.getElem?_eq_some_iff.1 h
 rw[List.drop_eq_getElem_cons (by simpa using h1)]
 simp[h2]
theorem Gv (c:UInt8):gY c=((c.toNat:Int) == 32 || (c.toNat:Int) == 9 || (c.toNat:Int) == 10 || (c.toNat:Int) == 13):=by
 have h:∀ k:UInt8,(c == k)=((c.toNat:Int) == (k.toNat:Int)):=fun k=>by
  rw[Bool.eq_iff_iff,beq_iff_eq,beq_iff_eq]
  constructor
  ·intro h;rw[h]
  ·intro h;exact UInt8.toNat_inj.1 (by omega)
 simp only[gY,h]
 rfl
theorem Dk {c:UInt8}{r:List UInt8}:pC (c::r)=if gY c=true then pC r+1 else 0:=by
 unfold pC
 rw[List.takeWhile_cons]
 split<;>simp
theorem gC {l:List UInt8}{i:Nat}{c:UInt8}(h:l[i]? = some c):l.drop i=c::l.drop (i+1):=by
 obtain⟨h1,h2⟩:=List.getElem?_eq_some_iff.1 h
 rw[List.drop_eq_getElem_cons h1,h2]
theorem Am (l:List UInt8)(at0:Nat)(hat:at0≤l.length)(hl:l.length≤1000000)(hcm:∀ r,l.drop (at0+pC (l.drop at0))=47::r→r.head?≠some 47):ah Tryz.prog 102 [dn l,I at0] (I ((at0+pC (l.drop at0):Nat))):=by
 obtain⟨e,he⟩:∃ e,at0+pC (l.drop at0)=e:=⟨_,rfl⟩
 rw[he] at hcm ⊢
 refine ah.bl aa Tryz.func102 rfl (by kernel_rfl) (by simp[Tryz.ntmps102]) rfl fun C hC hC0=>?_
 rw[Tryz.ntmps102] at hC
 refine T.seq (T.go' aa ?_)
 simp[hC]
 refine T.seq (T.block ?_)
 refine T.aS (fun m st=>∃ i:Nat,m=l.length-i∧i≤l.length∧i+pC (l.drop i)=e∧st=⟨[(0,dn l),(1,I i)],[],0⟩) (n:=l.length-at0) ?_ ?_
 ·refine ae.le (Le.env [0,1]) (ae.here ⟨at0,rfl,hat,he,?_⟩)
  simp
 ·rintro n st ⟨i,rfl,hi,hie,rfl⟩
  by_cases hil:i<l.length
  ·obtain⟨c,hc⟩:∃ c,l[i]? = some c:=⟨l[i],List.getElem?_eq_getElem hil⟩
   have hdr:=kp hc
   have hd:=gC hc
   rw[hd,Dk] at hie
   have hw:=db ((i:Int)+1) (by omega) (by omega)
   refine T.seq (T.seq (T.go' aa ?_))
   simp[hC,dn,hil]
   refine T.cond (b:=true) rfl (T.skip ?_)
   simp
   refine T.block (T.block ?_)
   refine T.cut (fun st=>st=⟨[(10,.bool (gY c)),(0,dn l),(1,I i)],[],0⟩) ?_ ?_
   ·rw[Gv]
    generalize (c.toNat:Int)=n at hdr
    by_cases h1:n=32
    ·refine T.go' aa ?_
     simp[hC,h1,hil,hdr]
     refine ae.le (Le.env [10,0,1]) (ae.here ?_)
     simp[dn]
    have h1:(n == 32)=false:=by simp[h1]
    by_cases h2:n=9
    ·refine T.go' aa ?_
     simp[hC,h2,hil,hdr]
     refine ae.le (Le.env [10,0,1]) (ae.here ?_)
     simp[dn]
    have h2:(n == 9)=false:=by simp[h2]
    by_cases h3:n=10
    ·refine T.go' aa ?_
     simp[hC,h3,hil,hdr]
     refine ae.le (Le.env [10,0,1]) (ae.here ?_)
     simp[dn]
    have h3:(n == 10)=false:=by simp[h3]
    refine T.go' aa ?_
    simp[hC,h1,h2,h3,hil,hdr]
    refine ae.le (Le.env [10,0,1]) (ae.here ?_)
    simp[dn]
   ·rintro st rfl
    refine T.bf rfl (fun h=>?_) (fun h=>?_)
    ·rw[h,if_pos rfl] at hie
     refine T.go' aa ?_
     simp[hC,hw]
     refine⟨l.length-(i+1),by omega,?_⟩
     refine ae.le (Le.env [0,1]) (ae.here ⟨i+1,rfl,by omega,by omega,?_⟩)
     simp[dn]
    ·have h':gY c=false:=by simpa using h
     rw[h',if_neg (by simp)] at hie
     have hei:e=i:=by omega
     subst hei
     rw[hd] at hcm
          /- no comment -/
     refine T.cut (fun st=>st=⟨[(39,.bool false),(0,dn l),(1,I e)],[],0⟩) ?_ ?_
     ·by_cases h2:e+1<l.length
      ·obtain⟨c2,hc2⟩:∃ c2,l[e+1]? = some c2:=⟨l[e+1],List.getElem?_eq_getElem h2⟩
       have hdr2:=kp hc2
       have hd2:=gC hc2
       have h2':(e:Int)+1<l.length:=by omega
       by_cases h4:(c.toNat:Int)=47
       ·have h5:¬ (c2.toNat:Int)=47:=by
         have hc47:c=47:=UInt8.toNat_inj.1 (by have:(47:UInt8).toNat=47:=rfl;omega)
         subst hc47
         have hcm:=hcm _ rfl
         rw[hd2] at hcm
         have:c2≠47:=fun h=>hcm (by simp[h])
         intro h
         exact this (UInt8.toNat_inj.1 (by have:(47:UInt8).toNat=47:=rfl;omega))
        refine T.go' aa ?_
        simp[hC,h4,hil,hdr,hw,h2',hdr2,dn]
        refine ae.le (Le.env [39,0,1]) (ae.here ?_)
        simp[h5]
       ·have h4:((c.toNat:Int) == 47)=false:=by simp[h4]
        refine T.go' aa ?_
        simp[hC,h4,hil,hdr,hw,h2',dn]
        refine ae.le (Le.env [39,0,1]) (ae.here ?_)
        simp
      ·have h2':¬ (e:Int)+1<l.length:=by omega
       refine T.go' aa ?_
       simp[hC,hw,h2',dn]
       refine ae.le (Le.env [39,0,1]) (ae.here ?_)
       simp
     ·rintro st rfl
      refine T.cond (b:=false) rfl ?_
      simp
      refine T.seq (T.go' aa ?_)
      simp[hC]
      refine T.ret ?_
      refine ae.here ?_
      simp[Tryz.results102]
  ·have hie':i=l.length:=by omega
   have hee:e=i:=by
    rw[hie',List.drop_length] at hie
    have:pC ([]:List UInt8)=0:=rfl
    omega
   refine T.seq (T.seq (T.go' aa ?_))
   simp[hC,dn,hil]
   refine T.cond (b:=false) rfl ?_
   simp
   refine T.exit ?_
   simp
   refine T.seq (T.go' aa ?_)
   simp[hC]
   refine T.ret ?_
   refine ae.here ?_
   simp[Tryz.results102,hee]
theorem qa (w:List UInt8)(c:UInt8):kj (w++[c])=10*kj w+(c.toNat-48):=by simp[kj]
theorem GC (w:List UInt8)(r:List UInt8):kj w≤kj (w++r):=by
 induction r generalizing w with
 | nil=>simp
 | cons c r ih=>
  have h1:=ih (w++[c])
  rw[qa] at h1
  rw[List.append_assoc] at h1
  have:kj w≤10*kj w+(c.toNat-48):=by omega
  exact Nat.le_trans this h1
theorem uf (l:List UInt8)(hl:l.length≤1000000)(hd:l.all cR=true)(hv:kj l<9223372036854775808):ah Tryz.prog 106 [dn l] (I (kj l)):=by
 refine ah.bl aa Tryz.func106 rfl (by kernel_rfl) (by simp[Tryz.ntmps106]) rfl fun C hC hC0=>?_
 rw[Tryz.ntmps106] at hC
 refine T.seq (T.go' aa ?_)
 simp[hC]
 refine T.seq (T.go' aa ?_)
 simp[hC]
 refine T.seq (T.seq (T.go' aa ?_))
 simp[hC]
 refine T.block ?_
 refine T.aS (fun m st=>∃ i:Nat,m=l.length-i∧i≤l.length∧st=⟨[(4,I i),(3,I (kj (l.take i))),(0,dn l)],[],0⟩) (n:=l.length) ?_ ?_
 ·refine ae.le (Le.env [4,3,0]) (ae.here ⟨0,by omega,by omega,?_⟩)
  simp[kj]
 ·rintro n st ⟨i,rfl,hi,rfl⟩
  by_cases hil:i<l.length
  ·obtain⟨c,hc⟩:∃ c,l[i]? = some c:=⟨l[i],List.getElem?_eq_getElem hil⟩
   have hdr:=kp hc
   have htk:l.take (i+1)=l.take i++[c]:=by rw[List.take_add_one,hc];rfl
   have hcd:48≤c.toNat∧c.toNat≤57:=by
    have:=List.all_eq_true.1 hd c (List.mem_of_getElem? hc)
    simpa [cR] using this
   have hle:=GC (l.take (i+1)) (l.drop (i+1))
   rw[List.take_append_drop,htk,qa] at hle
   have hw:=db ((i:Int)+1) (by omega) (by omega)
   generalize hdv:kj (l.take i)=d at hle
   have w1:IntKind.u8.wrap ((c.toNat:Int)-48)=(c.toNat:Int)-48:=IntWalk.u8_in _ (by omega)
   have w2:=db ((c.toNat:Int)-48) (by omega) (by omega)
   have w3:=db (9223372036854775807-((c.toNat:Int)-48)) (by omega) (by omega)
   have w4:(9223372036854775807-((c.toNat:Int)-48)).tdiv 10=(9223372036854775807-((c.toNat:Int)-48)) / 10:=Int.tdiv_eq_ediv_of_nonneg (by omega)
   have w5:=db ((9223372036854775807-((c.toNat:Int)-48)) / 10) (by omega) (by omega)
   have w6:=db (10*(d:Int)) (by omega) (by omega)
   have w7:=db (10*(d:Int)+((c.toNat:Int)-48)) (by omega) (by omega)
   have w8:¬ (9223372036854775807-((c.toNat:Int)-48)) / 10<(d:Int):=by omega
   refine T.seq (T.seq (T.go' aa ?_))
   simp[hC,dn,hil]
   refine T.cond (b:=true) rfl (T.skip ?_)
   simp
   refine T.seq (T.block ?_)
   refine T.seq (T.yX aa ?_)
   simp[hC,hil,hdr,w1,w2]
   refine T.seq (T.seq (T.go' aa ?_))
   simp[hC,w3,w4,w5]
   refine T.bf rfl (fun h=>?_) (fun h=>?_)
   ·simp at h
    omega
   refine T.skip ?_
   simp
   refine T.go' aa ?_
   simp[hC,w6,w7]
   refine T.go' aa ?_
   simp[hC,hw]
   refine⟨l.length-(i+1),by omega,?_⟩
   refine ae.le (Le.env [4,3,0]) (ae.here ⟨i+1,rfl,by omega,?_⟩)
   rw[htk,qa,hdv]
   simp
   omega
  ·have hie:i=l.length:=by omega
   refine T.seq (T.seq (T.go' aa ?_))
   simp[hC,dn,hil]
   refine T.cond (b:=false) rfl ?_
   simp
   refine T.exit ?_
   simp
   refine T.seq (T.go' aa ?_)
   simp[hC]
   refine T.ret ?_
   refine ae.here ?_
   simp[Tryz.results106,hie]
def HJ:List ByteArray:=[⟨#[60,61]⟩,⟨#[62,61]⟩,⟨#[61,61]⟩,⟨#[33,61]⟩,⟨#[38,38]⟩,⟨#[124,124]⟩]
def F9:List ByteArray:=[⟨#[40]⟩,⟨#[41]⟩,⟨#[123]⟩,⟨#[125]⟩,⟨#[91]⟩,⟨#[93]⟩,⟨#[44]⟩,⟨#[59]⟩,⟨#[61]⟩,⟨#[43]⟩,⟨#[45]⟩,⟨#[42]⟩,⟨#[47]⟩,⟨#[37]⟩,⟨#[60]⟩,⟨#[62]⟩,⟨#[33]⟩]
theorem Ep (a b:UInt8):hasB HJ ⟨#[a,b]⟩=decide ((a,b)∈pH):=by
 rw[Bool.eq_iff_iff,decide_eq_true_eq]
 simp only[hasB,HJ,pH,List.any_cons,List.any_nil,Bool.or_eq_true,decide_eq_true_eq,ByteArray.mk.injEq,List.mem_cons,List.not_mem_nil,Prod.mk.injEq,Bool.false_eq_true]
 simp only[Array.mk.injEq,List.cons.injEq,and_true]
 constructor
 ·rintro (⟨rfl,rfl⟩ | ⟨rfl,rfl⟩ | ⟨rfl,rfl⟩ | ⟨rfl,rfl⟩ | ⟨rfl,rfl⟩ | ⟨rfl,rfl⟩ | h)<;>first | exact h.elim | simp
 ·rintro (⟨rfl,rfl⟩ | ⟨rfl,rfl⟩ | ⟨rfl,rfl⟩ | ⟨rfl,rfl⟩ | ⟨rfl,rfl⟩ | ⟨rfl,rfl⟩ | h)<;>first | exact h.elim | simp
theorem ye (a:UInt8):hasB F9 ⟨#[a]⟩=decide (a∈kY):=by
 rw[Bool.eq_iff_iff,decide_eq_true_eq]
 simp only[hasB,F9,kY,List.any_cons,List.any_nil,Bool.or_eq_true,decide_eq_true_eq,ByteArray.mk.injEq,List.mem_cons,List.not_mem_nil,Bool.false_eq_true]
 simp only[Array.mk.injEq,List.cons.injEq,and_true]
 simp only[eq_comm]
theorem FK (c:UInt8):(c.toNat:Int)<256:=by
 have:=c.toNat_lt
 omega
theorem mB:∀ l:List UInt8,bytesOf (l.map fun x=>CV.int .u8 (x.toNat:Int))=some l
 | []=>rfl
 | c::r=>by
  have h:=FK c
  simp[bytesOf,mB r,h]
theorem FT (l:List UInt8)(i:Nat)(hil:i<l.length)(hl:l.length≤1000000):ah Tryz.prog 107 [dn l,I i] (I (qV (l.drop i))):=by
 obtain⟨c,hc⟩:∃ c,l[i]? = some c:=⟨l[i],List.getElem?_eq_getElem hil⟩
 have hdr:=kp hc
 have hd:=gC hc
 have hw:=db ((i:Int)+1) (by omega) (by omega)
 have hw2:=db ((i:Int)+2) (by omega) (by omega)
 rw[hd]
 refine ah.bl aa Tryz.func107 rfl (by kernel_rfl) (by simp[Tryz.ntmps107]) rfl fun C hC hC0=>?_
 rw[Tryz.ntmps107] at hC
 refine T.seq (T.go' aa ?_)
 simp[hC]
 by_cases h2:i+1<l.length
 ·obtain⟨c2,hc2⟩:∃ c2,l[i+1]? = some c2:=⟨l[i+1],List.getElem?_eq_getElem h2⟩
  have hdr2:=kp hc2
  have hd2:=gC hc2
  rw[hd2]
  have h2':(i:Int)+1<l.length:=by omega
  have h3:i+2≤l.length:=by omega
  have z2:(0:Int)≤(i:Int)+2:=by omega
  have t2:((i:Int)+2).toNat=i+2:=by omega
  have e2:i+2-i=2:=by omega
  refine T.seq (T.seq (T.yX aa ?_))
  simp[hC,dn,hw,hw2,h2',h3,hdr,hdr2,z2,t2,e2,FK]
  refine TL.le (Le.eM (o:=0) rfl rfl) ?_
  simp[cm]
  have h:=wx HJ ⟨#[c,c2]⟩ (by decide)
  rw[Ep] at h
  refine TL.bT (by simp[hC]) rfl rfl rfl rfl (aI.of rfl (by first | rfl | simp only[List.cons_append,List.nil_append,List.append_nil,trees,tree,ag,ak,Bool.and_self,Bool.and_true,Bool.true_and]) (h)) (TL.go' aa ?_)
  simp[hC]
  refine T.bf rfl (fun h=>?_) (fun h=>?_)
  ·have h4:(c,c2)∈pH:=by simpa using h
   refine T.seq (T.go' aa ?_)
   simp[hC]
   refine T.ret ?_
   refine ae.here ?_
   simp[Tryz.results107,qV,h4]
  ·have h4:(c,c2)∉pH:=by simpa using h
   refine T.skip ?_
   simp
   have hs:qV (c::c2::l.drop (i+1+1))=if c∈kY then 1 else 0:=by simp[qV,h4]
   rw[hs]
   clear hs
   refine T.le (Le.trim [0,1,4] [] 0 (by simp) (by omega)) ?_
   simp
   have h1:i+1≤l.length:=by omega
   have z1:(0:Int)≤(i:Int)+1:=by omega
   have t1:((i:Int)+1).toNat=i+1:=by omega
   have e1:i+1-i=1:=by omega
   refine T.seq (T.seq (T.yX aa ?_))
   simp[hC,hw,h1,z1,t1,e1,hdr,FK]
   refine TL.le (Le.eM (o:=0) rfl rfl) ?_
   simp[cm]
   have h:=wx F9 ⟨#[c]⟩ (by decide)
   rw[ye] at h
   refine TL.call (by simp[hC]) rfl rfl (aI.of rfl (by first | rfl | simp only[List.cons_append,List.nil_append,List.append_nil,trees,tree,ag,ak,Bool.and_self,Bool.and_true,Bool.true_and]) (h)) (TL.go' aa ?_)
   simp
   refine T.bf rfl (fun h=>?_) (fun h=>?_)
   ·have h5:c∈kY:=by simpa using h
    refine T.seq (T.go' aa ?_)
    simp[hC]
    refine T.ret ?_
    refine ae.here ?_
    simp[Tryz.results107,h5]
   ·have h5:c∉kY:=by simpa using h
    refine T.skip ?_
    simp
    refine T.seq (T.go' aa ?_)
    simp[hC]
    refine T.ret ?_
    refine ae.here ?_
    simp[Tryz.results107,h5]
 ·have h2':¬ (i:Int)+1<l.length:=by omega
  have hd2:l.drop (i+1)=[]:=List.drop_eq_nil_of_le (by omega)
  rw[hd2]
  have hs:qV [c]=if c∈kY then 1 else 0:=rfl
  rw[hs]
  clear hs
  refine T.seq (T.seq (T.yX aa ?_))
  simp[hC,dn,hw,h2']
  refine T.cond (b:=false) rfl ?_
  simp
  refine T.skip ?_
  simp
  refine T.le (Le.trim [0,1,4] [] 0 (by simp) (by omega)) ?_
  simp
  have h1:i+1≤l.length:=by omega
  have z1:(0:Int)≤(i:Int)+1:=by omega
  have t1:((i:Int)+1).toNat=i+1:=by omega
  have e1:i+1-i=1:=by omega
  refine T.seq (T.seq (T.yX aa ?_))
  simp[hC,hw,h1,z1,t1,e1,hdr,FK]
  refine TL.le (Le.eM (o:=0) rfl rfl) ?_
  simp[cm]
  have h:=wx F9 ⟨#[c]⟩ (by decide)
  rw[ye] at h
  refine TL.call (by simp[hC]) rfl rfl (aI.of rfl (by first | rfl | simp only[List.cons_append,List.nil_append,List.append_nil,trees,tree,ag,ak,Bool.and_self,Bool.and_true,Bool.true_and]) (h)) (TL.go' aa ?_)
  simp
  refine T.bf rfl (fun h=>?_) (fun h=>?_)
  ·have h5:c∈kY:=by simpa using h
   refine T.seq (T.go' aa ?_)
   simp[hC]
   refine T.ret ?_
   refine ae.here ?_
   simp[Tryz.results107,h5]
  ·have h5:c∉kY:=by simpa using h
   refine T.skip ?_
   simp
   refine T.seq (T.go' aa ?_)
   simp[hC]
   refine T.ret ?_
   refine ae.here ?_
   simp[Tryz.results107,h5]
end Go.Proofs.YtmnglemlimfpbaaGreat
