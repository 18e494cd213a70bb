/- Reserved, Name, skip, number, sign. -/
import Derived.Test.YtlkmbdfhdknlgaaGreatDoorZ20
namespace Go.Proofs.YtlkmbdfhdknlgaaGreatDoor
open Go.Can Go.aT
def Hu:List ByteArray:=[⟨#[118,97,114]⟩,⟨#[109,117,116,101,120]⟩,⟨#[114,109,117,116,101,120]⟩,⟨#[102,117,110,99]⟩,⟨#[108,111,99,107]⟩,⟨#[117,110,108,111,99,107]⟩,⟨#[103,111]⟩,⟨#[105,102]⟩,⟨#[101,108,115,101]⟩,⟨#[119,104,105,108,101]⟩,⟨#[114,101,116,117,114,110]⟩]
theorem Fb:Hu.map bs=pa:=rfl
theorem IA {a b:ByteArray}(h:bs a=bs b):a=b:=by
 unfold bs at h;exact ByteArray.ext (Array.toList_inj.1 h)
theorem DE (s:ByteArray):hasB Hu s=decide (bs s∈pa):=by
 rw[Bool.eq_iff_iff,decide_eq_true_eq,← Fb];unfold hasB;rw[List.any_eq_true,List.mem_map];constructor
 ·rintro⟨x,h1,h2⟩;exact⟨x,h1,by rw[of_decide_eq_true h2]⟩
 ·rintro⟨x,h1,h2⟩;exact⟨x,h1,by rw[IA h2];simp⟩
theorem pK (s:ByteArray):ae Tryz.prog 97 [.str s] (.bool (decide (bs s∈pa))):=by
 refine ae.aD af Tryz.func97 rfl lz (by simp[Tryz.ntmps97]) rfl fun C hC xJ=>?_;rw[Tryz.ntmps97] at hC;apply ah;simp[hC];apply ah;simp[hC];refine TL.le (Le.dC (o:=0) rfl rfl) ?_;simp[bZ];have h:=vb Hu s Fk;rw[DE] at h;refine dk zK (h) ?_;simp[hC];apply T.ret;apply aa.here;simp[Tryz.results97]
def cW (l:List UInt8):CV:=.au (l.map fun x=>.int .u8 (x.toNat:Int)) l.length
theorem jN {l:List UInt8}{i:Nat}{c:UInt8}(h:l[i]? = some c):(l.map fun x=>CV.int .u8 (x.toNat:Int)).drop i=.int .u8 (c.toNat:Int)::(l.map fun x=>CV.int .u8 (x.toNat:Int)).drop (i+1):=by
 obtain⟨h1,h2⟩:=List.getElem?_eq_some_iff.1 h;rw[List.drop_eq_getElem_cons (by simpa using h1)];simp[h2]
theorem FN (c:UInt8):gD c=((c.toNat:Int) == 32 || (c.toNat:Int) == 9 || (c.toNat:Int) == 10 || (c.toNat:Int) == 13):=by
 have h:∀ k:UInt8,(c == k)=((c.toNat:Int) == (k.toNat:Int)):=fun k=>by
  rw[Bool.eq_iff_iff,beq_iff_eq,beq_iff_eq];constructor
  ·intro h;rw[h]
  ·intro h;exact UInt8.toNat_inj.1 yA
 simp only[gD,h];rfl
theorem Cy {c:UInt8}{r:List UInt8}:oM (c::r)=if gD c=true then oM r+1 else 0:=by
 unfold oM;rw[List.takeWhile_cons];split<;>simp
theorem fY {l:List UInt8}{i:Nat}{c:UInt8}(h:l[i]? = some c):l.drop i=c::l.drop (i+1):=by
 obtain⟨h1,h2⟩:=List.getElem?_eq_some_iff.1 h;rw[List.drop_eq_getElem_cons h1,h2]
theorem zB (l:List UInt8)(P6:Nat)(NV:P6≤l.length)(hl:l.length≤1000000)(OY:∀ r,l.drop (P6+oM (l.drop P6))=47::r→r.head?≠some 47):ae Tryz.prog 94 [cW l,I P6] (I ((P6+oM (l.drop P6):Nat))):=by
 obtain⟨e,he⟩:∃ e,P6+oM (l.drop P6)=e:=⟨_,rfl⟩;rw[he] at OY ⊢;refine ae.aD af Tryz.func94 rfl lz (by simp[Tryz.ntmps94]) rfl fun C hC xJ=>?_;rw[Tryz.ntmps94] at hC;apply ah;simp[hC];apply fw;refine T.aI (fun m st=>∃ i:Nat,m=l.length-i∧i≤l.length∧i+oM (l.drop i)=e∧st=⟨[(0,cW l),(1,I i)],[],0⟩) (n:=l.length-P6) ?_ ?_
 ·refine aa.le (Le.env [0,1]) (aa.here ⟨P6,rfl,NV,he,?_⟩);simp
 ·rintro n st ⟨i,rfl,hi,CW,rfl⟩;by_cases nr:i<l.length
  ·obtain⟨c,hc⟩:∃ c,l[i]? = some c:=⟨l[i],List.getElem?_eq_getElem nr⟩;have oy:=jN hc;have hd:=fY hc;rw[hd,Cy] at CW;have hw:=cm ((i:Int)+1) yA yA;apply aL;simp[hC,cW,nr];refine gF ?_;simp;refine T.block (T.block ?_);refine T.cut (fun st=>st=⟨[(10,.bool (gD c)),(0,cW l),(1,I i)],[],0⟩) ?_ ?_
   ·rw[FN];generalize (c.toNat:Int)=n at oy;by_cases h1:n=32
    ·apply a8;simp[hC,h1,nr,oy];refine aa.le (Le.env [10,0,1]) (aa.here ?_);simp[cW]
    have h1:(n == 32)=false:=by simp[h1]
    by_cases h2:n=9
    ·apply a8;simp[hC,h2,nr,oy];refine aa.le (Le.env [10,0,1]) (aa.here ?_);simp[cW]
    have h2:(n == 9)=false:=by simp[h2]
    by_cases h3:n=10
    ·apply a8;simp[hC,h3,nr,oy];refine aa.le (Le.env [10,0,1]) (aa.here ?_);simp[cW]
    have h3:(n == 10)=false:=by simp[h3]
    apply a8;simp[hC,h1,h2,h3,nr,oy];refine aa.le (Le.env [10,0,1]) (aa.here ?_);simp[cW]
   ·rintro st rfl;refine T.aX rfl (fun h=>?_) (fun h=>?_)
    ·rw[h,if_pos rfl] at CW;apply a8;simp[hC,hw];refine⟨l.length-(i+1),by omega,?_⟩;refine aa.le (Le.env [0,1]) (aa.here ⟨i+1,rfl,by omega,by omega,?_⟩);simp[cW]
    ·have h':gD c=false:=by simpa using h
     rw[h',if_neg j5] at CW;have ZY:e=i:=by omega
     subst ZY;rw[hd] at OY
          /- no comment -/
     refine T.cut (fun st=>st=⟨[(39,.bool false),(0,cW l),(1,I e)],[],0⟩) ?_ ?_
     ·by_cases h2:e+1<l.length
      ·obtain⟨c2,Lu⟩:∃ c2,l[e+1]? = some c2:=⟨l[e+1],List.getElem?_eq_getElem h2⟩;have KY:=jN Lu;have NF:=fY Lu;have Ni:(e:Int)+1<l.length:=by omega
       by_cases h4:(c.toNat:Int)=47
       ·have h5:¬ (c2.toNat:Int)=47:=by
         have WV:c=47:=UInt8.toNat_inj.1 (by have:(47:UInt8).toNat=47:=rfl;omega);subst WV;have OY:=OY _ rfl;rw[NF] at OY;have:c2≠47:=fun h=>OY (by simp[h]);intro h;exact this (UInt8.toNat_inj.1 (by have:(47:UInt8).toNat=47:=rfl;omega))
        apply a8;simp[hC,h4,nr,oy,hw,Ni,KY,cW];refine aa.le (Le.env [39,0,1]) (aa.here ?_);simp[h5]
       ·have h4:((c.toNat:Int) == 47)=false:=by simp[h4]
        apply a8;simp[hC,h4,nr,oy,hw,Ni,cW];refine aa.le (Le.env [39,0,1]) (aa.here ?_);simp
      ·have Ni:¬ (e:Int)+1<l.length:=by omega
       apply a8;simp[hC,hw,Ni,cW];refine aa.le (Le.env [39,0,1]) (aa.here ?_);simp
     ·rintro st rfl;refine aU ?_;simp;apply ah;simp[hC];apply T.ret;apply aa.here;simp[Tryz.results94]
  ·have Ww:i=l.length:=by omega
   have Qm:e=i:=by
    rw[Ww,List.drop_length] at CW;have:oM ([]:List UInt8)=0:=rfl;omega
   apply aL;simp[hC,cW,nr];refine aU ?_;simp;apply T.exit;simp;apply ah;simp[hC];apply T.ret;apply aa.here;simp[Tryz.results94,Qm]
theorem px (w:List UInt8)(c:UInt8):jK (w++[c])=10*jK w+(c.toNat-48):=by simp[jK]
theorem FX (w:List UInt8)(r:List UInt8):jK w≤jK (w++r):=by
 induction r generalizing w with
 | nil=>simp
 | cons c r ih=>
  have h1:=ih (w++[c]);rw[px] at h1;rw[List.append_assoc] at h1;have:jK w≤10*jK w+(c.toNat-48):=by omega
  exact Nat.le_trans this h1
theorem sD (l:List UInt8)(hl:l.length≤1000000)(hd:l.all cB=true)(hv:jK l<9223372036854775808):ae Tryz.prog 98 [cW l] (I (jK l)):=by
 refine ae.aD af Tryz.func98 rfl lz (by simp[Tryz.ntmps98]) rfl fun C hC xJ=>?_;rw[Tryz.ntmps98] at hC;apply ah;simp[hC];apply ah;simp[hC];apply aL;simp[hC];apply T.block;refine T.aI (fun m st=>∃ i:Nat,m=l.length-i∧i≤l.length∧st=⟨[(4,I i),(3,I (jK (l.take i))),(0,cW l)],[],0⟩) (n:=l.length) ?_ ?_
 ·refine aa.le (Le.env [4,3,0]) (aa.here ⟨0,by omega,by omega,?_⟩);simp[jK]
 ·rintro n st ⟨i,rfl,hi,rfl⟩;by_cases nr:i<l.length
  ·obtain⟨c,hc⟩:∃ c,l[i]? = some c:=⟨l[i],List.getElem?_eq_getElem nr⟩;have oy:=jN hc;have Kk:l.take (i+1)=l.take i++[c]:=by rw[List.take_add_one,hc];rfl
   have OZ:48≤c.toNat∧c.toNat≤57:=by
    have:=List.all_eq_true.1 hd c (List.mem_of_getElem? hc)
    simpa [cB] using this
   have hle:=FX (l.take (i+1)) (l.drop (i+1));rw[List.take_append_drop,Kk,px] at hle;have hw:=cm ((i:Int)+1) yA yA;generalize Z0:jK (l.take i)=d at hle;have w1:IntKind.u8.wrap ((c.toNat:Int)-48)=(c.toNat:Int)-48:=IntWalk.u8_in _ yA;have w2:=cm ((c.toNat:Int)-48) yA yA;have w3:=cm (9223372036854775807-((c.toNat:Int)-48)) yA yA;have w4:(9223372036854775807-((c.toNat:Int)-48)).tdiv 10=(9223372036854775807-((c.toNat:Int)-48)) / 10:=Int.tdiv_eq_ediv_of_nonneg yA;have w5:=cm ((9223372036854775807-((c.toNat:Int)-48)) / 10) yA yA;have w6:=cm (10*(d:Int)) yA yA;have w7:=cm (10*(d:Int)+((c.toNat:Int)-48)) yA yA;have w8:¬ (9223372036854775807-((c.toNat:Int)-48)) / 10<(d:Int):=by omega
   apply aL;simp[hC,cW,nr];refine gF ?_;simp;apply fw;refine T.seq (T.yh af ?_);simp[hC,nr,oy,w1,w2];apply aL;simp[hC,w3,w4,w5];refine T.aX rfl (fun h=>?_) (fun h=>?_)
   ·simp at h;omega
   apply T.skip;simp;apply a8;simp[hC,w6,w7];apply a8;simp[hC,hw];refine⟨l.length-(i+1),by omega,?_⟩;refine aa.le (Le.env [4,3,0]) (aa.here ⟨i+1,rfl,by omega,?_⟩);rw[Kk,px,Z0];simp;omega
  ·have CW:i=l.length:=by omega
   apply aL;simp[hC,cW,nr];refine aU ?_;simp;apply T.exit;simp;apply ah;simp[hC];apply T.ret;apply aa.here;simp[Tryz.results98,CW]
def Hc:List ByteArray:=[⟨#[60,61]⟩,⟨#[62,61]⟩,⟨#[61,61]⟩,⟨#[33,61]⟩,⟨#[38,38]⟩,⟨#[124,124]⟩]
def Ft:List ByteArray:=[⟨#[40]⟩,⟨#[41]⟩,⟨#[123]⟩,⟨#[125]⟩,⟨#[91]⟩,⟨#[93]⟩,⟨#[44]⟩,⟨#[59]⟩,⟨#[61]⟩,⟨#[43]⟩,⟨#[45]⟩,⟨#[42]⟩,⟨#[47]⟩,⟨#[37]⟩,⟨#[60]⟩,⟨#[62]⟩,⟨#[33]⟩]
theorem DD (a b:UInt8):hasB Hc ⟨#[a,b]⟩=decide ((a,b)∈oU):=by
 rw[Bool.eq_iff_iff,decide_eq_true_eq];simp only[hasB,Hc,oU,List.any_cons,List.any_nil,Bool.or_eq_true,decide_eq_true_eq,ByteArray.mk.injEq,List.mem_cons,List.not_mem_nil,Prod.mk.injEq,Bool.false_eq_true];simp only[Array.mk.injEq,List.cons.injEq,and_true];constructor
 ·rintro (⟨rfl,rfl⟩ | ⟨rfl,rfl⟩ | ⟨rfl,rfl⟩ | ⟨rfl,rfl⟩ | ⟨rfl,rfl⟩ | ⟨rfl,rfl⟩ | h)<;>first | exact h.elim | simp
 ·rintro (⟨rfl,rfl⟩ | ⟨rfl,rfl⟩ | ⟨rfl,rfl⟩ | ⟨rfl,rfl⟩ | ⟨rfl,rfl⟩ | ⟨rfl,rfl⟩ | h)<;>first | exact h.elim | simp
theorem xp (a:UInt8):hasB Ft ⟨#[a]⟩=decide (a∈ky):=by
 rw[Bool.eq_iff_iff,decide_eq_true_eq];simp only[hasB,Ft,ky,List.any_cons,List.any_nil,Bool.or_eq_true,decide_eq_true_eq,ByteArray.mk.injEq,List.mem_cons,List.not_mem_nil,Bool.false_eq_true];simp only[Array.mk.injEq,List.cons.injEq,and_true];simp only[eq_comm]
theorem EV (c:UInt8):(c.toNat:Int)<256:=by
 have:=c.toNat_lt;omega
theorem lK:∀ l:List UInt8,bytesOf (l.map fun x=>CV.int .u8 (x.toNat:Int))=some l
 | []=>rfl
 | c::r=>by
  have h:=EV c;simp[bytesOf,lK r,h]
theorem E4 (l:List UInt8)(i:Nat)(nr:i<l.length)(hl:l.length≤1000000):ae Tryz.prog 99 [cW l,I i] (I (qk (l.drop i))):=by
 obtain⟨c,hc⟩:∃ c,l[i]? = some c:=⟨l[i],List.getElem?_eq_getElem nr⟩;have oy:=jN hc;have hd:=fY hc;have hw:=cm ((i:Int)+1) yA yA;have Vu:=cm ((i:Int)+2) yA yA;rw[hd];refine ae.aD af Tryz.func99 rfl lz (by simp[Tryz.ntmps99]) rfl fun C hC xJ=>?_;rw[Tryz.ntmps99] at hC;apply ah;simp[hC];by_cases h2:i+1<l.length
 ·obtain⟨c2,Lu⟩:∃ c2,l[i+1]? = some c2:=⟨l[i+1],List.getElem?_eq_getElem h2⟩;have KY:=jN Lu;have NF:=fY Lu;rw[NF];have Ni:(i:Int)+1<l.length:=by omega
  have h3:i+2≤l.length:=by omega
  have z2:(0:Int)≤(i:Int)+2:=by omega
  have t2:((i:Int)+2).toNat=i+2:=by omega
  have e2:i+2-i=2:=by omega
  refine T.seq (T.seq (T.yh af ?_));simp[hC,cW,hw,Vu,Ni,h3,oy,KY,z2,t2,e2,EV];refine TL.le (Le.dC (o:=0) rfl rfl) ?_;simp[bZ];have h:=vb Hc ⟨#[c,c2]⟩ Fk;rw[DD] at h;refine TL.bG yI rfl rfl rfl rfl (bm.of rfl zK (h)) (TL.go' af ?_);simp[hC];refine T.aX rfl (fun h=>?_) (fun h=>?_)
  ·have h4:(c,c2)∈oU:=by simpa using h
   apply ah;simp[hC];apply T.ret;apply aa.here;simp[Tryz.results99,qk,h4]
  ·have h4:(c,c2)∉oU:=by simpa using h
   apply T.skip;simp;have hs:qk (c::c2::l.drop (i+1+1))=if c∈ky then 1 else 0:=by simp[qk,h4]
   rw[hs];clear hs;refine T.le (Le.trim [0,1,4] [] 0 j5 yA) ?_;simp;have h1:i+1≤l.length:=by omega
   have z1:(0:Int)≤(i:Int)+1:=by omega
   have t1:((i:Int)+1).toNat=i+1:=by omega
   have e1:i+1-i=1:=by omega
   refine T.seq (T.seq (T.yh af ?_));simp[hC,hw,h1,z1,t1,e1,oy,EV];refine TL.le (Le.dC (o:=0) rfl rfl) ?_;simp[bZ];have h:=vb Ft ⟨#[c]⟩ Fk;rw[xp] at h;refine dk zK (h) ?_;simp;refine T.aX rfl (fun h=>?_) (fun h=>?_)
   ·have h5:c∈ky:=by simpa using h
    apply ah;simp[hC];apply T.ret;apply aa.here;simp[Tryz.results99,h5]
   ·have h5:c∉ky:=by simpa using h
    apply T.skip;simp;apply ah;simp[hC];apply T.ret;apply aa.here;simp[Tryz.results99,h5]
 ·have Ni:¬ (i:Int)+1<l.length:=by omega
  have NF:l.drop (i+1)=[]:=List.drop_eq_nil_of_le yA;rw[NF];have hs:qk [c]=if c∈ky then 1 else 0:=rfl
  rw[hs];clear hs;refine T.seq (T.seq (T.yh af ?_));simp[hC,cW,hw,Ni];refine aU ?_;simp;apply T.skip;simp;refine T.le (Le.trim [0,1,4] [] 0 j5 yA) ?_;simp;have h1:i+1≤l.length:=by omega
  have z1:(0:Int)≤(i:Int)+1:=by omega
  have t1:((i:Int)+1).toNat=i+1:=by omega
  have e1:i+1-i=1:=by omega
  refine T.seq (T.seq (T.yh af ?_));simp[hC,hw,h1,z1,t1,e1,oy,EV];refine TL.le (Le.dC (o:=0) rfl rfl) ?_;simp[bZ];have h:=vb Ft ⟨#[c]⟩ Fk;rw[xp] at h;refine dk zK (h) ?_;simp;refine T.aX rfl (fun h=>?_) (fun h=>?_)
  ·have h5:c∈ky:=by simpa using h
   apply ah;simp[hC];apply T.ret;apply aa.here;simp[Tryz.results99,h5]
  ·have h5:c∉ky:=by simpa using h
   apply T.skip;simp;apply ah;simp[hC];apply T.ret;apply aa.here;simp[Tryz.results99,h5]
theorem IB (s:ByteArray)(i:Nat):s[i]? = (bs s)[i]?:=by
 by_cases h:i<s.size
 ·rw[getElem?_pos s i h,List.getElem?_eq_getElem (by simpa [bs] using h)];simp[bs];rfl
 ·rw[getElem?_neg s i h,List.getElem?_eq_none (by simpa [bs] using h)]
theorem jO (s:ByteArray):(bs s).length=s.size:=by simp[bs]
theorem im (s:ByteArray)(h:cJ s)(hr:bs s∉pa):ae Tryz.prog 81 [.str s] (.bool true):=by
 obtain⟨⟨c0,t0,UK,N4⟩,h1,h2⟩:=h;have CX:=jO s;have Nv:1≤s.size:=by rw[← CX,UK];simp
 refine ae.aD af Tryz.func81 rfl lz (by simp[Tryz.ntmps81]) rfl fun C hC xJ=>?_;rw[Tryz.ntmps81] at hC;apply ah;simp[hC];apply aL;simp[hC];apply T.block;refine T.aI (fun m st=>∃ i:Nat,m=s.size-i∧i≤s.size∧st=⟨[(3,I i),(0,.str s)],[],0⟩) (n:=s.size) ?_ ?_
 ·refine aa.le (Le.env [3,0]) (aa.here ⟨0,by omega,by omega,?_⟩);simp
 ·rintro n st ⟨i,rfl,hi,rfl⟩;by_cases nr:i<s.size
  ·obtain⟨c,hc⟩:∃ c,(bs s)[i]? = some c:=⟨(bs s)[i],List.getElem?_eq_getElem yA⟩;have hg:s[i]? = some c:=by rw[IB];exact hc
   have ZP:eF c=true:=List.all_eq_true.1 h1 c (List.mem_of_getElem? hc);have hw:=cm ((i:Int)+1) yA yA;apply aL;simp[hC,nr];refine gF ?_;simp;apply fw;refine T.cut (fun st=>st=⟨[(25,.bool false),(3,I i),(0,.str s)],[],0⟩) ?_ ?_
   ·have Sa:s[i]=c:=by
     have:=hg;rw[getElem?_pos s i nr] at this
     simpa using this
    cases yN:isLet c with
    | true=>
     have De:=j6 c;rw[yN] at De;apply a8;simp[hC,nr,Sa];refine dk zK (De) ?_;simp[hC];refine aa.le (Le.env [25,3,0]) (aa.here ?_);simp
    | false=>
     have De:=j6 c;rw[yN] at De;have WL:cB c=true:=by simpa [eF,yN] using ZP
     have OZ:=kf c;rw[WL] at OZ;have Nf:¬ i=0:=by
      intro h;subst h;rw[UK] at hc;simp only[List.getElem?_cons_zero,Option.some.injEq] at hc;subst hc;rw[N4] at yN;cases yN
     apply a8;simp[hC,nr,Sa];refine dk zK (De) ?_;simp[hC,Nf,nr,Sa];refine TL.bG yI rfl rfl rfl rfl (bm.of rfl zK (OZ)) (TL.go' af ?_);simp[hC];refine aa.le (Le.env [25,3,0]) (aa.here ?_);simp
   ·rintro st rfl;refine aU ?_;simp;apply T.skip;simp;apply a8;simp[hC,hw];refine⟨s.size-(i+1),by omega,?_⟩;refine aa.le (Le.env [3,0]) (aa.here ⟨i+1,rfl,by omega,?_⟩);simp
  ·apply aL;simp[hC,nr];refine aU ?_;simp;apply T.exit;simp;have g1:(1:Int)≤s.size:=by omega
   have g2:(s.size:Int)≤16:=by omega
   have LQ:=pK s;simp only[hr,decide_false] at LQ;apply ah;simp[hC,g1,g2];refine TL.bG yI rfl rfl rfl rfl (bm.of rfl zK (LQ)) (TL.go' af ?_);simp[hC];apply T.ret;apply aa.here;simp[Tryz.results81]
theorem Cj {p:UInt8→Bool}:∀ {L:List UInt8} {j:Nat},j<(L.takeWhile p).length→∃ c,L[j]? = some c∧p c=true
 | [],j,h=>by simp at h
 | a::r,j,h=>by
  cases ha:p a with
  | false=>rw[List.takeWhile_cons,ha] at h;simp at h
  | true=>
   cases j with
   | zero=>exact⟨a,rfl,ha⟩
   | succ j=>
    rw[List.takeWhile_cons,ha] at h;simp only[if_true,List.length_cons] at h;obtain⟨c,h1,h2⟩:=Cj (p:=p) (L:=r) (j:=j) yA;exact⟨c,by simpa using h1,h2⟩
theorem yw {p:UInt8→Bool}:∀ {L:List UInt8} {c:UInt8},L[(L.takeWhile p).length]? = some c→p c=false
 | [],c,h=>by simp at h
 | a::r,c,h=>by
  cases ha:p a with
  | false=>
   rw[List.takeWhile_cons,ha] at h;simp at h;subst h;exact ha
  | true=>
   rw[List.takeWhile_cons,ha] at h;simp only[if_true,List.length_cons,List.getElem?_cons_succ] at h;exact yw (L:=r) h
theorem vN {p:UInt8→Bool}:∀ L:List UInt8,(L.takeWhile p).length≤L.length∧L.dropWhile p=L.drop (L.takeWhile p).length∧L.take (L.takeWhile p).length=L.takeWhile p
 | []=>⟨Nat.le_refl _,rfl,rfl⟩
 | a::r=>by
  cases ha:p a with
  | false=>simp[ha]
  | true=>
   obtain⟨h1,h2,h3⟩:=vN (p:=p) r;simp[ha,h2,h3];exact h1
theorem Lx.ncm {l:List UInt8}{n:Nat}(h:Lx l n):∀ r,l=47::r→r.head?≠some 47:=by
 rintro r rfl;obtain⟨m,_,h1 | h1 | h1⟩:=Lx.inv h Fk
 ·exact absurd h1.1 Fk
 ·exact absurd h1.2.1 Fk
 ·exact h1.2.2.1 rfl
theorem Hj:∀ L:List UInt8,qk L≤L.length
 | []=>Nat.le_refl _
 | [a]=>by
  simp only[qk];split<;>simp
 | a::b::r=>by
  simp only[qk,List.length_cons];split
  ·omega
  ·split<;>omega
def LexG (r:CV):Prop:=∃ (cs:List CV) (n:Nat) (e:Nat),r=.db [.au cs n,I e,.int .i64 0]
def jX (cs:List CV):Ob:=⟨159,4,cs⟩
def J66 (l:List UInt8)(n:Nat)(s:St):Prop:=∃ (a:Nat) (cs:List CV) (k m:Nat),n=l.length-a∧a≤l.length∧k+m≤4000∧Lx (l.drop a) m∧(∀ c,(l.drop a).head? = some c→gD c=false)∧cs.length=k*4∧trees cs=true∧
 s=⟨[(6,I a),(5,.bw 0 0 k),(0,cW l)],[(0,jX cs)],1⟩
set_option maxHeartbeats 4000000 in
theorem HV (l:List UInt8)(hl:l.length≤262144)(hx:Lx l 4000):kU Tryz.prog 62 [cW l] LexG:=by
 refine kU.je af Tryz.func62 rfl lz (by simp[Tryz.ntmps62]) fun C hC xJ=>?_;rw[Tryz.ntmps62] at hC;apply ah;simp[hC];have KR:¬ (262144:Int)<l.length:=by omega
 apply aL;simp[hC,cW,KR];refine aU ?_;simp;apply T.skip;simp;apply ah;simp[hC];have Qe:=zB l 0 (Nat.zero_le _) yA (fun r hr=>by
  have:=hx.skip;simp only[List.drop_zero,Nat.zero_add] at hr this;exact Lx.ncm this r hr)
 simp only[List.drop_zero,Nat.zero_add] at Qe;have SK:=hx.skip;have Qc:∀ c,(l.drop (oM l)).head? = some c→gD c=false:=fun c hc=>vW hc;have Ts:oM l≤l.length:=by
  unfold oM;exact (vN (p:=gD) l).1
 generalize oM l=a0 at Qe SK Qc Ts;apply ah;simp[hC];refine dk zK (Qe) ?_;simp[hC];apply T.block;refine T.aI (J66 l) (n:=l.length-a0) ?_ ?_
 ·refine aa.le (Le.own 5 159 4 rfl) ?_;simp;refine aa.trim [6,5,0] [0] 1 j5 yA ⟨a0,[],0,4000,rfl,Ts,by omega,SK,Qc,rfl,rfl,?_⟩;simp[cW,jX]
 ·rintro n st ⟨a,cs,k,m,rfl,T2,Rl,XO,SX,De,LN,rfl⟩;apply fw;by_cases Ql:a=l.length
  ·apply aL;simp[hC,cW,Ql];refine cz ?_;simp;have hb:(k+1)*40≤140737488355328:=by omega
   have CX:(jX cs).sz=4:=rfl;have Ki:(jX cs).elem=159:=rfl;have M6:(jX cs).cells.length=k*4:=De;apply ah;simp[hC,hb,CX,Ki,M6,aS];apply T.ret;have VB:trees ((jX cs).cells++[CV.int .i64 5,.str ⟨#[]⟩,.int .i64 0,.int .i64 l.length])=true:=by rw[bu];simp only[jX,LN];rfl
   refine aa.le (Le.dC (o:=2) rfl VB) ?_;simp[bZ];refine aa.here ⟨_,rfl,rfl,_,_,_,rfl⟩
  ·have yN:a<l.length:=by omega
   have F0:¬ (a:Int)=l.length:=by omega
   obtain⟨c,hc⟩:∃ c,l[a]? = some c:=⟨l[a],List.getElem?_eq_getElem yN⟩;have oy:=jN hc;have hd:=fY hc;rw[hd] at XO SX;have Kr:=SX c rfl;obtain⟨m',rfl,M7⟩:=Lx.inv XO Kr;rw[← hd] at M7;apply aL;simp[hC,cW,Ql];refine aU ?_;simp;apply T.skip;simp;apply ah;simp[hC];apply ah;simp[hC];refine T.le (Le.trim [8,7,6,5,0] [0,1] 2 NK yA) ?_;simp;refine T.cut (fun s=>∃ (kind num:Int) (e:Nat),Lx (l.drop e) m'∧a<e∧e≤l.length∧s=⟨[(8,I e),(7,.ai 1 0),(6,I a),(5,.bw 0 0 k),(0,cW l)],[(0,jX cs),(1,⟨159,0,[.int .i64 kind,.str ⟨#[]⟩,.int .i64 num,I a]⟩)],2⟩) ?_ ?_
   ·apply T.block;apply ah;simp[hC,yN,oy];refine dk zK (j6 c) ?_;simp[hC];refine T.aX rfl (fun h=>?_) (fun h=>?_)
    ·have h1:isLet c=true:=by simpa using h
     obtain⟨_,Vv,OQ⟩:isLet c=true∧(((l.drop a).takeWhile eF).length≤16∨(l.drop a).takeWhile eF∈pa)∧Lx ((l.drop a).dropWhile eF) m':=by
      rcases M7 with h | h | h
      ·exact h
      ·rw[h1] at h;simp at h
      ·rw[h1] at h;simp at h
     obtain⟨t1,t2,t3⟩:=vN (p:=eF) (l.drop a);rw[t2,List.drop_drop] at OQ;have SL:0<((l.drop a).takeWhile eF).length:=by
      rw[hd,List.takeWhile_cons];simp[eF,h1]
     have QY:=@Cj eF (l.drop a);have Pd:=@yw eF (l.drop a);generalize hW:(l.drop a).takeWhile eF=W at *;have UQ:a+W.length≤l.length:=by simp at t1;omega
     refine T.cut (fun s=>s=⟨[(8,I ((a+W.length:Nat))),(7,.ai 1 0),(6,I a),(5,.bw 0 0 k),(0,cW l)],[(0,jX cs),(1,⟨159,0,[.int .i64 0,.str ⟨#[]⟩,.int .i64 0,I a]⟩)],2⟩) ?_ ?_
     ·apply T.block;refine T.aI (fun n s=>∃ j:Nat,n=W.length-j∧j≤W.length∧s=⟨[(8,I ((a+j:Nat))),(7,.ai 1 0),(6,I a),(5,.bw 0 0 k),(0,cW l)],[(0,jX cs),(1,⟨159,0,[.int .i64 0,.str ⟨#[]⟩,.int .i64 0,I a]⟩)],2⟩) (n:=W.length) ?_ ?_
      ·refine aa.trim [8,7,6,5,0] [0,1] 2 NK yA ⟨0,by omega,by omega,?_⟩;simp[cW]
      ·rintro n s ⟨j,rfl,KT,rfl⟩;obtain⟨e,he⟩:∃ e,a+j=e:=⟨_,rfl⟩;rw[he];by_cases hj:j<W.length
       ·obtain⟨c2,Lu,mw⟩:=QY hj;rw[List.getElem?_drop,he] at Lu;have KY:=jN Lu;have Ki:e<l.length:=(List.getElem?_eq_some_iff.1 Lu).1;have hw:=cm ((e:Int)+1) yA yA;have M5:=j6 c2;have Mj:=kf c2
        cases Ky:isLet c2 with
        | true=>
         rw[Ky] at M5;apply aL;simp[hC,cW,Ki,KY];refine TL.bG yI rfl rfl rfl rfl (bm.of rfl zK (M5)) (TL.go' af ?_);simp[hC];refine gF ?_;simp;apply T.block;apply a8;simp[hC,hw];refine⟨W.length-(j+1),by omega,?_⟩;refine aa.trim [8,7,6,5,0] [0,1] 2 NK yA ⟨j+1,rfl,by omega,?_⟩;simp;omega
        | false=>
         rw[Ky] at M5;have WK:cB c2=true:=by simpa [eF,Ky] using mw
         rw[WK] at Mj;apply aL;simp[hC,cW,Ki,KY];refine TL.bG yI rfl rfl rfl rfl (bm.of rfl zK (M5)) (TL.go' af ?_);simp[hC,Ki,KY];refine TL.bG yI rfl rfl rfl rfl (bm.of rfl zK (Mj)) (TL.go' af ?_);simp[hC];refine gF ?_;simp;apply T.block;apply a8;simp[hC,hw];refine⟨W.length-(j+1),by omega,?_⟩;refine aa.trim [8,7,6,5,0] [0,1] 2 NK yA ⟨j+1,rfl,by omega,?_⟩;simp;omega
       ·have Qi:j=W.length:=by omega
        by_cases Ki:e<l.length
        ·obtain⟨c2,Lu⟩:∃ c,l[e]? = some c:=⟨l[e],List.getElem?_eq_getElem Ki⟩;have mw:eF c2=false:=Pd (by rw[List.getElem?_drop,← Qi,he];exact Lu);have KY:=jN Lu;have M5:=j6 c2;have Mj:=kf c2;have H9:isLet c2=false∧cB c2=false:=by simpa [eF] using mw
         rw[H9.1] at M5;rw[H9.2] at Mj;apply aL;simp[hC,cW,Ki,KY];refine TL.bG yI rfl rfl rfl rfl (bm.of rfl zK (M5)) (TL.go' af ?_);simp[hC,Ki,KY];refine TL.bG yI rfl rfl rfl rfl (bm.of rfl zK (Mj)) (TL.go' af ?_);simp[hC];refine aU ?_;simp;apply T.exit;simp;refine aa.trim [8,7,6,5,0] [0,1] 2 NK yA ?_;simp;omega
        ·apply aL;simp[hC,cW,Ki];refine aU ?_;simp;apply T.exit;simp;refine aa.trim [8,7,6,5,0] [0,1] 2 NK yA ?_;simp;omega
     ·rintro s rfl;obtain⟨e,he⟩:∃ e,a+W.length=e:=⟨_,rfl⟩;rw[he] at OQ ⊢;have k1:a≤e:=by omega
      have k2:e≤l.length:=by omega
      have k3:e-a=W.length:=by omega
      have Lh:List.take W.length (List.drop a (l.map fun x=>CV.int .u8 (x.toNat:Int)))=W.map fun x=>CV.int .u8 (x.toNat:Int):=by
       rw[← List.map_drop,← List.map_take,t3]
      have LD:min W.length (l.length-a)=W.length:=by omega
      have UN:=lK W;have hWe:bs ⟨W.toArray⟩=W:=bs_mk W;apply ah;simp[hC];have LQ:=pK ⟨W.toArray⟩;rw[hWe] at LQ;have wk:IntKind.i64.wrap ((e:Int)-a)=(W.length:Int):=by rw[cm _ yA yA];omega
      refine T.seq (T.yh af ?_);simp[hC,cW,k1,k2,Lh,UN,k3];refine dk zK (LQ) ?_;simp;refine T.aX rfl (fun h=>?_) (fun h=>?_)
      ·apply a8;simp[hC];refine aa.trim [8,7,6,5,0] [0,1] 2 NK yA ⟨3,0,e,OQ,by omega,k2,?_⟩;simp
      ·have ZA:W∉pa:=by simpa using h
       have h16:W.length≤16:=Vv.resolve_right ZA;have Xe:¬ (16:Int)<W.length:=by omega
       apply ah;simp[hC,wk,Xe];refine aU ?_;simp;apply T.skip;simp;refine aa.trim [8,7,6,5,0] [0,1] 2 NK yA ⟨1,0,e,OQ,by omega,k2,?_⟩;simp
    ·have h1:isLet c=false:=by simpa using h
     refine T.le (Le.trim [8,7,6,5,0] [0,1] 2 NK yA) ?_;simp;apply ah;simp[hC,yN,oy];refine dk zK (kf c) ?_;simp[hC];refine T.aX rfl (fun h=>?_) (fun h=>?_)
     ·have h2:cB c=true:=by simpa using h
      obtain⟨_,_,Vy,OQ⟩:isLet c=false∧cB c=true∧jK ((l.drop a).takeWhile cB)<9223372036854775808∧Lx ((l.drop a).dropWhile cB) m':=by
       rcases M7 with h | h | h
       ·rw[h1] at h;simp at h
       ·exact h
       ·rw[h2] at h;simp at h
      obtain⟨t1,t2,t3⟩:=vN (p:=cB) (l.drop a);rw[t2,List.drop_drop] at OQ;have SL:0<((l.drop a).takeWhile cB).length:=by
       rw[hd,List.takeWhile_cons];simp[h2]
      have Kq:((l.drop a).takeWhile cB).all cB=true:=List.all_takeWhile;have QY:=@Cj cB (l.drop a);have Pd:=@yw cB (l.drop a);generalize hW:(l.drop a).takeWhile cB=W at *;have UQ:a+W.length≤l.length:=by simp at t1;omega
      refine T.cut (fun s=>s=⟨[(8,I ((a+W.length:Nat))),(7,.ai 1 0),(6,I a),(5,.bw 0 0 k),(0,cW l)],[(0,jX cs),(1,⟨159,0,[.int .i64 0,.str ⟨#[]⟩,.int .i64 0,I a]⟩)],2⟩) ?_ ?_
      ·apply T.block;refine T.aI (fun n s=>∃ j:Nat,n=W.length-j∧j≤W.length∧s=⟨[(8,I ((a+j:Nat))),(7,.ai 1 0),(6,I a),(5,.bw 0 0 k),(0,cW l)],[(0,jX cs),(1,⟨159,0,[.int .i64 0,.str ⟨#[]⟩,.int .i64 0,I a]⟩)],2⟩) (n:=W.length) ?_ ?_
       ·refine aa.trim [8,7,6,5,0] [0,1] 2 NK yA ⟨0,by omega,by omega,?_⟩;simp[cW]
       ·rintro n s ⟨j,rfl,KT,rfl⟩;obtain⟨e,he⟩:∃ e,a+j=e:=⟨_,rfl⟩;rw[he];by_cases hj:j<W.length
        ·obtain⟨c2,Lu,mw⟩:=QY hj;rw[List.getElem?_drop,he] at Lu;have KY:=jN Lu;have Ki:e<l.length:=(List.getElem?_eq_some_iff.1 Lu).1;have hw:=cm ((e:Int)+1) yA yA;have Mj:=kf c2;rw[mw] at Mj;apply aL;simp[hC,cW,Ki,KY];refine TL.bG yI rfl rfl rfl rfl (bm.of rfl zK (Mj)) (TL.go' af ?_);simp[hC];refine gF ?_;simp;apply T.block;apply a8;simp[hC,hw];refine⟨W.length-(j+1),by omega,?_⟩;refine aa.trim [8,7,6,5,0] [0,1] 2 NK yA ⟨j+1,rfl,by omega,?_⟩;simp;omega
        ·have Qi:j=W.length:=by omega
         by_cases Ki:e<l.length
         ·obtain⟨c2,Lu⟩:∃ c,l[e]? = some c:=⟨l[e],List.getElem?_eq_getElem Ki⟩;have mw:cB c2=false:=Pd (by rw[List.getElem?_drop,← Qi,he];exact Lu);have KY:=jN Lu;have Mj:=kf c2;rw[mw] at Mj;apply aL;simp[hC,cW,Ki,KY];refine TL.bG yI rfl rfl rfl rfl (bm.of rfl zK (Mj)) (TL.go' af ?_);simp[hC];refine aU ?_;simp;apply T.exit;simp;refine aa.trim [8,7,6,5,0] [0,1] 2 NK yA ?_;simp;omega
         ·apply aL;simp[hC,cW,Ki];refine aU ?_;simp;apply T.exit;simp;refine aa.trim [8,7,6,5,0] [0,1] 2 NK yA ?_;simp;omega
      ·rintro s rfl;obtain⟨e,he⟩:∃ e,a+W.length=e:=⟨_,rfl⟩;rw[he] at OQ ⊢;have k1:a≤e:=by omega
       have k2:e≤l.length:=by omega
       have k3:e-a=W.length:=by omega
       have Lh:List.take W.length (List.drop a (l.map fun x=>CV.int .u8 (x.toNat:Int)))=W.map fun x=>CV.int .u8 (x.toNat:Int):=by
        rw[← List.map_drop,← List.map_take,t3]
       have Ou:=sD W yA Kq Vy;have Pq:¬ ((jK W:Int)<0):=by omega
       apply ah;simp[hC,cW,k1,k2,Lh,k3];simp only[cW] at Ou;refine dk zK (Ou) ?_;simp[hC];apply ah;simp[hC,Pq];refine aU ?_;simp;apply T.skip;simp;refine aa.trim [8,7,6,5,0] [0,1] 2 NK yA ⟨2,jK W,e,OQ,by omega,k2,?_⟩;simp
     ·have h2:cB c=false:=by simpa using h
      obtain⟨Qc,OQ⟩:0<qk (l.drop a)∧Lx ((l.drop a).drop (qk (l.drop a))) m':=by
       rcases M7 with h | h | h
       ·rw[h1] at h;simp at h
       ·rw[h2] at h;simp at h
       ·exact⟨h.2.2.2.1,h.2.2.2.2⟩
      have Sd:=E4 l a yN yA;have SY:a+qk (l.drop a)≤l.length:=by
       have h2:=Hj (l.drop a);rw[List.length_drop] at h2;omega
      rw[List.drop_drop] at OQ;generalize qk (l.drop a)=g at Sd Qc OQ SY;have Y4:=cm ((a:Int)+g) yA yA;have ZC:¬ (a:Int)+g=a:=by omega
      simp only[cW] at Sd;refine T.le (Le.trim [8,7,6,5,0] [0,1] 2 NK yA) ?_;simp;apply ah;simp[hC];refine dk zK (Sd) ?_;simp[hC,Y4];apply ah;simp[hC];apply ah;simp[hC];refine T.aX rfl (fun h=>?_) (fun h=>?_)
      ·simp at h;omega
      apply T.skip;simp;refine aa.trim [8,7,6,5,0] [0,1] 2 NK yA ⟨4,0,a+g,OQ,by omega,SY,?_⟩;simp[cW]
   ·rintro s ⟨kind,num,e,XN,hae,Ki,rfl⟩;have k1:a≤e:=by omega
    have k3:e-a≤l.length-a:=by omega
    have UD:¬ (k:Int)=4000:=by omega
    apply aL;simp[hC];refine T.aX rfl (fun h=>?_) (fun h=>?_)
    ·simp at h;omega
    apply T.skip;simp;have Lh:List.take (e-a) (List.drop a (l.map fun x=>CV.int .u8 (x.toNat:Int)))=((l.drop a).take (e-a)).map fun x=>CV.int .u8 (x.toNat:Int):=by
     rw[← List.map_drop,← List.map_take]
    have LD:min (e-a) (l.length-a)=e-a:=by omega
    have UN:=lK ((l.drop a).take (e-a));have UQ:((l.drop a).take (e-a)).length=e-a:=by simp;omega
    generalize (l.drop a).take (e-a)=W at Lh UN UQ;have VI:=zB l e Ki yA (fun r hr=>by
     have:=XN.skip;rw[List.drop_drop] at this;exact Lx.ncm this r hr)
    refine T.seq (T.yh af ?_);simp[hC,cW,k1,Ki,Lh,UN,UQ];have hb:(k+1)*40≤140737488355328:=by omega
    have CX:(jX cs).sz=4:=rfl;have N8:(jX cs).elem=159:=rfl;have M6:(jX cs).cells.length=k*4:=De;apply a8;simp[hC,hb,CX,N8,M6,aS];simp only[cW] at VI;have Lq:=XN.skip;rw[List.drop_drop] at Lq;have SW:∀ c,(l.drop (e+oM (l.drop e))).head? = some c→gD c=false:=fun c hc=>by
     rw[← List.drop_drop] at hc;exact vW hc
    have Tr:e+oM (l.drop e)≤l.length:=by
     have:=(vN (p:=gD) (l.drop e)).1;rw[List.length_drop] at this;unfold oM;omega
    obtain⟨a2,Ms⟩:∃ a2,e+oM (l.drop e)=a2:=⟨_,rfl⟩;rw[Ms] at VI Lq SW Tr;have hea:e≤a2:=by omega
    apply a8;simp[hC];refine dk zK (VI) ?_;simp[hC];refine⟨l.length-a2,by omega,?_⟩;have Pc:trees ((jX cs).cells++[CV.int .i64 kind,.str ⟨W.toArray⟩,.int .i64 num,I a])=true:=by rw[bu];simp only[jX,LN];rfl
    refine aa.le (Le.trim [6,5,0] [3] 4 (by simp[-List.all_append,aj Pc]) yA) ?_;simp;refine aa.le (Le.mq 3 0 rfl rfl yA j5 j5 (by simp[-List.all_append,aY Pc])) ?_;simp[-List.map_append,aM Pc];refine aa.trim [6,5,0] [0] 1 (by simp[-List.all_append,aj Pc]) yA ⟨a2,(jX cs).cells++[CV.int .i64 kind,.str ⟨W.toArray⟩,.int .i64 num,I a],k+1,m',rfl,Tr,by omega,Lq,SW,?_,Pc,?_⟩
    ·simp[M6];omega
    ·simp[cW,jX]
end Go.Proofs.YtlkmbdfhdknlgaaGreatDoor
