/- Reserved, Name, skip, number, sign. -/
import Derived.Test.YtkkdkhbhamhfgaaGreatDoorZ20
namespace Go.Proofs.YtkkdkhbhamhfgaaGreatDoor
open Go.Can Go.aT
def Hu:List ByteArray:=[⟨#[118,97,114]⟩,⟨#[109,117,116,101,120]⟩,⟨#[114,109,117,116,101,120]⟩,⟨#[102,117,110,99]⟩,⟨#[108,111,99,107]⟩,⟨#[117,110,108,111,99,107]⟩,⟨#[103,111]⟩,⟨#[105,102]⟩,⟨#[101,108,115,101]⟩,⟨#[119,104,105,108,101]⟩,⟨#[114,101,116,117,114,110]⟩]
theorem Fb:Hu.map bs=pa:=rfl
theorem IA {a b:ByteArray}(h:bs a=bs b):a=b:=by
 unfold bs at h;exact ByteArray.ext (Array.toList_inj.1 h)
theorem DE (s:ByteArray):hasB Hu s=decide (bs s∈pa):=by
 rw[Bool.eq_iff_iff,decide_eq_true_eq,← Fb];unfold hasB;rw[List.any_eq_true,List.mem_map];constructor
 ·rintro⟨x,h1,h2⟩;exact⟨x,h1,by rw[of_decide_eq_true h2]⟩
 ·rintro⟨x,h1,h2⟩;exact⟨x,h1,by rw[IA h2];simp⟩
theorem pK (s:ByteArray):ae Tryz.prog 97 [.str s] (.bool (decide (bs s∈pa))):=by
 refine ae.aD af Tryz.func97 rfl JN (by simp[Tryz.ntmps97]) rfl fun C hC JR=>?_;rw[Tryz.ntmps97] at hC;apply ah;simp[hC];apply ah;simp[hC];refine TL.le (Le.dC (o:=0) rfl rfl) ?_;simp[bZ];have h:=vb Hu s JZ;rw[DE] at h;refine dk JV (h) ?_;simp[hC];apply T.ret;apply aa.here;simp[Tryz.results97]
def cW (l:List UInt8):CV:=.au (l.map fun x=>.int .u8 (x.toNat:Int)) l.length
theorem jN {l:List UInt8}{i:Nat}{c:UInt8}(h:l[i]? = some c):(l.map fun x=>CV.int .u8 (x.toNat:Int)).drop i=.int .u8 (c.toNat:Int)::(l.map fun x=>CV.int .u8 (x.toNat:Int)).drop (i+1):=by
 obtain⟨h1,h2⟩:=List.getElem?_eq_some_iff.1 h;rw[List.drop_eq_getElem_cons (by simpa using h1)];simp[h2]
theorem FN (c:UInt8):gD c=((c.toNat:Int) == 32 || (c.toNat:Int) == 9 || (c.toNat:Int) == 10 || (c.toNat:Int) == 13):=by
 have h:∀ k:UInt8,(c == k)=((c.toNat:Int) == (k.toNat:Int)):=fun k=>by
  rw[Bool.eq_iff_iff,beq_iff_eq,beq_iff_eq];constructor
  ·intro h;rw[h]
  ·intro h;exact UInt8.toNat_inj.1 yA
 simp only[gD,h];rfl
theorem Cy {c:UInt8}{r:List UInt8}:oM (c::r)=if gD c=true then oM r+1 else 0:=by
 unfold oM;rw[List.takeWhile_cons];split<;>simp
theorem fY {l:List UInt8}{i:Nat}{c:UInt8}(h:l[i]? = some c):l.drop i=c::l.drop (i+1):=by
 obtain⟨h1,h2⟩:=List.getElem?_eq_some_iff.1 h;rw[List.drop_eq_getElem_cons h1,h2]
theorem zB (l:List UInt8)(Pt:Nat)(Nn:Pt≤l.length)(hl:l.length≤1000000)(Nx:∀ r,l.drop (Pt+oM (l.drop Pt))=47::r→r.head?≠some 47):ae Tryz.prog 94 [cW l,I Pt] (I ((Pt+oM (l.drop Pt):Nat))):=by
 obtain⟨e,he⟩:∃ e,Pt+oM (l.drop Pt)=e:=⟨_,rfl⟩;rw[he] at Nx ⊢;refine ae.aD af Tryz.func94 rfl JN (by simp[Tryz.ntmps94]) rfl fun C hC JR=>?_;rw[Tryz.ntmps94] at hC;apply ah;simp[hC];apply fw;refine T.aI (fun m st=>∃ i:Nat,m=l.length-i∧i≤l.length∧i+oM (l.drop i)=e∧st=⟨[(0,cW l),(1,I i)],[],0⟩) (n:=l.length-Pt) ?_ ?_
 ·refine aa.le (Le.env [0,1]) (aa.here ⟨Pt,rfl,Nn,he,?_⟩);simp
 ·rintro n st ⟨i,rfl,hi,JW,rfl⟩;by_cases JP:i<l.length
  ·obtain⟨c,hc⟩:∃ c,l[i]? = some c:=⟨l[i],List.getElem?_eq_getElem JP⟩;have JQ:=jN hc;have hd:=fY hc;rw[hd,Cy] at JW;have hw:=cm ((i:Int)+1) yA yA;apply aL;simp[hC,cW,JP];refine gF ?_;simp;refine T.block (T.block ?_);refine T.cut (fun st=>st=⟨[(10,.bool (gD c)),(0,cW l),(1,I i)],[],0⟩) ?_ ?_
   ·rw[FN];generalize (c.toNat:Int)=n at JQ;by_cases h1:n=32
    ·apply a8;simp[hC,h1,JP,JQ];refine aa.le (Le.env [10,0,1]) (aa.here ?_);simp[cW]
    have h1:(n == 32)=false:=by simp[h1]
    by_cases h2:n=9
    ·apply a8;simp[hC,h2,JP,JQ];refine aa.le (Le.env [10,0,1]) (aa.here ?_);simp[cW]
    have h2:(n == 9)=false:=by simp[h2]
    by_cases h3:n=10
    ·apply a8;simp[hC,h3,JP,JQ];refine aa.le (Le.env [10,0,1]) (aa.here ?_);simp[cW]
    have h3:(n == 10)=false:=by simp[h3]
    apply a8;simp[hC,h1,h2,h3,JP,JQ];refine aa.le (Le.env [10,0,1]) (aa.here ?_);simp[cW]
   ·rintro st rfl;refine T.aX rfl (fun h=>?_) (fun h=>?_)
    ·rw[h,if_pos rfl] at JW;apply a8;simp[hC,hw];refine⟨l.length-(i+1),by omega,?_⟩;refine aa.le (Le.env [0,1]) (aa.here ⟨i+1,rfl,by omega,by omega,?_⟩);simp[cW]
    ·have h':gD c=false:=by simpa using h
     rw[h',if_neg JM] at JW;have Zg:e=i:=by omega
     subst Zg;rw[hd] at Nx
          /- no comment -/
     refine T.cut (fun st=>st=⟨[(39,.bool false),(0,cW l),(1,I e)],[],0⟩) ?_ ?_
     ·by_cases h2:e+1<l.length
      ·obtain⟨c2,Lb⟩:∃ c2,l[e+1]? = some c2:=⟨l[e+1],List.getElem?_eq_getElem h2⟩;have KJ:=jN Lb;have M8:=fY Lb;have MM:(e:Int)+1<l.length:=by omega
       by_cases h4:(c.toNat:Int)=47
       ·have h5:¬ (c2.toNat:Int)=47:=by
         have Wc:c=47:=UInt8.toNat_inj.1 (by have:(47:UInt8).toNat=47:=rfl;omega);subst Wc;have Nx:=Nx _ rfl;rw[M8] at Nx;have:c2≠47:=fun h=>Nx (by simp[h]);intro h;exact this (UInt8.toNat_inj.1 (by have:(47:UInt8).toNat=47:=rfl;omega))
        apply a8;simp[hC,h4,JP,JQ,hw,MM,KJ,cW];refine aa.le (Le.env [39,0,1]) (aa.here ?_);simp[h5]
       ·have h4:((c.toNat:Int) == 47)=false:=by simp[h4]
        apply a8;simp[hC,h4,JP,JQ,hw,MM,cW];refine aa.le (Le.env [39,0,1]) (aa.here ?_);simp
      ·have MM:¬ (e:Int)+1<l.length:=by omega
       apply a8;simp[hC,hw,MM,cW];refine aa.le (Le.env [39,0,1]) (aa.here ?_);simp
     ·rintro st rfl;refine aU ?_;simp;apply ah;simp[hC];apply T.ret;apply aa.here;simp[Tryz.results94]
  ·have VP:i=l.length:=by omega
   have PQ:e=i:=by
    rw[VP,List.drop_length] at JW;have:oM ([]:List UInt8)=0:=rfl;omega
   apply aL;simp[hC,cW,JP];refine aU ?_;simp;apply T.exit;simp;apply ah;simp[hC];apply T.ret;apply aa.here;simp[Tryz.results94,PQ]
theorem px (w:List UInt8)(c:UInt8):jK (w++[c])=10*jK w+(c.toNat-48):=by simp[jK]
theorem FX (w:List UInt8)(r:List UInt8):jK w≤jK (w++r):=by
 induction r generalizing w with
 | nil=>simp
 | cons c r ih=>
  have h1:=ih (w++[c]);rw[px] at h1;rw[List.append_assoc] at h1;have:jK w≤10*jK w+(c.toNat-48):=by omega
  exact Nat.le_trans this h1
theorem sD (l:List UInt8)(hl:l.length≤1000000)(hd:l.all cB=true)(hv:jK l<9223372036854775808):ae Tryz.prog 98 [cW l] (I (jK l)):=by
 refine ae.aD af Tryz.func98 rfl JN (by simp[Tryz.ntmps98]) rfl fun C hC JR=>?_;rw[Tryz.ntmps98] at hC;apply ah;simp[hC];apply ah;simp[hC];apply aL;simp[hC];apply T.block;refine T.aI (fun m st=>∃ i:Nat,m=l.length-i∧i≤l.length∧st=⟨[(4,I i),(3,I (jK (l.take i))),(0,cW l)],[],0⟩) (n:=l.length) ?_ ?_
 ·refine aa.le (Le.env [4,3,0]) (aa.here ⟨0,by omega,by omega,?_⟩);simp[jK]
 ·rintro n st ⟨i,rfl,hi,rfl⟩;by_cases JP:i<l.length
  ·obtain⟨c,hc⟩:∃ c,l[i]? = some c:=⟨l[i],List.getElem?_eq_getElem JP⟩;have JQ:=jN hc;have Kd:l.take (i+1)=l.take i++[c]:=by rw[List.take_add_one,hc];rfl
   have Oq:48≤c.toNat∧c.toNat≤57:=by
    have:=List.all_eq_true.1 hd c (List.mem_of_getElem? hc)
    simpa [cB] using this
   have hle:=FX (l.take (i+1)) (l.drop (i+1));rw[List.take_append_drop,Kd,px] at hle;have hw:=cm ((i:Int)+1) yA yA;generalize Zi:jK (l.take i)=d at hle;have w1:IntKind.u8.wrap ((c.toNat:Int)-48)=(c.toNat:Int)-48:=IntWalk.u8_in _ yA;have w2:=cm ((c.toNat:Int)-48) yA yA;have w3:=cm (9223372036854775807-((c.toNat:Int)-48)) yA yA;have w4:(9223372036854775807-((c.toNat:Int)-48)).tdiv 10=(9223372036854775807-((c.toNat:Int)-48)) / 10:=Int.tdiv_eq_ediv_of_nonneg yA;have w5:=cm ((9223372036854775807-((c.toNat:Int)-48)) / 10) yA yA;have w6:=cm (10*(d:Int)) yA yA;have w7:=cm (10*(d:Int)+((c.toNat:Int)-48)) yA yA;have w8:¬ (9223372036854775807-((c.toNat:Int)-48)) / 10<(d:Int):=by omega
   apply aL;simp[hC,cW,JP];refine gF ?_;simp;apply fw;refine T.seq (T.yh af ?_);simp[hC,JP,JQ,w1,w2];apply aL;simp[hC,w3,w4,w5];refine T.aX rfl (fun h=>?_) (fun h=>?_)
   ·simp at h;omega
   apply T.skip;simp;apply a8;simp[hC,w6,w7];apply a8;simp[hC,hw];refine⟨l.length-(i+1),by omega,?_⟩;refine aa.le (Le.env [4,3,0]) (aa.here ⟨i+1,rfl,by omega,?_⟩);rw[Kd,px,Zi];simp;omega
  ·have JW:i=l.length:=by omega
   apply aL;simp[hC,cW,JP];refine aU ?_;simp;apply T.exit;simp;apply ah;simp[hC];apply T.ret;apply aa.here;simp[Tryz.results98,JW]
def Hc:List ByteArray:=[⟨#[60,61]⟩,⟨#[62,61]⟩,⟨#[61,61]⟩,⟨#[33,61]⟩,⟨#[38,38]⟩,⟨#[124,124]⟩]
def Ft:List ByteArray:=[⟨#[40]⟩,⟨#[41]⟩,⟨#[123]⟩,⟨#[125]⟩,⟨#[91]⟩,⟨#[93]⟩,⟨#[44]⟩,⟨#[59]⟩,⟨#[61]⟩,⟨#[43]⟩,⟨#[45]⟩,⟨#[42]⟩,⟨#[47]⟩,⟨#[37]⟩,⟨#[60]⟩,⟨#[62]⟩,⟨#[33]⟩]
theorem DD (a b:UInt8):hasB Hc ⟨#[a,b]⟩=decide ((a,b)∈oU):=by
 rw[Bool.eq_iff_iff,decide_eq_true_eq];simp only[hasB,Hc,oU,List.any_cons,List.any_nil,Bool.or_eq_true,decide_eq_true_eq,ByteArray.mk.injEq,List.mem_cons,List.not_mem_nil,Prod.mk.injEq,Bool.false_eq_true];simp only[Array.mk.injEq,List.cons.injEq,and_true];constructor
 ·rintro (⟨rfl,rfl⟩ | ⟨rfl,rfl⟩ | ⟨rfl,rfl⟩ | ⟨rfl,rfl⟩ | ⟨rfl,rfl⟩ | ⟨rfl,rfl⟩ | h)<;>first | exact h.elim | simp
 ·rintro (⟨rfl,rfl⟩ | ⟨rfl,rfl⟩ | ⟨rfl,rfl⟩ | ⟨rfl,rfl⟩ | ⟨rfl,rfl⟩ | ⟨rfl,rfl⟩ | h)<;>first | exact h.elim | simp
theorem xp (a:UInt8):hasB Ft ⟨#[a]⟩=decide (a∈ky):=by
 rw[Bool.eq_iff_iff,decide_eq_true_eq];simp only[hasB,Ft,ky,List.any_cons,List.any_nil,Bool.or_eq_true,decide_eq_true_eq,ByteArray.mk.injEq,List.mem_cons,List.not_mem_nil,Bool.false_eq_true];simp only[Array.mk.injEq,List.cons.injEq,and_true];simp only[eq_comm]
theorem EV (c:UInt8):(c.toNat:Int)<256:=by
 have:=c.toNat_lt;omega
theorem lK:∀ l:List UInt8,bytesOf (l.map fun x=>CV.int .u8 (x.toNat:Int))=some l
 | []=>rfl
 | c::r=>by
  have h:=EV c;simp[bytesOf,lK r,h]
theorem E4 (l:List UInt8)(i:Nat)(JP:i<l.length)(hl:l.length≤1000000):ae Tryz.prog 99 [cW l,I i] (I (qk (l.drop i))):=by
 obtain⟨c,hc⟩:∃ c,l[i]? = some c:=⟨l[i],List.getElem?_eq_getElem JP⟩;have JQ:=jN hc;have hd:=fY hc;have hw:=cm ((i:Int)+1) yA yA;have UO:=cm ((i:Int)+2) yA yA;rw[hd];refine ae.aD af Tryz.func99 rfl JN (by simp[Tryz.ntmps99]) rfl fun C hC JR=>?_;rw[Tryz.ntmps99] at hC;apply ah;simp[hC];by_cases h2:i+1<l.length
 ·obtain⟨c2,Lb⟩:∃ c2,l[i+1]? = some c2:=⟨l[i+1],List.getElem?_eq_getElem h2⟩;have KJ:=jN Lb;have M8:=fY Lb;rw[M8];have MM:(i:Int)+1<l.length:=by omega
  have h3:i+2≤l.length:=by omega
  have z2:(0:Int)≤(i:Int)+2:=by omega
  have t2:((i:Int)+2).toNat=i+2:=by omega
  have e2:i+2-i=2:=by omega
  refine T.seq (T.seq (T.yh af ?_));simp[hC,cW,hw,UO,MM,h3,JQ,KJ,z2,t2,e2,EV];refine TL.le (Le.dC (o:=0) rfl rfl) ?_;simp[bZ];have h:=vb Hc ⟨#[c,c2]⟩ JZ;rw[DD] at h;refine TL.bG JT rfl rfl rfl rfl (bm.of rfl JV (h)) (TL.go' af ?_);simp[hC];refine T.aX rfl (fun h=>?_) (fun h=>?_)
  ·have h4:(c,c2)∈oU:=by simpa using h
   apply ah;simp[hC];apply T.ret;apply aa.here;simp[Tryz.results99,qk,h4]
  ·have h4:(c,c2)∉oU:=by simpa using h
   apply T.skip;simp;have hs:qk (c::c2::l.drop (i+1+1))=if c∈ky then 1 else 0:=by simp[qk,h4]
   rw[hs];clear hs;refine T.le (Le.trim [0,1,4] [] 0 JM yA) ?_;simp;have h1:i+1≤l.length:=by omega
   have z1:(0:Int)≤(i:Int)+1:=by omega
   have t1:((i:Int)+1).toNat=i+1:=by omega
   have e1:i+1-i=1:=by omega
   refine T.seq (T.seq (T.yh af ?_));simp[hC,hw,h1,z1,t1,e1,JQ,EV];refine TL.le (Le.dC (o:=0) rfl rfl) ?_;simp[bZ];have h:=vb Ft ⟨#[c]⟩ JZ;rw[xp] at h;refine dk JV (h) ?_;simp;refine T.aX rfl (fun h=>?_) (fun h=>?_)
   ·have h5:c∈ky:=by simpa using h
    apply ah;simp[hC];apply T.ret;apply aa.here;simp[Tryz.results99,h5]
   ·have h5:c∉ky:=by simpa using h
    apply T.skip;simp;apply ah;simp[hC];apply T.ret;apply aa.here;simp[Tryz.results99,h5]
 ·have MM:¬ (i:Int)+1<l.length:=by omega
  have M8:l.drop (i+1)=[]:=List.drop_eq_nil_of_le yA;rw[M8];have hs:qk [c]=if c∈ky then 1 else 0:=rfl
  rw[hs];clear hs;refine T.seq (T.seq (T.yh af ?_));simp[hC,cW,hw,MM];refine aU ?_;simp;apply T.skip;simp;refine T.le (Le.trim [0,1,4] [] 0 JM yA) ?_;simp;have h1:i+1≤l.length:=by omega
  have z1:(0:Int)≤(i:Int)+1:=by omega
  have t1:((i:Int)+1).toNat=i+1:=by omega
  have e1:i+1-i=1:=by omega
  refine T.seq (T.seq (T.yh af ?_));simp[hC,hw,h1,z1,t1,e1,JQ,EV];refine TL.le (Le.dC (o:=0) rfl rfl) ?_;simp[bZ];have h:=vb Ft ⟨#[c]⟩ JZ;rw[xp] at h;refine dk JV (h) ?_;simp;refine T.aX rfl (fun h=>?_) (fun h=>?_)
  ·have h5:c∈ky:=by simpa using h
   apply ah;simp[hC];apply T.ret;apply aa.here;simp[Tryz.results99,h5]
  ·have h5:c∉ky:=by simpa using h
   apply T.skip;simp;apply ah;simp[hC];apply T.ret;apply aa.here;simp[Tryz.results99,h5]
theorem IB (s:ByteArray)(i:Nat):s[i]? = (bs s)[i]?:=by
 by_cases h:i<s.size
 ·rw[getElem?_pos s i h,List.getElem?_eq_getElem (by simpa [bs] using h)];simp[bs];rfl
 ·rw[getElem?_neg s i h,List.getElem?_eq_none (by simpa [bs] using h)]
theorem jO (s:ByteArray):(bs s).length=s.size:=by simp[bs]
theorem im (s:ByteArray)(h:cJ s)(hr:bs s∉pa):ae Tryz.prog 81 [.str s] (.bool true):=by
 obtain⟨⟨c0,t0,T6,Ph⟩,h1,h2⟩:=h;have JX:=jO s;have Md:1≤s.size:=by rw[← JX,T6];simp
 refine ae.aD af Tryz.func81 rfl JN (by simp[Tryz.ntmps81]) rfl fun C hC JR=>?_;rw[Tryz.ntmps81] at hC;apply ah;simp[hC];apply aL;simp[hC];apply T.block;refine T.aI (fun m st=>∃ i:Nat,m=s.size-i∧i≤s.size∧st=⟨[(3,I i),(0,.str s)],[],0⟩) (n:=s.size) ?_ ?_
 ·refine aa.le (Le.env [3,0]) (aa.here ⟨0,by omega,by omega,?_⟩);simp
 ·rintro n st ⟨i,rfl,hi,rfl⟩;by_cases JP:i<s.size
  ·obtain⟨c,hc⟩:∃ c,(bs s)[i]? = some c:=⟨(bs s)[i],List.getElem?_eq_getElem yA⟩;have hg:s[i]? = some c:=by rw[IB];exact hc
   have Y7:eF c=true:=List.all_eq_true.1 h1 c (List.mem_of_getElem? hc);have hw:=cm ((i:Int)+1) yA yA;apply aL;simp[hC,JP];refine gF ?_;simp;apply fw;refine T.cut (fun st=>st=⟨[(25,.bool false),(3,I i),(0,.str s)],[],0⟩) ?_ ?_
   ·have Rt:s[i]=c:=by
     have:=hg;rw[getElem?_pos s i JP] at this
     simpa using this
    cases JS:isLet c with
    | true=>
     have JY:=j6 c;rw[JS] at JY;apply a8;simp[hC,JP,Rt];refine dk JV (JY) ?_;simp[hC];refine aa.le (Le.env [25,3,0]) (aa.here ?_);simp
    | false=>
     have JY:=j6 c;rw[JS] at JY;have Zj:cB c=true:=by simpa [eF,JS] using Y7
     have Oq:=kf c;rw[Zj] at Oq;have Qa:¬ i=0:=by
      intro h;subst h;rw[T6] at hc;simp only[List.getElem?_cons_zero,Option.some.injEq] at hc;subst hc;rw[Ph] at JS;cases JS
     apply a8;simp[hC,JP,Rt];refine dk JV (JY) ?_;simp[hC,Qa,JP,Rt];refine TL.bG JT rfl rfl rfl rfl (bm.of rfl JV (Oq)) (TL.go' af ?_);simp[hC];refine aa.le (Le.env [25,3,0]) (aa.here ?_);simp
   ·rintro st rfl;refine aU ?_;simp;apply T.skip;simp;apply a8;simp[hC,hw];refine⟨s.size-(i+1),by omega,?_⟩;refine aa.le (Le.env [3,0]) (aa.here ⟨i+1,rfl,by omega,?_⟩);simp
  ·apply aL;simp[hC,JP];refine aU ?_;simp;apply T.exit;simp;have g1:(1:Int)≤s.size:=by omega
   have g2:(s.size:Int)≤16:=by omega
   have Lt:=pK s;simp only[hr,decide_false] at Lt;apply ah;simp[hC,g1,g2];refine TL.bG JT rfl rfl rfl rfl (bm.of rfl JV (Lt)) (TL.go' af ?_);simp[hC];apply T.ret;apply aa.here;simp[Tryz.results81]
theorem Cj {p:UInt8→Bool}:∀ {L:List UInt8} {j:Nat},j<(L.takeWhile p).length→∃ c,L[j]? = some c∧p c=true
 | [],j,h=>by simp at h
 | a::r,j,h=>by
  cases ha:p a with
  | false=>rw[List.takeWhile_cons,ha] at h;simp at h
  | true=>
   cases j with
   | zero=>exact⟨a,rfl,ha⟩
   | succ j=>
    rw[List.takeWhile_cons,ha] at h;simp only[if_true,List.length_cons] at h;obtain⟨c,h1,h2⟩:=Cj (p:=p) (L:=r) (j:=j) yA;exact⟨c,by simpa using h1,h2⟩
theorem yw {p:UInt8→Bool}:∀ {L:List UInt8} {c:UInt8},L[(L.takeWhile p).length]? = some c→p c=false
 | [],c,h=>by simp at h
 | a::r,c,h=>by
  cases ha:p a with
  | false=>
   rw[List.takeWhile_cons,ha] at h;simp at h;subst h;exact ha
  | true=>
   rw[List.takeWhile_cons,ha] at h;simp only[if_true,List.length_cons,List.getElem?_cons_succ] at h;exact yw (L:=r) h
theorem vN {p:UInt8→Bool}:∀ L:List UInt8,(L.takeWhile p).length≤L.length∧L.dropWhile p=L.drop (L.takeWhile p).length∧L.take (L.takeWhile p).length=L.takeWhile p
 | []=>⟨Nat.le_refl _,rfl,rfl⟩
 | a::r=>by
  cases ha:p a with
  | false=>simp[ha]
  | true=>
   obtain⟨h1,h2,h3⟩:=vN (p:=p) r;simp[ha,h2,h3];exact h1
theorem Lx.ncm {l:List UInt8}{n:Nat}(h:Lx l n):∀ r,l=47::r→r.head?≠some 47:=by
 rintro r rfl;obtain⟨m,_,h1 | h1 | h1⟩:=Lx.inv h JZ
 ·exact absurd h1.1 JZ
 ·exact absurd h1.2.1 JZ
 ·exact h1.2.2.1 rfl
theorem Hj:∀ L:List UInt8,qk L≤L.length
 | []=>Nat.le_refl _
 | [a]=>by
  simp only[qk];split<;>simp
 | a::b::r=>by
  simp only[qk,List.length_cons];split
  ·omega
  ·split<;>omega
def LexG (r:CV):Prop:=∃ (cs:List CV) (n:Nat) (e:Nat),r=.db [.au cs n,I e,.int .i64 0]
def jX (cs:List CV):Ob:=⟨159,4,cs⟩
def J66 (l:List UInt8)(n:Nat)(s:St):Prop:=∃ (a:Nat) (cs:List CV) (k m:Nat),n=l.length-a∧a≤l.length∧k+m≤4000∧Lx (l.drop a) m∧(∀ c,(l.drop a).head? = some c→gD c=false)∧cs.length=k*4∧trees cs=true∧
 s=⟨[(6,I a),(5,.bw 0 0 k),(0,cW l)],[(0,jX cs)],1⟩
set_option maxHeartbeats 4000000 in
theorem HV (l:List UInt8)(hl:l.length≤262144)(hx:Lx l 4000):kU Tryz.prog 62 [cW l] LexG:=by
 refine kU.je af Tryz.func62 rfl JN (by simp[Tryz.ntmps62]) fun C hC JR=>?_;rw[Tryz.ntmps62] at hC;apply ah;simp[hC];have KP:¬ (262144:Int)<l.length:=by omega
 apply aL;simp[hC,cW,KP];refine aU ?_;simp;apply T.skip;simp;apply ah;simp[hC];have PE:=zB l 0 (Nat.zero_le _) yA (fun r hr=>by
  have:=hx.skip;simp only[List.drop_zero,Nat.zero_add] at hr this;exact Lx.ncm this r hr)
 simp only[List.drop_zero,Nat.zero_add] at PE;have R3:=hx.skip;have PC:∀ c,(l.drop (oM l)).head? = some c→gD c=false:=fun c hc=>vW hc;have SE:oM l≤l.length:=by
  unfold oM;exact (vN (p:=gD) l).1
 generalize oM l=a0 at PE R3 PC SE;apply ah;simp[hC];refine dk JV (PE) ?_;simp[hC];apply T.block;refine T.aI (J66 l) (n:=l.length-a0) ?_ ?_
 ·refine aa.le (Le.own 5 159 4 rfl) ?_;simp;refine aa.trim [6,5,0] [0] 1 JM yA ⟨a0,[],0,4000,rfl,SE,by omega,R3,PC,rfl,rfl,?_⟩;simp[cW,jX]
 ·rintro n st ⟨a,cs,k,m,rfl,Tj,QM,W5,W9,JY,Lr,rfl⟩;apply fw;by_cases PO:a=l.length
  ·apply aL;simp[hC,cW,PO];refine cz ?_;simp;have hb:(k+1)*40≤140737488355328:=by omega
   have JX:(jX cs).sz=4:=rfl;have Kb:(jX cs).elem=159:=rfl;have MB:(jX cs).cells.length=k*4:=JY;apply ah;simp[hC,hb,JX,Kb,MB,aS];apply T.ret;have UW:trees ((jX cs).cells++[CV.int .i64 5,.str ⟨#[]⟩,.int .i64 0,.int .i64 l.length])=true:=by rw[bu];simp only[jX,Lr];rfl
   refine aa.le (Le.dC (o:=2) rfl UW) ?_;simp[bZ];refine aa.here ⟨_,rfl,rfl,_,_,_,rfl⟩
  ·have JS:a<l.length:=by omega
   have J3:¬ (a:Int)=l.length:=by omega
   obtain⟨c,hc⟩:∃ c,l[a]? = some c:=⟨l[a],List.getElem?_eq_getElem JS⟩;have JQ:=jN hc;have hd:=fY hc;rw[hd] at W5 W9;have Kc:=W9 c rfl;obtain⟨m',rfl,MC⟩:=Lx.inv W5 Kc;rw[← hd] at MC;apply aL;simp[hC,cW,PO];refine aU ?_;simp;apply T.skip;simp;apply ah;simp[hC];apply ah;simp[hC];refine T.le (Le.trim [8,7,6,5,0] [0,1] 2 Nc yA) ?_;simp;refine T.cut (fun s=>∃ (kind num:Int) (e:Nat),Lx (l.drop e) m'∧a<e∧e≤l.length∧s=⟨[(8,I e),(7,.ai 1 0),(6,I a),(5,.bw 0 0 k),(0,cW l)],[(0,jX cs),(1,⟨159,0,[.int .i64 kind,.str ⟨#[]⟩,.int .i64 num,I a]⟩)],2⟩) ?_ ?_
   ·apply T.block;apply ah;simp[hC,JS,JQ];refine dk JV (j6 c) ?_;simp[hC];refine T.aX rfl (fun h=>?_) (fun h=>?_)
    ·have h1:isLet c=true:=by simpa using h
     obtain⟨_,UP,Of⟩:isLet c=true∧(((l.drop a).takeWhile eF).length≤16∨(l.drop a).takeWhile eF∈pa)∧Lx ((l.drop a).dropWhile eF) m':=by
      rcases MC with h | h | h
      ·exact h
      ·rw[h1] at h;simp at h
      ·rw[h1] at h;simp at h
     obtain⟨t1,t2,t3⟩:=vN (p:=eF) (l.drop a);rw[t2,List.drop_drop] at Of;have R4:0<((l.drop a).takeWhile eF).length:=by
      rw[hd,List.takeWhile_cons];simp[eF,h1]
     have Qr:=@Cj eF (l.drop a);have OH:=@yw eF (l.drop a);generalize hW:(l.drop a).takeWhile eF=W at *;have Uc:a+W.length≤l.length:=by simp at t1;omega
     refine T.cut (fun s=>s=⟨[(8,I ((a+W.length:Nat))),(7,.ai 1 0),(6,I a),(5,.bw 0 0 k),(0,cW l)],[(0,jX cs),(1,⟨159,0,[.int .i64 0,.str ⟨#[]⟩,.int .i64 0,I a]⟩)],2⟩) ?_ ?_
     ·apply T.block;refine T.aI (fun n s=>∃ j:Nat,n=W.length-j∧j≤W.length∧s=⟨[(8,I ((a+j:Nat))),(7,.ai 1 0),(6,I a),(5,.bw 0 0 k),(0,cW l)],[(0,jX cs),(1,⟨159,0,[.int .i64 0,.str ⟨#[]⟩,.int .i64 0,I a]⟩)],2⟩) (n:=W.length) ?_ ?_
      ·refine aa.trim [8,7,6,5,0] [0,1] 2 Nc yA ⟨0,by omega,by omega,?_⟩;simp[cW]
      ·rintro n s ⟨j,rfl,KZ,rfl⟩;obtain⟨e,he⟩:∃ e,a+j=e:=⟨_,rfl⟩;rw[he];by_cases hj:j<W.length
       ·obtain⟨c2,Lb,mw⟩:=Qr hj;rw[List.getElem?_drop,he] at Lb;have KJ:=jN Lb;have Kb:e<l.length:=(List.getElem?_eq_some_iff.1 Lb).1;have hw:=cm ((e:Int)+1) yA yA;have MA:=j6 c2;have L0:=kf c2
        cases Km:isLet c2 with
        | true=>
         rw[Km] at MA;apply aL;simp[hC,cW,Kb,KJ];refine TL.bG JT rfl rfl rfl rfl (bm.of rfl JV (MA)) (TL.go' af ?_);simp[hC];refine gF ?_;simp;apply T.block;apply a8;simp[hC,hw];refine⟨W.length-(j+1),by omega,?_⟩;refine aa.trim [8,7,6,5,0] [0,1] 2 Nc yA ⟨j+1,rfl,by omega,?_⟩;simp;omega
        | false=>
         rw[Km] at MA;have V1:cB c2=true:=by simpa [eF,Km] using mw
         rw[V1] at L0;apply aL;simp[hC,cW,Kb,KJ];refine TL.bG JT rfl rfl rfl rfl (bm.of rfl JV (MA)) (TL.go' af ?_);simp[hC,Kb,KJ];refine TL.bG JT rfl rfl rfl rfl (bm.of rfl JV (L0)) (TL.go' af ?_);simp[hC];refine gF ?_;simp;apply T.block;apply a8;simp[hC,hw];refine⟨W.length-(j+1),by omega,?_⟩;refine aa.trim [8,7,6,5,0] [0,1] 2 Nc yA ⟨j+1,rfl,by omega,?_⟩;simp;omega
       ·have PJ:j=W.length:=by omega
        by_cases Kb:e<l.length
        ·obtain⟨c2,Lb⟩:∃ c,l[e]? = some c:=⟨l[e],List.getElem?_eq_getElem Kb⟩;have mw:eF c2=false:=OH (by rw[List.getElem?_drop,← PJ,he];exact Lb);have KJ:=jN Lb;have MA:=j6 c2;have L0:=kf c2;have H9:isLet c2=false∧cB c2=false:=by simpa [eF] using mw
         rw[H9.1] at MA;rw[H9.2] at L0;apply aL;simp[hC,cW,Kb,KJ];refine TL.bG JT rfl rfl rfl rfl (bm.of rfl JV (MA)) (TL.go' af ?_);simp[hC,Kb,KJ];refine TL.bG JT rfl rfl rfl rfl (bm.of rfl JV (L0)) (TL.go' af ?_);simp[hC];refine aU ?_;simp;apply T.exit;simp;refine aa.trim [8,7,6,5,0] [0,1] 2 Nc yA ?_;simp;omega
        ·apply aL;simp[hC,cW,Kb];refine aU ?_;simp;apply T.exit;simp;refine aa.trim [8,7,6,5,0] [0,1] 2 Nc yA ?_;simp;omega
     ·rintro s rfl;obtain⟨e,he⟩:∃ e,a+W.length=e:=⟨_,rfl⟩;rw[he] at Of ⊢;have k1:a≤e:=by omega
      have k2:e≤l.length:=by omega
      have k3:e-a=W.length:=by omega
      have KV:List.take W.length (List.drop a (l.map fun x=>CV.int .u8 (x.toNat:Int)))=W.map fun x=>CV.int .u8 (x.toNat:Int):=by
       rw[← List.map_drop,← List.map_take,t3]
      have KX:min W.length (l.length-a)=W.length:=by omega
      have T9:=lK W;have Zu:bs ⟨W.toArray⟩=W:=bs_mk W;apply ah;simp[hC];have Lt:=pK ⟨W.toArray⟩;rw[Zu] at Lt;have wk:IntKind.i64.wrap ((e:Int)-a)=(W.length:Int):=by rw[cm _ yA yA];omega
      refine T.seq (T.yh af ?_);simp[hC,cW,k1,k2,KV,T9,k3];refine dk JV (Lt) ?_;simp;refine T.aX rfl (fun h=>?_) (fun h=>?_)
      ·apply a8;simp[hC];refine aa.trim [8,7,6,5,0] [0,1] 2 Nc yA ⟨3,0,e,Of,by omega,k2,?_⟩;simp
      ·have YR:W∉pa:=by simpa using h
       have h16:W.length≤16:=UP.resolve_right YR;have Wu:¬ (16:Int)<W.length:=by omega
       apply ah;simp[hC,wk,Wu];refine aU ?_;simp;apply T.skip;simp;refine aa.trim [8,7,6,5,0] [0,1] 2 Nc yA ⟨1,0,e,Of,by omega,k2,?_⟩;simp
    ·have h1:isLet c=false:=by simpa using h
     refine T.le (Le.trim [8,7,6,5,0] [0,1] 2 Nc yA) ?_;simp;apply ah;simp[hC,JS,JQ];refine dk JV (kf c) ?_;simp[hC];refine T.aX rfl (fun h=>?_) (fun h=>?_)
     ·have h2:cB c=true:=by simpa using h
      obtain⟨_,_,UR,Of⟩:isLet c=false∧cB c=true∧jK ((l.drop a).takeWhile cB)<9223372036854775808∧Lx ((l.drop a).dropWhile cB) m':=by
       rcases MC with h | h | h
       ·rw[h1] at h;simp at h
       ·exact h
       ·rw[h2] at h;simp at h
      obtain⟨t1,t2,t3⟩:=vN (p:=cB) (l.drop a);rw[t2,List.drop_drop] at Of;have R4:0<((l.drop a).takeWhile cB).length:=by
       rw[hd,List.takeWhile_cons];simp[h2]
      have Kg:((l.drop a).takeWhile cB).all cB=true:=List.all_takeWhile;have Qr:=@Cj cB (l.drop a);have OH:=@yw cB (l.drop a);generalize hW:(l.drop a).takeWhile cB=W at *;have Uc:a+W.length≤l.length:=by simp at t1;omega
      refine T.cut (fun s=>s=⟨[(8,I ((a+W.length:Nat))),(7,.ai 1 0),(6,I a),(5,.bw 0 0 k),(0,cW l)],[(0,jX cs),(1,⟨159,0,[.int .i64 0,.str ⟨#[]⟩,.int .i64 0,I a]⟩)],2⟩) ?_ ?_
      ·apply T.block;refine T.aI (fun n s=>∃ j:Nat,n=W.length-j∧j≤W.length∧s=⟨[(8,I ((a+j:Nat))),(7,.ai 1 0),(6,I a),(5,.bw 0 0 k),(0,cW l)],[(0,jX cs),(1,⟨159,0,[.int .i64 0,.str ⟨#[]⟩,.int .i64 0,I a]⟩)],2⟩) (n:=W.length) ?_ ?_
       ·refine aa.trim [8,7,6,5,0] [0,1] 2 Nc yA ⟨0,by omega,by omega,?_⟩;simp[cW]
       ·rintro n s ⟨j,rfl,KZ,rfl⟩;obtain⟨e,he⟩:∃ e,a+j=e:=⟨_,rfl⟩;rw[he];by_cases hj:j<W.length
        ·obtain⟨c2,Lb,mw⟩:=Qr hj;rw[List.getElem?_drop,he] at Lb;have KJ:=jN Lb;have Kb:e<l.length:=(List.getElem?_eq_some_iff.1 Lb).1;have hw:=cm ((e:Int)+1) yA yA;have L0:=kf c2;rw[mw] at L0;apply aL;simp[hC,cW,Kb,KJ];refine TL.bG JT rfl rfl rfl rfl (bm.of rfl JV (L0)) (TL.go' af ?_);simp[hC];refine gF ?_;simp;apply T.block;apply a8;simp[hC,hw];refine⟨W.length-(j+1),by omega,?_⟩;refine aa.trim [8,7,6,5,0] [0,1] 2 Nc yA ⟨j+1,rfl,by omega,?_⟩;simp;omega
        ·have PJ:j=W.length:=by omega
         by_cases Kb:e<l.length
         ·obtain⟨c2,Lb⟩:∃ c,l[e]? = some c:=⟨l[e],List.getElem?_eq_getElem Kb⟩;have mw:cB c2=false:=OH (by rw[List.getElem?_drop,← PJ,he];exact Lb);have KJ:=jN Lb;have L0:=kf c2;rw[mw] at L0;apply aL;simp[hC,cW,Kb,KJ];refine TL.bG JT rfl rfl rfl rfl (bm.of rfl JV (L0)) (TL.go' af ?_);simp[hC];refine aU ?_;simp;apply T.exit;simp;refine aa.trim [8,7,6,5,0] [0,1] 2 Nc yA ?_;simp;omega
         ·apply aL;simp[hC,cW,Kb];refine aU ?_;simp;apply T.exit;simp;refine aa.trim [8,7,6,5,0] [0,1] 2 Nc yA ?_;simp;omega
      ·rintro s rfl;obtain⟨e,he⟩:∃ e,a+W.length=e:=⟨_,rfl⟩;rw[he] at Of ⊢;have k1:a≤e:=by omega
       have k2:e≤l.length:=by omega
       have k3:e-a=W.length:=by omega
       have KV:List.take W.length (List.drop a (l.map fun x=>CV.int .u8 (x.toNat:Int)))=W.map fun x=>CV.int .u8 (x.toNat:Int):=by
        rw[← List.map_drop,← List.map_take,t3]
       have S9:=sD W yA Kg UR;have P7:¬ ((jK W:Int)<0):=by omega
       apply ah;simp[hC,cW,k1,k2,KV,k3];simp only[cW] at S9;refine dk JV (S9) ?_;simp[hC];apply ah;simp[hC,P7];refine aU ?_;simp;apply T.skip;simp;refine aa.trim [8,7,6,5,0] [0,1] 2 Nc yA ⟨2,jK W,e,Of,by omega,k2,?_⟩;simp
     ·have h2:cB c=false:=by simpa using h
      obtain⟨PC,Of⟩:0<qk (l.drop a)∧Lx ((l.drop a).drop (qk (l.drop a))) m':=by
       rcases MC with h | h | h
       ·rw[h1] at h;simp at h
       ·rw[h2] at h;simp at h
       ·exact⟨h.2.2.2.1,h.2.2.2.2⟩
      have Rx:=E4 l a JS yA;have Sc:a+qk (l.drop a)≤l.length:=by
       have h2:=Hj (l.drop a);rw[List.length_drop] at h2;omega
      rw[List.drop_drop] at Of;generalize qk (l.drop a)=g at Rx PC Of Sc;have Yk:=cm ((a:Int)+g) yA yA;have YT:¬ (a:Int)+g=a:=by omega
      simp only[cW] at Rx;refine T.le (Le.trim [8,7,6,5,0] [0,1] 2 Nc yA) ?_;simp;apply ah;simp[hC];refine dk JV (Rx) ?_;simp[hC,Yk];apply ah;simp[hC];apply ah;simp[hC];refine T.aX rfl (fun h=>?_) (fun h=>?_)
      ·simp at h;omega
      apply T.skip;simp;refine aa.trim [8,7,6,5,0] [0,1] 2 Nc yA ⟨4,0,a+g,Of,by omega,Sc,?_⟩;simp[cW]
   ·rintro s ⟨kind,num,e,W4,hae,Kb,rfl⟩;have k1:a≤e:=by omega
    have k3:e-a≤l.length-a:=by omega
    have QN:¬ (k:Int)=4000:=by omega
    apply aL;simp[hC];refine T.aX rfl (fun h=>?_) (fun h=>?_)
    ·simp at h;omega
    apply T.skip;simp;have KV:List.take (e-a) (List.drop a (l.map fun x=>CV.int .u8 (x.toNat:Int)))=((l.drop a).take (e-a)).map fun x=>CV.int .u8 (x.toNat:Int):=by
     rw[← List.map_drop,← List.map_take]
    have KX:min (e-a) (l.length-a)=e-a:=by omega
    have T9:=lK ((l.drop a).take (e-a));have Uc:((l.drop a).take (e-a)).length=e-a:=by simp;omega
    generalize (l.drop a).take (e-a)=W at KV T9 Uc;have U1:=zB l e Kb yA (fun r hr=>by
     have:=W4.skip;rw[List.drop_drop] at this;exact Lx.ncm this r hr)
    refine T.seq (T.yh af ?_);simp[hC,cW,k1,Kb,KV,T9,Uc];have hb:(k+1)*40≤140737488355328:=by omega
    have JX:(jX cs).sz=4:=rfl;have Nw:(jX cs).elem=159:=rfl;have MB:(jX cs).cells.length=k*4:=JY;apply a8;simp[hC,hb,JX,Nw,MB,aS];simp only[cW] at U1;have LK:=W4.skip;rw[List.drop_drop] at LK;have Sb:∀ c,(l.drop (e+oM (l.drop e))).head? = some c→gD c=false:=fun c hc=>by
     rw[← List.drop_drop] at hc;exact vW hc
    have SD:e+oM (l.drop e)≤l.length:=by
     have:=(vN (p:=gD) (l.drop e)).1;rw[List.length_drop] at this;unfold oM;omega
    obtain⟨a2,Tl⟩:∃ a2,e+oM (l.drop e)=a2:=⟨_,rfl⟩;rw[Tl] at U1 LK Sb SD;have hea:e≤a2:=by omega
    apply a8;simp[hC];refine dk JV (U1) ?_;simp[hC];refine⟨l.length-a2,by omega,?_⟩;have OG:trees ((jX cs).cells++[CV.int .i64 kind,.str ⟨W.toArray⟩,.int .i64 num,I a])=true:=by rw[bu];simp only[jX,Lr];rfl
    refine aa.le (Le.trim [6,5,0] [3] 4 (by simp[-List.all_append,aj OG]) yA) ?_;simp;refine aa.le (Le.mq 3 0 rfl rfl yA JM JM (by simp[-List.all_append,aY OG])) ?_;simp[-List.map_append,aM OG];refine aa.trim [6,5,0] [0] 1 (by simp[-List.all_append,aj OG]) yA ⟨a2,(jX cs).cells++[CV.int .i64 kind,.str ⟨W.toArray⟩,.int .i64 num,I a],k+1,m',rfl,SD,by omega,LK,Sb,?_,OG,?_⟩
    ·simp[MB];omega
    ·simp[cW,jX]
end Go.Proofs.YtkkdkhbhamhfgaaGreatDoor
