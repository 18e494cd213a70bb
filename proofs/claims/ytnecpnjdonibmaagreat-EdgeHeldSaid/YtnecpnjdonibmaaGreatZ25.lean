/- Reserved, Name, skip, number, sign. -/
import Derived.Test.YtnecpnjdonibmaaGreatZ24
namespace Go.Proofs.YtnecpnjdonibmaaGreat
open Go.Can Go.aP
def MA:List ByteArray:=[⟨#[118,97,114]⟩,⟨#[109,117,116,101,120]⟩,⟨#[114,109,117,116,101,120]⟩,⟨#[102,117,110,99]⟩,⟨#[108,111,99,107]⟩,⟨#[117,110,108,111,99,107]⟩,⟨#[103,111]⟩,⟨#[105,102]⟩,⟨#[101,108,115,101]⟩,⟨#[119,104,105,108,101]⟩,⟨#[114,101,116,117,114,110]⟩]
theorem Kd:MA.map bs=rV:=rfl
theorem NH {a b:ByteArray}(h:bs a=bs b):a=b:=by
 unfold bs at h;exact ByteArray.ext (Array.toList_inj.1 h)
theorem IA (s:ByteArray):hasB MA s=decide (bs s∈rV):=by
 rw[Bool.eq_iff_iff,decide_eq_true_eq,← Kd];unfold hasB;rw[List.any_eq_true,List.mem_map];constructor
 ·rintro⟨x,h1,h2⟩;exact⟨x,h1,by rw[of_decide_eq_true h2]⟩
 ·rintro⟨x,h1,h2⟩;exact⟨x,h1,by rw[NH h2];simp⟩
theorem sM (s:ByteArray):af Tryz.prog 212 [.str s] (.bool (decide (bs s∈rV))):=by
 refine af.aK ai Tryz.func212 rfl OV (by simp[Tryz.ntmps212]) rfl fun C hC O0=>?_;rw[Tryz.ntmps212] at hC;apply aq;simp[hC];apply aq;simp[hC];refine TL.le (Le.dp (o:=0) rfl rfl) ?_;simp[cH];have h:=zy MA s Pb;rw[IA] at h;refine dz Pc (h) ?_;simp[hC];apply T.ret;apply ae.here;simp[Tryz.results212]
def dF (l:List UInt8):CV:=.aA (l.map fun x=>.int .u8 (x.toNat:Int)) l.length
theorem lB {l:List UInt8}{i:Nat}{c:UInt8}(h:l[i]? = some c):(l.map fun x=>CV.int .u8 (x.toNat:Int)).drop i=.int .u8 (c.toNat:Int)::(l.map fun x=>CV.int .u8 (x.toNat:Int)).drop (i+1):=by
 obtain⟨h1,h2⟩:=List.getElem?_eq_some_iff.1 h;rw[List.drop_eq_getElem_cons (by simpa using h1)];simp[h2]
theorem KN (c:UInt8):iJ c=((c.toNat:Int) == 32 || (c.toNat:Int) == 9 || (c.toNat:Int) == 10 || (c.toNat:Int) == 13):=by
 have h:∀ k:UInt8,(c == k)=((c.toNat:Int) == (k.toNat:Int)):=fun k=>by
  rw[Bool.eq_iff_iff,beq_iff_eq,beq_iff_eq];constructor
  ·intro h;rw[h]
  ·intro h;exact UInt8.toNat_inj.1 yA
 simp only[iJ,h];rfl
theorem Hj {c:UInt8}{r:List UInt8}:rk (c::r)=if iJ c=true then rk r+1 else 0:=by
 unfold rk;rw[List.takeWhile_cons];split<;>simp
theorem ic {l:List UInt8}{i:Nat}{c:UInt8}(h:l[i]? = some c):l.drop i=c::l.drop (i+1):=by
 obtain⟨h1,h2⟩:=List.getElem?_eq_some_iff.1 h;rw[List.drop_eq_getElem_cons h1,h2]
theorem DI (l:List UInt8)(Vz:Nat)(P8:Vz≤l.length)(hl:l.length≤1000000)(Ul:∀ r,l.drop (Vz+rk (l.drop Vz))=47::r→r.head?≠some 47):af Tryz.prog 209 [dF l,I Vz] (I ((Vz+rk (l.drop Vz):Nat))):=by
 obtain⟨e,he⟩:∃ e,Vz+rk (l.drop Vz)=e:=⟨_,rfl⟩;rw[he] at Ul ⊢;refine af.aK ai Tryz.func209 rfl OV (by simp[Tryz.ntmps209]) rfl fun C hC O0=>?_;rw[Tryz.ntmps209] at hC;apply aq;simp[hC];apply ed;refine T.aH (fun m st=>∃ i:Nat,m=l.length-i∧i≤l.length∧i+rk (l.drop i)=e∧st=⟨[(0,dF l),(1,I i)],[],0⟩) (n:=l.length-Vz) ?_ ?_
 ·refine ae.le (Le.env [0,1]) (ae.here ⟨Vz,rfl,P8,he,?_⟩);simp
 ·rintro n st ⟨i,rfl,hi,O6,rfl⟩;by_cases OX:i<l.length
  ·obtain⟨c,hc⟩:∃ c,l[i]? = some c:=⟨l[i],List.getElem?_eq_getElem OX⟩;have OZ:=lB hc;have hd:=ic hc;rw[hd,Hj] at O6;have hw:=cC ((i:Int)+1) yA yA;apply aO;simp[hC,dF,OX];refine fB ?_;simp;refine T.block (T.block ?_);refine T.cut (fun st=>st=⟨[(10,.bool (iJ c)),(0,dF l),(1,I i)],[],0⟩) ?_ ?_
   ·rw[KN];generalize (c.toNat:Int)=n at OZ;by_cases h1:n=32
    ·apply aV;simp[hC,h1,OX,OZ];refine ae.le (Le.env [10,0,1]) (ae.here ?_);simp[dF]
    have h1:(n == 32)=false:=by simp[h1]
    by_cases h2:n=9
    ·apply aV;simp[hC,h2,OX,OZ];refine ae.le (Le.env [10,0,1]) (ae.here ?_);simp[dF]
    have h2:(n == 9)=false:=by simp[h2]
    by_cases h3:n=10
    ·apply aV;simp[hC,h3,OX,OZ];refine ae.le (Le.env [10,0,1]) (ae.here ?_);simp[dF]
    have h3:(n == 10)=false:=by simp[h3]
    apply aV;simp[hC,h1,h2,h3,OX,OZ];refine ae.le (Le.env [10,0,1]) (ae.here ?_);simp[dF]
   ·rintro st rfl;refine T.bh rfl (fun h=>?_) (fun h=>?_)
    ·rw[h,if_pos rfl] at O6;apply aV;simp[hC,hw];refine⟨l.length-(i+1),by omega,?_⟩;refine ae.le (Le.env [0,1]) (ae.here ⟨i+1,rfl,by omega,by omega,?_⟩);simp[dF]
    ·have h':iJ c=false:=by simpa using h
     rw[h',if_neg OU] at O6;have SK:e=i:=by omega
     subst SK;rw[hd] at Ul
          /- no comment -/
     refine T.cut (fun st=>st=⟨[(39,.bool false),(0,dF l),(1,I e)],[],0⟩) ?_ ?_
     ·by_cases h2:e+1<l.length
      ·obtain⟨c2,QR⟩:∃ c2,l[e+1]? = some c2:=⟨l[e+1],List.getElem?_eq_getElem h2⟩;have PY:=lB QR;have Ti:=ic QR;have So:(e:Int)+1<l.length:=by omega
       by_cases h4:(c.toNat:Int)=47
       ·have h5:¬ (c2.toNat:Int)=47:=by
         have hc47:c=47:=UInt8.toNat_inj.1 (by have:(47:UInt8).toNat=47:=rfl;omega);subst hc47;have Ul:=Ul _ rfl;rw[Ti] at Ul;have:c2≠47:=fun h=>Ul (by simp[h]);intro h;exact this (UInt8.toNat_inj.1 (by have:(47:UInt8).toNat=47:=rfl;omega))
        apply aV;simp[hC,h4,OX,OZ,hw,So,PY,dF];refine ae.le (Le.env [39,0,1]) (ae.here ?_);simp[h5]
       ·have h4:((c.toNat:Int) == 47)=false:=by simp[h4]
        apply aV;simp[hC,h4,OX,OZ,hw,So,dF];refine ae.le (Le.env [39,0,1]) (ae.here ?_);simp
      ·have So:¬ (e:Int)+1<l.length:=by omega
       apply aV;simp[hC,hw,So,dF];refine ae.le (Le.env [39,0,1]) (ae.here ?_);simp
     ·rintro st rfl;refine a7 ?_;simp;apply aq;simp[hC];apply T.ret;apply ae.here;simp[Tryz.results209]
  ·have hie':i=l.length:=by omega
   have Tz:e=i:=by
    rw[hie',List.drop_length] at O6;have:rk ([]:List UInt8)=0:=rfl;omega
   apply aO;simp[hC,dF,OX];refine a7 ?_;simp;apply T.exit;simp;apply aq;simp[hC];apply T.ret;apply ae.here;simp[Tryz.results209,Tz]
theorem sA (w:List UInt8)(c:UInt8):ly (w++[c])=10*ly w+(c.toNat-48):=by simp[ly]
theorem KV (w:List UInt8)(r:List UInt8):ly w≤ly (w++r):=by
 induction r generalizing w with
 | nil=>simp
 | cons c r ih=>
  have h1:=ih (w++[c]);rw[sA] at h1;rw[List.append_assoc] at h1;have:ly w≤10*ly w+(c.toNat-48):=by omega
  exact Nat.le_trans this h1
theorem wV (l:List UInt8)(hl:l.length≤1000000)(hd:l.all da=true)(hv:ly l<9223372036854775808):af Tryz.prog 213 [dF l] (I (ly l)):=by
 refine af.aK ai Tryz.func213 rfl OV (by simp[Tryz.ntmps213]) rfl fun C hC O0=>?_;rw[Tryz.ntmps213] at hC;apply aq;simp[hC];apply aq;simp[hC];apply aO;simp[hC];apply T.block;refine T.aH (fun m st=>∃ i:Nat,m=l.length-i∧i≤l.length∧st=⟨[(4,I i),(3,I (ly (l.take i))),(0,dF l)],[],0⟩) (n:=l.length) ?_ ?_
 ·refine ae.le (Le.env [4,3,0]) (ae.here ⟨0,by omega,by omega,?_⟩);simp[ly]
 ·rintro n st ⟨i,rfl,hi,rfl⟩;by_cases OX:i<l.length
  ·obtain⟨c,hc⟩:∃ c,l[i]? = some c:=⟨l[i],List.getElem?_eq_getElem OX⟩;have OZ:=lB hc;have Pd:l.take (i+1)=l.take i++[c]:=by rw[List.take_add_one,hc];rfl
   have Vv:48≤c.toNat∧c.toNat≤57:=by
    have:=List.all_eq_true.1 hd c (List.mem_of_getElem? hc)
    simpa [da] using this
   have hle:=KV (l.take (i+1)) (l.drop (i+1));rw[List.take_append_drop,Pd,sA] at hle;have hw:=cC ((i:Int)+1) yA yA;generalize hdv:ly (l.take i)=d at hle;have w1:IntKind.u8.wrap ((c.toNat:Int)-48)=(c.toNat:Int)-48:=IntWalk.u8_in _ yA;have w2:=cC ((c.toNat:Int)-48) yA yA;have w3:=cC (9223372036854775807-((c.toNat:Int)-48)) yA yA;have w4:(9223372036854775807-((c.toNat:Int)-48)).tdiv 10=(9223372036854775807-((c.toNat:Int)-48)) / 10:=Int.tdiv_eq_ediv_of_nonneg yA;have w5:=cC ((9223372036854775807-((c.toNat:Int)-48)) / 10) yA yA;have w6:=cC (10*(d:Int)) yA yA;have w7:=cC (10*(d:Int)+((c.toNat:Int)-48)) yA yA;have w8:¬ (9223372036854775807-((c.toNat:Int)-48)) / 10<(d:Int):=by omega
   apply aO;simp[hC,dF,OX];refine fB ?_;simp;apply ed;refine T.seq (T.BZ ai ?_);simp[hC,OX,OZ,w1,w2];apply aO;simp[hC,w3,w4,w5];refine T.bh rfl (fun h=>?_) (fun h=>?_)
   ·simp at h;omega
   apply T.skip;simp;apply aV;simp[hC,w6,w7];apply aV;simp[hC,hw];refine⟨l.length-(i+1),by omega,?_⟩;refine ae.le (Le.env [4,3,0]) (ae.here ⟨i+1,rfl,by omega,?_⟩);rw[Pd,sA,hdv];simp;omega
  ·have O6:i=l.length:=by omega
   apply aO;simp[hC,dF,OX];refine a7 ?_;simp;apply T.exit;simp;apply aq;simp[hC];apply T.ret;apply ae.here;simp[Tryz.results213,O6]
def Mk:List ByteArray:=[⟨#[60,61]⟩,⟨#[62,61]⟩,⟨#[61,61]⟩,⟨#[33,61]⟩,⟨#[38,38]⟩,⟨#[124,124]⟩]
def Kr:List ByteArray:=[⟨#[40]⟩,⟨#[41]⟩,⟨#[123]⟩,⟨#[125]⟩,⟨#[91]⟩,⟨#[93]⟩,⟨#[44]⟩,⟨#[59]⟩,⟨#[61]⟩,⟨#[43]⟩,⟨#[45]⟩,⟨#[42]⟩,⟨#[47]⟩,⟨#[37]⟩,⟨#[60]⟩,⟨#[62]⟩,⟨#[33]⟩]
theorem Iz (a b:UInt8):hasB Mk ⟨#[a,b]⟩=decide ((a,b)∈rH):=by
 rw[Bool.eq_iff_iff,decide_eq_true_eq];simp only[hasB,Mk,rH,List.any_cons,List.any_nil,Bool.or_eq_true,decide_eq_true_eq,ByteArray.mk.injEq,List.mem_cons,List.not_mem_nil,Prod.mk.injEq,Bool.false_eq_true];simp only[Array.mk.injEq,List.cons.injEq,and_true];constructor
 ·rintro (⟨rfl,rfl⟩ | ⟨rfl,rfl⟩ | ⟨rfl,rfl⟩ | ⟨rfl,rfl⟩ | ⟨rfl,rfl⟩ | ⟨rfl,rfl⟩ | h)<;>first | exact h.elim | simp
 ·rintro (⟨rfl,rfl⟩ | ⟨rfl,rfl⟩ | ⟨rfl,rfl⟩ | ⟨rfl,rfl⟩ | ⟨rfl,rfl⟩ | ⟨rfl,rfl⟩ | h)<;>first | exact h.elim | simp
theorem Bh (a:UInt8):hasB Kr ⟨#[a]⟩=decide (a∈me):=by
 rw[Bool.eq_iff_iff,decide_eq_true_eq];simp only[hasB,Kr,me,List.any_cons,List.any_nil,Bool.or_eq_true,decide_eq_true_eq,ByteArray.mk.injEq,List.mem_cons,List.not_mem_nil,Bool.false_eq_true];simp only[Array.mk.injEq,List.cons.injEq,and_true];simp only[eq_comm]
theorem JU (c:UInt8):(c.toNat:Int)<256:=by
 have:=c.toNat_lt;omega
theorem oe:∀ l:List UInt8,bytesOf (l.map fun x=>CV.int .u8 (x.toNat:Int))=some l
 | []=>rfl
 | c::r=>by
  have h:=JU c;simp[bytesOf,oe r,h]
theorem J4 (l:List UInt8)(i:Nat)(OX:i<l.length)(hl:l.length≤1000000):af Tryz.prog 214 [dF l,I i] (I (uf (l.drop i))):=by
 obtain⟨c,hc⟩:∃ c,l[i]? = some c:=⟨l[i],List.getElem?_eq_getElem OX⟩;have OZ:=lB hc;have hd:=ic hc;have hw:=cC ((i:Int)+1) yA yA;have Yx:=cC ((i:Int)+2) yA yA;rw[hd];refine af.aK ai Tryz.func214 rfl OV (by simp[Tryz.ntmps214]) rfl fun C hC O0=>?_;rw[Tryz.ntmps214] at hC;apply aq;simp[hC];by_cases h2:i+1<l.length
 ·obtain⟨c2,QR⟩:∃ c2,l[i+1]? = some c2:=⟨l[i+1],List.getElem?_eq_getElem h2⟩;have PY:=lB QR;have Ti:=ic QR;rw[Ti];have So:(i:Int)+1<l.length:=by omega
  have h3:i+2≤l.length:=by omega
  have z2:(0:Int)≤(i:Int)+2:=by omega
  have t2:((i:Int)+2).toNat=i+2:=by omega
  have e2:i+2-i=2:=by omega
  refine T.seq (T.seq (T.BZ ai ?_));simp[hC,dF,hw,Yx,So,h3,OZ,PY,z2,t2,e2,JU];refine TL.le (Le.dp (o:=0) rfl rfl) ?_;simp[cH];have h:=zy Mk ⟨#[c,c2]⟩ Pb;rw[Iz] at h;refine TL.cm O5 rfl rfl rfl rfl (bN.of rfl Pc (h)) (TL.go' ai ?_);simp[hC];refine T.bh rfl (fun h=>?_) (fun h=>?_)
  ·have h4:(c,c2)∈rH:=by simpa using h
   apply aq;simp[hC];apply T.ret;apply ae.here;simp[Tryz.results214,uf,h4]
  ·have h4:(c,c2)∉rH:=by simpa using h
   apply T.skip;simp;have hs:uf (c::c2::l.drop (i+1+1))=if c∈me then 1 else 0:=by simp[uf,h4]
   rw[hs];clear hs;refine T.le (Le.trim [0,1,4] [] 0 OU yA) ?_;simp;have h1:i+1≤l.length:=by omega
   have z1:(0:Int)≤(i:Int)+1:=by omega
   have t1:((i:Int)+1).toNat=i+1:=by omega
   have e1:i+1-i=1:=by omega
   refine T.seq (T.seq (T.BZ ai ?_));simp[hC,hw,h1,z1,t1,e1,OZ,JU];refine TL.le (Le.dp (o:=0) rfl rfl) ?_;simp[cH];have h:=zy Kr ⟨#[c]⟩ Pb;rw[Bh] at h;refine dz Pc (h) ?_;simp;refine T.bh rfl (fun h=>?_) (fun h=>?_)
   ·have h5:c∈me:=by simpa using h
    apply aq;simp[hC];apply T.ret;apply ae.here;simp[Tryz.results214,h5]
   ·have h5:c∉me:=by simpa using h
    apply T.skip;simp;apply aq;simp[hC];apply T.ret;apply ae.here;simp[Tryz.results214,h5]
 ·have So:¬ (i:Int)+1<l.length:=by omega
  have Ti:l.drop (i+1)=[]:=List.drop_eq_nil_of_le yA;rw[Ti];have hs:uf [c]=if c∈me then 1 else 0:=rfl
  rw[hs];clear hs;refine T.seq (T.seq (T.BZ ai ?_));simp[hC,dF,hw,So];refine a7 ?_;simp;apply T.skip;simp;refine T.le (Le.trim [0,1,4] [] 0 OU yA) ?_;simp;have h1:i+1≤l.length:=by omega
  have z1:(0:Int)≤(i:Int)+1:=by omega
  have t1:((i:Int)+1).toNat=i+1:=by omega
  have e1:i+1-i=1:=by omega
  refine T.seq (T.seq (T.BZ ai ?_));simp[hC,hw,h1,z1,t1,e1,OZ,JU];refine TL.le (Le.dp (o:=0) rfl rfl) ?_;simp[cH];have h:=zy Kr ⟨#[c]⟩ Pb;rw[Bh] at h;refine dz Pc (h) ?_;simp;refine T.bh rfl (fun h=>?_) (fun h=>?_)
  ·have h5:c∈me:=by simpa using h
   apply aq;simp[hC];apply T.ret;apply ae.here;simp[Tryz.results214,h5]
  ·have h5:c∉me:=by simpa using h
   apply T.skip;simp;apply aq;simp[hC];apply T.ret;apply ae.here;simp[Tryz.results214,h5]
theorem NJ (s:ByteArray)(i:Nat):s[i]? = (bs s)[i]?:=by
 by_cases h:i<s.size
 ·rw[getElem?_pos s i h,List.getElem?_eq_getElem (by simpa [bs] using h)];simp[bs];rfl
 ·rw[getElem?_neg s i h,List.getElem?_eq_none (by simpa [bs] using h)]
theorem lC (s:ByteArray):(bs s).length=s.size:=by simp[bs]
theorem jL (s:ByteArray)(h:dn s)(hr:bs s∉rV):af Tryz.prog 200 [.str s] (.bool true):=by
 obtain⟨⟨c0,t0,hc0,Uf⟩,h1,h2⟩:=h;have O9:=lC s;have Rh:1≤s.size:=by rw[← O9,hc0];simp
 refine af.aK ai Tryz.func200 rfl OV (by simp[Tryz.ntmps200]) rfl fun C hC O0=>?_;rw[Tryz.ntmps200] at hC;apply aq;simp[hC];apply aO;simp[hC];apply T.block;refine T.aH (fun m st=>∃ i:Nat,m=s.size-i∧i≤s.size∧st=⟨[(3,I i),(0,.str s)],[],0⟩) (n:=s.size) ?_ ?_
 ·refine ae.le (Le.env [3,0]) (ae.here ⟨0,by omega,by omega,?_⟩);simp
 ·rintro n st ⟨i,rfl,hi,rfl⟩;by_cases OX:i<s.size
  ·obtain⟨c,hc⟩:∃ c,(bs s)[i]? = some c:=⟨(bs s)[i],List.getElem?_eq_getElem yA⟩;have hg:s[i]? = some c:=by rw[NJ];exact hc
   have Zm:fK c=true:=List.all_eq_true.1 h1 c (List.mem_of_getElem? hc);have hw:=cC ((i:Int)+1) yA yA;apply aO;simp[hC,OX];refine fB ?_;simp;apply ed;refine T.cut (fun st=>st=⟨[(25,.bool false),(3,I i),(0,.str s)],[],0⟩) ?_ ?_
   ·have SU:s[i]=c:=by
     have:=hg;rw[getElem?_pos s i OX] at this
     simpa using this
    cases O1:isLet c with
    | true=>
     have O7:=lP c;rw[O1] at O7;apply aV;simp[hC,OX,SU];refine dz Pc (O7) ?_;simp[hC];refine ae.le (Le.env [25,3,0]) (ae.here ?_);simp
    | false=>
     have O7:=lP c;rw[O1] at O7;have hdg:da c=true:=by simpa [fK,O1] using Zm
     have Vv:=lZ c;rw[hdg] at Vv;have Ui:¬ i=0:=by
      intro h;subst h;rw[hc0] at hc;simp only[List.getElem?_cons_zero,Option.some.injEq] at hc;subst hc;rw[Uf] at O1;cases O1
     apply aV;simp[hC,OX,SU];refine dz Pc (O7) ?_;simp[hC,Ui,OX,SU];refine TL.cm O5 rfl rfl rfl rfl (bN.of rfl Pc (Vv)) (TL.go' ai ?_);simp[hC];refine ae.le (Le.env [25,3,0]) (ae.here ?_);simp
   ·rintro st rfl;refine a7 ?_;simp;apply T.skip;simp;apply aV;simp[hC,hw];refine⟨s.size-(i+1),by omega,?_⟩;refine ae.le (Le.env [3,0]) (ae.here ⟨i+1,rfl,by omega,?_⟩);simp
  ·apply aO;simp[hC,OX];refine a7 ?_;simp;apply T.exit;simp;have g1:(1:Int)≤s.size:=by omega
   have g2:(s.size:Int)≤16:=by omega
   have Ra:=sM s;simp only[hr,decide_false] at Ra;apply aq;simp[hC,g1,g2];refine TL.cm O5 rfl rfl rfl rfl (bN.of rfl Pc (Ra)) (TL.go' ai ?_);simp[hC];apply T.ret;apply ae.here;simp[Tryz.results200]
theorem G2 {p:UInt8→Bool}:∀ {L:List UInt8} {j:Nat},j<(L.takeWhile p).length→∃ c,L[j]? = some c∧p c=true
 | [],j,h=>by simp at h
 | a::r,j,h=>by
  cases ha:p a with
  | false=>rw[List.takeWhile_cons,ha] at h;simp at h
  | true=>
   cases j with
   | zero=>exact⟨a,rfl,ha⟩
   | succ j=>
    rw[List.takeWhile_cons,ha] at h;simp only[if_true,List.length_cons] at h;obtain⟨c,h1,h2⟩:=G2 (p:=p) (L:=r) (j:=j) yA;exact⟨c,by simpa using h1,h2⟩
theorem Cb {p:UInt8→Bool}:∀ {L:List UInt8} {c:UInt8},L[(L.takeWhile p).length]? = some c→p c=false
 | [],c,h=>by simp at h
 | a::r,c,h=>by
  cases ha:p a with
  | false=>
   rw[List.takeWhile_cons,ha] at h;simp at h;subst h;exact ha
  | true=>
   rw[List.takeWhile_cons,ha] at h;simp only[if_true,List.length_cons,List.getElem?_cons_succ] at h;exact Cb (L:=r) h
theorem Ah {p:UInt8→Bool}:∀ L:List UInt8,(L.takeWhile p).length≤L.length∧L.dropWhile p=L.drop (L.takeWhile p).length∧L.take (L.takeWhile p).length=L.takeWhile p
 | []=>⟨Nat.le_refl _,rfl,rfl⟩
 | a::r=>by
  cases ha:p a with
  | false=>simp[ha]
  | true=>
   obtain⟨h1,h2,h3⟩:=Ah (p:=p) r;simp[ha,h2,h3];exact h1
theorem Lx.ncm {l:List UInt8}{n:Nat}(h:Lx l n):∀ r,l=47::r→r.head?≠some 47:=by
 rintro r rfl;obtain⟨m,_,h1 | h1 | h1⟩:=Lx.inv h Pb
 ·exact absurd h1.1 Pb
 ·exact absurd h1.2.1 Pb
 ·exact h1.2.2.1 rfl
theorem Mq:∀ L:List UInt8,uf L≤L.length
 | []=>Nat.le_refl _
 | [a]=>by
  simp only[uf];split<;>simp
 | a::b::r=>by
  simp only[uf,List.length_cons];split
  ·omega
  ·split<;>omega
def LexG (r:CV):Prop:=∃ (cs:List CV) (n:Nat) (e:Nat),r=.dS [.aA cs n,I e,.int .i64 0]
def lJ (cs:List CV):Ob:=⟨234,4,cs⟩
def J66 (l:List UInt8)(n:Nat)(s:St):Prop:=∃ (a:Nat) (cs:List CV) (k m:Nat),n=l.length-a∧a≤l.length∧k+m≤4000∧Lx (l.drop a) m∧(∀ c,(l.drop a).head? = some c→iJ c=false)∧cs.length=k*4∧trees cs=true∧
 s=⟨[(6,I a),(5,.bl 0 0 k),(0,dF l)],[(0,lJ cs)],1⟩
set_option maxHeartbeats 4000000 in
theorem M9 (l:List UInt8)(hl:l.length≤262144)(hx:Lx l 4000):l9 Tryz.prog 158 [dF l] LexG:=by
 refine l9.jA ai Tryz.func158 rfl OV (by simp[Tryz.ntmps158]) fun C hC O0=>?_;rw[Tryz.ntmps158] at hC;apply aq;simp[hC];have Qj:¬ (262144:Int)<l.length:=by omega
 apply aO;simp[hC,dF,Qj];refine a7 ?_;simp;apply T.skip;simp;apply aq;simp[hC];have R5:=DI l 0 (Nat.zero_le _) yA (fun r hr=>by
  have:=hx.skip;simp only[List.drop_zero,Nat.zero_add] at hr this;exact Lx.ncm this r hr)
 simp only[List.drop_zero,Nat.zero_add] at R5;have XS:=hx.skip;have VH:∀ c,(l.drop (rk l)).head? = some c→iJ c=false:=fun c hc=>At hc;have Zd:rk l≤l.length:=by
  unfold rk;exact (Ah (p:=iJ) l).1
 generalize rk l=a0 at R5 XS VH Zd;apply aq;simp[hC];refine dz Pc (R5) ?_;simp[hC];apply T.block;refine T.aH (J66 l) (n:=l.length-a0) ?_ ?_
 ·refine ae.le (Le.own 5 234 4 rfl) ?_;simp;refine ae.trim [6,5,0] [0] 1 OU yA ⟨a0,[],0,4000,rfl,Zd,by omega,XS,VH,rfl,rfl,?_⟩;simp[dF,lJ]
 ·rintro n st ⟨a,cs,k,m,rfl,Q2,SG,hxa,hsp,O7,QU,rfl⟩;apply ed;by_cases RT:a=l.length
  ·apply aO;simp[hC,dF,RT];refine fE ?_;simp;have hb:(k+1)*40≤140737488355328:=by omega
   have O9:(lJ cs).sz=4:=rfl;have PH:(lJ cs).elem=234:=rfl;have Sf:(lJ cs).cells.length=k*4:=O7;apply aq;simp[hC,hb,O9,PH,Sf,bb];apply T.ret;have htr2:trees ((lJ cs).cells++[CV.int .i64 5,.str ⟨#[]⟩,.int .i64 0,.int .i64 l.length])=true:=by rw[bC];simp only[lJ,QU];rfl
   refine ae.le (Le.dp (o:=2) rfl htr2) ?_;simp[cH];refine ae.here ⟨_,rfl,rfl,_,_,_,rfl⟩
  ·have O1:a<l.length:=by omega
   have Pf:¬ (a:Int)=l.length:=by omega
   obtain⟨c,hc⟩:∃ c,l[a]? = some c:=⟨l[a],List.getElem?_eq_getElem O1⟩;have OZ:=lB hc;have hd:=ic hc;rw[hd] at hxa hsp;have PE:=hsp c rfl;obtain⟨m',rfl,Sg⟩:=Lx.inv hxa PE;rw[← hd] at Sg;apply aO;simp[hC,dF,RT];refine a7 ?_;simp;apply T.skip;simp;apply aq;simp[hC];apply aq;simp[hC];refine T.le (Le.trim [8,7,6,5,0] [0,1] 2 SO yA) ?_;simp;refine T.cut (fun s=>∃ (kind num:Int) (e:Nat),Lx (l.drop e) m'∧a<e∧e≤l.length∧s=⟨[(8,I e),(7,.ax 1 0),(6,I a),(5,.bl 0 0 k),(0,dF l)],[(0,lJ cs),(1,⟨234,0,[.int .i64 kind,.str ⟨#[]⟩,.int .i64 num,I a]⟩)],2⟩) ?_ ?_
   ·apply T.block;apply aq;simp[hC,O1,OZ];refine dz Pc (lP c) ?_;simp[hC];refine T.bh rfl (fun h=>?_) (fun h=>?_)
    ·have h1:isLet c=true:=by simpa using h
     obtain⟨_,hw16,Ua⟩:isLet c=true∧(((l.drop a).takeWhile fK).length≤16∨(l.drop a).takeWhile fK∈rV)∧Lx ((l.drop a).dropWhile fK) m':=by
      rcases Sg with h | h | h
      ·exact h
      ·rw[h1] at h;simp at h
      ·rw[h1] at h;simp at h
     obtain⟨t1,t2,t3⟩:=Ah (p:=fK) (l.drop a);rw[t2,List.drop_drop] at Ua;have Yw:0<((l.drop a).takeWhile fK).length:=by
      rw[hd,List.takeWhile_cons];simp[fK,h1]
     have WQ:=@G2 fK (l.drop a);have UA:=@Cb fK (l.drop a);generalize hW:(l.drop a).takeWhile fK=W at *;have hWl:a+W.length≤l.length:=by simp at t1;omega
     refine T.cut (fun s=>s=⟨[(8,I ((a+W.length:Nat))),(7,.ax 1 0),(6,I a),(5,.bl 0 0 k),(0,dF l)],[(0,lJ cs),(1,⟨234,0,[.int .i64 0,.str ⟨#[]⟩,.int .i64 0,I a]⟩)],2⟩) ?_ ?_
     ·apply T.block;refine T.aH (fun n s=>∃ j:Nat,n=W.length-j∧j≤W.length∧s=⟨[(8,I ((a+j:Nat))),(7,.ax 1 0),(6,I a),(5,.bl 0 0 k),(0,dF l)],[(0,lJ cs),(1,⟨234,0,[.int .i64 0,.str ⟨#[]⟩,.int .i64 0,I a]⟩)],2⟩) (n:=W.length) ?_ ?_
      ·refine ae.trim [8,7,6,5,0] [0,1] 2 SO yA ⟨0,by omega,by omega,?_⟩;simp[dF]
      ·rintro n s ⟨j,rfl,Pn,rfl⟩;obtain⟨e,he⟩:∃ e,a+j=e:=⟨_,rfl⟩;rw[he];by_cases hj:j<W.length
       ·obtain⟨c2,QR,dY⟩:=WQ hj;rw[List.getElem?_drop,he] at QR;have PY:=lB QR;have PH:e<l.length:=(List.getElem?_eq_some_iff.1 QR).1;have hw:=cC ((e:Int)+1) yA yA;have Se:=lP c2;have Rz:=lZ c2
        cases R7:isLet c2 with
        | true=>
         rw[R7] at Se;apply aO;simp[hC,dF,PH,PY];refine TL.cm O5 rfl rfl rfl rfl (bN.of rfl Pc (Se)) (TL.go' ai ?_);simp[hC];refine fB ?_;simp;apply T.block;apply aV;simp[hC,hw];refine⟨W.length-(j+1),by omega,?_⟩;refine ae.trim [8,7,6,5,0] [0,1] 2 SO yA ⟨j+1,rfl,by omega,?_⟩;simp;omega
        | false=>
         rw[R7] at Se;have hdg2:da c2=true:=by simpa [fK,R7] using dY
         rw[hdg2] at Rz;apply aO;simp[hC,dF,PH,PY];refine TL.cm O5 rfl rfl rfl rfl (bN.of rfl Pc (Se)) (TL.go' ai ?_);simp[hC,PH,PY];refine TL.cm O5 rfl rfl rfl rfl (bN.of rfl Pc (Rz)) (TL.go' ai ?_);simp[hC];refine fB ?_;simp;apply T.block;apply aV;simp[hC,hw];refine⟨W.length-(j+1),by omega,?_⟩;refine ae.trim [8,7,6,5,0] [0,1] 2 SO yA ⟨j+1,rfl,by omega,?_⟩;simp;omega
       ·have Qh:j=W.length:=by omega
        by_cases PH:e<l.length
        ·obtain⟨c2,QR⟩:∃ c,l[e]? = some c:=⟨l[e],List.getElem?_eq_getElem PH⟩;have dY:fK c2=false:=UA (by rw[List.getElem?_drop,← Qh,he];exact QR);have PY:=lB QR;have Se:=lP c2;have Rz:=lZ c2;have hp3:isLet c2=false∧da c2=false:=by simpa [fK] using dY
         rw[hp3.1] at Se;rw[hp3.2] at Rz;apply aO;simp[hC,dF,PH,PY];refine TL.cm O5 rfl rfl rfl rfl (bN.of rfl Pc (Se)) (TL.go' ai ?_);simp[hC,PH,PY];refine TL.cm O5 rfl rfl rfl rfl (bN.of rfl Pc (Rz)) (TL.go' ai ?_);simp[hC];refine a7 ?_;simp;apply T.exit;simp;refine ae.trim [8,7,6,5,0] [0,1] 2 SO yA ?_;simp;omega
        ·apply aO;simp[hC,dF,PH];refine a7 ?_;simp;apply T.exit;simp;refine ae.trim [8,7,6,5,0] [0,1] 2 SO yA ?_;simp;omega
     ·rintro s rfl;obtain⟨e,he⟩:∃ e,a+W.length=e:=⟨_,rfl⟩;rw[he] at Ua ⊢;have k1:a≤e:=by omega
      have k2:e≤l.length:=by omega
      have k3:e-a=W.length:=by omega
      have Qd:List.take W.length (List.drop a (l.map fun x=>CV.int .u8 (x.toNat:Int)))=W.map fun x=>CV.int .u8 (x.toNat:Int):=by
       rw[← List.map_drop,← List.map_take,t3]
      have TV:min W.length (l.length-a)=W.length:=by omega
      have hbW:=oe W;have hWe:bs ⟨W.toArray⟩=W:=bs_mk W;apply aq;simp[hC];have Ra:=sM ⟨W.toArray⟩;rw[hWe] at Ra;have wk:IntKind.i64.wrap ((e:Int)-a)=(W.length:Int):=by rw[cC _ yA yA];omega
      refine T.seq (T.BZ ai ?_);simp[hC,dF,k1,k2,Qd,hbW,k3];refine dz Pc (Ra) ?_;simp;refine T.bh rfl (fun h=>?_) (fun h=>?_)
      ·apply aV;simp[hC];refine ae.trim [8,7,6,5,0] [0,1] 2 SO yA ⟨3,0,e,Ua,by omega,k2,?_⟩;simp
      ·have hnr:W∉rV:=by simpa using h
       have h16:W.length≤16:=hw16.resolve_right hnr;have h16':¬ (16:Int)<W.length:=by omega
       apply aq;simp[hC,wk,h16'];refine a7 ?_;simp;apply T.skip;simp;refine ae.trim [8,7,6,5,0] [0,1] 2 SO yA ⟨1,0,e,Ua,by omega,k2,?_⟩;simp
    ·have h1:isLet c=false:=by simpa using h
     refine T.le (Le.trim [8,7,6,5,0] [0,1] 2 SO yA) ?_;simp;apply aq;simp[hC,O1,OZ];refine dz Pc (lZ c) ?_;simp[hC];refine T.bh rfl (fun h=>?_) (fun h=>?_)
     ·have h2:da c=true:=by simpa using h
      obtain⟨_,_,TM,Ua⟩:isLet c=false∧da c=true∧ly ((l.drop a).takeWhile da)<9223372036854775808∧Lx ((l.drop a).dropWhile da) m':=by
       rcases Sg with h | h | h
       ·rw[h1] at h;simp at h
       ·exact h
       ·rw[h2] at h;simp at h
      obtain⟨t1,t2,t3⟩:=Ah (p:=da) (l.drop a);rw[t2,List.drop_drop] at Ua;have Yw:0<((l.drop a).takeWhile da).length:=by
       rw[hd,List.takeWhile_cons];simp[h2]
      have Pt:((l.drop a).takeWhile da).all da=true:=List.all_takeWhile;have WQ:=@G2 da (l.drop a);have UA:=@Cb da (l.drop a);generalize hW:(l.drop a).takeWhile da=W at *;have hWl:a+W.length≤l.length:=by simp at t1;omega
      refine T.cut (fun s=>s=⟨[(8,I ((a+W.length:Nat))),(7,.ax 1 0),(6,I a),(5,.bl 0 0 k),(0,dF l)],[(0,lJ cs),(1,⟨234,0,[.int .i64 0,.str ⟨#[]⟩,.int .i64 0,I a]⟩)],2⟩) ?_ ?_
      ·apply T.block;refine T.aH (fun n s=>∃ j:Nat,n=W.length-j∧j≤W.length∧s=⟨[(8,I ((a+j:Nat))),(7,.ax 1 0),(6,I a),(5,.bl 0 0 k),(0,dF l)],[(0,lJ cs),(1,⟨234,0,[.int .i64 0,.str ⟨#[]⟩,.int .i64 0,I a]⟩)],2⟩) (n:=W.length) ?_ ?_
       ·refine ae.trim [8,7,6,5,0] [0,1] 2 SO yA ⟨0,by omega,by omega,?_⟩;simp[dF]
       ·rintro n s ⟨j,rfl,Pn,rfl⟩;obtain⟨e,he⟩:∃ e,a+j=e:=⟨_,rfl⟩;rw[he];by_cases hj:j<W.length
        ·obtain⟨c2,QR,dY⟩:=WQ hj;rw[List.getElem?_drop,he] at QR;have PY:=lB QR;have PH:e<l.length:=(List.getElem?_eq_some_iff.1 QR).1;have hw:=cC ((e:Int)+1) yA yA;have Rz:=lZ c2;rw[dY] at Rz;apply aO;simp[hC,dF,PH,PY];refine TL.cm O5 rfl rfl rfl rfl (bN.of rfl Pc (Rz)) (TL.go' ai ?_);simp[hC];refine fB ?_;simp;apply T.block;apply aV;simp[hC,hw];refine⟨W.length-(j+1),by omega,?_⟩;refine ae.trim [8,7,6,5,0] [0,1] 2 SO yA ⟨j+1,rfl,by omega,?_⟩;simp;omega
        ·have Qh:j=W.length:=by omega
         by_cases PH:e<l.length
         ·obtain⟨c2,QR⟩:∃ c,l[e]? = some c:=⟨l[e],List.getElem?_eq_getElem PH⟩;have dY:da c2=false:=UA (by rw[List.getElem?_drop,← Qh,he];exact QR);have PY:=lB QR;have Rz:=lZ c2;rw[dY] at Rz;apply aO;simp[hC,dF,PH,PY];refine TL.cm O5 rfl rfl rfl rfl (bN.of rfl Pc (Rz)) (TL.go' ai ?_);simp[hC];refine a7 ?_;simp;apply T.exit;simp;refine ae.trim [8,7,6,5,0] [0,1] 2 SO yA ?_;simp;omega
         ·apply aO;simp[hC,dF,PH];refine a7 ?_;simp;apply T.exit;simp;refine ae.trim [8,7,6,5,0] [0,1] 2 SO yA ?_;simp;omega
      ·rintro s rfl;obtain⟨e,he⟩:∃ e,a+W.length=e:=⟨_,rfl⟩;rw[he] at Ua ⊢;have k1:a≤e:=by omega
       have k2:e≤l.length:=by omega
       have k3:e-a=W.length:=by omega
       have Qd:List.take W.length (List.drop a (l.map fun x=>CV.int .u8 (x.toNat:Int)))=W.map fun x=>CV.int .u8 (x.toNat:Int):=by
        rw[← List.map_drop,← List.map_take,t3]
       have ZC:=wV W yA Pt TM;have Vq:¬ ((ly W:Int)<0):=by omega
       apply aq;simp[hC,dF,k1,k2,Qd,k3];simp only[dF] at ZC;refine dz Pc (ZC) ?_;simp[hC];apply aq;simp[hC,Vq];refine a7 ?_;simp;apply T.skip;simp;refine ae.trim [8,7,6,5,0] [0,1] 2 SO yA ⟨2,ly W,e,Ua,by omega,k2,?_⟩;simp
     ·have h2:da c=false:=by simpa using h
      obtain⟨VH,Ua⟩:0<uf (l.drop a)∧Lx ((l.drop a).drop (uf (l.drop a))) m':=by
       rcases Sg with h | h | h
       ·rw[h1] at h;simp at h
       ·rw[h2] at h;simp at h
       ·exact⟨h.2.2.2.1,h.2.2.2.2⟩
      have X4:=J4 l a O1 yA;have YJ:a+uf (l.drop a)≤l.length:=by
       have h2:=Mq (l.drop a);rw[List.length_drop] at h2;omega
      rw[List.drop_drop] at Ua;generalize uf (l.drop a)=g at X4 VH Ua YJ;have hwg:=cC ((a:Int)+g) yA yA;have VM:¬ (a:Int)+g=a:=by omega
      simp only[dF] at X4;refine T.le (Le.trim [8,7,6,5,0] [0,1] 2 SO yA) ?_;simp;apply aq;simp[hC];refine dz Pc (X4) ?_;simp[hC,hwg];apply aq;simp[hC];apply aq;simp[hC];refine T.bh rfl (fun h=>?_) (fun h=>?_)
      ·simp at h;omega
      apply T.skip;simp;refine ae.trim [8,7,6,5,0] [0,1] 2 SO yA ⟨4,0,a+g,Ua,by omega,YJ,?_⟩;simp[dF]
   ·rintro s ⟨kind,num,e,hxe,hae,PH,rfl⟩;have k1:a≤e:=by omega
    have k3:e-a≤l.length-a:=by omega
    have hk4:¬ (k:Int)=4000:=by omega
    apply aO;simp[hC];refine T.bh rfl (fun h=>?_) (fun h=>?_)
    ·simp at h;omega
    apply T.skip;simp;have Qd:List.take (e-a) (List.drop a (l.map fun x=>CV.int .u8 (x.toNat:Int)))=((l.drop a).take (e-a)).map fun x=>CV.int .u8 (x.toNat:Int):=by
     rw[← List.map_drop,← List.map_take]
    have TV:min (e-a) (l.length-a)=e-a:=by omega
    have hbW:=oe ((l.drop a).take (e-a));have hWl:((l.drop a).take (e-a)).length=e-a:=by simp;omega
    generalize (l.drop a).take (e-a)=W at Qd hbW hWl;have VI:=DI l e PH yA (fun r hr=>by
     have:=hxe.skip;rw[List.drop_drop] at this;exact Lx.ncm this r hr)
    refine T.seq (T.BZ ai ?_);simp[hC,dF,k1,PH,Qd,hbW,hWl];have hb:(k+1)*40≤140737488355328:=by omega
    have O9:(lJ cs).sz=4:=rfl;have Xp:(lJ cs).elem=234:=rfl;have Sf:(lJ cs).cells.length=k*4:=O7;apply aV;simp[hC,hb,O9,Xp,Sf,bb];simp only[dF] at VI;have RI:=hxe.skip;rw[List.drop_drop] at RI;have YI:∀ c,(l.drop (e+rk (l.drop e))).head? = some c→iJ c=false:=fun c hc=>by
     rw[← List.drop_drop] at hc;exact At hc
    have Zc:e+rk (l.drop e)≤l.length:=by
     have:=(Ah (p:=iJ) (l.drop e)).1;rw[List.length_drop] at this;unfold rk;omega
    obtain⟨a2,ZK⟩:∃ a2,e+rk (l.drop e)=a2:=⟨_,rfl⟩;rw[ZK] at VI RI YI Zc;have hea:e≤a2:=by omega
    apply aV;simp[hC];refine dz Pc (VI) ?_;simp[hC];refine⟨l.length-a2,by omega,?_⟩;have Uz:trees ((lJ cs).cells++[CV.int .i64 kind,.str ⟨W.toArray⟩,.int .i64 num,I a])=true:=by rw[bC];simp only[lJ,QU];rfl
    refine ae.le (Le.trim [6,5,0] [3] 4 (by simp[-List.all_append,ah Uz]) yA) ?_;simp;refine ae.le (Le.oX 3 0 rfl rfl yA OU OU (by simp[-List.all_append,bj Uz])) ?_;simp[-List.map_append,aZ Uz];refine ae.trim [6,5,0] [0] 1 (by simp[-List.all_append,ah Uz]) yA ⟨a2,(lJ cs).cells++[CV.int .i64 kind,.str ⟨W.toArray⟩,.int .i64 num,I a],k+1,m',rfl,Zc,by omega,RI,YI,?_,Uz,?_⟩
    ·simp[Sf];omega
    ·simp[dF,lJ]
end Go.Proofs.YtnecpnjdonibmaaGreat
namespace Go.Can
open Go.RowKit
def HI (ak:List (Nat×TI))(nt:Nat)(ops:Array Oper):List Nat→St→Option St
 | [],s=>some s
 | i::r,s=>match ops[i]? with
  | none=>none
  | some o=>match bq ak nt ops s o with
   | some s'=>HI ak nt ops r s'
   | none=>none
section
variable {P:Program}{C:Cx}{s:St}{ak:List (Nat×TI)}{ops:Array Oper}{call:gv}
theorem DM {nt:Nat}{K:St→Prop}:∀ (l:List Nat) (s s':St),HI ak nt ops l s=some s'→K s'→TH P ak nt ops l s K
 | [],s,s',h,hk=>by
  simp only[HI] at h;cases h;exact hk
 | i::r,s,s',h,hk=>by
  simp only[HI] at h;split at h
  ·cases h
  ·rename_i o ho;split at h
   ·rename_i s1 h1;obtain⟨x,k1,k2⟩:=Bg (P:=P) h1;exact⟨o,x,ho,k1,by rw[k2];exact DM r s1 s' h hk⟩
   ·cases h
end
end Go.Can
