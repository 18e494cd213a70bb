/- Name; Lex accepts what is -/
import Derived.Test.YtlkmbdfhdknlgaaGreatZ20
import Derived.Maps.Keyed
import Derived.WideKeyPair
import Derived.Laws.StructEq
namespace Go.Proofs.YtlkmbdfhdknlgaaGreat
open Go.Can Go.aJ List
theorem QC (s:ByteArray)(i:Nat):s[i]? = (bs s)[i]?:=by
 by_cases h:i<s.size
 ·rw[getElem?_pos s i h,getElem?_eq_getElem (by simpa [bs] using h)];simp[bs];rfl
 ·rw[getElem?_neg s i h,getElem?_eq_none (by simpa [bs] using h)]
theorem me (s:ByteArray):(bs s).length=s.size:=by simp[bs]
theorem jU (s:ByteArray)(h:dF s)(hr:bs s∉ua):ae Tryz.prog 126 [.str s] (.bool true):=by
 obtain⟨⟨c0,t0,hc0,UY⟩,h1,h2⟩:=h;have R0:=me s;have U6:1<=s.size:=by rw[<- R0,hc0];simp
 refine ae.aE ah Tryz.func126 rfl Ix (by simp[Tryz.ntmps126]) rfl λ C hC RR=>?_;rw[Tryz.ntmps126] at hC;apply aq;simp[hC];apply aW;simp[hC];apply T.block;refine T.aH (λ m st=>∃ i:Nat,m=s.size-i/\i<=s.size/\st=⟨[(3,I i),(0,.str s)],[],0⟩) (n:=s.size) ?_ ?_
 ·refine aa.le (Le.env [3,0]) (aa.here ⟨0,by omega,by omega,?_⟩);simp
 ·rintro n st ⟨i,rfl,hi,rfl⟩;by_cases Og:i<s.size
  ·obtain⟨c,hc⟩:∃ c,(bs s)[i]? = some c:=⟨(bs s)[i],getElem?_eq_getElem yA⟩;have hg:s[i]? = some c:=by rw[QC];exact hc
   have hid:gf c=true:=all_eq_true.1 h1 c (mem_of_getElem? hc);have hw:=cF ((i:Int)+1) yA yA;apply aW;simp[hC,Og];refine gw ?_;simp;apply eN;refine T.cut (λ st=>st=⟨[(25,.bool false),(3,I i),(0,.str s)],[],0⟩) ?_ ?_
   ·have Yn:s[i]=c:=by
     have:=hg;rw[getElem?_pos s i Og] at this
     simpa using this
    cases RS:isLet c with
    | true=>
     have RY:=mC c;rw[RS] at RY;apply aN;simp[hC,Og,Yn];refine cX R2 (RY) ?_;simp[hC];refine aa.le (Le.env [25,3,0]) (aa.here ?_);simp
    | false=>
     have RY:=mC c;rw[RS] at RY;have hdg:dr c=true:=by simpa [gf,RS] using hid
     have YX:=mN c;rw[hdg] at YX;have Ym:¬ i=0:=by
      intro h;subst h;rw[hc0] at hc;simp only[getElem?_cons_zero,Option.some.injEq] at hc;subst hc;rw[UY] at RS;cases RS
     apply aN;simp[hC,Og,Yn];refine cX R2 (RY) ?_;simp[hC,Ym,Og,Yn];refine TL.cM RT rfl rfl rfl rfl (bU.of rfl R2 (YX)) (TL.go' ah ?_);simp[hC];refine aa.le (Le.env [25,3,0]) (aa.here ?_);simp
   ·rintro st rfl;refine a9 ?_;simp;apply T.skip;simp;apply aN;simp[hC,hw];refine⟨s.size-(i+1),by omega,?_⟩;refine aa.le (Le.env [3,0]) (aa.here ⟨i+1,rfl,by omega,?_⟩);simp
  ·apply aW;simp[hC,Og];refine a9 ?_;simp;apply T.exit;simp;have g1:(1:Int)<=s.size:=by omega
   have g2:(s.size:Int)<=16:=by omega
   have Uq:=uQ s;simp only[hr,decide_false] at Uq;apply aq;simp[hC,g1,g2];refine TL.cM RT rfl rfl rfl rfl (bU.of rfl R2 (Uq)) (TL.go' ah ?_);simp[hC];apply T.ret;apply aa.here;simp[Tryz.results126]
theorem IV {p:UInt8->Bool}:∀ {L:List UInt8} {j:Nat},j<(L.takeWhile p).length->∃ c,L[j]? = some c/\p c=true
 | [],j,h=>by simp at h
 | a::r,j,h=>by
  cases ha:p a with
  | false=>rw[takeWhile_cons,ha] at h;simp at h
  | true=>
   cases j with
   | zero=>exact⟨a,rfl,ha⟩
   | succ j=>
    rw[takeWhile_cons,ha] at h;simp only[if_true,length_cons] at h;obtain⟨c,h1,h2⟩:=IV (p:=p) (L:=r) (j:=j) yA;exact⟨c,by simpa using h1,h2⟩
theorem D2 {p:UInt8->Bool}:∀ {L:List UInt8} {c:UInt8},L[(L.takeWhile p).length]? = some c->p c=false
 | [],c,h=>by simp at h
 | a::r,c,h=>by
  cases ha:p a with
  | false=>
   rw[takeWhile_cons,ha] at h;simp at h;subst h;exact ha
  | true=>
   rw[takeWhile_cons,ha] at h;simp only[if_true,length_cons,getElem?_cons_succ] at h;exact D2 (L:=r) h
theorem BL {p:UInt8->Bool}:∀ L:List UInt8,(L.takeWhile p).length<=L.length/\L.dropWhile p=L.drop (L.takeWhile p).length/\L.take (L.takeWhile p).length=L.takeWhile p
 | []=>⟨Nat.le_refl _,rfl,rfl⟩
 | a::r=>by
  cases ha:p a with
  | false=>simp[ha]
  | true=>
   obtain⟨h1,h2,h3⟩:=BL (p:=p) r;simp[ha,h2,h3];exact h1
theorem Lx.ncm {l:List UInt8}{n:Nat}(h:Lx l n):∀ r,l=47::r->r.head?≠some 47:=by
 rintro r rfl;obtain⟨m,_,h1 | h1 | h1⟩:=Lx.inv h R1
 ·exact absurd h1.1 R1
 ·exact absurd h1.2.1 R1
 ·exact h1.2.2.1 rfl
theorem Pd:∀ L:List UInt8,vG L<=L.length
 | []=>Nat.le_refl _
 | [a]=>by
  simp only[vG];split<;>simp
 | a::b::r=>by
  simp only[vG,length_cons];split
  ·omega
  ·split<;>omega
def LexG (r:CV):Prop:=∃ (cs:List CV) (n:Nat) (e:Nat),r=.cB [.ax cs n,I e,.int .i64 0]
def mq (cs:List CV):Ob:=⟨190,4,cs⟩
def J66 (l:List UInt8)(n:Nat)(s:St):Prop:=∃ (a:Nat) (cs:List CV) (k m:Nat),n=l.length-a/\a<=l.length/\k+m<=4000/\Lx (l.drop a) m/\(∀ c,(l.drop a).head? = some c->ji c=false)/\cs.length=k*4/\trees cs=true/\
 s=⟨[(6,I a),(5,.bb 0 0 k),(0,dT l)],[(0,mq cs)],1⟩
set_option maxHeartbeats 4000000 in
theorem PY (l:List UInt8)(hl:l.length<=262144)(hx:Lx l 4000):n9 Tryz.prog 96 [dT l] LexG:=by
 refine n9.jv ah Tryz.func96 rfl Ix (by simp[Tryz.ntmps96]) λ C hC RR=>?_;rw[Tryz.ntmps96] at hC;apply aq;simp[hC];have S8:¬ (262144:Int)<l.length:=by omega
 apply aW;simp[hC,dT,S8];refine a9 ?_;simp;apply T.skip;simp;apply aq;simp[hC];have YE:=FK l 0 (Nat.zero_le _) yA (λ r hr=>by
  have:=hx.skip;simp only[drop_zero,Nat.zero_add] at hr this;exact Lx.ncm this r hr)
 simp only[drop_zero,Nat.zero_add] at YE;have ZN:=hx.skip;have YD:∀ c,(l.drop (sT l)).head? = some c->ji c=false:=λ c hc=>BU hc;have hle0:sT l<=l.length:=by
  unfold sT;exact (BL (p:=ji) l).1
 generalize sT l=a0 at YE ZN YD hle0;apply aq;simp[hC];refine cX R2 (YE) ?_;simp[hC];apply T.block;refine T.aH (J66 l) (n:=l.length-a0) ?_ ?_
 ·refine aa.le (Le.own 5 190 4 rfl) ?_;simp;refine aa.trim [6,5,0] [0] 1 xr yA ⟨a0,[],0,4000,rfl,hle0,by omega,ZN,YD,rfl,rfl,?_⟩;simp[dT,mq]
 ·rintro n st ⟨a,cs,k,m,rfl,WO,YM,Xw,hsp,RY,Sa,rfl⟩;apply eN;by_cases VW:a=l.length
  ·apply aW;simp[hC,dT,VW];refine dy ?_;simp;have hb:(k+1)*40<=140737488355328:=by omega
   have R0:(mq cs).sz=4:=rfl;have R7:(mq cs).elem=190:=rfl;have Vg:(mq cs).cells.length=k*4:=RY;apply aq;simp[hC,hb,R0,R7,Vg,aY];apply T.ret;have htr2:trees ((mq cs).cells++[CV.int .i64 5,.str ⟨#[]⟩,.int .i64 0,.int .i64 l.length])=true:=by rw[bg];simp only[mq,Sa];rfl
   refine aa.le (Le.dn (o:=2) rfl htr2) ?_;simp[cw];refine aa.here ⟨_,rfl,rfl,_,_,_,rfl⟩
  ·have RS:a<l.length:=by omega
   have Sb:¬ (a:Int)=l.length:=by omega
   obtain⟨c,hc⟩:∃ c,l[a]? = some c:=⟨l[a],getElem?_eq_getElem RS⟩;have Qd:=mc hc;have hd:=iI hc;rw[hd] at Xw hsp;have Sw:=hsp c rfl;obtain⟨m',rfl,Vh⟩:=Lx.inv Xw Sw;rw[<- hd] at Vh;apply aW;simp[hC,dT,VW];refine a9 ?_;simp;apply T.skip;simp;apply aq;simp[hC];apply aq;simp[hC];refine T.le (Le.trim [8,7,6,5,0] [0,1] 2 yB yA) ?_;simp;refine T.cut (λ s=>∃ (kind num:Int) (e:Nat),Lx (l.drop e) m'/\a<e/\e<=l.length/\s=⟨[(8,I e),(7,.aw 1 0),(6,I a),(5,.bb 0 0 k),(0,dT l)],[(0,mq cs),(1,⟨190,0,[.int .i64 kind,.str ⟨#[]⟩,.int .i64 num,I a]⟩)],2⟩) ?_ ?_
   ·apply T.block;apply aq;simp[hC,RS,Qd];refine cX R2 (mC c) ?_;simp[hC];refine T.bu rfl (λ h=>?_) (λ h=>?_)
    ·have h1:isLet c=true:=by simpa using h
     obtain⟨_,hw16,Xb⟩:isLet c=true/\(((l.drop a).takeWhile gf).length<=16\/(l.drop a).takeWhile gf∈ua)/\Lx ((l.drop a).dropWhile gf) m':=by
      rcases Vh with h | h | h
      ·exact h
      ·rw[h1] at h;simp at h
      ·rw[h1] at h;simp at h
     obtain⟨t1,t2,t3⟩:=BL (p:=gf) (l.drop a);rw[t2,drop_drop] at Xb;have hwpos:0<((l.drop a).takeWhile gf).length:=by
      rw[hd,takeWhile_cons];simp[gf,h1]
     have ZS:=@IV gf (l.drop a);have Xz:=@D2 gf (l.drop a);generalize hW:(l.drop a).takeWhile gf=W at *;have Vv:a+W.length<=l.length:=by simp at t1;omega
     refine T.cut (λ s=>s=⟨[(8,I ((a+W.length:Nat))),(7,.aw 1 0),(6,I a),(5,.bb 0 0 k),(0,dT l)],[(0,mq cs),(1,⟨190,0,[.int .i64 0,.str ⟨#[]⟩,.int .i64 0,I a]⟩)],2⟩) ?_ ?_
     ·apply T.block;refine T.aH (λ n s=>∃ j:Nat,n=W.length-j/\j<=W.length/\s=⟨[(8,I ((a+j:Nat))),(7,.aw 1 0),(6,I a),(5,.bb 0 0 k),(0,dT l)],[(0,mq cs),(1,⟨190,0,[.int .i64 0,.str ⟨#[]⟩,.int .i64 0,I a]⟩)],2⟩) (n:=W.length) ?_ ?_
      ·refine aa.trim [8,7,6,5,0] [0,1] 2 yB yA ⟨0,by omega,by omega,?_⟩;simp[dT]
      ·rintro n s ⟨j,rfl,Sv,rfl⟩;obtain⟨e,he⟩:∃ e,a+j=e:=⟨_,rfl⟩;rw[he];by_cases hj:j<W.length
       ·obtain⟨c2,To,iw⟩:=ZS hj;rw[getElem?_drop,he] at To;have Tt:=mc To;have R7:e<l.length:=(List.getElem?_eq_some_iff.1 To).1;have hw:=cF ((e:Int)+1) yA yA;have Vf:=mC c2;have UB:=mN c2
        cases T7:isLet c2 with
        | true=>
         rw[T7] at Vf;apply aW;simp[hC,dT,R7,Tt];refine TL.cM RT rfl rfl rfl rfl (bU.of rfl R2 (Vf)) (TL.go' ah ?_);simp[hC];refine gw ?_;simp;apply T.block;apply aN;simp[hC,hw];refine⟨W.length-(j+1),by omega,?_⟩;refine aa.trim [8,7,6,5,0] [0,1] 2 yB yA ⟨j+1,rfl,by omega,?_⟩;simp;omega
        | false=>
         rw[T7] at Vf;have hdg2:dr c2=true:=by simpa [gf,T7] using iw
         rw[hdg2] at UB;apply aW;simp[hC,dT,R7,Tt];refine TL.cM RT rfl rfl rfl rfl (bU.of rfl R2 (Vf)) (TL.go' ah ?_);simp[hC,R7,Tt];refine TL.cM RT rfl rfl rfl rfl (bU.of rfl R2 (UB)) (TL.go' ah ?_);simp[hC];refine gw ?_;simp;apply T.block;apply aN;simp[hC,hw];refine⟨W.length-(j+1),by omega,?_⟩;refine aa.trim [8,7,6,5,0] [0,1] 2 yB yA ⟨j+1,rfl,by omega,?_⟩;simp;omega
       ·have U0:j=W.length:=by omega
        by_cases R7:e<l.length
        ·obtain⟨c2,To⟩:∃ c,l[e]? = some c:=⟨l[e],getElem?_eq_getElem R7⟩;have iw:gf c2=false:=Xz (by rw[getElem?_drop,<- U0,he];exact To);have Tt:=mc To;have Vf:=mC c2;have UB:=mN c2;have HS:isLet c2=false/\dr c2=false:=by simpa [gf] using iw
         rw[HS.1] at Vf;rw[HS.2] at UB;apply aW;simp[hC,dT,R7,Tt];refine TL.cM RT rfl rfl rfl rfl (bU.of rfl R2 (Vf)) (TL.go' ah ?_);simp[hC,R7,Tt];refine TL.cM RT rfl rfl rfl rfl (bU.of rfl R2 (UB)) (TL.go' ah ?_);simp[hC];refine a9 ?_;simp;apply T.exit;simp;refine aa.trim [8,7,6,5,0] [0,1] 2 yB yA ?_;simp;omega
        ·apply aW;simp[hC,dT,R7];refine a9 ?_;simp;apply T.exit;simp;refine aa.trim [8,7,6,5,0] [0,1] 2 yB yA ?_;simp;omega
     ·rintro s rfl;obtain⟨e,he⟩:∃ e,a+W.length=e:=⟨_,rfl⟩;rw[he] at Xb |-;have k1:a<=e:=by omega
      have k2:e<=l.length:=by omega
      have k3:e-a=W.length:=by omega
      have Tq:take W.length (drop a (l.map λ x=>CV.int .u8 (x.toNat:Int)))=W.map λ x=>CV.int .u8 (x.toNat:Int):=by
       rw[<- map_drop,<- map_take,t3]
      have Va:min W.length (l.length-a)=W.length:=by omega
      have hbW:=pe W;have hWe:bs ⟨W.toArray⟩=W:=bs_mk W;apply aq;simp[hC];have Uq:=uQ ⟨W.toArray⟩;rw[hWe] at Uq;have wk:IntKind.i64.wrap ((e:Int)-a)=(W.length:Int):=by rw[cF _ yA yA];omega
      refine T.seq (T.DN ah ?_);simp[hC,dT,k1,k2,Tq,hbW,k3];refine cX R2 (Uq) ?_;simp;refine T.bu rfl (λ h=>?_) (λ h=>?_)
      ·apply aN;simp[hC];refine aa.trim [8,7,6,5,0] [0,1] 2 yB yA ⟨3,0,e,Xb,by omega,k2,?_⟩;simp
      ·have hnr:W∉ua:=by simpa using h
       have h16:W.length<=16:=hw16.resolve_right hnr;have h16':¬ (16:Int)<W.length:=by omega
       apply aq;simp[hC,wk,h16'];refine a9 ?_;simp;apply T.skip;simp;refine aa.trim [8,7,6,5,0] [0,1] 2 yB yA ⟨1,0,e,Xb,by omega,k2,?_⟩;simp
    ·have h1:isLet c=false:=by simpa using h
     refine T.le (Le.trim [8,7,6,5,0] [0,1] 2 yB yA) ?_;simp;apply aq;simp[hC,RS,Qd];refine cX R2 (mN c) ?_;simp[hC];refine T.bu rfl (λ h=>?_) (λ h=>?_)
     ·have h2:dr c=true:=by simpa using h
      obtain⟨_,_,hv63,Xb⟩:isLet c=false/\dr c=true/\l9 ((l.drop a).takeWhile dr)<9223372036854775808/\Lx ((l.drop a).dropWhile dr) m':=by
       rcases Vh with h | h | h
       ·rw[h1] at h;simp at h
       ·exact h
       ·rw[h2] at h;simp at h
      obtain⟨t1,t2,t3⟩:=BL (p:=dr) (l.drop a);rw[t2,drop_drop] at Xb;have hwpos:0<((l.drop a).takeWhile dr).length:=by
       rw[hd,takeWhile_cons];simp[h2]
      have Tn:((l.drop a).takeWhile dr).all dr=true:=all_takeWhile;have ZS:=@IV dr (l.drop a);have Xz:=@D2 dr (l.drop a);generalize hW:(l.drop a).takeWhile dr=W at *;have Vv:a+W.length<=l.length:=by simp at t1;omega
      refine T.cut (λ s=>s=⟨[(8,I ((a+W.length:Nat))),(7,.aw 1 0),(6,I a),(5,.bb 0 0 k),(0,dT l)],[(0,mq cs),(1,⟨190,0,[.int .i64 0,.str ⟨#[]⟩,.int .i64 0,I a]⟩)],2⟩) ?_ ?_
      ·apply T.block;refine T.aH (λ n s=>∃ j:Nat,n=W.length-j/\j<=W.length/\s=⟨[(8,I ((a+j:Nat))),(7,.aw 1 0),(6,I a),(5,.bb 0 0 k),(0,dT l)],[(0,mq cs),(1,⟨190,0,[.int .i64 0,.str ⟨#[]⟩,.int .i64 0,I a]⟩)],2⟩) (n:=W.length) ?_ ?_
       ·refine aa.trim [8,7,6,5,0] [0,1] 2 yB yA ⟨0,by omega,by omega,?_⟩;simp[dT]
       ·rintro n s ⟨j,rfl,Sv,rfl⟩;obtain⟨e,he⟩:∃ e,a+j=e:=⟨_,rfl⟩;rw[he];by_cases hj:j<W.length
        ·obtain⟨c2,To,iw⟩:=ZS hj;rw[getElem?_drop,he] at To;have Tt:=mc To;have R7:e<l.length:=(List.getElem?_eq_some_iff.1 To).1;have hw:=cF ((e:Int)+1) yA yA;have UB:=mN c2;rw[iw] at UB;apply aW;simp[hC,dT,R7,Tt];refine TL.cM RT rfl rfl rfl rfl (bU.of rfl R2 (UB)) (TL.go' ah ?_);simp[hC];refine gw ?_;simp;apply T.block;apply aN;simp[hC,hw];refine⟨W.length-(j+1),by omega,?_⟩;refine aa.trim [8,7,6,5,0] [0,1] 2 yB yA ⟨j+1,rfl,by omega,?_⟩;simp;omega
        ·have U0:j=W.length:=by omega
         by_cases R7:e<l.length
         ·obtain⟨c2,To⟩:∃ c,l[e]? = some c:=⟨l[e],getElem?_eq_getElem R7⟩;have iw:dr c2=false:=Xz (by rw[getElem?_drop,<- U0,he];exact To);have Tt:=mc To;have UB:=mN c2;rw[iw] at UB;apply aW;simp[hC,dT,R7,Tt];refine TL.cM RT rfl rfl rfl rfl (bU.of rfl R2 (UB)) (TL.go' ah ?_);simp[hC];refine a9 ?_;simp;apply T.exit;simp;refine aa.trim [8,7,6,5,0] [0,1] 2 yB yA ?_;simp;omega
         ·apply aW;simp[hC,dT,R7];refine a9 ?_;simp;apply T.exit;simp;refine aa.trim [8,7,6,5,0] [0,1] 2 yB yA ?_;simp;omega
      ·rintro s rfl;obtain⟨e,he⟩:∃ e,a+W.length=e:=⟨_,rfl⟩;rw[he] at Xb |-;have k1:a<=e:=by omega
       have k2:e<=l.length:=by omega
       have k3:e-a=W.length:=by omega
       have Tq:take W.length (drop a (l.map λ x=>CV.int .u8 (x.toNat:Int)))=W.map λ x=>CV.int .u8 (x.toNat:Int):=by
        rw[<- map_drop,<- map_take,t3]
       have hcn:=yo W yA Tn hv63;have Zm:¬ ((l9 W:Int)<0):=by omega
       apply aq;simp[hC,dT,k1,k2,Tq,k3];simp only[dT] at hcn;refine cX R2 (hcn) ?_;simp[hC];apply aq;simp[hC,Zm];refine a9 ?_;simp;apply T.skip;simp;refine aa.trim [8,7,6,5,0] [0,1] 2 yB yA ⟨2,l9 W,e,Xb,by omega,k2,?_⟩;simp
     ·have h2:dr c=false:=by simpa using h
      obtain⟨YD,Xb⟩:0<vG (l.drop a)/\Lx ((l.drop a).drop (vG (l.drop a))) m':=by
       rcases Vh with h | h | h
       ·rw[h1] at h;simp at h
       ·rw[h2] at h;simp at h
       ·exact⟨h.2.2.2.1,h.2.2.2.2⟩
      have hcg:=Mh l a RS yA;have hsle:a+vG (l.drop a)<=l.length:=by
       have h2:=Pd (l.drop a);rw[length_drop] at h2;omega
      rw[drop_drop] at Xb;generalize vG (l.drop a)=g at hcg YD Xb hsle;have hwg:=cF ((a:Int)+g) yA yA;have hne2:¬ (a:Int)+g=a:=by omega
      simp only[dT] at hcg;refine T.le (Le.trim [8,7,6,5,0] [0,1] 2 yB yA) ?_;simp;apply aq;simp[hC];refine cX R2 (hcg) ?_;simp[hC,hwg];apply aq;simp[hC];apply aq;simp[hC];refine T.bu rfl (λ h=>?_) (λ h=>?_)
      ·simp at h;omega
      apply T.skip;simp;refine aa.trim [8,7,6,5,0] [0,1] 2 yB yA ⟨4,0,a+g,Xb,by omega,hsle,?_⟩;simp[dT]
   ·rintro s ⟨kind,num,e,Wc,hae,R7,rfl⟩;have k1:a<=e:=by omega
    have k3:e-a<=l.length-a:=by omega
    have hk4:¬ (k:Int)=4000:=by omega
    apply aW;simp[hC];refine T.bu rfl (λ h=>?_) (λ h=>?_)
    ·simp at h;omega
    apply T.skip;simp;have Tq:take (e-a) (drop a (l.map λ x=>CV.int .u8 (x.toNat:Int)))=((l.drop a).take (e-a)).map λ x=>CV.int .u8 (x.toNat:Int):=by
     rw[<- map_drop,<- map_take]
    have Va:min (e-a) (l.length-a)=e-a:=by omega
    have hbW:=pe ((l.drop a).take (e-a));have Vv:((l.drop a).take (e-a)).length=e-a:=by simp;omega
    generalize (l.drop a).take (e-a)=W at Tq hbW Vv;have hsk:=FK l e R7 yA (λ r hr=>by
     have:=Wc.skip;rw[drop_drop] at this;exact Lx.ncm this r hr)
    refine T.seq (T.DN ah ?_);simp[hC,dT,k1,R7,Tq,hbW,Vv];have hb:(k+1)*40<=140737488355328:=by omega
    have R0:(mq cs).sz=4:=rfl;have T9:(mq cs).elem=190:=rfl;have Vg:(mq cs).cells.length=k*4:=RY;apply aN;simp[hC,hb,R0,T9,Vg,aY];simp only[dT] at hsk;have UG:=Wc.skip;rw[drop_drop] at UG;have hsp2:∀ c,(l.drop (e+sT (l.drop e))).head? = some c->ji c=false:=λ c hc=>by
     rw[<- drop_drop] at hc;exact BU hc
    have hle2:e+sT (l.drop e)<=l.length:=by
     have:=(BL (p:=ji) (l.drop e)).1;rw[length_drop] at this;unfold sT;omega
    obtain⟨a2,ha2⟩:∃ a2,e+sT (l.drop e)=a2:=⟨_,rfl⟩;rw[ha2] at hsk UG hsp2 hle2;have W4:e<=a2:=by omega
    apply aN;simp[hC];refine cX R2 (hsk) ?_;simp[hC];refine⟨l.length-a2,by omega,?_⟩;have Xy:trees ((mq cs).cells++[CV.int .i64 kind,.str ⟨W.toArray⟩,.int .i64 num,I a])=true:=by rw[bg];simp only[mq,Sa];rfl
    refine aa.le (Le.trim [6,5,0] [3] 4 (by simp[-all_append,ai Xy]) yA) ?_;simp;refine aa.le (Le.p7 3 0 rfl rfl yA xr xr (by simp[-all_append,bw Xy])) ?_;simp[-map_append,bl Xy];refine aa.trim [6,5,0] [0] 1 (by simp[-all_append,ai Xy]) yA ⟨a2,(mq cs).cells++[CV.int .i64 kind,.str ⟨W.toArray⟩,.int .i64 num,I a],k+1,m',rfl,hle2,by omega,UG,hsp2,?_,Xy,?_⟩
    ·simp[Vg];omega
    ·simp[dT,mq]
end Go.Proofs.YtlkmbdfhdknlgaaGreat
namespace Go.Can
open Go.RowKit List
def Bg:Value->Bool
 | .int _ _=>true
 | .bool _=>true
 | .string _=>true
 | _=>false
def GJ:Value->Bool
 | .agg cs=>cs.toList.all Bg
 | v=>Bg v
def BH:Value->Value->Bool
 | .int k a,.int j b=>decide (k=j) && a == b
 | .bool a,.bool b=>a == b
 | .string a,.string b=>a.data.toList == b.data.toList
 | _,_=>false
def vY:List Value->List Value->Bool
 | [],[]=>true
 | a::r,b::q=>BH a b && vY r q
 | _,_=>false
def Bv:Value->Value->Bool
 | .agg a,.agg b=>vY a.toList b.toList
 | a,b=>BH a b
theorem Fz {a b:Value}(h:BH a b=true):a=b:=by
 unfold BH at h;split at h
 ·simp only[Bool.and_eq_true,decide_eq_true_eq,beq_iff_eq] at h;rw[h.1,h.2]
 ·simp only[beq_iff_eq] at h;rw[h]
 ·rename_i a b;have h2:a.data=b.data:=Array.toList_inj.1 TK;rw[ByteArray.ext h2]
 ·cases h
theorem Fy:∀ (a b:List Value),vY a b=true->a=b
 | [],[],_=>rfl
 | [],_::_,h=>by simp[vY] at h
 | _::_,[],h=>by simp[vY] at h
 | a::r,b::q,h=>by
  simp only[vY,Bool.and_eq_true] at h;rw[Fz h.1,Fy r q h.2]
theorem sY {a b:Value}(h:Bv a b=true):a=b:=by
 unfold Bv at h;split at h
 ·rename_i a b;rw[Array.toList_inj.1 (Fy _ _ h)]
 ·exact Fz h
theorem yL {a:Value}(h:Bg a=true):BH a a=true:=by
 cases a<;>simp_all [Bg,BH]
theorem yJ:∀ (l:List Value),l.all Bg=true->vY l l=true
 | [],_=>rfl
 | a::r,h=>by
  simp only[all_cons,Bool.and_eq_true] at h;simp[vY,yL h.1,yJ r h.2]
theorem qY {a:Value}(h:GJ a=true):Bv a a=true:=by
 cases a<;>simp only[GJ,Bg,Bool.false_eq_true] at h<;>simp only[Bv]<;>first
  | exact yJ _ h
  | exact yL rfl
def yr (kv:Value):List (Value×Value)->Option Value
 | []=>none
 | (k,v)::r=>if Bv kv k=true then some v else yr kv r
def p9 (kv vv:Value):List (Value×Value)->List (Value×Value)
 | []=>[(kv,vv)]
 | (k,v)::r=>if Bv kv k=true then (kv,vv)::r else (k,v)::p9 kv vv r
theorem Cz {kv:Value}:∀ (es:List (Value×Value)) (v:Value),yr kv es=some v->(kv,v)∈es
 | [],_,h=>by simp[yr] at h
 | (k,u)::r,v,h=>by
  simp only[yr] at h;split at h
  ·rename_i e;rw[sY e];cases h;exact mem_cons_self
  ·exact mem_cons_of_mem _ (Cz r v h)
theorem zo {kv:Value}(hc:GJ kv=true):∀ (es:List (Value×Value)),(es.map (·.1)).Nodup->∀ v,(kv,v)∈es->yr kv es=some v
 | [],_,v,hx=>by cases hx
 | (k,u)::r,hn,v,hx=>by
  simp only[map_cons,nodup_cons] at hn;simp only[yr];rcases mem_cons.1 hx with e | hx
  ·cases e;rw[if_pos (qY hc)]
  ·rw[if_neg (λ e=>hn.1 (mem_map.2 ⟨(kv,v),hx,sY e⟩))];exact zo hc r hn.2 v hx
theorem zl {kv vv:Value}:∀ (es:List (Value×Value)) (x:Value×Value),x∈p9 kv vv es->x.1=kv\/x∈es
 | [],x,h=>by simp only[p9,mem_singleton] at h;exact .inl (by rw[h])
 | (k,u)::r,x,h=>by
  simp only[p9] at h;split at h
  ·rcases mem_cons.1 h with e | h
   ·exact .inl (by rw[e])
   ·exact .inr (mem_cons_of_mem _ h)
  ·rcases mem_cons.1 h with e | h
   ·exact .inr (by rw[e];exact mem_cons_self)
   ·rcases zl r x h with h | h
    ·exact .inl h
    ·exact .inr (mem_cons_of_mem _ h)
theorem xg {kv vv:Value}(hc:GJ kv=true):∀ (es:List (Value×Value)),(es.map (·.1)).Nodup->((p9 kv vv es).map (·.1)).Nodup
 | [],_=>by simp[p9]
 | (k,u)::r,hn=>by
  simp only[map_cons,nodup_cons] at hn;simp only[p9];split
  ·rename_i e;have:=sY e;subst this
   simpa using hn
  ·rename_i e;simp only[map_cons,nodup_cons];refine⟨λ hm=>?_,xg hc r hn.2⟩;obtain⟨x,hx,e2⟩:=mem_map.1 hm;rcases zl r x hx with h | h
   ·rw[h] at e2;subst e2;exact e (qY hc)
   ·exact hn.1 (mem_map.2 ⟨x,h,e2⟩)
def cv1:CV->Option Value
 | .int k n=>some (.int k n)
 | .bool b=>some (.bool b)
 | .str s=>some (.string s)
 | _=>none
def Qk:List CV->Option (List Value)
 | []=>some []
 | c::r=>match cv1 c,Qk r with
  | some v,some vs=>some (v::vs)
  | _,_=>none
def kP:CV->Option Value
 | .agg cs=>match Qk cs with
  | some vs=>some (.agg vs.toArray)
  | none=>none
 | c=>cv1 c
section
variable {P:Program}{C:Cx}{σ:Nat->Option OB}{s:St}{a:Act}{w:World}{ops:Array Oper}{av:List (Nat×TI)}
theorem K3 {F:Nat->Prop}{c:CV}{v u:Value}(h:cv1 c=some v)(hv:VR w F σ c u):u=v/\Bg v=true:=by
 cases c<;>simp only[cv1] at h<;>first | cases h | skip
 all_goals
  simp only[VR] at hv;exact⟨hv,rfl⟩
theorem K0 {F:Nat->Prop}:∀ (cs:List CV) (vs us:List Value),Qk cs=some vs->a6 w F σ cs us->us=vs/\vs.all Bg=true
 | [],vs,us,h,hv=>by
  simp only[Qk] at h;cases h;simp only[a6] at hv;exact⟨hv,rfl⟩
 | c::cs,vs,us,h,hv=>by
  simp only[Qk] at h;split at h
  ·rename_i v vs' h1 h2;cases h;simp only[a6] at hv;obtain⟨u,r,rfl,k1,k2⟩:=hv;obtain⟨q1,q2⟩:=K3 h1 k1;obtain⟨q3,q4⟩:=K0 cs vs' r h2 k2;exact⟨by rw[q1,q3],by simp[q2,q4]⟩
  ·cases h
theorem pb {F:Nat->Prop}{c:CV}{v u:Value}(h:kP c=some v)(hv:VR w F σ c u):u=v/\GJ v=true:=by
 unfold kP at h;split at h
 ·rename_i cs;split at h
  ·rename_i vs hvs;cases h;simp only[VR] at hv;obtain⟨us,rfl,hr,_⟩:=hv;obtain⟨q1,q2⟩:=K0 _ _ _ hvs hr;exact⟨by rw[q1],by simpa [GJ] using q2⟩
  ·cases h
 ·obtain⟨q1,q2⟩:=K3 h hv;refine⟨q1,?_⟩;cases v<;>simp_all [GJ,Bg]
structure QJ (P:Program)(t kt et:TypeId)(kb:Value->Bool)(zv:Value):Prop where
 Bw:P.underlying t=some (.map kt et)
 keyed:Go.Maps.Keyed P kt
 key:∀ v,kb v=true->∃ l,keyOf P kt v=some l
 zero:∃ f,P.info? et=some f/\f.zero=some zv
theorem HM {t kt et:TypeId}{kb:Value->Bool}{zv:Value}(M:QJ P t kt et kb zv){o:Oper}{x y:Operand}{k:Nat}{es:List (Value×Value)}{cy c:CV}{kv:Value}(hd:bm C.nt o.dst=true)(ho:o.op=.lookup t x y false)
  (hx:ev s x=some (.mp k es)) (hy:ev s y=some cy) (hk:kP cy=some kv) (hkb:kb kv=true) (hes:(es.all λ e=>kb e.1)=true)
  (hc:(match yr kv es with | some v=>gQ v | none=>gQ zv)=some c):qU P C o s (s.put o.dst c):=by
 rintro a w ⟨σ,h⟩;have hv:=bF h hx;simp only[VR] at hv;obtain⟨B,r,arr,clock,hB,hb,hv,hr,Uz,U9,hf⟩:=hv;obtain⟨hkv,YW⟩:=pb hk (bF h hy);obtain⟨l,hl⟩:=M.key kv hkb;have UZ:∀ e∈arr.toList,∃ l,keyOf P kt e.key=some l:=λ e he=>by
  have:(e.key,e.val)∈es:=by rw[<- Uz];exact mem_map.2 ⟨e,he,rfl⟩
  exact M.key _ (all_eq_true.1 hes _ this)
 have TW:(getObj r).run P w=.ok (.map arr clock) w:=by simp[getObj,Sem.run,hr]
 have X2:=M.keyed.check w arr.isEmpty hl;obtain⟨f,g1,g2⟩:=M.zero;have T5:∃ u,(Instr.lookup t (.map (some r)) kv false).run P w=.ok u w/\gQ u=some c:=by
  rcases M.keyed.find w hl arr.toList UZ with ⟨WH,SE⟩ | ⟨j,e,WH,SE,Vs⟩
  ·have SX:yr kv es=none:=by
    cases hm:yr kv es with
    | none=>rfl
    | some v=>
     exfalso;have:=Cz es v hm;rw[<- Uz] at this;obtain⟨e,he,e2⟩:=mem_map.1 this;simp only[Prod.mk.injEq] at e2;exact SE e he e2.1
   rw[SX] at hc;refine⟨zv,?_,hc⟩;have hzr:=iA (P:=P) g1 g2 w;simp[Instr.lookup,bz M.Bw,TW,X2,WH,hzr]
  ·have Tr:(kv,e.val)∈es:=by
    rw[<- Uz];exact mem_map.2 ⟨e,mem_of_getElem? SE,by rw[Vs]⟩
   rw[zo YW es U9 _ Tr] at hc;refine⟨e.val,?_,hc⟩;simp[Instr.lookup,bz M.Bw,TW,X2,WH]
 obtain⟨u,k1,k2⟩:=T5;refine⟨w,.inl ⟨u,?_,ec hd h (VR.cK _ _ (lF k2).1)⟩⟩;simp[execOp,ho,hv,hkv,k1]
def Km (k:Nat):CV->Bool
 | .mp k' _=>k' == k
 | _=>false
def isIt:CV->Bool
 | .iter _ _ _=>true
 | _=>false
def PW (k:Nat)(es:List (Value×Value)):List (Nat×CV)->List (Nat×CV)
 | []=>[]
 | (t,c)::r=>(t,if Km k c then .mp k es else c)::PW k es r
theorem zT {k:Nat}{es:List (Value×Value)}:∀ (l:List (Nat×CV)) (t:Nat) (c:CV),assoc (PW k es l) t=some c->∃ d,assoc l t=some d/\c=if Km k d then .mp k es else d
 | [],t,c,h=>by simp[PW,assoc] at h
 | (u,d)::r,t,c,h=>by
  simp only[PW,assoc] at h |-;split at h
  ·rename_i e;cases h;rw[if_pos e];exact⟨d,rfl,rfl⟩
  ·rename_i e;rw[if_neg e];exact zT r t c h
def IS (s:St)(k:Nat):Bool:=(s.env.all λ x=>lX x.2 || Km k x.2 || isIt x.2) && s.heap.all λ x=>jT x.2.cells
theorem uX {kv vv:Value}:∀ (es:List (Value×Value)),(∀ x∈es,x.1≠kv)->p9 kv vv es=es++[(kv,vv)]
 | [],_=>rfl
 | (k,u)::r,h=>by
  simp only[p9];rw[if_neg (λ e=>h (k,u) mem_cons_self (sY e).symm),uX r λ x hx=>h x (mem_cons_of_mem _ hx)];rfl
theorem F7 {kv vv:Value}(hc:GJ kv=true):∀ (es:List (Value×Value)) (j:Nat) (v:Value),(es.map (·.1)).Nodup->es[j]? = some (kv,v)->p9 kv vv es=es.set j (kv,vv)
 | [],j,v,_,h=>by simp at h
 | (k,u)::r,0,v,_,h=>by
  simp only[getElem?_cons_zero,Option.some.injEq,Prod.mk.injEq] at h;simp only[p9,h.1];rw[if_pos (qY hc)];rfl
 | (k,u)::r,j+1,v,hn,h=>by
  simp only[map_cons,nodup_cons] at hn;simp only[getElem?_cons_succ] at h;simp only[p9];rw[if_neg (λ e=>hn.1 (mem_map.2 ⟨(kv,v),mem_of_getElem? h,sY e⟩)),F7 hc r j v hn.2 h];rfl
theorem HL {t kt et:TypeId}{kb:Value->Bool}{zv:Value}(M:QJ P t kt et kb zv){o:Oper}{x y v:Operand}{k:Nat}{es:List (Value×Value)}{cy cv:CV}{kv vv:Value}(_hd:bm C.nt o.dst=true)(ho:o.op=.mapUpdate t x y v)
  (hx:ev s x=some (.mp k es)) (hy:ev s y=some cy) (hk:kP cy=some kv) (hv0:ev s v=some cv) (hvv:kP cv=some vv) (hkb:kb kv=true) (hes:(es.all λ e=>kb e.1)=true) (Zo:C.n0<=k) (Sg:IS s k=true) :
  qU P C o s (St.del { s with env:=PW k (p9 kv vv es) s.env } o.dst):=by
 rintro a w ⟨σ,h⟩;have hv:=bF h hx;simp only[VR] at hv;obtain⟨B,r,arr,clock,hB,hb,hv,hr,Uz,U9,hf⟩:=hv;obtain⟨hkv,YW⟩:=pb hk (bF h hy);obtain⟨Uh,_⟩:=pb hvv (bF h hv0);obtain⟨l,hl⟩:=M.key kv hkb;have XG:=(Array.getElem?_eq_some_iff.1 hr).1;have UZ:∀ e∈arr.toList,∃ l,keyOf P kt e.key=some l:=λ e he=>by
  have:(e.key,e.val)∈es:=by rw[<- Uz];exact mem_map.2 ⟨e,he,rfl⟩
  exact M.key _ (all_eq_true.1 hes _ this)
 have TW:(getObj r).run P w=.ok (.map arr clock) w:=by simp[getObj,Sem.run,hr]
 have Sc:∀ q,(setObj r q).run P w=.ok () { w with heap:=w.heap.setIfInBounds r q }:=λ q=>by simp[setObj,Sem.run,hr]
 have X2:=M.keyed.check w false hl;have T5:∃ W8 UC,(Instr.mapUpdate t (.map (some r)) kv vv).run P w=.ok () { w with heap:=w.heap.setIfInBounds r (.map W8 UC) }/\W8.toList.map (λ e=>(e.key,e.val))=p9 kv vv es:=by
  rcases M.keyed.find w hl arr.toList UZ with ⟨WH,SE⟩ | ⟨j,e,WH,SE,Vs⟩
  ·refine⟨arr.push { key:=kv,val:=vv,born:=clock },clock+1,?_,?_⟩
   ·simp[Instr.mapUpdate,bz M.Bw,TW,X2,WH,Sc]
   ·rw[uX es λ x hx=>by
     rw[<- Uz] at hx;obtain⟨e,he,rfl⟩:=mem_map.1 hx;exact SE e he,<- Uz]
    simp
  ·have hstay:=M.keyed.stays w hl;have hj:arr[j]? = some e:=by simpa using SE
   refine⟨arr.modify j λ e=>{ e with key:=kv,val:=vv },clock,?_,?_⟩
   ·simp[Instr.mapUpdate,bz M.Bw,TW,X2,WH,hj,Vs,hstay,Sc]
   ·have hj2:es[j]? = some (kv,e.val):=by
     rw[<- Uz,getElem?_map,SE];simp[Vs]
    rw[F7 YW es j e.val U9 hj2,<- Uz];apply ext_getElem?;intro i;simp only[getElem?_map,getElem?_set,Array.getElem?_toList,Array.getElem?_modify,length_map,Array.length_toList];by_cases W0:j=i
    ·subst W0;have Sv:=(Array.getElem?_eq_some_iff.1 hj).1;rw[if_pos rfl,if_pos rfl,if_pos Sv,hj];rfl
    ·rw[if_neg W0,if_neg W0]
 obtain⟨W8,UC,k1,k2⟩:=T5;simp only[IS,Bool.and_eq_true,all_eq_true,Bool.or_eq_true] at Sg;generalize SC:({ w with heap:=w.heap.setIfInBounds r (.map W8 UC) }:World)=w' at k1;have Sp:∀ j,j≠r->w'.heap[j]? = w.heap[j]?:=λ j hj=>by simp[<- SC,Ne.symm hj]
 have TR:w'.heap[r]? = some (.map W8 UC):=by simp[<- SC,XG]
 have R0:w'.heap.size=w.heap.size:=by simp[<- SC]
 have hkc:∀ F:Nat->Prop,nY w w' F F:=λ F ad u hf hu=>by
  have Sb:ad.block≠r:=λ e=>by
   unfold World.cell? at hu;rw[e,hr] at hu;cases hu
  exact⟨by rw[World.cell?_of_block (Sp _ Sb)];exact hu,hf⟩
 have h':aQ C σ { s with env:=PW k (p9 kv vv es) s.env } a w':=by
  refine⟨h.pQ,h.tm,(by rw[<- SC];exact h.os),(by rw[<- SC];exact h.tape),(by rw[<- SC];exact h.output),by rw[R0];exact h.size,?_,?_,?_,h.inj,h.nx,h.gA,h.low,h.new⟩
  ·intro j hj1 hj2;rw[Sp j (λ e=>?_)]
   ·exact h.frame j hj1 hj2
   ·subst e;rcases h.new k B j Zo hB hb with n4 | n4
    ·exact hj2 n4
    ·omega
  ·intro t c hc;obtain⟨d,Ss,rfl⟩:=zT _ _ _ hc;obtain⟨v,q1,q2⟩:=h.env t d Ss;refine⟨v,q1,?_⟩;by_cases hi:Km k d=true
   ·rw[if_pos hi];cases d<;>simp only[Km,Bool.false_eq_true] at hi;rename_i k' es';have:k'=k:=by simpa using hi
    subst this;simp only[VR] at q2 |-;obtain⟨B2,r2,arr2,clock2,m1,m2,m3,m4,m5,m6,m7⟩:=q2;rw[hB] at m1;cases m1;rw[hb] at m2;cases m2;exact⟨B,r,W8,UC,hB,hb,m3,TR,k2,xg YW es U9,m7⟩
   ·rw[if_neg hi];rcases Sg.1 _ (bx _ _ _ Ss) with (q | q) | q
    ·exact VR.oV (hkc _) _ _ q q2
    ·exact absurd q hi
    ·cases d<;>simp only[isIt,Bool.false_eq_true] at q;simp only[VR] at q2 |-;obtain⟨B2,r2,m1,m2,m3,m4,m5⟩:=q2;have Sb:r2≠r:=λ e=>by rw[e,hr] at m4;cases m4
     exact⟨B2,r2,m1,m2,m3,by rw[Sp r2 Sb];exact m4,m5⟩
  ·intro q y hq;obtain⟨B2,m1,m2,m3,m4,m5⟩:=h.obj q y hq;refine⟨B2,m1,m2,m3,m4,λ b2 TG=>?_⟩;obtain⟨Wq,q1,q2,q3,q4,q5,q6⟩:=m5 b2 TG;have Sb:b2≠r:=λ e=>by subst e;rw[hr] at q1;cases q1
   exact⟨Wq,by rw[Sp b2 Sb];exact q1,q2,q3,q4,q5,a6.oV (hkc _) _ _ (Sg.2 _ (bx _ _ _ hq)) q6⟩
 refine⟨w',.inr ⟨?_,σ,h'.del undef⟩⟩;simp[execOp,ho,hv,hkv,Uh,k1]
structure MI where
 t:Nat
 kt:Nat
 et:Nat
 kb:Value->Bool
 zv:Value
def QK (P:Program)(l:List MI):Prop:=∀ x∈l,QJ P x.t x.kt x.et x.kb x.zv
def Rx:List MI->Nat->Option MI
 | [],_=>none
 | x::r,t=>if x.t=t then some x else Rx r t
theorem AK:∀ (l:List MI) (t:Nat) (x:MI),Rx l t=some x->x∈l/\x.t=t
 | [],_,_,h=>by simp[Rx] at h
 | y::r,t,x,h=>by
  simp only[Rx] at h;split at h
  ·rename_i e;cases h;exact⟨mem_cons_self,e⟩
  ·obtain⟨h1,h2⟩:=AK r t x h;exact⟨mem_cons_of_mem _ h1,h2⟩
def J0 (mi:List MI)(n0:Nat)(s:St)(o:Oper):Option St:=
 match o.op with
 | .lookup t x y false=>match Rx mi t,ev s x,ev s y with
  | some M,some (.mp _ es),some cy=>match kP cy with
   | some kv=>if M.kb kv=true/\(es.all λ e=>M.kb e.1)=true then
     match (match yr kv es with | some v=>gQ v | none=>gQ M.zv) with
     | some c=>some (s.put o.dst c)
     | none=>none
    else none
   | none=>none
  | _,_,_=>none
 | .mapUpdate t x y v=>match Rx mi t,ev s x,ev s y,ev s v with
  | some M,some (.mp k es),some cy,some cv=>match kP cy,kP cv with
   | some kv,some vv=>if M.kb kv=true/\(es.all λ e=>M.kb e.1)=true/\n0<=k/\IS s k=true then some (St.del { s with env:=PW k (p9 kv vv es) s.env } o.dst) else none
   | _,_=>none
  | _,_,_,_=>none
 | _=>none
theorem JZ {mi:List MI}(hM:QK P mi){o:Oper}{s':St}(hd:bm C.nt o.dst=true)(h:J0 mi C.n0 s o=some s'):qU P C o s s':=by
 unfold J0 at h;split at h
 ·rename_i t x y ho;split at h
  ·rename_i M k es cy h1 h2 h3;obtain⟨m1,m2⟩:=AK _ _ _ h1;have hT:=hM M m1;rw[m2] at hT;split at h
   ·rename_i kv h4;split at h
    ·rename_i hc;split at h
     ·rename_i c h5;cases h;exact HM hT hd ho h2 h3 h4 hc.1 hc.2 h5
     ·cases h
    ·cases h
   ·cases h
  ·cases h
 ·rename_i t x y v ho;split at h
  ·rename_i M k es cy cv h1 h2 h3 h4;obtain⟨m1,m2⟩:=AK _ _ _ h1;have hT:=hM M m1;rw[m2] at hT;split at h
   ·rename_i kv vv h5 h6;split at h
    ·rename_i hc;cases h;exact HL hT hd ho h2 h3 h5 h4 h6 hc.1 hc.2.1 hc.2.2.1 hc.2.2.2
    ·cases h
   ·cases h
  ·cases h
 ·cases h
def CT (n:Int):Bool:=decide (-9223372036854775808<=n) && decide (n<=9223372036854775807)
structure EqT (P:Program)(t:TypeId)(kb:Value->Bool):Prop where
 eq:∀ (w:World) (x y:Value),kb x=true->kb y=true->(Op.equalIn 10000 t x y).run P w=.ok (Bv x y) w
 guard:P.eqGuardType P.depth t=false
 agg:∀ x,kb x=true->∃ cs,x=.agg cs
structure EI where
 t:Nat
 kb:Value->Bool
def LH (P:Program)(l:List EI):Prop:=∀ x∈l,EqT P x.t x.kb
def Qe:List EI->Nat->Option EI
 | [],_=>none
 | x::r,t=>if x.t=t then some x else Qe r t
theorem Gx:∀ (l:List EI) (t:Nat) (x:EI),Qe l t=some x->x∈l/\x.t=t
 | [],_,_,h=>by simp[Qe] at h
 | y::r,t,x,h=>by
  simp only[Qe] at h;split at h
  ·rename_i e;cases h;exact⟨mem_cons_self,e⟩
  ·obtain⟨h1,h2⟩:=Gx r t x h;exact⟨mem_cons_of_mem _ h1,h2⟩
def C8 (ei:List EI)(s:St)(o:Oper):Option St:=
 match o.op with
 | .binOp op t x y _=>match Qe ei t,ev s x,ev s y with
  | some E,some cx,some cy=>match kP cx,kP cy with
   | some vx,some vy=>if E.kb vx=true/\E.kb vy=true then match op with
     | .eql=>some (s.put o.dst (.bool (Bv vx vy)))
     | .neq=>some (s.put o.dst (.bool (!(Bv vx vy))))
     | _=>none
    else none
   | _,_=>none
  | _,_,_=>none
 | _=>none
theorem xI {ei:List EI}(hE:LH P ei){o:Oper}{s':St}(hd:bm C.nt o.dst=true)(h:C8 ei s o=some s'):qU P C o s s':=by
 unfold C8 at h;split at h
 ·rename_i op t x y q ho;split at h
  ·rename_i E cx cy h1 h2 h3;obtain⟨m1,m2⟩:=Gx _ _ _ h1;have hT:=hE E m1;rw[m2] at hT;split at h
   ·rename_i vx vy h4 h5;split at h
    ·rename_i hc;rintro a w ⟨σ,hr⟩;obtain⟨e1,_⟩:=pb h4 (bF hr h2);obtain⟨e2,_⟩:=pb h5 (bF hr h3);obtain⟨xs,rfl⟩:=hT.agg vx hc.1;obtain⟨ys,rfl⟩:=hT.agg vy hc.2;have hq:=hT.eq w _ _ hc.1 hc.2;split at h
     ·cases h;refine⟨w,.inl ⟨.bool (Bv (.agg xs) (.agg ys)),?_,ec hd hr (dR _)⟩⟩;simp only[execOp,ho,e1,e2,Sem.run_bind,run_eqGuard_agg w _ t x y xs ys hT.guard,Result.andThen_ok,run_eql_struct,hq,Sem.run_pure]
     ·cases h;refine⟨w,.inl ⟨.bool (!(Bv (.agg xs) (.agg ys))),?_,ec hd hr (dR _)⟩⟩;simp only[execOp,ho,e1,e2,Sem.run_bind,run_eqGuard_agg w _ t x y xs ys hT.guard,Result.andThen_ok,run_neq_struct,hq,Sem.run_pure]
     ·cases h
    ·cases h
   ·cases h
  ·cases h
 ·cases h
def frzA (s:St)(p:Nat)(ob:Ob)(d:Option Tmp)(n:Nat):St:=(s.dn p ob).put d (.ax ob.cells n)
theorem Pb (ht:aD P av){o:Oper}{t e:TypeId}{x:Operand}{p n:Nat}{ob:Ob}{ie:TI}(hd:bm C.nt o.dst=true)(ho:o.op=.slice t x none none none)(hx:ev s x=some (.aw p 0))(h2:dM av t=some (.arr n e))(RU:assoc av e=some ie)
  (hn:0<n) (hm:n<=1000000) (TU:assoc s.heap p=some ob) (Sa:trees ob.cells=true):qU P C o s (frzA s p ob o.dst n):=by
 rintro a w ⟨σ,h⟩;obtain⟨i2,b1,b2,_⟩:=fq ht h2;have g2:=pv (ht t i2 b1) b2;obtain⟨f,z,g3,_⟩:=(ht e ie RU).info;have h':=h.dn TU Sa;have hfz:∃ v,a.eval x=v/\VR w (FB C σ (s.dn p ob).heap) σ (.cQ ob.cells) v:=by
  cases x with
  | tmp t=>
   have TM:assoc s.env t=some (.aw p 0):=hx;have:∀ l:List (Nat×CV),assoc l t=some (.aw p 0)->assoc (yw p ob.cells ob.sz l) t=some (.cQ ob.cells):=by
    intro l
    induction l with
    | nil=>intro h;cases h
    | cons y r ih=>
     obtain⟨k,c⟩:=y;intro hl;simp only[yw,assoc] at hl |-;split at hl
     ·rename_i e;cases hl;rw[if_pos e];simp[cw]
     ·rename_i e;rw[if_neg e];exact ih hl
   obtain⟨v,k1,k2⟩:=h'.env t _ (this s.env TM);exact⟨v,by simp[Act.eval,k1],k2⟩
  | const v=>exact absurd hx (by
    simp only[ev];intro hc;have:=nK (w:=w) (F:=λ _=>False) hc;simp[cr] at this)
  | func f=>cases hx
  | global g=>
   simp only[ev,Option.bind_eq_some_iff,Option.map_eq_some_iff] at hx;obtain⟨_,_,_,_,h⟩:=hx;cases h
 obtain⟨v,hv,hvr⟩:=hfz;simp only[VR,cr] at hvr;obtain⟨ad,rfl,hmr⟩:=hvr;refine⟨w,.inl ⟨.slice (some ad) n n,?_,ec hd h' ?_⟩⟩
 ·have WX:(Instr.sliceBounds false n n none none none).run P w=.ok (0,n,n) w:=by simp[Instr.sliceBounds]
  have Sb:¬ n=0:=by omega
  have:(Instr.sliceAt t (.pointer (some ad)) none none none).run P w=.ok (.slice (some ad) n n) w:=by
   simp[Instr.sliceAt,bz g2,Instr.sureAddr,WX,cP g3,Sb,add_zero]
  simp[execOp,ho,hv,this]
 ·simp only[VR,cr];exact⟨_,n,rfl,Nat.le_refl _,by simp only[maxLen];omega,.inr ⟨ad,rfl,hmr⟩⟩
def Lp (av:List (Nat×TI))(s:St)(o:Oper):Option St:=
 match o.op with
 | .slice t x none none none=>match ev s x,dM av t with
  | some (.aw p 0),some (.arr n e)=>match assoc av e,assoc s.heap p with
   | some _,some ob=>if 0<n/\n<=1000000/\trees ob.cells=true then some (frzA s p ob o.dst n) else none
   | _,_=>none
  | _,_=>none
 | _=>none
theorem Lo (ht:aD P av){o:Oper}{s':St}(hd:bm C.nt o.dst=true)(h:Lp av s o=some s'):qU P C o s s':=by
 unfold Lp at h;split at h
 ·rename_i t x ho;split at h
  ·rename_i p n e hx h2;split at h
   ·rename_i ie ob h3 h4;split at h
    ·rename_i hc;cases h;exact Pb ht hd ho hx h2 h3 hc.1 hc.2.1 h4 hc.2.2
    ·cases h
   ·cases h
  ·cases h
 ·cases h
end
end Go.Can
