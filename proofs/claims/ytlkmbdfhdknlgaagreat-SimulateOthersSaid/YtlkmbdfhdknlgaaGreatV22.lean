/- Name; Lex accepts what is -/
import Derived.Test.YtlkmbdfhdknlgaaGreatV21
import Derived.Maps.Keyed
import Derived.WideKeyPair
import Derived.Laws.StructEq
namespace Go.Proofs.YtlkmbdfhdknlgaaGreat
open Go.Can Go.aV List
theorem Nu (s:ByteArray)(i:Nat):s[i]? = (bs s)[i]?:=by
 by_cases h:i<s.size
 ·rw[getElem?_pos s i h,getElem?_eq_getElem (by simpa [bs] using h)];simp[bs];rfl
 ·rw[getElem?_neg s i h,getElem?_eq_none (by simpa [bs] using h)]
theorem lM (s:ByteArray):(bs s).length=s.size:=by simp[bs]
theorem jQ (s:ByteArray)(h:dG s)(hr:bs s∉r8):af Tryz.prog 126 [.str s] (.bool true):=by
 obtain⟨⟨c0,t0,ZS,Re⟩,h1,h2⟩:=h;have O0:=lM s;have VN:1<=s.size:=by rw[<- O0,ZS];simp
 refine af.aC ag Tryz.func126 rfl GK (by simp[Tryz.ntmps126]) rfl λ C hC OR=>?_;rw[Tryz.ntmps126] at hC;apply aq;simp[hC];apply aT;simp[hC];apply T.block;refine T.aQ (λ m st=>∃ i:Nat,m=s.size-i/\i<=s.size/\st=⟨[(3,I i),(0,.str s)],[],0⟩) (n:=s.size) ?_ ?_
 ·refine aa.le (Le.env [3,0]) (aa.here ⟨0,by omega,by omega,?_⟩);simp
 ·rintro n st ⟨i,rfl,hi,rfl⟩;by_cases OP:i<s.size
  ·obtain⟨c,hc⟩:∃ c,(bs s)[i]? = some c:=⟨(bs s)[i],getElem?_eq_getElem yA⟩;have hg:s[i]? = some c:=by rw[Nu];exact hc
   have hid:fM c=true:=all_eq_true.1 h1 c (mem_of_getElem? hc);have hw:=cw ((i:Int)+1) yA yA;apply aT;simp[hC,OP];refine iI ?_;simp;apply eZ;refine T.cut (λ st=>st=⟨[(25,.bool false),(3,I i),(0,.str s)],[],0⟩) ?_ ?_
   ·have X3:s[i]=c:=by
     have:=hg;rw[getElem?_pos s i OP] at this
     simpa using this
    cases OT:isLet c with
    | true=>
     have O2:=lZ c;rw[OT] at O2;apply aG;simp[hC,OP,X3];refine ct O4 (O2) ?_;simp[hC];refine aa.le (Le.env [25,3,0]) (aa.here ?_);simp
    | false=>
     have O2:=lZ c;rw[OT] at O2;have hdg:dw c=true:=by simpa [fM,OT] using hid
     have V7:=mc c;rw[hdg] at V7;have TP:¬ i=0:=by
      intro h;subst h;rw[ZS] at hc;simp only[getElem?_cons_zero,Option.some.injEq] at hc;subst hc;rw[Re] at OT;cases OT
     apply aG;simp[hC,OP,X3];refine ct O4 (O2) ?_;simp[hC,TP,OP,X3];refine TL.cU OU rfl rfl rfl rfl (bR.of rfl O4 (V7)) (TL.go' ag ?_);simp[hC];refine aa.le (Le.env [25,3,0]) (aa.here ?_);simp
   ·rintro st rfl;refine bh ?_;simp;apply T.skip;simp;apply aG;simp[hC,hw];refine⟨s.size-(i+1),by omega,?_⟩;refine aa.le (Le.env [3,0]) (aa.here ⟨i+1,rfl,by omega,?_⟩);simp
  ·apply aT;simp[hC,OP];refine bh ?_;simp;apply T.exit;simp;have g1:(1:Int)<=s.size:=by omega
   have g2:(s.size:Int)<=16:=by omega
   have Rw:=sQ s;simp only[hr,decide_false] at Rw;apply aq;simp[hC,g1,g2];refine TL.cU OU rfl rfl rfl rfl (bR.of rfl O4 (Rw)) (TL.go' ag ?_);simp[hC];apply T.ret;apply aa.here;simp[Tryz.results126]
theorem Gv {p:UInt8->Bool}:∀ {L:List UInt8} {j:Nat},j<(L.takeWhile p).length->∃ c,L[j]? = some c/\p c=true
 | [],j,h=>by simp at h
 | a::r,j,h=>by
  cases ha:p a with
  | false=>rw[takeWhile_cons,ha] at h;simp at h
  | true=>
   cases j with
   | zero=>exact⟨a,rfl,ha⟩
   | succ j=>
    rw[takeWhile_cons,ha] at h;simp only[if_true,length_cons] at h;obtain⟨c,h1,h2⟩:=Gv (p:=p) (L:=r) (j:=j) yA;exact⟨c,by simpa using h1,h2⟩
theorem Cf {p:UInt8->Bool}:∀ {L:List UInt8} {c:UInt8},L[(L.takeWhile p).length]? = some c->p c=false
 | [],c,h=>by simp at h
 | a::r,c,h=>by
  cases ha:p a with
  | false=>
   rw[takeWhile_cons,ha] at h;simp at h;subst h;exact ha
  | true=>
   rw[takeWhile_cons,ha] at h;simp only[if_true,length_cons,getElem?_cons_succ] at h;exact Cf (L:=r) h
theorem zW {p:UInt8->Bool}:∀ L:List UInt8,(L.takeWhile p).length<=L.length/\L.dropWhile p=L.drop (L.takeWhile p).length/\L.take (L.takeWhile p).length=L.takeWhile p
 | []=>⟨Nat.le_refl _,rfl,rfl⟩
 | a::r=>by
  cases ha:p a with
  | false=>simp[ha]
  | true=>
   obtain⟨h1,h2,h3⟩:=zW (p:=p) r;simp[ha,h2,h3];exact h1
theorem Lx.ncm {l:List UInt8}{n:Nat}(h:Lx l n):∀ r,l=47::r->r.head?≠some 47:=by
 rintro r rfl;obtain⟨m,_,h1 | h1 | h1⟩:=Lx.inv h O3
 ·exact absurd h1.1 O3
 ·exact absurd h1.2.1 O3
 ·exact h1.2.2.1 rfl
theorem L9:∀ L:List UInt8,uy L<=L.length
 | []=>Nat.le_refl _
 | [a]=>by
  simp only[uy];split<;>simp
 | a::b::r=>by
  simp only[uy,length_cons];split
  ·omega
  ·split<;>omega
def LexG (r:CV):Prop:=∃ (cs:List CV) (n:Nat) (e:Nat),r=.bY [.au cs n,I e,.int .i64 0]
def lU (cs:List CV):Ob:=⟨190,4,cs⟩
def J66 (l:List UInt8)(n:Nat)(s:St):Prop:=∃ (a:Nat) (cs:List CV) (k m:Nat),n=l.length-a/\a<=l.length/\k+m<=4000/\Lx (l.drop a) m/\(∀ c,(l.drop a).head? = some c->jc c=false)/\cs.length=k*4/\trees cs=true/\
 s=⟨[(6,I a),(5,.bg 0 0 k),(0,dS l)],[(0,lU cs)],1⟩
set_option maxHeartbeats 4000000 in
theorem MP (l:List UInt8)(hl:l.length<=262144)(hx:Lx l 4000):ny Tryz.prog 96 [dS l] LexG:=by
 refine ny.jb ag Tryz.func96 rfl GK (by simp[Tryz.ntmps96]) λ C hC OR=>?_;rw[Tryz.ntmps96] at hC;apply aq;simp[hC];have P3:¬ (262144:Int)<l.length:=by omega
 apply aT;simp[hC,dS,P3];refine bh ?_;simp;apply T.skip;simp;apply aq;simp[hC];have Se:=DA l 0 (Nat.zero_le _) yA (λ r hr=>by
  have:=hx.skip;simp only[drop_zero,Nat.zero_add] at hr this;exact Lx.ncm this r hr)
 simp only[drop_zero,Nat.zero_add] at Se;have WR:=hx.skip;have VJ:∀ c,(l.drop (rF l)).head? = some c->jc c=false:=λ c hc=>z9 hc;have Zn:rF l<=l.length:=by
  unfold rF;exact (zW (p:=jc) l).1
 generalize rF l=a0 at Se WR VJ Zn;apply aq;simp[hC];refine ct O4 (Se) ?_;simp[hC];apply T.block;refine T.aQ (J66 l) (n:=l.length-a0) ?_ ?_
 ·refine aa.le (Le.own 5 190 4 rfl) ?_;simp;refine aa.trim [6,5,0] [0] 1 xr yA ⟨a0,[],0,4000,rfl,Zn,by omega,WR,VJ,rfl,rfl,?_⟩;simp[dS,lU]
 ·rintro n st ⟨a,cs,k,m,rfl,ZW,VW,Uz,hsp,O2,O1,rfl⟩;apply eZ;by_cases RW:a=l.length
  ·apply aT;simp[hC,dS,RW];refine cX ?_;simp;have hb:(k+1)*40<=140737488355328:=by omega
   have O0:(lU cs).sz=4:=rfl;have O7:(lU cs).elem=190:=rfl;have Ss:(lU cs).cells.length=k*4:=O2;apply aq;simp[hC,hb,O0,O7,Ss,aS];apply T.ret;have htr2:trees ((lU cs).cells++[CV.int .i64 5,.str ⟨#[]⟩,.int .i64 0,.int .i64 l.length])=true:=by rw[aF];simp only[lU,O1];rfl
   refine aa.le (Le.cF (o:=2) rfl htr2) ?_;simp[cK];refine aa.here ⟨_,rfl,rfl,_,_,_,rfl⟩
  ·have OT:a<l.length:=by omega
   have Pp:¬ (a:Int)=l.length:=by omega
   obtain⟨c,hc⟩:∃ c,l[a]? = some c:=⟨l[a],getElem?_eq_getElem OT⟩;have OS:=lL hc;have hd:=iw hc;rw[hd] at Uz hsp;have PQ:=hsp c rfl;obtain⟨m',rfl,Su⟩:=Lx.inv Uz PQ;rw[<- hd] at Su;apply aT;simp[hC,dS,RW];refine bh ?_;simp;apply T.skip;simp;apply aq;simp[hC];apply aq;simp[hC];refine T.le (Le.trim [8,7,6,5,0] [0,1] 2 yB yA) ?_;simp;refine T.cut (λ s=>∃ (kind num:Int) (e:Nat),Lx (l.drop e) m'/\a<e/\e<=l.length/\s=⟨[(8,I e),(7,.ax 1 0),(6,I a),(5,.bg 0 0 k),(0,dS l)],[(0,lU cs),(1,⟨190,0,[.int .i64 kind,.str ⟨#[]⟩,.int .i64 num,I a]⟩)],2⟩) ?_ ?_
   ·apply T.block;apply aq;simp[hC,OT,OS];refine ct O4 (lZ c) ?_;simp[hC];refine T.bB rfl (λ h=>?_) (λ h=>?_)
    ·have h1:isLet c=true:=by simpa using h
     obtain⟨_,hw16,Ui⟩:isLet c=true/\(((l.drop a).takeWhile fM).length<=16\/(l.drop a).takeWhile fM∈r8)/\Lx ((l.drop a).dropWhile fM) m':=by
      rcases Su with h | h | h
      ·exact h
      ·rw[h1] at h;simp at h
      ·rw[h1] at h;simp at h
     obtain⟨t1,t2,t3⟩:=zW (p:=fM) (l.drop a);rw[t2,drop_drop] at Ui;have YM:0<((l.drop a).takeWhile fM).length:=by
      rw[hd,takeWhile_cons];simp[fM,h1]
     have WV:=@Gv fM (l.drop a);have UC:=@Cf fM (l.drop a);generalize hW:(l.drop a).takeWhile fM=W at *;have Rl:a+W.length<=l.length:=by simp at t1;omega
     refine T.cut (λ s=>s=⟨[(8,I ((a+W.length:Nat))),(7,.ax 1 0),(6,I a),(5,.bg 0 0 k),(0,dS l)],[(0,lU cs),(1,⟨190,0,[.int .i64 0,.str ⟨#[]⟩,.int .i64 0,I a]⟩)],2⟩) ?_ ?_
     ·apply T.block;refine T.aQ (λ n s=>∃ j:Nat,n=W.length-j/\j<=W.length/\s=⟨[(8,I ((a+j:Nat))),(7,.ax 1 0),(6,I a),(5,.bg 0 0 k),(0,dS l)],[(0,lU cs),(1,⟨190,0,[.int .i64 0,.str ⟨#[]⟩,.int .i64 0,I a]⟩)],2⟩) (n:=W.length) ?_ ?_
      ·refine aa.trim [8,7,6,5,0] [0,1] 2 yB yA ⟨0,by omega,by omega,?_⟩;simp[dS]
      ·rintro n s ⟨j,rfl,QL,rfl⟩;obtain⟨e,he⟩:∃ e,a+j=e:=⟨_,rfl⟩;rw[he];by_cases hj:j<W.length
       ·obtain⟨c2,Qk,BZ⟩:=WV hj;rw[getElem?_drop,he] at Qk;have QY:=lL Qk;have O7:e<l.length:=(List.getElem?_eq_some_iff.1 Qk).1;have hw:=cw ((e:Int)+1) yA yA;have Sr:=lZ c2;have RG:=mc c2
        cases QK:isLet c2 with
        | true=>
         rw[QK] at Sr;apply aT;simp[hC,dS,O7,QY];refine TL.cU OU rfl rfl rfl rfl (bR.of rfl O4 (Sr)) (TL.go' ag ?_);simp[hC];refine iI ?_;simp;apply T.block;apply aG;simp[hC,hw];refine⟨W.length-(j+1),by omega,?_⟩;refine aa.trim [8,7,6,5,0] [0,1] 2 yB yA ⟨j+1,rfl,by omega,?_⟩;simp;omega
        | false=>
         rw[QK] at Sr;have hdg2:dw c2=true:=by simpa [fM,QK] using BZ
         rw[hdg2] at RG;apply aT;simp[hC,dS,O7,QY];refine TL.cU OU rfl rfl rfl rfl (bR.of rfl O4 (Sr)) (TL.go' ag ?_);simp[hC,O7,QY];refine TL.cU OU rfl rfl rfl rfl (bR.of rfl O4 (RG)) (TL.go' ag ?_);simp[hC];refine iI ?_;simp;apply T.block;apply aG;simp[hC,hw];refine⟨W.length-(j+1),by omega,?_⟩;refine aa.trim [8,7,6,5,0] [0,1] 2 yB yA ⟨j+1,rfl,by omega,?_⟩;simp;omega
       ·have Vn:j=W.length:=by omega
        by_cases O7:e<l.length
        ·obtain⟨c2,Qk⟩:∃ c,l[e]? = some c:=⟨l[e],getElem?_eq_getElem O7⟩;have BZ:fM c2=false:=UC (by rw[getElem?_drop,<- Vn,he];exact Qk);have QY:=lL Qk;have Sr:=lZ c2;have RG:=mc c2;have hp3:isLet c2=false/\dw c2=false:=by simpa [fM] using BZ
         rw[hp3.1] at Sr;rw[hp3.2] at RG;apply aT;simp[hC,dS,O7,QY];refine TL.cU OU rfl rfl rfl rfl (bR.of rfl O4 (Sr)) (TL.go' ag ?_);simp[hC,O7,QY];refine TL.cU OU rfl rfl rfl rfl (bR.of rfl O4 (RG)) (TL.go' ag ?_);simp[hC];refine bh ?_;simp;apply T.exit;simp;refine aa.trim [8,7,6,5,0] [0,1] 2 yB yA ?_;simp;omega
        ·apply aT;simp[hC,dS,O7];refine bh ?_;simp;apply T.exit;simp;refine aa.trim [8,7,6,5,0] [0,1] 2 yB yA ?_;simp;omega
     ·rintro s rfl;obtain⟨e,he⟩:∃ e,a+W.length=e:=⟨_,rfl⟩;rw[he] at Ui |-;have k1:a<=e:=by omega
      have k2:e<=l.length:=by omega
      have k3:e-a=W.length:=by omega
      have Qz:take W.length (drop a (l.map λ x=>CV.int .u8 (x.toNat:Int)))=W.map λ x=>CV.int .u8 (x.toNat:Int):=by
       rw[<- map_drop,<- map_take,t3]
      have Sh:min W.length (l.length-a)=W.length:=by omega
      have hbW:=oC W;have hWe:bs ⟨W.toArray⟩=W:=bs_mk W;apply aq;simp[hC];have Rw:=sQ ⟨W.toArray⟩;rw[hWe] at Rw;have wk:IntKind.i64.wrap ((e:Int)-a)=(W.length:Int):=by rw[cw _ yA yA];omega
      refine T.seq (T.B1 ag ?_);simp[hC,dS,k1,k2,Qz,hbW,k3];refine ct O4 (Rw) ?_;simp;refine T.bB rfl (λ h=>?_) (λ h=>?_)
      ·apply aG;simp[hC];refine aa.trim [8,7,6,5,0] [0,1] 2 yB yA ⟨3,0,e,Ui,by omega,k2,?_⟩;simp
      ·have hnr:W∉r8:=by simpa using h
       have h16:W.length<=16:=hw16.resolve_right hnr;have h16':¬ (16:Int)<W.length:=by omega
       apply aq;simp[hC,wk,h16'];refine bh ?_;simp;apply T.skip;simp;refine aa.trim [8,7,6,5,0] [0,1] 2 yB yA ⟨1,0,e,Ui,by omega,k2,?_⟩;simp
    ·have h1:isLet c=false:=by simpa using h
     refine T.le (Le.trim [8,7,6,5,0] [0,1] 2 yB yA) ?_;simp;apply aq;simp[hC,OT,OS];refine ct O4 (mc c) ?_;simp[hC];refine T.bB rfl (λ h=>?_) (λ h=>?_)
     ·have h2:dw c=true:=by simpa using h
      obtain⟨_,_,hv63,Ui⟩:isLet c=false/\dw c=true/\lI ((l.drop a).takeWhile dw)<9223372036854775808/\Lx ((l.drop a).dropWhile dw) m':=by
       rcases Su with h | h | h
       ·rw[h1] at h;simp at h
       ·exact h
       ·rw[h2] at h;simp at h
      obtain⟨t1,t2,t3⟩:=zW (p:=dw) (l.drop a);rw[t2,drop_drop] at Ui;have YM:0<((l.drop a).takeWhile dw).length:=by
       rw[hd,takeWhile_cons];simp[h2]
      have PJ:((l.drop a).takeWhile dw).all dw=true:=all_takeWhile;have WV:=@Gv dw (l.drop a);have UC:=@Cf dw (l.drop a);generalize hW:(l.drop a).takeWhile dw=W at *;have Rl:a+W.length<=l.length:=by simp at t1;omega
      refine T.cut (λ s=>s=⟨[(8,I ((a+W.length:Nat))),(7,.ax 1 0),(6,I a),(5,.bg 0 0 k),(0,dS l)],[(0,lU cs),(1,⟨190,0,[.int .i64 0,.str ⟨#[]⟩,.int .i64 0,I a]⟩)],2⟩) ?_ ?_
      ·apply T.block;refine T.aQ (λ n s=>∃ j:Nat,n=W.length-j/\j<=W.length/\s=⟨[(8,I ((a+j:Nat))),(7,.ax 1 0),(6,I a),(5,.bg 0 0 k),(0,dS l)],[(0,lU cs),(1,⟨190,0,[.int .i64 0,.str ⟨#[]⟩,.int .i64 0,I a]⟩)],2⟩) (n:=W.length) ?_ ?_
       ·refine aa.trim [8,7,6,5,0] [0,1] 2 yB yA ⟨0,by omega,by omega,?_⟩;simp[dS]
       ·rintro n s ⟨j,rfl,QL,rfl⟩;obtain⟨e,he⟩:∃ e,a+j=e:=⟨_,rfl⟩;rw[he];by_cases hj:j<W.length
        ·obtain⟨c2,Qk,BZ⟩:=WV hj;rw[getElem?_drop,he] at Qk;have QY:=lL Qk;have O7:e<l.length:=(List.getElem?_eq_some_iff.1 Qk).1;have hw:=cw ((e:Int)+1) yA yA;have RG:=mc c2;rw[BZ] at RG;apply aT;simp[hC,dS,O7,QY];refine TL.cU OU rfl rfl rfl rfl (bR.of rfl O4 (RG)) (TL.go' ag ?_);simp[hC];refine iI ?_;simp;apply T.block;apply aG;simp[hC,hw];refine⟨W.length-(j+1),by omega,?_⟩;refine aa.trim [8,7,6,5,0] [0,1] 2 yB yA ⟨j+1,rfl,by omega,?_⟩;simp;omega
        ·have Vn:j=W.length:=by omega
         by_cases O7:e<l.length
         ·obtain⟨c2,Qk⟩:∃ c,l[e]? = some c:=⟨l[e],getElem?_eq_getElem O7⟩;have BZ:dw c2=false:=UC (by rw[getElem?_drop,<- Vn,he];exact Qk);have QY:=lL Qk;have RG:=mc c2;rw[BZ] at RG;apply aT;simp[hC,dS,O7,QY];refine TL.cU OU rfl rfl rfl rfl (bR.of rfl O4 (RG)) (TL.go' ag ?_);simp[hC];refine bh ?_;simp;apply T.exit;simp;refine aa.trim [8,7,6,5,0] [0,1] 2 yB yA ?_;simp;omega
         ·apply aT;simp[hC,dS,O7];refine bh ?_;simp;apply T.exit;simp;refine aa.trim [8,7,6,5,0] [0,1] 2 yB yA ?_;simp;omega
      ·rintro s rfl;obtain⟨e,he⟩:∃ e,a+W.length=e:=⟨_,rfl⟩;rw[he] at Ui |-;have k1:a<=e:=by omega
       have k2:e<=l.length:=by omega
       have k3:e-a=W.length:=by omega
       have Qz:take W.length (drop a (l.map λ x=>CV.int .u8 (x.toNat:Int)))=W.map λ x=>CV.int .u8 (x.toNat:Int):=by
        rw[<- map_drop,<- map_take,t3]
       have X7:=wO W yA PJ hv63;have Wt:¬ ((lI W:Int)<0):=by omega
       apply aq;simp[hC,dS,k1,k2,Qz,k3];simp only[dS] at X7;refine ct O4 (X7) ?_;simp[hC];apply aq;simp[hC,Wt];refine bh ?_;simp;apply T.skip;simp;refine aa.trim [8,7,6,5,0] [0,1] 2 yB yA ⟨2,lI W,e,Ui,by omega,k2,?_⟩;simp
     ·have h2:dw c=false:=by simpa using h
      obtain⟨VJ,Ui⟩:0<uy (l.drop a)/\Lx ((l.drop a).drop (uy (l.drop a))) m':=by
       rcases Su with h | h | h
       ·rw[h1] at h;simp at h
       ·rw[h2] at h;simp at h
       ·exact⟨h.2.2.2.1,h.2.2.2.2⟩
      have X8:=Ju l a OT yA;have YZ:a+uy (l.drop a)<=l.length:=by
       have h2:=L9 (l.drop a);rw[length_drop] at h2;omega
      rw[drop_drop] at Ui;generalize uy (l.drop a)=g at X8 VJ Ui YZ;have hwg:=cw ((a:Int)+g) yA yA;have hne2:¬ (a:Int)+g=a:=by omega
      simp only[dS] at X8;refine T.le (Le.trim [8,7,6,5,0] [0,1] 2 yB yA) ?_;simp;apply aq;simp[hC];refine ct O4 (X8) ?_;simp[hC,hwg];apply aq;simp[hC];apply aq;simp[hC];refine T.bB rfl (λ h=>?_) (λ h=>?_)
      ·simp at h;omega
      apply T.skip;simp;refine aa.trim [8,7,6,5,0] [0,1] 2 yB yA ⟨4,0,a+g,Ui,by omega,YZ,?_⟩;simp[dS]
   ·rintro s ⟨kind,num,e,QJ,hae,O7,rfl⟩;have k1:a<=e:=by omega
    have k3:e-a<=l.length-a:=by omega
    have hk4:¬ (k:Int)=4000:=by omega
    apply aT;simp[hC];refine T.bB rfl (λ h=>?_) (λ h=>?_)
    ·simp at h;omega
    apply T.skip;simp;have Qz:take (e-a) (drop a (l.map λ x=>CV.int .u8 (x.toNat:Int)))=((l.drop a).take (e-a)).map λ x=>CV.int .u8 (x.toNat:Int):=by
     rw[<- map_drop,<- map_take]
    have Sh:min (e-a) (l.length-a)=e-a:=by omega
    have hbW:=oC ((l.drop a).take (e-a));have Rl:((l.drop a).take (e-a)).length=e-a:=by simp;omega
    generalize (l.drop a).take (e-a)=W at Qz hbW Rl;have hsk:=DA l e O7 yA (λ r hr=>by
     have:=QJ.skip;rw[drop_drop] at this;exact Lx.ncm this r hr)
    refine T.seq (T.B1 ag ?_);simp[hC,dS,k1,O7,Qz,hbW,Rl];have hb:(k+1)*40<=140737488355328:=by omega
    have O0:(lU cs).sz=4:=rfl;have P0:(lU cs).elem=190:=rfl;have Ss:(lU cs).cells.length=k*4:=O2;apply aG;simp[hC,hb,O0,P0,Ss,aS];simp only[dS] at hsk;have RL:=QJ.skip;rw[drop_drop] at RL;have YY:∀ c,(l.drop (e+rF (l.drop e))).head? = some c->jc c=false:=λ c hc=>by
     rw[<- drop_drop] at hc;exact z9 hc
    have Zm:e+rF (l.drop e)<=l.length:=by
     have:=(zW (p:=jc) (l.drop e)).1;rw[length_drop] at this;unfold rF;omega
    obtain⟨a2,ZX⟩:∃ a2,e+rF (l.drop e)=a2:=⟨_,rfl⟩;rw[ZX] at hsk RL YY Zm;have V3:e<=a2:=by omega
    apply aG;simp[hC];refine ct O4 (hsk) ?_;simp[hC];refine⟨l.length-a2,by omega,?_⟩;have UB:trees ((lU cs).cells++[CV.int .i64 kind,.str ⟨W.toArray⟩,.int .i64 num,I a])=true:=by rw[aF];simp only[lU,O1];rfl
    refine aa.le (Le.trim [6,5,0] [3] 4 (by simp[-all_append,aj UB]) yA) ?_;simp;refine aa.le (Le.ph 3 0 rfl rfl yA xr xr (by simp[-all_append,bC UB])) ?_;simp[-map_append,bm UB];refine aa.trim [6,5,0] [0] 1 (by simp[-all_append,aj UB]) yA ⟨a2,(lU cs).cells++[CV.int .i64 kind,.str ⟨W.toArray⟩,.int .i64 num,I a],k+1,m',rfl,Zm,by omega,RL,YY,?_,UB,?_⟩
    ·simp[Ss];omega
    ·simp[dS,lU]
end Go.Proofs.YtlkmbdfhdknlgaaGreat
namespace Go.Can
open Go.RowKit List
def zw:Value->Bool
 | .int _ _=>true
 | .bool _=>true
 | .string _=>true
 | _=>false
def I9:Value->Bool
 | .agg cs=>cs.toList.all zw
 | v=>zw v
def yu:Value->Value->Bool
 | .int k a,.int j b=>decide (k=j) && a == b
 | .bool a,.bool b=>a == b
 | .string a,.string b=>a.data.toList == b.data.toList
 | _,_=>false
def ub:List Value->List Value->Bool
 | [],[]=>true
 | a::r,b::q=>yu a b && ub r q
 | _,_=>false
def wJ:Value->Value->Bool
 | .agg a,.agg b=>ub a.toList b.toList
 | a,b=>yu a b
theorem Du {a b:Value}(h:yu a b=true):a=b:=by
 unfold yu at h;split at h
 ·simp only[Bool.and_eq_true,decide_eq_true_eq,beq_iff_eq] at h;rw[h.1,h.2]
 ·simp only[beq_iff_eq] at h;rw[h]
 ·rename_i a b;have h2:a.data=b.data:=Array.toList_inj.1 Sa;rw[ByteArray.ext h2]
 ·cases h
theorem Dt:∀ (a b:List Value),ub a b=true->a=b
 | [],[],_=>rfl
 | [],_::_,h=>by simp[ub] at h
 | _::_,[],h=>by simp[ub] at h
 | a::r,b::q,h=>by
  simp only[ub,Bool.and_eq_true] at h;rw[Du h.1,Dt r q h.2]
theorem rJ {a b:Value}(h:wJ a b=true):a=b:=by
 unfold wJ at h;split at h
 ·rename_i a b;rw[Array.toList_inj.1 (Dt _ _ h)]
 ·exact Du h
theorem xb {a:Value}(h:zw a=true):yu a a=true:=by
 cases a<;>simp_all [zw,yu]
theorem w9:∀ (l:List Value),l.all zw=true->ub l l=true
 | [],_=>rfl
 | a::r,h=>by
  simp only[all_cons,Bool.and_eq_true] at h;simp[ub,xb h.1,w9 r h.2]
theorem qk {a:Value}(h:I9 a=true):wJ a a=true:=by
 cases a<;>simp only[I9,zw,Bool.false_eq_true] at h<;>simp only[wJ]<;>first
  | exact w9 _ h
  | exact xb rfl
def wR (kv:Value):List (Value×Value)->Option Value
 | []=>none
 | (k,v)::r=>if wJ kv k=true then some v else wR kv r
def pj (kv vv:Value):List (Value×Value)->List (Value×Value)
 | []=>[(kv,vv)]
 | (k,v)::r=>if wJ kv k=true then (kv,vv)::r else (k,v)::pj kv vv r
theorem AI {kv:Value}:∀ (es:List (Value×Value)) (v:Value),wR kv es=some v->(kv,v)∈es
 | [],_,h=>by simp[wR] at h
 | (k,u)::r,v,h=>by
  simp only[wR] at h;split at h
  ·rename_i e;rw[rJ e];cases h;exact mem_cons_self
  ·exact mem_cons_of_mem _ (AI r v h)
theorem xQ {kv:Value}(hc:I9 kv=true):∀ (es:List (Value×Value)),(es.map (·.1)).Nodup->∀ v,(kv,v)∈es->wR kv es=some v
 | [],_,v,hx=>by cases hx
 | (k,u)::r,hn,v,hx=>by
  simp only[map_cons,nodup_cons] at hn;simp only[wR];rcases mem_cons.1 hx with e | hx
  ·cases e;rw[if_pos (qk hc)]
  ·rw[if_neg (λ e=>hn.1 (mem_map.2 ⟨(kv,v),hx,rJ e⟩))];exact xQ hc r hn.2 v hx
theorem xN {kv vv:Value}:∀ (es:List (Value×Value)) (x:Value×Value),x∈pj kv vv es->x.1=kv\/x∈es
 | [],x,h=>by simp only[pj,mem_singleton] at h;exact .inl (by rw[h])
 | (k,u)::r,x,h=>by
  simp only[pj] at h;split at h
  ·rcases mem_cons.1 h with e | h
   ·exact .inl (by rw[e])
   ·exact .inr (mem_cons_of_mem _ h)
  ·rcases mem_cons.1 h with e | h
   ·exact .inr (by rw[e];exact mem_cons_self)
   ·rcases xN r x h with h | h
    ·exact .inl h
    ·exact .inr (mem_cons_of_mem _ h)
theorem vz {kv vv:Value}(hc:I9 kv=true):∀ (es:List (Value×Value)),(es.map (·.1)).Nodup->((pj kv vv es).map (·.1)).Nodup
 | [],_=>by simp[pj]
 | (k,u)::r,hn=>by
  simp only[map_cons,nodup_cons] at hn;simp only[pj];split
  ·rename_i e;have:=rJ e;subst this
   simpa using hn
  ·rename_i e;simp only[map_cons,nodup_cons];refine⟨λ hm=>?_,vz hc r hn.2⟩;obtain⟨x,hx,e2⟩:=mem_map.1 hm;rcases xN r x hx with h | h
   ·rw[h] at e2;subst e2;exact e (qk hc)
   ·exact hn.1 (mem_map.2 ⟨x,h,e2⟩)
def cv1:CV->Option Value
 | .int k n=>some (.int k n)
 | .bool b=>some (.bool b)
 | .str s=>some (.string s)
 | _=>none
def Nf:List CV->Option (List Value)
 | []=>some []
 | c::r=>match cv1 c,Nf r with
  | some v,some vs=>some (v::vs)
  | _,_=>none
def ju:CV->Option Value
 | .agg cs=>match Nf cs with
  | some vs=>some (.agg vs.toArray)
  | none=>none
 | c=>cv1 c
section
variable {P:Program}{C:Cx}{σ:Nat->Option OB}{s:St}{a:Act}{w:World}{ops:Array Oper}{av:List (Nat×TI)}
theorem Io {F:Nat->Prop}{c:CV}{v u:Value}(h:cv1 c=some v)(hv:VR w F σ c u):u=v/\zw v=true:=by
 cases c<;>simp only[cv1] at h<;>first | cases h | skip
 all_goals
  simp only[VR] at hv;exact⟨hv,rfl⟩
theorem Il {F:Nat->Prop}:∀ (cs:List CV) (vs us:List Value),Nf cs=some vs->a7 w F σ cs us->us=vs/\vs.all zw=true
 | [],vs,us,h,hv=>by
  simp only[Nf] at h;cases h;simp only[a7] at hv;exact⟨hv,rfl⟩
 | c::cs,vs,us,h,hv=>by
  simp only[Nf] at h;split at h
  ·rename_i v vs' h1 h2;cases h;simp only[a7] at hv;obtain⟨u,r,rfl,k1,k2⟩:=hv;obtain⟨q1,q2⟩:=Io h1 k1;obtain⟨q3,q4⟩:=Il cs vs' r h2 k2;exact⟨by rw[q1,q3],by simp[q2,q4]⟩
  ·cases h
theorem kz {F:Nat->Prop}{c:CV}{v u:Value}(h:ju c=some v)(hv:VR w F σ c u):u=v/\I9 v=true:=by
 unfold ju at h;split at h
 ·rename_i cs;split at h
  ·rename_i vs hvs;cases h;simp only[VR] at hv;obtain⟨us,rfl,hr,_⟩:=hv;obtain⟨q1,q2⟩:=Il _ _ _ hvs hr;exact⟨by rw[q1],by simpa [I9] using q2⟩
  ·cases h
 ·obtain⟨q1,q2⟩:=Io h hv;refine⟨q1,?_⟩;cases v<;>simp_all [I9,zw]
structure NC (P:Program)(t kt et:TypeId)(kb:Value->Bool)(zv:Value):Prop where
 zJ:P.underlying t=some (.map kt et)
 keyed:Go.Maps.Keyed P kt
 key:∀ v,kb v=true->∃ l,keyOf P kt v=some l
 zero:∃ f,P.info? et=some f/\f.zero=some zv
theorem Fv {t kt et:TypeId}{kb:Value->Bool}{zv:Value}(M:NC P t kt et kb zv){o:Oper}{x y:Operand}{k:Nat}{es:List (Value×Value)}{cy c:CV}{kv:Value}(hd:bl C.nt o.dst=true)(ho:o.op=.lookup t x y false)
  (hx:ev s x=some (.mp k es)) (hy:ev s y=some cy) (hk:ju cy=some kv) (hkb:kb kv=true) (hes:(es.all λ e=>kb e.1)=true)
  (hc:(match wR kv es with | some v=>gD v | none=>gD zv)=some c):qh P C o s (s.put o.dst c):=by
 rintro a w ⟨σ,h⟩;have hv:=bG h hx;simp only[VR] at hv;obtain⟨B,r,arr,clock,hB,hb,hv,hr,RD,QU,hf⟩:=hv;obtain⟨hkv,V6⟩:=kz hk (bG h hy);obtain⟨l,hl⟩:=M.key kv hkb;have R7:∀ e∈arr.toList,∃ l,keyOf P kt e.key=some l:=λ e he=>by
  have:(e.key,e.val)∈es:=by rw[<- RD];exact mem_map.2 ⟨e,he,rfl⟩
  exact M.key _ (all_eq_true.1 hes _ this)
 have QX:(getObj r).run P w=.ok (.map arr clock) w:=by simp[getObj,Sem.run,hr]
 have UY:=M.keyed.check w arr.isEmpty hl;obtain⟨f,g1,g2⟩:=M.zero;have P1:∃ u,(Instr.lookup t (.map (some r)) kv false).run P w=.ok u w/\gD u=some c:=by
  rcases M.keyed.find w hl arr.toList R7 with ⟨SF,O9⟩ | ⟨j,e,SF,O9,RV⟩
  ·have Qc:wR kv es=none:=by
    cases hm:wR kv es with
    | none=>rfl
    | some v=>
     exfalso;have:=AI es v hm;rw[<- RD] at this;obtain⟨e,he,e2⟩:=mem_map.1 this;simp only[Prod.mk.injEq] at e2;exact O9 e he e2.1
   rw[Qc] at hc;refine⟨zv,?_,hc⟩;have hzr:=ig (P:=P) g1 g2 w;simp[Instr.lookup,bH M.zJ,QX,UY,SF,hzr]
  ·have QA:(kv,e.val)∈es:=by
    rw[<- RD];exact mem_map.2 ⟨e,mem_of_getElem? O9,by rw[RV]⟩
   rw[xQ V6 es QU _ QA] at hc;refine⟨e.val,?_,hc⟩;simp[Instr.lookup,bH M.zJ,QX,UY,SF]
 obtain⟨u,k1,k2⟩:=P1;refine⟨w,.inl ⟨u,?_,dX hd h (VR.cS _ _ (kY k2).1)⟩⟩;simp[execOp,ho,hv,hkv,k1]
def HJ (k:Nat):CV->Bool
 | .mp k' _=>k' == k
 | _=>false
def isIt:CV->Bool
 | .iter _ _ _=>true
 | _=>false
def MN (k:Nat)(es:List (Value×Value)):List (Nat×CV)->List (Nat×CV)
 | []=>[]
 | (t,c)::r=>(t,if HJ k c then .mp k es else c)::MN k es r
theorem yk {k:Nat}{es:List (Value×Value)}:∀ (l:List (Nat×CV)) (t:Nat) (c:CV),assoc (MN k es l) t=some c->∃ d,assoc l t=some d/\c=if HJ k d then .mp k es else d
 | [],t,c,h=>by simp[MN,assoc] at h
 | (u,d)::r,t,c,h=>by
  simp only[MN,assoc] at h |-;split at h
  ·rename_i e;cases h;rw[if_pos e];exact⟨d,rfl,rfl⟩
  ·rename_i e;rw[if_neg e];exact yk r t c h
def Gr (s:St)(k:Nat):Bool:=(s.env.all λ x=>lv x.2 || HJ k x.2 || isIt x.2) && s.heap.all λ x=>jP x.2.cells
theorem sX {kv vv:Value}:∀ (es:List (Value×Value)),(∀ x∈es,x.1≠kv)->pj kv vv es=es++[(kv,vv)]
 | [],_=>rfl
 | (k,u)::r,h=>by
  simp only[pj];rw[if_neg (λ e=>h (k,u) mem_cons_self (rJ e).symm),sX r λ x hx=>h x (mem_cons_of_mem _ hx)];rfl
theorem DU {kv vv:Value}(hc:I9 kv=true):∀ (es:List (Value×Value)) (j:Nat) (v:Value),(es.map (·.1)).Nodup->es[j]? = some (kv,v)->pj kv vv es=es.set j (kv,vv)
 | [],j,v,_,h=>by simp at h
 | (k,u)::r,0,v,_,h=>by
  simp only[getElem?_cons_zero,Option.some.injEq,Prod.mk.injEq] at h;simp only[pj,h.1];rw[if_pos (qk hc)];rfl
 | (k,u)::r,j+1,v,hn,h=>by
  simp only[map_cons,nodup_cons] at hn;simp only[getElem?_cons_succ] at h;simp only[pj];rw[if_neg (λ e=>hn.1 (mem_map.2 ⟨(kv,v),mem_of_getElem? h,rJ e⟩)),DU hc r j v hn.2 h];rfl
theorem Ft {t kt et:TypeId}{kb:Value->Bool}{zv:Value}(M:NC P t kt et kb zv){o:Oper}{x y v:Operand}{k:Nat}{es:List (Value×Value)}{cy cv:CV}{kv vv:Value}(_hd:bl C.nt o.dst=true)(ho:o.op=.mapUpdate t x y v)
  (hx:ev s x=some (.mp k es)) (hy:ev s y=some cy) (hk:ju cy=some kv) (hv0:ev s v=some cv) (hvv:ju cv=some vv) (hkb:kb kv=true) (hes:(es.all λ e=>kb e.1)=true) (hk0:C.n0<=k) (O8:Gr s k=true) :
  qh P C o s (St.del { s with env:=MN k (pj kv vv es) s.env } o.dst):=by
 rintro a w ⟨σ,h⟩;have hv:=bG h hx;simp only[VR] at hv;obtain⟨B,r,arr,clock,hB,hb,hv,hr,RD,QU,hf⟩:=hv;obtain⟨hkv,V6⟩:=kz hk (bG h hy);obtain⟨QQ,_⟩:=kz hvv (bG h hv0);obtain⟨l,hl⟩:=M.key kv hkb;have Y2:=(Array.getElem?_eq_some_iff.1 hr).1;have R7:∀ e∈arr.toList,∃ l,keyOf P kt e.key=some l:=λ e he=>by
  have:(e.key,e.val)∈es:=by rw[<- RD];exact mem_map.2 ⟨e,he,rfl⟩
  exact M.key _ (all_eq_true.1 hes _ this)
 have QX:(getObj r).run P w=.ok (.map arr clock) w:=by simp[getObj,Sem.run,hr]
 have O6:∀ q,(setObj r q).run P w=.ok () { w with heap:=w.heap.setIfInBounds r q }:=λ q=>by simp[setObj,Sem.run,hr]
 have UY:=M.keyed.check w false hl;have P1:∃ Ud RH,(Instr.mapUpdate t (.map (some r)) kv vv).run P w=.ok () { w with heap:=w.heap.setIfInBounds r (.map Ud RH) }/\Ud.toList.map (λ e=>(e.key,e.val))=pj kv vv es:=by
  rcases M.keyed.find w hl arr.toList R7 with ⟨SF,O9⟩ | ⟨j,e,SF,O9,RV⟩
  ·refine⟨arr.push { key:=kv,val:=vv,born:=clock },clock+1,?_,?_⟩
   ·simp[Instr.mapUpdate,bH M.zJ,QX,UY,SF,O6]
   ·rw[sX es λ x hx=>by
     rw[<- RD] at hx;obtain⟨e,he,rfl⟩:=mem_map.1 hx;exact O9 e he,<- RD]
    simp
  ·have YU:=M.keyed.stays w hl;have hj:arr[j]? = some e:=by simpa using O9
   refine⟨arr.modify j λ e=>{ e with key:=kv,val:=vv },clock,?_,?_⟩
   ·simp[Instr.mapUpdate,bH M.zJ,QX,UY,SF,hj,RV,YU,O6]
   ·have Xg:es[j]? = some (kv,e.val):=by
     rw[<- RD,getElem?_map,O9];simp[RV]
    rw[DU V6 es j e.val QU Xg,<- RD];apply ext_getElem?;intro i;simp only[getElem?_map,getElem?_set,Array.getElem?_toList,Array.getElem?_modify,length_map,Array.length_toList];by_cases Rg:j=i
    ·subst Rg;have QL:=(Array.getElem?_eq_some_iff.1 hj).1;rw[if_pos rfl,if_pos rfl,if_pos QL,hj];rfl
    ·rw[if_neg Rg,if_neg Rg]
 obtain⟨Ud,RH,k1,k2⟩:=P1;simp only[Gr,Bool.and_eq_true,all_eq_true,Bool.or_eq_true] at O8;generalize PT:({ w with heap:=w.heap.setIfInBounds r (.map Ud RH) }:World)=w' at k1;have PD:∀ j,j≠r->w'.heap[j]? = w.heap[j]?:=λ j hj=>by simp[<- PT,Ne.symm hj]
 have Qu:w'.heap[r]? = some (.map Ud RH):=by simp[<- PT,Y2]
 have O0:w'.heap.size=w.heap.size:=by simp[<- PT]
 have Zr:∀ F:Nat->Prop,nj w w' F F:=λ F ad u hf hu=>by
  have Pp:ad.block≠r:=λ e=>by
   unfold World.cell? at hu;rw[e,hr] at hu;cases hu
  exact⟨by rw[World.cell?_of_block (PD _ Pp)];exact hu,hf⟩
 have h':aO C σ { s with env:=MN k (pj kv vv es) s.env } a w':=by
  refine⟨h.oz,h.tm,(by rw[<- PT];exact h.os),(by rw[<- PT];exact h.tape),(by rw[<- PT];exact h.output),by rw[O0];exact h.size,?_,?_,?_,h.inj,h.nx,h.fX,h.low,h.new⟩
  ·intro j hj1 Xg;rw[PD j (λ e=>?_)]
   ·exact h.frame j hj1 Xg
   ·subst e;rcases h.new k B j hk0 hB hb with n4 | n4
    ·exact Xg n4
    ·omega
  ·intro t c hc;obtain⟨d,PG,rfl⟩:=yk _ _ _ hc;obtain⟨v,q1,q2⟩:=h.env t d PG;refine⟨v,q1,?_⟩;by_cases hi:HJ k d=true
   ·rw[if_pos hi];cases d<;>simp only[HJ,Bool.false_eq_true] at hi;rename_i k' es';have:k'=k:=by simpa using hi
    subst this;simp only[VR] at q2 |-;obtain⟨B2,r2,arr2,clock2,m1,m2,m3,m4,m5,m6,m7⟩:=q2;rw[hB] at m1;cases m1;rw[hb] at m2;cases m2;exact⟨B,r,Ud,RH,hB,hb,m3,Qu,k2,vz V6 es QU,m7⟩
   ·rw[if_neg hi];rcases O8.1 _ (bF _ _ _ PG) with (q | q) | q
    ·exact VR.oo (Zr _) _ _ q q2
    ·exact absurd q hi
    ·cases d<;>simp only[isIt,Bool.false_eq_true] at q;simp only[VR] at q2 |-;obtain⟨B2,r2,m1,m2,m3,m4,m5⟩:=q2;have Pp:r2≠r:=λ e=>by rw[e,hr] at m4;cases m4
     exact⟨B2,r2,m1,m2,m3,by rw[PD r2 Pp];exact m4,m5⟩
  ·intro q y hq;obtain⟨B2,m1,m2,m3,m4,m5⟩:=h.obj q y hq;refine⟨B2,m1,m2,m3,m4,λ b2 Q0=>?_⟩;obtain⟨Tx,q1,q2,q3,q4,q5,q6⟩:=m5 b2 Q0;have Pp:b2≠r:=λ e=>by subst e;rw[hr] at q1;cases q1
   exact⟨Tx,by rw[PD b2 Pp];exact q1,q2,q3,q4,q5,a7.oo (Zr _) _ _ (O8.2 _ (bF _ _ _ hq)) q6⟩
 refine⟨w',.inr ⟨?_,σ,h'.del undef⟩⟩;simp[execOp,ho,hv,hkv,QQ,k1]
structure MI where
 t:Nat
 kt:Nat
 et:Nat
 kb:Value->Bool
 zv:Value
def ND (P:Program)(l:List MI):Prop:=∀ x∈l,NC P x.t x.kt x.et x.kb x.zv
def Ow:List MI->Nat->Option MI
 | [],_=>none
 | x::r,t=>if x.t=t then some x else Ow r t
theorem za:∀ (l:List MI) (t:Nat) (x:MI),Ow l t=some x->x∈l/\x.t=t
 | [],_,_,h=>by simp[Ow] at h
 | y::r,t,x,h=>by
  simp only[Ow] at h;split at h
  ·rename_i e;cases h;exact⟨mem_cons_self,e⟩
  ·obtain⟨h1,h2⟩:=za r t x h;exact⟨mem_cons_of_mem _ h1,h2⟩
def Ht (mi:List MI)(n0:Nat)(s:St)(o:Oper):Option St:=
 match o.op with
 | .lookup t x y false=>match Ow mi t,ev s x,ev s y with
  | some M,some (.mp _ es),some cy=>match ju cy with
   | some kv=>if M.kb kv=true/\(es.all λ e=>M.kb e.1)=true then
     match (match wR kv es with | some v=>gD v | none=>gD M.zv) with
     | some c=>some (s.put o.dst c)
     | none=>none
    else none
   | none=>none
  | _,_,_=>none
 | .mapUpdate t x y v=>match Ow mi t,ev s x,ev s y,ev s v with
  | some M,some (.mp k es),some cy,some cv=>match ju cy,ju cv with
   | some kv,some vv=>if M.kb kv=true/\(es.all λ e=>M.kb e.1)=true/\n0<=k/\Gr s k=true then some (St.del { s with env:=MN k (pj kv vv es) s.env } o.dst) else none
   | _,_=>none
  | _,_,_,_=>none
 | _=>none
theorem Hr {mi:List MI}(hM:ND P mi){o:Oper}{s':St}(hd:bl C.nt o.dst=true)(h:Ht mi C.n0 s o=some s'):qh P C o s s':=by
 unfold Ht at h;split at h
 ·rename_i t x y ho;split at h
  ·rename_i M k es cy h1 h2 h3;obtain⟨m1,m2⟩:=za _ _ _ h1;have hT:=hM M m1;rw[m2] at hT;split at h
   ·rename_i kv h4;split at h
    ·rename_i hc;split at h
     ·rename_i c h5;cases h;exact Fv hT hd ho h2 h3 h4 hc.1 hc.2 h5
     ·cases h
    ·cases h
   ·cases h
  ·cases h
 ·rename_i t x y v ho;split at h
  ·rename_i M k es cy cv h1 h2 h3 h4;obtain⟨m1,m2⟩:=za _ _ _ h1;have hT:=hM M m1;rw[m2] at hT;split at h
   ·rename_i kv vv h5 h6;split at h
    ·rename_i hc;cases h;exact Ft hT hd ho h2 h3 h5 h4 h6 hc.1 hc.2.1 hc.2.2.1 hc.2.2.2
    ·cases h
   ·cases h
  ·cases h
 ·cases h
def zM (n:Int):Bool:=decide (-9223372036854775808<=n) && decide (n<=9223372036854775807)
structure EqT (P:Program)(t:TypeId)(kb:Value->Bool):Prop where
 eq:∀ (w:World) (x y:Value),kb x=true->kb y=true->(Op.equalIn 10000 t x y).run P w=.ok (wJ x y) w
 guard:P.eqGuardType P.depth t=false
 agg:∀ x,kb x=true->∃ cs,x=.agg cs
structure EI where
 t:Nat
 kb:Value->Bool
def IY (P:Program)(l:List EI):Prop:=∀ x∈l,EqT P x.t x.kb
def M8:List EI->Nat->Option EI
 | [],_=>none
 | x::r,t=>if x.t=t then some x else M8 r t
theorem D8:∀ (l:List EI) (t:Nat) (x:EI),M8 l t=some x->x∈l/\x.t=t
 | [],_,_,h=>by simp[M8] at h
 | y::r,t,x,h=>by
  simp only[M8] at h;split at h
  ·rename_i e;cases h;exact⟨mem_cons_self,e⟩
  ·obtain⟨h1,h2⟩:=D8 r t x h;exact⟨mem_cons_of_mem _ h1,h2⟩
def Bm (ei:List EI)(s:St)(o:Oper):Option St:=
 match o.op with
 | .binOp op t x y _=>match M8 ei t,ev s x,ev s y with
  | some E,some cx,some cy=>match ju cx,ju cy with
   | some vx,some vy=>if E.kb vx=true/\E.kb vy=true then match op with
     | .eql=>some (s.put o.dst (.bool (wJ vx vy)))
     | .neq=>some (s.put o.dst (.bool (!(wJ vx vy))))
     | _=>none
    else none
   | _,_=>none
  | _,_,_=>none
 | _=>none
theorem vS {ei:List EI}(hE:IY P ei){o:Oper}{s':St}(hd:bl C.nt o.dst=true)(h:Bm ei s o=some s'):qh P C o s s':=by
 unfold Bm at h;split at h
 ·rename_i op t x y q ho;split at h
  ·rename_i E cx cy h1 h2 h3;obtain⟨m1,m2⟩:=D8 _ _ _ h1;have hT:=hE E m1;rw[m2] at hT;split at h
   ·rename_i vx vy h4 h5;split at h
    ·rename_i hc;rintro a w ⟨σ,hr⟩;obtain⟨e1,_⟩:=kz h4 (bG hr h2);obtain⟨e2,_⟩:=kz h5 (bG hr h3);obtain⟨xs,rfl⟩:=hT.agg vx hc.1;obtain⟨ys,rfl⟩:=hT.agg vy hc.2;have hq:=hT.eq w _ _ hc.1 hc.2;split at h
     ·cases h;refine⟨w,.inl ⟨.bool (wJ (.agg xs) (.agg ys)),?_,dX hd hr (dL _)⟩⟩;simp only[execOp,ho,e1,e2,Sem.run_bind,run_eqGuard_agg w _ t x y xs ys hT.guard,Result.andThen_ok,run_eql_struct,hq,Sem.run_pure]
     ·cases h;refine⟨w,.inl ⟨.bool (!(wJ (.agg xs) (.agg ys))),?_,dX hd hr (dL _)⟩⟩;simp only[execOp,ho,e1,e2,Sem.run_bind,run_eqGuard_agg w _ t x y xs ys hT.guard,Result.andThen_ok,run_neq_struct,hq,Sem.run_pure]
     ·cases h
    ·cases h
   ·cases h
  ·cases h
 ·cases h
def frzA (s:St)(p:Nat)(ob:Ob)(d:Option Tmp)(n:Nat):St:=(s.cF p ob).put d (.au ob.cells n)
theorem L7 (ht:aD P av){o:Oper}{t e:TypeId}{x:Operand}{p n:Nat}{ob:Ob}{ie:TI}(hd:bl C.nt o.dst=true)(ho:o.op=.slice t x none none none)(hx:ev s x=some (.ax p 0))(h2:dM av t=some (.arr n e))(OV:assoc av e=some ie)
  (hn:0<n) (hm:n<=1000000) (QT:assoc s.heap p=some ob) (O1:trees ob.cells=true):qh P C o s (frzA s p ob o.dst n):=by
 rintro a w ⟨σ,h⟩;obtain⟨i2,b1,b2,_⟩:=eY ht h2;have g2:=oH (ht t i2 b1) b2;obtain⟨f,z,g3,_⟩:=(ht e ie OV).info;have h':=h.cF QT O1;have X4:∃ v,a.eval x=v/\VR w (FB C σ (s.cF p ob).heap) σ (.de ob.cells) v:=by
  cases x with
  | tmp t=>
   have QD:assoc s.env t=some (.ax p 0):=hx;have:∀ l:List (Nat×CV),assoc l t=some (.ax p 0)->assoc (wU p ob.cells ob.sz l) t=some (.de ob.cells):=by
    intro l
    induction l with
    | nil=>intro h;cases h
    | cons y r ih=>
     obtain⟨k,c⟩:=y;intro hl;simp only[wU,assoc] at hl |-;split at hl
     ·rename_i e;cases hl;rw[if_pos e];simp[cK]
     ·rename_i e;rw[if_neg e];exact ih hl
   obtain⟨v,k1,k2⟩:=h'.env t _ (this s.env QD);exact⟨v,by simp[Act.eval,k1],k2⟩
  | const v=>exact absurd hx (by
    simp only[ev];intro hc;have:=mS (w:=w) (F:=λ _=>False) hc;simp[cr] at this)
  | func f=>cases hx
  | global g=>
   simp only[ev,Option.bind_eq_some_iff,Option.map_eq_some_iff] at hx;obtain⟨_,_,_,_,h⟩:=hx;cases h
 obtain⟨v,hv,hvr⟩:=X4;simp only[VR,cr] at hvr;obtain⟨ad,rfl,hmr⟩:=hvr;refine⟨w,.inl ⟨.slice (some ad) n n,?_,dX hd h' ?_⟩⟩
 ·have T2:(Instr.sliceBounds false n n none none none).run P w=.ok (0,n,n) w:=by simp[Instr.sliceBounds]
  have Pp:¬ n=0:=by omega
  have:(Instr.sliceAt t (.pointer (some ad)) none none none).run P w=.ok (.slice (some ad) n n) w:=by
   simp[Instr.sliceAt,bH g2,Instr.sureAddr,T2,db g3,Pp,add_zero]
  simp[execOp,ho,hv,this]
 ·simp only[VR,cr];exact⟨_,n,rfl,Nat.le_refl _,by simp only[maxLen];omega,.inr ⟨ad,rfl,hmr⟩⟩
def IG (av:List (Nat×TI))(s:St)(o:Oper):Option St:=
 match o.op with
 | .slice t x none none none=>match ev s x,dM av t with
  | some (.ax p 0),some (.arr n e)=>match assoc av e,assoc s.heap p with
   | some _,some ob=>if 0<n/\n<=1000000/\trees ob.cells=true then some (frzA s p ob o.dst n) else none
   | _,_=>none
  | _,_=>none
 | _=>none
theorem IF (ht:aD P av){o:Oper}{s':St}(hd:bl C.nt o.dst=true)(h:IG av s o=some s'):qh P C o s s':=by
 unfold IG at h;split at h
 ·rename_i t x ho;split at h
  ·rename_i p n e hx h2;split at h
   ·rename_i ie ob h3 h4;split at h
    ·rename_i hc;cases h;exact L7 ht hd ho hx h2 h3 hc.1 hc.2.1 h4 hc.2.2
    ·cases h
   ·cases h
  ·cases h
 ·cases h
end
end Go.Can
