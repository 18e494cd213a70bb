/- program: the text of a pro -/
import Derived.Test.YtlkmbdfhdknlgaaGreatZ28
namespace Go.Proofs.YtlkmbdfhdknlgaaGreat
open Go.Can Go.aJ List Tryz
def J91a (p:Pg)(X:ByteArray)(n:Nat)(s:St):Prop:=∃ (i:Nat) (x:ByteArray),n=p.gs.length-i/\i<=p.gs.length/\x++(j3 Ot (p.gs.drop i)++j3 MU p.ms++j3 Iv p.fs)=X/\s=⟨[(4,I i),(3,.str x),(1,.aw 0 0)],[(0,⟨27,0,fo p⟩)],1⟩
def J91b (p:Pg)(X:ByteArray)(n:Nat)(s:St):Prop:=∃ (i:Nat) (x:ByteArray),n=p.ms.length-i/\i<=p.ms.length/\x++(j3 MU (p.ms.drop i)++j3 Iv p.fs)=X/\s=⟨[(5,I i),(3,.str x),(1,.aw 0 0)],[(0,⟨27,0,fo p⟩)],1⟩
def J91c (p:Pg)(X:ByteArray)(n:Nat)(s:St):Prop:=∃ (i:Nat) (x:ByteArray),n=p.fs.length-i/\i<=p.fs.length/\x++j3 Iv (p.fs.drop i)=X/\s=⟨[(7,I i),(3,.str x),(1,.aw 0 0)],[(0,⟨27,0,fo p⟩)],1⟩
def J91d (p:Pg)(i:Nat)(nm:ByteArray)(ps:List Pm)(bd:List Sm)(Y:ByteArray)(n:Nat)(s:St):Prop:=∃ (q:Nat) (z:ByteArray),n=ps.length-q/\q<=ps.length/\z++wQ (decide (q=0)) (ps.drop q)=Y/\s=⟨[(9,I q),(8,.aw 1 0),(7,I i),(3,.str z),(1,.aw 0 0)],[(0,⟨27,0,fo p⟩),(1,⟨136,0,fL ⟨nm,ps,bd⟩⟩)],2⟩
theorem AY (b:ByteArray):(⟨#[]⟩:ByteArray)++b=b:=ByteArray.empty_append
theorem nS (b:ByteArray):b++(⟨#[]⟩:ByteArray)=b:=ByteArray.append_empty
set_option maxHeartbeats 8000000 in
theorem Ce (p:Pg)(R0:(Hz p).size<=1000000)(h1:p.gs.length<=100)(h2:p.ms.length<=100)(h3:p.fs.length<=100)(hg:∀ g∈p.gs,-1000<=g.init/\g.init<=1000)(hm:∀ m∈p.ms,m.size<=1000)
  (hf:∀ f∈p.fs,f.params.length<=100/\ae prog 165 [.ax (bO f.body) f.body.length,.str ⟨#[9]⟩] (.str (jF ⟨#[9]⟩ f.body))):ae prog 128 [y9 p] (.str (Hz p)):=by
 obtain⟨X,hX⟩:∃ X,Hz p=X:=⟨_,rfl⟩;rw[hX] at R0 |-;unfold Hz at hX;have fg:=λ (k:Nat) (a:Gl) (h:p.gs[k]? = some a)=>aI (f:=qk) (n:=2) (λ _=>rfl) h;have fg1:=λ (k:Nat) (a:Gl) (h:p.gs[k]? = some a)=>b9 (f:=qk) (n:=2) (λ _=>rfl) h 1 yA;have fm:=λ (k:Nat) (a:Mx) (h:p.ms[k]? = some a)=>aI (f:=cH) (n:=3) (λ _=>rfl) h;have ff:=λ (k:Nat) (a:Fu) (h:p.fs[k]? = some a)=>aI (f:=fL) (n:=3) (λ _=>rfl) h;refine ae.aE ah Tryz.func128 rfl Ix (by simp[Tryz.ntmps128]) rfl λ C hC RR=>?_;rw[Tryz.ntmps128] at hC;apply aq;simp[hC,y9,fo];apply aq;simp[hC];refine T.cut (λ s=>∃ x,x++(j3 MU p.ms++j3 Iv p.fs)=X/\s=⟨[(3,.str x),(1,.aw 0 0)],[(0,⟨27,0,fo p⟩)],1⟩) ?_ ?_
 ·apply aq;simp[hC];apply T.block;refine T.aH (J91a p X) (n:=p.gs.length) ?_ ?_
  ·refine aa.trim [4,3,1] [0] 1 xr yA ⟨0,⟨#[]⟩,by omega,by omega,?_,?_⟩
   ·rw[AY];exact hX
   ·simp[fo]
  ·rintro n s ⟨i,x,rfl,hi,hx,rfl⟩;by_cases Og:i<p.gs.length
   ·obtain⟨a,SH⟩:∃ a,p.gs[i]? = some a:=⟨p.gs[i],getElem?_eq_getElem Og⟩;have Qd:=fg i a SH;have TF:=fg1 i a SH;have R4:=hg a (mem_of_getElem? SH);have wi:=cF ((i:Int)+1) yA yA;have hd:p.gs.drop i=a::p.gs.drop (i+1):=by
     rw[drop_eq_getElem_cons Og,(List.getElem?_eq_some_iff.1 SH).2]
    rw[hd,j3] at hx;have hz:=congrArg ByteArray.size hx;simp only[Ot,BQ,ByteArray.size_append] at hz;have s0:=aA x ⟨#[118,97,114,32]⟩ yA;have s1:=aA (x++⟨#[118,97,114,32]⟩) a.name WQ;apply aW;simp[hC,Og,fo];refine gw ?_;simp;apply eN;apply aq;simp[hC,Og,Qd,qk,s0,s1];by_cases h0:a.init=0
    ·rw[if_pos h0] at hz;have s2:=aA (x++⟨#[118,97,114,32]⟩++a.name) ⟨#[59,10]⟩ WQ;apply aW;simp[hC,Og,Qd,qk,h0];refine fX ?_;simp;apply aN;simp[hC,s2];apply aN;simp[hC,wi];refine⟨p.gs.length-(i+1),by omega,?_⟩;refine aa.trim [4,3,1] [0] 1 xr yA ⟨i+1,x++⟨#[118,97,114,32]⟩++a.name++⟨#[59,10]⟩,rfl,by omega,?_,?_⟩
     ·rw[<- hx,Ot,if_pos h0,nS];simp only[BQ,ByteArray.append_assoc]
     ·simp[fo]
    ·rw[if_neg h0] at hz;simp only[I1,ByteArray.size_append] at hz;have h0b:(a.init != 0)=true:=by simp[h0]
     have s2:=aA (x++⟨#[118,97,114,32]⟩++a.name) ⟨#[32,61,32]⟩ WQ;have s3:=aA (x++⟨#[118,97,114,32]⟩++a.name++⟨#[32,61,32]⟩) (lW a.init) WQ;have s4:=aA (x++⟨#[118,97,114,32]⟩++a.name++⟨#[32,61,32]⟩++lW a.init) ⟨#[59,10]⟩ WQ;apply aW;simp[hC,Og,Qd,qk,h0b];refine dy ?_;simp;apply aN;simp[hC,Og,Qd,qk,s2];refine cX R2 (qB a.init yA yA) ?_;simp[hC,s3];apply aN;simp[hC,s4];apply aN;simp[hC,wi];refine⟨p.gs.length-(i+1),by omega,?_⟩;refine aa.trim [4,3,1] [0] 1 xr yA ⟨i+1,x++⟨#[118,97,114,32]⟩++a.name++⟨#[32,61,32]⟩++lW a.init++⟨#[59,10]⟩,rfl,by omega,?_,?_⟩
     ·rw[<- hx,Ot,if_neg h0];simp only[BQ,I1,ByteArray.append_assoc]
     ·simp[fo]
   ·have RU:i=p.gs.length:=by omega
    rw[RU,drop_length,j3,AY] at hx;apply aW;simp[hC,Og,fo];refine a9 ?_;simp;apply T.exit;simp;refine aa.trim [3,1] [0] 1 xr yA ⟨x,hx,?_⟩;simp
 rintro s ⟨x0,ZN,rfl⟩;clear hX;refine T.cut (λ s=>∃ x,x++j3 Iv p.fs=X/\s=⟨[(3,.str x),(1,.aw 0 0)],[(0,⟨27,0,fo p⟩)],1⟩) ?_ ?_
 ·apply aq;simp[hC];apply T.block;refine T.aH (J91b p X) (n:=p.ms.length) ?_ ?_
  ·refine aa.trim [5,3,1] [0] 1 Wb yA ⟨0,x0,by omega,by omega,ZN,?_⟩;simp
  ·rintro n s ⟨i,x,rfl,hi,hx,rfl⟩;by_cases Og:i<p.ms.length
   ·obtain⟨a,SH⟩:∃ a,p.ms[i]? = some a:=⟨p.ms[i],getElem?_eq_getElem Og⟩;have Qd:=fm i a SH;have R4:=hm a (mem_of_getElem? SH);have wi:=cF ((i:Int)+1) yA yA;have hd:p.ms.drop i=a::p.ms.drop (i+1):=by
     rw[drop_eq_getElem_cons Og,(List.getElem?_eq_some_iff.1 SH).2]
    rw[hd,j3,MU] at hx;have hz:=congrArg ByteArray.size hx;simp only[ByteArray.size_append] at hz;apply aW;simp[hC,Og,fo];refine gw ?_;simp;apply eN;apply aq;simp[hC,Og,Qd,cH];obtain⟨y,hy⟩:∃ y,x++(if a.re=true then ⟨#[114]⟩ else ⟨#[]⟩)=y:=⟨_,rfl⟩;have hys:y.size=x.size+(if a.re=true then (⟨#[114]⟩:ByteArray) else ⟨#[]⟩).size:=by rw[<- hy,ByteArray.size_append]
    have hyX:y.size<=1000000:=by omega
    refine T.cut (λ s=>s=⟨[(6,.aw 1 0),(5,I i),(3,.str y),(1,.aw 0 0)],[(0,⟨27,0,fo p⟩),(1,⟨98,0,cH a⟩)],2⟩) ?_ ?_
    ·apply aq;simp[hC];refine T.cond (b:=a.re) rfl ?_
     cases Ui:a.re with
     | true=>
      rw[Ui,if_pos rfl] at hy hys;have s0:=aA x ⟨#[114]⟩ yA;simp;apply aN;simp[hC,s0];refine aa.trim [6,5,3,1] [0,1] 2 xr yA ?_;simp[<- hy,cH,Ui,fo]
     | false=>
      rw[Ui,if_neg xr,nS] at hy;simp;apply T.skip;simp;refine aa.trim [6,5,3,1] [0,1] 2 xr yA ?_;simp[<- hy,cH,Ui,fo]
    rintro s rfl;have s1:=aA y ⟨#[109,117,116,101,120,32]⟩ yA;have s2:=aA (y++⟨#[109,117,116,101,120,32]⟩) a.name WQ;apply aq;simp[hC,s1,s2,cH];have UG:y++(⟨#[109,117,116,101,120,32]⟩++a.name++(if a.size=0 then ⟨#[]⟩ else ⟨#[91]⟩++lW a.size++⟨#[93]⟩)++⟨#[59,10]⟩++(j3 MU (p.ms.drop (i+1))++j3 Iv p.fs))=X:=by
     rw[<- hx,<- hy];simp only[ByteArray.append_assoc]
    by_cases h0:a.size=0
    ·rw[if_pos h0] at hz UG;have s3:=aA (y++⟨#[109,117,116,101,120,32]⟩++a.name) ⟨#[59,10]⟩ WQ;apply aW;simp[hC,h0];refine fX ?_;simp;apply aN;simp[hC,s3];apply aN;simp[hC,wi];refine⟨p.ms.length-(i+1),by omega,?_⟩;refine aa.trim [5,3,1] [0] 1 Wb yA ⟨i+1,y++⟨#[109,117,116,101,120,32]⟩++a.name++⟨#[59,10]⟩,rfl,by omega,?_,?_⟩
     ·rw[<- UG,nS];simp only[ByteArray.append_assoc]
     ·simp[fo]
    ·rw[if_neg h0] at hz UG;simp only[ByteArray.size_append] at hz;have h0b:0<a.size:=by omega
     have s3:=aA (y++⟨#[109,117,116,101,120,32]⟩++a.name) ⟨#[91]⟩ WQ;have s4:=aA (y++⟨#[109,117,116,101,120,32]⟩++a.name++⟨#[91]⟩) (lW a.size) WQ;have s5:=aA (y++⟨#[109,117,116,101,120,32]⟩++a.name++⟨#[91]⟩++lW a.size) ⟨#[93]⟩ WQ;have s6:=aA (y++⟨#[109,117,116,101,120,32]⟩++a.name++⟨#[91]⟩++lW a.size++⟨#[93]⟩) ⟨#[59,10]⟩ WQ;apply aW;simp[hC,h0b];refine dy ?_;simp;apply aN;simp[hC,s3];refine cX R2 (qB (a.size:Int) yA yA) ?_;simp[hC,s4,s5];apply aN;simp[hC,s6];apply aN;simp[hC,wi];refine⟨p.ms.length-(i+1),by omega,?_⟩;refine aa.trim [5,3,1] [0] 1 Wb yA ⟨i+1,y++⟨#[109,117,116,101,120,32]⟩++a.name++⟨#[91]⟩++lW a.size++⟨#[93]⟩++⟨#[59,10]⟩,rfl,by omega,?_,?_⟩
     ·rw[<- UG];simp only[ByteArray.append_assoc]
     ·simp[fo]
   ·have RU:i=p.ms.length:=by omega
    rw[RU,drop_length,j3,AY] at hx;apply aW;simp[hC,Og,fo];refine a9 ?_;simp;apply T.exit;simp;refine aa.trim [3,1] [0] 1 xr yA ⟨x,hx,?_⟩;simp
 rintro s ⟨x1,hx1,rfl⟩;clear ZN;refine T.cut (λ s=>s=⟨[(3,.str X),(1,.aw 0 0)],[(0,⟨27,0,fo p⟩)],1⟩) ?_ ?_
 ·apply aq;simp[hC];apply T.block;refine T.aH (J91c p X) (n:=p.fs.length) ?_ ?_
  ·refine aa.trim [7,3,1] [0] 1 Wb yA ⟨0,x1,by omega,by omega,hx1,?_⟩;simp
  ·rintro n s ⟨i,x,rfl,hi,hx,rfl⟩;by_cases Og:i<p.fs.length
   ·obtain⟨a,SH⟩:∃ a,p.fs[i]? = some a:=⟨p.fs[i],getElem?_eq_getElem Og⟩;have Qd:=ff i a SH;obtain⟨SR,RY⟩:=hf a (mem_of_getElem? SH);have wi:=cF ((i:Int)+1) yA yA;have hd:p.fs.drop i=a::p.fs.drop (i+1):=by
     rw[drop_eq_getElem_cons Og,(List.getElem?_eq_some_iff.1 SH).2]
    rw[hd,j3,Iv] at hx;obtain⟨nm,ps,bd⟩:=a;simp only at hx SR RY;have hz:=congrArg ByteArray.size hx;simp only[ByteArray.size_append] at hz;obtain⟨y,hy⟩:∃ y,x++⟨#[102,117,110,99,32]⟩++nm++⟨#[40]⟩=y:=⟨_,rfl⟩;have hys:y.size=x.size+(⟨#[102,117,110,99,32]⟩:ByteArray).size+nm.size+(⟨#[40]⟩:ByteArray).size:=by rw[<- hy];simp only[ByteArray.size_append]
    obtain⟨Y,hY⟩:∃ Y,y++wQ true ps=Y:=⟨_,rfl⟩;have hYs:Y.size=y.size+(wQ true ps).size:=by rw[<- hY,ByteArray.size_append]
    have UG:Y++(⟨#[41,32,123,10]⟩++jF rv bd++⟨#[125,10]⟩++j3 Iv (p.fs.drop (i+1)))=X:=by
     rw[<- hx,<- hY,<- hy];simp only[ByteArray.append_assoc]
    have s0:=aA x ⟨#[102,117,110,99,32]⟩ yA;have s1:=aA (x++⟨#[102,117,110,99,32]⟩) nm WQ;have s2:=aA (x++⟨#[102,117,110,99,32]⟩++nm) ⟨#[40]⟩ WQ;rw[hy] at s2;apply aW;simp[hC,Og,fo];refine gw ?_;simp;apply eN;apply aq;simp[hC,Og,Qd,fL];apply aq;simp[hC,s0,s1,s2];refine T.cut (λ s=>s=⟨[(8,.aw 1 0),(7,I i),(3,.str Y),(1,.aw 0 0)],[(0,⟨27,0,fo p⟩),(1,⟨136,0,fL ⟨nm,ps,bd⟩⟩)],2⟩) ?_ ?_
    ·apply aq;simp[hC];apply T.block;refine T.aH (J91d p i nm ps bd Y) (n:=ps.length) ?_ ?_
     ·refine aa.trim [9,8,7,3,1] [0,1] 2 xr yA ⟨0,y,by omega,by omega,hY,?_⟩;simp[fL,fo]
     ·rintro n s ⟨q,z,rfl,hq,hzY,rfl⟩;by_cases Ux:q<ps.length
      ·obtain⟨b,Yh⟩:∃ b,ps[q]? = some b:=⟨ps[q],getElem?_eq_getElem Ux⟩;have hp0:=aI (f:=lU) (n:=2) (λ _=>rfl) Yh;have Zj:=b9 (f:=lU) (n:=2) (λ _=>rfl) Yh 1 yA;have wq:=cF ((q:Int)+1) yA yA;have Vt:ps.drop q=b::ps.drop (q+1):=by
        rw[drop_eq_getElem_cons Ux,(List.getElem?_eq_some_iff.1 Yh).2]
       rw[Vt,wQ] at hzY;have hz3:=congrArg ByteArray.size hzY;simp only[ByteArray.size_append] at hz3;apply aW;simp[hC,Ux,fL];refine gw ?_;simp;apply eN;obtain⟨u,hu⟩:∃ u,z++(if decide (q=0)=true then ⟨#[]⟩ else ⟨#[44,32]⟩)=u:=⟨_,rfl⟩;have Xx:u.size=z.size+(if decide (q=0)=true then (⟨#[]⟩:ByteArray) else ⟨#[44,32]⟩).size:=by rw[<- hu,ByteArray.size_append]
       obtain⟨v,hv⟩:∃ v,u++(if b.mutex=true then ⟨#[109,117,116,101,120,32]⟩ else ⟨#[]⟩)=v:=⟨_,rfl⟩;have hvs:v.size=u.size+(if b.mutex=true then (⟨#[109,117,116,101,120,32]⟩:ByteArray) else ⟨#[]⟩).size:=by rw[<- hv,ByteArray.size_append]
       have hvX:v.size<=1000000:=by omega
       have huX:u.size<=1000000:=by omega
       refine T.cut (λ s=>s=⟨[(9,I q),(8,.aw 1 0),(7,I i),(3,.str u),(1,.aw 0 0)],[(0,⟨27,0,fo p⟩),(1,⟨136,0,fL ⟨nm,ps,bd⟩⟩)],2⟩) ?_ ?_
       ·apply aq;simp[hC];by_cases Z0:q=0
        ·have Yh:¬ 0<q:=by omega
         simp only[Z0,decide_true,if_true,nS] at hu;simp only[Yh,decide_false];refine fX ?_;simp;refine aa.trim [9,8,7,3,1] [0,1] 2 Wb yA ?_;simp[hu,fL,fo]
        ·have Yh:0<q:=by omega
         have e0:decide (q=0)=false:=by simp[Z0]
         rw[e0] at hu Xx;simp only[Bool.false_eq_true,if_false] at hu Xx;have t0:=aA z ⟨#[44,32]⟩ yA;rw[hu] at t0;simp only[Yh,decide_true];refine dy ?_;simp;apply aN;simp[hC,t0];refine aa.trim [9,8,7,3,1] [0,1] 2 Wb yA ?_;simp[fL,fo]
       rintro s rfl;refine T.cut (λ s=>s=⟨[(9,I q),(8,.aw 1 0),(7,I i),(3,.str v),(1,.aw 0 0)],[(0,⟨27,0,fo p⟩),(1,⟨136,0,fL ⟨nm,ps,bd⟩⟩)],2⟩) ?_ ?_
       ·apply aq;simp[hC,Ux,Zj,lU,fL];refine T.cond (b:=b.mutex) rfl ?_
        cases hbm:b.mutex with
        | true=>
         rw[hbm,if_pos rfl] at hv hvs;have t0:=aA u ⟨#[109,117,116,101,120,32]⟩ yA;rw[hv] at t0;simp;apply aN;simp[hC,t0];refine aa.trim [9,8,7,3,1] [0,1] 2 Wb yA ?_;simp[fo]
        | false=>
         rw[hbm,if_neg xr,nS] at hv;simp;apply T.skip;simp;refine aa.trim [9,8,7,3,1] [0,1] 2 Wb yA ?_;simp[hv,fo]
       rintro s rfl;have t1:=aA v b.name yA;apply aN;simp[hC,Ux,hp0,lU,fL,t1];apply aN;simp[hC,wq];refine⟨ps.length-(q+1),by omega,?_⟩;refine aa.trim [9,8,7,3,1] [0,1] 2 Wb yA ⟨q+1,v++b.name,rfl,by omega,?_,?_⟩
       ·rw[<- hzY,<- hv,<- hu];simp only[ByteArray.append_assoc];simp
       ·simp[fL,fo]
      ·have RU:q=ps.length:=by omega
       rw[RU,drop_length,wQ,nS] at hzY;subst hzY;apply aW;simp[hC,Ux,fL];refine a9 ?_;simp;apply T.exit;simp;refine aa.trim [8,7,3,1] [0,1] 2 Wb yA ?_;simp[fo]
    rintro s rfl;have t0:=aA Y ⟨#[41,32,123,10]⟩ yA;have t1:=aA (Y++⟨#[41,32,123,10]⟩) (jF ⟨#[9]⟩ bd) yDy;have t2:=aA (Y++⟨#[41,32,123,10]⟩++jF ⟨#[9]⟩ bd) ⟨#[125,10]⟩ yDy;apply aN;simp[hC,t0,fL];refine cX R2 (RY) ?_;simp[hC,t1,t2];apply aN;simp[hC,wi];refine⟨p.fs.length-(i+1),by omega,?_⟩;refine aa.trim [7,3,1] [0] 1 Wb yA ⟨i+1,Y++⟨#[41,32,123,10]⟩++jF ⟨#[9]⟩ bd++⟨#[125,10]⟩,rfl,by omega,?_,?_⟩
    ·rw[<- UG];simp only[ByteArray.append_assoc];rfl
    ·simp[fo]
   ·have RU:i=p.fs.length:=by omega
    rw[RU,drop_length,j3,nS] at hx;subst hx;apply aW;simp[hC,Og,fo];refine a9 ?_;simp;apply T.exit;simp;refine aa.trim [3,1] [0] 1 xr yA ?_;simp
 rintro s rfl;apply aq;simp[hC];apply T.ret;apply aa.here;simp[Tryz.results128]
theorem vH:∀ s∈nG++nM++nF++nP,bs s∉ua:=by decide
theorem Po (k:Nat)(hk:k<24):bs (fY k)∉ua:=by
 rw[gL];exact (by decide:∀ k,k<24->[118,UInt8.ofNat (97+k % 26),UInt8.ofNat (97+k / 26 % 26)]∉ua) k hk
theorem BG (k:Nat)(hk:k<24):nX (fY k):=by
 refine⟨⟨⟨118,_,gL k,by decide⟩,?_,by rw[gL];simp⟩,Po k hk⟩;rw[gL];exact (by decide:∀ k,k<24->all [118,UInt8.ofNat (97+k % 26),UInt8.ofNat (97+k / 26 % 26)] gf=true) k hk
theorem _root_.Go.aJ.k9.gR {p:Pg}(h:k9 p):∀ g∈p.gs,nX g.name:=λ g hg=>⟨h.ng g hg,by
 obtain⟨k,_,hk⟩:=h.gn;have:=mem_map_of_mem (f:=(·.name)) hg;rw[hk] at this;exact vH _ (by simp only[mem_append];exact .inl (.inl (.inl (mem_of_mem_take this))))⟩
theorem _root_.Go.aJ.k9.mR {p:Pg}(h:k9 p):∀ g∈p.ms,nX g.name:=λ g hg=>⟨h.nm g hg,by
 obtain⟨k,_,_,hk⟩:=h.mn;have:=mem_map_of_mem (f:=(·.name)) hg;rw[hk] at this;exact vH _ (by simp only[mem_append];exact .inl (.inl (.inr (mem_of_mem_take this))))⟩
theorem _root_.Go.aJ.k9.fR {p:Pg}(h:k9 p):∀ g∈p.fs,nX g.name:=λ g hg=>⟨h.nf g hg,by
 obtain⟨k,_,_,hk⟩:=h.fn;have:=mem_map_of_mem (f:=(·.name)) hg;rw[hk] at this;exact vH _ (by simp only[mem_append];exact .inl (.inr (mem_of_mem_take this)))⟩
theorem _root_.Go.aJ.k9.pR {p:Pg}(h:k9 p):∀ f∈p.fs,∀ q∈f.params,nX q.name:=λ f hf q hq=>⟨h.np f hf q hq,by
 obtain⟨k,_,hk⟩:=h.pn f hf;have:=mem_map_of_mem (f:=(·.name)) hq;rw[hk,mem_reverse] at this;exact vH _ (by simp only[mem_append];exact .inr (mem_of_mem_take this))⟩
theorem _root_.Go.aJ.k9.vR {p:Pg}(h:k9 p):∀ f∈p.fs,∀ s∈jS p.gs f.params,nX s:=λ f hf s hs=>by
 rcases wZ hs with hs | hs
 ·rw[mem_map] at hs;obtain⟨g,hg,rfl⟩:=hs;exact h.gR g hg
 ·rw[mem_map] at hs;obtain⟨g,hg,rfl⟩:=hs;exact h.pR f hf g hg
theorem _root_.Go.aJ.k9.pl {p:Pg}(h:k9 p):∀ f∈p.fs,f.params.length<=2:=λ f hf=>by
 obtain⟨k,hk,U7⟩:=h.pn f hf;have:=congrArg length U7;simp[nP] at this;omega
theorem Mg (s:Sm):2<=fc s:=by cases s<;>simp only[fc]<;>omega
theorem kr:∀ l:List Sm,2*l.length<=bV l
 | []=>by simp[bV]
 | s::r=>by
  have:=kr r;have:=Mg s;simp only[bV,length_cons];omega
def OkF (deep:Nat)(s:Sm):Prop:=match s with
 | .iz nm e=>nX nm/\ae prog 160 [.agg (bf e)] (.bool true)
 | .jd nm e=>nX nm/\ae prog 160 [.agg (bf e)] (.bool true)
 | .eJ _ nm al=>nX nm/\al.length<=1000/\∀ a∈al,okA a
 | .dP _ r=>RfR r
 | .mf e th el=>ae prog 160 [.agg (bf e)] (.bool true)/\ae prog 127 [.ax (bO th) th.length,I ((deep+1:Nat))] (.bool true)/\ae prog 127 [.ax (bO el) el.length,I ((deep+1:Nat))] (.bool true)
 | .cS e th=>ae prog 160 [.agg (bf e)] (.bool true)/\ae prog 127 [.ax (bO th) th.length,I ((deep+1:Nat))] (.bool true)
 | .jP=>True
theorem nr {l:List Sm}{deep:Nat}(hd:deep<20)(hl:l.length<=100000)(h:∀ s∈l,OkF deep s):ae prog 127 [.ax (bO l) l.length,I deep] (.bool true):=
 AA l deep hd hl λ s hs=>by
  have:=h s hs;cases s<;>exact this
section
variable {ms:List Mx}{fs:List (ByteArray×List Pm)}{ps:List Pm}(Tf:∀ m∈ms,nX m.name)(Th:∀ x∈fs,nX x.1)(SK:∀ x∈fs,x.2.length<=2)(TC:∀ q∈ps,nX q.name)
include Tf TC
theorem rf_R {V:List ByteArray}(hV:∀ x∈V,nX x){r:Rf}(h:Iz ms ps V r):RfR r:=by
 rcases h with ⟨m,hm,hn,hi⟩ | ⟨q,hq,_,hn,hi⟩
 ·refine⟨by rw[hn];exact Tf m hm,λ e he=>?_⟩;rcases hi with ⟨hi,_⟩ | ⟨e',hi,_,hw⟩
  ·rw[hi] at he;cases he
  ·rw[hi] at he;cases he;exact gx hV 1 _ yA hw
 ·exact⟨by rw[hn];exact TC q hq,λ e he=>by rw[hi] at he;cases he⟩
theorem OL {V:List ByteArray}(hV:∀ x∈V,nX x):∀ {gp:List Pm} {l:List Ar},jD ms ps V gp l->∀ a∈l,okA a
 | [],[],_=>by simp
 | q::gp,a::l,h=>by
  simp only[jD] at h;intro x hx;rcases mem_cons.1 hx with rfl | hx
  ·cases x with
   | xf r=>exact rf_R Tf TC hV h.1.2
   | exp e=>exact gx hV 2 _ yA h.1.2
  ·exact OL hV h.2 x hx
 | [],_::_,h=>h.elim
 | _::_,[],h=>h.elim
theorem rf_T {V:List ByteArray}(hV:∀ x∈V,nX x){r:Rf}(h:Iz ms ps V r):QH r:=by
 have hV':∀ x∈V,dF x:=λ x hx=>(hV x hx).1;have hz:∀ s:ByteArray,dF s->s.size<=100:=λ s hs=>by
  have:=hs.2.2;rw[me] at this;omega
 rcases h with ⟨m,hm,hn,hi⟩ | ⟨q,hq,_,hn,hi⟩
 ·refine⟨by rw[hn];exact hz _ (Tf m hm).1,λ e he=>?_⟩;rcases hi with ⟨hi,_⟩ | ⟨e',hi,_,hw⟩
  ·rw[hi] at he;cases he
  ·rw[hi] at he;cases he;exact⟨pz hV' 1 _ yA hw,mL hV' (d:=1) yA hw⟩
 ·exact⟨by rw[hn];exact hz _ (TC q hq).1,λ e he=>by rw[hi] at he;cases he⟩
theorem OK {V:List ByteArray}(hV:∀ x∈V,nX x):∀ {gp:List Pm} {l:List Ar},jD ms ps V gp l->∀ a∈l,TxA a
 | [],[],_=>by simp
 | q::gp,a::l,h=>by
  simp only[jD] at h;intro x hx;rcases mem_cons.1 hx with rfl | hx
  ·cases x with
   | xf r=>exact rf_T Tf TC hV h.1.2
   | exp e=>
    have hV':∀ x∈V,dF x:=λ x hx=>(hV x hx).1;exact⟨pz hV' 2 _ yA h.1.2,mL hV' (d:=2) yA h.1.2⟩
  ·exact OK hV h.2 x hx
 | [],_::_,h=>h.elim
 | _::_,[],h=>h.elim
include Th SK
theorem Cq:(∀ s:Sm,∀ d V deep,(∀ x∈V,nX x)->deep+d<20->eD ms fs ps d V s->fc s<=2000->OkF deep s)/\
  (∀ l:List Sm,∀ d V deep,(∀ x∈V,nX x)->deep+d<20->df ms fs ps d V l->bV l<=2000->∀ s∈l,OkF deep s):=by
 let M1:Sm->Prop:=λ s=>∀ d V deep,(∀ x∈V,nX x)->deep+d<20->eD ms fs ps d V s->fc s<=2000->OkF deep s
 let M2:List Sm->Prop:=λ l=>∀ d V deep,(∀ x∈V,nX x)->deep+d<20->df ms fs ps d V l->bV l<=2000->∀ s∈l,OkF deep s
 have Yg:∀ k,k<24->nX (fY k):=BG;have A1:∀ (s:ByteArray) (e:Ex),M1 (.iz s e):=by
  intro s e d V deep hV _ hw _;simp only[eD] at hw;obtain⟨⟨k,hk,rfl⟩,_,he⟩:=hw;exact⟨Yg k hk,gx hV 2 _ yA he⟩
 have A2:∀ (s:ByteArray) (e:Ex),M1 (.jd s e):=by
  intro s e d V deep hV _ hw _;simp only[eD] at hw;exact⟨hV s hw.1,gx hV 2 _ yA hw.2⟩
 have A3:∀ (g:Bool) (s:ByteArray) (l:List Ar),M1 (.eJ g s l):=by
  intro g s l d V deep hV _ hw hk;simp only[eD] at hw;obtain⟨gp,h1,h2⟩:=hw;have:=h2.len;have:=SK _ h1;simp only at this;exact⟨Th _ h1,by omega,OL Tf TC hV h2⟩
 have A4:∀ (u:Bool) (r:Rf),M1 (.dP u r):=by
  intro u r d V deep hV _ hw _;simp only[eD] at hw;exact rf_R Tf TC hV hw
 have A5:∀ (e:Ex) (th el:List Sm),M2 th->M2 el->M1 (.mf e th el):=by
  intro e th el i1 i2 d V deep hV hd hw hk
  cases d with
  | zero=>simp[eD] at hw
  | succ d=>
   simp only[eD] at hw;simp only[fc] at hk;have l1:=kr th;have l2:=kr el;exact⟨gx hV 2 _ yA hw.1,nr yA yA (i1 d V _ hV yA hw.2.1 yA),nr yA yA (i2 d V _ hV yA hw.2.2 yA)⟩
 have A6:∀ (e:Ex) (th:List Sm),M2 th->M1 (.cS e th):=by
  intro e th i1 d V deep hV hd hw hk
  cases d with
  | zero=>simp[eD] at hw
  | succ d=>
   simp only[eD] at hw;simp only[fc] at hk;have l1:=kr th;exact⟨gx hV 2 _ yA hw.1,nr yA yA (i1 d V _ hV yA hw.2 yA)⟩
 have A7:M1 .jP:=λ _ _ _ _ _ _ _=>trivial;have A0:M2 []:=λ _ _ _ _ _ _ _ s hs=>by simp at hs
 have A8:∀ (s:Sm) (r:List Sm),M1 s->M2 r->M2 (s::r):=by
  intro s r i1 i2 d V deep hV hd hw hk x hx;simp only[df] at hw;simp only[bV] at hk;have hV2:∀ x∈V++eH s,nX x:=by
   intro x hx;rcases mem_append.1 hx with hx | hx
   ·exact hV x hx
   ·cases s<;>simp only[eH,mem_singleton,not_mem_nil] at hx;subst hx;have:=hw.1;simp only[eD] at this;obtain⟨⟨j,hj,rfl⟩,_⟩:=this;exact Yg j hj
  rcases mem_cons.1 hx with rfl | hx
  ·exact i1 d V deep hV hd hw.1 yA
  ·exact i2 d _ deep hV2 hd hw.2 yA x hx
 exact⟨λ s=>Sm.rec (motive_1:=M1) (motive_2:=M2) A1 A2 A3 A4 A5 A6 A7 A0 A8 s,λ l=>Sm.rec_1 (motive_1:=M1) (motive_2:=M2) A1 A2 A3 A4 A5 A6 A7 A0 A8 l⟩
theorem HN:(∀ s:Sm,∀ d V I9,(∀ x∈V,nX x)->g9 d I9->eD ms fs ps d V s->fc s<=2000->TxS I9 s)/\
  (∀ l:List Sm,∀ d V I9,(∀ x∈V,nX x)->g9 d I9->df ms fs ps d V l->bV l<=2000->∀ s∈l,TxS I9 s):=by
 let M1:Sm->Prop:=λ s=>∀ d V I9,(∀ x∈V,nX x)->g9 d I9->eD ms fs ps d V s->fc s<=2000->TxS I9 s
 let M2:List Sm->Prop:=λ l=>∀ d V I9,(∀ x∈V,nX x)->g9 d I9->df ms fs ps d V l->bV l<=2000->∀ s∈l,TxS I9 s
 have Yg:∀ k,k<24->nX (fY k):=BG;have hz:∀ s:ByteArray,nX s->s.size<=100:=λ s hs=>by
  have:=hs.1.2.2;rw[me] at this;omega
 have tx:∀ {V:List ByteArray} (_:∀ x∈V,nX x) {e:Ex},gu V 2 e->QI e:=λ {V} hV {e} he=>⟨pz (λ x hx=>(hV x hx).1) 2 _ yA he,mL (λ x hx=>(hV x hx).1) (d:=2) yA he⟩;have kf:∀ (l:List Sm) (d:Nat) (V:List ByteArray) (I9:ByteArray),M2 l->(∀ x∈V,nX x)->g9 d I9->df ms fs ps d V l->bV l<=2000->ae prog 165 [.ax (bO l) l.length,.str I9] (.str (jF I9 l)):=by
  intro l d V I9 i1 hV ht hw hk;have hs:=((ck.lines (ms:=ms) (fs:=fs) (ps:=ps) (λ m hm=>(Tf m hm).1) (λ x hx=>(Th x hx).1) (λ q hq=>(TC q hq).1)).2 l d V I9 (λ x hx=>(hV x hx).1) ht hw).1;rw[me] at hs;have h2:=ht.2;rw[me] at h2;have h3:=kr l;exact xo l I9 yA yA yA (i1 d V I9 hV ht hw hk)
 have A1:∀ (s:ByteArray) (e:Ex),M1 (.iz s e):=by
  intro s e d V I9 hV _ hw _;simp only[eD] at hw;obtain⟨⟨k,hk,rfl⟩,_,he⟩:=hw;exact⟨hz _ (Yg k hk),tx hV he⟩
 have A2:∀ (s:ByteArray) (e:Ex),M1 (.jd s e):=by
  intro s e d V I9 hV _ hw _;simp only[eD] at hw;exact⟨hz _ (hV s hw.1),tx hV hw.2⟩
 have A3:∀ (g:Bool) (s:ByteArray) (l:List Ar),M1 (.eJ g s l):=by
  intro g s l d V I9 hV _ hw hk;simp only[eD] at hw;obtain⟨gp,h1,h2⟩:=hw;have:=h2.len;have:=SK _ h1;simp only at this;exact⟨hz _ (Th _ h1),by omega,OK Tf TC hV h2⟩
 have A4:∀ (u:Bool) (r:Rf),M1 (.dP u r):=by
  intro u r d V I9 hV _ hw _;simp only[eD] at hw;exact rf_T Tf TC hV hw
 have A5:∀ (e:Ex) (th el:List Sm),M2 th->M2 el->M1 (.mf e th el):=by
  intro e th el i1 i2 d V I9 hV ht hw hk
  cases d with
  | zero=>simp[eD] at hw
  | succ d=>
   simp only[eD] at hw;simp only[fc] at hk;exact⟨tx hV hw.1,kf th d V _ i1 hV ht.HJ hw.2.1 yA,kf el d V _ i2 hV ht.HJ hw.2.2 yA⟩
 have A6:∀ (e:Ex) (th:List Sm),M2 th->M1 (.cS e th):=by
  intro e th i1 d V I9 hV ht hw hk
  cases d with
  | zero=>simp[eD] at hw
  | succ d=>
   simp only[eD] at hw;simp only[fc] at hk;exact⟨tx hV hw.1,kf th d V _ i1 hV ht.HJ hw.2 yA⟩
 have A7:M1 .jP:=λ _ _ _ _ _ _ _=>trivial;have A0:M2 []:=λ _ _ _ _ _ _ _ s hs=>by simp at hs
 have A8:∀ (s:Sm) (r:List Sm),M1 s->M2 r->M2 (s::r):=by
  intro s r i1 i2 d V I9 hV hd hw hk x hx;simp only[df] at hw;simp only[bV] at hk;have hV2:∀ x∈V++eH s,nX x:=by
   intro x hx;rcases mem_append.1 hx with hx | hx
   ·exact hV x hx
   ·cases s<;>simp only[eH,mem_singleton,not_mem_nil] at hx;subst hx;have:=hw.1;simp only[eD] at this;obtain⟨⟨j,hj,rfl⟩,_⟩:=this;exact Yg j hj
  rcases mem_cons.1 hx with rfl | hx
  ·exact i1 d V I9 hV hd hw.1 yA
  ·exact i2 d _ I9 hV2 hd hw.2 yA x hx
 exact⟨λ s=>Sm.rec (motive_1:=M1) (motive_2:=M2) A1 A2 A3 A4 A5 A6 A7 A0 A8 s,λ l=>Sm.rec_1 (motive_1:=M1) (motive_2:=M2) A1 A2 A3 A4 A5 A6 A7 A0 A8 l⟩
end
section
variable {p:Pg}(h:k9 p)
include h
theorem _root_.Go.aJ.k9.FJ (f:Fu)(hf:f∈p.fs):bV f.body<=1152:=by
 have hw:=h.wt;have:bV f.body∈p.fs.map λ f=>bV f.body:=mem_map_of_mem (f:=λ f=>bV f.body) hf;have h2:∀ {l:List Nat} {a:Nat},a∈l->a<=l.sum:=λ {l a} ha=>by
  induction l with
  | nil=>simp at ha
  | cons b r ih=>
   rcases mem_cons.1 ha with rfl | ha
   ·simp
   ·have:=ih ha;simp only[sum_cons];omega
 have:=h2 this;omega
theorem _root_.Go.aJ.k9.LJ:(∀ x∈p.fs.map λ f=>(f.name,f.params),nX x.1)/\(∀ x∈p.fs.map λ f=>(f.name,f.params),x.2.length<=2):=by
 refine⟨λ x hx=>?_,λ x hx=>?_⟩
 ·rw[mem_map] at hx;obtain⟨f,hf,rfl⟩:=hx;exact h.fR f hf
 ·rw[mem_map] at hx;obtain⟨f,hf,rfl⟩:=hx;exact h.pl f hf
theorem _root_.Go.aJ.k9.okb (f:Fu)(hf:f∈p.fs):ae prog 127 [.ax (bO f.body) f.body.length,I (0:Nat)] (.bool true):=by
 have hk:=h.FJ f hf;have hl:=kr f.body;exact nr yA yA ((Cq h.mR h.LJ.1 h.LJ.2 (h.pR f hf)).2 f.body 2 _ 0 (h.vR f hf) yA (h.bd f hf) yA)
theorem _root_.Go.aJ.k9.lnb (f:Fu)(hf:f∈p.fs):ae prog 165 [.ax (bO f.body) f.body.length,.str ⟨#[9]⟩] (.str (jF ⟨#[9]⟩ f.body)):=by
 have hk:=h.FJ f hf;have hl:=kr f.body;have ht:g9 2 ⟨#[9]⟩:=⟨by decide,by decide⟩;have hs:=((ck.lines (ms:=p.ms) (fs:=p.fs.map λ f=>(f.name,f.params)) (ps:=f.params) (λ m hm=>(h.mR m hm).1) (λ x hx=>(h.LJ.1 x hx).1) (λ q hq=>(h.pR f hf q hq).1)).2 f.body 2 _ ⟨#[9]⟩ (λ x hx=>(h.vR f hf x hx).1) ht (h.bd f hf)).1;rw[me] at hs;exact xo f.body ⟨#[9]⟩ R1 yA yA ((HN h.mR h.LJ.1 h.LJ.2 (h.pR f hf)).2 f.body 2 _ _ (h.vR f hf) ht (h.bd f hf) yA)
end
def J57a (p:Pg)(n:Nat)(s:St):Prop:=∃ i:Nat,n=p.gs.length-i/\i<=p.gs.length/\s=⟨[(3,I i),(1,.aw 0 0)],[(0,⟨27,0,fo p⟩)],1⟩
def J57b (p:Pg)(n:Nat)(s:St):Prop:=∃ i:Nat,n=p.ms.length-i/\i<=p.ms.length/\s=⟨[(4,I i),(1,.aw 0 0)],[(0,⟨27,0,fo p⟩)],1⟩
def J57c (p:Pg)(n:Nat)(s:St):Prop:=∃ i:Nat,n=p.fs.length-i/\i<=p.fs.length/\s=⟨[(6,I i),(1,.aw 0 0)],[(0,⟨27,0,fo p⟩)],1⟩
def J57d (p:Pg)(i:Nat)(f:Fu)(n:Nat)(s:St):Prop:=∃ q:Nat,n=f.params.length-q/\q<=f.params.length/\s=⟨[(8,I q),(7,.aw 1 0),(6,I i),(1,.aw 0 0)],[(0,⟨27,0,fo p⟩),(1,⟨136,0,fL f⟩)],2⟩
set_option maxHeartbeats 8000000 in
theorem IN (p:Pg)(h:k9 p):ae prog 67 [y9 p] (.bool true):=by
 have hT:=PF h;have hTs:(Hz p).size<=262144:=by have:=hT.2;rw[me] at this;exact this
 obtain⟨k1,V6,e1⟩:=h.gn;obtain⟨k2,_,Xg,e2⟩:=h.mn;obtain⟨k3,_,hk3,e3⟩:=h.fn;have l1:=congrArg length e1;have l2:=congrArg length e2;have l3:=congrArg length e3;simp[nG] at l1;simp[nM] at l2;simp[nF] at l3;clear e1 e2 e3;have UU:=Ce p yA yA yA yA (λ g hg=>by have:=h.gi g hg;omega) (λ m hm=>by have:=(h.mz m hm).1;omega) (λ f hf=>⟨by have:=h.pl f hf;omega,h.lnb f hf⟩);have hlx:=PY (bs (Hz p)) hT.2 hT.1;have g1:¬ (16:Int)<p.gs.length:=by omega
 have g2:¬ (12:Int)<p.ms.length:=by omega
 have g3:¬ (16:Int)<p.fs.length:=by omega
 have fg:=λ (k:Nat) (a:Gl) (h:p.gs[k]? = some a)=>aI (f:=qk) (n:=2) (λ _=>rfl) h;have fg1:=λ (k:Nat) (a:Gl) (h:p.gs[k]? = some a)=>b9 (f:=qk) (n:=2) (λ _=>rfl) h 1 yA;have fm:=λ (k:Nat) (a:Mx) (h:p.ms[k]? = some a)=>aI (f:=cH) (n:=3) (λ _=>rfl) h;have ff:=λ (k:Nat) (a:Fu) (h:p.fs[k]? = some a)=>aI (f:=fL) (n:=3) (λ _=>rfl) h;refine ae.aE ah Tryz.func67 rfl Ix (by simp[Tryz.ntmps67]) rfl λ C hC RR=>?_;rw[Tryz.ntmps67] at hC;apply aq;simp[hC,y9,fo];apply aW;simp[hC,g1,g2,g3];refine fX ?_;simp;refine T.cut (λ s=>s=⟨[(1,.aw 0 0)],[(0,⟨27,0,fo p⟩)],1⟩) ?_ ?_
 ·apply aq;simp[hC];apply T.block;refine T.aH (J57a p) (n:=p.gs.length) ?_ ?_
  ·refine aa.trim [3,1] [0] 1 xr yA ⟨0,by omega,by omega,?_⟩;simp[fo]
  ·rintro n s ⟨i,rfl,hi,rfl⟩;by_cases Og:i<p.gs.length
   ·obtain⟨a,SH⟩:∃ a,p.gs[i]? = some a:=⟨p.gs[i],getElem?_eq_getElem Og⟩;have Qd:=fg i a SH;have TF:=fg1 i a SH;have hm:=mem_of_getElem? SH;have hn:=jU a.name (h.gR a hm).1 (h.gR a hm).2;have R4:(a.init == -9223372036854775808)=false:=by have:=h.gi a hm;simp;omega
    have wi:=cF ((i:Int)+1) yA yA;apply aW;simp[hC,Og,fo];refine gw ?_;simp;apply eN;apply aq;simp[hC,Og,Qd,qk];refine cX R2 (hn) ?_;simp[hC,Og,Qd,R4,qk];refine fX ?_;simp;apply aN;simp[hC,wi];refine⟨p.gs.length-(i+1),by omega,?_⟩;refine aa.trim [3,1] [0] 1 xr yA ⟨i+1,rfl,by omega,?_⟩;simp[fo]
   ·apply aW;simp[hC,Og,fo];refine a9 ?_;simp;apply T.exit;simp;refine aa.trim [1] [0] 1 xr yA ?_;simp
 rintro s rfl;refine T.cut (λ s=>s=⟨[(1,.aw 0 0)],[(0,⟨27,0,fo p⟩)],1⟩) ?_ ?_
 ·apply aq;simp[hC];apply T.block;refine T.aH (J57b p) (n:=p.ms.length) ?_ ?_
  ·refine aa.trim [4,1] [0] 1 Wb yA ⟨0,by omega,by omega,?_⟩;simp[fo]
  ·rintro n s ⟨i,rfl,hi,rfl⟩;by_cases Og:i<p.ms.length
   ·obtain⟨a,SH⟩:∃ a,p.ms[i]? = some a:=⟨p.ms[i],getElem?_eq_getElem Og⟩;have Qd:=fm i a SH;have hm:=mem_of_getElem? SH;have hn:=jU a.name (h.mR a hm).1 (h.mR a hm).2;have hz:=h.mz a hm;have wi:=cF ((i:Int)+1) yA yA;have z1:¬ (a.size:Int)<0:=by omega
    have z2:¬ (64:Int)<a.size:=by omega
    apply aW;simp[hC,Og,fo];refine gw ?_;simp;apply eN;apply aq;simp[hC,Og,Qd,cH]
    cases Ui:a.re with
    | true=>
     have z3:=hz.2 Ui;apply aq;simp[hC];refine cX R2 (hn) ?_;simp[hC,z3];refine fX ?_;simp;apply aN;simp[hC,wi];refine⟨p.ms.length-(i+1),by omega,?_⟩;refine aa.trim [4,1] [0] 1 xr yA ⟨i+1,rfl,by omega,?_⟩;simp[fo]
    | false=>
     apply aq;simp[hC];refine cX R2 (hn) ?_;simp[hC,z1,z2];refine fX ?_;simp;apply aN;simp[hC,wi];refine⟨p.ms.length-(i+1),by omega,?_⟩;refine aa.trim [4,1] [0] 1 xr yA ⟨i+1,rfl,by omega,?_⟩;simp[fo]
   ·apply aW;simp[hC,Og,fo];refine a9 ?_;simp;apply T.exit;simp;refine aa.trim [1] [0] 1 xr yA ?_;simp
 rintro s rfl;refine T.cut (λ s=>s=⟨[(1,.aw 0 0)],[(0,⟨27,0,fo p⟩)],1⟩) ?_ ?_
 ·apply aq;simp[hC];apply T.block;refine T.aH (J57c p) (n:=p.fs.length) ?_ ?_
  ·refine aa.trim [6,1] [0] 1 Wb yA ⟨0,by omega,by omega,?_⟩;simp[fo]
  ·rintro n s ⟨i,rfl,hi,rfl⟩;by_cases Og:i<p.fs.length
   ·obtain⟨a,SH⟩:∃ a,p.fs[i]? = some a:=⟨p.fs[i],getElem?_eq_getElem Og⟩;have Qd:=ff i a SH;have hm:=mem_of_getElem? SH;have hn:=jU a.name (h.fR a hm).1 (h.fR a hm).2;have hb:=h.okb a hm;have SR:=h.pl a hm;have wi:=cF ((i:Int)+1) yA yA;have z1:¬ (6:Int)<a.params.length:=by omega
    apply aW;simp[hC,Og,fo];refine gw ?_;simp;apply eN;apply aq;simp[hC,Og,Qd,fL];apply aW;simp[hC];refine cX R2 (hn) ?_;simp[hC,z1];refine TL.cM RT rfl rfl rfl rfl (bU.of rfl R2 (hb)) (TL.go' ah ?_);simp[hC];refine fX ?_;simp;apply aq;simp[hC];apply T.block;refine T.aH (J57d p i a) (n:=a.params.length) ?_ ?_
    ·refine aa.trim [8,7,6,1] [0,1] 2 xr yA ⟨0,by omega,by omega,?_⟩;simp[fo,fL]
    ·rintro n s ⟨q,rfl,hq,rfl⟩;by_cases Ux:q<a.params.length
     ·obtain⟨b,Yh⟩:∃ b,a.params[q]? = some b:=⟨a.params[q],getElem?_eq_getElem Ux⟩;have hp0:=aI (f:=lU) (n:=2) (λ _=>rfl) Yh;have hbm:=mem_of_getElem? Yh;have Up:=jU b.name (h.pR a hm b hbm).1 (h.pR a hm b hbm).2;have wq:=cF ((q:Int)+1) yA yA;apply aW;simp[hC,Ux,fL];refine gw ?_;simp;apply eN;apply aq;simp[hC,Ux,hp0,lU];refine cX R2 (Up) ?_;simp[hC];refine fX ?_;simp;apply aN;simp[hC,wq];refine⟨a.params.length-(q+1),by omega,?_⟩;refine aa.trim [8,7,6,1] [0,1] 2 Wb yA ⟨q+1,rfl,by omega,?_⟩;simp[fo,fL]
     ·apply aW;simp[hC,Ux,fL];refine a9 ?_;simp;apply T.exit;simp;apply aN;simp[hC,wi];refine⟨p.fs.length-(i+1),by omega,?_⟩;refine aa.trim [6,1] [0] 1 Wb yA ⟨i+1,rfl,by omega,?_⟩;simp[fo]
   ·apply aW;simp[hC,Og,fo];refine a9 ?_;simp;apply T.exit;simp;refine aa.trim [1] [0] 1 xr yA ?_;simp
 rintro s rfl;apply aq;simp[hC,fo];refine TL.call RT rfl rfl (bU.of rfl SQ UU) (TL.DN ah ?_);have hTz:(Hz p).size<=1000000:=by omega
 have X4:dT (bs (Hz p))=.ax (qO (Hz p)) (Hz p).size:=by rw[dT,me];rfl
 rw[X4] at hlx;simp[hC,hTz];refine TL.Li RT rfl rfl rfl SQ hlx λ r hr=>TL.go' ah ?_;obtain⟨cs,n,e,rfl⟩:=hr;simp[hC];apply aq;simp[hC];apply T.ret;apply aa.here;simp[Tryz.results67]
end Go.Proofs.YtlkmbdfhdknlgaaGreat
