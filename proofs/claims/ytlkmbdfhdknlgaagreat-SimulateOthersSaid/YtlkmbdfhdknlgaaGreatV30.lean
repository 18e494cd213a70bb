/- program: the text of a pro -/
import Derived.Test.YtlkmbdfhdknlgaaGreatV29
namespace Go.Proofs.YtlkmbdfhdknlgaaGreat
open Go.Can Go.aV List Tryz
def J91a (p:Pg)(X:ByteArray)(n:Nat)(s:St):Prop:=∃ (i:Nat) (x:ByteArray),n=p.gs.length-i/\i<=p.gs.length/\x++(jY Lq (p.gs.drop i)++jY J2 p.ms++jY Ga p.fs)=X/\s=⟨[(4,I i),(3,.str x),(1,.ax 0 0)],[(0,⟨27,0,eU p⟩)],1⟩
def J91b (p:Pg)(X:ByteArray)(n:Nat)(s:St):Prop:=∃ (i:Nat) (x:ByteArray),n=p.ms.length-i/\i<=p.ms.length/\x++(jY J2 (p.ms.drop i)++jY Ga p.fs)=X/\s=⟨[(5,I i),(3,.str x),(1,.ax 0 0)],[(0,⟨27,0,eU p⟩)],1⟩
def J91c (p:Pg)(X:ByteArray)(n:Nat)(s:St):Prop:=∃ (i:Nat) (x:ByteArray),n=p.fs.length-i/\i<=p.fs.length/\x++jY Ga (p.fs.drop i)=X/\s=⟨[(7,I i),(3,.str x),(1,.ax 0 0)],[(0,⟨27,0,eU p⟩)],1⟩
def J91d (p:Pg)(i:Nat)(nm:ByteArray)(ps:List Pm)(bd:List Sm)(Y:ByteArray)(n:Nat)(s:St):Prop:=∃ (q:Nat) (z:ByteArray),n=ps.length-q/\q<=ps.length/\z++vf (decide (q=0)) (ps.drop q)=Y/\s=⟨[(9,I q),(8,.ax 1 0),(7,I i),(3,.str z),(1,.ax 0 0)],[(0,⟨27,0,eU p⟩),(1,⟨136,0,fD ⟨nm,ps,bd⟩⟩)],2⟩
theorem zn (b:ByteArray):(⟨#[]⟩:ByteArray)++b=b:=ByteArray.empty_append
theorem m9 (b:ByteArray):b++(⟨#[]⟩:ByteArray)=b:=ByteArray.append_empty
set_option maxHeartbeats 8000000 in
theorem Ao (p:Pg)(O0:(Fc p).size<=1000000)(h1:p.gs.length<=100)(h2:p.ms.length<=100)(h3:p.fs.length<=100)(hg:∀ g∈p.gs,-1000<=g.init/\g.init<=1000)(hm:∀ m∈p.ms,m.size<=1000)
  (hf:∀ f∈p.fs,f.params.length<=100/\af prog 165 [.au (bS f.body) f.body.length,.str ⟨#[9]⟩] (.str (jz ⟨#[9]⟩ f.body))):af prog 128 [xB p] (.str (Fc p)):=by
 obtain⟨X,hX⟩:∃ X,Fc p=X:=⟨_,rfl⟩;rw[hX] at O0 |-;unfold Fc at hX;have fg:=λ (k:Nat) (a:Gl) (h:p.gs[k]? = some a)=>aH (f:=pE) (n:=2) (λ _=>rfl) h;have fg1:=λ (k:Nat) (a:Gl) (h:p.gs[k]? = some a)=>cq (f:=pE) (n:=2) (λ _=>rfl) h 1 yA;have fm:=λ (k:Nat) (a:Mx) (h:p.ms[k]? = some a)=>aH (f:=cI) (n:=3) (λ _=>rfl) h;have ff:=λ (k:Nat) (a:Fu) (h:p.fs[k]? = some a)=>aH (f:=fD) (n:=3) (λ _=>rfl) h;refine af.aC ag Tryz.func128 rfl GK (by simp[Tryz.ntmps128]) rfl λ C hC OR=>?_;rw[Tryz.ntmps128] at hC;apply aq;simp[hC,xB,eU];apply aq;simp[hC];refine T.cut (λ s=>∃ x,x++(jY J2 p.ms++jY Ga p.fs)=X/\s=⟨[(3,.str x),(1,.ax 0 0)],[(0,⟨27,0,eU p⟩)],1⟩) ?_ ?_
 ·apply aq;simp[hC];apply T.block;refine T.aQ (J91a p X) (n:=p.gs.length) ?_ ?_
  ·refine aa.trim [4,3,1] [0] 1 xr yA ⟨0,⟨#[]⟩,by omega,by omega,?_,?_⟩
   ·rw[zn];exact hX
   ·simp[eU]
  ·rintro n s ⟨i,x,rfl,hi,hx,rfl⟩;by_cases OP:i<p.gs.length
   ·obtain⟨a,PX⟩:∃ a,p.gs[i]? = some a:=⟨p.gs[i],getElem?_eq_getElem OP⟩;have OS:=fg i a PX;have QO:=fg1 i a PX;have OZ:=hg a (mem_of_getElem? PX);have wi:=cw ((i:Int)+1) yA yA;have hd:p.gs.drop i=a::p.gs.drop (i+1):=by
     rw[drop_eq_getElem_cons OP,(List.getElem?_eq_some_iff.1 PX).2]
    rw[hd,jY] at hx;have hz:=congrArg ByteArray.size hx;simp only[Lq,z0,ByteArray.size_append] at hz;have s0:=az x ⟨#[118,97,114,32]⟩ yA;have s1:=az (x++⟨#[118,97,114,32]⟩) a.name TW;apply aT;simp[hC,OP,eU];refine iI ?_;simp;apply eZ;apply aq;simp[hC,OP,OS,pE,s0,s1];by_cases h0:a.init=0
    ·rw[if_pos h0] at hz;have s2:=az (x++⟨#[118,97,114,32]⟩++a.name) ⟨#[59,10]⟩ TW;apply aT;simp[hC,OP,OS,pE,h0];refine eQ ?_;simp;apply aG;simp[hC,s2];apply aG;simp[hC,wi];refine⟨p.gs.length-(i+1),by omega,?_⟩;refine aa.trim [4,3,1] [0] 1 xr yA ⟨i+1,x++⟨#[118,97,114,32]⟩++a.name++⟨#[59,10]⟩,rfl,by omega,?_,?_⟩
     ·rw[<- hx,Lq,if_pos h0,m9];simp only[z0,ByteArray.append_assoc]
     ·simp[eU]
    ·rw[if_neg h0] at hz;simp only[GC,ByteArray.size_append] at hz;have h0b:(a.init != 0)=true:=by simp[h0]
     have s2:=az (x++⟨#[118,97,114,32]⟩++a.name) ⟨#[32,61,32]⟩ TW;have s3:=az (x++⟨#[118,97,114,32]⟩++a.name++⟨#[32,61,32]⟩) (lu a.init) TW;have s4:=az (x++⟨#[118,97,114,32]⟩++a.name++⟨#[32,61,32]⟩++lu a.init) ⟨#[59,10]⟩ TW;apply aT;simp[hC,OP,OS,pE,h0b];refine cX ?_;simp;apply aG;simp[hC,OP,OS,pE,s2];refine ct O4 (pW a.init yA yA) ?_;simp[hC,s3];apply aG;simp[hC,s4];apply aG;simp[hC,wi];refine⟨p.gs.length-(i+1),by omega,?_⟩;refine aa.trim [4,3,1] [0] 1 xr yA ⟨i+1,x++⟨#[118,97,114,32]⟩++a.name++⟨#[32,61,32]⟩++lu a.init++⟨#[59,10]⟩,rfl,by omega,?_,?_⟩
     ·rw[<- hx,Lq,if_neg h0];simp only[z0,GC,ByteArray.append_assoc]
     ·simp[eU]
   ·have OV:i=p.gs.length:=by omega
    rw[OV,drop_length,jY,zn] at hx;apply aT;simp[hC,OP,eU];refine bh ?_;simp;apply T.exit;simp;refine aa.trim [3,1] [0] 1 xr yA ⟨x,hx,?_⟩;simp
 rintro s ⟨x0,WR,rfl⟩;clear hX;refine T.cut (λ s=>∃ x,x++jY Ga p.fs=X/\s=⟨[(3,.str x),(1,.ax 0 0)],[(0,⟨27,0,eU p⟩)],1⟩) ?_ ?_
 ·apply aq;simp[hC];apply T.block;refine T.aQ (J91b p X) (n:=p.ms.length) ?_ ?_
  ·refine aa.trim [5,3,1] [0] 1 Ti yA ⟨0,x0,by omega,by omega,WR,?_⟩;simp
  ·rintro n s ⟨i,x,rfl,hi,hx,rfl⟩;by_cases OP:i<p.ms.length
   ·obtain⟨a,PX⟩:∃ a,p.ms[i]? = some a:=⟨p.ms[i],getElem?_eq_getElem OP⟩;have OS:=fm i a PX;have OZ:=hm a (mem_of_getElem? PX);have wi:=cw ((i:Int)+1) yA yA;have hd:p.ms.drop i=a::p.ms.drop (i+1):=by
     rw[drop_eq_getElem_cons OP,(List.getElem?_eq_some_iff.1 PX).2]
    rw[hd,jY,J2] at hx;have hz:=congrArg ByteArray.size hx;simp only[ByteArray.size_append] at hz;apply aT;simp[hC,OP,eU];refine iI ?_;simp;apply eZ;apply aq;simp[hC,OP,OS,cI];obtain⟨y,hy⟩:∃ y,x++(if a.re=true then ⟨#[114]⟩ else ⟨#[]⟩)=y:=⟨_,rfl⟩;have YJ:y.size=x.size+(if a.re=true then (⟨#[114]⟩:ByteArray) else ⟨#[]⟩).size:=by rw[<- hy,ByteArray.size_append]
    have hyX:y.size<=1000000:=by omega
    refine T.cut (λ s=>s=⟨[(6,.ax 1 0),(5,I i),(3,.str y),(1,.ax 0 0)],[(0,⟨27,0,eU p⟩),(1,⟨98,0,cI a⟩)],2⟩) ?_ ?_
    ·apply aq;simp[hC];refine T.cond (b:=a.re) rfl ?_
     cases Ro:a.re with
     | true=>
      rw[Ro,if_pos rfl] at hy YJ;have s0:=az x ⟨#[114]⟩ yA;simp;apply aG;simp[hC,s0];refine aa.trim [6,5,3,1] [0,1] 2 xr yA ?_;simp[<- hy,cI,Ro,eU]
     | false=>
      rw[Ro,if_neg xr,m9] at hy;simp;apply T.skip;simp;refine aa.trim [6,5,3,1] [0,1] 2 xr yA ?_;simp[<- hy,cI,Ro,eU]
    rintro s rfl;have s1:=az y ⟨#[109,117,116,101,120,32]⟩ yA;have s2:=az (y++⟨#[109,117,116,101,120,32]⟩) a.name TW;apply aq;simp[hC,s1,s2,cI];have RL:y++(⟨#[109,117,116,101,120,32]⟩++a.name++(if a.size=0 then ⟨#[]⟩ else ⟨#[91]⟩++lu a.size++⟨#[93]⟩)++⟨#[59,10]⟩++(jY J2 (p.ms.drop (i+1))++jY Ga p.fs))=X:=by
     rw[<- hx,<- hy];simp only[ByteArray.append_assoc]
    by_cases h0:a.size=0
    ·rw[if_pos h0] at hz RL;have s3:=az (y++⟨#[109,117,116,101,120,32]⟩++a.name) ⟨#[59,10]⟩ TW;apply aT;simp[hC,h0];refine eQ ?_;simp;apply aG;simp[hC,s3];apply aG;simp[hC,wi];refine⟨p.ms.length-(i+1),by omega,?_⟩;refine aa.trim [5,3,1] [0] 1 Ti yA ⟨i+1,y++⟨#[109,117,116,101,120,32]⟩++a.name++⟨#[59,10]⟩,rfl,by omega,?_,?_⟩
     ·rw[<- RL,m9];simp only[ByteArray.append_assoc]
     ·simp[eU]
    ·rw[if_neg h0] at hz RL;simp only[ByteArray.size_append] at hz;have h0b:0<a.size:=by omega
     have s3:=az (y++⟨#[109,117,116,101,120,32]⟩++a.name) ⟨#[91]⟩ TW;have s4:=az (y++⟨#[109,117,116,101,120,32]⟩++a.name++⟨#[91]⟩) (lu a.size) TW;have s5:=az (y++⟨#[109,117,116,101,120,32]⟩++a.name++⟨#[91]⟩++lu a.size) ⟨#[93]⟩ TW;have s6:=az (y++⟨#[109,117,116,101,120,32]⟩++a.name++⟨#[91]⟩++lu a.size++⟨#[93]⟩) ⟨#[59,10]⟩ TW;apply aT;simp[hC,h0b];refine cX ?_;simp;apply aG;simp[hC,s3];refine ct O4 (pW (a.size:Int) yA yA) ?_;simp[hC,s4,s5];apply aG;simp[hC,s6];apply aG;simp[hC,wi];refine⟨p.ms.length-(i+1),by omega,?_⟩;refine aa.trim [5,3,1] [0] 1 Ti yA ⟨i+1,y++⟨#[109,117,116,101,120,32]⟩++a.name++⟨#[91]⟩++lu a.size++⟨#[93]⟩++⟨#[59,10]⟩,rfl,by omega,?_,?_⟩
     ·rw[<- RL];simp only[ByteArray.append_assoc]
     ·simp[eU]
   ·have OV:i=p.ms.length:=by omega
    rw[OV,drop_length,jY,zn] at hx;apply aT;simp[hC,OP,eU];refine bh ?_;simp;apply T.exit;simp;refine aa.trim [3,1] [0] 1 xr yA ⟨x,hx,?_⟩;simp
 rintro s ⟨x1,hx1,rfl⟩;clear WR;refine T.cut (λ s=>s=⟨[(3,.str X),(1,.ax 0 0)],[(0,⟨27,0,eU p⟩)],1⟩) ?_ ?_
 ·apply aq;simp[hC];apply T.block;refine T.aQ (J91c p X) (n:=p.fs.length) ?_ ?_
  ·refine aa.trim [7,3,1] [0] 1 Ti yA ⟨0,x1,by omega,by omega,hx1,?_⟩;simp
  ·rintro n s ⟨i,x,rfl,hi,hx,rfl⟩;by_cases OP:i<p.fs.length
   ·obtain⟨a,PX⟩:∃ a,p.fs[i]? = some a:=⟨p.fs[i],getElem?_eq_getElem OP⟩;have OS:=ff i a PX;obtain⟨Qx,O2⟩:=hf a (mem_of_getElem? PX);have wi:=cw ((i:Int)+1) yA yA;have hd:p.fs.drop i=a::p.fs.drop (i+1):=by
     rw[drop_eq_getElem_cons OP,(List.getElem?_eq_some_iff.1 PX).2]
    rw[hd,jY,Ga] at hx;obtain⟨nm,ps,bd⟩:=a;simp only at hx Qx O2;have hz:=congrArg ByteArray.size hx;simp only[ByteArray.size_append] at hz;obtain⟨y,hy⟩:∃ y,x++⟨#[102,117,110,99,32]⟩++nm++⟨#[40]⟩=y:=⟨_,rfl⟩;have YJ:y.size=x.size+(⟨#[102,117,110,99,32]⟩:ByteArray).size+nm.size+(⟨#[40]⟩:ByteArray).size:=by rw[<- hy];simp only[ByteArray.size_append]
    obtain⟨Y,hY⟩:∃ Y,y++vf true ps=Y:=⟨_,rfl⟩;have hYs:Y.size=y.size+(vf true ps).size:=by rw[<- hY,ByteArray.size_append]
    have RL:Y++(⟨#[41,32,123,10]⟩++jz qu bd++⟨#[125,10]⟩++jY Ga (p.fs.drop (i+1)))=X:=by
     rw[<- hx,<- hY,<- hy];simp only[ByteArray.append_assoc]
    have s0:=az x ⟨#[102,117,110,99,32]⟩ yA;have s1:=az (x++⟨#[102,117,110,99,32]⟩) nm TW;have s2:=az (x++⟨#[102,117,110,99,32]⟩++nm) ⟨#[40]⟩ TW;rw[hy] at s2;apply aT;simp[hC,OP,eU];refine iI ?_;simp;apply eZ;apply aq;simp[hC,OP,OS,fD];apply aq;simp[hC,s0,s1,s2];refine T.cut (λ s=>s=⟨[(8,.ax 1 0),(7,I i),(3,.str Y),(1,.ax 0 0)],[(0,⟨27,0,eU p⟩),(1,⟨136,0,fD ⟨nm,ps,bd⟩⟩)],2⟩) ?_ ?_
    ·apply aq;simp[hC];apply T.block;refine T.aQ (J91d p i nm ps bd Y) (n:=ps.length) ?_ ?_
     ·refine aa.trim [9,8,7,3,1] [0,1] 2 xr yA ⟨0,y,by omega,by omega,hY,?_⟩;simp[fD,eU]
     ·rintro n s ⟨q,z,rfl,hq,YI,rfl⟩;by_cases TJ:q<ps.length
      ·obtain⟨b,Vh⟩:∃ b,ps[q]? = some b:=⟨ps[q],getElem?_eq_getElem TJ⟩;have hp0:=aH (f:=ln) (n:=2) (λ _=>rfl) Vh;have Ws:=cq (f:=ln) (n:=2) (λ _=>rfl) Vh 1 yA;have wq:=cw ((q:Int)+1) yA yA;have Td:ps.drop q=b::ps.drop (q+1):=by
        rw[drop_eq_getElem_cons TJ,(List.getElem?_eq_some_iff.1 Vh).2]
       rw[Td,vf] at YI;have hz3:=congrArg ByteArray.size YI;simp only[ByteArray.size_append] at hz3;apply aT;simp[hC,TJ,fD];refine iI ?_;simp;apply eZ;obtain⟨u,hu⟩:∃ u,z++(if decide (q=0)=true then ⟨#[]⟩ else ⟨#[44,32]⟩)=u:=⟨_,rfl⟩;have UA:u.size=z.size+(if decide (q=0)=true then (⟨#[]⟩:ByteArray) else ⟨#[44,32]⟩).size:=by rw[<- hu,ByteArray.size_append]
       obtain⟨v,hv⟩:∃ v,u++(if b.mutex=true then ⟨#[109,117,116,101,120,32]⟩ else ⟨#[]⟩)=v:=⟨_,rfl⟩;have hvs:v.size=u.size+(if b.mutex=true then (⟨#[109,117,116,101,120,32]⟩:ByteArray) else ⟨#[]⟩).size:=by rw[<- hv,ByteArray.size_append]
       have hvX:v.size<=1000000:=by omega
       have huX:u.size<=1000000:=by omega
       refine T.cut (λ s=>s=⟨[(9,I q),(8,.ax 1 0),(7,I i),(3,.str u),(1,.ax 0 0)],[(0,⟨27,0,eU p⟩),(1,⟨136,0,fD ⟨nm,ps,bd⟩⟩)],2⟩) ?_ ?_
       ·apply aq;simp[hC];by_cases W1:q=0
        ·have Vh:¬ 0<q:=by omega
         simp only[W1,decide_true,if_true,m9] at hu;simp only[Vh,decide_false];refine eQ ?_;simp;refine aa.trim [9,8,7,3,1] [0,1] 2 Ti yA ?_;simp[hu,fD,eU]
        ·have Vh:0<q:=by omega
         have e0:decide (q=0)=false:=by simp[W1]
         rw[e0] at hu UA;simp only[Bool.false_eq_true,if_false] at hu UA;have t0:=az z ⟨#[44,32]⟩ yA;rw[hu] at t0;simp only[Vh,decide_true];refine cX ?_;simp;apply aG;simp[hC,t0];refine aa.trim [9,8,7,3,1] [0,1] 2 Ti yA ?_;simp[fD,eU]
       rintro s rfl;refine T.cut (λ s=>s=⟨[(9,I q),(8,.ax 1 0),(7,I i),(3,.str v),(1,.ax 0 0)],[(0,⟨27,0,eU p⟩),(1,⟨136,0,fD ⟨nm,ps,bd⟩⟩)],2⟩) ?_ ?_
       ·apply aq;simp[hC,TJ,Ws,ln,fD];refine T.cond (b:=b.mutex) rfl ?_
        cases ZV:b.mutex with
        | true=>
         rw[ZV,if_pos rfl] at hv hvs;have t0:=az u ⟨#[109,117,116,101,120,32]⟩ yA;rw[hv] at t0;simp;apply aG;simp[hC,t0];refine aa.trim [9,8,7,3,1] [0,1] 2 Ti yA ?_;simp[eU]
        | false=>
         rw[ZV,if_neg xr,m9] at hv;simp;apply T.skip;simp;refine aa.trim [9,8,7,3,1] [0,1] 2 Ti yA ?_;simp[hv,eU]
       rintro s rfl;have t1:=az v b.name yA;apply aG;simp[hC,TJ,hp0,ln,fD,t1];apply aG;simp[hC,wq];refine⟨ps.length-(q+1),by omega,?_⟩;refine aa.trim [9,8,7,3,1] [0,1] 2 Ti yA ⟨q+1,v++b.name,rfl,by omega,?_,?_⟩
       ·rw[<- YI,<- hv,<- hu];simp only[ByteArray.append_assoc];simp
       ·simp[fD,eU]
      ·have OV:q=ps.length:=by omega
       rw[OV,drop_length,vf,m9] at YI;subst YI;apply aT;simp[hC,TJ,fD];refine bh ?_;simp;apply T.exit;simp;refine aa.trim [8,7,3,1] [0,1] 2 Ti yA ?_;simp[eU]
    rintro s rfl;have t0:=az Y ⟨#[41,32,123,10]⟩ yA;have t1:=az (Y++⟨#[41,32,123,10]⟩) (jz ⟨#[9]⟩ bd) yDy;have t2:=az (Y++⟨#[41,32,123,10]⟩++jz ⟨#[9]⟩ bd) ⟨#[125,10]⟩ yDy;apply aG;simp[hC,t0,fD];refine ct O4 (O2) ?_;simp[hC,t1,t2];apply aG;simp[hC,wi];refine⟨p.fs.length-(i+1),by omega,?_⟩;refine aa.trim [7,3,1] [0] 1 Ti yA ⟨i+1,Y++⟨#[41,32,123,10]⟩++jz ⟨#[9]⟩ bd++⟨#[125,10]⟩,rfl,by omega,?_,?_⟩
    ·rw[<- RL];simp only[ByteArray.append_assoc];rfl
    ·simp[eU]
   ·have OV:i=p.fs.length:=by omega
    rw[OV,drop_length,jY,m9] at hx;subst hx;apply aT;simp[hC,OP,eU];refine bh ?_;simp;apply T.exit;simp;refine aa.trim [3,1] [0] 1 xr yA ?_;simp
 rintro s rfl;apply aq;simp[hC];apply T.ret;apply aa.here;simp[Tryz.results128]
theorem uz:∀ s∈nG++nM++nF++nP,bs s∉r8:=by decide
theorem Mg (k:Nat)(hk:k<24):bs (fJ k)∉r8:=by
 rw[gx];exact (by decide:∀ k,k<24->[118,UInt8.ofNat (97+k % 26),UInt8.ofNat (97+k / 26 % 26)]∉r8) k hk
theorem zU (k:Nat)(hk:k<24):ni (fJ k):=by
 refine⟨⟨⟨118,_,gx k,by decide⟩,?_,by rw[gx];simp⟩,Mg k hk⟩;rw[gx];exact (by decide:∀ k,k<24->all [118,UInt8.ofNat (97+k % 26),UInt8.ofNat (97+k / 26 % 26)] fM=true) k hk
theorem _root_.Go.aV.kM.gR {p:Pg}(h:kM p):∀ g∈p.gs,ni g.name:=λ g hg=>⟨h.ng g hg,by
 obtain⟨k,_,hk⟩:=h.gn;have:=mem_map_of_mem (f:=(·.name)) hg;rw[hk] at this;exact uz _ (by simp only[mem_append];exact .inl (.inl (.inl (mem_of_mem_take this))))⟩
theorem _root_.Go.aV.kM.mR {p:Pg}(h:kM p):∀ g∈p.ms,ni g.name:=λ g hg=>⟨h.nm g hg,by
 obtain⟨k,_,_,hk⟩:=h.mn;have:=mem_map_of_mem (f:=(·.name)) hg;rw[hk] at this;exact uz _ (by simp only[mem_append];exact .inl (.inl (.inr (mem_of_mem_take this))))⟩
theorem _root_.Go.aV.kM.fR {p:Pg}(h:kM p):∀ g∈p.fs,ni g.name:=λ g hg=>⟨h.nf g hg,by
 obtain⟨k,_,_,hk⟩:=h.fn;have:=mem_map_of_mem (f:=(·.name)) hg;rw[hk] at this;exact uz _ (by simp only[mem_append];exact .inl (.inr (mem_of_mem_take this)))⟩
theorem _root_.Go.aV.kM.pR {p:Pg}(h:kM p):∀ f∈p.fs,∀ q∈f.params,ni q.name:=λ f hf q hq=>⟨h.np f hf q hq,by
 obtain⟨k,_,hk⟩:=h.pn f hf;have:=mem_map_of_mem (f:=(·.name)) hq;rw[hk,mem_reverse] at this;exact uz _ (by simp only[mem_append];exact .inr (mem_of_mem_take this))⟩
theorem _root_.Go.aV.kM.vR {p:Pg}(h:kM p):∀ f∈p.fs,∀ s∈jO p.gs f.params,ni s:=λ f hf s hs=>by
 rcases vn hs with hs | hs
 ·rw[mem_map] at hs;obtain⟨g,hg,rfl⟩:=hs;exact h.gR g hg
 ·rw[mem_map] at hs;obtain⟨g,hg,rfl⟩:=hs;exact h.pR f hf g hg
theorem _root_.Go.aV.kM.pl {p:Pg}(h:kM p):∀ f∈p.fs,f.params.length<=2:=λ f hf=>by
 obtain⟨k,hk,T5⟩:=h.pn f hf;have:=congrArg length T5;simp[nP] at this;omega
theorem Jt (s:Sm):2<=eN s:=by cases s<;>simp only[eN]<;>omega
theorem ka:∀ l:List Sm,2*l.length<=bZ l
 | []=>by simp[bZ]
 | s::r=>by
  have:=ka r;have:=Jt s;simp only[bZ,length_cons];omega
def OkF (deep:Nat)(s:Sm):Prop:=match s with
 | .ia nm e=>ni nm/\af prog 160 [.agg (a8 e)] (.bool true)
 | .iX nm e=>ni nm/\af prog 160 [.agg (a8 e)] (.bool true)
 | .en _ nm al=>ni nm/\al.length<=1000/\∀ a∈al,okA a
 | .dP _ r=>RfR r
 | .lO e th el=>af prog 160 [.agg (a8 e)] (.bool true)/\af prog 127 [.au (bS th) th.length,I ((deep+1:Nat))] (.bool true)/\af prog 127 [.au (bS el) el.length,I ((deep+1:Nat))] (.bool true)
 | .dh e th=>af prog 160 [.agg (a8 e)] (.bool true)/\af prog 127 [.au (bS th) th.length,I ((deep+1:Nat))] (.bool true)
 | .jJ=>True
theorem mC {l:List Sm}{deep:Nat}(hd:deep<20)(hl:l.length<=100000)(h:∀ s∈l,OkF deep s):af prog 127 [.au (bS l) l.length,I deep] (.bool true):=
 y0 l deep hd hl λ s hs=>by
  have:=h s hs;cases s<;>exact this
section
variable {ms:List Mx}{fs:List (ByteArray×List Pm)}{ps:List Pm}(Qm:∀ m∈ms,ni m.name)(Qq:∀ x∈fs,ni x.1)(PS:∀ x∈fs,x.2.length<=2)(Qp:∀ q∈ps,ni q.name)
include Qm Qp
theorem rf_R {V:List ByteArray}(hV:∀ x∈V,ni x){r:Rf}(h:Gc ms ps V r):RfR r:=by
 rcases h with ⟨m,hm,hn,hi⟩ | ⟨q,hq,_,hn,hi⟩
 ·refine⟨by rw[hn];exact Qm m hm,λ e he=>?_⟩;rcases hi with ⟨hi,_⟩ | ⟨e',hi,_,hw⟩
  ·rw[hi] at he;cases he
  ·rw[hi] at he;cases he;exact fY hV 1 _ yA hw
 ·exact⟨by rw[hn];exact Qp q hq,λ e he=>by rw[hi] at he;cases he⟩
theorem LI {V:List ByteArray}(hV:∀ x∈V,ni x):∀ {gp:List Pm} {l:List Ar},jy ms ps V gp l->∀ a∈l,okA a
 | [],[],_=>by simp
 | q::gp,a::l,h=>by
  simp only[jy] at h;intro x hx;rcases mem_cons.1 hx with rfl | hx
  ·cases x with
   | vw r=>exact rf_R Qm Qp hV h.1.2
   | exp e=>exact fY hV 2 _ yA h.1.2
  ·exact LI hV h.2 x hx
 | [],_::_,h=>h.elim
 | _::_,[],h=>h.elim
theorem rf_T {V:List ByteArray}(hV:∀ x∈V,ni x){r:Rf}(h:Gc ms ps V r):NA r:=by
 have ZZ:∀ x∈V,dG x:=λ x hx=>(hV x hx).1;have hz:∀ s:ByteArray,dG s->s.size<=100:=λ s hs=>by
  have:=hs.2.2;rw[lM] at this;omega
 rcases h with ⟨m,hm,hn,hi⟩ | ⟨q,hq,_,hn,hi⟩
 ·refine⟨by rw[hn];exact hz _ (Qm m hm).1,λ e he=>?_⟩;rcases hi with ⟨hi,_⟩ | ⟨e',hi,_,hw⟩
  ·rw[hi] at he;cases he
  ·rw[hi] at he;cases he;exact⟨oL ZZ 1 _ yA hw,ma ZZ (d:=1) yA hw⟩
 ·exact⟨by rw[hn];exact hz _ (Qp q hq).1,λ e he=>by rw[hi] at he;cases he⟩
theorem LH {V:List ByteArray}(hV:∀ x∈V,ni x):∀ {gp:List Pm} {l:List Ar},jy ms ps V gp l->∀ a∈l,TxA a
 | [],[],_=>by simp
 | q::gp,a::l,h=>by
  simp only[jy] at h;intro x hx;rcases mem_cons.1 hx with rfl | hx
  ·cases x with
   | vw r=>exact rf_T Qm Qp hV h.1.2
   | exp e=>
    have ZZ:∀ x∈V,dG x:=λ x hx=>(hV x hx).1;exact⟨oL ZZ 2 _ yA h.1.2,ma ZZ (d:=2) yA h.1.2⟩
  ·exact LH hV h.2 x hx
 | [],_::_,h=>h.elim
 | _::_,[],h=>h.elim
include Qq PS
theorem Az:(∀ s:Sm,∀ d V deep,(∀ x∈V,ni x)->deep+d<20->ef ms fs ps d V s->eN s<=2000->OkF deep s)/\
  (∀ l:List Sm,∀ d V deep,(∀ x∈V,ni x)->deep+d<20->dn ms fs ps d V l->bZ l<=2000->∀ s∈l,OkF deep s):=by
 let M1:Sm->Prop:=λ s=>∀ d V deep,(∀ x∈V,ni x)->deep+d<20->ef ms fs ps d V s->eN s<=2000->OkF deep s
 let M2:List Sm->Prop:=λ l=>∀ d V deep,(∀ x∈V,ni x)->deep+d<20->dn ms fs ps d V l->bZ l<=2000->∀ s∈l,OkF deep s
 have Vf:∀ k,k<24->ni (fJ k):=zU;have A1:∀ (s:ByteArray) (e:Ex),M1 (.ia s e):=by
  intro s e d V deep hV _ hw _;simp only[ef] at hw;obtain⟨⟨k,hk,rfl⟩,_,he⟩:=hw;exact⟨Vf k hk,fY hV 2 _ yA he⟩
 have A2:∀ (s:ByteArray) (e:Ex),M1 (.iX s e):=by
  intro s e d V deep hV _ hw _;simp only[ef] at hw;exact⟨hV s hw.1,fY hV 2 _ yA hw.2⟩
 have A3:∀ (g:Bool) (s:ByteArray) (l:List Ar),M1 (.en g s l):=by
  intro g s l d V deep hV _ hw hk;simp only[ef] at hw;obtain⟨gp,h1,h2⟩:=hw;have:=h2.len;have:=PS _ h1;simp only at this;exact⟨Qq _ h1,by omega,LI Qm Qp hV h2⟩
 have A4:∀ (u:Bool) (r:Rf),M1 (.dP u r):=by
  intro u r d V deep hV _ hw _;simp only[ef] at hw;exact rf_R Qm Qp hV hw
 have A5:∀ (e:Ex) (th el:List Sm),M2 th->M2 el->M1 (.lO e th el):=by
  intro e th el i1 i2 d V deep hV hd hw hk
  cases d with
  | zero=>simp[ef] at hw
  | succ d=>
   simp only[ef] at hw;simp only[eN] at hk;have l1:=ka th;have l2:=ka el;exact⟨fY hV 2 _ yA hw.1,mC yA yA (i1 d V _ hV yA hw.2.1 yA),mC yA yA (i2 d V _ hV yA hw.2.2 yA)⟩
 have A6:∀ (e:Ex) (th:List Sm),M2 th->M1 (.dh e th):=by
  intro e th i1 d V deep hV hd hw hk
  cases d with
  | zero=>simp[ef] at hw
  | succ d=>
   simp only[ef] at hw;simp only[eN] at hk;have l1:=ka th;exact⟨fY hV 2 _ yA hw.1,mC yA yA (i1 d V _ hV yA hw.2 yA)⟩
 have A7:M1 .jJ:=λ _ _ _ _ _ _ _=>trivial;have A0:M2 []:=λ _ _ _ _ _ _ _ s hs=>by simp at hs
 have A8:∀ (s:Sm) (r:List Sm),M1 s->M2 r->M2 (s::r):=by
  intro s r i1 i2 d V deep hV hd hw hk x hx;simp only[dn] at hw;simp only[bZ] at hk;have ZY:∀ x∈V++ek s,ni x:=by
   intro x hx;rcases mem_append.1 hx with hx | hx
   ·exact hV x hx
   ·cases s<;>simp only[ek,mem_singleton,not_mem_nil] at hx;subst hx;have:=hw.1;simp only[ef] at this;obtain⟨⟨j,hj,rfl⟩,_⟩:=this;exact Vf j hj
  rcases mem_cons.1 hx with rfl | hx
  ·exact i1 d V deep hV hd hw.1 yA
  ·exact i2 d _ deep ZY hd hw.2 yA x hx
 exact⟨λ s=>Sm.rec (motive_1:=M1) (motive_2:=M2) A1 A2 A3 A4 A5 A6 A7 A0 A8 s,λ l=>Sm.rec_1 (motive_1:=M1) (motive_2:=M2) A1 A2 A3 A4 A5 A6 A7 A0 A8 l⟩
theorem Fy:(∀ s:Sm,∀ d V Lf,(∀ x∈V,ni x)->gM d Lf->ef ms fs ps d V s->eN s<=2000->TxS Lf s)/\
  (∀ l:List Sm,∀ d V Lf,(∀ x∈V,ni x)->gM d Lf->dn ms fs ps d V l->bZ l<=2000->∀ s∈l,TxS Lf s):=by
 let M1:Sm->Prop:=λ s=>∀ d V Lf,(∀ x∈V,ni x)->gM d Lf->ef ms fs ps d V s->eN s<=2000->TxS Lf s
 let M2:List Sm->Prop:=λ l=>∀ d V Lf,(∀ x∈V,ni x)->gM d Lf->dn ms fs ps d V l->bZ l<=2000->∀ s∈l,TxS Lf s
 have Vf:∀ k,k<24->ni (fJ k):=zU;have hz:∀ s:ByteArray,ni s->s.size<=100:=λ s hs=>by
  have:=hs.1.2.2;rw[lM] at this;omega
 have tx:∀ {V:List ByteArray} (_:∀ x∈V,ni x) {e:Ex},fV V 2 e->NB e:=λ {V} hV {e} he=>⟨oL (λ x hx=>(hV x hx).1) 2 _ yA he,ma (λ x hx=>(hV x hx).1) (d:=2) yA he⟩;have j7:∀ (l:List Sm) (d:Nat) (V:List ByteArray) (Lf:ByteArray),M2 l->(∀ x∈V,ni x)->gM d Lf->dn ms fs ps d V l->bZ l<=2000->af prog 165 [.au (bS l) l.length,.str Lf] (.str (jz Lf l)):=by
  intro l d V Lf i1 hV ht hw hk;have hs:=((cu.lines (ms:=ms) (fs:=fs) (ps:=ps) (λ m hm=>(Qm m hm).1) (λ x hx=>(Qq x hx).1) (λ q hq=>(Qp q hq).1)).2 l d V Lf (λ x hx=>(hV x hx).1) ht hw).1;rw[lM] at hs;have h2:=ht.2;rw[lM] at h2;have h3:=ka l;exact vF l Lf yA yA yA (i1 d V Lf hV ht hw hk)
 have A1:∀ (s:ByteArray) (e:Ex),M1 (.ia s e):=by
  intro s e d V Lf hV _ hw _;simp only[ef] at hw;obtain⟨⟨k,hk,rfl⟩,_,he⟩:=hw;exact⟨hz _ (Vf k hk),tx hV he⟩
 have A2:∀ (s:ByteArray) (e:Ex),M1 (.iX s e):=by
  intro s e d V Lf hV _ hw _;simp only[ef] at hw;exact⟨hz _ (hV s hw.1),tx hV hw.2⟩
 have A3:∀ (g:Bool) (s:ByteArray) (l:List Ar),M1 (.en g s l):=by
  intro g s l d V Lf hV _ hw hk;simp only[ef] at hw;obtain⟨gp,h1,h2⟩:=hw;have:=h2.len;have:=PS _ h1;simp only at this;exact⟨hz _ (Qq _ h1),by omega,LH Qm Qp hV h2⟩
 have A4:∀ (u:Bool) (r:Rf),M1 (.dP u r):=by
  intro u r d V Lf hV _ hw _;simp only[ef] at hw;exact rf_T Qm Qp hV hw
 have A5:∀ (e:Ex) (th el:List Sm),M2 th->M2 el->M1 (.lO e th el):=by
  intro e th el i1 i2 d V Lf hV ht hw hk
  cases d with
  | zero=>simp[ef] at hw
  | succ d=>
   simp only[ef] at hw;simp only[eN] at hk;exact⟨tx hV hw.1,j7 th d V _ i1 hV ht.Fq hw.2.1 yA,j7 el d V _ i2 hV ht.Fq hw.2.2 yA⟩
 have A6:∀ (e:Ex) (th:List Sm),M2 th->M1 (.dh e th):=by
  intro e th i1 d V Lf hV ht hw hk
  cases d with
  | zero=>simp[ef] at hw
  | succ d=>
   simp only[ef] at hw;simp only[eN] at hk;exact⟨tx hV hw.1,j7 th d V _ i1 hV ht.Fq hw.2 yA⟩
 have A7:M1 .jJ:=λ _ _ _ _ _ _ _=>trivial;have A0:M2 []:=λ _ _ _ _ _ _ _ s hs=>by simp at hs
 have A8:∀ (s:Sm) (r:List Sm),M1 s->M2 r->M2 (s::r):=by
  intro s r i1 i2 d V Lf hV hd hw hk x hx;simp only[dn] at hw;simp only[bZ] at hk;have ZY:∀ x∈V++ek s,ni x:=by
   intro x hx;rcases mem_append.1 hx with hx | hx
   ·exact hV x hx
   ·cases s<;>simp only[ek,mem_singleton,not_mem_nil] at hx;subst hx;have:=hw.1;simp only[ef] at this;obtain⟨⟨j,hj,rfl⟩,_⟩:=this;exact Vf j hj
  rcases mem_cons.1 hx with rfl | hx
  ·exact i1 d V Lf hV hd hw.1 yA
  ·exact i2 d _ Lf ZY hd hw.2 yA x hx
 exact⟨λ s=>Sm.rec (motive_1:=M1) (motive_2:=M2) A1 A2 A3 A4 A5 A6 A7 A0 A8 s,λ l=>Sm.rec_1 (motive_1:=M1) (motive_2:=M2) A1 A2 A3 A4 A5 A6 A7 A0 A8 l⟩
end
section
variable {p:Pg}(h:kM p)
include h
theorem _root_.Go.aV.kM.Dz (f:Fu)(hf:f∈p.fs):bZ f.body<=1152:=by
 have hw:=h.wt;have:bZ f.body∈p.fs.map λ f=>bZ f.body:=mem_map_of_mem (f:=λ f=>bZ f.body) hf;have h2:∀ {l:List Nat} {a:Nat},a∈l->a<=l.sum:=λ {l a} ha=>by
  induction l with
  | nil=>simp at ha
  | cons b r ih=>
   rcases mem_cons.1 ha with rfl | ha
   ·simp
   ·have:=ih ha;simp only[sum_cons];omega
 have:=h2 this;omega
theorem _root_.Go.aV.kM.I0:(∀ x∈p.fs.map λ f=>(f.name,f.params),ni x.1)/\(∀ x∈p.fs.map λ f=>(f.name,f.params),x.2.length<=2):=by
 refine⟨λ x hx=>?_,λ x hx=>?_⟩
 ·rw[mem_map] at hx;obtain⟨f,hf,rfl⟩:=hx;exact h.fR f hf
 ·rw[mem_map] at hx;obtain⟨f,hf,rfl⟩:=hx;exact h.pl f hf
theorem _root_.Go.aV.kM.okb (f:Fu)(hf:f∈p.fs):af prog 127 [.au (bS f.body) f.body.length,I (0:Nat)] (.bool true):=by
 have hk:=h.Dz f hf;have hl:=ka f.body;exact mC yA yA ((Az h.mR h.I0.1 h.I0.2 (h.pR f hf)).2 f.body 2 _ 0 (h.vR f hf) yA (h.bd f hf) yA)
theorem _root_.Go.aV.kM.lnb (f:Fu)(hf:f∈p.fs):af prog 165 [.au (bS f.body) f.body.length,.str ⟨#[9]⟩] (.str (jz ⟨#[9]⟩ f.body)):=by
 have hk:=h.Dz f hf;have hl:=ka f.body;have ht:gM 2 ⟨#[9]⟩:=⟨by decide,by decide⟩;have hs:=((cu.lines (ms:=p.ms) (fs:=p.fs.map λ f=>(f.name,f.params)) (ps:=f.params) (λ m hm=>(h.mR m hm).1) (λ x hx=>(h.I0.1 x hx).1) (λ q hq=>(h.pR f hf q hq).1)).2 f.body 2 _ ⟨#[9]⟩ (λ x hx=>(h.vR f hf x hx).1) ht (h.bd f hf)).1;rw[lM] at hs;exact vF f.body ⟨#[9]⟩ O3 yA yA ((Fy h.mR h.I0.1 h.I0.2 (h.pR f hf)).2 f.body 2 _ _ (h.vR f hf) ht (h.bd f hf) yA)
end
def J57a (p:Pg)(n:Nat)(s:St):Prop:=∃ i:Nat,n=p.gs.length-i/\i<=p.gs.length/\s=⟨[(3,I i),(1,.ax 0 0)],[(0,⟨27,0,eU p⟩)],1⟩
def J57b (p:Pg)(n:Nat)(s:St):Prop:=∃ i:Nat,n=p.ms.length-i/\i<=p.ms.length/\s=⟨[(4,I i),(1,.ax 0 0)],[(0,⟨27,0,eU p⟩)],1⟩
def J57c (p:Pg)(n:Nat)(s:St):Prop:=∃ i:Nat,n=p.fs.length-i/\i<=p.fs.length/\s=⟨[(6,I i),(1,.ax 0 0)],[(0,⟨27,0,eU p⟩)],1⟩
def J57d (p:Pg)(i:Nat)(f:Fu)(n:Nat)(s:St):Prop:=∃ q:Nat,n=f.params.length-q/\q<=f.params.length/\s=⟨[(8,I q),(7,.ax 1 0),(6,I i),(1,.ax 0 0)],[(0,⟨27,0,eU p⟩),(1,⟨136,0,fD f⟩)],2⟩
set_option maxHeartbeats 8000000 in
theorem Gq (p:Pg)(h:kM p):af prog 67 [xB p] (.bool true):=by
 have hT:=Mw h;have hTs:(Fc p).size<=262144:=by have:=hT.2;rw[lM] at this;exact this
 obtain⟨k1,RU,e1⟩:=h.gn;obtain⟨k2,_,Uo,e2⟩:=h.mn;obtain⟨k3,_,hk3,e3⟩:=h.fn;have l1:=congrArg length e1;have l2:=congrArg length e2;have l3:=congrArg length e3;simp[nG] at l1;simp[nM] at l2;simp[nF] at l3;clear e1 e2 e3;have Tn:=Ao p yA yA yA yA (λ g hg=>by have:=h.gi g hg;omega) (λ m hm=>by have:=(h.mz m hm).1;omega) (λ f hf=>⟨by have:=h.pl f hf;omega,h.lnb f hf⟩);have hlx:=MP (bs (Fc p)) hT.2 hT.1;have g1:¬ (16:Int)<p.gs.length:=by omega
 have g2:¬ (12:Int)<p.ms.length:=by omega
 have g3:¬ (16:Int)<p.fs.length:=by omega
 have fg:=λ (k:Nat) (a:Gl) (h:p.gs[k]? = some a)=>aH (f:=pE) (n:=2) (λ _=>rfl) h;have fg1:=λ (k:Nat) (a:Gl) (h:p.gs[k]? = some a)=>cq (f:=pE) (n:=2) (λ _=>rfl) h 1 yA;have fm:=λ (k:Nat) (a:Mx) (h:p.ms[k]? = some a)=>aH (f:=cI) (n:=3) (λ _=>rfl) h;have ff:=λ (k:Nat) (a:Fu) (h:p.fs[k]? = some a)=>aH (f:=fD) (n:=3) (λ _=>rfl) h;refine af.aC ag Tryz.func67 rfl GK (by simp[Tryz.ntmps67]) rfl λ C hC OR=>?_;rw[Tryz.ntmps67] at hC;apply aq;simp[hC,xB,eU];apply aT;simp[hC,g1,g2,g3];refine eQ ?_;simp;refine T.cut (λ s=>s=⟨[(1,.ax 0 0)],[(0,⟨27,0,eU p⟩)],1⟩) ?_ ?_
 ·apply aq;simp[hC];apply T.block;refine T.aQ (J57a p) (n:=p.gs.length) ?_ ?_
  ·refine aa.trim [3,1] [0] 1 xr yA ⟨0,by omega,by omega,?_⟩;simp[eU]
  ·rintro n s ⟨i,rfl,hi,rfl⟩;by_cases OP:i<p.gs.length
   ·obtain⟨a,PX⟩:∃ a,p.gs[i]? = some a:=⟨p.gs[i],getElem?_eq_getElem OP⟩;have OS:=fg i a PX;have QO:=fg1 i a PX;have hm:=mem_of_getElem? PX;have hn:=jQ a.name (h.gR a hm).1 (h.gR a hm).2;have OZ:(a.init == -9223372036854775808)=false:=by have:=h.gi a hm;simp;omega
    have wi:=cw ((i:Int)+1) yA yA;apply aT;simp[hC,OP,eU];refine iI ?_;simp;apply eZ;apply aq;simp[hC,OP,OS,pE];refine ct O4 (hn) ?_;simp[hC,OP,OS,OZ,pE];refine eQ ?_;simp;apply aG;simp[hC,wi];refine⟨p.gs.length-(i+1),by omega,?_⟩;refine aa.trim [3,1] [0] 1 xr yA ⟨i+1,rfl,by omega,?_⟩;simp[eU]
   ·apply aT;simp[hC,OP,eU];refine bh ?_;simp;apply T.exit;simp;refine aa.trim [1] [0] 1 xr yA ?_;simp
 rintro s rfl;refine T.cut (λ s=>s=⟨[(1,.ax 0 0)],[(0,⟨27,0,eU p⟩)],1⟩) ?_ ?_
 ·apply aq;simp[hC];apply T.block;refine T.aQ (J57b p) (n:=p.ms.length) ?_ ?_
  ·refine aa.trim [4,1] [0] 1 Ti yA ⟨0,by omega,by omega,?_⟩;simp[eU]
  ·rintro n s ⟨i,rfl,hi,rfl⟩;by_cases OP:i<p.ms.length
   ·obtain⟨a,PX⟩:∃ a,p.ms[i]? = some a:=⟨p.ms[i],getElem?_eq_getElem OP⟩;have OS:=fm i a PX;have hm:=mem_of_getElem? PX;have hn:=jQ a.name (h.mR a hm).1 (h.mR a hm).2;have hz:=h.mz a hm;have wi:=cw ((i:Int)+1) yA yA;have z1:¬ (a.size:Int)<0:=by omega
    have z2:¬ (64:Int)<a.size:=by omega
    apply aT;simp[hC,OP,eU];refine iI ?_;simp;apply eZ;apply aq;simp[hC,OP,OS,cI]
    cases Ro:a.re with
    | true=>
     have z3:=hz.2 Ro;apply aq;simp[hC];refine ct O4 (hn) ?_;simp[hC,z3];refine eQ ?_;simp;apply aG;simp[hC,wi];refine⟨p.ms.length-(i+1),by omega,?_⟩;refine aa.trim [4,1] [0] 1 xr yA ⟨i+1,rfl,by omega,?_⟩;simp[eU]
    | false=>
     apply aq;simp[hC];refine ct O4 (hn) ?_;simp[hC,z1,z2];refine eQ ?_;simp;apply aG;simp[hC,wi];refine⟨p.ms.length-(i+1),by omega,?_⟩;refine aa.trim [4,1] [0] 1 xr yA ⟨i+1,rfl,by omega,?_⟩;simp[eU]
   ·apply aT;simp[hC,OP,eU];refine bh ?_;simp;apply T.exit;simp;refine aa.trim [1] [0] 1 xr yA ?_;simp
 rintro s rfl;refine T.cut (λ s=>s=⟨[(1,.ax 0 0)],[(0,⟨27,0,eU p⟩)],1⟩) ?_ ?_
 ·apply aq;simp[hC];apply T.block;refine T.aQ (J57c p) (n:=p.fs.length) ?_ ?_
  ·refine aa.trim [6,1] [0] 1 Ti yA ⟨0,by omega,by omega,?_⟩;simp[eU]
  ·rintro n s ⟨i,rfl,hi,rfl⟩;by_cases OP:i<p.fs.length
   ·obtain⟨a,PX⟩:∃ a,p.fs[i]? = some a:=⟨p.fs[i],getElem?_eq_getElem OP⟩;have OS:=ff i a PX;have hm:=mem_of_getElem? PX;have hn:=jQ a.name (h.fR a hm).1 (h.fR a hm).2;have hb:=h.okb a hm;have Qx:=h.pl a hm;have wi:=cw ((i:Int)+1) yA yA;have z1:¬ (6:Int)<a.params.length:=by omega
    apply aT;simp[hC,OP,eU];refine iI ?_;simp;apply eZ;apply aq;simp[hC,OP,OS,fD];apply aT;simp[hC];refine ct O4 (hn) ?_;simp[hC,z1];refine TL.cU OU rfl rfl rfl rfl (bR.of rfl O4 (hb)) (TL.go' ag ?_);simp[hC];refine eQ ?_;simp;apply aq;simp[hC];apply T.block;refine T.aQ (J57d p i a) (n:=a.params.length) ?_ ?_
    ·refine aa.trim [8,7,6,1] [0,1] 2 xr yA ⟨0,by omega,by omega,?_⟩;simp[eU,fD]
    ·rintro n s ⟨q,rfl,hq,rfl⟩;by_cases TJ:q<a.params.length
     ·obtain⟨b,Vh⟩:∃ b,a.params[q]? = some b:=⟨a.params[q],getElem?_eq_getElem TJ⟩;have hp0:=aH (f:=ln) (n:=2) (λ _=>rfl) Vh;have ZV:=mem_of_getElem? Vh;have QV:=jQ b.name (h.pR a hm b ZV).1 (h.pR a hm b ZV).2;have wq:=cw ((q:Int)+1) yA yA;apply aT;simp[hC,TJ,fD];refine iI ?_;simp;apply eZ;apply aq;simp[hC,TJ,hp0,ln];refine ct O4 (QV) ?_;simp[hC];refine eQ ?_;simp;apply aG;simp[hC,wq];refine⟨a.params.length-(q+1),by omega,?_⟩;refine aa.trim [8,7,6,1] [0,1] 2 Ti yA ⟨q+1,rfl,by omega,?_⟩;simp[eU,fD]
     ·apply aT;simp[hC,TJ,fD];refine bh ?_;simp;apply T.exit;simp;apply aG;simp[hC,wi];refine⟨p.fs.length-(i+1),by omega,?_⟩;refine aa.trim [6,1] [0] 1 Ti yA ⟨i+1,rfl,by omega,?_⟩;simp[eU]
   ·apply aT;simp[hC,OP,eU];refine bh ?_;simp;apply T.exit;simp;refine aa.trim [1] [0] 1 xr yA ?_;simp
 rintro s rfl;apply aq;simp[hC,eU];refine TL.call OU rfl rfl (bR.of rfl PU Tn) (TL.B1 ag ?_);have hTz:(Fc p).size<=1000000:=by omega
 have Uq:dS (bs (Fc p))=.au (qc (Fc p)) (Fc p).size:=by rw[dS,lM];rfl
 rw[Uq] at hlx;simp[hC,hTz];refine TL.Iz OU rfl rfl rfl PU hlx λ r hr=>TL.go' ag ?_;obtain⟨cs,n,e,rfl⟩:=hr;simp[hC];apply aq;simp[hC];apply T.ret;apply aa.here;simp[Tryz.results67]
end Go.Proofs.YtlkmbdfhdknlgaaGreat
