/- Lemmas. -/
import Derived.Test.YtlkmbdfhdknlgaaGreatW19
set_option maxHeartbeats 8000000
namespace Go.Proofs.YtlkmbdfhdknlgaaGreat
open Go.Can Go.aK List Tryz
def J91a (p:Pg)(X:ByteArray)(n:Nat)(s:St):Prop:=∃ (i:Nat) (x:ByteArray),n=p.gs.length-i/\i<=p.gs.length/\x++(kJ O9 (p.gs.drop i)++kJ NC p.ms++kJ IZ p.fs)=X/\s=⟨[(4,I i),(3,.str x),(1,.ax 0 0)],[(0,⟨27,0,fp p⟩)],1⟩
def J91b (p:Pg)(X:ByteArray)(n:Nat)(s:St):Prop:=∃ (i:Nat) (x:ByteArray),n=p.ms.length-i/\i<=p.ms.length/\x++(kJ NC (p.ms.drop i)++kJ IZ p.fs)=X/\s=⟨[(5,I i),(3,.str x),(1,.ax 0 0)],[(0,⟨27,0,fp p⟩)],1⟩
def J91c (p:Pg)(X:ByteArray)(n:Nat)(s:St):Prop:=∃ (i:Nat) (x:ByteArray),n=p.fs.length-i/\i<=p.fs.length/\x++kJ IZ (p.fs.drop i)=X/\s=⟨[(7,I i),(3,.str x),(1,.ax 0 0)],[(0,⟨27,0,fp p⟩)],1⟩
def J91d (p:Pg)(i:Nat)(nm:ByteArray)(ps:List Pm)(bd:List Sm)(Y:ByteArray)(n:Nat)(s:St):Prop:=∃ (q:Nat) (z:ByteArray),n=ps.length-q/\q<=ps.length/\z++xp (decide (q=0)) (ps.drop q)=Y/\s=⟨[(9,I q),(8,.ax 1 0),(7,I i),(3,.str z),(1,.ax 0 0)],[(0,⟨27,0,fp p⟩),(1,⟨136,0,fT ⟨nm,ps,bd⟩⟩)],2⟩
theorem Bi (b:ByteArray):(⟨#[]⟩:ByteArray)++b=b:=ByteArray.empty_append
theorem ox (b:ByteArray):b++(⟨#[]⟩:ByteArray)=b:=ByteArray.append_empty
theorem Cn (p:Pg)(SB:(HW p).size<=1000000)(h1:p.gs.length<=100)(h2:p.ms.length<=100)(h3:p.fs.length<=100)(hg:∀ g∈p.gs,-1000<=g.init/\g.init<=1000)(hm:∀ m∈p.ms,m.size<=1000)
  (hf:∀ f∈p.fs,f.params.length<=100/\ae prog 165 [.az (bP f.body) f.body.length,.str ⟨#[9]⟩] (.str (j3 ⟨#[9]⟩ f.body))):ae prog 128 [zt p] (.str (HW p)):=by
 obtain⟨X,hX⟩:∃ X,HW p=X:=⟨_,rfl⟩;rw[hX] at SB |-;unfold HW at hX;have fg:=λ (k:Nat) (a:Gl) (h:p.gs[k]? = some a)=>aL (f:=qH) (n:=2) (λ _=>rfl) h;have fg1:=λ (k:Nat) (a:Gl) (h:p.gs[k]? = some a)=>cb (f:=qH) (n:=2) (λ _=>rfl) h 1 yA;have fm:=λ (k:Nat) (a:Mx) (h:p.ms[k]? = some a)=>aL (f:=cP) (n:=3) (λ _=>rfl) h;have ff:=λ (k:Nat) (a:Fu) (h:p.fs[k]? = some a)=>aL (f:=fT) (n:=3) (λ _=>rfl) h;refine ae.aD af Tryz.func128 rfl Bw (by simp[Tryz.ntmps128]) rfl λ C hC M0=>?_;rw[Tryz.ntmps128] at hC;apply aq;simp[hC,zt,fp];apply aq;simp[hC];refine T.cut (λ s=>∃ x,x++(kJ NC p.ms++kJ IZ p.fs)=X/\s=⟨[(3,.str x),(1,.ax 0 0)],[(0,⟨27,0,fp p⟩)],1⟩) ?_ ?_
 .apply aq;simp[hC];apply T.block;refine T.aI (J91a p X) (n:=p.gs.length) ?_ ?_
  .refine aa.trim [4,3,1] [0] 1 xr yA ⟨0,⟨#[]⟩,by omega,by omega,?_,?_⟩
   .rw[Bi];exact hX
   .simp[fp]
  .rintro n s ⟨i,x,rfl,hi,hx,rfl⟩;by_cases Jz:i<p.gs.length
   .obtain⟨a,Tn⟩:∃ a,p.gs[i]? = some a:=⟨p.gs[i],getElem?_eq_getElem Jz⟩;have OZ:=fg i a Tn;have Uq:=fg1 i a Tn;have SF:=hg a (mem_of_getElem? Tn);have wi:=cr ((i:Int)+1) yA yA;have hd:p.gs.drop i=a::p.gs.drop (i+1):=by
     rw[drop_eq_getElem_cons Jz,(List.getElem?_eq_some_iff.1 Tn).2]
    rw[hd,kJ] at hx;have hz:=congrArg ByteArray.size hx;simp only[O9,B3,ByteArray.size_append] at hz;have s0:=aB x ⟨#[118,97,114,32]⟩ yA;have s1:=aB (x++⟨#[118,97,114,32]⟩) a.name Xt;apply aW;simp[hC,Jz,fp];refine jk ?_;simp;apply eE;apply aq;simp[hC,Jz,OZ,qH,s0,s1];by_cases h0:a.init=0
    .rw[if_pos h0] at hz;have s2:=aB (x++⟨#[118,97,114,32]⟩++a.name) ⟨#[59,10]⟩ Xt;apply aW;simp[hC,Jz,OZ,qH,h0];refine gk ?_;simp;apply aM;simp[hC,s2];apply aM;simp[hC,wi];refine⟨p.gs.length-(i+1),by omega,?_⟩;refine aa.trim [4,3,1] [0] 1 xr yA ⟨i+1,x++⟨#[118,97,114,32]⟩++a.name++⟨#[59,10]⟩,rfl,by omega,?_,?_⟩
     .rw[<- hx,O9,if_pos h0,ox];simp only[B3,ByteArray.append_assoc]
     .simp[fp]
    .rw[if_neg h0] at hz;simp only[Js,ByteArray.size_append] at hz;have h0b:(a.init != 0)=true:=by simp[h0]
     have s2:=aB (x++⟨#[118,97,114,32]⟩++a.name) ⟨#[32,61,32]⟩ Xt;have s3:=aB (x++⟨#[118,97,114,32]⟩++a.name++⟨#[32,61,32]⟩) (mv a.init) Xt;have s4:=aB (x++⟨#[118,97,114,32]⟩++a.name++⟨#[32,61,32]⟩++mv a.init) ⟨#[59,10]⟩ Xt;apply aW;simp[hC,Jz,OZ,qH,h0b];refine du ?_;simp;apply aM;simp[hC,Jz,OZ,qH,s2];refine cS SD (qW a.init yA yA) ?_;simp[hC,s3];apply aM;simp[hC,s4];apply aM;simp[hC,wi];refine⟨p.gs.length-(i+1),by omega,?_⟩;refine aa.trim [4,3,1] [0] 1 xr yA ⟨i+1,x++⟨#[118,97,114,32]⟩++a.name++⟨#[32,61,32]⟩++mv a.init++⟨#[59,10]⟩,rfl,by omega,?_,?_⟩
     .rw[<- hx,O9,if_neg h0];simp only[B3,Js,ByteArray.append_assoc]
     .simp[fp]
   .have Rz:i=p.gs.length:=by omega
    rw[Rz,drop_length,kJ,Bi] at hx;apply aW;simp[hC,Jz,fp];refine bg ?_;simp;apply T.exit;simp;refine aa.trim [3,1] [0] 1 xr yA ⟨x,hx,?_⟩;simp
 rintro s ⟨x0,hx0,rfl⟩;clear hX;refine T.cut (λ s=>∃ x,x++kJ IZ p.fs=X/\s=⟨[(3,.str x),(1,.ax 0 0)],[(0,⟨27,0,fp p⟩)],1⟩) ?_ ?_
 .apply aq;simp[hC];apply T.block;refine T.aI (J91b p X) (n:=p.ms.length) ?_ ?_
  .refine aa.trim [5,3,1] [0] 1 WY yA ⟨0,x0,by omega,by omega,hx0,?_⟩;simp
  .rintro n s ⟨i,x,rfl,hi,hx,rfl⟩;by_cases Jz:i<p.ms.length
   .obtain⟨a,Tn⟩:∃ a,p.ms[i]? = some a:=⟨p.ms[i],getElem?_eq_getElem Jz⟩;have OZ:=fm i a Tn;have SF:=hm a (mem_of_getElem? Tn);have wi:=cr ((i:Int)+1) yA yA;have hd:p.ms.drop i=a::p.ms.drop (i+1):=by
     rw[drop_eq_getElem_cons Jz,(List.getElem?_eq_some_iff.1 Tn).2]
    rw[hd,kJ,NC] at hx;have hz:=congrArg ByteArray.size hx;simp only[ByteArray.size_append] at hz;apply aW;simp[hC,Jz,fp];refine jk ?_;simp;apply eE;apply aq;simp[hC,Jz,OZ,cP];obtain⟨y,hy⟩:∃ y,x++(if a.re=true then ⟨#[114]⟩ else ⟨#[]⟩)=y:=⟨_,rfl⟩;have hys:y.size=x.size+(if a.re=true then (⟨#[114]⟩:ByteArray) else ⟨#[]⟩).size:=by rw[<- hy,ByteArray.size_append]
    have hyX:y.size<=1000000:=by omega
    refine T.cut (λ s=>s=⟨[(6,.ax 1 0),(5,I i),(3,.str y),(1,.ax 0 0)],[(0,⟨27,0,fp p⟩),(1,⟨98,0,cP a⟩)],2⟩) ?_ ?_
    .apply aq;simp[hC];refine T.cond (b:=a.re) rfl ?_
     cases UU:a.re with
     | true=>
      rw[UU,if_pos rfl] at hy hys;have s0:=aB x ⟨#[114]⟩ yA;simp;apply aM;simp[hC,s0];refine aa.trim [6,5,3,1] [0,1] 2 xr yA ?_;simp[<- hy,cP,UU,fp]
     | false=>
      rw[UU,if_neg xr,ox] at hy;simp;apply T.skip;simp;refine aa.trim [6,5,3,1] [0,1] 2 xr yA ?_;simp[<- hy,cP,UU,fp]
    rintro s rfl;have s1:=aB y ⟨#[109,117,116,101,120,32]⟩ yA;have s2:=aB (y++⟨#[109,117,116,101,120,32]⟩) a.name Xt;apply aq;simp[hC,s1,s2,cP];have Vp:y++(⟨#[109,117,116,101,120,32]⟩++a.name++(if a.size=0 then ⟨#[]⟩ else ⟨#[91]⟩++mv a.size++⟨#[93]⟩)++⟨#[59,10]⟩++(kJ NC (p.ms.drop (i+1))++kJ IZ p.fs))=X:=by
     rw[<- hx,<- hy];simp only[ByteArray.append_assoc]
    by_cases h0:a.size=0
    .rw[if_pos h0] at hz Vp;have s3:=aB (y++⟨#[109,117,116,101,120,32]⟩++a.name) ⟨#[59,10]⟩ Xt;apply aW;simp[hC,h0];refine gk ?_;simp;apply aM;simp[hC,s3];apply aM;simp[hC,wi];refine⟨p.ms.length-(i+1),by omega,?_⟩;refine aa.trim [5,3,1] [0] 1 WY yA ⟨i+1,y++⟨#[109,117,116,101,120,32]⟩++a.name++⟨#[59,10]⟩,rfl,by omega,?_,?_⟩
     .rw[<- Vp,ox];simp only[ByteArray.append_assoc]
     .simp[fp]
    .rw[if_neg h0] at hz Vp;simp only[ByteArray.size_append] at hz;have h0b:0<a.size:=by omega
     have s3:=aB (y++⟨#[109,117,116,101,120,32]⟩++a.name) ⟨#[91]⟩ Xt;have s4:=aB (y++⟨#[109,117,116,101,120,32]⟩++a.name++⟨#[91]⟩) (mv a.size) Xt;have s5:=aB (y++⟨#[109,117,116,101,120,32]⟩++a.name++⟨#[91]⟩++mv a.size) ⟨#[93]⟩ Xt;have s6:=aB (y++⟨#[109,117,116,101,120,32]⟩++a.name++⟨#[91]⟩++mv a.size++⟨#[93]⟩) ⟨#[59,10]⟩ Xt;apply aW;simp[hC,h0b];refine du ?_;simp;apply aM;simp[hC,s3];refine cS SD (qW (a.size:Int) yA yA) ?_;simp[hC,s4,s5];apply aM;simp[hC,s6];apply aM;simp[hC,wi];refine⟨p.ms.length-(i+1),by omega,?_⟩;refine aa.trim [5,3,1] [0] 1 WY yA ⟨i+1,y++⟨#[109,117,116,101,120,32]⟩++a.name++⟨#[91]⟩++mv a.size++⟨#[93]⟩++⟨#[59,10]⟩,rfl,by omega,?_,?_⟩
     .rw[<- Vp];simp only[ByteArray.append_assoc]
     .simp[fp]
   .have Rz:i=p.ms.length:=by omega
    rw[Rz,drop_length,kJ,Bi] at hx;apply aW;simp[hC,Jz,fp];refine bg ?_;simp;apply T.exit;simp;refine aa.trim [3,1] [0] 1 xr yA ⟨x,hx,?_⟩;simp
 rintro s ⟨x1,hx1,rfl⟩;clear hx0;refine T.cut (λ s=>s=⟨[(3,.str X),(1,.ax 0 0)],[(0,⟨27,0,fp p⟩)],1⟩) ?_ ?_
 .apply aq;simp[hC];apply T.block;refine T.aI (J91c p X) (n:=p.fs.length) ?_ ?_
  .refine aa.trim [7,3,1] [0] 1 WY yA ⟨0,x1,by omega,by omega,hx1,?_⟩;simp
  .rintro n s ⟨i,x,rfl,hi,hx,rfl⟩;by_cases Jz:i<p.fs.length
   .obtain⟨a,Tn⟩:∃ a,p.fs[i]? = some a:=⟨p.fs[i],getElem?_eq_getElem Jz⟩;have OZ:=ff i a Tn;obtain⟨Tx,SA⟩:=hf a (mem_of_getElem? Tn);have wi:=cr ((i:Int)+1) yA yA;have hd:p.fs.drop i=a::p.fs.drop (i+1):=by
     rw[drop_eq_getElem_cons Jz,(List.getElem?_eq_some_iff.1 Tn).2]
    rw[hd,kJ,IZ] at hx;obtain⟨nm,ps,bd⟩:=a;simp only at hx Tx SA;have hz:=congrArg ByteArray.size hx;simp only[ByteArray.size_append] at hz;obtain⟨y,hy⟩:∃ y,x++⟨#[102,117,110,99,32]⟩++nm++⟨#[40]⟩=y:=⟨_,rfl⟩;have hys:y.size=x.size+(⟨#[102,117,110,99,32]⟩:ByteArray).size+nm.size+(⟨#[40]⟩:ByteArray).size:=by rw[<- hy];simp only[ByteArray.size_append]
    obtain⟨Y,hY⟩:∃ Y,y++xp true ps=Y:=⟨_,rfl⟩;have hYs:Y.size=y.size+(xp true ps).size:=by rw[<- hY,ByteArray.size_append]
    have Vp:Y++(⟨#[41,32,123,10]⟩++j3 sh bd++⟨#[125,10]⟩++kJ IZ (p.fs.drop (i+1)))=X:=by
     rw[<- hx,<- hY,<- hy];simp only[ByteArray.append_assoc]
    have s0:=aB x ⟨#[102,117,110,99,32]⟩ yA;have s1:=aB (x++⟨#[102,117,110,99,32]⟩) nm Xt;have s2:=aB (x++⟨#[102,117,110,99,32]⟩++nm) ⟨#[40]⟩ Xt;rw[hy] at s2;apply aW;simp[hC,Jz,fp];refine jk ?_;simp;apply eE;apply aq;simp[hC,Jz,OZ,fT];apply aq;simp[hC,s0,s1,s2];refine T.cut (λ s=>s=⟨[(8,.ax 1 0),(7,I i),(3,.str Y),(1,.ax 0 0)],[(0,⟨27,0,fp p⟩),(1,⟨136,0,fT ⟨nm,ps,bd⟩⟩)],2⟩) ?_ ?_
    .apply aq;simp[hC];apply T.block;refine T.aI (J91d p i nm ps bd Y) (n:=ps.length) ?_ ?_
     .refine aa.trim [9,8,7,3,1] [0,1] 2 xr yA ⟨0,y,by omega,by omega,hY,?_⟩;simp[fT,fp]
     .rintro n s ⟨q,z,rfl,hq,hzY,rfl⟩;by_cases UO:q<ps.length
      .obtain⟨b,YY⟩:∃ b,ps[q]? = some b:=⟨ps[q],getElem?_eq_getElem UO⟩;have hp0:=aL (f:=mr) (n:=2) (λ _=>rfl) YY;have ZX:=cb (f:=mr) (n:=2) (λ _=>rfl) YY 1 yA;have wq:=cr ((q:Int)+1) yA yA;have V9:ps.drop q=b::ps.drop (q+1):=by
        rw[drop_eq_getElem_cons UO,(List.getElem?_eq_some_iff.1 YY).2]
       rw[V9,xp] at hzY;have hz3:=congrArg ByteArray.size hzY;simp only[ByteArray.size_append] at hz3;apply aW;simp[hC,UO,fT];refine jk ?_;simp;apply eE;obtain⟨u,hu⟩:∃ u,z++(if decide (q=0)=true then ⟨#[]⟩ else ⟨#[44,32]⟩)=u:=⟨_,rfl⟩;have Yf:u.size=z.size+(if decide (q=0)=true then (⟨#[]⟩:ByteArray) else ⟨#[44,32]⟩).size:=by rw[<- hu,ByteArray.size_append]
       obtain⟨v,hv⟩:∃ v,u++(if b.mutex=true then ⟨#[109,117,116,101,120,32]⟩ else ⟨#[]⟩)=v:=⟨_,rfl⟩;have hvs:v.size=u.size+(if b.mutex=true then (⟨#[109,117,116,101,120,32]⟩:ByteArray) else ⟨#[]⟩).size:=by rw[<- hv,ByteArray.size_append]
       have hvX:v.size<=1000000:=by omega
       have huX:u.size<=1000000:=by omega
       refine T.cut (λ s=>s=⟨[(9,I q),(8,.ax 1 0),(7,I i),(3,.str u),(1,.ax 0 0)],[(0,⟨27,0,fp p⟩),(1,⟨136,0,fT ⟨nm,ps,bd⟩⟩)],2⟩) ?_ ?_
       .apply aq;simp[hC];by_cases hq0:q=0
        .have YY:¬ 0<q:=by omega
         simp only[hq0,decide_true,if_true,ox] at hu;simp only[YY,decide_false];refine gk ?_;simp;refine aa.trim [9,8,7,3,1] [0,1] 2 WY yA ?_;simp[hu,fT,fp]
        .have YY:0<q:=by omega
         have e0:decide (q=0)=false:=by simp[hq0]
         rw[e0] at hu Yf;simp only[Bool.false_eq_true,if_false] at hu Yf;have t0:=aB z ⟨#[44,32]⟩ yA;rw[hu] at t0;simp only[YY,decide_true];refine du ?_;simp;apply aM;simp[hC,t0];refine aa.trim [9,8,7,3,1] [0,1] 2 WY yA ?_;simp[fT,fp]
       rintro s rfl;refine T.cut (λ s=>s=⟨[(9,I q),(8,.ax 1 0),(7,I i),(3,.str v),(1,.ax 0 0)],[(0,⟨27,0,fp p⟩),(1,⟨136,0,fT ⟨nm,ps,bd⟩⟩)],2⟩) ?_ ?_
       .apply aq;simp[hC,UO,ZX,mr,fT];refine T.cond (b:=b.mutex) rfl ?_
        cases hbm:b.mutex with
        | true=>
         rw[hbm,if_pos rfl] at hv hvs;have t0:=aB u ⟨#[109,117,116,101,120,32]⟩ yA;rw[hv] at t0;simp;apply aM;simp[hC,t0];refine aa.trim [9,8,7,3,1] [0,1] 2 WY yA ?_;simp[fp]
        | false=>
         rw[hbm,if_neg xr,ox] at hv;simp;apply T.skip;simp;refine aa.trim [9,8,7,3,1] [0,1] 2 WY yA ?_;simp[hv,fp]
       rintro s rfl;have t1:=aB v b.name yA;apply aM;simp[hC,UO,hp0,mr,fT,t1];apply aM;simp[hC,wq];refine⟨ps.length-(q+1),by omega,?_⟩;refine aa.trim [9,8,7,3,1] [0,1] 2 WY yA ⟨q+1,v++b.name,rfl,by omega,?_,?_⟩
       .rw[<- hzY,<- hv,<- hu];simp only[ByteArray.append_assoc];simp
       .simp[fT,fp]
      .have Rz:q=ps.length:=by omega
       rw[Rz,drop_length,xp,ox] at hzY;subst hzY;apply aW;simp[hC,UO,fT];refine bg ?_;simp;apply T.exit;simp;refine aa.trim [8,7,3,1] [0,1] 2 WY yA ?_;simp[fp]
    rintro s rfl;have t0:=aB Y ⟨#[41,32,123,10]⟩ yA;have t1:=aB (Y++⟨#[41,32,123,10]⟩) (j3 ⟨#[9]⟩ bd) yDy;have t2:=aB (Y++⟨#[41,32,123,10]⟩++j3 ⟨#[9]⟩ bd) ⟨#[125,10]⟩ yDy;apply aM;simp[hC,t0,fT];refine cS SD (SA) ?_;simp[hC,t1,t2];apply aM;simp[hC,wi];refine⟨p.fs.length-(i+1),by omega,?_⟩;refine aa.trim [7,3,1] [0] 1 WY yA ⟨i+1,Y++⟨#[41,32,123,10]⟩++j3 ⟨#[9]⟩ bd++⟨#[125,10]⟩,rfl,by omega,?_,?_⟩
    .rw[<- Vp];simp only[ByteArray.append_assoc];rfl
    .simp[fp]
   .have Rz:i=p.fs.length:=by omega
    rw[Rz,drop_length,kJ,ox] at hx;subst hx;apply aW;simp[hC,Jz,fp];refine bg ?_;simp;apply T.exit;simp;refine aa.trim [3,1] [0] 1 xr yA ?_;simp
 rintro s rfl;apply aq;simp[hC];apply T.ret;apply aa.here;simp[Tryz.results128]
theorem wa:∀ s∈nG++nM++nF++nP,bs s∉uz:=by decide
theorem P4 (k:Nat)(hk:k<24):bs (gm k)∉uz:=by
 rw[gS];exact (by decide:∀ k,k<24->[118,UInt8.ofNat (97+k % 26),UInt8.ofNat (97+k / 26 % 26)]∉uz) k hk
theorem BR (k:Nat)(hk:k<24):oC (gm k):=by
 refine⟨⟨⟨118,_,gS k,by decide⟩,?_,by rw[gS];simp⟩,P4 k hk⟩;rw[gS];exact (by decide:∀ k,k<24->all [118,UInt8.ofNat (97+k % 26),UInt8.ofNat (97+k / 26 % 26)] gu=true) k hk
theorem _root_.Go.aK.lN.gR {p:Pg}(h:lN p):∀ g∈p.gs,oC g.name:=λ g hg=>⟨h.ng g hg,by
 obtain⟨k,_,hk⟩:=h.gn;have:=mem_map_of_mem (f:=(·.name)) hg;rw[hk] at this;exact wa _ (by simp only[mem_append];exact .inl (.inl (.inl (mem_of_mem_take this))))⟩
theorem _root_.Go.aK.lN.mR {p:Pg}(h:lN p):∀ g∈p.ms,oC g.name:=λ g hg=>⟨h.nm g hg,by
 obtain⟨k,_,_,hk⟩:=h.mn;have:=mem_map_of_mem (f:=(·.name)) hg;rw[hk] at this;exact wa _ (by simp only[mem_append];exact .inl (.inl (.inr (mem_of_mem_take this))))⟩
theorem _root_.Go.aK.lN.fR {p:Pg}(h:lN p):∀ g∈p.fs,oC g.name:=λ g hg=>⟨h.nf g hg,by
 obtain⟨k,_,_,hk⟩:=h.fn;have:=mem_map_of_mem (f:=(·.name)) hg;rw[hk] at this;exact wa _ (by simp only[mem_append];exact .inl (.inr (mem_of_mem_take this)))⟩
theorem _root_.Go.aK.lN.pR {p:Pg}(h:lN p):∀ f∈p.fs,∀ q∈f.params,oC q.name:=λ f hf q hq=>⟨h.np f hf q hq,by
 obtain⟨k,_,hk⟩:=h.pn f hf;have:=mem_map_of_mem (f:=(·.name)) hq;rw[hk,mem_reverse] at this;exact wa _ (by simp only[mem_append];exact .inr (mem_of_mem_take this))⟩
theorem _root_.Go.aK.lN.vR {p:Pg}(h:lN p):∀ f∈p.fs,∀ s∈ku p.gs f.params,oC s:=λ f hf s hs=>by
 rcases xA hs with hs | hs
 .rw[mem_map] at hs;obtain⟨g,hg,rfl⟩:=hs;exact h.gR g hg
 .rw[mem_map] at hs;obtain⟨g,hg,rfl⟩:=hs;exact h.pR f hf g hg
theorem _root_.Go.aK.lN.pl {p:Pg}(h:lN p):∀ f∈p.fs,f.params.length<=2:=λ f hf=>by
 obtain⟨k,hk,VO⟩:=h.pn f hf;have:=congrArg length VO;simp[nP] at this;omega
theorem MQ (s:Sm):2<=e9 s:=by cases s<;>simp only[e9]<;>omega
theorem kZ:∀ l:List Sm,2*l.length<=bY l
 | []=>by simp[bY]
 | s::r=>by
  have:=kZ r;have:=MQ s;simp only[bY,length_cons];omega
def OkF (deep:Nat)(s:Sm):Prop:=match s with
 | .iU nm e=>oC nm/\ae prog 160 [.agg (bf e)] (.bool true)
 | .jx nm e=>oC nm/\ae prog 160 [.agg (bf e)] (.bool true)
 | .eM _ nm al=>oC nm/\al.length<=1000/\∀ a∈al,okA a
 | .dS _ r=>RfR r
 | .mL e th el=>ae prog 160 [.agg (bf e)] (.bool true)/\ae prog 127 [.az (bP th) th.length,I ((deep+1:Nat))] (.bool true)/\ae prog 127 [.az (bP el) el.length,I ((deep+1:Nat))] (.bool true)
 | .cX e th=>ae prog 160 [.agg (bf e)] (.bool true)/\ae prog 127 [.az (bP th) th.length,I ((deep+1:Nat))] (.bool true)
 | .kj=>True
theorem nR {l:List Sm}{deep:Nat}(hd:deep<20)(hl:l.length<=100000)(h:∀ s∈l,OkF deep s):ae prog 127 [.az (bP l) l.length,I deep] (.bool true):=
 AL l deep hd hl λ s hs=>by
  have:=h s hs;cases s<;>exact this
section
variable {ms:List Mx}{fs:List (ByteArray×List Pm)}{ps:List Pm}(TP:∀ m∈ms,oC m.name)(TZ:∀ x∈fs,oC x.1)(Tg:∀ x∈fs,x.2.length<=2)(Uk:∀ q∈ps,oC q.name)
include TP Uk
theorem rf_R {V:List ByteArray}(hV:∀ x∈V,oC x){r:Rf}(h:I2 ms ps V r):RfR r:=by
 rcases h with ⟨m,hm,hn,hi⟩ | ⟨q,hq,_,hn,hi⟩
 .refine⟨by rw[hn];exact TP m hm,λ e he=>?_⟩;rcases hi with ⟨hi,_⟩ | ⟨e',hi,_,hw⟩
  .rw[hi] at he;cases he
  .rw[hi] at he;cases he;exact gF hV 1 _ yA hw
 .exact⟨by rw[hn];exact Uk q hq,λ e he=>by rw[hi] at he;cases he⟩
theorem Pv {V:List ByteArray}(hV:∀ x∈V,oC x):∀ {gp:List Pm} {l:List Ar},j0 ms ps V gp l->∀ a∈l,okA a
 | [],[],_=>by simp
 | q::gp,a::l,h=>by
  simp only[j0] at h;intro x hx;rcases mem_cons.1 hx with rfl | hx
  .cases x with
   | xF r=>exact rf_R TP Uk hV h.1.2
   | exp e=>exact gF hV 2 _ yA h.1.2
  .exact Pv hV h.2 x hx
 | [],_::_,h=>h.elim
 | _::_,[],h=>h.elim
theorem rf_T {V:List ByteArray}(hV:∀ x∈V,oC x){r:Rf}(h:I2 ms ps V r):Rj r:=by
 have hV':∀ x∈V,dI x:=λ x hx=>(hV x hx).1;have hz:∀ s:ByteArray,dI s->s.size<=100:=λ s hs=>by
  have:=hs.2.2;rw[mK] at this;omega
 rcases h with ⟨m,hm,hn,hi⟩ | ⟨q,hq,_,hn,hi⟩
 .refine⟨by rw[hn];exact hz _ (TP m hm).1,λ e he=>?_⟩;rcases hi with ⟨hi,_⟩ | ⟨e',hi,_,hw⟩
  .rw[hi] at he;cases he
  .rw[hi] at he;cases he;exact⟨pS hV' 1 _ yA hw,nh hV' (d:=1) yA hw⟩
 .exact⟨by rw[hn];exact hz _ (Uk q hq).1,λ e he=>by rw[hi] at he;cases he⟩
theorem Pu {V:List ByteArray}(hV:∀ x∈V,oC x):∀ {gp:List Pm} {l:List Ar},j0 ms ps V gp l->∀ a∈l,TxA a
 | [],[],_=>by simp
 | q::gp,a::l,h=>by
  simp only[j0] at h;intro x hx;rcases mem_cons.1 hx with rfl | hx
  .cases x with
   | xF r=>exact rf_T TP Uk hV h.1.2
   | exp e=>
    have hV':∀ x∈V,dI x:=λ x hx=>(hV x hx).1;exact⟨pS hV' 2 _ yA h.1.2,nh hV' (d:=2) yA h.1.2⟩
  .exact Pu hV h.2 x hx
 | [],_::_,h=>h.elim
 | _::_,[],h=>h.elim
include TZ Tg
theorem CB:(∀ s:Sm,∀ d V deep,(∀ x∈V,oC x)->deep+d<20->eH ms fs ps d V s->e9 s<=2000->OkF deep s)/\
  (∀ l:List Sm,∀ d V deep,(∀ x∈V,oC x)->deep+d<20->dj ms fs ps d V l->bY l<=2000->∀ s∈l,OkF deep s):=by
 let M1:Sm->Prop:=λ s=>∀ d V deep,(∀ x∈V,oC x)->deep+d<20->eH ms fs ps d V s->e9 s<=2000->OkF deep s
 let M2:List Sm->Prop:=λ l=>∀ d V deep,(∀ x∈V,oC x)->deep+d<20->dj ms fs ps d V l->bY l<=2000->∀ s∈l,OkF deep s
 have YW:∀ k,k<24->oC (gm k):=BR;have A1:∀ (s:ByteArray) (e:Ex),M1 (.iU s e):=by
  intro s e d V deep hV _ hw _;simp only[eH] at hw;obtain⟨⟨k,hk,rfl⟩,_,he⟩:=hw;exact⟨YW k hk,gF hV 2 _ yA he⟩
 have A2:∀ (s:ByteArray) (e:Ex),M1 (.jx s e):=by
  intro s e d V deep hV _ hw _;simp only[eH] at hw;exact⟨hV s hw.1,gF hV 2 _ yA hw.2⟩
 have A3:∀ (g:Bool) (s:ByteArray) (l:List Ar),M1 (.eM g s l):=by
  intro g s l d V deep hV _ hw hk;simp only[eH] at hw;obtain⟨gp,h1,h2⟩:=hw;have:=h2.len;have:=Tg _ h1;simp only at this;exact⟨TZ _ h1,by omega,Pv TP Uk hV h2⟩
 have A4:∀ (u:Bool) (r:Rf),M1 (.dS u r):=by
  intro u r d V deep hV _ hw _;simp only[eH] at hw;exact rf_R TP Uk hV hw
 have A5:∀ (e:Ex) (th el:List Sm),M2 th->M2 el->M1 (.mL e th el):=by
  intro e th el i1 i2 d V deep hV hd hw hk
  cases d with
  | zero=>simp[eH] at hw
  | succ d=>
   simp only[eH] at hw;simp only[e9] at hk;have l1:=kZ th;have l2:=kZ el;exact⟨gF hV 2 _ yA hw.1,nR yA yA (i1 d V _ hV yA hw.2.1 yA),nR yA yA (i2 d V _ hV yA hw.2.2 yA)⟩
 have A6:∀ (e:Ex) (th:List Sm),M2 th->M1 (.cX e th):=by
  intro e th i1 d V deep hV hd hw hk
  cases d with
  | zero=>simp[eH] at hw
  | succ d=>
   simp only[eH] at hw;simp only[e9] at hk;have l1:=kZ th;exact⟨gF hV 2 _ yA hw.1,nR yA yA (i1 d V _ hV yA hw.2 yA)⟩
 have A7:M1 .kj:=λ _ _ _ _ _ _ _=>trivial;have A0:M2 []:=λ _ _ _ _ _ _ _ s hs=>by simp at hs
 have A8:∀ (s:Sm) (r:List Sm),M1 s->M2 r->M2 (s::r):=by
  intro s r i1 i2 d V deep hV hd hw hk x hx;simp only[dj] at hw;simp only[bY] at hk;have hV2:∀ x∈V++eJ s,oC x:=by
   intro x hx;rcases mem_append.1 hx with hx | hx
   .exact hV x hx
   .cases s<;>simp only[eJ,mem_singleton,not_mem_nil] at hx;subst hx;have:=hw.1;simp only[eH] at this;obtain⟨⟨j,hj,rfl⟩,_⟩:=this;exact YW j hj
  rcases mem_cons.1 hx with rfl | hx
  .exact i1 d V deep hV hd hw.1 yA
  .exact i2 d _ deep hV2 hd hw.2 yA x hx
 exact⟨λ s=>Sm.rec (motive_1:=M1) (motive_2:=M2) A1 A2 A3 A4 A5 A6 A7 A0 A8 s,λ l=>Sm.rec_1 (motive_1:=M1) (motive_2:=M2) A1 A2 A3 A4 A5 A6 A7 A0 A8 l⟩
theorem Ih:(∀ s:Sm,∀ d V HN,(∀ x∈V,oC x)->iw d HN->eH ms fs ps d V s->e9 s<=2000->TxS HN s)/\
  (∀ l:List Sm,∀ d V HN,(∀ x∈V,oC x)->iw d HN->dj ms fs ps d V l->bY l<=2000->∀ s∈l,TxS HN s):=by
 let M1:Sm->Prop:=λ s=>∀ d V HN,(∀ x∈V,oC x)->iw d HN->eH ms fs ps d V s->e9 s<=2000->TxS HN s
 let M2:List Sm->Prop:=λ l=>∀ d V HN,(∀ x∈V,oC x)->iw d HN->dj ms fs ps d V l->bY l<=2000->∀ s∈l,TxS HN s
 have YW:∀ k,k<24->oC (gm k):=BR;have hz:∀ s:ByteArray,oC s->s.size<=100:=λ s hs=>by
  have:=hs.1.2.2;rw[mK] at this;omega
 have tx:∀ {V:List ByteArray} (_:∀ x∈V,oC x) {e:Ex},gC V 2 e->Rk e:=λ {V} hV {e} he=>⟨pS (λ x hx=>(hV x hx).1) 2 _ yA he,nh (λ x hx=>(hV x hx).1) (d:=2) yA he⟩;have kW:∀ (l:List Sm) (d:Nat) (V:List ByteArray) (HN:ByteArray),M2 l->(∀ x∈V,oC x)->iw d HN->dj ms fs ps d V l->bY l<=2000->ae prog 165 [.az (bP l) l.length,.str HN] (.str (j3 HN l)):=by
  intro l d V HN i1 hV ht hw hk;have hs:=((cu.lines (ms:=ms) (fs:=fs) (ps:=ps) (λ m hm=>(TP m hm).1) (λ x hx=>(TZ x hx).1) (λ q hq=>(Uk q hq).1)).2 l d V HN (λ x hx=>(hV x hx).1) ht hw).1;rw[mK] at hs;have h2:=ht.2;rw[mK] at h2;have h3:=kZ l;exact xL l HN yA yA yA (i1 d V HN hV ht hw hk)
 have A1:∀ (s:ByteArray) (e:Ex),M1 (.iU s e):=by
  intro s e d V HN hV _ hw _;simp only[eH] at hw;obtain⟨⟨k,hk,rfl⟩,_,he⟩:=hw;exact⟨hz _ (YW k hk),tx hV he⟩
 have A2:∀ (s:ByteArray) (e:Ex),M1 (.jx s e):=by
  intro s e d V HN hV _ hw _;simp only[eH] at hw;exact⟨hz _ (hV s hw.1),tx hV hw.2⟩
 have A3:∀ (g:Bool) (s:ByteArray) (l:List Ar),M1 (.eM g s l):=by
  intro g s l d V HN hV _ hw hk;simp only[eH] at hw;obtain⟨gp,h1,h2⟩:=hw;have:=h2.len;have:=Tg _ h1;simp only at this;exact⟨hz _ (TZ _ h1),by omega,Pu TP Uk hV h2⟩
 have A4:∀ (u:Bool) (r:Rf),M1 (.dS u r):=by
  intro u r d V HN hV _ hw _;simp only[eH] at hw;exact rf_T TP Uk hV hw
 have A5:∀ (e:Ex) (th el:List Sm),M2 th->M2 el->M1 (.mL e th el):=by
  intro e th el i1 i2 d V HN hV ht hw hk
  cases d with
  | zero=>simp[eH] at hw
  | succ d=>
   simp only[eH] at hw;simp only[e9] at hk;exact⟨tx hV hw.1,kW th d V _ i1 hV ht.H9 hw.2.1 yA,kW el d V _ i2 hV ht.H9 hw.2.2 yA⟩
 have A6:∀ (e:Ex) (th:List Sm),M2 th->M1 (.cX e th):=by
  intro e th i1 d V HN hV ht hw hk
  cases d with
  | zero=>simp[eH] at hw
  | succ d=>
   simp only[eH] at hw;simp only[e9] at hk;exact⟨tx hV hw.1,kW th d V _ i1 hV ht.H9 hw.2 yA⟩
 have A7:M1 .kj:=λ _ _ _ _ _ _ _=>trivial;have A0:M2 []:=λ _ _ _ _ _ _ _ s hs=>by simp at hs
 have A8:∀ (s:Sm) (r:List Sm),M1 s->M2 r->M2 (s::r):=by
  intro s r i1 i2 d V HN hV hd hw hk x hx;simp only[dj] at hw;simp only[bY] at hk;have hV2:∀ x∈V++eJ s,oC x:=by
   intro x hx;rcases mem_append.1 hx with hx | hx
   .exact hV x hx
   .cases s<;>simp only[eJ,mem_singleton,not_mem_nil] at hx;subst hx;have:=hw.1;simp only[eH] at this;obtain⟨⟨j,hj,rfl⟩,_⟩:=this;exact YW j hj
  rcases mem_cons.1 hx with rfl | hx
  .exact i1 d V HN hV hd hw.1 yA
  .exact i2 d _ HN hV2 hd hw.2 yA x hx
 exact⟨λ s=>Sm.rec (motive_1:=M1) (motive_2:=M2) A1 A2 A3 A4 A5 A6 A7 A0 A8 s,λ l=>Sm.rec_1 (motive_1:=M1) (motive_2:=M2) A1 A2 A3 A4 A5 A6 A7 A0 A8 l⟩
end
section
variable {p:Pg}(h:lN p)
include h
theorem _root_.Go.aK.lN.F3 (f:Fu)(hf:f∈p.fs):bY f.body<=1152:=by
 have hw:=h.wt;have:bY f.body∈p.fs.map λ f=>bY f.body:=mem_map_of_mem (f:=λ f=>bY f.body) hf;have h2:∀ {l:List Nat} {a:Nat},a∈l->a<=l.sum:=λ {l a} ha=>by
  induction l with
  | nil=>simp at ha
  | cons b r ih=>
   rcases mem_cons.1 ha with rfl | ha
   .simp
   .have:=ih ha;simp only[sum_cons];omega
 have:=h2 this;omega
theorem _root_.Go.aK.lN.Mj:(∀ x∈p.fs.map λ f=>(f.name,f.params),oC x.1)/\(∀ x∈p.fs.map λ f=>(f.name,f.params),x.2.length<=2):=by
 refine⟨λ x hx=>?_,λ x hx=>?_⟩
 .rw[mem_map] at hx;obtain⟨f,hf,rfl⟩:=hx;exact h.fR f hf
 .rw[mem_map] at hx;obtain⟨f,hf,rfl⟩:=hx;exact h.pl f hf
theorem _root_.Go.aK.lN.okb (f:Fu)(hf:f∈p.fs):ae prog 127 [.az (bP f.body) f.body.length,I (0:Nat)] (.bool true):=by
 have hk:=h.F3 f hf;have hl:=kZ f.body;exact nR yA yA ((CB h.mR h.Mj.1 h.Mj.2 (h.pR f hf)).2 f.body 2 _ 0 (h.vR f hf) yA (h.bd f hf) yA)
theorem _root_.Go.aK.lN.lnb (f:Fu)(hf:f∈p.fs):ae prog 165 [.az (bP f.body) f.body.length,.str ⟨#[9]⟩] (.str (j3 ⟨#[9]⟩ f.body)):=by
 have hk:=h.F3 f hf;have hl:=kZ f.body;have ht:iw 2 ⟨#[9]⟩:=⟨by decide,by decide⟩;have hs:=((cu.lines (ms:=p.ms) (fs:=p.fs.map λ f=>(f.name,f.params)) (ps:=f.params) (λ m hm=>(h.mR m hm).1) (λ x hx=>(h.Mj.1 x hx).1) (λ q hq=>(h.pR f hf q hq).1)).2 f.body 2 _ ⟨#[9]⟩ (λ x hx=>(h.vR f hf x hx).1) ht (h.bd f hf)).1;rw[mK] at hs;exact xL f.body ⟨#[9]⟩ SC yA yA ((Ih h.mR h.Mj.1 h.Mj.2 (h.pR f hf)).2 f.body 2 _ _ (h.vR f hf) ht (h.bd f hf) yA)
end
def J57a (p:Pg)(n:Nat)(s:St):Prop:=∃ i:Nat,n=p.gs.length-i/\i<=p.gs.length/\s=⟨[(3,I i),(1,.ax 0 0)],[(0,⟨27,0,fp p⟩)],1⟩
def J57b (p:Pg)(n:Nat)(s:St):Prop:=∃ i:Nat,n=p.ms.length-i/\i<=p.ms.length/\s=⟨[(4,I i),(1,.ax 0 0)],[(0,⟨27,0,fp p⟩)],1⟩
def J57c (p:Pg)(n:Nat)(s:St):Prop:=∃ i:Nat,n=p.fs.length-i/\i<=p.fs.length/\s=⟨[(6,I i),(1,.ax 0 0)],[(0,⟨27,0,fp p⟩)],1⟩
def J57d (p:Pg)(i:Nat)(f:Fu)(n:Nat)(s:St):Prop:=∃ q:Nat,n=f.params.length-q/\q<=f.params.length/\s=⟨[(8,I q),(7,.ax 1 0),(6,I i),(1,.ax 0 0)],[(0,⟨27,0,fp p⟩),(1,⟨136,0,fT f⟩)],2⟩
theorem Jf (p:Pg)(h:lN p):ae prog 67 [zt p] (.bool true):=by
 have hT:=Qm h;have hTs:(HW p).size<=262144:=by have:=hT.2;rw[mK] at this;exact this
 obtain⟨k1,WQ,e1⟩:=h.gn;obtain⟨k2,_,X0,e2⟩:=h.mn;obtain⟨k3,_,hk3,e3⟩:=h.fn;have l1:=congrArg length e1;have l2:=congrArg length e2;have l3:=congrArg length e3;simp[nG] at l1;simp[nM] at l2;simp[nF] at l3;clear e1 e2 e3;have Ws:=Cn p yA yA yA yA (λ g hg=>by have:=h.gi g hg;omega) (λ m hm=>by have:=(h.mz m hm).1;omega) (λ f hf=>⟨by have:=h.pl f hf;omega,h.lnb f hf⟩);have hlx:=QC (bs (HW p)) hT.2 hT.1;have g1:¬ (16:Int)<p.gs.length:=by omega
 have g2:¬ (12:Int)<p.ms.length:=by omega
 have g3:¬ (16:Int)<p.fs.length:=by omega
 have fg:=λ (k:Nat) (a:Gl) (h:p.gs[k]? = some a)=>aL (f:=qH) (n:=2) (λ _=>rfl) h;have fg1:=λ (k:Nat) (a:Gl) (h:p.gs[k]? = some a)=>cb (f:=qH) (n:=2) (λ _=>rfl) h 1 yA;have fm:=λ (k:Nat) (a:Mx) (h:p.ms[k]? = some a)=>aL (f:=cP) (n:=3) (λ _=>rfl) h;have ff:=λ (k:Nat) (a:Fu) (h:p.fs[k]? = some a)=>aL (f:=fT) (n:=3) (λ _=>rfl) h;refine ae.aD af Tryz.func67 rfl Bw (by simp[Tryz.ntmps67]) rfl λ C hC M0=>?_;rw[Tryz.ntmps67] at hC;apply aq;simp[hC,zt,fp];apply aW;simp[hC,g1,g2,g3];refine gk ?_;simp;refine T.cut (λ s=>s=⟨[(1,.ax 0 0)],[(0,⟨27,0,fp p⟩)],1⟩) ?_ ?_
 .apply aq;simp[hC];apply T.block;refine T.aI (J57a p) (n:=p.gs.length) ?_ ?_
  .refine aa.trim [3,1] [0] 1 xr yA ⟨0,by omega,by omega,?_⟩;simp[fp]
  .rintro n s ⟨i,rfl,hi,rfl⟩;by_cases Jz:i<p.gs.length
   .obtain⟨a,Tn⟩:∃ a,p.gs[i]? = some a:=⟨p.gs[i],getElem?_eq_getElem Jz⟩;have OZ:=fg i a Tn;have Uq:=fg1 i a Tn;have hm:=mem_of_getElem? Tn;have hn:=kz a.name (h.gR a hm).1 (h.gR a hm).2;have SF:(a.init == -9223372036854775808)=false:=by have:=h.gi a hm;simp;omega
    have wi:=cr ((i:Int)+1) yA yA;apply aW;simp[hC,Jz,fp];refine jk ?_;simp;apply eE;apply aq;simp[hC,Jz,OZ,qH];refine cS SD (hn) ?_;simp[hC,Jz,OZ,SF,qH];refine gk ?_;simp;apply aM;simp[hC,wi];refine⟨p.gs.length-(i+1),by omega,?_⟩;refine aa.trim [3,1] [0] 1 xr yA ⟨i+1,rfl,by omega,?_⟩;simp[fp]
   .apply aW;simp[hC,Jz,fp];refine bg ?_;simp;apply T.exit;simp;refine aa.trim [1] [0] 1 xr yA ?_;simp
 rintro s rfl;refine T.cut (λ s=>s=⟨[(1,.ax 0 0)],[(0,⟨27,0,fp p⟩)],1⟩) ?_ ?_
 .apply aq;simp[hC];apply T.block;refine T.aI (J57b p) (n:=p.ms.length) ?_ ?_
  .refine aa.trim [4,1] [0] 1 WY yA ⟨0,by omega,by omega,?_⟩;simp[fp]
  .rintro n s ⟨i,rfl,hi,rfl⟩;by_cases Jz:i<p.ms.length
   .obtain⟨a,Tn⟩:∃ a,p.ms[i]? = some a:=⟨p.ms[i],getElem?_eq_getElem Jz⟩;have OZ:=fm i a Tn;have hm:=mem_of_getElem? Tn;have hn:=kz a.name (h.mR a hm).1 (h.mR a hm).2;have hz:=h.mz a hm;have wi:=cr ((i:Int)+1) yA yA;have z1:¬ (a.size:Int)<0:=by omega
    have z2:¬ (64:Int)<a.size:=by omega
    apply aW;simp[hC,Jz,fp];refine jk ?_;simp;apply eE;apply aq;simp[hC,Jz,OZ,cP]
    cases UU:a.re with
    | true=>
     have z3:=hz.2 UU;apply aq;simp[hC];refine cS SD (hn) ?_;simp[hC,z3];refine gk ?_;simp;apply aM;simp[hC,wi];refine⟨p.ms.length-(i+1),by omega,?_⟩;refine aa.trim [4,1] [0] 1 xr yA ⟨i+1,rfl,by omega,?_⟩;simp[fp]
    | false=>
     apply aq;simp[hC];refine cS SD (hn) ?_;simp[hC,z1,z2];refine gk ?_;simp;apply aM;simp[hC,wi];refine⟨p.ms.length-(i+1),by omega,?_⟩;refine aa.trim [4,1] [0] 1 xr yA ⟨i+1,rfl,by omega,?_⟩;simp[fp]
   .apply aW;simp[hC,Jz,fp];refine bg ?_;simp;apply T.exit;simp;refine aa.trim [1] [0] 1 xr yA ?_;simp
 rintro s rfl;refine T.cut (λ s=>s=⟨[(1,.ax 0 0)],[(0,⟨27,0,fp p⟩)],1⟩) ?_ ?_
 .apply aq;simp[hC];apply T.block;refine T.aI (J57c p) (n:=p.fs.length) ?_ ?_
  .refine aa.trim [6,1] [0] 1 WY yA ⟨0,by omega,by omega,?_⟩;simp[fp]
  .rintro n s ⟨i,rfl,hi,rfl⟩;by_cases Jz:i<p.fs.length
   .obtain⟨a,Tn⟩:∃ a,p.fs[i]? = some a:=⟨p.fs[i],getElem?_eq_getElem Jz⟩;have OZ:=ff i a Tn;have hm:=mem_of_getElem? Tn;have hn:=kz a.name (h.fR a hm).1 (h.fR a hm).2;have hb:=h.okb a hm;have Tx:=h.pl a hm;have wi:=cr ((i:Int)+1) yA yA;have z1:¬ (6:Int)<a.params.length:=by omega
    apply aW;simp[hC,Jz,fp];refine jk ?_;simp;apply eE;apply aq;simp[hC,Jz,OZ,fT];apply aW;simp[hC];refine cS SD (hn) ?_;simp[hC,z1];refine TL.cN Rg rfl rfl rfl rfl (bW.of rfl SD (hb)) (TL.go' af ?_);simp[hC];refine gk ?_;simp;apply aq;simp[hC];apply T.block;refine T.aI (J57d p i a) (n:=a.params.length) ?_ ?_
    .refine aa.trim [8,7,6,1] [0,1] 2 xr yA ⟨0,by omega,by omega,?_⟩;simp[fp,fT]
    .rintro n s ⟨q,rfl,hq,rfl⟩;by_cases UO:q<a.params.length
     .obtain⟨b,YY⟩:∃ b,a.params[q]? = some b:=⟨a.params[q],getElem?_eq_getElem UO⟩;have hp0:=aL (f:=mr) (n:=2) (λ _=>rfl) YY;have hbm:=mem_of_getElem? YY;have U5:=kz b.name (h.pR a hm b hbm).1 (h.pR a hm b hbm).2;have wq:=cr ((q:Int)+1) yA yA;apply aW;simp[hC,UO,fT];refine jk ?_;simp;apply eE;apply aq;simp[hC,UO,hp0,mr];refine cS SD (U5) ?_;simp[hC];refine gk ?_;simp;apply aM;simp[hC,wq];refine⟨a.params.length-(q+1),by omega,?_⟩;refine aa.trim [8,7,6,1] [0,1] 2 WY yA ⟨q+1,rfl,by omega,?_⟩;simp[fp,fT]
     .apply aW;simp[hC,UO,fT];refine bg ?_;simp;apply T.exit;simp;apply aM;simp[hC,wi];refine⟨p.fs.length-(i+1),by omega,?_⟩;refine aa.trim [6,1] [0] 1 WY yA ⟨i+1,rfl,by omega,?_⟩;simp[fp]
   .apply aW;simp[hC,Jz,fp];refine bg ?_;simp;apply T.exit;simp;refine aa.trim [1] [0] 1 xr yA ?_;simp
 rintro s rfl;apply aq;simp[hC,fp];refine TL.call Rg rfl rfl (bW.of rfl Ts Ws) (TL.D2 af ?_);have hTz:(HW p).size<=1000000:=by omega
 have YN:dX (bs (HW p))=.az (rF (HW p)) (HW p).size:=by rw[dX,mK];rfl
 rw[YN] at hlx;simp[hC,hTz];refine TL.LR Rg rfl rfl rfl Ts hlx λ r hr=>TL.go' af ?_;obtain⟨cs,n,e,rfl⟩:=hr;simp[hC];apply aq;simp[hC];apply T.ret;apply aa.here;simp[Tryz.results67]
end Go.Proofs.YtlkmbdfhdknlgaaGreat
namespace Go.aK
open Go.Can List
structure En where
 name:ByteArray
 kind:Nat
 n:Nat
def jj (x:En):List CV:=[.str x.name,I x.kind,I x.n]
def jJ:List En->ByteArray->Option En
 | [],_=>none
 | x::r,s=>if x.name=s then some x else jJ r s
def nc (E:List En)(s:ByteArray):En:=(jJ E s).getD ⟨eS,0,0⟩
theorem jb {E:List En}{s:ByteArray}{x:En}(h:jJ E s=some x):nc E s=x:=by simp[nc,h]
theorem dT (A B:List En)(s:ByteArray):jJ (A++B) s=(match jJ A s with
  | some x=>some x
  | none=>jJ B s):=by
 induction A with
 | nil=>rfl
 | cons a r ih=>
  simp only[cons_append,jJ];split
  .rfl
  .exact ih
theorem sN {E:List En}{s:ByteArray}:jJ E s=none↔s∉E.map (·.name):=by
 induction E with
 | nil=>simp[jJ]
 | cons a r ih=>
  simp only[jJ,map_cons,mem_cons,not_or];split
  .rename_i h;simp[h]
  .rename_i h;rw[ih];exact⟨λ h2=>⟨λ e=>h e.symm,h2⟩,λ h2=>h2.2⟩
def eF (E:List En):Ex->Ex
 | .nm s=>if (nc E s).kind=1 then .jE (nc E s).n else .loc (nc E s).n
 | .un k e=>.un k (eF E e)
 | .bin k a b=>.bin k (eF E a) (eF E b)
 | e=>e
def Az (E:List En)(r:Rf):Pl:=⟨decide ((nc E r.name).kind=5),(nc E r.name).n,r.index.map (eF E)⟩
def dz (E:List En):List Ar->List Ex
 | []=>[]
 | .exp e::l=>eF E e::dz E l
 | .xF _::l=>dz E l
def fE (E:List En):List Ar->List Pl
 | []=>[]
 | .exp _::l=>fE E l
 | .xF r::l=>Az E r::fE E l
def gj (k:Nat):Sm->List En
 | .iU s _=>[⟨s,4,k⟩]
 | _=>[]
mutual
/-- The code of a statement that begins at place b, and the number of locals after it. -/
def eQ:Sm->List En->Nat->Nat->List In×Nat
 | .iU _ e,E,k,_=>([.set k false (eF E e)],k+1)
 | .jx s e,E,k,_=>([.set (nc E s).n (decide ((nc E s).kind=1)) (eF E e)],k)
 | .eM g s l,E,k,_=>([.call g (nc E s).n (dz E l) (fE E l)],k)
 | .dS u r,E,k,_=>([.lock u (Az E r)],k)
 | .mL e th el,E,k,b=>
  if el.length=0 then (.branch (b+1+(cc th E k (b+1)).1.length) (eF E e)::(cc th E k (b+1)).1,(cc th E k (b+1)).2)
  else (.branch (b+2+(cc th E k (b+1)).1.length) (eF E e)::((cc th E k (b+1)).1++.jump (b+2+(cc th E k (b+1)).1.length+(cc el E (cc th E k (b+1)).2 (b+2+(cc th E k (b+1)).1.length)).1.length) ::
   (cc el E (cc th E k (b+1)).2 (b+2+(cc th E k (b+1)).1.length)).1),(cc el E (cc th E k (b+1)).2 (b+2+(cc th E k (b+1)).1.length)).2)
 | .cX e th,E,k,b=>(.branch (b+2+(cc th E k (b+1)).1.length) (eF E e)::((cc th E k (b+1)).1++[.jump b]),(cc th E k (b+1)).2)
 | .kj,_,k,_=>([.ret],k)
def cc:List Sm->List En->Nat->Nat->List In×Nat
 | [],_,k,_=>([],k)
 | s::r,E,k,b=>((eQ s E k b).1++(cc r (E++gj k s) (eQ s E k b).2 (b+(eQ s E k b).1.length)).1,(cc r (E++gj k s) (eQ s E k b).2 (b+(eQ s E k b).1.length)).2)
end
mutual
/-- The number of statements. -/
def pW:Sm->Nat
 | .mL _ th el=>1+fY th+fY el
 | .cX _ th=>1+fY th
 | _=>1
def fY:List Sm->Nat
 | []=>0
 | s::r=>pW s+fY r
end
mutual
/-- The statements of the instructions; the statement itself is number s. -/
def yH:Sm->Nat->List Nat
 | .mL _ th el,s=>if el.length=0 then s::jw th (s+1) else s::(jw th (s+1)++s::jw el (s+1+fY th))
 | .cX _ th,s=>s::(jw th (s+1)++[s])
 | _,s=>[s]
def jw:List Sm->Nat->List Nat
 | [],_=>[]
 | x::r,s=>yH x s++jw r (s+pW x)
end
def GS (c:Nat):Nat->List ByteArray->List En
 | _,[]=>[]
 | i,s::r=>⟨s,c,i⟩ :: GS c (i+1) r
def dB (p:Pg):List En:=GS 1 0 (p.gs.map (·.name))++GS 2 0 (p.ms.map (·.name))++GS 3 0 (p.fs.map (·.name))
def mq:Nat->Nat->List Pm->List En
 | _,_,[]=>[]
 | i,j,p::r=>if p.mutex=true then ⟨p.name,5,j⟩ :: mq i (j+1) r else ⟨p.name,4,i⟩ :: mq (i+1) j r
def pI:List Pm->Nat
 | []=>0
 | p::r=>(if p.mutex=true then 0 else 1)+pI r
def pL:List Pm->Nat
 | []=>0
 | p::r=>(if p.mutex=true then 1 else 0)+pL r
def uf (p:Pg)(f:Fu):List En:=dB p++mq 0 0 f.params
def oS (p:Pg)(f:Fu):Pr:=⟨f.name,pI f.params,pL f.params,(cc f.body (uf p f) (pI f.params) 0).2,(cc f.body (uf p f) (pI f.params) 0).1++[.ret]⟩
def mN (p:Pg):Un:=⟨p.gs.map (·.init),p.ms,p.fs.map (oS p),0⟩
def vF (g k:Nat):Ex->Prop
 | .num n=>n<4611686018427387904
 | .loc i=>i<k
 | .jE i=>i<g
 | .un o e=>o<2/\vF g k e
 | .bin o a b=>o<13/\vF g k a/\vF g k b
 | _=>False
def wM (ms:List Mx)(g k L:Nat)(p:Pl):Prop:=
 (p.param=true/\p.index<L/\p.at_=none)\/(p.param=false/\∃ m,ms[p.index]? = some m/\((p.at_=none/\m.size=0)\/∃ e,p.at_=some e/\0<m.size/\vF g k e))
def I3 (Mj:List (Nat×Nat))(ms:List Mx)(g k L M:Nat):In->Prop
 | .set t gl e=>(if gl=true then t<g else t<k)/\vF g k e
 | .call _ t is ps=>Mj[t]? = some (is.length,ps.length)/\(∀ e∈is,vF g k e)/\∀ p∈ps,wM ms g k L p
 | .lock _ p=>wM ms g k L p
 | .branch t e=>t<=M/\vF g k e
 | .jump t=>t<=M
 | .ret=>True
theorem vF.mono {g k k':Nat}(h:k<=k'):∀ {e:Ex},vF g k e->vF g k' e
 | .num _,hx=>hx
 | .loc _,hx=>Nat.lt_of_lt_of_le hx h
 | .jE _,hx=>hx
 | .un _ _,hx=>⟨hx.1,vF.mono h hx.2⟩
 | .bin _ _ _,hx=>⟨hx.1,vF.mono h hx.2.1,vF.mono h hx.2.2⟩
 | .zero,hx=>hx.elim
 | .nm _,hx=>hx.elim
theorem wM.mono {ms:List Mx}{g k k' L:Nat}(h:k<=k'){p:Pl}(hp:wM ms g k L p):wM ms g k' L p:=by
 rcases hp with hp | ⟨h1,m,h2,h3 | ⟨e,h3,h4,h5⟩⟩
 .exact .inl hp
 .exact .inr ⟨h1,m,h2,.inl h3⟩
 .exact .inr ⟨h1,m,h2,.inr ⟨e,h3,h4,h5.mono h⟩⟩
theorem I3.mono {Mj:List (Nat×Nat)}{ms:List Mx}{g k k' L M M':Nat}(h:k<=k')(hM:M<=M'){i:In}(hi:I3 Mj ms g k L M i):I3 Mj ms g k' L M' i:=by
 cases i with
 | set t gl e=>
  refine⟨?_,hi.2.mono h⟩;have:=hi.1;split at this
  .rename_i hg;rw[if_pos hg];exact this
  .rename_i hg;rw[if_neg hg];omega
 | call go t is ps=>exact⟨hi.1,λ e he=>(hi.2.1 e he).mono h,λ p hp=>(hi.2.2 p hp).mono h⟩
 | lock u p=>exact wM.mono h hi
 | branch t e=>exact⟨Nat.le_trans hi.1 hM,hi.2.mono h⟩
 | jump t=>exact Nat.le_trans hi hM
 | ret=>trivial
structure EW (g:Nat)(ms:List Mx)(fs:List (ByteArray×List Pm))(ps:List Pm)(V:List ByteArray)(E:List En)(k:Nat):Prop where
 m:∀ m∈ms,∃ j,jJ E m.name=some ⟨m.name,2,j⟩/\ms[j]? = some m
 f:∀ f∈fs,∃ j,jJ E f.1=some ⟨f.1,3,j⟩/\fs[j]? = some f
 p:∀ p∈ps,p.mutex=true->∃ j,jJ E p.name=some ⟨p.name,5,j⟩/\j<pL ps
 v:∀ s∈V,∃ c j,jJ E s=some ⟨s,c,j⟩/\((c=1/\j<g)\/(c=4/\j<k))
 o:∀ s,s∉V->s∉nG++nM++nF++nP->jJ E s=none
theorem EW.add {g:Nat}{ms:List Mx}{fs:List (ByteArray×List Pm)}{ps:List Pm}{V:List ByteArray}{E:List En}{k:Nat}(h:EW g ms fs ps V E k){s:ByteArray}(hs:jJ E s=none):EW g ms fs ps (V++[s]) (E++[⟨s,4,k⟩]) (k+1):=by
 have hk:∀ {t:ByteArray} {x:En},jJ E t=some x->jJ (E++[⟨s,4,k⟩]) t=some x:=λ {t x} ht=>by rw[dT,ht]
 refine⟨λ m hm=>?_,λ f hf=>?_,λ p hp qa=>?_,λ t ht=>?_,λ t ht ht2=>?_⟩
 .obtain⟨j,h1,h2⟩:=h.m m hm;exact⟨j,hk h1,h2⟩
 .obtain⟨j,h1,h2⟩:=h.f f hf;exact⟨j,hk h1,h2⟩
 .obtain⟨j,h1,h2⟩:=h.p p hp qa;exact⟨j,hk h1,h2⟩
 .rcases mem_append.1 ht with ht | ht
  .obtain⟨c,j,h1,h2⟩:=h.v t ht;exact⟨c,j,hk h1,by omega⟩
  .rw[mem_singleton] at ht;subst ht;exact⟨4,k,by rw[dT,hs];simp[jJ],.inr ⟨rfl,by omega⟩⟩
 .rw[mem_append,not_or,mem_singleton] at ht;rw[dT,h.o t ht.1 ht2];simp only[jJ];rw[if_neg λ e=>ht.2 e.symm]
theorem EW.up {g:Nat}{ms:List Mx}{fs:List (ByteArray×List Pm)}{ps:List Pm}{V:List ByteArray}{E:List En}{k k':Nat}(h:EW g ms fs ps V E k)(hk:k<=k'):EW g ms fs ps V E k':=
 ⟨h.m,h.f,h.p,λ s hs=>by
  obtain⟨c,j,h1,h2⟩:=h.v s hs;exact⟨c,j,h1,by omega⟩,h.o⟩
section
variable {g:Nat}{ms:List Mx}{fs:List (ByteArray×List Pm)}{ps:List Pm}{V:List ByteArray}{E:List En}{k:Nat}
theorem EW.ex (h:EW g ms fs ps V E k):∀ {d:Nat} {e:Ex},gC V d e->vF g k (eF E e)
 | _,.num n,hx=>by simpa [gC,eF,vF] using hx
 | _,.nm s,hx=>by
  simp only[gC] at hx;obtain⟨c,j,h1,h2⟩:=h.v s hx;simp only[eF,jb h1];rcases h2 with ⟨rfl,h2⟩ | ⟨rfl,h2⟩
  .exact h2
  .exact h2
 | d+1,.un o e,hx=>by
  simp only[gC] at hx;exact⟨hx.1,h.ex hx.2⟩
 | d+1,.bin o a b,hx=>by
  simp only[gC] at hx;exact⟨hx.1,h.ex hx.2.1,h.ex hx.2.2⟩
 | 0,.un _ _,hx=>hx.elim
 | 0,.bin _ _ _,hx=>hx.elim
 | 0,.zero,hx=>hx.elim
 | 0,.loc _,hx=>hx.elim
 | 0,.jE _,hx=>hx.elim
 | _+1,.zero,hx=>hx.elim
 | _+1,.loc _,hx=>hx.elim
 | _+1,.jE _,hx=>hx.elim
theorem EW.rf (h:EW g ms fs ps V E k){r:Rf}(hr:I2 ms ps V r):wM ms g k (pL ps) (Az E r):=by
 rcases hr with ⟨m,hm,hn,hi⟩ | ⟨p,hp,qa,hn,hi⟩
 .obtain⟨j,h1,h2⟩:=h.m m hm;rw[<- hn] at h1;refine .inr ⟨by simp[Az,jb h1],m,by simpa [Az,jb h1] using h2,?_⟩;rcases hi with ⟨h3,h4⟩ | ⟨e,h3,h4,h5⟩
  .exact .inl ⟨by simp[Az,h3],h4⟩
  .exact .inr ⟨eF E e,by simp[Az,h3],h4,h.ex h5⟩
 .obtain⟨j,h1,h2⟩:=h.p p hp qa;rw[<- hn] at h1;exact .inl ⟨by simp[Az,jb h1],by simpa [Az,jb h1] using h2,by simp[Az,hi]⟩
theorem EW.ars (h:EW g ms fs ps V E k):∀ {gp:List Pm} {l:List Ar},j0 ms ps V gp l->(dz E l).length=pI gp/\(fE E l).length=pL gp/\(∀ e∈dz E l,vF g k e)/\∀ p∈fE E l,wM ms g k (pL ps) p
 | [],[],_=>by simp[dz,fE,pI,pL]
 | q::gp,a::l,hx=>by
  simp only[j0] at hx;obtain⟨i1,i2,i3,i4⟩:=h.ars hx.2
  cases a with
  | xF r=>
   refine⟨by simp[dz,pI,hx.1.1,i1],by simp[fE,pL,hx.1.1,i2];omega,i3,λ p hp=>?_⟩;simp only[fE,mem_cons] at hp;rcases hp with rfl | hp
   .exact h.rf hx.1.2
   .exact i4 p hp
  | exp e=>
   refine⟨by simp[dz,pI,hx.1.1,i1];omega,by simp[fE,pL,hx.1.1,i2],λ x hp=>?_,i4⟩;simp only[dz,mem_cons] at hp;rcases hp with rfl | hp
   .exact h.ex hx.1.2
   .exact i3 x hp
 | [],_::_,hx=>hx.elim
 | _::_,[],hx=>hx.elim
end
theorem y5 (k:Nat)(hk:k<24):gm k∉nG++nM++nF++nP:=by
 obtain⟨h1,h2,h3,h4⟩:=u7 k hk;simp only[mem_append,not_or];exact⟨⟨⟨h1,h2⟩,h3⟩,h4⟩
def PX (x:ByteArray×List Pm):Nat×Nat:=(pI x.2,pL x.2)
theorem B8 {g:Nat}{ms:List Mx}{fs:List (ByteArray×List Pm)}{ps:List Pm} :
  (∀ s:Sm,∀ d V E k b,EW g ms fs ps V E k->eH ms fs ps d V s->k<=(eQ s E k b).2/\(∀ i∈(eQ s E k b).1,I3 (fs.map PX) ms g (eQ s E k b).2 (pL ps) (b+(eQ s E k b).1.length) i)/\EW g ms fs ps (V++eJ s) (E++gj k s) (eQ s E k b).2/\8*(eQ s E k b).1.length<=e9 s/\(eQ s E k b).2<=k+pW s)/\
  (∀ l:List Sm,∀ d V E k b,EW g ms fs ps V E k->dj ms fs ps d V l->k<=(cc l E k b).2/\(∀ i∈(cc l E k b).1,I3 (fs.map PX) ms g (cc l E k b).2 (pL ps) (b+(cc l E k b).1.length) i)/\8*(cc l E k b).1.length<=bY l/\(cc l E k b).2<=k+fY l):=by
 let M1:Sm->Prop:=λ s=>∀ d V E k b,EW g ms fs ps V E k->eH ms fs ps d V s->k<=(eQ s E k b).2/\(∀ i∈(eQ s E k b).1,I3 (fs.map PX) ms g (eQ s E k b).2 (pL ps) (b+(eQ s E k b).1.length) i)/\EW g ms fs ps (V++eJ s) (E++gj k s) (eQ s E k b).2/\8*(eQ s E k b).1.length<=e9 s/\(eQ s E k b).2<=k+pW s
 let M2:List Sm->Prop:=λ l=>∀ d V E k b,EW g ms fs ps V E k->dj ms fs ps d V l->k<=(cc l E k b).2/\(∀ i∈(cc l E k b).1,I3 (fs.map PX) ms g (cc l E k b).2 (pL ps) (b+(cc l E k b).1.length) i)/\8*(cc l E k b).1.length<=bY l/\(cc l E k b).2<=k+fY l
 have A1:∀ (s:ByteArray) (e:Ex),M1 (.iU s e):=by
  intro s e d V E k b hE hw;simp only[eH] at hw;obtain⟨⟨j,hj,rfl⟩,hv,he⟩:=hw;have hn:jJ E (gm j)=none:=hE.o _ hv (y5 j hj);refine⟨by simp[eQ],λ i hi=>?_,hE.add hn,by simp[eQ,e9],by simp[eQ,pW]⟩;simp only[eQ,mem_singleton] at hi |-;subst hi;exact⟨by simp,(hE.ex he).mono yA⟩
 have A2:∀ (s:ByteArray) (e:Ex),M1 (.jx s e):=by
  intro s e d V E k b hE hw;simp only[eH] at hw;obtain⟨c,j,h1,h2⟩:=hE.v s hw.1;refine⟨by simp[eQ],λ i hi=>?_,by simpa [eJ,gj,eQ] using hE,by simp[eQ,e9],by simp[eQ,pW]⟩;simp only[eQ,mem_singleton] at hi |-;subst hi;refine⟨?_,hE.ex hw.2⟩;rw[jb h1];rcases h2 with ⟨rfl,h2⟩ | ⟨rfl,h2⟩
  .simpa using h2
  .simpa using h2
 have A3:∀ (g:Bool) (s:ByteArray) (l:List Ar),M1 (.eM g s l):=by
  intro go s l d V E k b hE hw;simp only[eH] at hw;obtain⟨gp,h1,h2⟩:=hw;obtain⟨j,h3,h4⟩:=hE.f _ h1;obtain⟨a1,a2,a3,a4⟩:=hE.ars h2;refine⟨by simp[eQ],λ i hi=>?_,by simpa [eJ,gj,eQ] using hE,by simp[eQ,e9],by simp[eQ,pW]⟩;simp only[eQ,mem_singleton] at hi |-;subst hi;refine⟨?_,a3,a4⟩;rw[jb h3,getElem?_map,h4];simp[PX,a1,a2]
 have A4:∀ (u:Bool) (r:Rf),M1 (.dS u r):=by
  intro u r d V E k b hE hw;simp only[eH] at hw;refine⟨by simp[eQ],λ i hi=>?_,by simpa [eJ,gj,eQ] using hE,by simp[eQ,e9],by simp[eQ,pW]⟩;simp only[eQ,mem_singleton] at hi |-;subst hi;exact hE.rf hw
 have A5:∀ (e:Ex) (th el:List Sm),M2 th->M2 el->M1 (.mL e th el):=by
  intro e th el i1 i2 d V E k b hE hw
  cases d with
  | zero=>simp[eH] at hw
  | succ d=>
   simp only[eH] at hw;obtain⟨a1,a2,a3,a4⟩:=i1 d V E k (b+1) hE hw.2.1;by_cases SK:el.length=0
   .refine⟨by simpa [eQ,SK] using a1,λ i hi=>?_,by simpa [eJ,gj,eQ,SK] using hE.up a1,by simp[eQ,e9,SK];omega,by simp[eQ,pW,SK];omega⟩;simp only[eQ,SK,if_true,mem_cons,length_cons] at hi |-;rcases hi with rfl | hi
    .exact⟨by omega,(hE.ex hw.1).mono a1⟩
    .exact (a2 i hi).mono (Nat.le_refl _) yA
   .obtain⟨b1,b2,b3,b4⟩:=i2 d V E (cc th E k (b+1)).2 (b+2+(cc th E k (b+1)).1.length) (hE.up a1) hw.2.2;refine⟨by simp only[eQ,SK,if_false];omega,λ i hi=>?_,by simpa [eJ,gj,eQ,SK] using hE.up (Nat.le_trans a1 b1),by simp[eQ,e9,SK];omega,by simp only[eQ,pW,SK,if_false];omega⟩;simp only[eQ,SK,if_false,mem_cons,mem_append,length_cons,length_append] at hi |-;rcases hi with rfl | hi | rfl | hi
    .exact⟨by omega,(hE.ex hw.1).mono (Nat.le_trans a1 b1)⟩
    .exact (a2 i hi).mono b1 yA
    .exact Nat.le_trans (Nat.le_refl _) yA
    .exact (b2 i hi).mono (Nat.le_refl _) yA
 have A6:∀ (e:Ex) (th:List Sm),M2 th->M1 (.cX e th):=by
  intro e th i1 d V E k b hE hw
  cases d with
  | zero=>simp[eH] at hw
  | succ d=>
   simp only[eH] at hw;obtain⟨a1,a2,a3,a4⟩:=i1 d V E k (b+1) hE hw.2;refine⟨by simpa [eQ] using a1,λ i hi=>?_,by simpa [eJ,gj,eQ] using hE.up a1,by simp[eQ,e9];omega,by simp[eQ,pW];omega⟩;simp only[eQ,mem_cons,mem_append,length_cons,length_append,length_nil,not_mem_nil,or_false] at hi |-;rcases hi with rfl | hi | rfl
   .exact⟨by omega,(hE.ex hw.1).mono a1⟩
   .exact (a2 i hi).mono (Nat.le_refl _) yA
   .exact Nat.le_trans (Nat.le_refl _) yA
 have A7:M1 .kj:=by
  intro d V E k b hE _;refine⟨by simp[eQ],λ i hi=>?_,by simpa [eJ,gj,eQ] using hE,by simp[eQ,e9],by simp[eQ,pW]⟩;simp only[eQ,mem_singleton] at hi |-;subst hi;trivial
 have A0:M2 []:=by
  intro d V E k b hE _;exact⟨by simp[cc],λ i hi=>by simp[cc] at hi,by simp[cc],by simp[cc,fY]⟩
 have A8:∀ (s:Sm) (r:List Sm),M1 s->M2 r->M2 (s::r):=by
  intro s r i1 i2 d V E k b hE hw;simp only[dj] at hw;obtain⟨a1,a2,a3,a4,a5⟩:=i1 d V E k b hE hw.1;obtain⟨b1,b2,b3,b4⟩:=i2 d (V++eJ s) (E++gj k s) (eQ s E k b).2 (b+(eQ s E k b).1.length) a3 hw.2;refine⟨by simp only[cc];omega,λ i hi=>?_,by simp only[cc,bY,length_append];omega,by simp only[cc,fY];omega⟩;simp only[cc,mem_append,length_append] at hi |-;rcases hi with hi | hi
  .exact (a2 i hi).mono b1 yA
  .exact (b2 i hi).mono (Nat.le_refl _) yA
 exact⟨λ s=>Sm.rec (motive_1:=M1) (motive_2:=M2) A1 A2 A3 A4 A5 A6 A7 A0 A8 s,λ l=>Sm.rec_1 (motive_1:=M1) (motive_2:=M2) A1 A2 A3 A4 A5 A6 A7 A0 A8 l⟩
theorem At:(∀ s:Sm,8*pW s<=e9 s)/\(∀ l:List Sm,8*fY l<=bY l):=by
 let M1:Sm->Prop:=λ s=>8*pW s<=e9 s
 let M2:List Sm->Prop:=λ l=>8*fY l<=bY l
 have A5:∀ (e:Ex) (th el:List Sm),M2 th->M2 el->M1 (.mL e th el):=λ e th el h1 h2=>by
  simp only[M1,M2,pW,e9] at *;omega
 have A6:∀ (e:Ex) (th:List Sm),M2 th->M1 (.cX e th):=λ e th h1=>by
  simp only[M1,M2,pW,e9] at *;omega
 have A8:∀ (s:Sm) (r:List Sm),M1 s->M2 r->M2 (s::r):=λ s r h1 h2=>by
  simp only[M1,M2,fY,bY] at *;omega
 have A1:∀ (s:ByteArray) (e:Ex),M1 (.iU s e):=λ s e=>by simp[M1,pW,e9]
 have A2:∀ (s:ByteArray) (e:Ex),M1 (.jx s e):=λ s e=>by simp[M1,pW,e9]
 have A3:∀ (g:Bool) (s:ByteArray) (l:List Ar),M1 (.eM g s l):=λ g s l=>by simp[M1,pW,e9]
 have A4:∀ (u:Bool) (r:Rf),M1 (.dS u r):=λ u r=>by simp[M1,pW,e9]
 have A7:M1 .kj:=by simp[M1,pW,e9]
 have A0:M2 []:=by simp[M2,fY,bY]
 exact⟨λ s=>Sm.rec (motive_1:=M1) (motive_2:=M2) A1 A2 A3 A4 A5 A6 A7 A0 A8 s,λ l=>Sm.rec_1 (motive_1:=M1) (motive_2:=M2) A1 A2 A3 A4 A5 A6 A7 A0 A8 l⟩
theorem sO {c:Nat}:∀ {l:List ByteArray} {i j:Nat} {s:ByteArray},l[j]? = some s->l.Nodup->jJ (GS c i l) s=some ⟨s,c,i+j⟩
 | [],_,_,_,h,_=>by simp at h
 | x::r,i,0,s,h,_=>by
  simp only[getElem?_cons_zero,Option.some.injEq] at h;subst h;simp[GS,jJ]
 | x::r,i,j+1,s,h,hn=>by
  simp only[getElem?_cons_succ] at h;rw[nodup_cons] at hn;have hx:x≠s:=λ e=>hn.1 (by rw[e];exact mem_of_getElem? h);simp only[GS,jJ];rw[if_neg hx,sO h hn.2];congr 2;omega
theorem nj (c:Nat):∀ (l:List ByteArray) (i:Nat),(GS c i l).map (·.name)=l
 | [],_=>rfl
 | s::r,i=>by simp[GS,nj c r]
theorem e8 {c i:Nat}{l:List ByteArray}{s:ByteArray}(h:s∉l):jJ (GS c i l) s=none:=by
 rw[sN,nj];exact h
theorem qT:∀ (l:List Pm) (i j:Nat),(mq i j l).map (·.name)=l.map (·.name)
 | [],_,_=>rfl
 | p::r,i,j=>by
  simp only[mq];split<;>simp[qT r]
theorem sM:∀ {l:List Pm} {i j:Nat} {p:Pm},(l.map (·.name)).Nodup->p∈l->(p.mutex=true->∃ n,jJ (mq i j l) p.name=some ⟨p.name,5,n⟩/\n<j+pL l)/\(p.mutex=false->∃ n,jJ (mq i j l) p.name=some ⟨p.name,4,n⟩/\n<i+pI l)
 | [],_,_,_,_,h=>by simp at h
 | q::r,i,j,p,hn,hp=>by
  simp only[map_cons,nodup_cons] at hn;rcases mem_cons.1 hp with rfl | hp
  .refine⟨λ hm=>⟨j,by simp[mq,hm,jJ],by simp[pL,hm];omega⟩,λ hm=>⟨i,by simp[mq,hm,jJ],by simp[pI,hm];omega⟩⟩
  .have hx:q.name≠p.name:=λ e=>hn.1 (by rw[e];exact mem_map_of_mem hp)
   cases hq:q.mutex with
   | true=>
    obtain⟨h1,h2⟩:=sM (i:=i) (j:=j+1) hn.2 hp;refine⟨λ hm=>?_,λ hm=>?_⟩
    .obtain⟨n,h3,h4⟩:=h1 hm;exact⟨n,by simp[mq,hq,jJ,hx,h3],by simp[pL,hq];omega⟩
    .obtain⟨n,h3,h4⟩:=h2 hm;exact⟨n,by simp[mq,hq,jJ,hx,h3],by simp[pI,hq];omega⟩
   | false=>
    obtain⟨h1,h2⟩:=sM (i:=i+1) (j:=j) hn.2 hp;refine⟨λ hm=>?_,λ hm=>?_⟩
    .obtain⟨n,h3,h4⟩:=h1 hm;exact⟨n,by simp[mq,hq,jJ,hx,h3],by simp[pL,hq];omega⟩
    .obtain⟨n,h3,h4⟩:=h2 hm;exact⟨n,by simp[mq,hq,jJ,hx,h3],by simp[pI,hq];omega⟩
theorem iz:(∀ s∈nM,s∉nG)/\(∀ s∈nF,s∉nG/\s∉nM)/\(∀ s∈nP,s∉nG/\s∉nM/\s∉nF)/\nG.Nodup/\nM.Nodup/\nF.Nodup/\nP.Nodup:=by
 have h1:∀ s∈nM,∀ t∈nG,s≠t:=by decide
 have h2:∀ s∈nF,∀ t∈nG++nM,s≠t:=by decide
 have h3:∀ s∈nP,∀ t∈nG++nM++nF,s≠t:=by decide
 refine⟨λ s hs hx=>h1 s hs s hx rfl,λ s hs=>⟨λ hx=>h2 s hs s Za rfl,λ hx=>h2 s hs s Za rfl⟩,λ s hs=>⟨λ hx=>h3 s hs s Za rfl,λ hx=>h3 s hs s Za rfl,λ hx=>h3 s hs s Za rfl⟩,?_,?_,?_,?_⟩<;>
  simp only[List.Nodup,nG,nM,nF,nP,pairwise_cons,List.Pairwise.nil,and_true]<;>decide
theorem sb {l:List ByteArray}{k:Nat}{s:ByteArray}(h:s∈l.take k):s∈l:=mem_of_mem_take h
theorem j9 {α β:Type}{l:List α}(f:α->β){a:α}(h:a∈l):∃ j:Nat,l[j]? = some a/\(l.map f)[j]? = some (f a):=by
 obtain⟨j,hj⟩:=mem_iff_getElem?.1 h;exact⟨j,hj,by rw[getElem?_map,hj];rfl⟩
section
variable {p:Pg}(h:lN p)
include h
theorem lN.sub:(∀ s∈p.gs.map (·.name),s∈nG)/\(∀ s∈p.ms.map (·.name),s∈nM)/\(∀ s∈p.fs.map (·.name),s∈nF)/\(∀ f∈p.fs,∀ s∈f.params.map (·.name),s∈nP):=by
 obtain⟨k1,_,e1⟩:=h.gn;obtain⟨k2,_,_,e2⟩:=h.mn;obtain⟨k3,_,_,e3⟩:=h.fn;refine⟨λ s hs=>?_,λ s hs=>?_,λ s hs=>?_,λ f hf s hs=>?_⟩
 .rw[e1] at hs;exact sb hs
 .rw[e2] at hs;exact sb hs
 .rw[e3] at hs;exact sb hs
 .obtain⟨k,_,e⟩:=h.pn f hf;rw[e,mem_reverse] at hs;exact sb hs
theorem lN.nd:(p.gs.map (·.name)).Nodup/\(p.ms.map (·.name)).Nodup/\(p.fs.map (·.name)).Nodup/\∀ f∈p.fs,(f.params.map (·.name)).Nodup:=by
 obtain⟨_,_,_,n1,n2,n3,n4⟩:=iz;obtain⟨k1,_,e1⟩:=h.gn;obtain⟨k2,_,_,e2⟩:=h.mn;obtain⟨k3,_,_,e3⟩:=h.fn;refine⟨?_,?_,?_,λ f hf=>?_⟩
 .rw[e1];exact n1.sublist (take_sublist _ _)
 .rw[e2];exact n2.sublist (take_sublist _ _)
 .rw[e3];exact n3.sublist (take_sublist _ _)
 .obtain⟨k,_,e⟩:=h.pn f hf;rw[e];exact pairwise_reverse.2 ((n4.sublist (take_sublist _ _)).imp λ h=>Ne.symm h)
theorem lN.dec:(∀ g∈p.gs,∃ j,jJ (dB p) g.name=some ⟨g.name,1,j⟩/\j<p.gs.length)/\(∀ m∈p.ms,∃ j,jJ (dB p) m.name=some ⟨m.name,2,j⟩/\p.ms[j]? = some m)/\
  (∀ f∈p.fs,∃ j,jJ (dB p) f.name=some ⟨f.name,3,j⟩/\p.fs[j]? = some f)/\(∀ s,s∉nG++nM++nF->jJ (dB p) s=none):=by
 obtain⟨a1,a2,_,_⟩:=iz;obtain⟨s1,s2,s3,_⟩:=h.sub;obtain⟨d1,d2,d3,_⟩:=h.nd;refine⟨λ g hg=>?_,λ m hm=>?_,λ f hf=>?_,λ s hs=>?_⟩
 .obtain⟨j,h1,h2⟩:=j9 (·.name) hg;refine⟨j,?_,(List.getElem?_eq_some_iff.1 h1).1⟩;rw[dB,dT,dT,sO h2 d1];simp
 .obtain⟨j,h1,h2⟩:=j9 (·.name) hm;refine⟨j,?_,h1⟩;have Ub:=s2 _ (mem_map_of_mem (f:=(·.name)) hm);rw[dB,dT,dT,e8 (λ hx=>a1 _ Ub (s1 _ hx)),sO h2 d2];simp
 .obtain⟨j,h1,h2⟩:=j9 (·.name) hf;refine⟨j,?_,h1⟩;have Ub:=s3 _ (mem_map_of_mem (f:=(·.name)) hf);rw[dB,dT,dT,e8 (λ hx=>(a2 _ Ub).1 (s1 _ hx)),e8 (λ hx=>(a2 _ Ub).2 (s2 _ hx)),sO h2 d3];simp
 .simp only[mem_append,not_or] at hs;rw[dB,dT,dT,e8 (λ hx=>hs.1.1 (s1 _ hx)),e8 (λ hx=>hs.1.2 (s2 _ hx)),e8 (λ hx=>hs.2 (s3 _ hx))]
theorem lN.ew {f:Fu}(hf:f∈p.fs):EW p.gs.length p.ms (p.fs.map λ f=>(f.name,f.params)) f.params (ku p.gs f.params) (uf p f) (pI f.params):=by
 obtain⟨d1,d2,d3,d4⟩:=h.dec;obtain⟨_,_,a3,_⟩:=iz;obtain⟨_,_,_,s4⟩:=h.sub;obtain⟨_,_,_,n4⟩:=h.nd;have Zn:∀ q∈f.params,jJ (dB p) q.name=none:=λ q hq=>by
  have:=s4 f hf _ (mem_map_of_mem (f:=(·.name)) hq);have:=a3 _ this;exact d4 _ (by simp only[mem_append,not_or];exact⟨⟨this.1,this.2.1⟩,this.2.2⟩)
 refine⟨λ m hm=>?_,λ x hx=>?_,λ q hq hq2=>?_,λ s hs=>?_,λ s hs hs2=>?_⟩
 .obtain⟨j,h1,h2⟩:=d2 m hm;exact⟨j,by rw[uf,dT,h1],h2⟩
 .rw[mem_map] at hx;obtain⟨f',hf',rfl⟩:=hx;obtain⟨j,h1,h2⟩:=d3 f' hf';exact⟨j,by rw[uf,dT,h1],by rw[getElem?_map,h2];rfl⟩
 .obtain⟨n,h1,h2⟩:=(sM (i:=0) (j:=0) (n4 f hf) hq).1 hq2;exact⟨n,by rw[uf,dT,Zn q hq];exact h1,by omega⟩
 .simp only[ku,mem_append,mem_flatMap,mem_map] at hs;rcases hs with ⟨g,hg,rfl⟩ | ⟨q,hq,hs⟩
  .obtain⟨j,h1,h2⟩:=d1 g hg;exact⟨1,j,by rw[uf,dT,h1],.inl ⟨rfl,h2⟩⟩
  .cases hm:q.mutex with
   | true=>simp[hm] at hs
   | false=>
    simp[hm] at hs;subst hs;obtain⟨n,h1,h2⟩:=(sM (i:=0) (j:=0) (n4 f hf) hq).2 hm;exact⟨4,n,by rw[uf,dT,Zn q hq];exact h1,.inr ⟨rfl,by omega⟩⟩
 .have hs3:=hs2;simp only[mem_append,not_or] at hs3;rw[uf,dT,d4 s (by simp only[mem_append,not_or];exact hs3.1)];rw[sN,qT];exact λ hx=>hs3.2 (s4 f hf _ hx)
end
theorem pIL:∀ l:List Pm,pI l+pL l=l.length
 | []=>rfl
 | p::r=>by
  have:=pIL r;simp only[pI,pL,length_cons];split<;>omega
structure gg (u:Un):Prop where
 np:1<=u.ps.length/\u.ps.length<=4
 nm:1<=u.ms.length/\u.ms.length<=4
 ng:u.gs.length<=2
 gi:∀ g∈u.gs,-2<=g/\g<=2
 mz:∀ m∈u.ms,m.size<=3/\(m.re=true->m.size=0)
 main:u.main=0
 p0:∀ q,u.ps[0]? = some q->q.ints=0/\q.bh=0
 pr:∀ q∈u.ps,q.ints<=2/\q.bh<=2/\q.ints<=q.locals/\q.locals<=200/\q.code.length<=145
 pc:∀ q∈u.ps,(∃ c,q.code=c++[.ret])/\∀ i∈q.code,I3 (u.ps.map λ q=>(q.ints,q.bh)) u.ms u.gs.length q.locals q.bh (q.code.length-1) i
theorem lN.unit {p:Pg}(h:lN p)(hw:∀ f∈p.fs,bY f.body<=1152)(hp:∀ f∈p.fs,f.params.length<=2):gg (mN p):=by
 obtain⟨k1,WQ,e1⟩:=h.gn;obtain⟨k2,_,X0,e2⟩:=h.mn;obtain⟨k3,_,hk3,e3⟩:=h.fn;have l1:=congrArg length e1;have l2:=congrArg length e2;have l3:=congrArg length e3;simp[nG] at l1;simp[nM] at l2;simp[nF] at l3;have hs:∀ f∈p.fs,pI f.params<=(cc f.body (uf p f) (pI f.params) 0).2/\(∀ i∈(cc f.body (uf p f) (pI f.params) 0).1,I3 ((p.fs.map λ f=>(f.name,f.params)).map PX) p.ms p.gs.length (cc f.body (uf p f) (pI f.params) 0).2 (pL f.params) (0+(cc f.body (uf p f) (pI f.params) 0).1.length) i)/\8*(cc f.body (uf p f) (pI f.params) 0).1.length<=bY f.body/\(cc f.body (uf p f) (pI f.params) 0).2<=pI f.params+fY f.body:=
  λ f hf=>B8.2 f.body 2 _ _ _ 0 (h.ew hf) (h.bd f hf)
 have Xz:(mN p).ps.map (λ q=>(q.ints,q.bh))=(p.fs.map λ f=>(f.name,f.params)).map PX:=by
  simp only[mN,map_map];rfl
 refine⟨by simp only[mN,length_map];omega,by simp only[mN];omega,by simp only[mN,length_map];omega,λ g hg=>?_,h.mz,rfl,λ q hq=>?_,λ q hq=>?_,λ q hq=>?_⟩
 .simp only[mN,mem_map] at hg;obtain⟨x,hx,rfl⟩:=hg;exact h.gi x hx
 .simp only[mN,getElem?_map,Option.map_eq_some_iff] at hq;obtain⟨f,hf,rfl⟩:=hq;simp[oS,h.f0 f hf,pI,pL]
 .simp only[mN,mem_map] at hq;obtain⟨f,hf,rfl⟩:=hq;obtain⟨b1,b2,b3,b4⟩:=hs f hf;have b5:=At.2 f.body;have b6:=hw f hf;have b7:=pIL f.params;have b8:=hp f hf;refine⟨by simp only[oS];omega,by simp only[oS];omega,b1,by simp only[oS];omega,by simp only[oS,length_append,length_singleton];omega⟩
 .rw[Xz];simp only[mN,mem_map] at hq;obtain⟨f,hf,rfl⟩:=hq;obtain⟨b1,b2,b3,b4⟩:=hs f hf;refine⟨⟨_,rfl⟩,λ i hi=>?_⟩;simp only[oS,mem_append,mem_singleton] at hi |-;rcases hi with hi | rfl
  .have hx:=I3.mono (Nat.le_refl _) (M':=(cc f.body (uf p f) (pI f.params) 0).1.length) yA (b2 i hi)
   simpa [mN] using hx
  .trivial
end Go.aK
namespace Go.Proofs.YtlkmbdfhdknlgaaGreat
open Go.Can Go.aK List Tryz
theorem l6 (x:En):(jj x).length=3:=rfl
def J59 (E:List En)(s:ByteArray)(n:Nat)(st:St):Prop:=∃ i:Nat,n=E.length-i/\i<=E.length/\jJ E s=jJ (E.drop i) s/\st=⟨[(6,I i),(5,.bool false),(4,.ax 0 0),(0,.az (E.flatMap jj) E.length),(1,.str s)],[(0,⟨145,0,[.str ⟨#[]⟩,I 0,I 0]⟩)],1⟩
def sP:Option En->CV
 | some x=>.cF [.agg (jj x),.bool true]
 | none=>.cF [.agg [.str ⟨#[]⟩,I 0,I 0],.bool false]
theorem Ht (R:Option En):tree (sP R)=true:=by cases R<;>rfl
theorem sQ (E:List En)(s:ByteArray)(hl:E.length<=100000):ae prog 69 [.az (E.flatMap jj) E.length,.str s] (sP (jJ E s)):=by
 have Tg:=λ (i:Nat) (x:En) (h:E[i]? = some x)=>aL (f:=jj) (n:=3) l6 (m:=E) h;refine ae.aD af Tryz.func69 rfl Bw (by simp[Tryz.ntmps69]) (Ht _) λ C hC M0=>?_;rw[Tryz.ntmps69] at hC;apply aq;simp[hC];apply aW;simp[hC];apply T.block;refine T.aI (J59 E s) (n:=E.length) ?_ ?_
 .refine aa.here ⟨0,by omega,by omega,rfl,?_⟩;simp
 .rintro n st ⟨i,rfl,hi,hf,rfl⟩;by_cases Jz:i<E.length
  .obtain⟨a,Tn⟩:∃ a,E[i]? = some a:=⟨E[i],getElem?_eq_getElem Jz⟩;have OZ:=Tg i a Tn;have wi:=cr ((i:Int)+1) yA yA;have hd:E.drop i=a::E.drop (i+1):=by
    rw[drop_eq_getElem_cons Jz,(List.getElem?_eq_some_iff.1 Tn).2]
   rw[hd,jJ] at hf;apply aW;simp[hC,Jz];refine jk ?_;simp;apply eE;apply aq;simp[hC,Jz,OZ,jj,jv];by_cases hn:a.name=s
   .rw[if_pos hn] at hf;simp only[hn,decide_true];refine du ?_;simp;apply aq;simp[hC,Jz,OZ,jj];apply T.ret;apply aa.here;simp[Tryz.results69,hf,sP,jj]
   .rw[if_neg hn] at hf;simp only[hn,decide_false];refine gk ?_;simp;apply aM;simp[hC,wi];refine⟨E.length-(i+1),by omega,?_⟩;refine aa.trim [6,5,4,0,1] [0] 1 xr yA ⟨i+1,rfl,by omega,hf,?_⟩;simp
  .have Rz:i=E.length:=by omega
   rw[Rz,drop_length,jJ] at hf;apply aW;simp[hC,Jz];refine bg ?_;simp;apply T.exit;simp;apply aq;simp[hC];apply T.ret;apply aa.here;simp[Tryz.results69,hf,sP]
def qp (p:Pg)(E:List En)(k st cl sl:Nat):List CV:=[.az (p.gs.flatMap qH) p.gs.length,.az (p.ms.flatMap cP) p.ms.length,.az (p.fs.flatMap fT) p.fs.length,.az (E.flatMap jj) E.length,I k,I st,I 0,I 0,.a7 1 0 cl,.a7 2 0 sl]
def dF (p:Pg)(E:List En)(k st cl sl:Nat):Ob:=⟨215,0,qp p E k st cl sl⟩
theorem u9 (p:Pg)(E:List En)(k st cl sl:Nat)(hl:E.length<=100000)(s:ByteArray)(x:En)(hx:jJ E s=some x)(hk:x.kind=1\/x.kind=4)(n:Int) :
  Body prog av 168 [.ax 0 0,.str s,I n] [(0,dF p E k st cl sl)] 3 (iO (.agg (jj x)) [(0,dF p E k st cl sl)] 3):=by
 have hf:=sQ E s hl;rw[hx] at hf;refine Body.iZ Tryz.func168 rfl Bw (by simp[Tryz.ntmps168]) λ C hC M0=>?_;rw[Tryz.ntmps168] at hC;apply aq;simp[hC];apply aq;simp[hC,dF,qp];refine cS SD (hf) ?_;simp[hC,sP,jj];obtain⟨nm,kd,nn⟩:=x;simp only at hk |-;rcases hk with rfl | rfl
 .apply eE;apply aq;simp[hC];refine bg ?_;simp;apply aq;simp[hC];refine gk ?_;simp;apply aq;simp[hC];apply T.ret;refine aa.le (Le.trim [6] [0,3] 4 U2 yA) ?_;simp;refine aa.le (Le.nz [] [3]) ?_;simp;refine aa.le (Le.di (o:=3) rfl X9) ?_;simp;refine aa.trim [6] [0] 3 xr yA ⟨_,?_,rfl,?_,rfl⟩
  .simp
  .simp
 .apply eE;apply aq;simp[hC];refine bg ?_;simp;apply aq;simp[hC];refine gk ?_;simp;apply aq;simp[hC];apply T.ret;refine aa.le (Le.trim [6] [0,3] 4 U2 yA) ?_;simp;refine aa.le (Le.nz [] [3]) ?_;simp;refine aa.le (Le.di (o:=3) rfl X9) ?_;simp;refine aa.trim [6] [0] 3 xr yA ⟨_,?_,rfl,?_,rfl⟩
  .simp
  .simp
def mD (l:List Ex):Ob:=⟨85,4,l.flatMap bf⟩
def J131 (p:Pg)(E:List En)(k st cl sl:Nat)(e:Ex)(n:Int)(m:Nat)(s:St):Prop:=∃ i:Nat,m=e.args.length-i/\i<=e.args.length/\
 s=⟨[(9,I i),(8,.ax 5 0),(6,.ax 4 0),(4,.ax 3 0),(0,.ax 0 0),(2,I n)],[(0,dF p E k st cl sl),(3,⟨85,0,bf e⟩),(4,⟨85,0,[I 0,I 0,.str ⟨#[]⟩,.aj]⟩),(5,⟨85,0,[I e.op,I e.n,.str ⟨#[]⟩,.a7 6 0 i]⟩),(6,mD ((e.args.take i).map (eF E)))],7⟩
theorem nU (p:Pg)(E:List En)(k st cl sl:Nat)(n:Int)(e e':Ex)(SG:(e.op == 2)=false)(h1:e'.op=e.op)(h2:e'.n=e.n)(h3:e'.name=eS)(h4:e'.args=e.args.map (eF E))(VJ:e.args.length<=2)
  (ha:∀ x∈e.args,Body prog av 167 [.ax 0 0,.agg (bf x),I n] [(0,dF p E k st cl sl)] 3 (iO (.agg (bf (eF E x))) [(0,dF p E k st cl sl)] 3)) :
  Body prog av 167 [.ax 0 0,.agg (bf e),I n] [(0,dF p E k st cl sl)] 3 (iO (.agg (bf e')) [(0,dF p E k st cl sl)] 3):=by
 have Tg:=λ (i:Nat) (x:Ex) (h:e.args[i]? = some x)=>aL (f:=bf) (n:=4) bC (m:=e.args) h;refine Body.iZ Tryz.func167 rfl Bw (by simp[Tryz.ntmps167]) λ C hC M0=>?_;rw[Tryz.ntmps167] at hC;rw[bZ e];apply aq;simp[hC];apply aW;simp[hC,SG];refine gk ?_;simp;apply aq;simp[hC];apply aW;simp[hC];apply T.block;refine T.aI (J131 p E k st cl sl e n) (n:=e.args.length) ?_ ?_
 .refine aa.le (Le.mU 5 3 85 4 rfl rfl) ?_;simp;refine aa.trim [9,8,6,4,0,2] [0,3,4,5,6] 7 (by simp[dF,qp]) yA ⟨0,by omega,by omega,?_⟩;rw[bZ e];simp[mD]
 .rintro m s ⟨i,rfl,hi,rfl⟩;by_cases Jz:i<e.args.length
  .obtain⟨a,Tn⟩:∃ a,e.args[i]? = some a:=⟨e.args[i],getElem?_eq_getElem Jz⟩;have OZ:=Tg i a Tn;have hb:=ha a (mem_of_getElem? Tn);have wi:=cr ((i:Int)+1) yA yA;rw[bZ e];apply aW;simp[hC,Jz];refine jk ?_;simp;apply eE;refine T.rx af follows [0,1,2,3,4,5,6,7,8,9,10,11,12,13] [(1,9),(1,10)] Bw ?_;simp[hC,Jz,OZ];have SE:take (i+1) (map (eF E) e.args)=take i (map (eF E) e.args)++[eF E a]:=by
    rw[take_add_one,getElem?_map,Tn];rfl
   have hNl:(take i (map (eF E) e.args)).length=i:=by simp;omega
   generalize hN:take i (map (eF E) e.args)=N at SE hNl;have W8:=aG (f:=bf) (n:=4) bC N;rw[hNl] at W8;have hbd:(i+1)*56<=140737488355328:=by omega
   have hbd2:(i+1)*64<=140737488355328:=by omega
   refine RX.cZ [0] [] 3 (hb) rfl xr rfl rfl rfl rfl xr TJ TG rfl rfl rfl xr ?_;simp[mD,bC,W8,hbd,aY,-length_flatMap];apply aM;simp[hC,wi];refine⟨e.args.length-(i+1),by omega,?_⟩;have hN3:(N++[eF E a]).flatMap bf=N.flatMap bf++bf (eF E a):=by simp
   have SJ:trees (N.flatMap bf++bf (eF E a))=true:=by rw[<- hN3];exact ak aO _
   refine aa.le (Le.trim [9,8,6,4,0,2] [0,3,4,5,21] 22 yDr yA) ?_;simp;refine aa.le (Le.qt 21 6 rfl rfl yA xr xr yDq) ?_;simp only[dF,qp];simp[bl (ak aO N)];have htk':(e.args.take (i+1)).map (eF E)=N++[eF E a]:=by rw[map_take];exact SE
   refine aa.trim [9,8,6,4,0,2] [0,3,4,5,6] 7 yEb yA ⟨i+1,rfl,by omega,?_⟩;rw[htk',bZ e];simp[mD,dF,qp]
  .have Rz:i=e.args.length:=by omega
   rw[bZ e];apply aW;simp[hC,Jz];refine bg ?_;simp;apply T.exit;simp;apply aq;simp[hC];apply T.ret;subst Rz;have SE:take e.args.length (map (eF E) e.args)=e'.args:=by rw[h4];exact take_of_length_le xr
   have Xi:((e'.args.flatMap bf).take (e.args.length*4))=e'.args.flatMap bf:=take_of_length_le (by rw[aG (f:=bf) (n:=4) bC,h4];simp);refine aa.le (Le.trim [6] [0,4,6] 7 yDs yA) ?_;simp;refine aa.le (Le.di (o:=6) rfl (ak aO _)) ?_;simp[mD,SE,Xi];refine aa.le (Le.di (o:=4) rfl (by simp[trees,tree])) ?_;simp[dF,qp];refine aa.trim [6] [0] 3 xr yA ⟨_,?_,rfl,?_,rfl⟩
   .simp[bZ e',h1,h2,h3,h4,eS]
   .simp
theorem ll (p:Pg){g:Nat}{ms:List Mx}{fs:List (ByteArray×List Pm)}{ps:List Pm}{V:List ByteArray}(E:List En)(k st cl sl:Nat)(hE:EW g ms fs ps V E k)(hl:E.length<=100000)(n:Int):∀ (d:Nat) (e:Ex),gC V d e ->
  Body prog av 167 [.ax 0 0,.agg (bf e),I n] [(0,dF p E k st cl sl)] 3 (iO (.agg (bf (eF E e))) [(0,dF p E k st cl sl)] 3):=by
 have Xn:∀ s∈V,Body prog av 167 [.ax 0 0,.agg (bf (.nm s)),I n] [(0,dF p E k st cl sl)] 3 (iO (.agg (bf (eF E (.nm s)))) [(0,dF p E k st cl sl)] 3):=by
  intro s hs;obtain⟨c,j,h1,h2⟩:=hE.v s hs;have hv:=u9 p E k st cl sl hl s _ h1 yBx n;simp only[eF,jb h1];refine Body.iZ Tryz.func167 rfl Bw (by simp[Tryz.ntmps167]) λ C hC M0=>?_;rw[Tryz.ntmps167] at hC;simp only[dF,qp] at hv |-;apply aq;simp[hC,bf];apply aW;simp[hC];refine du ?_;simp;apply aq;simp[hC];refine TL.cZ af [0] 3 (hv) Rg rfl rfl rfl rfl xr TJ TG rfl (TL.go' af ?_);simp[hC,jj];rcases h2 with ⟨rfl,h2⟩ | ⟨rfl,h2⟩
  .apply aW;simp[hC];refine du ?_;simp;apply aq;simp[hC];apply T.ret;refine aa.le (Le.trim [6] [0,4] 5 U2 yA) ?_;simp;refine aa.le (Le.nz [] [4]) ?_;simp;refine aa.le (Le.di (o:=4) rfl X9) ?_;simp;refine aa.trim [6] [0] 3 xr yA ⟨_,?_,rfl,?_,rfl⟩
   .simp[bf,eS]
   .simp
  .apply aW;simp[hC];refine gk ?_;simp;apply aq;simp[hC];apply T.ret;refine aa.le (Le.trim [6] [0,4] 5 U2 yA) ?_;simp;refine aa.le (Le.nz [] [4]) ?_;simp;refine aa.le (Le.di (o:=4) rfl X9) ?_;simp;refine aa.trim [6] [0] 3 xr yA ⟨_,?_,rfl,?_,rfl⟩
   .simp[bf,eS]
   .simp
 intro d
 induction d with
 | zero=>
  intro e hw
  match e,hw with
  | .nm s,hw=>exact Xn s (by simpa [gC] using hw)
  | .num c,hw=>exact nU p E k st cl sl n (.num c) (.num c) rfl rfl rfl rfl rfl V2 V2
 | succ d ih=>
  intro e hw
  match e,hw with
  | .nm s,hw=>exact Xn s (by simpa [gC] using hw)
  | .num c,hw=>exact nU p E k st cl sl n (.num c) (.num c) rfl rfl rfl rfl rfl V2 V2
  | .un o x,hw=>
   simp only[gC] at hw;refine nU p E k st cl sl n (.un o x) (.un o (eF E x)) (by simp[Ex.op];omega) rfl rfl rfl rfl V2 λ y hy=>?_;simp only[Ex.args,mem_singleton] at hy;subst hy;exact ih _ hw.2
  | .bin o x y,hw=>
   simp only[gC] at hw;refine nU p E k st cl sl n (.bin o x y) (.bin o (eF E x) (eF E y)) (by simp[Ex.op];omega) rfl rfl rfl rfl V2 λ z hz=>?_;simp only[Ex.args,mem_cons,not_mem_nil,or_false] at hz;rcases hz with rfl | rfl
   .exact ih _ hw.2.1
   .exact ih _ hw.2.2
def zy (o:Option Ex):List Ex:=match o with
 | none=>[]
 | some e=>[e]
theorem ph (o:Option Ex):oL o=.az ((zy o).flatMap bf) (zy o).length:=by cases o<;>simp[oL,zy]
def J134 (p:Pg)(E:List En)(k st cl sl:Nat)(nm:ByteArray)(il:List Ex)(b:Bool)(j:Nat)(n:Int)(m:Nat)(s:St):Prop:=∃ i:Nat,m=il.length-i/\i<=il.length/\
 s=⟨[(11,I i),(9,.ax 18 0),(6,.ax 4 0),(4,.ax 3 0),(0,.ax 0 0),(2,I n)],[(0,dF p E k st cl sl),(3,⟨204,0,[.str nm,.az (il.flatMap bf) il.length]⟩),(4,⟨87,0,[.bool false,I 0,.aj]⟩),(18,⟨87,0,[.bool b,I j,.a7 19 0 i]⟩),(19,mD ((il.take i).map (eF E)))],20⟩
theorem GC (p:Pg){g:Nat}{fs:List (ByteArray×List Pm)}{ps:List Pm}{V:List ByteArray}(E:List En)(k st cl sl:Nat)(hE:EW g p.ms fs ps V E k)(hl:E.length<=100000)(_hm:p.ms.length<=1000)(n:Int)(r:Rf)(hr:I2 p.ms ps V r) :
  Body prog av 170 [.ax 0 0,.agg (mh r),I n] [(0,dF p E k st cl sl)] 3 (iO (.agg (iq (Az E r))) [(0,dF p E k st cl sl)] 3):=by
 obtain⟨c,j,hf,YM,he⟩:∃ c j,jJ E r.name=some ⟨r.name,c,j⟩/\((c=2/\∃ m,p.ms[j]? = some m/\((0:Int)<m.size↔0<(zy r.index).length))\/(c=5/\(zy r.index).length=0))/\∀ e∈zy r.index,gC V 1 e:=by
  rcases hr with ⟨m,h1,h2,h3⟩ | ⟨q,h1,h2,h3,h4⟩
  .obtain⟨j,h4,h5⟩:=hE.m m h1;rw[<- h2] at h4;refine⟨2,j,h4,.inl ⟨rfl,m,h5,?_⟩,λ e he=>?_⟩
   .rcases h3 with ⟨h6,h7⟩ | ⟨e,h6,h7,_⟩
    .simp[h6,zy,h7]
    .simp[h6,zy,h7]
   .rcases h3 with ⟨h6,h7⟩ | ⟨e',h6,h7,h8⟩
    .simp[h6,zy] at he
    .simp only[h6,zy,mem_singleton] at he;subst he;exact h8
  .obtain⟨j,h5,h6⟩:=hE.p q h1 h2;rw[<- h3] at h5;exact⟨5,j,h5,.inr ⟨rfl,by simp[h4,zy]⟩,λ e he=>by simp[h4,zy] at he⟩
 have VW:=sQ E r.name hl;rw[hf] at VW;have Tw:iq (Az E r)=[.bool (decide (c=5)),I j,.az (((zy r.index).map (eF E)).flatMap bf) ((zy r.index).map (eF E)).length]:=by
  simp only[Az,iq,jb hf,ph];cases r.index<;>simp[zy]
 have Tg:=λ (i:Nat) (x:Ex) (h:(zy r.index)[i]? = some x)=>aL (f:=bf) (n:=4) bC (m:=zy r.index) h;have UJ:(zy r.index).length<=1:=by cases r.index<;>simp[zy]
 rw[Tw];simp only[mh,ph];generalize zy r.index=il at YM he Tg UJ;generalize r.name=nm at hf VW;clear Tw hr;refine Body.iZ Tryz.func170 rfl Bw (by simp[Tryz.ntmps170]) λ C hC M0=>?_;rw[Tryz.ntmps170] at hC;apply aq;simp[hC];apply T.seq;refine T.rx af follows [0,1,2,3,4,5,10,6,7,8,9,11,12] [(3,10),(5,10),(10,6)] Bw ?_;simp[hC,dF,qp];refine RX.call rfl xr rfl rfl rfl SD (VW) ?_;simp[sP,jj];have hc5:((c:Int) == 5)=decide (c=5):=by rcases YM with ⟨rfl,_⟩ | ⟨rfl,_⟩<;>rfl
 apply aq;simp[hC,hc5];refine T.cut (λ s=>s=⟨[(9,.ax 18 0),(6,.ax 4 0),(4,.ax 3 0),(0,.ax 0 0),(2,I n)],[(0,dF p E k st cl sl),(3,⟨204,0,[.str nm,.az (il.flatMap bf) il.length]⟩),(4,⟨87,0,[.bool false,I 0,.aj]⟩),(18,⟨87,0,[.bool (decide (c=5)),I j,.aj]⟩)],19⟩) ?_ ?_
 .rcases YM with ⟨rfl,m,hmj,hiff⟩ | ⟨rfl,VE⟩
  .have hmd:=cb (f:=cP) (n:=3) (λ _=>rfl) hmj 2 yA;have Tl:=(List.getElem?_eq_some_iff.1 hmj).1;apply T.block;apply aq;simp[hC];refine bg ?_;simp;apply aq;simp[hC];refine bg ?_;simp;apply T.seq;refine T.rx af follows [0,1,2,3,4,5,6,7,8,9,10,11,12,13,14,15,16] [] Bw ?_;simp[hC,Tl,hmd,cP];by_cases hz:0<il.length
   .have T1:0<m.size:=by omega
    apply aq;simp[hC,hz,T1];refine gk ?_;simp;refine aa.trim [9,6,4,0,2] [0,3,4,18] 19 xr yA ?_;simp[dF,qp]
   .have T1:¬ 0<m.size:=by omega
    apply aq;simp[hC,hz,T1];refine gk ?_;simp;refine aa.trim [9,6,4,0,2] [0,3,4,18] 19 xr yA ?_;simp[dF,qp]
  .apply T.block;apply aq;simp[hC];refine bg ?_;simp;apply aq;simp[hC];refine bg ?_;simp;apply T.seq;refine T.rx af follows [0,1,2,3,4,5,6,7,8,9,10,11,12,13,14,15,16] [] Bw ?_;simp[hC];apply aq;simp[hC,VE];refine gk ?_;simp;refine aa.trim [9,6,4,0,2] [0,3,4,18] 19 xr yA ?_;simp[dF,qp]
 rintro s rfl;apply aW;simp[hC];apply T.block;refine T.aI (J134 p E k st cl sl nm il (decide (c=5)) j n) (n:=il.length) ?_ ?_
 .refine aa.le (Le.mU 18 2 85 4 rfl rfl) ?_;simp;refine aa.trim [11,9,6,4,0,2] [0,3,4,18,19] 20 (by simp[dF,qp]) yA ⟨0,by omega,by omega,?_⟩;simp[mD]
 .rintro m s ⟨i,rfl,hi,rfl⟩;by_cases Jz:i<il.length
  .obtain⟨a,Tn⟩:∃ a,il[i]? = some a:=⟨il[i],getElem?_eq_getElem Jz⟩;have OZ:=Tg i a Tn;have hb:=ll p E k st cl sl hE hl n 1 a (he a (mem_of_getElem? Tn));have wi:=cr ((i:Int)+1) yA yA;apply aW;simp[hC,Jz];refine jk ?_;simp;apply eE;refine T.rx af follows [0,1,2,3,4,5,6,7,8,9,10,11,12,13] [(1,9),(1,10)] Bw ?_;simp[hC,Jz,OZ];have SE:take (i+1) (map (eF E) il)=take i (map (eF E) il)++[eF E a]:=by
    rw[take_add_one,getElem?_map,Tn];rfl
   have hNl:(take i (map (eF E) il)).length=i:=by simp;omega
   generalize hN:take i (map (eF E) il)=N at SE hNl;have W8:=aG (f:=bf) (n:=4) bC N;rw[hNl] at W8;have hbd:(i+1)*56<=140737488355328:=by omega
   have hbd2:(i+1)*64<=140737488355328:=by omega
   refine RX.cZ [0] [] 3 (hb) rfl xr rfl rfl rfl rfl xr TJ TG rfl rfl rfl xr ?_;simp[mD,bC,W8,hbd,aY,-length_flatMap];apply aM;simp[hC,wi];refine⟨il.length-(i+1),by omega,?_⟩;have hN3:(N++[eF E a]).flatMap bf=N.flatMap bf++bf (eF E a):=by simp
   have SJ:trees (N.flatMap bf++bf (eF E a))=true:=by rw[<- hN3];exact ak aO _
   refine aa.le (Le.trim [11,9,6,4,0,2] [0,3,4,18,34] 35 yDr yA) ?_;simp;refine aa.le (Le.qt 34 19 rfl rfl yA xr xr yDq) ?_;simp only[dF,qp];simp[bl (ak aO N)];have htk':(il.take (i+1)).map (eF E)=N++[eF E a]:=by rw[map_take];exact SE
   refine aa.trim [11,9,6,4,0,2] [0,3,4,18,19] 20 yEb yA ⟨i+1,rfl,by omega,?_⟩;rw[htk'];simp[mD,dF,qp]
  .have Rz:i=il.length:=by omega
   apply aW;simp[hC,Jz];refine bg ?_;simp;apply T.exit;simp;apply aq;simp[hC];apply T.ret;subst Rz;have SE:take il.length (map (eF E) il)=il.map (eF E):=take_of_length_le xr;have Xi:(((il.map (eF E)).flatMap bf).take (il.length*4))=(il.map (eF E)).flatMap bf:=take_of_length_le (by rw[aG (f:=bf) (n:=4) bC];simp);refine aa.le (Le.trim [6] [0,4,19] 20 yDs yA) ?_;simp;refine aa.le (Le.di (o:=19) rfl (ak aO _)) ?_;simp[mD,SE,Xi];refine aa.le (Le.di (o:=4) rfl (by simp[trees,tree])) ?_;simp[dF,qp];refine aa.trim [6] [0] 3 xr yA ⟨_,?_,rfl,?_,rfl⟩
   .simp
   .simp
end Go.Proofs.YtlkmbdfhdknlgaaGreat
