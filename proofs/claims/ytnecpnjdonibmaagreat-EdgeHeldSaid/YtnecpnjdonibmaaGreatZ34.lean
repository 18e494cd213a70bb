/- program: the text of a program. -/
import Derived.Test.YtnecpnjdonibmaaGreatZ33
namespace Go.Proofs.YtnecpnjdonibmaaGreat
open Go.Can Go.aP
def J91a (p:Pg)(X:ByteArray)(n:Nat)(s:St):Prop:=∃ (i:Nat) (x:ByteArray),n=p.gs.length-i∧i≤p.gs.length∧x++(jR LI (p.gs.drop i)++jR KC p.ms++jR Gv p.fs)=X∧s=⟨[(4,I i),(3,.str x),(1,.ax 0 0)],[(0,⟨27,0,eH p⟩)],1⟩
def J91b (p:Pg)(X:ByteArray)(n:Nat)(s:St):Prop:=∃ (i:Nat) (x:ByteArray),n=p.ms.length-i∧i≤p.ms.length∧x++(jR KC (p.ms.drop i)++jR Gv p.fs)=X∧s=⟨[(5,I i),(3,.str x),(1,.ax 0 0)],[(0,⟨27,0,eH p⟩)],1⟩
def J91c (p:Pg)(X:ByteArray)(n:Nat)(s:St):Prop:=∃ (i:Nat) (x:ByteArray),n=p.fs.length-i∧i≤p.fs.length∧x++jR Gv (p.fs.drop i)=X∧s=⟨[(7,I i),(3,.str x),(1,.ax 0 0)],[(0,⟨27,0,eH p⟩)],1⟩
def J91d (p:Pg)(i:Nat)(nm:ByteArray)(ps:List Pm)(bd:List Sm)(Y:ByteArray)(n:Nat)(s:St):Prop:=∃ (q:Nat) (z:ByteArray),n=ps.length-q∧q≤ps.length∧z++vb (decide (q=0)) (ps.drop q)=Y∧s=⟨[(9,I q),(8,.ax 1 0),(7,I i),(3,.str z),(1,.ax 0 0)],[(0,⟨27,0,eH p⟩),(1,⟨192,0,fq ⟨nm,ps,bd⟩⟩)],2⟩
theorem zG (b:ByteArray):(⟨#[]⟩:ByteArray)++b=b:=ByteArray.empty_append
theorem mK (b:ByteArray):b++(⟨#[]⟩:ByteArray)=b:=ByteArray.append_empty
set_option maxHeartbeats 8000000 in
theorem AJ (p:Pg)(O9:(Fy p).size≤1000000)(h1:p.gs.length≤100)(h2:p.ms.length≤100)(h3:p.fs.length≤100)(hg:∀ g∈p.gs,-1000≤g.init∧g.init≤1000)(hm:∀ m∈p.ms,m.size≤1000)
  (hf:∀ f∈p.fs,f.params.length≤100∧af Tryz.prog 262 [.aA (bx f.body) f.body.length,.str ⟨#[9]⟩] (.str (jy ⟨#[9]⟩ f.body))):af Tryz.prog 202 [xJ p] (.str (Fy p)):=by
 obtain⟨X,hX⟩:∃ X,Fy p=X:=⟨_,rfl⟩;rw[hX] at O9 ⊢;unfold Fy at hX;have fg:=fun (k:Nat) (a:Gl) (h:p.gs[k]? = some a)=>aN (f:=px) (n:=2) (fun _=>rfl) h;have fg1:=fun (k:Nat) (a:Gl) (h:p.gs[k]? = some a)=>bQ (f:=px) (n:=2) (fun _=>rfl) h 1 yA;have fm:=fun (k:Nat) (a:Mx) (h:p.ms[k]? = some a)=>aN (f:=eJ) (n:=3) (fun _=>rfl) h;have ff:=fun (k:Nat) (a:Fu) (h:p.fs[k]? = some a)=>aN (f:=fq) (n:=3) (fun _=>rfl) h;refine af.aK ai Tryz.func202 rfl OV (by simp[Tryz.ntmps202]) rfl fun C hC O0=>?_;rw[Tryz.ntmps202] at hC;apply aq;simp[hC,xJ,eH];apply aq;simp[hC];refine T.cut (fun s=>∃ x,x++(jR KC p.ms++jR Gv p.fs)=X∧s=⟨[(3,.str x),(1,.ax 0 0)],[(0,⟨27,0,eH p⟩)],1⟩) ?_ ?_
 ·apply aq;simp[hC];apply T.block;refine T.aH (J91a p X) (n:=p.gs.length) ?_ ?_
  ·refine ae.trim [4,3,1] [0] 1 OU yA ⟨0,⟨#[]⟩,by omega,by omega,?_,?_⟩
   ·rw[zG];exact hX
   ·simp[eH]
  ·rintro n s ⟨i,x,rfl,hi,hx,rfl⟩;by_cases OX:i<p.gs.length
   ·obtain⟨a,PS⟩:∃ a,p.gs[i]? = some a:=⟨p.gs[i],List.getElem?_eq_getElem OX⟩;have OZ:=fg i a PS;have QP:=fg1 i a PS;have Pj:=hg a (List.mem_of_getElem? PS);have wi:=cC ((i:Int)+1) yA yA;have hd:p.gs.drop i=a::p.gs.drop (i+1):=by
     rw[List.drop_eq_getElem_cons OX,(List.getElem?_eq_some_iff.1 PS).2]
    rw[hd,jR] at hx;have hz:=congrArg ByteArray.size hx;simp only[LI,Am,ByteArray.size_append] at hz;have s0:=aB x ⟨#[118,97,114,32]⟩ yA;have s1:=aB (x++⟨#[118,97,114,32]⟩) a.name TF;apply aO;simp[hC,OX,eH];refine fB ?_;simp;apply ed;apply aq;simp[hC,OX,OZ,px,s0,s1];by_cases h0:a.init=0
    ·rw[if_pos h0] at hz;have s2:=aB (x++⟨#[118,97,114,32]⟩++a.name) ⟨#[59,10]⟩ TF;apply aO;simp[hC,OX,OZ,px,h0];refine gw ?_;simp;apply aV;simp[hC,s2];apply aV;simp[hC,wi];refine⟨p.gs.length-(i+1),by omega,?_⟩;refine ae.trim [4,3,1] [0] 1 OU yA ⟨i+1,x++⟨#[118,97,114,32]⟩++a.name++⟨#[59,10]⟩,rfl,by omega,?_,?_⟩
     ·rw[← hx,LI,if_pos h0,mK];simp only[Am,ByteArray.append_assoc]
     ·simp[eH]
    ·rw[if_neg h0] at hz;simp only[G9,ByteArray.size_append] at hz;have ZV:(a.init != 0)=true:=by simp[h0]
     have s2:=aB (x++⟨#[118,97,114,32]⟩++a.name) ⟨#[32,61,32]⟩ TF;have s3:=aB (x++⟨#[118,97,114,32]⟩++a.name++⟨#[32,61,32]⟩) (lj a.init) TF;have s4:=aB (x++⟨#[118,97,114,32]⟩++a.name++⟨#[32,61,32]⟩++lj a.init) ⟨#[59,10]⟩ TF;apply aO;simp[hC,OX,OZ,px,ZV];refine fE ?_;simp;apply aV;simp[hC,OX,OZ,px,s2];refine dz Pc (pP a.init yA yA) ?_;simp[hC,s3];apply aV;simp[hC,s4];apply aV;simp[hC,wi];refine⟨p.gs.length-(i+1),by omega,?_⟩;refine ae.trim [4,3,1] [0] 1 OU yA ⟨i+1,x++⟨#[118,97,114,32]⟩++a.name++⟨#[32,61,32]⟩++lj a.init++⟨#[59,10]⟩,rfl,by omega,?_,?_⟩
     ·rw[← hx,LI,if_neg h0];simp only[Am,G9,ByteArray.append_assoc]
     ·simp[eH]
   ·have O6:i=p.gs.length:=by omega
    rw[O6,List.drop_length,jR,zG] at hx;apply aO;simp[hC,OX,eH];refine a7 ?_;simp;apply T.exit;simp;refine ae.trim [3,1] [0] 1 OU yA ⟨x,hx,?_⟩;simp
 rintro s ⟨x0,XS,rfl⟩;clear hX;refine T.cut (fun s=>∃ x,x++jR Gv p.fs=X∧s=⟨[(3,.str x),(1,.ax 0 0)],[(0,⟨27,0,eH p⟩)],1⟩) ?_ ?_
 ·apply aq;simp[hC];apply T.block;refine T.aH (J91b p X) (n:=p.ms.length) ?_ ?_
  ·refine ae.trim [5,3,1] [0] 1 SY yA ⟨0,x0,by omega,by omega,XS,?_⟩;simp
  ·rintro n s ⟨i,x,rfl,hi,hx,rfl⟩;by_cases OX:i<p.ms.length
   ·obtain⟨a,PS⟩:∃ a,p.ms[i]? = some a:=⟨p.ms[i],List.getElem?_eq_getElem OX⟩;have OZ:=fm i a PS;have Pj:=hm a (List.mem_of_getElem? PS);have wi:=cC ((i:Int)+1) yA yA;have hd:p.ms.drop i=a::p.ms.drop (i+1):=by
     rw[List.drop_eq_getElem_cons OX,(List.getElem?_eq_some_iff.1 PS).2]
    rw[hd,jR,KC] at hx;have hz:=congrArg ByteArray.size hx;simp only[ByteArray.size_append] at hz;apply aO;simp[hC,OX,eH];refine fB ?_;simp;apply ed;apply aq;simp[hC,OX,OZ,eJ];obtain⟨y,hy⟩:∃ y,x++(if a.re=true then ⟨#[114]⟩ else ⟨#[]⟩)=y:=⟨_,rfl⟩;have Ys:y.size=x.size+(if a.re=true then (⟨#[114]⟩:ByteArray) else ⟨#[]⟩).size:=by rw[← hy,ByteArray.size_append]
    have hyX:y.size≤1000000:=by omega
    refine T.cut (fun s=>s=⟨[(6,.ax 1 0),(5,I i),(3,.str y),(1,.ax 0 0)],[(0,⟨27,0,eH p⟩),(1,⟨93,0,eJ a⟩)],2⟩) ?_ ?_
    ·apply aq;simp[hC];refine T.cond (b:=a.re) rfl ?_
     cases Rt:a.re with
     | true=>
      rw[Rt,if_pos rfl] at hy Ys;have s0:=aB x ⟨#[114]⟩ yA;simp;apply aV;simp[hC,s0];refine ae.trim [6,5,3,1] [0,1] 2 OU yA ?_;simp[← hy,eJ,Rt,eH]
     | false=>
      rw[Rt,if_neg OU,mK] at hy;simp;apply T.skip;simp;refine ae.trim [6,5,3,1] [0,1] 2 OU yA ?_;simp[← hy,eJ,Rt,eH]
    rintro s rfl;have s1:=aB y ⟨#[109,117,116,101,120,32]⟩ yA;have s2:=aB (y++⟨#[109,117,116,101,120,32]⟩) a.name TF;apply aq;simp[hC,s1,s2,eJ];have RI:y++(⟨#[109,117,116,101,120,32]⟩++a.name++(if a.size=0 then ⟨#[]⟩ else ⟨#[91]⟩++lj a.size++⟨#[93]⟩)++⟨#[59,10]⟩++(jR KC (p.ms.drop (i+1))++jR Gv p.fs))=X:=by
     rw[← hx,← hy];simp only[ByteArray.append_assoc]
    by_cases h0:a.size=0
    ·rw[if_pos h0] at hz RI;have s3:=aB (y++⟨#[109,117,116,101,120,32]⟩++a.name) ⟨#[59,10]⟩ TF;apply aO;simp[hC,h0];refine gw ?_;simp;apply aV;simp[hC,s3];apply aV;simp[hC,wi];refine⟨p.ms.length-(i+1),by omega,?_⟩;refine ae.trim [5,3,1] [0] 1 SY yA ⟨i+1,y++⟨#[109,117,116,101,120,32]⟩++a.name++⟨#[59,10]⟩,rfl,by omega,?_,?_⟩
     ·rw[← RI,mK];simp only[ByteArray.append_assoc]
     ·simp[eH]
    ·rw[if_neg h0] at hz RI;simp only[ByteArray.size_append] at hz;have ZV:0<a.size:=by omega
     have s3:=aB (y++⟨#[109,117,116,101,120,32]⟩++a.name) ⟨#[91]⟩ TF;have s4:=aB (y++⟨#[109,117,116,101,120,32]⟩++a.name++⟨#[91]⟩) (lj a.size) TF;have s5:=aB (y++⟨#[109,117,116,101,120,32]⟩++a.name++⟨#[91]⟩++lj a.size) ⟨#[93]⟩ TF;have s6:=aB (y++⟨#[109,117,116,101,120,32]⟩++a.name++⟨#[91]⟩++lj a.size++⟨#[93]⟩) ⟨#[59,10]⟩ TF;apply aO;simp[hC,ZV];refine fE ?_;simp;apply aV;simp[hC,s3];refine dz Pc (pP (a.size:Int) yA yA) ?_;simp[hC,s4,s5];apply aV;simp[hC,s6];apply aV;simp[hC,wi];refine⟨p.ms.length-(i+1),by omega,?_⟩;refine ae.trim [5,3,1] [0] 1 SY yA ⟨i+1,y++⟨#[109,117,116,101,120,32]⟩++a.name++⟨#[91]⟩++lj a.size++⟨#[93]⟩++⟨#[59,10]⟩,rfl,by omega,?_,?_⟩
     ·rw[← RI];simp only[ByteArray.append_assoc]
     ·simp[eH]
   ·have O6:i=p.ms.length:=by omega
    rw[O6,List.drop_length,jR,zG] at hx;apply aO;simp[hC,OX,eH];refine a7 ?_;simp;apply T.exit;simp;refine ae.trim [3,1] [0] 1 OU yA ⟨x,hx,?_⟩;simp
 rintro s ⟨x1,hx1,rfl⟩;clear XS;refine T.cut (fun s=>s=⟨[(3,.str X),(1,.ax 0 0)],[(0,⟨27,0,eH p⟩)],1⟩) ?_ ?_
 ·apply aq;simp[hC];apply T.block;refine T.aH (J91c p X) (n:=p.fs.length) ?_ ?_
  ·refine ae.trim [7,3,1] [0] 1 SY yA ⟨0,x1,by omega,by omega,hx1,?_⟩;simp
  ·rintro n s ⟨i,x,rfl,hi,hx,rfl⟩;by_cases OX:i<p.fs.length
   ·obtain⟨a,PS⟩:∃ a,p.fs[i]? = some a:=⟨p.fs[i],List.getElem?_eq_getElem OX⟩;have OZ:=ff i a PS;obtain⟨PR,O7⟩:=hf a (List.mem_of_getElem? PS);have wi:=cC ((i:Int)+1) yA yA;have hd:p.fs.drop i=a::p.fs.drop (i+1):=by
     rw[List.drop_eq_getElem_cons OX,(List.getElem?_eq_some_iff.1 PS).2]
    rw[hd,jR,Gv] at hx;obtain⟨nm,ps,bd⟩:=a;simp only at hx PR O7;have hz:=congrArg ByteArray.size hx;simp only[ByteArray.size_append] at hz;obtain⟨y,hy⟩:∃ y,x++⟨#[102,117,110,99,32]⟩++nm++⟨#[40]⟩=y:=⟨_,rfl⟩;have Ys:y.size=x.size+(⟨#[102,117,110,99,32]⟩:ByteArray).size+nm.size+(⟨#[40]⟩:ByteArray).size:=by rw[← hy];simp only[ByteArray.size_append]
    obtain⟨Y,hY⟩:∃ Y,y++vb true ps=Y:=⟨_,rfl⟩;have hYs:Y.size=y.size+(vb true ps).size:=by rw[← hY,ByteArray.size_append]
    have RI:Y++(⟨#[41,32,123,10]⟩++jy qi bd++⟨#[125,10]⟩++jR Gv (p.fs.drop (i+1)))=X:=by
     rw[← hx,← hY,← hy];simp only[ByteArray.append_assoc]
    have s0:=aB x ⟨#[102,117,110,99,32]⟩ yA;have s1:=aB (x++⟨#[102,117,110,99,32]⟩) nm TF;have s2:=aB (x++⟨#[102,117,110,99,32]⟩++nm) ⟨#[40]⟩ TF;rw[hy] at s2;apply aO;simp[hC,OX,eH];refine fB ?_;simp;apply ed;apply aq;simp[hC,OX,OZ,fq];apply aq;simp[hC,s0,s1,s2];refine T.cut (fun s=>s=⟨[(8,.ax 1 0),(7,I i),(3,.str Y),(1,.ax 0 0)],[(0,⟨27,0,eH p⟩),(1,⟨192,0,fq ⟨nm,ps,bd⟩⟩)],2⟩) ?_ ?_
    ·apply aq;simp[hC];apply T.block;refine T.aH (J91d p i nm ps bd Y) (n:=ps.length) ?_ ?_
     ·refine ae.trim [9,8,7,3,1] [0,1] 2 OU yA ⟨0,y,by omega,by omega,hY,?_⟩;simp[fq,eH]
     ·rintro n s ⟨q,z,rfl,hq,Yr,rfl⟩;by_cases QW:q<ps.length
      ·obtain⟨b,Vp⟩:∃ b,ps[q]? = some b:=⟨ps[q],List.getElem?_eq_getElem QW⟩;have hp0:=aN (f:=lh) (n:=2) (fun _=>rfl) Vp;have UK:=bQ (f:=lh) (n:=2) (fun _=>rfl) Vp 1 yA;have wq:=cC ((q:Int)+1) yA yA;have Ti:ps.drop q=b::ps.drop (q+1):=by
        rw[List.drop_eq_getElem_cons QW,(List.getElem?_eq_some_iff.1 Vp).2]
       rw[Ti,vb] at Yr;have hz3:=congrArg ByteArray.size Yr;simp only[ByteArray.size_append] at hz3;apply aO;simp[hC,QW,fq];refine fB ?_;simp;apply ed;obtain⟨u,hu⟩:∃ u,z++(if decide (q=0)=true then ⟨#[]⟩ else ⟨#[44,32]⟩)=u:=⟨_,rfl⟩;have Ux:u.size=z.size+(if decide (q=0)=true then (⟨#[]⟩:ByteArray) else ⟨#[44,32]⟩).size:=by rw[← hu,ByteArray.size_append]
       obtain⟨v,hv⟩:∃ v,u++(if b.mutex=true then ⟨#[109,117,116,101,120,32]⟩ else ⟨#[]⟩)=v:=⟨_,rfl⟩;have hvs:v.size=u.size+(if b.mutex=true then (⟨#[109,117,116,101,120,32]⟩:ByteArray) else ⟨#[]⟩).size:=by rw[← hv,ByteArray.size_append]
       have hvX:v.size≤1000000:=by omega
       have huX:u.size≤1000000:=by omega
       refine T.cut (fun s=>s=⟨[(9,I q),(8,.ax 1 0),(7,I i),(3,.str u),(1,.ax 0 0)],[(0,⟨27,0,eH p⟩),(1,⟨192,0,fq ⟨nm,ps,bd⟩⟩)],2⟩) ?_ ?_
       ·apply aq;simp[hC];by_cases hq0:q=0
        ·have Vp:¬ 0<q:=by omega
         simp only[hq0,decide_true,if_true,mK] at hu;simp only[Vp,decide_false];refine gw ?_;simp;refine ae.trim [9,8,7,3,1] [0,1] 2 SY yA ?_;simp[hu,fq,eH]
        ·have Vp:0<q:=by omega
         have e0:decide (q=0)=false:=by simp[hq0]
         rw[e0] at hu Ux;simp only[Bool.false_eq_true,if_false] at hu Ux;have t0:=aB z ⟨#[44,32]⟩ yA;rw[hu] at t0;simp only[Vp,decide_true];refine fE ?_;simp;apply aV;simp[hC,t0];refine ae.trim [9,8,7,3,1] [0,1] 2 SY yA ?_;simp[fq,eH]
       rintro s rfl;refine T.cut (fun s=>s=⟨[(9,I q),(8,.ax 1 0),(7,I i),(3,.str v),(1,.ax 0 0)],[(0,⟨27,0,eH p⟩),(1,⟨192,0,fq ⟨nm,ps,bd⟩⟩)],2⟩) ?_ ?_
       ·apply aq;simp[hC,QW,UK,lh,fq];refine T.cond (b:=b.mutex) rfl ?_
        cases ZI:b.mutex with
        | true=>
         rw[ZI,if_pos rfl] at hv hvs;have t0:=aB u ⟨#[109,117,116,101,120,32]⟩ yA;rw[hv] at t0;simp;apply aV;simp[hC,t0];refine ae.trim [9,8,7,3,1] [0,1] 2 SY yA ?_;simp[eH]
        | false=>
         rw[ZI,if_neg OU,mK] at hv;simp;apply T.skip;simp;refine ae.trim [9,8,7,3,1] [0,1] 2 SY yA ?_;simp[hv,eH]
       rintro s rfl;have t1:=aB v b.name yA;apply aV;simp[hC,QW,hp0,lh,fq,t1];apply aV;simp[hC,wq];refine⟨ps.length-(q+1),by omega,?_⟩;refine ae.trim [9,8,7,3,1] [0,1] 2 SY yA ⟨q+1,v++b.name,rfl,by omega,?_,?_⟩
       ·rw[← Yr,← hv,← hu];simp only[ByteArray.append_assoc];simp
       ·simp[fq,eH]
      ·have O6:q=ps.length:=by omega
       rw[O6,List.drop_length,vb,mK] at Yr;subst Yr;apply aO;simp[hC,QW,fq];refine a7 ?_;simp;apply T.exit;simp;refine ae.trim [8,7,3,1] [0,1] 2 SY yA ?_;simp[eH]
    rintro s rfl;have t0:=aB Y ⟨#[41,32,123,10]⟩ yA;have t1:=aB (Y++⟨#[41,32,123,10]⟩) (jy ⟨#[9]⟩ bd) yCz;have t2:=aB (Y++⟨#[41,32,123,10]⟩++jy ⟨#[9]⟩ bd) ⟨#[125,10]⟩ yCz;apply aV;simp[hC,t0,fq];refine dz Pc (O7) ?_;simp[hC,t1,t2];apply aV;simp[hC,wi];refine⟨p.fs.length-(i+1),by omega,?_⟩;refine ae.trim [7,3,1] [0] 1 SY yA ⟨i+1,Y++⟨#[41,32,123,10]⟩++jy ⟨#[9]⟩ bd++⟨#[125,10]⟩,rfl,by omega,?_,?_⟩
    ·rw[← RI];simp only[ByteArray.append_assoc];rfl
    ·simp[eH]
   ·have O6:i=p.fs.length:=by omega
    rw[O6,List.drop_length,jR,mK] at hx;subst hx;apply aO;simp[hC,OX,eH];refine a7 ?_;simp;apply T.exit;simp;refine ae.trim [3,1] [0] 1 OU yA ?_;simp
 rintro s rfl;apply aq;simp[hC];apply T.ret;apply ae.here;simp[Tryz.results202]
theorem ug:∀ s∈nG++nM++nF++nP,bs s∉rV:=by decide
theorem Mz (k:Nat)(hk:k<24):bs (fG k)∉rV:=by
 rw[gx];exact (by decide:∀ k,k<24→[118,UInt8.ofNat (97+k % 26),UInt8.ofNat (97+k / 26 % 26)]∉rV) k hk
theorem Ad (k:Nat)(hk:k<24):mO (fG k):=by
 refine⟨⟨⟨118,_,gx k,by decide⟩,?_,by rw[gx];simp⟩,Mz k hk⟩;rw[gx];exact (by decide:∀ k,k<24→List.all [118,UInt8.ofNat (97+k % 26),UInt8.ofNat (97+k / 26 % 26)] fK=true) k hk
theorem _root_.Go.aP.kC.gR {p:Pg}(h:kC p):∀ g∈p.gs,mO g.name:=fun g hg=>⟨h.ng g hg,by
 obtain⟨k,_,hk⟩:=h.gn;have:=List.mem_map_of_mem (f:=(·.name)) hg;rw[hk] at this;exact ug _ (by simp only[List.mem_append];exact .inl (.inl (.inl (List.mem_of_mem_take this))))⟩
theorem _root_.Go.aP.kC.mR {p:Pg}(h:kC p):∀ g∈p.ms,mO g.name:=fun g hg=>⟨h.nm g hg,by
 obtain⟨k,_,_,hk⟩:=h.mn;have:=List.mem_map_of_mem (f:=(·.name)) hg;rw[hk] at this;exact ug _ (by simp only[List.mem_append];exact .inl (.inl (.inr (List.mem_of_mem_take this))))⟩
theorem _root_.Go.aP.kC.fR {p:Pg}(h:kC p):∀ g∈p.fs,mO g.name:=fun g hg=>⟨h.nf g hg,by
 obtain⟨k,_,_,hk⟩:=h.fn;have:=List.mem_map_of_mem (f:=(·.name)) hg;rw[hk] at this;exact ug _ (by simp only[List.mem_append];exact .inl (.inr (List.mem_of_mem_take this)))⟩
theorem _root_.Go.aP.kC.pR {p:Pg}(h:kC p):∀ f∈p.fs,∀ q∈f.params,mO q.name:=fun f hf q hq=>⟨h.np f hf q hq,by
 obtain⟨k,_,hk⟩:=h.pn f hf;have:=List.mem_map_of_mem (f:=(·.name)) hq;rw[hk,List.mem_reverse] at this;exact ug _ (by simp only[List.mem_append];exact .inr (List.mem_of_mem_take this))⟩
theorem _root_.Go.aP.kC.vR {p:Pg}(h:kC p):∀ f∈p.fs,∀ s∈jJ p.gs f.params,mO s:=fun f hf s hs=>by
 rcases vh hs with hs | hs
 ·rw[List.mem_map] at hs;obtain⟨g,hg,rfl⟩:=hs;exact h.gR g hg
 ·rw[List.mem_map] at hs;obtain⟨g,hg,rfl⟩:=hs;exact h.pR f hf g hg
theorem _root_.Go.aP.kC.pl {p:Pg}(h:kC p):∀ f∈p.fs,f.params.length≤2:=fun f hf=>by
 obtain⟨k,hk,Rw⟩:=h.pn f hf;have:=congrArg List.length Rw;simp[nP] at this;omega
theorem J2 (s:Sm):2≤eB s:=by cases s<;>simp only[eB]<;>omega
theorem j5:∀ l:List Sm,2*l.length≤bO l
 | []=>by simp[bO]
 | s::r=>by
  have:=j5 r;have:=J2 s;simp only[bO,List.length_cons];omega
def OkF (deep:Nat)(s:Sm):Prop:=match s with
 | .g6 nm e=>mO nm∧af Tryz.prog 257 [.agg (bR e)] (.bool true)
 | .iD nm e=>mO nm∧af Tryz.prog 257 [.agg (bR e)] (.bool true)
 | .ef _ nm al=>mO nm∧al.length≤1000∧∀ a∈al,okA a
 | .dA _ r=>RfR r
 | .lE e th el=>af Tryz.prog 257 [.agg (bR e)] (.bool true)∧af Tryz.prog 201 [.aA (bx th) th.length,I ((deep+1:Nat))] (.bool true)∧af Tryz.prog 201 [.aA (bx el) el.length,I ((deep+1:Nat))] (.bool true)
 | .cJ e th=>af Tryz.prog 257 [.agg (bR e)] (.bool true)∧af Tryz.prog 201 [.aA (bx th) th.length,I ((deep+1:Nat))] (.bool true)
 | .jF=>True
theorem mf {l:List Sm}{deep:Nat}(hd:deep<20)(hl:l.length≤100000)(h:∀ s∈l,OkF deep s):af Tryz.prog 201 [.aA (bx l) l.length,I deep] (.bool true):=
 zi l deep hd hl fun s hs=>by
  have:=h s hs;cases s<;>exact this
section
variable {ms:List Mx}{fs:List (ByteArray×List Pm)}{ps:List Pm}(Qx:∀ m∈ms,mO m.name)(Q4:∀ x∈fs,mO x.1)(PO:∀ x∈fs,x.2.length≤2)(QN:∀ q∈ps,mO q.name)
include Qx QN
theorem rf_R {V:List ByteArray}(hV:∀ x∈V,mO x){r:Rf}(h:Gy ms ps V r):RfR r:=by
 rcases h with ⟨m,hm,hn,hi⟩ | ⟨q,hq,_,hn,hi⟩
 ·refine⟨by rw[hn];exact Qx m hm,fun e he=>?_⟩;rcases hi with ⟨hi,_⟩ | ⟨e',hi,_,hw⟩
  ·rw[hi] at he;cases he
  ·rw[hi] at he;cases he;exact fT hV 1 _ yA hw
 ·exact⟨by rw[hn];exact QN q hq,fun e he=>by rw[hi] at he;cases he⟩
theorem LX {V:List ByteArray}(hV:∀ x∈V,mO x):∀ {gp:List Pm} {l:List Ar},jw ms ps V gp l→∀ a∈l,okA a
 | [],[],_=>by simp
 | q::gp,a::l,h=>by
  simp only[jw] at h;intro x hx;rcases List.mem_cons.1 hx with rfl | hx
  ·cases x with
   | vm r=>exact rf_R Qx QN hV h.1.2
   | exp e=>exact fT hV 2 _ yA h.1.2
  ·exact LX hV h.2 x hx
 | [],_::_,h=>h.elim
 | _::_,[],h=>h.elim
theorem rf_T {V:List ByteArray}(hV:∀ x∈V,mO x){r:Rf}(h:Gy ms ps V r):NO r:=by
 have Xz:∀ x∈V,dn x:=fun x hx=>(hV x hx).1;have hz:∀ s:ByteArray,dn s→s.size≤100:=fun s hs=>by
  have:=hs.2.2;rw[lC] at this;omega
 rcases h with ⟨m,hm,hn,hi⟩ | ⟨q,hq,_,hn,hi⟩
 ·refine⟨by rw[hn];exact hz _ (Qx m hm).1,fun e he=>?_⟩;rcases hi with ⟨hi,_⟩ | ⟨e',hi,_,hw⟩
  ·rw[hi] at he;cases he
  ·rw[hi] at he;cases he;exact⟨oC Xz 1 _ yA hw,lX Xz (d:=1) yA hw⟩
 ·exact⟨by rw[hn];exact hz _ (QN q hq).1,fun e he=>by rw[hi] at he;cases he⟩
theorem LW {V:List ByteArray}(hV:∀ x∈V,mO x):∀ {gp:List Pm} {l:List Ar},jw ms ps V gp l→∀ a∈l,TxA a
 | [],[],_=>by simp
 | q::gp,a::l,h=>by
  simp only[jw] at h;intro x hx;rcases List.mem_cons.1 hx with rfl | hx
  ·cases x with
   | vm r=>exact rf_T Qx QN hV h.1.2
   | exp e=>
    have Xz:∀ x∈V,dn x:=fun x hx=>(hV x hx).1;exact⟨oC Xz 2 _ yA h.1.2,lX Xz (d:=2) yA h.1.2⟩
  ·exact LW hV h.2 x hx
 | [],_::_,h=>h.elim
 | _::_,[],h=>h.elim
include Q4 PO
theorem AP:(∀ s:Sm,∀ d V deep,(∀ x∈V,mO x)→deep+d<20→dU ms fs ps d V s→eB s≤2000→OkF deep s)∧
  (∀ l:List Sm,∀ d V deep,(∀ x∈V,mO x)→deep+d<20→cR ms fs ps d V l→bO l≤2000→∀ s∈l,OkF deep s):=by
 let M1:Sm→Prop:=fun s=>∀ d V deep,(∀ x∈V,mO x)→deep+d<20→dU ms fs ps d V s→eB s≤2000→OkF deep s
 let M2:List Sm→Prop:=fun l=>∀ d V deep,(∀ x∈V,mO x)→deep+d<20→cR ms fs ps d V l→bO l≤2000→∀ s∈l,OkF deep s
 have Vj:∀ k,k<24→mO (fG k):=Ad;have A1:∀ (s:ByteArray) (e:Ex),M1 (.g6 s e):=by
  intro s e d V deep hV _ hw _;simp only[dU] at hw;obtain⟨⟨k,hk,rfl⟩,_,he⟩:=hw;exact⟨Vj k hk,fT hV 2 _ yA he⟩
 have A2:∀ (s:ByteArray) (e:Ex),M1 (.iD s e):=by
  intro s e d V deep hV _ hw _;simp only[dU] at hw;exact⟨hV s hw.1,fT hV 2 _ yA hw.2⟩
 have A3:∀ (g:Bool) (s:ByteArray) (l:List Ar),M1 (.ef g s l):=by
  intro g s l d V deep hV _ hw hk;simp only[dU] at hw;obtain⟨gp,h1,h2⟩:=hw;have:=h2.len;have:=PO _ h1;simp only at this;exact⟨Q4 _ h1,by omega,LX Qx QN hV h2⟩
 have A4:∀ (u:Bool) (r:Rf),M1 (.dA u r):=by
  intro u r d V deep hV _ hw _;simp only[dU] at hw;exact rf_R Qx QN hV hw
 have A5:∀ (e:Ex) (th el:List Sm),M2 th→M2 el→M1 (.lE e th el):=by
  intro e th el i1 i2 d V deep hV hd hw hk
  cases d with
  | zero=>simp[dU] at hw
  | succ d=>
   simp only[dU] at hw;simp only[eB] at hk;have l1:=j5 th;have l2:=j5 el;exact⟨fT hV 2 _ yA hw.1,mf yA yA (i1 d V _ hV yA hw.2.1 yA),mf yA yA (i2 d V _ hV yA hw.2.2 yA)⟩
 have A6:∀ (e:Ex) (th:List Sm),M2 th→M1 (.cJ e th):=by
  intro e th i1 d V deep hV hd hw hk
  cases d with
  | zero=>simp[dU] at hw
  | succ d=>
   simp only[dU] at hw;simp only[eB] at hk;have l1:=j5 th;exact⟨fT hV 2 _ yA hw.1,mf yA yA (i1 d V _ hV yA hw.2 yA)⟩
 have A7:M1 .jF:=fun _ _ _ _ _ _ _=>trivial;have A0:M2 []:=fun _ _ _ _ _ _ _ s hs=>by simp at hs
 have A8:∀ (s:Sm) (r:List Sm),M1 s→M2 r→M2 (s::r):=by
  intro s r i1 i2 d V deep hV hd hw hk x hx;simp only[cR] at hw;simp only[bO] at hk;have ZM:∀ x∈V++dZ s,mO x:=by
   intro x hx;rcases List.mem_append.1 hx with hx | hx
   ·exact hV x hx
   ·cases s<;>simp only[dZ,List.mem_singleton,List.not_mem_nil] at hx;subst hx;have:=hw.1;simp only[dU] at this;obtain⟨⟨j,hj,rfl⟩,_⟩:=this;exact Vj j hj
  rcases List.mem_cons.1 hx with rfl | hx
  ·exact i1 d V deep hV hd hw.1 yA
  ·exact i2 d _ deep ZM hd hw.2 yA x hx
 exact⟨fun s=>Sm.rec (motive_1:=M1) (motive_2:=M2) A1 A2 A3 A4 A5 A6 A7 A0 A8 s,fun l=>Sm.rec_1 (motive_1:=M1) (motive_2:=M2) A1 A2 A3 A4 A5 A6 A7 A0 A8 l⟩
theorem FN:(∀ s:Sm,∀ d V OW,(∀ x∈V,mO x)→gN d OW→dU ms fs ps d V s→eB s≤2000→TxS OW s)∧
  (∀ l:List Sm,∀ d V OW,(∀ x∈V,mO x)→gN d OW→cR ms fs ps d V l→bO l≤2000→∀ s∈l,TxS OW s):=by
 let M1:Sm→Prop:=fun s=>∀ d V OW,(∀ x∈V,mO x)→gN d OW→dU ms fs ps d V s→eB s≤2000→TxS OW s
 let M2:List Sm→Prop:=fun l=>∀ d V OW,(∀ x∈V,mO x)→gN d OW→cR ms fs ps d V l→bO l≤2000→∀ s∈l,TxS OW s
 have Vj:∀ k,k<24→mO (fG k):=Ad;have hz:∀ s:ByteArray,mO s→s.size≤100:=fun s hs=>by
  have:=hs.1.2.2;rw[lC] at this;omega
 have tx:∀ {V:List ByteArray} (_:∀ x∈V,mO x) {e:Ex},fS V 2 e→NQ e:=fun {V} hV {e} he=>⟨oC (fun x hx=>(hV x hx).1) 2 _ yA he,lX (fun x hx=>(hV x hx).1) (d:=2) yA he⟩;have kj:∀ (l:List Sm) (d:Nat) (V:List ByteArray) (OW:ByteArray),M2 l→(∀ x∈V,mO x)→gN d OW→cR ms fs ps d V l→bO l≤2000→af Tryz.prog 262 [.aA (bx l) l.length,.str OW] (.str (jy OW l)):=by
  intro l d V OW i1 hV ht hw hk;have hs:=((cb.lines (ms:=ms) (fs:=fs) (ps:=ps) (fun m hm=>(Qx m hm).1) (fun x hx=>(Q4 x hx).1) (fun q hq=>(QN q hq).1)).2 l d V OW (fun x hx=>(hV x hx).1) ht hw).1;rw[lC] at hs;have h2:=ht.2;rw[lC] at h2;have h3:=j5 l;exact vz l OW yA yA yA (i1 d V OW hV ht hw hk)
 have A1:∀ (s:ByteArray) (e:Ex),M1 (.g6 s e):=by
  intro s e d V OW hV _ hw _;simp only[dU] at hw;obtain⟨⟨k,hk,rfl⟩,_,he⟩:=hw;exact⟨hz _ (Vj k hk),tx hV he⟩
 have A2:∀ (s:ByteArray) (e:Ex),M1 (.iD s e):=by
  intro s e d V OW hV _ hw _;simp only[dU] at hw;exact⟨hz _ (hV s hw.1),tx hV hw.2⟩
 have A3:∀ (g:Bool) (s:ByteArray) (l:List Ar),M1 (.ef g s l):=by
  intro g s l d V OW hV _ hw hk;simp only[dU] at hw;obtain⟨gp,h1,h2⟩:=hw;have:=h2.len;have:=PO _ h1;simp only at this;exact⟨hz _ (Q4 _ h1),by omega,LW Qx QN hV h2⟩
 have A4:∀ (u:Bool) (r:Rf),M1 (.dA u r):=by
  intro u r d V OW hV _ hw _;simp only[dU] at hw;exact rf_T Qx QN hV hw
 have A5:∀ (e:Ex) (th el:List Sm),M2 th→M2 el→M1 (.lE e th el):=by
  intro e th el i1 i2 d V OW hV ht hw hk
  cases d with
  | zero=>simp[dU] at hw
  | succ d=>
   simp only[dU] at hw;simp only[eB] at hk;exact⟨tx hV hw.1,kj th d V _ i1 hV ht.FH hw.2.1 yA,kj el d V _ i2 hV ht.FH hw.2.2 yA⟩
 have A6:∀ (e:Ex) (th:List Sm),M2 th→M1 (.cJ e th):=by
  intro e th i1 d V OW hV ht hw hk
  cases d with
  | zero=>simp[dU] at hw
  | succ d=>
   simp only[dU] at hw;simp only[eB] at hk;exact⟨tx hV hw.1,kj th d V _ i1 hV ht.FH hw.2 yA⟩
 have A7:M1 .jF:=fun _ _ _ _ _ _ _=>trivial;have A0:M2 []:=fun _ _ _ _ _ _ _ s hs=>by simp at hs
 have A8:∀ (s:Sm) (r:List Sm),M1 s→M2 r→M2 (s::r):=by
  intro s r i1 i2 d V OW hV hd hw hk x hx;simp only[cR] at hw;simp only[bO] at hk;have ZM:∀ x∈V++dZ s,mO x:=by
   intro x hx;rcases List.mem_append.1 hx with hx | hx
   ·exact hV x hx
   ·cases s<;>simp only[dZ,List.mem_singleton,List.not_mem_nil] at hx;subst hx;have:=hw.1;simp only[dU] at this;obtain⟨⟨j,hj,rfl⟩,_⟩:=this;exact Vj j hj
  rcases List.mem_cons.1 hx with rfl | hx
  ·exact i1 d V OW hV hd hw.1 yA
  ·exact i2 d _ OW ZM hd hw.2 yA x hx
 exact⟨fun s=>Sm.rec (motive_1:=M1) (motive_2:=M2) A1 A2 A3 A4 A5 A6 A7 A0 A8 s,fun l=>Sm.rec_1 (motive_1:=M1) (motive_2:=M2) A1 A2 A3 A4 A5 A6 A7 A0 A8 l⟩
end
section
variable {p:Pg}(h:kC p)
include h
theorem _root_.Go.aP.kC.DH (f:Fu)(hf:f∈p.fs):bO f.body≤1152:=by
 have hw:=h.wt;have:bO f.body∈p.fs.map fun f=>bO f.body:=List.mem_map_of_mem (f:=fun f=>bO f.body) hf;have h2:∀ {l:List Nat} {a:Nat},a∈l→a≤l.sum:=fun {l a} ha=>by
  induction l with
  | nil=>simp at ha
  | cons b r ih=>
   rcases List.mem_cons.1 ha with rfl | ha
   ·simp
   ·have:=ih ha;simp only[List.sum_cons];omega
 have:=h2 this;omega
theorem _root_.Go.aP.kC.JI:(∀ x∈p.fs.map fun f=>(f.name,f.params),mO x.1)∧(∀ x∈p.fs.map fun f=>(f.name,f.params),x.2.length≤2):=by
 refine⟨fun x hx=>?_,fun x hx=>?_⟩
 ·rw[List.mem_map] at hx;obtain⟨f,hf,rfl⟩:=hx;exact h.fR f hf
 ·rw[List.mem_map] at hx;obtain⟨f,hf,rfl⟩:=hx;exact h.pl f hf
theorem _root_.Go.aP.kC.okb (f:Fu)(hf:f∈p.fs):af Tryz.prog 201 [.aA (bx f.body) f.body.length,I (0:Nat)] (.bool true):=by
 have hk:=h.DH f hf;have hl:=j5 f.body;exact mf yA yA ((AP h.mR h.JI.1 h.JI.2 (h.pR f hf)).2 f.body 2 _ 0 (h.vR f hf) yA (h.bd f hf) yA)
theorem _root_.Go.aP.kC.lnb (f:Fu)(hf:f∈p.fs):af Tryz.prog 262 [.aA (bx f.body) f.body.length,.str ⟨#[9]⟩] (.str (jy ⟨#[9]⟩ f.body)):=by
 have hk:=h.DH f hf;have hl:=j5 f.body;have ht:gN 2 ⟨#[9]⟩:=⟨by decide,by decide⟩;have hs:=((cb.lines (ms:=p.ms) (fs:=p.fs.map fun f=>(f.name,f.params)) (ps:=f.params) (fun m hm=>(h.mR m hm).1) (fun x hx=>(h.JI.1 x hx).1) (fun q hq=>(h.pR f hf q hq).1)).2 f.body 2 _ ⟨#[9]⟩ (fun x hx=>(h.vR f hf x hx).1) ht (h.bd f hf)).1;rw[lC] at hs;exact vz f.body ⟨#[9]⟩ Pb yA yA ((FN h.mR h.JI.1 h.JI.2 (h.pR f hf)).2 f.body 2 _ _ (h.vR f hf) ht (h.bd f hf) yA)
end
def J57a (p:Pg)(n:Nat)(s:St):Prop:=∃ i:Nat,n=p.gs.length-i∧i≤p.gs.length∧s=⟨[(3,I i),(1,.ax 0 0)],[(0,⟨27,0,eH p⟩)],1⟩
def J57b (p:Pg)(n:Nat)(s:St):Prop:=∃ i:Nat,n=p.ms.length-i∧i≤p.ms.length∧s=⟨[(4,I i),(1,.ax 0 0)],[(0,⟨27,0,eH p⟩)],1⟩
def J57c (p:Pg)(n:Nat)(s:St):Prop:=∃ i:Nat,n=p.fs.length-i∧i≤p.fs.length∧s=⟨[(6,I i),(1,.ax 0 0)],[(0,⟨27,0,eH p⟩)],1⟩
def J57d (p:Pg)(i:Nat)(f:Fu)(n:Nat)(s:St):Prop:=∃ q:Nat,n=f.params.length-q∧q≤f.params.length∧s=⟨[(8,I q),(7,.ax 1 0),(6,I i),(1,.ax 0 0)],[(0,⟨27,0,eH p⟩),(1,⟨192,0,fq f⟩)],2⟩
set_option maxHeartbeats 8000000 in
theorem GW (p:Pg)(h:kC p):af Tryz.prog 133 [xJ p] (.bool true):=by
 have hT:=MQ h;have hTs:(Fy p).size≤262144:=by have:=hT.2;rw[lC] at this;exact this
 obtain⟨k1,TW,e1⟩:=h.gn;obtain⟨k2,_,Ug,e2⟩:=h.mn;obtain⟨k3,_,hk3,e3⟩:=h.fn;have l1:=congrArg List.length e1;have l2:=congrArg List.length e2;have l3:=congrArg List.length e3;simp[nG] at l1;simp[nM] at l2;simp[nF] at l3;clear e1 e2 e3;have YS:=AJ p yA yA yA yA (fun g hg=>by have:=h.gi g hg;omega) (fun m hm=>by have:=(h.mz m hm).1;omega) (fun f hf=>⟨by have:=h.pl f hf;omega,h.lnb f hf⟩);have hlx:=M9 (bs (Fy p)) hT.2 hT.1;have g1:¬ (16:Int)<p.gs.length:=by omega
 have g2:¬ (12:Int)<p.ms.length:=by omega
 have g3:¬ (16:Int)<p.fs.length:=by omega
 have fg:=fun (k:Nat) (a:Gl) (h:p.gs[k]? = some a)=>aN (f:=px) (n:=2) (fun _=>rfl) h;have fg1:=fun (k:Nat) (a:Gl) (h:p.gs[k]? = some a)=>bQ (f:=px) (n:=2) (fun _=>rfl) h 1 yA;have fm:=fun (k:Nat) (a:Mx) (h:p.ms[k]? = some a)=>aN (f:=eJ) (n:=3) (fun _=>rfl) h;have ff:=fun (k:Nat) (a:Fu) (h:p.fs[k]? = some a)=>aN (f:=fq) (n:=3) (fun _=>rfl) h;refine af.aK ai Tryz.func133 rfl OV (by simp[Tryz.ntmps133]) rfl fun C hC O0=>?_;rw[Tryz.ntmps133] at hC;apply aq;simp[hC,xJ,eH];apply aO;simp[hC,g1,g2,g3];refine gw ?_;simp;refine T.cut (fun s=>s=⟨[(1,.ax 0 0)],[(0,⟨27,0,eH p⟩)],1⟩) ?_ ?_
 ·apply aq;simp[hC];apply T.block;refine T.aH (J57a p) (n:=p.gs.length) ?_ ?_
  ·refine ae.trim [3,1] [0] 1 OU yA ⟨0,by omega,by omega,?_⟩;simp[eH]
  ·rintro n s ⟨i,rfl,hi,rfl⟩;by_cases OX:i<p.gs.length
   ·obtain⟨a,PS⟩:∃ a,p.gs[i]? = some a:=⟨p.gs[i],List.getElem?_eq_getElem OX⟩;have OZ:=fg i a PS;have QP:=fg1 i a PS;have hm:=List.mem_of_getElem? PS;have hn:=jL a.name (h.gR a hm).1 (h.gR a hm).2;have Pj:(a.init == -9223372036854775808)=false:=by have:=h.gi a hm;simp;omega
    have wi:=cC ((i:Int)+1) yA yA;apply aO;simp[hC,OX,eH];refine fB ?_;simp;apply ed;apply aq;simp[hC,OX,OZ,px];refine dz Pc (hn) ?_;simp[hC,OX,OZ,Pj,px];refine gw ?_;simp;apply aV;simp[hC,wi];refine⟨p.gs.length-(i+1),by omega,?_⟩;refine ae.trim [3,1] [0] 1 OU yA ⟨i+1,rfl,by omega,?_⟩;simp[eH]
   ·apply aO;simp[hC,OX,eH];refine a7 ?_;simp;apply T.exit;simp;refine ae.trim [1] [0] 1 OU yA ?_;simp
 rintro s rfl;refine T.cut (fun s=>s=⟨[(1,.ax 0 0)],[(0,⟨27,0,eH p⟩)],1⟩) ?_ ?_
 ·apply aq;simp[hC];apply T.block;refine T.aH (J57b p) (n:=p.ms.length) ?_ ?_
  ·refine ae.trim [4,1] [0] 1 SY yA ⟨0,by omega,by omega,?_⟩;simp[eH]
  ·rintro n s ⟨i,rfl,hi,rfl⟩;by_cases OX:i<p.ms.length
   ·obtain⟨a,PS⟩:∃ a,p.ms[i]? = some a:=⟨p.ms[i],List.getElem?_eq_getElem OX⟩;have OZ:=fm i a PS;have hm:=List.mem_of_getElem? PS;have hn:=jL a.name (h.mR a hm).1 (h.mR a hm).2;have hz:=h.mz a hm;have wi:=cC ((i:Int)+1) yA yA;have z1:¬ (a.size:Int)<0:=by omega
    have z2:¬ (64:Int)<a.size:=by omega
    apply aO;simp[hC,OX,eH];refine fB ?_;simp;apply ed;apply aq;simp[hC,OX,OZ,eJ]
    cases Rt:a.re with
    | true=>
     have z3:=hz.2 Rt;apply aq;simp[hC];refine dz Pc (hn) ?_;simp[hC,z3];refine gw ?_;simp;apply aV;simp[hC,wi];refine⟨p.ms.length-(i+1),by omega,?_⟩;refine ae.trim [4,1] [0] 1 OU yA ⟨i+1,rfl,by omega,?_⟩;simp[eH]
    | false=>
     apply aq;simp[hC];refine dz Pc (hn) ?_;simp[hC,z1,z2];refine gw ?_;simp;apply aV;simp[hC,wi];refine⟨p.ms.length-(i+1),by omega,?_⟩;refine ae.trim [4,1] [0] 1 OU yA ⟨i+1,rfl,by omega,?_⟩;simp[eH]
   ·apply aO;simp[hC,OX,eH];refine a7 ?_;simp;apply T.exit;simp;refine ae.trim [1] [0] 1 OU yA ?_;simp
 rintro s rfl;refine T.cut (fun s=>s=⟨[(1,.ax 0 0)],[(0,⟨27,0,eH p⟩)],1⟩) ?_ ?_
 ·apply aq;simp[hC];apply T.block;refine T.aH (J57c p) (n:=p.fs.length) ?_ ?_
  ·refine ae.trim [6,1] [0] 1 SY yA ⟨0,by omega,by omega,?_⟩;simp[eH]
  ·rintro n s ⟨i,rfl,hi,rfl⟩;by_cases OX:i<p.fs.length
   ·obtain⟨a,PS⟩:∃ a,p.fs[i]? = some a:=⟨p.fs[i],List.getElem?_eq_getElem OX⟩;have OZ:=ff i a PS;have hm:=List.mem_of_getElem? PS;have hn:=jL a.name (h.fR a hm).1 (h.fR a hm).2;have hb:=h.okb a hm;have PR:=h.pl a hm;have wi:=cC ((i:Int)+1) yA yA;have z1:¬ (6:Int)<a.params.length:=by omega
    apply aO;simp[hC,OX,eH];refine fB ?_;simp;apply ed;apply aq;simp[hC,OX,OZ,fq];apply aO;simp[hC];refine dz Pc (hn) ?_;simp[hC,z1];refine TL.cm O5 rfl rfl rfl rfl (bN.of rfl Pc (hb)) (TL.go' ai ?_);simp[hC];refine gw ?_;simp;apply aq;simp[hC];apply T.block;refine T.aH (J57d p i a) (n:=a.params.length) ?_ ?_
    ·refine ae.trim [8,7,6,1] [0,1] 2 OU yA ⟨0,by omega,by omega,?_⟩;simp[eH,fq]
    ·rintro n s ⟨q,rfl,hq,rfl⟩;by_cases QW:q<a.params.length
     ·obtain⟨b,Vp⟩:∃ b,a.params[q]? = some b:=⟨a.params[q],List.getElem?_eq_getElem QW⟩;have hp0:=aN (f:=lh) (n:=2) (fun _=>rfl) Vp;have ZI:=List.mem_of_getElem? Vp;have R6:=jL b.name (h.pR a hm b ZI).1 (h.pR a hm b ZI).2;have wq:=cC ((q:Int)+1) yA yA;apply aO;simp[hC,QW,fq];refine fB ?_;simp;apply ed;apply aq;simp[hC,QW,hp0,lh];refine dz Pc (R6) ?_;simp[hC];refine gw ?_;simp;apply aV;simp[hC,wq];refine⟨a.params.length-(q+1),by omega,?_⟩;refine ae.trim [8,7,6,1] [0,1] 2 SY yA ⟨q+1,rfl,by omega,?_⟩;simp[eH,fq]
     ·apply aO;simp[hC,QW,fq];refine a7 ?_;simp;apply T.exit;simp;apply aV;simp[hC,wi];refine⟨p.fs.length-(i+1),by omega,?_⟩;refine ae.trim [6,1] [0] 1 SY yA ⟨i+1,rfl,by omega,?_⟩;simp[eH]
   ·apply aO;simp[hC,OX,eH];refine a7 ?_;simp;apply T.exit;simp;refine ae.trim [1] [0] 1 OU yA ?_;simp
 rintro s rfl;apply aq;simp[hC,eH];refine TL.call O5 rfl rfl (bN.of rfl (by rfl) YS) (TL.BZ ai ?_);have hTz:(Fy p).size≤1000000:=by omega
 have U6:dF (bs (Fy p))=.aA (p4 (Fy p)) (Fy p).size:=by rw[dF,lC];rfl
 rw[U6] at hlx;simp[hC,hTz];refine TL.Jm O5 rfl rfl rfl (by rfl) hlx fun r hr=>TL.go' ai ?_;obtain⟨cs,n,e,rfl⟩:=hr;simp[hC];apply aq;simp[hC];apply T.ret;apply ae.here;simp[Tryz.results133]
end Go.Proofs.YtnecpnjdonibmaaGreat
