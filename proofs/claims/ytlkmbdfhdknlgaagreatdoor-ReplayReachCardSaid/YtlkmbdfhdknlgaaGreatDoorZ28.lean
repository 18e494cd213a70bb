/- program: the text of a program. -/
import Derived.Test.YtlkmbdfhdknlgaaGreatDoorZ27
namespace Go.Proofs.YtlkmbdfhdknlgaaGreatDoor
open Go.Can Go.aN
def J91a (p:Pg)(X:ByteArray)(n:Nat)(s:St):Prop:=∃ (i:Nat) (x:ByteArray),n=p.gs.length-i∧i≤p.gs.length∧x++(jx KR (p.gs.drop i)++jx JK p.ms++jx FP p.fs)=X∧s=⟨[(4,I i),(3,.str x),(1,.aq 0 0)],[(0,⟨27,0,eC p⟩)],1⟩
def J91b (p:Pg)(X:ByteArray)(n:Nat)(s:St):Prop:=∃ (i:Nat) (x:ByteArray),n=p.ms.length-i∧i≤p.ms.length∧x++(jx JK (p.ms.drop i)++jx FP p.fs)=X∧s=⟨[(5,I i),(3,.str x),(1,.aq 0 0)],[(0,⟨27,0,eC p⟩)],1⟩
def J91c (p:Pg)(X:ByteArray)(n:Nat)(s:St):Prop:=∃ (i:Nat) (x:ByteArray),n=p.fs.length-i∧i≤p.fs.length∧x++jx FP (p.fs.drop i)=X∧s=⟨[(7,I i),(3,.str x),(1,.aq 0 0)],[(0,⟨27,0,eC p⟩)],1⟩
def J91d (p:Pg)(i:Nat)(nm:ByteArray)(ps:List Pm)(bd:List Sm)(Y:ByteArray)(n:Nat)(s:St):Prop:=∃ (q:Nat) (z:ByteArray),n=ps.length-q∧q≤ps.length∧z++uN (decide (q=0)) (ps.drop q)=Y∧s=⟨[(9,I q),(8,.aq 1 0),(7,I i),(3,.str z),(1,.aq 0 0)],[(0,⟨27,0,eC p⟩),(1,⟨109,0,eZ ⟨nm,ps,bd⟩⟩)],2⟩
theorem yT (b:ByteArray):(⟨#[]⟩:ByteArray)++b=b:=ByteArray.empty_append
theorem mw (b:ByteArray):b++(⟨#[]⟩:ByteArray)=b:=ByteArray.append_empty
set_option maxHeartbeats 8000000 in
theorem zY (p:Pg)(Oh:(ET p).size≤1000000)(h1:p.gs.length≤100)(h2:p.ms.length≤100)(h3:p.fs.length≤100)(hg:∀ g∈p.gs,-1000≤g.init∧g.init≤1000)(hm:∀ m∈p.ms,m.size≤1000)
  (hf:∀ f∈p.fs,f.params.length≤100∧ae Tryz.prog 109 [.az (bx f.body) f.body.length,.str ⟨#[9]⟩] (.str (jc ⟨#[9]⟩ f.body))):ae Tryz.prog 83 [xb p] (.str (ET p)):=by
 obtain⟨X,hX⟩:∃ X,ET p=X:=⟨_,rfl⟩;rw[hX] at Oh ⊢;unfold ET at hX;have fg:=fun (k:Nat) (a:Gl) (h:p.gs[k]? = some a)=>aD (f:=o0) (n:=2) (fun _=>rfl) h;have fg1:=fun (k:Nat) (a:Gl) (h:p.gs[k]? = some a)=>a8 (f:=o0) (n:=2) (fun _=>rfl) h 1 yA;have fm:=fun (k:Nat) (a:Mx) (h:p.ms[k]? = some a)=>aD (f:=eM) (n:=3) (fun _=>rfl) h;have ff:=fun (k:Nat) (a:Fu) (h:p.fs[k]? = some a)=>aD (f:=eZ) (n:=3) (fun _=>rfl) h;refine ae.aH af Tryz.func83 rfl N4 (by simp[Tryz.ntmps83]) rfl fun C hC N8=>?_;rw[Tryz.ntmps83] at hC;apply ai;simp[hC,xb,eC];apply ai;simp[hC];refine T.cut (fun s=>∃ x,x++(jx JK p.ms++jx FP p.fs)=X∧s=⟨[(3,.str x),(1,.aq 0 0)],[(0,⟨27,0,eC p⟩)],1⟩) ?_ ?_
 ·apply ai;simp[hC];apply T.block;refine T.aI (J91a p X) (n:=p.gs.length) ?_ ?_
  ·refine aa.trim [4,3,1] [0] 1 N3 yA ⟨0,⟨#[]⟩,by omega,by omega,?_,?_⟩
   ·rw[yT];exact hX
   ·simp[eC]
  ·rintro n s ⟨i,x,rfl,hi,hx,rfl⟩;by_cases N6:i<p.gs.length
   ·obtain⟨a,OZ⟩:∃ a,p.gs[i]? = some a:=⟨p.gs[i],List.getElem?_eq_getElem N6⟩;have N7:=fg i a OZ;have Pj:=fg1 i a OZ;have Oo:=hg a (List.mem_of_getElem? OZ);have wi:=cf ((i:Int)+1) yA yA;have hd:p.gs.drop i=a::p.gs.drop (i+1):=by
     rw[List.drop_eq_getElem_cons N6,(List.getElem?_eq_some_iff.1 OZ).2]
    rw[hd,jx] at hx;have hz:=congrArg ByteArray.size hx;simp only[KR,zC,ByteArray.size_append] at hz;have s0:=ax x ⟨#[118,97,114,32]⟩ yA;have s1:=ax (x++⟨#[118,97,114,32]⟩) a.name Th;apply aL;simp[hC,N6,eC];refine fh ?_;simp;apply eG;apply ai;simp[hC,N6,N7,o0,s0,s1];by_cases h0:a.init=0
    ·rw[if_pos h0] at hz;have s2:=ax (x++⟨#[118,97,114,32]⟩++a.name) ⟨#[59,10]⟩ Th;apply aL;simp[hC,N6,N7,o0,h0];refine dv ?_;simp;apply aY;simp[hC,s2];apply aY;simp[hC,wi];refine⟨p.gs.length-(i+1),by omega,?_⟩;refine aa.trim [4,3,1] [0] 1 N3 yA ⟨i+1,x++⟨#[118,97,114,32]⟩++a.name++⟨#[59,10]⟩,rfl,by omega,?_,?_⟩
     ·rw[← hx,KR,if_pos h0,mw];simp only[zC,ByteArray.append_assoc]
     ·simp[eC]
    ·rw[if_neg h0] at hz;simp only[Gi,ByteArray.size_append] at hz;have h0b:(a.init != 0)=true:=by simp[h0]
     have s2:=ax (x++⟨#[118,97,114,32]⟩++a.name) ⟨#[32,61,32]⟩ Th;have s3:=ax (x++⟨#[118,97,114,32]⟩++a.name++⟨#[32,61,32]⟩) (kV a.init) Th;have s4:=ax (x++⟨#[118,97,114,32]⟩++a.name++⟨#[32,61,32]⟩++kV a.init) ⟨#[59,10]⟩ Th;apply aL;simp[hC,N6,N7,o0,h0b];refine cB ?_;simp;apply aY;simp[hC,N6,N7,o0,s2];refine dc Od (px a.init yA yA) ?_;simp[hC,s3];apply aY;simp[hC,s4];apply aY;simp[hC,wi];refine⟨p.gs.length-(i+1),by omega,?_⟩;refine aa.trim [4,3,1] [0] 1 N3 yA ⟨i+1,x++⟨#[118,97,114,32]⟩++a.name++⟨#[32,61,32]⟩++kV a.init++⟨#[59,10]⟩,rfl,by omega,?_,?_⟩
     ·rw[← hx,KR,if_neg h0];simp only[zC,Gi,ByteArray.append_assoc]
     ·simp[eC]
   ·have Oe:i=p.gs.length:=by omega
    rw[Oe,List.drop_length,jx,yT] at hx;apply aL;simp[hC,N6,eC];refine aX ?_;simp;apply T.exit;simp;refine aa.trim [3,1] [0] 1 N3 yA ⟨x,hx,?_⟩;simp
 rintro s ⟨x0,Wf,rfl⟩;clear hX;refine T.cut (fun s=>∃ x,x++jx FP p.fs=X∧s=⟨[(3,.str x),(1,.aq 0 0)],[(0,⟨27,0,eC p⟩)],1⟩) ?_ ?_
 ·apply ai;simp[hC];apply T.block;refine T.aI (J91b p X) (n:=p.ms.length) ?_ ?_
  ·refine aa.trim [5,3,1] [0] 1 Sq yA ⟨0,x0,by omega,by omega,Wf,?_⟩;simp
  ·rintro n s ⟨i,x,rfl,hi,hx,rfl⟩;by_cases N6:i<p.ms.length
   ·obtain⟨a,OZ⟩:∃ a,p.ms[i]? = some a:=⟨p.ms[i],List.getElem?_eq_getElem N6⟩;have N7:=fm i a OZ;have Oo:=hm a (List.mem_of_getElem? OZ);have wi:=cf ((i:Int)+1) yA yA;have hd:p.ms.drop i=a::p.ms.drop (i+1):=by
     rw[List.drop_eq_getElem_cons N6,(List.getElem?_eq_some_iff.1 OZ).2]
    rw[hd,jx,JK] at hx;have hz:=congrArg ByteArray.size hx;simp only[ByteArray.size_append] at hz;apply aL;simp[hC,N6,eC];refine fh ?_;simp;apply eG;apply ai;simp[hC,N6,N7,eM];obtain⟨y,hy⟩:∃ y,x++(if a.re=true then ⟨#[114]⟩ else ⟨#[]⟩)=y:=⟨_,rfl⟩;have Yk:y.size=x.size+(if a.re=true then (⟨#[114]⟩:ByteArray) else ⟨#[]⟩).size:=by rw[← hy,ByteArray.size_append]
    have hyX:y.size≤1000000:=by omega
    refine T.cut (fun s=>s=⟨[(6,.aq 1 0),(5,I i),(3,.str y),(1,.aq 0 0)],[(0,⟨27,0,eC p⟩),(1,⟨89,0,eM a⟩)],2⟩) ?_ ?_
    ·apply ai;simp[hC];refine T.cond (b:=a.re) rfl ?_
     cases QK:a.re with
     | true=>
      rw[QK,if_pos rfl] at hy Yk;have s0:=ax x ⟨#[114]⟩ yA;simp;apply aY;simp[hC,s0];refine aa.trim [6,5,3,1] [0,1] 2 N3 yA ?_;simp[← hy,eM,QK,eC]
     | false=>
      rw[QK,if_neg N3,mw] at hy;simp;apply T.skip;simp;refine aa.trim [6,5,3,1] [0,1] 2 N3 yA ?_;simp[← hy,eM,QK,eC]
    rintro s rfl;have s1:=ax y ⟨#[109,117,116,101,120,32]⟩ yA;have s2:=ax (y++⟨#[109,117,116,101,120,32]⟩) a.name Th;apply ai;simp[hC,s1,s2,eM];have PU:y++(⟨#[109,117,116,101,120,32]⟩++a.name++(if a.size=0 then ⟨#[]⟩ else ⟨#[91]⟩++kV a.size++⟨#[93]⟩)++⟨#[59,10]⟩++(jx JK (p.ms.drop (i+1))++jx FP p.fs))=X:=by
     rw[← hx,← hy];simp only[ByteArray.append_assoc]
    by_cases h0:a.size=0
    ·rw[if_pos h0] at hz PU;have s3:=ax (y++⟨#[109,117,116,101,120,32]⟩++a.name) ⟨#[59,10]⟩ Th;apply aL;simp[hC,h0];refine dv ?_;simp;apply aY;simp[hC,s3];apply aY;simp[hC,wi];refine⟨p.ms.length-(i+1),by omega,?_⟩;refine aa.trim [5,3,1] [0] 1 Sq yA ⟨i+1,y++⟨#[109,117,116,101,120,32]⟩++a.name++⟨#[59,10]⟩,rfl,by omega,?_,?_⟩
     ·rw[← PU,mw];simp only[ByteArray.append_assoc]
     ·simp[eC]
    ·rw[if_neg h0] at hz PU;simp only[ByteArray.size_append] at hz;have h0b:0<a.size:=by omega
     have s3:=ax (y++⟨#[109,117,116,101,120,32]⟩++a.name) ⟨#[91]⟩ Th;have s4:=ax (y++⟨#[109,117,116,101,120,32]⟩++a.name++⟨#[91]⟩) (kV a.size) Th;have s5:=ax (y++⟨#[109,117,116,101,120,32]⟩++a.name++⟨#[91]⟩++kV a.size) ⟨#[93]⟩ Th;have s6:=ax (y++⟨#[109,117,116,101,120,32]⟩++a.name++⟨#[91]⟩++kV a.size++⟨#[93]⟩) ⟨#[59,10]⟩ Th;apply aL;simp[hC,h0b];refine cB ?_;simp;apply aY;simp[hC,s3];refine dc Od (px (a.size:Int) yA yA) ?_;simp[hC,s4,s5];apply aY;simp[hC,s6];apply aY;simp[hC,wi];refine⟨p.ms.length-(i+1),by omega,?_⟩;refine aa.trim [5,3,1] [0] 1 Sq yA ⟨i+1,y++⟨#[109,117,116,101,120,32]⟩++a.name++⟨#[91]⟩++kV a.size++⟨#[93]⟩++⟨#[59,10]⟩,rfl,by omega,?_,?_⟩
     ·rw[← PU];simp only[ByteArray.append_assoc]
     ·simp[eC]
   ·have Oe:i=p.ms.length:=by omega
    rw[Oe,List.drop_length,jx,yT] at hx;apply aL;simp[hC,N6,eC];refine aX ?_;simp;apply T.exit;simp;refine aa.trim [3,1] [0] 1 N3 yA ⟨x,hx,?_⟩;simp
 rintro s ⟨x1,UN,rfl⟩;clear Wf;refine T.cut (fun s=>s=⟨[(3,.str X),(1,.aq 0 0)],[(0,⟨27,0,eC p⟩)],1⟩) ?_ ?_
 ·apply ai;simp[hC];apply T.block;refine T.aI (J91c p X) (n:=p.fs.length) ?_ ?_
  ·refine aa.trim [7,3,1] [0] 1 Sq yA ⟨0,x1,by omega,by omega,UN,?_⟩;simp
  ·rintro n s ⟨i,x,rfl,hi,hx,rfl⟩;by_cases N6:i<p.fs.length
   ·obtain⟨a,OZ⟩:∃ a,p.fs[i]? = some a:=⟨p.fs[i],List.getElem?_eq_getElem N6⟩;have N7:=ff i a OZ;obtain⟨Po,Og⟩:=hf a (List.mem_of_getElem? OZ);have wi:=cf ((i:Int)+1) yA yA;have hd:p.fs.drop i=a::p.fs.drop (i+1):=by
     rw[List.drop_eq_getElem_cons N6,(List.getElem?_eq_some_iff.1 OZ).2]
    rw[hd,jx,FP] at hx;obtain⟨nm,ps,bd⟩:=a;simp only at hx Po Og;have hz:=congrArg ByteArray.size hx;simp only[ByteArray.size_append] at hz;obtain⟨y,hy⟩:∃ y,x++⟨#[102,117,110,99,32]⟩++nm++⟨#[40]⟩=y:=⟨_,rfl⟩;have Yk:y.size=x.size+(⟨#[102,117,110,99,32]⟩:ByteArray).size+nm.size+(⟨#[40]⟩:ByteArray).size:=by rw[← hy];simp only[ByteArray.size_append]
    obtain⟨Y,hY⟩:∃ Y,y++uN true ps=Y:=⟨_,rfl⟩;have hYs:Y.size=y.size+(uN true ps).size:=by rw[← hY,ByteArray.size_append]
    have PU:Y++(⟨#[41,32,123,10]⟩++jc qd bd++⟨#[125,10]⟩++jx FP (p.fs.drop (i+1)))=X:=by
     rw[← hx,← hY,← hy];simp only[ByteArray.append_assoc]
    have s0:=ax x ⟨#[102,117,110,99,32]⟩ yA;have s1:=ax (x++⟨#[102,117,110,99,32]⟩) nm Th;have s2:=ax (x++⟨#[102,117,110,99,32]⟩++nm) ⟨#[40]⟩ Th;rw[hy] at s2;apply aL;simp[hC,N6,eC];refine fh ?_;simp;apply eG;apply ai;simp[hC,N6,N7,eZ];apply ai;simp[hC,s0,s1,s2];refine T.cut (fun s=>s=⟨[(8,.aq 1 0),(7,I i),(3,.str Y),(1,.aq 0 0)],[(0,⟨27,0,eC p⟩),(1,⟨109,0,eZ ⟨nm,ps,bd⟩⟩)],2⟩) ?_ ?_
    ·apply ai;simp[hC];apply T.block;refine T.aI (J91d p i nm ps bd Y) (n:=ps.length) ?_ ?_
     ·refine aa.trim [9,8,7,3,1] [0,1] 2 N3 yA ⟨0,y,by omega,by omega,hY,?_⟩;simp[eZ,eC]
     ·rintro n s ⟨q,z,rfl,hq,Yj,rfl⟩;by_cases P6:q<ps.length
      ·obtain⟨b,UP⟩:∃ b,ps[q]? = some b:=⟨ps[q],List.getElem?_eq_getElem P6⟩;have R0:=aD (f:=kT) (n:=2) (fun _=>rfl) UP;have QM:=a8 (f:=kT) (n:=2) (fun _=>rfl) UP 1 yA;have wq:=cf ((q:Int)+1) yA yA;have QS:ps.drop q=b::ps.drop (q+1):=by
        rw[List.drop_eq_getElem_cons P6,(List.getElem?_eq_some_iff.1 UP).2]
       rw[QS,uN] at Yj;have hz3:=congrArg ByteArray.size Yj;simp only[ByteArray.size_append] at hz3;apply aL;simp[hC,P6,eZ];refine fh ?_;simp;apply eG;obtain⟨u,hu⟩:∃ u,z++(if decide (q=0)=true then ⟨#[]⟩ else ⟨#[44,32]⟩)=u:=⟨_,rfl⟩;have T7:u.size=z.size+(if decide (q=0)=true then (⟨#[]⟩:ByteArray) else ⟨#[44,32]⟩).size:=by rw[← hu,ByteArray.size_append]
       obtain⟨v,hv⟩:∃ v,u++(if b.mutex=true then ⟨#[109,117,116,101,120,32]⟩ else ⟨#[]⟩)=v:=⟨_,rfl⟩;have hvs:v.size=u.size+(if b.mutex=true then (⟨#[109,117,116,101,120,32]⟩:ByteArray) else ⟨#[]⟩).size:=by rw[← hv,ByteArray.size_append]
       have hvX:v.size≤1000000:=by omega
       have huX:u.size≤1000000:=by omega
       refine T.cut (fun s=>s=⟨[(9,I q),(8,.aq 1 0),(7,I i),(3,.str u),(1,.aq 0 0)],[(0,⟨27,0,eC p⟩),(1,⟨109,0,eZ ⟨nm,ps,bd⟩⟩)],2⟩) ?_ ?_
       ·apply ai;simp[hC];by_cases hq0:q=0
        ·have UP:¬ 0<q:=by omega
         simp only[hq0,decide_true,if_true,mw] at hu;simp only[UP,decide_false];refine dv ?_;simp;refine aa.trim [9,8,7,3,1] [0,1] 2 Sq yA ?_;simp[hu,eZ,eC]
        ·have UP:0<q:=by omega
         have e0:decide (q=0)=false:=by simp[hq0]
         rw[e0] at hu T7;simp only[Bool.false_eq_true,if_false] at hu T7;have t0:=ax z ⟨#[44,32]⟩ yA;rw[hu] at t0;simp only[UP,decide_true];refine cB ?_;simp;apply aY;simp[hC,t0];refine aa.trim [9,8,7,3,1] [0,1] 2 Sq yA ?_;simp[eZ,eC]
       rintro s rfl;refine T.cut (fun s=>s=⟨[(9,I q),(8,.aq 1 0),(7,I i),(3,.str v),(1,.aq 0 0)],[(0,⟨27,0,eC p⟩),(1,⟨109,0,eZ ⟨nm,ps,bd⟩⟩)],2⟩) ?_ ?_
       ·apply ai;simp[hC,P6,QM,kT,eZ];refine T.cond (b:=b.mutex) rfl ?_
        cases ZJ:b.mutex with
        | true=>
         rw[ZJ,if_pos rfl] at hv hvs;have t0:=ax u ⟨#[109,117,116,101,120,32]⟩ yA;rw[hv] at t0;simp;apply aY;simp[hC,t0];refine aa.trim [9,8,7,3,1] [0,1] 2 Sq yA ?_;simp[eC]
        | false=>
         rw[ZJ,if_neg N3,mw] at hv;simp;apply T.skip;simp;refine aa.trim [9,8,7,3,1] [0,1] 2 Sq yA ?_;simp[hv,eC]
       rintro s rfl;have t1:=ax v b.name yA;apply aY;simp[hC,P6,R0,kT,eZ,t1];apply aY;simp[hC,wq];refine⟨ps.length-(q+1),by omega,?_⟩;refine aa.trim [9,8,7,3,1] [0,1] 2 Sq yA ⟨q+1,v++b.name,rfl,by omega,?_,?_⟩
       ·rw[← Yj,← hv,← hu];simp only[ByteArray.append_assoc];simp
       ·simp[eZ,eC]
      ·have Oe:q=ps.length:=by omega
       rw[Oe,List.drop_length,uN,mw] at Yj;subst Yj;apply aL;simp[hC,P6,eZ];refine aX ?_;simp;apply T.exit;simp;refine aa.trim [8,7,3,1] [0,1] 2 Sq yA ?_;simp[eC]
    rintro s rfl;have t0:=ax Y ⟨#[41,32,123,10]⟩ yA;have t1:=ax (Y++⟨#[41,32,123,10]⟩) (jc ⟨#[9]⟩ bd) yDc;have t2:=ax (Y++⟨#[41,32,123,10]⟩++jc ⟨#[9]⟩ bd) ⟨#[125,10]⟩ yDc;apply aY;simp[hC,t0,eZ];refine dc Od (Og) ?_;simp[hC,t1,t2];apply aY;simp[hC,wi];refine⟨p.fs.length-(i+1),by omega,?_⟩;refine aa.trim [7,3,1] [0] 1 Sq yA ⟨i+1,Y++⟨#[41,32,123,10]⟩++jc ⟨#[9]⟩ bd++⟨#[125,10]⟩,rfl,by omega,?_,?_⟩
    ·rw[← PU];simp only[ByteArray.append_assoc];rfl
    ·simp[eC]
   ·have Oe:i=p.fs.length:=by omega
    rw[Oe,List.drop_length,jx,mw] at hx;subst hx;apply aL;simp[hC,N6,eC];refine aX ?_;simp;apply T.exit;simp;refine aa.trim [3,1] [0] 1 N3 yA ?_;simp
 rintro s rfl;apply ai;simp[hC];apply T.ret;apply aa.here;simp[Tryz.results83]
theorem tH:∀ s∈nG++nM++nF++nP,bs s∉rI:=by decide
theorem LF (k:Nat)(hk:k<24):bs (fq k)∉rI:=by
 rw[gh];exact (by decide:∀ k,k<24→[118,UInt8.ofNat (97+k % 26),UInt8.ofNat (97+k / 26 % 26)]∉rI) k hk
theorem zq (k:Nat)(hk:k<24):mC (fq k):=by
 refine⟨⟨⟨118,_,gh k,by decide⟩,?_,by rw[gh];simp⟩,LF k hk⟩;rw[gh];exact (by decide:∀ k,k<24→List.all [118,UInt8.ofNat (97+k % 26),UInt8.ofNat (97+k / 26 % 26)] fB=true) k hk
theorem _root_.Go.aN.km.gR {p:Pg}(h:km p):∀ g∈p.gs,mC g.name:=fun g hg=>⟨h.ng g hg,by
 obtain⟨k,_,hk⟩:=h.gn;have:=List.mem_map_of_mem (f:=(·.name)) hg;rw[hk] at this;exact tH _ (by simp only[List.mem_append];exact .inl (.inl (.inl (List.mem_of_mem_take this))))⟩
theorem _root_.Go.aN.km.mR {p:Pg}(h:km p):∀ g∈p.ms,mC g.name:=fun g hg=>⟨h.nm g hg,by
 obtain⟨k,_,_,hk⟩:=h.mn;have:=List.mem_map_of_mem (f:=(·.name)) hg;rw[hk] at this;exact tH _ (by simp only[List.mem_append];exact .inl (.inl (.inr (List.mem_of_mem_take this))))⟩
theorem _root_.Go.aN.km.fR {p:Pg}(h:km p):∀ g∈p.fs,mC g.name:=fun g hg=>⟨h.nf g hg,by
 obtain⟨k,_,_,hk⟩:=h.fn;have:=List.mem_map_of_mem (f:=(·.name)) hg;rw[hk] at this;exact tH _ (by simp only[List.mem_append];exact .inl (.inr (List.mem_of_mem_take this)))⟩
theorem _root_.Go.aN.km.pR {p:Pg}(h:km p):∀ f∈p.fs,∀ q∈f.params,mC q.name:=fun f hf q hq=>⟨h.np f hf q hq,by
 obtain⟨k,_,hk⟩:=h.pn f hf;have:=List.mem_map_of_mem (f:=(·.name)) hq;rw[hk,List.mem_reverse] at this;exact tH _ (by simp only[List.mem_append];exact .inr (List.mem_of_mem_take this))⟩
theorem _root_.Go.aN.km.vR {p:Pg}(h:km p):∀ f∈p.fs,∀ s∈jq p.gs f.params,mC s:=fun f hf s hs=>by
 rcases uR hs with hs | hs
 ·rw[List.mem_map] at hs;obtain⟨g,hg,rfl⟩:=hs;exact h.gR g hg
 ·rw[List.mem_map] at hs;obtain⟨g,hg,rfl⟩:=hs;exact h.pR f hf g hg
theorem _root_.Go.aN.km.pl {p:Pg}(h:km p):∀ f∈p.fs,f.params.length≤2:=fun f hf=>by
 obtain⟨k,hk,QL⟩:=h.pn f hf;have:=congrArg List.length QL;simp[nP] at this;omega
theorem Ja (s:Sm):2≤en s:=by cases s<;>simp only[en]<;>omega
theorem jO:∀ l:List Sm,2*l.length≤bJ l
 | []=>by simp[bJ]
 | s::r=>by
  have:=jO r;have:=Ja s;simp only[bJ,List.length_cons];omega
def OkF (deep:Nat)(s:Sm):Prop:=match s with
 | .gP nm e=>mC nm∧ae Tryz.prog 104 [.agg (bM e)] (.bool true)
 | .iy nm e=>mC nm∧ae Tryz.prog 104 [.agg (bM e)] (.bool true)
 | .dU _ nm al=>mC nm∧al.length≤1000∧∀ a∈al,okA a
 | .dx _ r=>RfR r
 | .lu e th el=>ae Tryz.prog 104 [.agg (bM e)] (.bool true)∧ae Tryz.prog 82 [.az (bx th) th.length,I ((deep+1:Nat))] (.bool true)∧ae Tryz.prog 82 [.az (bx el) el.length,I ((deep+1:Nat))] (.bool true)
 | .cE e th=>ae Tryz.prog 104 [.agg (bM e)] (.bool true)∧ae Tryz.prog 82 [.az (bx th) th.length,I ((deep+1:Nat))] (.bool true)
 | .jm=>True
theorem mc {l:List Sm}{deep:Nat}(hd:deep<20)(hl:l.length≤100000)(h:∀ s∈l,OkF deep s):ae Tryz.prog 82 [.az (bx l) l.length,I deep] (.bool true):=
 yr l deep hd hl fun s hs=>by
  have:=h s hs;cases s<;>exact this
section
variable {ms:List Mx}{fs:List (ByteArray×List Pm)}{ps:List Pm}(Py:∀ m∈ms,mC m.name)(Qf:∀ x∈fs,mC x.1)(O8:∀ x∈fs,x.2.length≤2)(PW:∀ q∈ps,mC q.name)
include Py PW
theorem rf_R {V:List ByteArray}(hV:∀ x∈V,mC x){r:Rf}(h:FR ms ps V r):RfR r:=by
 rcases h with ⟨m,hm,hn,hi⟩ | ⟨q,hq,_,hn,hi⟩
 ·refine⟨by rw[hn];exact Py m hm,fun e he=>?_⟩;rcases hi with ⟨hi,_⟩ | ⟨e',hi,_,hw⟩
  ·rw[hi] at he;cases he
  ·rw[hi] at he;cases he;exact fM hV 1 _ yA hw
 ·exact⟨by rw[hn];exact PW q hq,fun e he=>by rw[hi] at he;cases he⟩
theorem K4 {V:List ByteArray}(hV:∀ x∈V,mC x):∀ {gp:List Pm} {l:List Ar},ja ms ps V gp l→∀ a∈l,okA a
 | [],[],_=>by simp
 | q::gp,a::l,h=>by
  simp only[ja] at h;intro x hx;rcases List.mem_cons.1 hx with rfl | hx
  ·cases x with
   | uX r=>exact rf_R Py PW hV h.1.2
   | exp e=>exact fM hV 2 _ yA h.1.2
  ·exact K4 hV h.2 x hx
 | [],_::_,h=>h.elim
 | _::_,[],h=>h.elim
theorem rf_T {V:List ByteArray}(hV:∀ x∈V,mC x){r:Rf}(h:FR ms ps V r):MQ r:=by
 have ZM:∀ x∈V,dh x:=fun x hx=>(hV x hx).1;have hz:∀ s:ByteArray,dh s→s.size≤100:=fun s hs=>by
  have:=hs.2.2;rw[lp] at this;omega
 rcases h with ⟨m,hm,hn,hi⟩ | ⟨q,hq,_,hn,hi⟩
 ·refine⟨by rw[hn];exact hz _ (Py m hm).1,fun e he=>?_⟩;rcases hi with ⟨hi,_⟩ | ⟨e',hi,_,hw⟩
  ·rw[hi] at he;cases he
  ·rw[hi] at he;cases he;exact⟨nV ZM 1 _ yA hw,lR ZM (d:=1) yA hw⟩
 ·exact⟨by rw[hn];exact hz _ (PW q hq).1,fun e he=>by rw[hi] at he;cases he⟩
theorem K3 {V:List ByteArray}(hV:∀ x∈V,mC x):∀ {gp:List Pm} {l:List Ar},ja ms ps V gp l→∀ a∈l,TxA a
 | [],[],_=>by simp
 | q::gp,a::l,h=>by
  simp only[ja] at h;intro x hx;rcases List.mem_cons.1 hx with rfl | hx
  ·cases x with
   | uX r=>exact rf_T Py PW hV h.1.2
   | exp e=>
    have ZM:∀ x∈V,dh x:=fun x hx=>(hV x hx).1;exact⟨nV ZM 2 _ yA h.1.2,lR ZM (d:=2) yA h.1.2⟩
  ·exact K3 hV h.2 x hx
 | [],_::_,h=>h.elim
 | _::_,[],h=>h.elim
include Qf O8
theorem Ad:(∀ s:Sm,∀ d V deep,(∀ x∈V,mC x)→deep+d<20→dQ ms fs ps d V s→en s≤2000→OkF deep s)∧
  (∀ l:List Sm,∀ d V deep,(∀ x∈V,mC x)→deep+d<20→cM ms fs ps d V l→bJ l≤2000→∀ s∈l,OkF deep s):=by
 let M1:Sm→Prop:=fun s=>∀ d V deep,(∀ x∈V,mC x)→deep+d<20→dQ ms fs ps d V s→en s≤2000→OkF deep s
 let M2:List Sm→Prop:=fun l=>∀ d V deep,(∀ x∈V,mC x)→deep+d<20→cM ms fs ps d V l→bJ l≤2000→∀ s∈l,OkF deep s
 have UO:∀ k,k<24→mC (fq k):=zq;have A1:∀ (s:ByteArray) (e:Ex),M1 (.gP s e):=by
  intro s e d V deep hV _ hw _;simp only[dQ] at hw;obtain⟨⟨k,hk,rfl⟩,_,he⟩:=hw;exact⟨UO k hk,fM hV 2 _ yA he⟩
 have A2:∀ (s:ByteArray) (e:Ex),M1 (.iy s e):=by
  intro s e d V deep hV _ hw _;simp only[dQ] at hw;exact⟨hV s hw.1,fM hV 2 _ yA hw.2⟩
 have A3:∀ (g:Bool) (s:ByteArray) (l:List Ar),M1 (.dU g s l):=by
  intro g s l d V deep hV _ hw hk;simp only[dQ] at hw;obtain⟨gp,h1,h2⟩:=hw;have:=h2.len;have:=O8 _ h1;simp only at this;exact⟨Qf _ h1,by omega,K4 Py PW hV h2⟩
 have A4:∀ (u:Bool) (r:Rf),M1 (.dx u r):=by
  intro u r d V deep hV _ hw _;simp only[dQ] at hw;exact rf_R Py PW hV hw
 have A5:∀ (e:Ex) (th el:List Sm),M2 th→M2 el→M1 (.lu e th el):=by
  intro e th el i1 i2 d V deep hV hd hw hk
  cases d with
  | zero=>simp[dQ] at hw
  | succ d=>
   simp only[dQ] at hw;simp only[en] at hk;have l1:=jO th;have l2:=jO el;exact⟨fM hV 2 _ yA hw.1,mc yA yA (i1 d V _ hV yA hw.2.1 yA),mc yA yA (i2 d V _ hV yA hw.2.2 yA)⟩
 have A6:∀ (e:Ex) (th:List Sm),M2 th→M1 (.cE e th):=by
  intro e th i1 d V deep hV hd hw hk
  cases d with
  | zero=>simp[dQ] at hw
  | succ d=>
   simp only[dQ] at hw;simp only[en] at hk;have l1:=jO th;exact⟨fM hV 2 _ yA hw.1,mc yA yA (i1 d V _ hV yA hw.2 yA)⟩
 have A7:M1 .jm:=fun _ _ _ _ _ _ _=>trivial;have A0:M2 []:=fun _ _ _ _ _ _ _ s hs=>by simp at hs
 have A8:∀ (s:Sm) (r:List Sm),M1 s→M2 r→M2 (s::r):=by
  intro s r i1 i2 d V deep hV hd hw hk x hx;simp only[cM] at hw;simp only[bJ] at hk;have ZL:∀ x∈V++dS s,mC x:=by
   intro x hx;rcases List.mem_append.1 hx with hx | hx
   ·exact hV x hx
   ·cases s<;>simp only[dS,List.mem_singleton,List.not_mem_nil] at hx;subst hx;have:=hw.1;simp only[dQ] at this;obtain⟨⟨j,hj,rfl⟩,_⟩:=this;exact UO j hj
  rcases List.mem_cons.1 hx with rfl | hx
  ·exact i1 d V deep hV hd hw.1 yA
  ·exact i2 d _ deep ZL hd hw.2 yA x hx
 exact⟨fun s=>Sm.rec (motive_1:=M1) (motive_2:=M2) A1 A2 A3 A4 A5 A6 A7 A0 A8 s,fun l=>Sm.rec_1 (motive_1:=M1) (motive_2:=M2) A1 A2 A3 A4 A5 A6 A7 A0 A8 l⟩
theorem E9:(∀ s:Sm,∀ d V N5,(∀ x∈V,mC x)→gC d N5→dQ ms fs ps d V s→en s≤2000→TxS N5 s)∧
  (∀ l:List Sm,∀ d V N5,(∀ x∈V,mC x)→gC d N5→cM ms fs ps d V l→bJ l≤2000→∀ s∈l,TxS N5 s):=by
 let M1:Sm→Prop:=fun s=>∀ d V N5,(∀ x∈V,mC x)→gC d N5→dQ ms fs ps d V s→en s≤2000→TxS N5 s
 let M2:List Sm→Prop:=fun l=>∀ d V N5,(∀ x∈V,mC x)→gC d N5→cM ms fs ps d V l→bJ l≤2000→∀ s∈l,TxS N5 s
 have UO:∀ k,k<24→mC (fq k):=zq;have hz:∀ s:ByteArray,mC s→s.size≤100:=fun s hs=>by
  have:=hs.1.2.2;rw[lp] at this;omega
 have tx:∀ {V:List ByteArray} (_:∀ x∈V,mC x) {e:Ex},fK V 2 e→MR e:=fun {V} hV {e} he=>⟨nV (fun x hx=>(hV x hx).1) 2 _ yA he,lR (fun x hx=>(hV x hx).1) (d:=2) yA he⟩;have jI:∀ (l:List Sm) (d:Nat) (V:List ByteArray) (N5:ByteArray),M2 l→(∀ x∈V,mC x)→gC d N5→cM ms fs ps d V l→bJ l≤2000→ae Tryz.prog 109 [.az (bx l) l.length,.str N5] (.str (jc N5 l)):=by
  intro l d V N5 i1 hV ht hw hk;have hs:=((ca.lines (ms:=ms) (fs:=fs) (ps:=ps) (fun m hm=>(Py m hm).1) (fun x hx=>(Qf x hx).1) (fun q hq=>(PW q hq).1)).2 l d V N5 (fun x hx=>(hV x hx).1) ht hw).1;rw[lp] at hs;have h2:=ht.2;rw[lp] at h2;have h3:=jO l;exact u6 l N5 yA yA yA (i1 d V N5 hV ht hw hk)
 have A1:∀ (s:ByteArray) (e:Ex),M1 (.gP s e):=by
  intro s e d V N5 hV _ hw _;simp only[dQ] at hw;obtain⟨⟨k,hk,rfl⟩,_,he⟩:=hw;exact⟨hz _ (UO k hk),tx hV he⟩
 have A2:∀ (s:ByteArray) (e:Ex),M1 (.iy s e):=by
  intro s e d V N5 hV _ hw _;simp only[dQ] at hw;exact⟨hz _ (hV s hw.1),tx hV hw.2⟩
 have A3:∀ (g:Bool) (s:ByteArray) (l:List Ar),M1 (.dU g s l):=by
  intro g s l d V N5 hV _ hw hk;simp only[dQ] at hw;obtain⟨gp,h1,h2⟩:=hw;have:=h2.len;have:=O8 _ h1;simp only at this;exact⟨hz _ (Qf _ h1),by omega,K3 Py PW hV h2⟩
 have A4:∀ (u:Bool) (r:Rf),M1 (.dx u r):=by
  intro u r d V N5 hV _ hw _;simp only[dQ] at hw;exact rf_T Py PW hV hw
 have A5:∀ (e:Ex) (th el:List Sm),M2 th→M2 el→M1 (.lu e th el):=by
  intro e th el i1 i2 d V N5 hV ht hw hk
  cases d with
  | zero=>simp[dQ] at hw
  | succ d=>
   simp only[dQ] at hw;simp only[en] at hk;exact⟨tx hV hw.1,jI th d V _ i1 hV ht.more hw.2.1 yA,jI el d V _ i2 hV ht.more hw.2.2 yA⟩
 have A6:∀ (e:Ex) (th:List Sm),M2 th→M1 (.cE e th):=by
  intro e th i1 d V N5 hV ht hw hk
  cases d with
  | zero=>simp[dQ] at hw
  | succ d=>
   simp only[dQ] at hw;simp only[en] at hk;exact⟨tx hV hw.1,jI th d V _ i1 hV ht.more hw.2 yA⟩
 have A7:M1 .jm:=fun _ _ _ _ _ _ _=>trivial;have A0:M2 []:=fun _ _ _ _ _ _ _ s hs=>by simp at hs
 have A8:∀ (s:Sm) (r:List Sm),M1 s→M2 r→M2 (s::r):=by
  intro s r i1 i2 d V N5 hV hd hw hk x hx;simp only[cM] at hw;simp only[bJ] at hk;have ZL:∀ x∈V++dS s,mC x:=by
   intro x hx;rcases List.mem_append.1 hx with hx | hx
   ·exact hV x hx
   ·cases s<;>simp only[dS,List.mem_singleton,List.not_mem_nil] at hx;subst hx;have:=hw.1;simp only[dQ] at this;obtain⟨⟨j,hj,rfl⟩,_⟩:=this;exact UO j hj
  rcases List.mem_cons.1 hx with rfl | hx
  ·exact i1 d V N5 hV hd hw.1 yA
  ·exact i2 d _ N5 ZL hd hw.2 yA x hx
 exact⟨fun s=>Sm.rec (motive_1:=M1) (motive_2:=M2) A1 A2 A3 A4 A5 A6 A7 A0 A8 s,fun l=>Sm.rec_1 (motive_1:=M1) (motive_2:=M2) A1 A2 A3 A4 A5 A6 A7 A0 A8 l⟩
end
section
variable {p:Pg}(h:km p)
include h
theorem _root_.Go.aN.km.C4 (f:Fu)(hf:f∈p.fs):bJ f.body≤1152:=by
 have hw:=h.wt;have:bJ f.body∈p.fs.map fun f=>bJ f.body:=List.mem_map_of_mem (f:=fun f=>bJ f.body) hf;have h2:∀ {l:List Nat} {a:Nat},a∈l→a≤l.sum:=fun {l a} ha=>by
  induction l with
  | nil=>simp at ha
  | cons b r ih=>
   rcases List.mem_cons.1 ha with rfl | ha
   ·simp
   ·have:=ih ha;simp only[List.sum_cons];omega
 have:=h2 this;omega
theorem _root_.Go.aN.km.IQ:(∀ x∈p.fs.map fun f=>(f.name,f.params),mC x.1)∧(∀ x∈p.fs.map fun f=>(f.name,f.params),x.2.length≤2):=by
 refine⟨fun x hx=>?_,fun x hx=>?_⟩
 ·rw[List.mem_map] at hx;obtain⟨f,hf,rfl⟩:=hx;exact h.fR f hf
 ·rw[List.mem_map] at hx;obtain⟨f,hf,rfl⟩:=hx;exact h.pl f hf
theorem _root_.Go.aN.km.KD (f:Fu)(hf:f∈p.fs):ae Tryz.prog 82 [.az (bx f.body) f.body.length,I (0:Nat)] (.bool true):=by
 have hk:=h.C4 f hf;have hl:=jO f.body;exact mc yA yA ((Ad h.mR h.IQ.1 h.IQ.2 (h.pR f hf)).2 f.body 2 _ 0 (h.vR f hf) yA (h.bd f hf) yA)
theorem _root_.Go.aN.km.lnb (f:Fu)(hf:f∈p.fs):ae Tryz.prog 109 [.az (bx f.body) f.body.length,.str ⟨#[9]⟩] (.str (jc ⟨#[9]⟩ f.body)):=by
 have hk:=h.C4 f hf;have hl:=jO f.body;have ht:gC 2 ⟨#[9]⟩:=⟨by decide,by decide⟩;have hs:=((ca.lines (ms:=p.ms) (fs:=p.fs.map fun f=>(f.name,f.params)) (ps:=f.params) (fun m hm=>(h.mR m hm).1) (fun x hx=>(h.IQ.1 x hx).1) (fun q hq=>(h.pR f hf q hq).1)).2 f.body 2 _ ⟨#[9]⟩ (fun x hx=>(h.vR f hf x hx).1) ht (h.bd f hf)).1;rw[lp] at hs;exact u6 f.body ⟨#[9]⟩ Oi yA yA ((E9 h.mR h.IQ.1 h.IQ.2 (h.pR f hf)).2 f.body 2 _ _ (h.vR f hf) ht (h.bd f hf) yA)
end
def J57a (p:Pg)(n:Nat)(s:St):Prop:=∃ i:Nat,n=p.gs.length-i∧i≤p.gs.length∧s=⟨[(3,I i),(1,.aq 0 0)],[(0,⟨27,0,eC p⟩)],1⟩
def J57b (p:Pg)(n:Nat)(s:St):Prop:=∃ i:Nat,n=p.ms.length-i∧i≤p.ms.length∧s=⟨[(4,I i),(1,.aq 0 0)],[(0,⟨27,0,eC p⟩)],1⟩
def J57c (p:Pg)(n:Nat)(s:St):Prop:=∃ i:Nat,n=p.fs.length-i∧i≤p.fs.length∧s=⟨[(6,I i),(1,.aq 0 0)],[(0,⟨27,0,eC p⟩)],1⟩
def J57d (p:Pg)(i:Nat)(f:Fu)(n:Nat)(s:St):Prop:=∃ q:Nat,n=f.params.length-q∧q≤f.params.length∧s=⟨[(8,I q),(7,.aq 1 0),(6,I i),(1,.aq 0 0)],[(0,⟨27,0,eC p⟩),(1,⟨109,0,eZ f⟩)],2⟩
set_option maxHeartbeats 8000000 in
theorem F8 (p:Pg)(h:km p):ae Tryz.prog 46 [xb p] (.bool true):=by
 have hT:=LV h;have hTs:(ET p).size≤262144:=by have:=hT.2;rw[lp] at this;exact this
 obtain⟨k1,SK,e1⟩:=h.gn;obtain⟨k2,_,Ry,e2⟩:=h.mn;obtain⟨k3,_,hk3,e3⟩:=h.fn;have l1:=congrArg List.length e1;have l2:=congrArg List.length e2;have l3:=congrArg List.length e3;simp[nG] at l1;simp[nM] at l2;simp[nF] at l3;clear e1 e2 e3;have YR:=zY p yA yA yA yA (fun g hg=>by have:=h.gi g hg;omega) (fun m hm=>by have:=(h.mz m hm).1;omega) (fun f hf=>⟨by have:=h.pl f hf;omega,h.lnb f hf⟩);have hlx:=Ma (bs (ET p)) hT.2 hT.1;have g1:¬ (16:Int)<p.gs.length:=by omega
 have g2:¬ (12:Int)<p.ms.length:=by omega
 have g3:¬ (16:Int)<p.fs.length:=by omega
 have fg:=fun (k:Nat) (a:Gl) (h:p.gs[k]? = some a)=>aD (f:=o0) (n:=2) (fun _=>rfl) h;have fg1:=fun (k:Nat) (a:Gl) (h:p.gs[k]? = some a)=>a8 (f:=o0) (n:=2) (fun _=>rfl) h 1 yA;have fm:=fun (k:Nat) (a:Mx) (h:p.ms[k]? = some a)=>aD (f:=eM) (n:=3) (fun _=>rfl) h;have ff:=fun (k:Nat) (a:Fu) (h:p.fs[k]? = some a)=>aD (f:=eZ) (n:=3) (fun _=>rfl) h;refine ae.aH af Tryz.func46 rfl N4 (by simp[Tryz.ntmps46]) rfl fun C hC N8=>?_;rw[Tryz.ntmps46] at hC;apply ai;simp[hC,xb,eC];apply aL;simp[hC,g1,g2,g3];refine dv ?_;simp;refine T.cut (fun s=>s=⟨[(1,.aq 0 0)],[(0,⟨27,0,eC p⟩)],1⟩) ?_ ?_
 ·apply ai;simp[hC];apply T.block;refine T.aI (J57a p) (n:=p.gs.length) ?_ ?_
  ·refine aa.trim [3,1] [0] 1 N3 yA ⟨0,by omega,by omega,?_⟩;simp[eC]
  ·rintro n s ⟨i,rfl,hi,rfl⟩;by_cases N6:i<p.gs.length
   ·obtain⟨a,OZ⟩:∃ a,p.gs[i]? = some a:=⟨p.gs[i],List.getElem?_eq_getElem N6⟩;have N7:=fg i a OZ;have Pj:=fg1 i a OZ;have hm:=List.mem_of_getElem? OZ;have hn:=js a.name (h.gR a hm).1 (h.gR a hm).2;have Oo:(a.init == -9223372036854775808)=false:=by have:=h.gi a hm;simp;omega
    have wi:=cf ((i:Int)+1) yA yA;apply aL;simp[hC,N6,eC];refine fh ?_;simp;apply eG;apply ai;simp[hC,N6,N7,o0];refine dc Od (hn) ?_;simp[hC,N6,N7,Oo,o0];refine dv ?_;simp;apply aY;simp[hC,wi];refine⟨p.gs.length-(i+1),by omega,?_⟩;refine aa.trim [3,1] [0] 1 N3 yA ⟨i+1,rfl,by omega,?_⟩;simp[eC]
   ·apply aL;simp[hC,N6,eC];refine aX ?_;simp;apply T.exit;simp;refine aa.trim [1] [0] 1 N3 yA ?_;simp
 rintro s rfl;refine T.cut (fun s=>s=⟨[(1,.aq 0 0)],[(0,⟨27,0,eC p⟩)],1⟩) ?_ ?_
 ·apply ai;simp[hC];apply T.block;refine T.aI (J57b p) (n:=p.ms.length) ?_ ?_
  ·refine aa.trim [4,1] [0] 1 Sq yA ⟨0,by omega,by omega,?_⟩;simp[eC]
  ·rintro n s ⟨i,rfl,hi,rfl⟩;by_cases N6:i<p.ms.length
   ·obtain⟨a,OZ⟩:∃ a,p.ms[i]? = some a:=⟨p.ms[i],List.getElem?_eq_getElem N6⟩;have N7:=fm i a OZ;have hm:=List.mem_of_getElem? OZ;have hn:=js a.name (h.mR a hm).1 (h.mR a hm).2;have hz:=h.mz a hm;have wi:=cf ((i:Int)+1) yA yA;have z1:¬ (a.size:Int)<0:=by omega
    have z2:¬ (64:Int)<a.size:=by omega
    apply aL;simp[hC,N6,eC];refine fh ?_;simp;apply eG;apply ai;simp[hC,N6,N7,eM]
    cases QK:a.re with
    | true=>
     have z3:=hz.2 QK;apply ai;simp[hC];refine dc Od (hn) ?_;simp[hC,z3];refine dv ?_;simp;apply aY;simp[hC,wi];refine⟨p.ms.length-(i+1),by omega,?_⟩;refine aa.trim [4,1] [0] 1 N3 yA ⟨i+1,rfl,by omega,?_⟩;simp[eC]
    | false=>
     apply ai;simp[hC];refine dc Od (hn) ?_;simp[hC,z1,z2];refine dv ?_;simp;apply aY;simp[hC,wi];refine⟨p.ms.length-(i+1),by omega,?_⟩;refine aa.trim [4,1] [0] 1 N3 yA ⟨i+1,rfl,by omega,?_⟩;simp[eC]
   ·apply aL;simp[hC,N6,eC];refine aX ?_;simp;apply T.exit;simp;refine aa.trim [1] [0] 1 N3 yA ?_;simp
 rintro s rfl;refine T.cut (fun s=>s=⟨[(1,.aq 0 0)],[(0,⟨27,0,eC p⟩)],1⟩) ?_ ?_
 ·apply ai;simp[hC];apply T.block;refine T.aI (J57c p) (n:=p.fs.length) ?_ ?_
  ·refine aa.trim [6,1] [0] 1 Sq yA ⟨0,by omega,by omega,?_⟩;simp[eC]
  ·rintro n s ⟨i,rfl,hi,rfl⟩;by_cases N6:i<p.fs.length
   ·obtain⟨a,OZ⟩:∃ a,p.fs[i]? = some a:=⟨p.fs[i],List.getElem?_eq_getElem N6⟩;have N7:=ff i a OZ;have hm:=List.mem_of_getElem? OZ;have hn:=js a.name (h.fR a hm).1 (h.fR a hm).2;have hb:=h.KD a hm;have Po:=h.pl a hm;have wi:=cf ((i:Int)+1) yA yA;have z1:¬ (6:Int)<a.params.length:=by omega
    apply aL;simp[hC,N6,eC];refine fh ?_;simp;apply eG;apply ai;simp[hC,N6,N7,eZ];apply aL;simp[hC];refine dc Od (hn) ?_;simp[hC,z1];refine TL.bY Oc rfl rfl rfl rfl (bH.of rfl Od (hb)) (TL.go' af ?_);simp[hC];refine dv ?_;simp;apply ai;simp[hC];apply T.block;refine T.aI (J57d p i a) (n:=a.params.length) ?_ ?_
    ·refine aa.trim [8,7,6,1] [0,1] 2 N3 yA ⟨0,by omega,by omega,?_⟩;simp[eC,eZ]
    ·rintro n s ⟨q,rfl,hq,rfl⟩;by_cases P6:q<a.params.length
     ·obtain⟨b,UP⟩:∃ b,a.params[q]? = some b:=⟨a.params[q],List.getElem?_eq_getElem P6⟩;have R0:=aD (f:=kT) (n:=2) (fun _=>rfl) UP;have ZJ:=List.mem_of_getElem? UP;have Q2:=js b.name (h.pR a hm b ZJ).1 (h.pR a hm b ZJ).2;have wq:=cf ((q:Int)+1) yA yA;apply aL;simp[hC,P6,eZ];refine fh ?_;simp;apply eG;apply ai;simp[hC,P6,R0,kT];refine dc Od (Q2) ?_;simp[hC];refine dv ?_;simp;apply aY;simp[hC,wq];refine⟨a.params.length-(q+1),by omega,?_⟩;refine aa.trim [8,7,6,1] [0,1] 2 Sq yA ⟨q+1,rfl,by omega,?_⟩;simp[eC,eZ]
     ·apply aL;simp[hC,P6,eZ];refine aX ?_;simp;apply T.exit;simp;apply aY;simp[hC,wi];refine⟨p.fs.length-(i+1),by omega,?_⟩;refine aa.trim [6,1] [0] 1 Sq yA ⟨i+1,rfl,by omega,?_⟩;simp[eC]
   ·apply aL;simp[hC,N6,eC];refine aX ?_;simp;apply T.exit;simp;refine aa.trim [1] [0] 1 N3 yA ?_;simp
 rintro s rfl;apply ai;simp[hC,eC];refine TL.call Oc rfl rfl (bH.of rfl (by rfl) YR) (TL.Bz af ?_);have hTz:(ET p).size≤1000000:=by omega
 have UD:dE (bs (ET p))=.az (pO (ET p)) (ET p).size:=by rw[dE,lp];rfl
 rw[UD] at hlx;simp[hC,hTz];refine TL.Bl Oc rfl rfl rfl (by rfl) hlx fun r hr=>TL.go' af ?_;obtain⟨cs,n,e,rfl⟩:=hr;simp[hC];apply ai;simp[hC];apply T.ret;apply aa.here;simp[Tryz.results46]
theorem kB (x:En):(ic x).length=3:=rfl
def J59 (E:List En)(s:ByteArray)(n:Nat)(st:St):Prop:=∃ i:Nat,n=E.length-i∧i≤E.length∧iJ E s=iJ (E.drop i) s∧st=⟨[(6,I i),(5,.bool false),(4,.aq 0 0),(0,.az (E.flatMap ic) E.length),(1,.str s)],[(0,⟨118,0,[.str ⟨#[]⟩,I 0,I 0]⟩)],1⟩
def qB:Option En→CV
 | some x=>.dI [.agg (ic x),.bool true]
 | none=>.dI [.agg [.str ⟨#[]⟩,I 0,I 0],.bool false]
theorem Ep (R:Option En):tree (qB R)=true:=by cases R<;>rfl
theorem qD (E:List En)(s:ByteArray)(hl:E.length≤100000):ae Tryz.prog 48 [.az (E.flatMap ic) E.length,.str s] (qB (iJ E s)):=by
 have O8:=fun (i:Nat) (x:En) (h:E[i]? = some x)=>aD (f:=ic) (n:=3) kB (m:=E) h;refine ae.aH af Tryz.func48 rfl N4 (by simp[Tryz.ntmps48]) (Ep _) fun C hC N8=>?_;rw[Tryz.ntmps48] at hC;apply ai;simp[hC];apply aL;simp[hC];apply T.block;refine T.aI (J59 E s) (n:=E.length) ?_ ?_
 ·refine aa.here ⟨0,by omega,by omega,rfl,?_⟩;simp
 ·rintro n st ⟨i,rfl,hi,hf,rfl⟩;by_cases N6:i<E.length
  ·obtain⟨a,OZ⟩:∃ a,E[i]? = some a:=⟨E[i],List.getElem?_eq_getElem N6⟩;have N7:=O8 i a OZ;have wi:=cf ((i:Int)+1) yA yA;have hd:E.drop i=a::E.drop (i+1):=by
    rw[List.drop_eq_getElem_cons N6,(List.getElem?_eq_some_iff.1 OZ).2]
   rw[hd,iJ] at hf;apply aL;simp[hC,N6];refine fh ?_;simp;apply eG;apply ai;simp[hC,N6,N7,ic,iv];by_cases hn:a.name=s
   ·rw[if_pos hn] at hf;simp only[hn,decide_true];refine cB ?_;simp;apply ai;simp[hC,N6,N7,ic];apply T.ret;apply aa.here;simp[Tryz.results48,hf,qB,ic]
   ·rw[if_neg hn] at hf;simp only[hn,decide_false];refine dv ?_;simp;apply aY;simp[hC,wi];refine⟨E.length-(i+1),by omega,?_⟩;refine aa.trim [6,5,4,0,1] [0] 1 N3 yA ⟨i+1,rfl,by omega,hf,?_⟩;simp
  ·have Oe:i=E.length:=by omega
   rw[Oe,List.drop_length,iJ] at hf;apply aL;simp[hC,N6];refine aX ?_;simp;apply T.exit;simp;apply ai;simp[hC];apply T.ret;apply aa.here;simp[Tryz.results48,hf,qB]
def oI (p:Pg)(E:List En)(k st cl sl:Nat):List CV:=[.az (p.gs.flatMap o0) p.gs.length,.az (p.ms.flatMap eM) p.ms.length,.az (p.fs.flatMap eZ) p.fs.length,.az (E.flatMap ic) E.length,I k,I st,I 0,I 0,.bp 1 0 cl,.bp 2 0 sl]
def de (p:Pg)(E:List En)(k st cl sl:Nat):Ob:=⟨178,0,oI p E k st cl sl⟩
theorem sw (p:Pg)(E:List En)(k st cl sl:Nat)(hl:E.length≤100000)(s:ByteArray)(x:En)(hx:iJ E s=some x)(hk:x.kind=1∨x.kind=4)(n:Int) :
  Body Tryz.prog av 112 [.aq 0 0,.str s,I n] [(0,de p E k st cl sl)] 3 (jA (.agg (ic x)) [(0,de p E k st cl sl)] 3):=by
 have hf:=qD E s hl;rw[hx] at hf;refine Body.iV Tryz.func112 rfl N4 (by simp[Tryz.ntmps112]) fun C hC N8=>?_;rw[Tryz.ntmps112] at hC;apply ai;simp[hC];apply ai;simp[hC,de,oI];refine dc Od (hf) ?_;simp[hC,qB,ic];obtain⟨nm,kd,nn⟩:=x;simp only at hk ⊢;rcases hk with rfl | rfl
 ·apply eG;apply ai;simp[hC];refine aX ?_;simp;apply ai;simp[hC];refine dv ?_;simp;apply ai;simp[hC];apply T.ret;refine aa.le (Le.trim [6] [0,3] 4 QA yA) ?_;simp;refine aa.le (Le.nz [] [3]) ?_;simp;refine aa.le (Le.cV (o:=3) rfl TV) ?_;simp;refine aa.trim [6] [0] 3 N3 yA ⟨_,?_,rfl,?_,rfl⟩
  ·simp
  ·simp
 ·apply eG;apply ai;simp[hC];refine aX ?_;simp;apply ai;simp[hC];refine dv ?_;simp;apply ai;simp[hC];apply T.ret;refine aa.le (Le.trim [6] [0,3] 4 QA yA) ?_;simp;refine aa.le (Le.nz [] [3]) ?_;simp;refine aa.le (Le.cV (o:=3) rfl TV) ?_;simp;refine aa.trim [6] [0] 3 N3 yA ⟨_,?_,rfl,?_,rfl⟩
  ·simp
  ·simp
def k8 (l:List Ex):Ob:=⟨131,4,l.flatMap bM⟩
def J131 (p:Pg)(E:List En)(k st cl sl:Nat)(e:Ex)(n:Int)(m:Nat)(s:St):Prop:=∃ i:Nat,m=e.args.length-i∧i≤e.args.length∧
 s=⟨[(9,I i),(8,.aq 5 0),(6,.aq 4 0),(4,.aq 3 0),(0,.aq 0 0),(2,I n)],[(0,de p E k st cl sl),(3,⟨131,0,bM e⟩),(4,⟨131,0,[I 0,I 0,.str ⟨#[]⟩,.aj]⟩),(5,⟨131,0,[I e.op,I e.n,.str ⟨#[]⟩,.bp 6 0 i]⟩),(6,k8 ((e.args.take i).map (dP E)))],7⟩
set_option maxHeartbeats 4000000 in
theorem mf (p:Pg)(E:List En)(k st cl sl:Nat)(n:Int)(e e':Ex)(Ol:(e.op == 2)=false)(h1:e'.op=e.op)(h2:e'.n=e.n)(h3:e'.name=eS)(h4:e'.args=e.args.map (dP E))(Tg:e.args.length≤2)
  (ha:∀ x∈e.args,Body Tryz.prog av 111 [.aq 0 0,.agg (bM x),I n] [(0,de p E k st cl sl)] 3 (jA (.agg (bM (dP E x))) [(0,de p E k st cl sl)] 3)) :
  Body Tryz.prog av 111 [.aq 0 0,.agg (bM e),I n] [(0,de p E k st cl sl)] 3 (jA (.agg (bM e')) [(0,de p E k st cl sl)] 3):=by
 have O8:=fun (i:Nat) (x:Ex) (h:e.args[i]? = some x)=>aD (f:=bM) (n:=4) bK (m:=e.args) h;refine Body.iV Tryz.func111 rfl N4 (by simp[Tryz.ntmps111]) fun C hC N8=>?_;rw[Tryz.ntmps111] at hC;rw[bW e];apply ai;simp[hC];apply aL;simp[hC,Ol];refine dv ?_;simp;apply ai;simp[hC];apply aL;simp[hC];apply T.block;refine T.aI (J131 p E k st cl sl e n) (n:=e.args.length) ?_ ?_
 ·refine aa.le (Le.oL 5 3 131 4 rfl rfl) ?_;simp;refine aa.trim [9,8,6,4,0,2] [0,3,4,5,6] 7 (by simp[de,oI]) yA ⟨0,by omega,by omega,?_⟩;rw[bW e];simp[k8]
 ·rintro m s ⟨i,rfl,hi,rfl⟩;by_cases N6:i<e.args.length
  ·obtain⟨a,OZ⟩:∃ a,e.args[i]? = some a:=⟨e.args[i],List.getElem?_eq_getElem N6⟩;have N7:=O8 i a OZ;have hb:=ha a (List.mem_of_getElem? OZ);have wi:=cf ((i:Int)+1) yA yA;rw[bW e];apply aL;simp[hC,N6];refine fh ?_;simp;apply eG;refine T.rx af follows [0,1,2,3,4,5,6,7,8,9,10,11,12,13] [(1,9),(1,10)] N4 ?_;simp[hC,N6,N7];have On:List.take (i+1) (List.map (dP E) e.args)=List.take i (List.map (dP E) e.args)++[dP E a]:=by
    rw[List.take_add_one,List.getElem?_map,OZ];rfl
   have V8:(List.take i (List.map (dP E) e.args)).length=i:=by simp;omega
   generalize hN:List.take i (List.map (dP E) e.args)=N at On V8;have Uw:=aM (f:=bM) (n:=4) bK N;rw[V8] at Uw;have TP:(i+1)*56≤140737488355328:=by omega
   have hbd2:(i+1)*64≤140737488355328:=by omega
   refine RX.bS [0] [] 3 (hb) rfl N3 rfl rfl rfl rfl N3 OP OO rfl rfl rfl N3 ?_;simp[k8,bK,Uw,TP,aS,-List.length_flatMap];apply aY;simp[hC,wi];refine⟨e.args.length-(i+1),by omega,?_⟩;have XP:(N++[dP E a]).flatMap bM=N.flatMap bM++bM (dP E a):=by simp
   have Qh:trees (N.flatMap bM++bM (dP E a))=true:=by rw[← XP];exact aO bz _
   refine aa.le (Le.trim [9,8,6,4,0,2] [0,3,4,5,21] 22 yCw yA) ?_;simp;refine aa.le (Le.oJ 21 6 rfl rfl yA N3 N3 yCv) ?_;simp only[de,oI];simp[a7 (aO bz N)];have Wj:(e.args.take (i+1)).map (dP E)=N++[dP E a]:=by rw[List.map_take];exact On
   refine aa.trim [9,8,6,4,0,2] [0,3,4,5,6] 7 yDe yA ⟨i+1,rfl,by omega,?_⟩;rw[Wj,bW e];simp[k8,de,oI]
  ·have Oe:i=e.args.length:=by omega
   rw[bW e];apply aL;simp[hC,N6];refine aX ?_;simp;apply T.exit;simp;apply ai;simp[hC];apply T.ret;subst Oe;have On:List.take e.args.length (List.map (dP E) e.args)=e'.args:=by rw[h4];exact List.take_of_length_le N3
   have Sx:((e'.args.flatMap bM).take (e.args.length*4))=e'.args.flatMap bM:=List.take_of_length_le (by rw[aM (f:=bM) (n:=4) bK,h4];simp);refine aa.le (Le.trim [6] [0,4,6] 7 yCy yA) ?_;simp;refine aa.le (Le.cV (o:=6) rfl (aO bz _)) ?_;simp[k8,On,Sx];refine aa.le (Le.cV (o:=4) rfl (by simp[trees,tree])) ?_;simp[de,oI];refine aa.trim [6] [0] 3 N3 yA ⟨_,?_,rfl,?_,rfl⟩
   ·simp[bW e',h1,h2,h3,h4,eS]
   ·simp
theorem jU (p:Pg){g:Nat}{ms:List Mx}{fs:List (ByteArray×List Pm)}{ps:List Pm}{V:List ByteArray}(E:List En)(k st cl sl:Nat)(hE:EW g ms fs ps V E k)(hl:E.length≤100000)(n:Int):∀ (d:Nat) (e:Ex),fK V d e →
  Body Tryz.prog av 111 [.aq 0 0,.agg (bM e),I n] [(0,de p E k st cl sl)] 3 (jA (.agg (bM (dP E e))) [(0,de p E k st cl sl)] 3):=by
 have SZ:∀ s∈V,Body Tryz.prog av 111 [.aq 0 0,.agg (bM (.nm s)),I n] [(0,de p E k st cl sl)] 3 (jA (.agg (bM (dP E (.nm s)))) [(0,de p E k st cl sl)] 3):=by
  intro s hs;obtain⟨c,j,h1,h2⟩:=hE.v s hs;have hv:=sw p E k st cl sl hl s _ h1 (by simp only;omega) n;simp only[dP,gV h1];refine Body.iV Tryz.func111 rfl N4 (by simp[Tryz.ntmps111]) fun C hC N8=>?_;rw[Tryz.ntmps111] at hC;simp only[de,oI] at hv ⊢;apply ai;simp[hC,bM];apply aL;simp[hC];refine cB ?_;simp;apply ai;simp[hC];refine TL.bS af [0] 3 (hv) Oc rfl rfl rfl rfl N3 OP OO rfl (TL.go' af ?_);simp[hC,ic];rcases h2 with ⟨rfl,h2⟩ | ⟨rfl,h2⟩
  ·apply aL;simp[hC];refine cB ?_;simp;apply ai;simp[hC];apply T.ret;refine aa.le (Le.trim [6] [0,4] 5 QA yA) ?_;simp;refine aa.le (Le.nz [] [4]) ?_;simp;refine aa.le (Le.cV (o:=4) rfl TV) ?_;simp;refine aa.trim [6] [0] 3 N3 yA ⟨_,?_,rfl,?_,rfl⟩
   ·simp[bM,eS]
   ·simp
  ·apply aL;simp[hC];refine dv ?_;simp;apply ai;simp[hC];apply T.ret;refine aa.le (Le.trim [6] [0,4] 5 QA yA) ?_;simp;refine aa.le (Le.nz [] [4]) ?_;simp;refine aa.le (Le.cV (o:=4) rfl TV) ?_;simp;refine aa.trim [6] [0] 3 N3 yA ⟨_,?_,rfl,?_,rfl⟩
   ·simp[bM,eS]
   ·simp
 intro d
 induction d with
 | zero=>
  intro e hw
  match e,hw with
  | .nm s,hw=>exact SZ s (by simpa [fK] using hw)
  | .num c,hw=>exact mf p E k st cl sl n (.num c) (.num c) rfl rfl rfl rfl rfl RJ RJ
 | succ d ih=>
  intro e hw
  match e,hw with
  | .nm s,hw=>exact SZ s (by simpa [fK] using hw)
  | .num c,hw=>exact mf p E k st cl sl n (.num c) (.num c) rfl rfl rfl rfl rfl RJ RJ
  | .un o x,hw=>
   simp only[fK] at hw;refine mf p E k st cl sl n (.un o x) (.un o (dP E x)) (by simp[Ex.op];omega) rfl rfl rfl rfl RJ fun y hy=>?_;simp only[Ex.args,List.mem_singleton] at hy;subst hy;exact ih _ hw.2
  | .bin o x y,hw=>
   simp only[fK] at hw;refine mf p E k st cl sl n (.bin o x y) (.bin o (dP E x) (dP E y)) (by simp[Ex.op];omega) rfl rfl rfl rfl RJ fun z hz=>?_;simp only[Ex.args,List.mem_cons,List.not_mem_nil,or_false] at hz;rcases hz with rfl | rfl
   ·exact ih _ hw.2.1
   ·exact ih _ hw.2.2
end Go.Proofs.YtlkmbdfhdknlgaaGreatDoor
