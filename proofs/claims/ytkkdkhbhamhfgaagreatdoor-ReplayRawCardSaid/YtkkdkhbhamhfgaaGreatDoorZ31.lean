/- program: the text of a program. -/
import Derived.Test.YtkkdkhbhamhfgaaGreatDoorZ30
namespace Go.Proofs.YtkkdkhbhamhfgaaGreatDoor
open Go.Can Go.aT
def J91a (p:Pg)(X:ByteArray)(n:Nat)(s:St):Prop:=∃ (i:Nat) (x:ByteArray),n=p.gs.length-i∧i≤p.gs.length∧x++(iw GL (p.gs.drop i)++iw FF p.ms++iw BV p.fs)=X∧s=⟨[(4,I i),(3,.str x),(1,.ai 0 0)],[(0,⟨27,0,dH p⟩)],1⟩
def J91b (p:Pg)(X:ByteArray)(n:Nat)(s:St):Prop:=∃ (i:Nat) (x:ByteArray),n=p.ms.length-i∧i≤p.ms.length∧x++(iw FF (p.ms.drop i)++iw BV p.fs)=X∧s=⟨[(5,I i),(3,.str x),(1,.ai 0 0)],[(0,⟨27,0,dH p⟩)],1⟩
def J91c (p:Pg)(X:ByteArray)(n:Nat)(s:St):Prop:=∃ (i:Nat) (x:ByteArray),n=p.fs.length-i∧i≤p.fs.length∧x++iw BV (p.fs.drop i)=X∧s=⟨[(7,I i),(3,.str x),(1,.ai 0 0)],[(0,⟨27,0,dH p⟩)],1⟩
def J91d (p:Pg)(i:Nat)(nm:ByteArray)(ps:List Pm)(bd:List Sm)(Y:ByteArray)(n:Nat)(s:St):Prop:=∃ (q:Nat) (z:ByteArray),n=ps.length-q∧q≤ps.length∧z++qZ (decide (q=0)) (ps.drop q)=Y∧s=⟨[(9,I q),(8,.ai 1 0),(7,I i),(3,.str z),(1,.ai 0 0)],[(0,⟨27,0,dH p⟩),(1,⟨109,0,ed ⟨nm,ps,bd⟩⟩)],2⟩
theorem vh (b:ByteArray):(⟨#[]⟩:ByteArray)++b=b:=ByteArray.empty_append
theorem kL (b:ByteArray):b++(⟨#[]⟩:ByteArray)=b:=ByteArray.append_empty
set_option maxHeartbeats 8000000 in
theorem wD (p:Pg)(JX:(Ba p).size≤1000000)(h1:p.gs.length≤100)(h2:p.ms.length≤100)(h3:p.fs.length≤100)(hg:∀ g∈p.gs,-1000≤g.init∧g.init≤1000)(hm:∀ m∈p.ms,m.size≤1000)
  (hf:∀ f∈p.fs,f.params.length≤100∧ae Tryz.prog 109 [.au (bh f.body) f.body.length,.str ⟨#[9]⟩] (.str (g6 ⟨#[9]⟩ f.body))):ae Tryz.prog 83 [tv p] (.str (Ba p)):=by
 obtain⟨X,hX⟩:∃ X,Ba p=X:=⟨_,rfl⟩;rw[hX] at JX ⊢;unfold Ba at hX;have fg:=fun (k:Nat) (a:Gl) (h:p.gs[k]? = some a)=>az (f:=mL) (n:=2) (fun _=>rfl) h;have Wx:=fun (k:Nat) (a:Gl) (h:p.gs[k]? = some a)=>bb (f:=mL) (n:=2) (fun _=>rfl) h 1 yA;have fm:=fun (k:Nat) (a:Mx) (h:p.ms[k]? = some a)=>az (f:=eQ) (n:=3) (fun _=>rfl) h;have ff:=fun (k:Nat) (a:Fu) (h:p.fs[k]? = some a)=>az (f:=ed) (n:=3) (fun _=>rfl) h;refine ae.aD af Tryz.func83 rfl JN (by simp[Tryz.ntmps83]) rfl fun C hC JR=>?_;rw[Tryz.ntmps83] at hC;apply ah;simp[hC,tv,dH];apply ah;simp[hC];refine T.cut (fun s=>∃ x,x++(iw FF p.ms++iw BV p.fs)=X∧s=⟨[(3,.str x),(1,.ai 0 0)],[(0,⟨27,0,dH p⟩)],1⟩) ?_ ?_
 ·apply ah;simp[hC];apply T.block;refine T.aI (J91a p X) (n:=p.gs.length) ?_ ?_
  ·refine aa.trim [4,3,1] [0] 1 JM yA ⟨0,⟨#[]⟩,by omega,by omega,?_,?_⟩
   ·rw[vh];exact hX
   ·simp[dH]
  ·rintro n s ⟨i,x,rfl,hi,hx,rfl⟩;by_cases JP:i<p.gs.length
   ·obtain⟨a,Kt⟩:∃ a,p.gs[i]? = some a:=⟨p.gs[i],List.getElem?_eq_getElem JP⟩;have JQ:=fg i a Kt;have KG:=Wx i a Kt;have Ko:=hg a (List.mem_of_getElem? Kt);have wi:=cm ((i:Int)+1) yA yA;have hd:p.gs.drop i=a::p.gs.drop (i+1):=by
     rw[List.drop_eq_getElem_cons JP,(List.getElem?_eq_some_iff.1 Kt).2]
    rw[hd,iw] at hx;have hz:=congrArg ByteArray.size hx;simp only[GL,vS,ByteArray.size_append] at hz;have s0:=aq x ⟨#[118,97,114,32]⟩ yA;have s1:=aq (x++⟨#[118,97,114,32]⟩) a.name yB;apply aL;simp[hC,JP,dH];refine gF ?_;simp;apply fw;apply ah;simp[hC,JP,JQ,mL,s0,s1];by_cases h0:a.init=0
    ·rw[if_pos h0] at hz;have s2:=aq (x++⟨#[118,97,114,32]⟩++a.name) ⟨#[59,10]⟩ yB;apply aL;simp[hC,JP,JQ,mL,h0];refine dg ?_;simp;apply a8;simp[hC,s2];apply a8;simp[hC,wi];refine⟨p.gs.length-(i+1),by omega,?_⟩;refine aa.trim [4,3,1] [0] 1 JM yA ⟨i+1,x++⟨#[118,97,114,32]⟩++a.name++⟨#[59,10]⟩,rfl,by omega,?_,?_⟩
     ·rw[← hx,GL,if_pos h0,kL];simp only[vS,ByteArray.append_assoc]
     ·simp[dH]
    ·rw[if_neg h0] at hz;simp only[Cq,ByteArray.size_append] at hz;have Wv:(a.init != 0)=true:=by simp[h0]
     have s2:=aq (x++⟨#[118,97,114,32]⟩++a.name) ⟨#[32,61,32]⟩ yB;have s3:=aq (x++⟨#[118,97,114,32]⟩++a.name++⟨#[32,61,32]⟩) (jC a.init) yB;have s4:=aq (x++⟨#[118,97,114,32]⟩++a.name++⟨#[32,61,32]⟩++jC a.init) ⟨#[59,10]⟩ yB;apply aL;simp[hC,JP,JQ,mL,Wv];refine cz ?_;simp;apply a8;simp[hC,JP,JQ,mL,s2];refine dk JV (mX a.init yA yA) ?_;simp[hC,s3];apply a8;simp[hC,s4];apply a8;simp[hC,wi];refine⟨p.gs.length-(i+1),by omega,?_⟩;refine aa.trim [4,3,1] [0] 1 JM yA ⟨i+1,x++⟨#[118,97,114,32]⟩++a.name++⟨#[32,61,32]⟩++jC a.init++⟨#[59,10]⟩,rfl,by omega,?_,?_⟩
     ·rw[← hx,GL,if_neg h0];simp only[vS,Cq,ByteArray.append_assoc]
     ·simp[dH]
   ·have JW:i=p.gs.length:=by omega
    rw[JW,List.drop_length,iw,vh] at hx;apply aL;simp[hC,JP,dH];refine aU ?_;simp;apply T.exit;simp;refine aa.trim [3,1] [0] 1 JM yA ⟨x,hx,?_⟩;simp
 rintro s ⟨x0,R3,rfl⟩;clear hX;refine T.cut (fun s=>∃ x,x++iw BV p.fs=X∧s=⟨[(3,.str x),(1,.ai 0 0)],[(0,⟨27,0,dH p⟩)],1⟩) ?_ ?_
 ·apply ah;simp[hC];apply T.block;refine T.aI (J91b p X) (n:=p.ms.length) ?_ ?_
  ·refine aa.trim [5,3,1] [0] 1 Np yA ⟨0,x0,by omega,by omega,R3,?_⟩;simp
  ·rintro n s ⟨i,x,rfl,hi,hx,rfl⟩;by_cases JP:i<p.ms.length
   ·obtain⟨a,Kt⟩:∃ a,p.ms[i]? = some a:=⟨p.ms[i],List.getElem?_eq_getElem JP⟩;have JQ:=fm i a Kt;have Ko:=hm a (List.mem_of_getElem? Kt);have wi:=cm ((i:Int)+1) yA yA;have hd:p.ms.drop i=a::p.ms.drop (i+1):=by
     rw[List.drop_eq_getElem_cons JP,(List.getElem?_eq_some_iff.1 Kt).2]
    rw[hd,iw,FF] at hx;have hz:=congrArg ByteArray.size hx;simp only[ByteArray.size_append] at hz;apply aL;simp[hC,JP,dH];refine gF ?_;simp;apply fw;apply ah;simp[hC,JP,JQ,eQ];obtain⟨y,hy⟩:∃ y,x++(if a.re=true then ⟨#[114]⟩ else ⟨#[]⟩)=y:=⟨_,rfl⟩;have RZ:y.size=x.size+(if a.re=true then (⟨#[114]⟩:ByteArray) else ⟨#[]⟩).size:=by rw[← hy,ByteArray.size_append]
    have hyX:y.size≤1000000:=by omega
    refine T.cut (fun s=>s=⟨[(6,.ai 1 0),(5,I i),(3,.str y),(1,.ai 0 0)],[(0,⟨27,0,dH p⟩),(1,⟨89,0,eQ a⟩)],2⟩) ?_ ?_
    ·apply ah;simp[hC];refine T.cond (b:=a.re) rfl ?_
     cases LQ:a.re with
     | true=>
      rw[LQ,if_pos rfl] at hy RZ;have s0:=aq x ⟨#[114]⟩ yA;simp;apply a8;simp[hC,s0];refine aa.trim [6,5,3,1] [0,1] 2 JM yA ?_;simp[← hy,eQ,LQ,dH]
     | false=>
      rw[LQ,if_neg JM,kL] at hy;simp;apply T.skip;simp;refine aa.trim [6,5,3,1] [0,1] 2 JM yA ?_;simp[← hy,eQ,LQ,dH]
    rintro s rfl;have s1:=aq y ⟨#[109,117,116,101,120,32]⟩ yA;have s2:=aq (y++⟨#[109,117,116,101,120,32]⟩) a.name yB;apply ah;simp[hC,s1,s2,eQ];have LK:y++(⟨#[109,117,116,101,120,32]⟩++a.name++(if a.size=0 then ⟨#[]⟩ else ⟨#[91]⟩++jC a.size++⟨#[93]⟩)++⟨#[59,10]⟩++(iw FF (p.ms.drop (i+1))++iw BV p.fs))=X:=by
     rw[← hx,← hy];simp only[ByteArray.append_assoc]
    by_cases h0:a.size=0
    ·rw[if_pos h0] at hz LK;have s3:=aq (y++⟨#[109,117,116,101,120,32]⟩++a.name) ⟨#[59,10]⟩ yB;apply aL;simp[hC,h0];refine dg ?_;simp;apply a8;simp[hC,s3];apply a8;simp[hC,wi];refine⟨p.ms.length-(i+1),by omega,?_⟩;refine aa.trim [5,3,1] [0] 1 Np yA ⟨i+1,y++⟨#[109,117,116,101,120,32]⟩++a.name++⟨#[59,10]⟩,rfl,by omega,?_,?_⟩
     ·rw[← LK,kL];simp only[ByteArray.append_assoc]
     ·simp[dH]
    ·rw[if_neg h0] at hz LK;simp only[ByteArray.size_append] at hz;have Wv:0<a.size:=by omega
     have s3:=aq (y++⟨#[109,117,116,101,120,32]⟩++a.name) ⟨#[91]⟩ yB;have s4:=aq (y++⟨#[109,117,116,101,120,32]⟩++a.name++⟨#[91]⟩) (jC a.size) yB;have s5:=aq (y++⟨#[109,117,116,101,120,32]⟩++a.name++⟨#[91]⟩++jC a.size) ⟨#[93]⟩ yB;have s6:=aq (y++⟨#[109,117,116,101,120,32]⟩++a.name++⟨#[91]⟩++jC a.size++⟨#[93]⟩) ⟨#[59,10]⟩ yB;apply aL;simp[hC,Wv];refine cz ?_;simp;apply a8;simp[hC,s3];refine dk JV (mX (a.size:Int) yA yA) ?_;simp[hC,s4,s5];apply a8;simp[hC,s6];apply a8;simp[hC,wi];refine⟨p.ms.length-(i+1),by omega,?_⟩;refine aa.trim [5,3,1] [0] 1 Np yA ⟨i+1,y++⟨#[109,117,116,101,120,32]⟩++a.name++⟨#[91]⟩++jC a.size++⟨#[93]⟩++⟨#[59,10]⟩,rfl,by omega,?_,?_⟩
     ·rw[← LK];simp only[ByteArray.append_assoc]
     ·simp[dH]
   ·have JW:i=p.ms.length:=by omega
    rw[JW,List.drop_length,iw,vh] at hx;apply aL;simp[hC,JP,dH];refine aU ?_;simp;apply T.exit;simp;refine aa.trim [3,1] [0] 1 JM yA ⟨x,hx,?_⟩;simp
 rintro s ⟨x1,PA,rfl⟩;clear R3;refine T.cut (fun s=>s=⟨[(3,.str X),(1,.ai 0 0)],[(0,⟨27,0,dH p⟩)],1⟩) ?_ ?_
 ·apply ah;simp[hC];apply T.block;refine T.aI (J91c p X) (n:=p.fs.length) ?_ ?_
  ·refine aa.trim [7,3,1] [0] 1 Np yA ⟨0,x1,by omega,by omega,PA,?_⟩;simp
  ·rintro n s ⟨i,x,rfl,hi,hx,rfl⟩;by_cases JP:i<p.fs.length
   ·obtain⟨a,Kt⟩:∃ a,p.fs[i]? = some a:=⟨p.fs[i],List.getElem?_eq_getElem JP⟩;have JQ:=ff i a Kt;obtain⟨LR,JY⟩:=hf a (List.mem_of_getElem? Kt);have wi:=cm ((i:Int)+1) yA yA;have hd:p.fs.drop i=a::p.fs.drop (i+1):=by
     rw[List.drop_eq_getElem_cons JP,(List.getElem?_eq_some_iff.1 Kt).2]
    rw[hd,iw,BV] at hx;obtain⟨nm,ps,bd⟩:=a;simp only at hx LR JY;have hz:=congrArg ByteArray.size hx;simp only[ByteArray.size_append] at hz;obtain⟨y,hy⟩:∃ y,x++⟨#[102,117,110,99,32]⟩++nm++⟨#[40]⟩=y:=⟨_,rfl⟩;have RZ:y.size=x.size+(⟨#[102,117,110,99,32]⟩:ByteArray).size+nm.size+(⟨#[40]⟩:ByteArray).size:=by rw[← hy];simp only[ByteArray.size_append]
    obtain⟨Y,hY⟩:∃ Y,y++qZ true ps=Y:=⟨_,rfl⟩;have Xw:Y.size=y.size+(qZ true ps).size:=by rw[← hY,ByteArray.size_append]
    have LK:Y++(⟨#[41,32,123,10]⟩++g6 nN bd++⟨#[125,10]⟩++iw BV (p.fs.drop (i+1)))=X:=by
     rw[← hx,← hY,← hy];simp only[ByteArray.append_assoc]
    have s0:=aq x ⟨#[102,117,110,99,32]⟩ yA;have s1:=aq (x++⟨#[102,117,110,99,32]⟩) nm yB;have s2:=aq (x++⟨#[102,117,110,99,32]⟩++nm) ⟨#[40]⟩ yB;rw[hy] at s2;apply aL;simp[hC,JP,dH];refine gF ?_;simp;apply fw;apply ah;simp[hC,JP,JQ,ed];apply ah;simp[hC,s0,s1,s2];refine T.cut (fun s=>s=⟨[(8,.ai 1 0),(7,I i),(3,.str Y),(1,.ai 0 0)],[(0,⟨27,0,dH p⟩),(1,⟨109,0,ed ⟨nm,ps,bd⟩⟩)],2⟩) ?_ ?_
    ·apply ah;simp[hC];apply T.block;refine T.aI (J91d p i nm ps bd Y) (n:=ps.length) ?_ ?_
     ·refine aa.trim [9,8,7,3,1] [0,1] 2 JM yA ⟨0,y,by omega,by omega,hY,?_⟩;simp[ed,dH]
     ·rintro n s ⟨q,z,rfl,hq,RY,rfl⟩;by_cases Oh:q<ps.length
      ·obtain⟨b,Pf⟩:∃ b,ps[q]? = some b:=⟨ps[q],List.getElem?_eq_getElem Oh⟩;have MY:=az (f:=jB) (n:=2) (fun _=>rfl) Pf;have LS:=bb (f:=jB) (n:=2) (fun _=>rfl) Pf 1 yA;have wq:=cm ((q:Int)+1) yA yA;have M8:ps.drop q=b::ps.drop (q+1):=by
        rw[List.drop_eq_getElem_cons Oh,(List.getElem?_eq_some_iff.1 Pf).2]
       rw[M8,qZ] at RY;have Yf:=congrArg ByteArray.size RY;simp only[ByteArray.size_append] at Yf;apply aL;simp[hC,Oh,ed];refine gF ?_;simp;apply fw;obtain⟨u,hu⟩:∃ u,z++(if decide (q=0)=true then ⟨#[]⟩ else ⟨#[44,32]⟩)=u:=⟨_,rfl⟩;have OF:u.size=z.size+(if decide (q=0)=true then (⟨#[]⟩:ByteArray) else ⟨#[44,32]⟩).size:=by rw[← hu,ByteArray.size_append]
       obtain⟨v,hv⟩:∃ v,u++(if b.mutex=true then ⟨#[109,117,116,101,120,32]⟩ else ⟨#[]⟩)=v:=⟨_,rfl⟩;have UQ:v.size=u.size+(if b.mutex=true then (⟨#[109,117,116,101,120,32]⟩:ByteArray) else ⟨#[]⟩).size:=by rw[← hv,ByteArray.size_append]
       have hvX:v.size≤1000000:=by omega
       have huX:u.size≤1000000:=by omega
       refine T.cut (fun s=>s=⟨[(9,I q),(8,.ai 1 0),(7,I i),(3,.str u),(1,.ai 0 0)],[(0,⟨27,0,dH p⟩),(1,⟨109,0,ed ⟨nm,ps,bd⟩⟩)],2⟩) ?_ ?_
       ·apply ah;simp[hC];by_cases TU:q=0
        ·have Pf:¬ 0<q:=by omega
         simp only[TU,decide_true,if_true,kL] at hu;simp only[Pf,decide_false];refine dg ?_;simp;refine aa.trim [9,8,7,3,1] [0,1] 2 Np yA ?_;simp[hu,ed,dH]
        ·have Pf:0<q:=by omega
         have e0:decide (q=0)=false:=by simp[TU]
         rw[e0] at hu OF;simp only[Bool.false_eq_true,if_false] at hu OF;have t0:=aq z ⟨#[44,32]⟩ yA;rw[hu] at t0;simp only[Pf,decide_true];refine cz ?_;simp;apply a8;simp[hC,t0];refine aa.trim [9,8,7,3,1] [0,1] 2 Np yA ?_;simp[ed,dH]
       rintro s rfl;refine T.cut (fun s=>s=⟨[(9,I q),(8,.ai 1 0),(7,I i),(3,.str v),(1,.ai 0 0)],[(0,⟨27,0,dH p⟩),(1,⟨109,0,ed ⟨nm,ps,bd⟩⟩)],2⟩) ?_ ?_
       ·apply ah;simp[hC,Oh,LS,jB,ed];refine T.cond (b:=b.mutex) rfl ?_
        cases Th:b.mutex with
        | true=>
         rw[Th,if_pos rfl] at hv UQ;have t0:=aq u ⟨#[109,117,116,101,120,32]⟩ yA;rw[hv] at t0;simp;apply a8;simp[hC,t0];refine aa.trim [9,8,7,3,1] [0,1] 2 Np yA ?_;simp[dH]
        | false=>
         rw[Th,if_neg JM,kL] at hv;simp;apply T.skip;simp;refine aa.trim [9,8,7,3,1] [0,1] 2 Np yA ?_;simp[hv,dH]
       rintro s rfl;have t1:=aq v b.name yA;apply a8;simp[hC,Oh,MY,jB,ed,t1];apply a8;simp[hC,wq];refine⟨ps.length-(q+1),by omega,?_⟩;refine aa.trim [9,8,7,3,1] [0,1] 2 Np yA ⟨q+1,v++b.name,rfl,by omega,?_,?_⟩
       ·rw[← RY,← hv,← hu];simp only[ByteArray.append_assoc];simp
       ·simp[ed,dH]
      ·have JW:q=ps.length:=by omega
       rw[JW,List.drop_length,qZ,kL] at RY;subst RY;apply aL;simp[hC,Oh,ed];refine aU ?_;simp;apply T.exit;simp;refine aa.trim [8,7,3,1] [0,1] 2 Np yA ?_;simp[dH]
    rintro s rfl;have t0:=aq Y ⟨#[41,32,123,10]⟩ yA;have t1:=aq (Y++⟨#[41,32,123,10]⟩) (g6 ⟨#[9]⟩ bd) WI;have t2:=aq (Y++⟨#[41,32,123,10]⟩++g6 ⟨#[9]⟩ bd) ⟨#[125,10]⟩ WI;apply a8;simp[hC,t0,ed];refine dk JV (JY) ?_;simp[hC,t1,t2];apply a8;simp[hC,wi];refine⟨p.fs.length-(i+1),by omega,?_⟩;refine aa.trim [7,3,1] [0] 1 Np yA ⟨i+1,Y++⟨#[41,32,123,10]⟩++g6 ⟨#[9]⟩ bd++⟨#[125,10]⟩,rfl,by omega,?_,?_⟩
    ·rw[← LK];simp only[ByteArray.append_assoc];rfl
    ·simp[dH]
   ·have JW:i=p.fs.length:=by omega
    rw[JW,List.drop_length,iw,kL] at hx;subst hx;apply aL;simp[hC,JP,dH];refine aU ?_;simp;apply T.exit;simp;refine aa.trim [3,1] [0] 1 JM yA ?_;simp
 rintro s rfl;apply ah;simp[hC];apply T.ret;apply aa.here;simp[Tryz.results83]
theorem ql:∀ s∈nG++nM++nF++nP,bs s∉pa:=by decide
theorem Ht (k:Nat)(hk:k<24):bs (eA k)∉pa:=by
 rw[fh];exact (by decide:∀ k,k<24→[118,UInt8.ofNat (97+k % 26),UInt8.ofNat (97+k / 26 % 26)]∉pa) k hk
theorem vL (k:Nat)(hk:k<24):kO (eA k):=by
 refine⟨⟨⟨118,_,fh k,by decide⟩,?_,by rw[fh];simp⟩,Ht k hk⟩;rw[fh];exact (by decide:∀ k,k<24→List.all [118,UInt8.ofNat (97+k % 26),UInt8.ofNat (97+k / 26 % 26)] eF=true) k hk
theorem _root_.Go.aT.jg.gR {p:Pg}(h:jg p):∀ g∈p.gs,kO g.name:=fun g hg=>⟨h.ng g hg,by
 obtain⟨k,_,hk⟩:=h.gn;have:=List.mem_map_of_mem (f:=(·.name)) hg;rw[hk] at this;exact ql _ (by simp only[List.mem_append];exact .inl (.inl (.inl (List.mem_of_mem_take this))))⟩
theorem _root_.Go.aT.jg.mR {p:Pg}(h:jg p):∀ g∈p.ms,kO g.name:=fun g hg=>⟨h.nm g hg,by
 obtain⟨k,_,_,hk⟩:=h.mn;have:=List.mem_map_of_mem (f:=(·.name)) hg;rw[hk] at this;exact ql _ (by simp only[List.mem_append];exact .inl (.inl (.inr (List.mem_of_mem_take this))))⟩
theorem _root_.Go.aT.jg.fR {p:Pg}(h:jg p):∀ g∈p.fs,kO g.name:=fun g hg=>⟨h.nf g hg,by
 obtain⟨k,_,_,hk⟩:=h.fn;have:=List.mem_map_of_mem (f:=(·.name)) hg;rw[hk] at this;exact ql _ (by simp only[List.mem_append];exact .inl (.inr (List.mem_of_mem_take this)))⟩
theorem _root_.Go.aT.jg.pR {p:Pg}(h:jg p):∀ f∈p.fs,∀ q∈f.params,kO q.name:=fun f hf q hq=>⟨h.np f hf q hq,by
 obtain⟨k,_,hk⟩:=h.pn f hf;have:=List.mem_map_of_mem (f:=(·.name)) hq;rw[hk,List.mem_reverse] at this;exact ql _ (by simp only[List.mem_append];exact .inr (List.mem_of_mem_take this))⟩
theorem _root_.Go.aT.jg.vR {p:Pg}(h:jg p):∀ f∈p.fs,∀ s∈ij p.gs f.params,kO s:=fun f hf s hs=>by
 rcases rj hs with hs | hs
 ·rw[List.mem_map] at hs;obtain⟨g,hg,rfl⟩:=hs;exact h.gR g hg
 ·rw[List.mem_map] at hs;obtain⟨g,hg,rfl⟩:=hs;exact h.pR f hf g hg
theorem _root_.Go.aT.jg.pl {p:Pg}(h:jg p):∀ f∈p.fs,f.params.length≤2:=fun f hf=>by
 obtain⟨k,hk,OM⟩:=h.pn f hf;have:=congrArg List.length OM;simp[nP] at this;omega
theorem E3 (s:Sm):2≤dB s:=by cases s<;>simp only[dB]<;>omega
theorem iO:∀ l:List Sm,2*l.length≤bz l
 | []=>by simp[bz]
 | s::r=>by
  have:=iO r;have:=E3 s;simp only[bz,List.length_cons];omega
def OkF (deep:Nat)(s:Sm):Prop:=match s with
 | .fN nm e=>kO nm∧ae Tryz.prog 104 [.agg (bC e)] (.bool true)
 | .gz nm e=>kO nm∧ae Tryz.prog 104 [.agg (bC e)] (.bool true)
 | .dm _ nm al=>kO nm∧al.length≤1000∧∀ a∈al,okA a
 | .cR _ r=>RfR r
 | .jS e th el=>ae Tryz.prog 104 [.agg (bC e)] (.bool true)∧ae Tryz.prog 82 [.au (bh th) th.length,I ((deep+1:Nat))] (.bool true)∧ae Tryz.prog 82 [.au (bh el) el.length,I ((deep+1:Nat))] (.bool true)
 | .cb e th=>ae Tryz.prog 104 [.agg (bC e)] (.bool true)∧ae Tryz.prog 82 [.au (bh th) th.length,I ((deep+1:Nat))] (.bool true)
 | .ia=>True
theorem kz {l:List Sm}{deep:Nat}(hd:deep<20)(hl:l.length≤100000)(h:∀ s∈l,OkF deep s):ae Tryz.prog 82 [.au (bh l) l.length,I deep] (.bool true):=
 uV l deep hd hl fun s hs=>by
  have:=h s hs;cases s<;>exact this
section
variable {ms:List Mx}{fs:List (ByteArray×List Pm)}{ps:List Pm}(KL:∀ m∈ms,kO m.name)(K9:∀ x∈fs,kO x.1)(Lz:∀ x∈fs,x.2.length≤2)(K8:∀ q∈ps,kO q.name)
include KL K8
theorem rf_R {V:List ByteArray}(hV:∀ x∈V,kO x){r:Rf}(h:BX ms ps V r):RfR r:=by
 rcases h with ⟨m,hm,hn,hi⟩ | ⟨q,hq,_,hn,hi⟩
 ·refine⟨by rw[hn];exact KL m hm,fun e he=>?_⟩;rcases hi with ⟨hi,_⟩ | ⟨e',hi,_,hw⟩
  ·rw[hi] at he;cases he
  ·rw[hi] at he;cases he;exact eR hV 1 _ yA hw
 ·exact⟨by rw[hn];exact K8 q hq,fun e he=>by rw[hi] at he;cases he⟩
theorem GW {V:List ByteArray}(hV:∀ x∈V,kO x):∀ {gp:List Pm} {l:List Ar},gZ ms ps V gp l→∀ a∈l,okA a
 | [],[],_=>by simp
 | q::gp,a::l,h=>by
  simp only[gZ] at h;intro x hx;rcases List.mem_cons.1 hx with rfl | hx
  ·cases x with
   | ru r=>exact rf_R KL K8 hV h.1.2
   | exp e=>exact eR hV 2 _ yA h.1.2
  ·exact GW hV h.2 x hx
 | [],_::_,h=>h.elim
 | _::_,[],h=>h.elim
theorem rf_T {V:List ByteArray}(hV:∀ x∈V,kO x){r:Rf}(h:BX ms ps V r):IG r:=by
 have Tn:∀ x∈V,cJ x:=fun x hx=>(hV x hx).1;have hz:∀ s:ByteArray,cJ s→s.size≤100:=fun s hs=>by
  have:=hs.2.2;rw[jO] at this;omega
 rcases h with ⟨m,hm,hn,hi⟩ | ⟨q,hq,_,hn,hi⟩
 ·refine⟨by rw[hn];exact hz _ (KL m hm).1,fun e he=>?_⟩;rcases hi with ⟨hi,_⟩ | ⟨e',hi,_,hw⟩
  ·rw[hi] at he;cases he
  ·rw[hi] at he;cases he;exact⟨lQ Tn 1 _ yA hw,ka Tn (d:=1) yA hw⟩
 ·exact⟨by rw[hn];exact hz _ (K8 q hq).1,fun e he=>by rw[hi] at he;cases he⟩
theorem GV {V:List ByteArray}(hV:∀ x∈V,kO x):∀ {gp:List Pm} {l:List Ar},gZ ms ps V gp l→∀ a∈l,TxA a
 | [],[],_=>by simp
 | q::gp,a::l,h=>by
  simp only[gZ] at h;intro x hx;rcases List.mem_cons.1 hx with rfl | hx
  ·cases x with
   | ru r=>exact rf_T KL K8 hV h.1.2
   | exp e=>
    have Tn:∀ x∈V,cJ x:=fun x hx=>(hV x hx).1;exact⟨lQ Tn 2 _ yA h.1.2,ka Tn (d:=2) yA h.1.2⟩
  ·exact GV hV h.2 x hx
 | [],_::_,h=>h.elim
 | _::_,[],h=>h.elim
include K9 Lz
theorem wQ:(∀ s:Sm,∀ d V deep,(∀ x∈V,kO x)→deep+d<20→dh ms fs ps d V s→dB s≤2000→OkF deep s)∧
  (∀ l:List Sm,∀ d V deep,(∀ x∈V,kO x)→deep+d<20→ck ms fs ps d V l→bz l≤2000→∀ s∈l,OkF deep s):=by
 let M1:Sm→Prop:=fun s=>∀ d V deep,(∀ x∈V,kO x)→deep+d<20→dh ms fs ps d V s→dB s≤2000→OkF deep s
 let M2:List Sm→Prop:=fun l=>∀ d V deep,(∀ x∈V,kO x)→deep+d<20→ck ms fs ps d V l→bz l≤2000→∀ s∈l,OkF deep s
 have Pc:∀ k,k<24→kO (eA k):=vL;have A1:∀ (s:ByteArray) (e:Ex),M1 (.fN s e):=by
  intro s e d V deep hV _ hw _;simp only[dh] at hw;obtain⟨⟨k,hk,rfl⟩,_,he⟩:=hw;exact⟨Pc k hk,eR hV 2 _ yA he⟩
 have A2:∀ (s:ByteArray) (e:Ex),M1 (.gz s e):=by
  intro s e d V deep hV _ hw _;simp only[dh] at hw;exact⟨hV s hw.1,eR hV 2 _ yA hw.2⟩
 have A3:∀ (g:Bool) (s:ByteArray) (l:List Ar),M1 (.dm g s l):=by
  intro g s l d V deep hV _ hw hk;simp only[dh] at hw;obtain⟨gp,h1,h2⟩:=hw;have:=h2.len;have:=Lz _ h1;simp only at this;exact⟨K9 _ h1,by omega,GW KL K8 hV h2⟩
 have A4:∀ (u:Bool) (r:Rf),M1 (.cR u r):=by
  intro u r d V deep hV _ hw _;simp only[dh] at hw;exact rf_R KL K8 hV hw
 have A5:∀ (e:Ex) (th el:List Sm),M2 th→M2 el→M1 (.jS e th el):=by
  intro e th el i1 i2 d V deep hV hd hw hk
  cases d with
  | zero=>simp[dh] at hw
  | succ d=>
   simp only[dh] at hw;simp only[dB] at hk;have l1:=iO th;have l2:=iO el;exact⟨eR hV 2 _ yA hw.1,kz yA yA (i1 d V _ hV yA hw.2.1 yA),kz yA yA (i2 d V _ hV yA hw.2.2 yA)⟩
 have A6:∀ (e:Ex) (th:List Sm),M2 th→M1 (.cb e th):=by
  intro e th i1 d V deep hV hd hw hk
  cases d with
  | zero=>simp[dh] at hw
  | succ d=>
   simp only[dh] at hw;simp only[dB] at hk;have l1:=iO th;exact⟨eR hV 2 _ yA hw.1,kz yA yA (i1 d V _ hV yA hw.2 yA)⟩
 have A7:M1 .ia:=fun _ _ _ _ _ _ _=>trivial;have A0:M2 []:=fun _ _ _ _ _ _ _ s hs=>by simp at hs
 have A8:∀ (s:Sm) (r:List Sm),M1 s→M2 r→M2 (s::r):=by
  intro s r i1 i2 d V deep hV hd hw hk x hx;simp only[ck] at hw;simp only[bz] at hk;have Tm:∀ x∈V++di s,kO x:=by
   intro x hx;rcases List.mem_append.1 hx with hx | hx
   ·exact hV x hx
   ·cases s<;>simp only[di,List.mem_singleton,List.not_mem_nil] at hx;subst hx;have:=hw.1;simp only[dh] at this;obtain⟨⟨j,hj,rfl⟩,_⟩:=this;exact Pc j hj
  rcases List.mem_cons.1 hx with rfl | hx
  ·exact i1 d V deep hV hd hw.1 yA
  ·exact i2 d _ deep Tm hd hw.2 yA x hx
 exact⟨fun s=>Sm.rec (motive_1:=M1) (motive_2:=M2) A1 A2 A3 A4 A5 A6 A7 A0 A8 s,fun l=>Sm.rec_1 (motive_1:=M1) (motive_2:=M2) A1 A2 A3 A4 A5 A6 A7 A0 A8 l⟩
theorem Bo:(∀ s:Sm,∀ d V JO,(∀ x∈V,kO x)→fA d JO→dh ms fs ps d V s→dB s≤2000→TxS JO s)∧
  (∀ l:List Sm,∀ d V JO,(∀ x∈V,kO x)→fA d JO→ck ms fs ps d V l→bz l≤2000→∀ s∈l,TxS JO s):=by
 let M1:Sm→Prop:=fun s=>∀ d V JO,(∀ x∈V,kO x)→fA d JO→dh ms fs ps d V s→dB s≤2000→TxS JO s
 let M2:List Sm→Prop:=fun l=>∀ d V JO,(∀ x∈V,kO x)→fA d JO→ck ms fs ps d V l→bz l≤2000→∀ s∈l,TxS JO s
 have Pc:∀ k,k<24→kO (eA k):=vL;have hz:∀ s:ByteArray,kO s→s.size≤100:=fun s hs=>by
  have:=hs.1.2.2;rw[jO] at this;omega
 have tx:∀ {V:List ByteArray} (_:∀ x∈V,kO x) {e:Ex},eO V 2 e→IH e:=fun {V} hV {e} he=>⟨lQ (fun x hx=>(hV x hx).1) 2 _ yA he,ka (fun x hx=>(hV x hx).1) (d:=2) yA he⟩;have iI:∀ (l:List Sm) (d:Nat) (V:List ByteArray) (JO:ByteArray),M2 l→(∀ x∈V,kO x)→fA d JO→ck ms fs ps d V l→bz l≤2000→ae Tryz.prog 109 [.au (bh l) l.length,.str JO] (.str (g6 JO l)):=by
  intro l d V JO i1 hV ht hw hk;have hs:=((bN.lines (ms:=ms) (fs:=fs) (ps:=ps) (fun m hm=>(KL m hm).1) (fun x hx=>(K9 x hx).1) (fun q hq=>(K8 q hq).1)).2 l d V JO (fun x hx=>(hV x hx).1) ht hw).1;rw[jO] at hs;have h2:=ht.2;rw[jO] at h2;have h3:=iO l;exact rB l JO yA yA yA (i1 d V JO hV ht hw hk)
 have A1:∀ (s:ByteArray) (e:Ex),M1 (.fN s e):=by
  intro s e d V JO hV _ hw _;simp only[dh] at hw;obtain⟨⟨k,hk,rfl⟩,_,he⟩:=hw;exact⟨hz _ (Pc k hk),tx hV he⟩
 have A2:∀ (s:ByteArray) (e:Ex),M1 (.gz s e):=by
  intro s e d V JO hV _ hw _;simp only[dh] at hw;exact⟨hz _ (hV s hw.1),tx hV hw.2⟩
 have A3:∀ (g:Bool) (s:ByteArray) (l:List Ar),M1 (.dm g s l):=by
  intro g s l d V JO hV _ hw hk;simp only[dh] at hw;obtain⟨gp,h1,h2⟩:=hw;have:=h2.len;have:=Lz _ h1;simp only at this;exact⟨hz _ (K9 _ h1),by omega,GV KL K8 hV h2⟩
 have A4:∀ (u:Bool) (r:Rf),M1 (.cR u r):=by
  intro u r d V JO hV _ hw _;simp only[dh] at hw;exact rf_T KL K8 hV hw
 have A5:∀ (e:Ex) (th el:List Sm),M2 th→M2 el→M1 (.jS e th el):=by
  intro e th el i1 i2 d V JO hV ht hw hk
  cases d with
  | zero=>simp[dh] at hw
  | succ d=>
   simp only[dh] at hw;simp only[dB] at hk;exact⟨tx hV hw.1,iI th d V _ i1 hV ht.more hw.2.1 yA,iI el d V _ i2 hV ht.more hw.2.2 yA⟩
 have A6:∀ (e:Ex) (th:List Sm),M2 th→M1 (.cb e th):=by
  intro e th i1 d V JO hV ht hw hk
  cases d with
  | zero=>simp[dh] at hw
  | succ d=>
   simp only[dh] at hw;simp only[dB] at hk;exact⟨tx hV hw.1,iI th d V _ i1 hV ht.more hw.2 yA⟩
 have A7:M1 .ia:=fun _ _ _ _ _ _ _=>trivial;have A0:M2 []:=fun _ _ _ _ _ _ _ s hs=>by simp at hs
 have A8:∀ (s:Sm) (r:List Sm),M1 s→M2 r→M2 (s::r):=by
  intro s r i1 i2 d V JO hV hd hw hk x hx;simp only[ck] at hw;simp only[bz] at hk;have Tm:∀ x∈V++di s,kO x:=by
   intro x hx;rcases List.mem_append.1 hx with hx | hx
   ·exact hV x hx
   ·cases s<;>simp only[di,List.mem_singleton,List.not_mem_nil] at hx;subst hx;have:=hw.1;simp only[dh] at this;obtain⟨⟨j,hj,rfl⟩,_⟩:=this;exact Pc j hj
  rcases List.mem_cons.1 hx with rfl | hx
  ·exact i1 d V JO hV hd hw.1 yA
  ·exact i2 d _ JO Tm hd hw.2 yA x hx
 exact⟨fun s=>Sm.rec (motive_1:=M1) (motive_2:=M2) A1 A2 A3 A4 A5 A6 A7 A0 A8 s,fun l=>Sm.rec_1 (motive_1:=M1) (motive_2:=M2) A1 A2 A3 A4 A5 A6 A7 A0 A8 l⟩
end
section
variable {p:Pg}(h:jg p)
include h
theorem _root_.Go.aT.jg.zA (f:Fu)(hf:f∈p.fs):bz f.body≤1152:=by
 have hw:=h.wt;have:bz f.body∈p.fs.map fun f=>bz f.body:=List.mem_map_of_mem (f:=fun f=>bz f.body) hf;have h2:∀ {l:List Nat} {a:Nat},a∈l→a≤l.sum:=fun {l a} ha=>by
  induction l with
  | nil=>simp at ha
  | cons b r ih=>
   rcases List.mem_cons.1 ha with rfl | ha
   ·simp
   ·have:=ih ha;simp only[List.sum_cons];omega
 have:=h2 this;omega
theorem _root_.Go.aT.jg.EJ:(∀ x∈p.fs.map fun f=>(f.name,f.params),kO x.1)∧(∀ x∈p.fs.map fun f=>(f.name,f.params),x.2.length≤2):=by
 refine⟨fun x hx=>?_,fun x hx=>?_⟩
 ·rw[List.mem_map] at hx;obtain⟨f,hf,rfl⟩:=hx;exact h.fR f hf
 ·rw[List.mem_map] at hx;obtain⟨f,hf,rfl⟩:=hx;exact h.pl f hf
theorem _root_.Go.aT.jg.okb (f:Fu)(hf:f∈p.fs):ae Tryz.prog 82 [.au (bh f.body) f.body.length,I (0:Nat)] (.bool true):=by
 have hk:=h.zA f hf;have hl:=iO f.body;exact kz yA yA ((wQ h.mR h.EJ.1 h.EJ.2 (h.pR f hf)).2 f.body 2 _ 0 (h.vR f hf) yA (h.bd f hf) yA)
theorem _root_.Go.aT.jg.lnb (f:Fu)(hf:f∈p.fs):ae Tryz.prog 109 [.au (bh f.body) f.body.length,.str ⟨#[9]⟩] (.str (g6 ⟨#[9]⟩ f.body)):=by
 have hk:=h.zA f hf;have hl:=iO f.body;have ht:fA 2 ⟨#[9]⟩:=⟨by decide,by decide⟩;have hs:=((bN.lines (ms:=p.ms) (fs:=p.fs.map fun f=>(f.name,f.params)) (ps:=f.params) (fun m hm=>(h.mR m hm).1) (fun x hx=>(h.EJ.1 x hx).1) (fun q hq=>(h.pR f hf q hq).1)).2 f.body 2 _ ⟨#[9]⟩ (fun x hx=>(h.vR f hf x hx).1) ht (h.bd f hf)).1;rw[jO] at hs;exact rB f.body ⟨#[9]⟩ JZ yA yA ((Bo h.mR h.EJ.1 h.EJ.2 (h.pR f hf)).2 f.body 2 _ _ (h.vR f hf) ht (h.bd f hf) yA)
end
def J57a (p:Pg)(n:Nat)(s:St):Prop:=∃ i:Nat,n=p.gs.length-i∧i≤p.gs.length∧s=⟨[(3,I i),(1,.ai 0 0)],[(0,⟨27,0,dH p⟩)],1⟩
def J57b (p:Pg)(n:Nat)(s:St):Prop:=∃ i:Nat,n=p.ms.length-i∧i≤p.ms.length∧s=⟨[(4,I i),(1,.ai 0 0)],[(0,⟨27,0,dH p⟩)],1⟩
def J57c (p:Pg)(n:Nat)(s:St):Prop:=∃ i:Nat,n=p.fs.length-i∧i≤p.fs.length∧s=⟨[(6,I i),(1,.ai 0 0)],[(0,⟨27,0,dH p⟩)],1⟩
def J57d (p:Pg)(i:Nat)(f:Fu)(n:Nat)(s:St):Prop:=∃ q:Nat,n=f.params.length-q∧q≤f.params.length∧s=⟨[(8,I q),(7,.ai 1 0),(6,I i),(1,.ai 0 0)],[(0,⟨27,0,dH p⟩),(1,⟨109,0,ed f⟩)],2⟩
set_option maxHeartbeats 8000000 in
theorem Cf (p:Pg)(h:jg p):ae Tryz.prog 46 [tv p] (.bool true):=by
 have hT:=HI h;have hTs:(Ba p).size≤262144:=by have:=hT.2;rw[jO] at this;exact this
 obtain⟨k1,OU,e1⟩:=h.gn;obtain⟨k2,_,Nj,e2⟩:=h.mn;obtain⟨k3,_,VE,e3⟩:=h.fn;have l1:=congrArg List.length e1;have l2:=congrArg List.length e2;have l3:=congrArg List.length e3;simp[nG] at l1;simp[nM] at l2;simp[nF] at l3;clear e1 e2 e3;have Sk:=wD p yA yA yA yA (fun g hg=>by have:=h.gi g hg;omega) (fun m hm=>by have:=(h.mz m hm).1;omega) (fun f hf=>⟨by have:=h.pl f hf;omega,h.lnb f hf⟩);have Xf:=HV (bs (Ba p)) hT.2 hT.1;have g1:¬ (16:Int)<p.gs.length:=by omega
 have g2:¬ (12:Int)<p.ms.length:=by omega
 have g3:¬ (16:Int)<p.fs.length:=by omega
 have fg:=fun (k:Nat) (a:Gl) (h:p.gs[k]? = some a)=>az (f:=mL) (n:=2) (fun _=>rfl) h;have Wx:=fun (k:Nat) (a:Gl) (h:p.gs[k]? = some a)=>bb (f:=mL) (n:=2) (fun _=>rfl) h 1 yA;have fm:=fun (k:Nat) (a:Mx) (h:p.ms[k]? = some a)=>az (f:=eQ) (n:=3) (fun _=>rfl) h;have ff:=fun (k:Nat) (a:Fu) (h:p.fs[k]? = some a)=>az (f:=ed) (n:=3) (fun _=>rfl) h;refine ae.aD af Tryz.func46 rfl JN (by simp[Tryz.ntmps46]) rfl fun C hC JR=>?_;rw[Tryz.ntmps46] at hC;apply ah;simp[hC,tv,dH];apply aL;simp[hC,g1,g2,g3];refine dg ?_;simp;refine T.cut (fun s=>s=⟨[(1,.ai 0 0)],[(0,⟨27,0,dH p⟩)],1⟩) ?_ ?_
 ·apply ah;simp[hC];apply T.block;refine T.aI (J57a p) (n:=p.gs.length) ?_ ?_
  ·refine aa.trim [3,1] [0] 1 JM yA ⟨0,by omega,by omega,?_⟩;simp[dH]
  ·rintro n s ⟨i,rfl,hi,rfl⟩;by_cases JP:i<p.gs.length
   ·obtain⟨a,Kt⟩:∃ a,p.gs[i]? = some a:=⟨p.gs[i],List.getElem?_eq_getElem JP⟩;have JQ:=fg i a Kt;have KG:=Wx i a Kt;have hm:=List.mem_of_getElem? Kt;have hn:=im a.name (h.gR a hm).1 (h.gR a hm).2;have Ko:(a.init == -9223372036854775808)=false:=by have:=h.gi a hm;simp;omega
    have wi:=cm ((i:Int)+1) yA yA;apply aL;simp[hC,JP,dH];refine gF ?_;simp;apply fw;apply ah;simp[hC,JP,JQ,mL];refine dk JV (hn) ?_;simp[hC,JP,JQ,Ko,mL];refine dg ?_;simp;apply a8;simp[hC,wi];refine⟨p.gs.length-(i+1),by omega,?_⟩;refine aa.trim [3,1] [0] 1 JM yA ⟨i+1,rfl,by omega,?_⟩;simp[dH]
   ·apply aL;simp[hC,JP,dH];refine aU ?_;simp;apply T.exit;simp;refine aa.trim [1] [0] 1 JM yA ?_;simp
 rintro s rfl;refine T.cut (fun s=>s=⟨[(1,.ai 0 0)],[(0,⟨27,0,dH p⟩)],1⟩) ?_ ?_
 ·apply ah;simp[hC];apply T.block;refine T.aI (J57b p) (n:=p.ms.length) ?_ ?_
  ·refine aa.trim [4,1] [0] 1 Np yA ⟨0,by omega,by omega,?_⟩;simp[dH]
  ·rintro n s ⟨i,rfl,hi,rfl⟩;by_cases JP:i<p.ms.length
   ·obtain⟨a,Kt⟩:∃ a,p.ms[i]? = some a:=⟨p.ms[i],List.getElem?_eq_getElem JP⟩;have JQ:=fm i a Kt;have hm:=List.mem_of_getElem? Kt;have hn:=im a.name (h.mR a hm).1 (h.mR a hm).2;have hz:=h.mz a hm;have wi:=cm ((i:Int)+1) yA yA;have z1:¬ (a.size:Int)<0:=by omega
    have z2:¬ (64:Int)<a.size:=by omega
    apply aL;simp[hC,JP,dH];refine gF ?_;simp;apply fw;apply ah;simp[hC,JP,JQ,eQ]
    cases LQ:a.re with
    | true=>
     have z3:=hz.2 LQ;apply ah;simp[hC];refine dk JV (hn) ?_;simp[hC,z3];refine dg ?_;simp;apply a8;simp[hC,wi];refine⟨p.ms.length-(i+1),by omega,?_⟩;refine aa.trim [4,1] [0] 1 JM yA ⟨i+1,rfl,by omega,?_⟩;simp[dH]
    | false=>
     apply ah;simp[hC];refine dk JV (hn) ?_;simp[hC,z1,z2];refine dg ?_;simp;apply a8;simp[hC,wi];refine⟨p.ms.length-(i+1),by omega,?_⟩;refine aa.trim [4,1] [0] 1 JM yA ⟨i+1,rfl,by omega,?_⟩;simp[dH]
   ·apply aL;simp[hC,JP,dH];refine aU ?_;simp;apply T.exit;simp;refine aa.trim [1] [0] 1 JM yA ?_;simp
 rintro s rfl;refine T.cut (fun s=>s=⟨[(1,.ai 0 0)],[(0,⟨27,0,dH p⟩)],1⟩) ?_ ?_
 ·apply ah;simp[hC];apply T.block;refine T.aI (J57c p) (n:=p.fs.length) ?_ ?_
  ·refine aa.trim [6,1] [0] 1 Np yA ⟨0,by omega,by omega,?_⟩;simp[dH]
  ·rintro n s ⟨i,rfl,hi,rfl⟩;by_cases JP:i<p.fs.length
   ·obtain⟨a,Kt⟩:∃ a,p.fs[i]? = some a:=⟨p.fs[i],List.getElem?_eq_getElem JP⟩;have JQ:=ff i a Kt;have hm:=List.mem_of_getElem? Kt;have hn:=im a.name (h.fR a hm).1 (h.fR a hm).2;have hb:=h.okb a hm;have LR:=h.pl a hm;have wi:=cm ((i:Int)+1) yA yA;have z1:¬ (6:Int)<a.params.length:=by omega
    apply aL;simp[hC,JP,dH];refine gF ?_;simp;apply fw;apply ah;simp[hC,JP,JQ,ed];apply aL;simp[hC];refine dk JV (hn) ?_;simp[hC,z1];refine TL.bG JT rfl rfl rfl rfl (bm.of rfl JV (hb)) (TL.go' af ?_);simp[hC];refine dg ?_;simp;apply ah;simp[hC];apply T.block;refine T.aI (J57d p i a) (n:=a.params.length) ?_ ?_
    ·refine aa.trim [8,7,6,1] [0,1] 2 JM yA ⟨0,by omega,by omega,?_⟩;simp[dH,ed]
    ·rintro n s ⟨q,rfl,hq,rfl⟩;by_cases Oh:q<a.params.length
     ·obtain⟨b,Pf⟩:∃ b,a.params[q]? = some b:=⟨a.params[q],List.getElem?_eq_getElem Oh⟩;have MY:=az (f:=jB) (n:=2) (fun _=>rfl) Pf;have Th:=List.mem_of_getElem? Pf;have Mt:=im b.name (h.pR a hm b Th).1 (h.pR a hm b Th).2;have wq:=cm ((q:Int)+1) yA yA;apply aL;simp[hC,Oh,ed];refine gF ?_;simp;apply fw;apply ah;simp[hC,Oh,MY,jB];refine dk JV (Mt) ?_;simp[hC];refine dg ?_;simp;apply a8;simp[hC,wq];refine⟨a.params.length-(q+1),by omega,?_⟩;refine aa.trim [8,7,6,1] [0,1] 2 Np yA ⟨q+1,rfl,by omega,?_⟩;simp[dH,ed]
     ·apply aL;simp[hC,Oh,ed];refine aU ?_;simp;apply T.exit;simp;apply a8;simp[hC,wi];refine⟨p.fs.length-(i+1),by omega,?_⟩;refine aa.trim [6,1] [0] 1 Np yA ⟨i+1,rfl,by omega,?_⟩;simp[dH]
   ·apply aL;simp[hC,JP,dH];refine aU ?_;simp;apply T.exit;simp;refine aa.trim [1] [0] 1 JM yA ?_;simp
 rintro s rfl;apply ah;simp[hC,dH];refine TL.call JT rfl rfl (bm.of rfl (by rfl) Sk) (TL.yh af ?_);have Zv:(Ba p).size≤1000000:=by omega
 have O6:cW (bs (Ba p))=.au (nw (Ba p)) (Ba p).size:=by rw[cW,jO];rfl
 rw[O6] at Xf;simp[hC,Zv];refine TL.Eh JT rfl rfl rfl (by rfl) Xf fun r hr=>TL.go' af ?_;obtain⟨cs,n,e,rfl⟩:=hr;simp[hC];apply ah;simp[hC];apply T.ret;apply aa.here;simp[Tryz.results46]
end Go.Proofs.YtkkdkhbhamhfgaaGreatDoor
