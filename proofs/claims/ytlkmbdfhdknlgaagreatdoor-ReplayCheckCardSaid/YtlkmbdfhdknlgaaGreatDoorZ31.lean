/- program: the text of a program. -/
import Derived.Test.YtlkmbdfhdknlgaaGreatDoorZ30
namespace Go.Proofs.YtlkmbdfhdknlgaaGreatDoor
open Go.Can Go.aT
def J91a (p:Pg)(X:ByteArray)(n:Nat)(s:St):Prop:=∃ (i:Nat) (x:ByteArray),n=p.gs.length-i∧i≤p.gs.length∧x++(iw GL (p.gs.drop i)++iw FF p.ms++iw BV p.fs)=X∧s=⟨[(4,I i),(3,.str x),(1,.ai 0 0)],[(0,⟨27,0,dH p⟩)],1⟩
def J91b (p:Pg)(X:ByteArray)(n:Nat)(s:St):Prop:=∃ (i:Nat) (x:ByteArray),n=p.ms.length-i∧i≤p.ms.length∧x++(iw FF (p.ms.drop i)++iw BV p.fs)=X∧s=⟨[(5,I i),(3,.str x),(1,.ai 0 0)],[(0,⟨27,0,dH p⟩)],1⟩
def J91c (p:Pg)(X:ByteArray)(n:Nat)(s:St):Prop:=∃ (i:Nat) (x:ByteArray),n=p.fs.length-i∧i≤p.fs.length∧x++iw BV (p.fs.drop i)=X∧s=⟨[(7,I i),(3,.str x),(1,.ai 0 0)],[(0,⟨27,0,dH p⟩)],1⟩
def J91d (p:Pg)(i:Nat)(nm:ByteArray)(ps:List Pm)(bd:List Sm)(Y:ByteArray)(n:Nat)(s:St):Prop:=∃ (q:Nat) (z:ByteArray),n=ps.length-q∧q≤ps.length∧z++qZ (decide (q=0)) (ps.drop q)=Y∧s=⟨[(9,I q),(8,.ai 1 0),(7,I i),(3,.str z),(1,.ai 0 0)],[(0,⟨27,0,dH p⟩),(1,⟨109,0,ed ⟨nm,ps,bd⟩⟩)],2⟩
theorem vh (b:ByteArray):(⟨#[]⟩:ByteArray)++b=b:=ByteArray.empty_append
theorem kL (b:ByteArray):b++(⟨#[]⟩:ByteArray)=b:=ByteArray.append_empty
set_option maxHeartbeats 8000000 in
theorem wD (p:Pg)(CX:(Ba p).size≤1000000)(h1:p.gs.length≤100)(h2:p.ms.length≤100)(h3:p.fs.length≤100)(hg:∀ g∈p.gs,-1000≤g.init∧g.init≤1000)(hm:∀ m∈p.ms,m.size≤1000)
  (hf:∀ f∈p.fs,f.params.length≤100∧ae Tryz.prog 109 [.au (bh f.body) f.body.length,.str ⟨#[9]⟩] (.str (g6 ⟨#[9]⟩ f.body))):ae Tryz.prog 83 [tv p] (.str (Ba p)):=by
 obtain⟨X,hX⟩:∃ X,Ba p=X:=⟨_,rfl⟩;rw[hX] at CX ⊢;unfold Ba at hX;have fg:=fun (k:Nat) (a:Gl) (h:p.gs[k]? = some a)=>az (f:=mL) (n:=2) (fun _=>rfl) h;have Xh:=fun (k:Nat) (a:Gl) (h:p.gs[k]? = some a)=>bb (f:=mL) (n:=2) (fun _=>rfl) h 1 yA;have fm:=fun (k:Nat) (a:Mx) (h:p.ms[k]? = some a)=>az (f:=eQ) (n:=3) (fun _=>rfl) h;have ff:=fun (k:Nat) (a:Fu) (h:p.fs[k]? = some a)=>az (f:=ed) (n:=3) (fun _=>rfl) h;refine ae.aD af Tryz.func83 rfl lz (by simp[Tryz.ntmps83]) rfl fun C hC xJ=>?_;rw[Tryz.ntmps83] at hC;apply ah;simp[hC,tv,dH];apply ah;simp[hC];refine T.cut (fun s=>∃ x,x++(iw FF p.ms++iw BV p.fs)=X∧s=⟨[(3,.str x),(1,.ai 0 0)],[(0,⟨27,0,dH p⟩)],1⟩) ?_ ?_
 ·apply ah;simp[hC];apply T.block;refine T.aI (J91a p X) (n:=p.gs.length) ?_ ?_
  ·refine aa.trim [4,3,1] [0] 1 j5 yA ⟨0,⟨#[]⟩,by omega,by omega,?_,?_⟩
   ·rw[vh];exact hX
   ·simp[dH]
  ·rintro n s ⟨i,x,rfl,hi,hx,rfl⟩;by_cases nr:i<p.gs.length
   ·obtain⟨a,KH⟩:∃ a,p.gs[i]? = some a:=⟨p.gs[i],List.getElem?_eq_getElem nr⟩;have oy:=fg i a KH;have KU:=Xh i a KH;have Kz:=hg a (List.mem_of_getElem? KH);have wi:=cm ((i:Int)+1) yA yA;have hd:p.gs.drop i=a::p.gs.drop (i+1):=by
     rw[List.drop_eq_getElem_cons nr,(List.getElem?_eq_some_iff.1 KH).2]
    rw[hd,iw] at hx;have hz:=congrArg ByteArray.size hx;simp only[GL,vS,ByteArray.size_append] at hz;have s0:=aq x ⟨#[118,97,114,32]⟩ yA;have s1:=aq (x++⟨#[118,97,114,32]⟩) a.name yB;apply aL;simp[hC,nr,dH];refine gF ?_;simp;apply fw;apply ah;simp[hC,nr,oy,mL,s0,s1];by_cases h0:a.init=0
    ·rw[if_pos h0] at hz;have s2:=aq (x++⟨#[118,97,114,32]⟩++a.name) ⟨#[59,10]⟩ yB;apply aL;simp[hC,nr,oy,mL,h0];refine dg ?_;simp;apply a8;simp[hC,s2];apply a8;simp[hC,wi];refine⟨p.gs.length-(i+1),by omega,?_⟩;refine aa.trim [4,3,1] [0] 1 j5 yA ⟨i+1,x++⟨#[118,97,114,32]⟩++a.name++⟨#[59,10]⟩,rfl,by omega,?_,?_⟩
     ·rw[← hx,GL,if_pos h0,kL];simp only[vS,ByteArray.append_assoc]
     ·simp[dH]
    ·rw[if_neg h0] at hz;simp only[Cq,ByteArray.size_append] at hz;have Xf:(a.init != 0)=true:=by simp[h0]
     have s2:=aq (x++⟨#[118,97,114,32]⟩++a.name) ⟨#[32,61,32]⟩ yB;have s3:=aq (x++⟨#[118,97,114,32]⟩++a.name++⟨#[32,61,32]⟩) (jC a.init) yB;have s4:=aq (x++⟨#[118,97,114,32]⟩++a.name++⟨#[32,61,32]⟩++jC a.init) ⟨#[59,10]⟩ yB;apply aL;simp[hC,nr,oy,mL,Xf];refine cz ?_;simp;apply a8;simp[hC,nr,oy,mL,s2];refine dk zK (mX a.init yA yA) ?_;simp[hC,s3];apply a8;simp[hC,s4];apply a8;simp[hC,wi];refine⟨p.gs.length-(i+1),by omega,?_⟩;refine aa.trim [4,3,1] [0] 1 j5 yA ⟨i+1,x++⟨#[118,97,114,32]⟩++a.name++⟨#[32,61,32]⟩++jC a.init++⟨#[59,10]⟩,rfl,by omega,?_,?_⟩
     ·rw[← hx,GL,if_neg h0];simp only[vS,Cq,ByteArray.append_assoc]
     ·simp[dH]
   ·have CW:i=p.gs.length:=by omega
    rw[CW,List.drop_length,iw,vh] at hx;apply aL;simp[hC,nr,dH];refine aU ?_;simp;apply T.exit;simp;refine aa.trim [3,1] [0] 1 j5 yA ⟨x,hx,?_⟩;simp
 rintro s ⟨x0,SK,rfl⟩;clear hX;refine T.cut (fun s=>∃ x,x++iw BV p.fs=X∧s=⟨[(3,.str x),(1,.ai 0 0)],[(0,⟨27,0,dH p⟩)],1⟩) ?_ ?_
 ·apply ah;simp[hC];apply T.block;refine T.aI (J91b p X) (n:=p.ms.length) ?_ ?_
  ·refine aa.trim [5,3,1] [0] 1 NW yA ⟨0,x0,by omega,by omega,SK,?_⟩;simp
  ·rintro n s ⟨i,x,rfl,hi,hx,rfl⟩;by_cases nr:i<p.ms.length
   ·obtain⟨a,KH⟩:∃ a,p.ms[i]? = some a:=⟨p.ms[i],List.getElem?_eq_getElem nr⟩;have oy:=fm i a KH;have Kz:=hm a (List.mem_of_getElem? KH);have wi:=cm ((i:Int)+1) yA yA;have hd:p.ms.drop i=a::p.ms.drop (i+1):=by
     rw[List.drop_eq_getElem_cons nr,(List.getElem?_eq_some_iff.1 KH).2]
    rw[hd,iw,FF] at hx;have hz:=congrArg ByteArray.size hx;simp only[ByteArray.size_append] at hz;apply aL;simp[hC,nr,dH];refine gF ?_;simp;apply fw;apply ah;simp[hC,nr,oy,eQ];obtain⟨y,hy⟩:∃ y,x++(if a.re=true then ⟨#[114]⟩ else ⟨#[]⟩)=y:=⟨_,rfl⟩;have SF:y.size=x.size+(if a.re=true then (⟨#[114]⟩:ByteArray) else ⟨#[]⟩).size:=by rw[← hy,ByteArray.size_append]
    have hyX:y.size≤1000000:=by omega
    refine T.cut (fun s=>s=⟨[(6,.ai 1 0),(5,I i),(3,.str y),(1,.ai 0 0)],[(0,⟨27,0,dH p⟩),(1,⟨89,0,eQ a⟩)],2⟩) ?_ ?_
    ·apply ah;simp[hC];refine T.cond (b:=a.re) rfl ?_
     cases Me:a.re with
     | true=>
      rw[Me,if_pos rfl] at hy SF;have s0:=aq x ⟨#[114]⟩ yA;simp;apply a8;simp[hC,s0];refine aa.trim [6,5,3,1] [0,1] 2 j5 yA ?_;simp[← hy,eQ,Me,dH]
     | false=>
      rw[Me,if_neg j5,kL] at hy;simp;apply T.skip;simp;refine aa.trim [6,5,3,1] [0,1] 2 j5 yA ?_;simp[← hy,eQ,Me,dH]
    rintro s rfl;have s1:=aq y ⟨#[109,117,116,101,120,32]⟩ yA;have s2:=aq (y++⟨#[109,117,116,101,120,32]⟩) a.name yB;apply ah;simp[hC,s1,s2,eQ];have Lq:y++(⟨#[109,117,116,101,120,32]⟩++a.name++(if a.size=0 then ⟨#[]⟩ else ⟨#[91]⟩++jC a.size++⟨#[93]⟩)++⟨#[59,10]⟩++(iw FF (p.ms.drop (i+1))++iw BV p.fs))=X:=by
     rw[← hx,← hy];simp only[ByteArray.append_assoc]
    by_cases h0:a.size=0
    ·rw[if_pos h0] at hz Lq;have s3:=aq (y++⟨#[109,117,116,101,120,32]⟩++a.name) ⟨#[59,10]⟩ yB;apply aL;simp[hC,h0];refine dg ?_;simp;apply a8;simp[hC,s3];apply a8;simp[hC,wi];refine⟨p.ms.length-(i+1),by omega,?_⟩;refine aa.trim [5,3,1] [0] 1 NW yA ⟨i+1,y++⟨#[109,117,116,101,120,32]⟩++a.name++⟨#[59,10]⟩,rfl,by omega,?_,?_⟩
     ·rw[← Lq,kL];simp only[ByteArray.append_assoc]
     ·simp[dH]
    ·rw[if_neg h0] at hz Lq;simp only[ByteArray.size_append] at hz;have Xf:0<a.size:=by omega
     have s3:=aq (y++⟨#[109,117,116,101,120,32]⟩++a.name) ⟨#[91]⟩ yB;have s4:=aq (y++⟨#[109,117,116,101,120,32]⟩++a.name++⟨#[91]⟩) (jC a.size) yB;have s5:=aq (y++⟨#[109,117,116,101,120,32]⟩++a.name++⟨#[91]⟩++jC a.size) ⟨#[93]⟩ yB;have s6:=aq (y++⟨#[109,117,116,101,120,32]⟩++a.name++⟨#[91]⟩++jC a.size++⟨#[93]⟩) ⟨#[59,10]⟩ yB;apply aL;simp[hC,Xf];refine cz ?_;simp;apply a8;simp[hC,s3];refine dk zK (mX (a.size:Int) yA yA) ?_;simp[hC,s4,s5];apply a8;simp[hC,s6];apply a8;simp[hC,wi];refine⟨p.ms.length-(i+1),by omega,?_⟩;refine aa.trim [5,3,1] [0] 1 NW yA ⟨i+1,y++⟨#[109,117,116,101,120,32]⟩++a.name++⟨#[91]⟩++jC a.size++⟨#[93]⟩++⟨#[59,10]⟩,rfl,by omega,?_,?_⟩
     ·rw[← Lq];simp only[ByteArray.append_assoc]
     ·simp[dH]
   ·have CW:i=p.ms.length:=by omega
    rw[CW,List.drop_length,iw,vh] at hx;apply aL;simp[hC,nr,dH];refine aU ?_;simp;apply T.exit;simp;refine aa.trim [3,1] [0] 1 j5 yA ⟨x,hx,?_⟩;simp
 rintro s ⟨x1,PU,rfl⟩;clear SK;refine T.cut (fun s=>s=⟨[(3,.str X),(1,.ai 0 0)],[(0,⟨27,0,dH p⟩)],1⟩) ?_ ?_
 ·apply ah;simp[hC];apply T.block;refine T.aI (J91c p X) (n:=p.fs.length) ?_ ?_
  ·refine aa.trim [7,3,1] [0] 1 NW yA ⟨0,x1,by omega,by omega,PU,?_⟩;simp
  ·rintro n s ⟨i,x,rfl,hi,hx,rfl⟩;by_cases nr:i<p.fs.length
   ·obtain⟨a,KH⟩:∃ a,p.fs[i]? = some a:=⟨p.fs[i],List.getElem?_eq_getElem nr⟩;have oy:=ff i a KH;obtain⟨LX,De⟩:=hf a (List.mem_of_getElem? KH);have wi:=cm ((i:Int)+1) yA yA;have hd:p.fs.drop i=a::p.fs.drop (i+1):=by
     rw[List.drop_eq_getElem_cons nr,(List.getElem?_eq_some_iff.1 KH).2]
    rw[hd,iw,BV] at hx;obtain⟨nm,ps,bd⟩:=a;simp only at hx LX De;have hz:=congrArg ByteArray.size hx;simp only[ByteArray.size_append] at hz;obtain⟨y,hy⟩:∃ y,x++⟨#[102,117,110,99,32]⟩++nm++⟨#[40]⟩=y:=⟨_,rfl⟩;have SF:y.size=x.size+(⟨#[102,117,110,99,32]⟩:ByteArray).size+nm.size+(⟨#[40]⟩:ByteArray).size:=by rw[← hy];simp only[ByteArray.size_append]
    obtain⟨Y,hY⟩:∃ Y,y++qZ true ps=Y:=⟨_,rfl⟩;have Yo:Y.size=y.size+(qZ true ps).size:=by rw[← hY,ByteArray.size_append]
    have Lq:Y++(⟨#[41,32,123,10]⟩++g6 nN bd++⟨#[125,10]⟩++iw BV (p.fs.drop (i+1)))=X:=by
     rw[← hx,← hY,← hy];simp only[ByteArray.append_assoc]
    have s0:=aq x ⟨#[102,117,110,99,32]⟩ yA;have s1:=aq (x++⟨#[102,117,110,99,32]⟩) nm yB;have s2:=aq (x++⟨#[102,117,110,99,32]⟩++nm) ⟨#[40]⟩ yB;rw[hy] at s2;apply aL;simp[hC,nr,dH];refine gF ?_;simp;apply fw;apply ah;simp[hC,nr,oy,ed];apply ah;simp[hC,s0,s1,s2];refine T.cut (fun s=>s=⟨[(8,.ai 1 0),(7,I i),(3,.str Y),(1,.ai 0 0)],[(0,⟨27,0,dH p⟩),(1,⟨109,0,ed ⟨nm,ps,bd⟩⟩)],2⟩) ?_ ?_
    ·apply ah;simp[hC];apply T.block;refine T.aI (J91d p i nm ps bd Y) (n:=ps.length) ?_ ?_
     ·refine aa.trim [9,8,7,3,1] [0,1] 2 j5 yA ⟨0,y,by omega,by omega,hY,?_⟩;simp[ed,dH]
     ·rintro n s ⟨q,z,rfl,hq,SE,rfl⟩;by_cases Nc:q<ps.length
      ·obtain⟨b,PX⟩:∃ b,ps[q]? = some b:=⟨ps[q],List.getElem?_eq_getElem Nc⟩;have Nw:=az (f:=jB) (n:=2) (fun _=>rfl) PX;have Mf:=bb (f:=jB) (n:=2) (fun _=>rfl) PX 1 yA;have wq:=cm ((q:Int)+1) yA yA;have NF:ps.drop q=b::ps.drop (q+1):=by
        rw[List.drop_eq_getElem_cons Nc,(List.getElem?_eq_some_iff.1 PX).2]
       rw[NF,qZ] at SE;have Y0:=congrArg ByteArray.size SE;simp only[ByteArray.size_append] at Y0;apply aL;simp[hC,Nc,ed];refine gF ?_;simp;apply fw;obtain⟨u,hu⟩:∃ u,z++(if decide (q=0)=true then ⟨#[]⟩ else ⟨#[44,32]⟩)=u:=⟨_,rfl⟩;have Pb:u.size=z.size+(if decide (q=0)=true then (⟨#[]⟩:ByteArray) else ⟨#[44,32]⟩).size:=by rw[← hu,ByteArray.size_append]
       obtain⟨v,hv⟩:∃ v,u++(if b.mutex=true then ⟨#[109,117,116,101,120,32]⟩ else ⟨#[]⟩)=v:=⟨_,rfl⟩;have Vx:v.size=u.size+(if b.mutex=true then (⟨#[109,117,116,101,120,32]⟩:ByteArray) else ⟨#[]⟩).size:=by rw[← hv,ByteArray.size_append]
       have hvX:v.size≤1000000:=by omega
       have huX:u.size≤1000000:=by omega
       refine T.cut (fun s=>s=⟨[(9,I q),(8,.ai 1 0),(7,I i),(3,.str u),(1,.ai 0 0)],[(0,⟨27,0,dH p⟩),(1,⟨109,0,ed ⟨nm,ps,bd⟩⟩)],2⟩) ?_ ?_
       ·apply ah;simp[hC];by_cases Uy:q=0
        ·have PX:¬ 0<q:=by omega
         simp only[Uy,decide_true,if_true,kL] at hu;simp only[PX,decide_false];refine dg ?_;simp;refine aa.trim [9,8,7,3,1] [0,1] 2 NW yA ?_;simp[hu,ed,dH]
        ·have PX:0<q:=by omega
         have e0:decide (q=0)=false:=by simp[Uy]
         rw[e0] at hu Pb;simp only[Bool.false_eq_true,if_false] at hu Pb;have t0:=aq z ⟨#[44,32]⟩ yA;rw[hu] at t0;simp only[PX,decide_true];refine cz ?_;simp;apply a8;simp[hC,t0];refine aa.trim [9,8,7,3,1] [0,1] 2 NW yA ?_;simp[ed,dH]
       rintro s rfl;refine T.cut (fun s=>s=⟨[(9,I q),(8,.ai 1 0),(7,I i),(3,.str v),(1,.ai 0 0)],[(0,⟨27,0,dH p⟩),(1,⟨109,0,ed ⟨nm,ps,bd⟩⟩)],2⟩) ?_ ?_
       ·apply ah;simp[hC,Nc,Mf,jB,ed];refine T.cond (b:=b.mutex) rfl ?_
        cases T0:b.mutex with
        | true=>
         rw[T0,if_pos rfl] at hv Vx;have t0:=aq u ⟨#[109,117,116,101,120,32]⟩ yA;rw[hv] at t0;simp;apply a8;simp[hC,t0];refine aa.trim [9,8,7,3,1] [0,1] 2 NW yA ?_;simp[dH]
        | false=>
         rw[T0,if_neg j5,kL] at hv;simp;apply T.skip;simp;refine aa.trim [9,8,7,3,1] [0,1] 2 NW yA ?_;simp[hv,dH]
       rintro s rfl;have t1:=aq v b.name yA;apply a8;simp[hC,Nc,Nw,jB,ed,t1];apply a8;simp[hC,wq];refine⟨ps.length-(q+1),by omega,?_⟩;refine aa.trim [9,8,7,3,1] [0,1] 2 NW yA ⟨q+1,v++b.name,rfl,by omega,?_,?_⟩
       ·rw[← SE,← hv,← hu];simp only[ByteArray.append_assoc];simp
       ·simp[ed,dH]
      ·have CW:q=ps.length:=by omega
       rw[CW,List.drop_length,qZ,kL] at SE;subst SE;apply aL;simp[hC,Nc,ed];refine aU ?_;simp;apply T.exit;simp;refine aa.trim [8,7,3,1] [0,1] 2 NW yA ?_;simp[dH]
    rintro s rfl;have t0:=aq Y ⟨#[41,32,123,10]⟩ yA;have t1:=aq (Y++⟨#[41,32,123,10]⟩) (g6 ⟨#[9]⟩ bd) Xq;have t2:=aq (Y++⟨#[41,32,123,10]⟩++g6 ⟨#[9]⟩ bd) ⟨#[125,10]⟩ Xq;apply a8;simp[hC,t0,ed];refine dk zK (De) ?_;simp[hC,t1,t2];apply a8;simp[hC,wi];refine⟨p.fs.length-(i+1),by omega,?_⟩;refine aa.trim [7,3,1] [0] 1 NW yA ⟨i+1,Y++⟨#[41,32,123,10]⟩++g6 ⟨#[9]⟩ bd++⟨#[125,10]⟩,rfl,by omega,?_,?_⟩
    ·rw[← Lq];simp only[ByteArray.append_assoc];rfl
    ·simp[dH]
   ·have CW:i=p.fs.length:=by omega
    rw[CW,List.drop_length,iw,kL] at hx;subst hx;apply aL;simp[hC,nr,dH];refine aU ?_;simp;apply T.exit;simp;refine aa.trim [3,1] [0] 1 j5 yA ?_;simp
 rintro s rfl;apply ah;simp[hC];apply T.ret;apply aa.here;simp[Tryz.results83]
theorem ql:∀ s∈nG++nM++nF++nP,bs s∉pa:=by decide
theorem Ht (k:Nat)(hk:k<24):bs (eA k)∉pa:=by
 rw[fh];exact (by decide:∀ k,k<24→[118,UInt8.ofNat (97+k % 26),UInt8.ofNat (97+k / 26 % 26)]∉pa) k hk
theorem vL (k:Nat)(hk:k<24):kO (eA k):=by
 refine⟨⟨⟨118,_,fh k,by decide⟩,?_,by rw[fh];simp⟩,Ht k hk⟩;rw[fh];exact (by decide:∀ k,k<24→List.all [118,UInt8.ofNat (97+k % 26),UInt8.ofNat (97+k / 26 % 26)] eF=true) k hk
theorem _root_.Go.aT.jg.gR {p:Pg}(h:jg p):∀ g∈p.gs,kO g.name:=fun g hg=>⟨h.ng g hg,by
 obtain⟨k,_,hk⟩:=h.gn;have:=List.mem_map_of_mem (f:=(·.name)) hg;rw[hk] at this;exact ql _ (by simp only[List.mem_append];exact .inl (.inl (.inl (List.mem_of_mem_take this))))⟩
theorem _root_.Go.aT.jg.mR {p:Pg}(h:jg p):∀ g∈p.ms,kO g.name:=fun g hg=>⟨h.nm g hg,by
 obtain⟨k,_,_,hk⟩:=h.mn;have:=List.mem_map_of_mem (f:=(·.name)) hg;rw[hk] at this;exact ql _ (by simp only[List.mem_append];exact .inl (.inl (.inr (List.mem_of_mem_take this))))⟩
theorem _root_.Go.aT.jg.fR {p:Pg}(h:jg p):∀ g∈p.fs,kO g.name:=fun g hg=>⟨h.nf g hg,by
 obtain⟨k,_,_,hk⟩:=h.fn;have:=List.mem_map_of_mem (f:=(·.name)) hg;rw[hk] at this;exact ql _ (by simp only[List.mem_append];exact .inl (.inr (List.mem_of_mem_take this)))⟩
theorem _root_.Go.aT.jg.pR {p:Pg}(h:jg p):∀ f∈p.fs,∀ q∈f.params,kO q.name:=fun f hf q hq=>⟨h.np f hf q hq,by
 obtain⟨k,_,hk⟩:=h.pn f hf;have:=List.mem_map_of_mem (f:=(·.name)) hq;rw[hk,List.mem_reverse] at this;exact ql _ (by simp only[List.mem_append];exact .inr (List.mem_of_mem_take this))⟩
theorem _root_.Go.aT.jg.vR {p:Pg}(h:jg p):∀ f∈p.fs,∀ s∈ij p.gs f.params,kO s:=fun f hf s hs=>by
 rcases rj hs with hs | hs
 ·rw[List.mem_map] at hs;obtain⟨g,hg,rfl⟩:=hs;exact h.gR g hg
 ·rw[List.mem_map] at hs;obtain⟨g,hg,rfl⟩:=hs;exact h.pR f hf g hg
theorem _root_.Go.aT.jg.pl {p:Pg}(h:jg p):∀ f∈p.fs,f.params.length≤2:=fun f hf=>by
 obtain⟨k,hk,Pk⟩:=h.pn f hf;have:=congrArg List.length Pk;simp[nP] at this;omega
theorem E3 (s:Sm):2≤dB s:=by cases s<;>simp only[dB]<;>omega
theorem iO:∀ l:List Sm,2*l.length≤bz l
 | []=>by simp[bz]
 | s::r=>by
  have:=iO r;have:=E3 s;simp only[bz,List.length_cons];omega
def OkF (deep:Nat)(s:Sm):Prop:=match s with
 | .fN nm e=>kO nm∧ae Tryz.prog 104 [.agg (bC e)] (.bool true)
 | .gz nm e=>kO nm∧ae Tryz.prog 104 [.agg (bC e)] (.bool true)
 | .dm _ nm al=>kO nm∧al.length≤1000∧∀ a∈al,okA a
 | .cR _ r=>RfR r
 | .jS e th el=>ae Tryz.prog 104 [.agg (bC e)] (.bool true)∧ae Tryz.prog 82 [.au (bh th) th.length,I ((deep+1:Nat))] (.bool true)∧ae Tryz.prog 82 [.au (bh el) el.length,I ((deep+1:Nat))] (.bool true)
 | .cb e th=>ae Tryz.prog 104 [.agg (bC e)] (.bool true)∧ae Tryz.prog 82 [.au (bh th) th.length,I ((deep+1:Nat))] (.bool true)
 | .ia=>True
theorem kz {l:List Sm}{deep:Nat}(hd:deep<20)(hl:l.length≤100000)(h:∀ s∈l,OkF deep s):ae Tryz.prog 82 [.au (bh l) l.length,I deep] (.bool true):=
 uV l deep hd hl fun s hs=>by
  have:=h s hs;cases s<;>exact this
section
variable {ms:List Mx}{fs:List (ByteArray×List Pm)}{ps:List Pm}(K3:∀ m∈ms,kO m.name)(LL:∀ x∈fs,kO x.1)(Ld:∀ x∈fs,x.2.length≤2)(Lt:∀ q∈ps,kO q.name)
include K3 Lt
theorem rf_R {V:List ByteArray}(hV:∀ x∈V,kO x){r:Rf}(h:BX ms ps V r):RfR r:=by
 rcases h with ⟨m,hm,hn,hi⟩ | ⟨q,hq,_,hn,hi⟩
 ·refine⟨by rw[hn];exact K3 m hm,fun e he=>?_⟩;rcases hi with ⟨hi,_⟩ | ⟨e',hi,_,hw⟩
  ·rw[hi] at he;cases he
  ·rw[hi] at he;cases he;exact eR hV 1 _ yA hw
 ·exact⟨by rw[hn];exact Lt q hq,fun e he=>by rw[hi] at he;cases he⟩
theorem GW {V:List ByteArray}(hV:∀ x∈V,kO x):∀ {gp:List Pm} {l:List Ar},gZ ms ps V gp l→∀ a∈l,okA a
 | [],[],_=>by simp
 | q::gp,a::l,h=>by
  simp only[gZ] at h;intro x hx;rcases List.mem_cons.1 hx with rfl | hx
  ·cases x with
   | ru r=>exact rf_R K3 Lt hV h.1.2
   | exp e=>exact eR hV 2 _ yA h.1.2
  ·exact GW hV h.2 x hx
 | [],_::_,h=>h.elim
 | _::_,[],h=>h.elim
theorem rf_T {V:List ByteArray}(hV:∀ x∈V,kO x){r:Rf}(h:BX ms ps V r):IG r:=by
 have T7:∀ x∈V,cJ x:=fun x hx=>(hV x hx).1;have hz:∀ s:ByteArray,cJ s→s.size≤100:=fun s hs=>by
  have:=hs.2.2;rw[jO] at this;omega
 rcases h with ⟨m,hm,hn,hi⟩ | ⟨q,hq,_,hn,hi⟩
 ·refine⟨by rw[hn];exact hz _ (K3 m hm).1,fun e he=>?_⟩;rcases hi with ⟨hi,_⟩ | ⟨e',hi,_,hw⟩
  ·rw[hi] at he;cases he
  ·rw[hi] at he;cases he;exact⟨lQ T7 1 _ yA hw,ka T7 (d:=1) yA hw⟩
 ·exact⟨by rw[hn];exact hz _ (Lt q hq).1,fun e he=>by rw[hi] at he;cases he⟩
theorem GV {V:List ByteArray}(hV:∀ x∈V,kO x):∀ {gp:List Pm} {l:List Ar},gZ ms ps V gp l→∀ a∈l,TxA a
 | [],[],_=>by simp
 | q::gp,a::l,h=>by
  simp only[gZ] at h;intro x hx;rcases List.mem_cons.1 hx with rfl | hx
  ·cases x with
   | ru r=>exact rf_T K3 Lt hV h.1.2
   | exp e=>
    have T7:∀ x∈V,cJ x:=fun x hx=>(hV x hx).1;exact⟨lQ T7 2 _ yA h.1.2,ka T7 (d:=2) yA h.1.2⟩
  ·exact GV hV h.2 x hx
 | [],_::_,h=>h.elim
 | _::_,[],h=>h.elim
include LL Ld
theorem wQ:(∀ s:Sm,∀ d V deep,(∀ x∈V,kO x)→deep+d<20→dh ms fs ps d V s→dB s≤2000→OkF deep s)∧
  (∀ l:List Sm,∀ d V deep,(∀ x∈V,kO x)→deep+d<20→ck ms fs ps d V l→bz l≤2000→∀ s∈l,OkF deep s):=by
 let M1:Sm→Prop:=fun s=>∀ d V deep,(∀ x∈V,kO x)→deep+d<20→dh ms fs ps d V s→dB s≤2000→OkF deep s
 let M2:List Sm→Prop:=fun l=>∀ d V deep,(∀ x∈V,kO x)→deep+d<20→ck ms fs ps d V l→bz l≤2000→∀ s∈l,OkF deep s
 have PV:∀ k,k<24→kO (eA k):=vL;have A1:∀ (s:ByteArray) (e:Ex),M1 (.fN s e):=by
  intro s e d V deep hV _ hw _;simp only[dh] at hw;obtain⟨⟨k,hk,rfl⟩,_,he⟩:=hw;exact⟨PV k hk,eR hV 2 _ yA he⟩
 have A2:∀ (s:ByteArray) (e:Ex),M1 (.gz s e):=by
  intro s e d V deep hV _ hw _;simp only[dh] at hw;exact⟨hV s hw.1,eR hV 2 _ yA hw.2⟩
 have A3:∀ (g:Bool) (s:ByteArray) (l:List Ar),M1 (.dm g s l):=by
  intro g s l d V deep hV _ hw hk;simp only[dh] at hw;obtain⟨gp,h1,h2⟩:=hw;have:=h2.len;have:=Ld _ h1;simp only at this;exact⟨LL _ h1,by omega,GW K3 Lt hV h2⟩
 have A4:∀ (u:Bool) (r:Rf),M1 (.cR u r):=by
  intro u r d V deep hV _ hw _;simp only[dh] at hw;exact rf_R K3 Lt hV hw
 have A5:∀ (e:Ex) (th el:List Sm),M2 th→M2 el→M1 (.jS e th el):=by
  intro e th el i1 i2 d V deep hV hd hw hk
  cases d with
  | zero=>simp[dh] at hw
  | succ d=>
   simp only[dh] at hw;simp only[dB] at hk;have l1:=iO th;have l2:=iO el;exact⟨eR hV 2 _ yA hw.1,kz yA yA (i1 d V _ hV yA hw.2.1 yA),kz yA yA (i2 d V _ hV yA hw.2.2 yA)⟩
 have A6:∀ (e:Ex) (th:List Sm),M2 th→M1 (.cb e th):=by
  intro e th i1 d V deep hV hd hw hk
  cases d with
  | zero=>simp[dh] at hw
  | succ d=>
   simp only[dh] at hw;simp only[dB] at hk;have l1:=iO th;exact⟨eR hV 2 _ yA hw.1,kz yA yA (i1 d V _ hV yA hw.2 yA)⟩
 have A7:M1 .ia:=fun _ _ _ _ _ _ _=>trivial;have A0:M2 []:=fun _ _ _ _ _ _ _ s hs=>by simp at hs
 have A8:∀ (s:Sm) (r:List Sm),M1 s→M2 r→M2 (s::r):=by
  intro s r i1 i2 d V deep hV hd hw hk x hx;simp only[ck] at hw;simp only[bz] at hk;have T6:∀ x∈V++di s,kO x:=by
   intro x hx;rcases List.mem_append.1 hx with hx | hx
   ·exact hV x hx
   ·cases s<;>simp only[di,List.mem_singleton,List.not_mem_nil] at hx;subst hx;have:=hw.1;simp only[dh] at this;obtain⟨⟨j,hj,rfl⟩,_⟩:=this;exact PV j hj
  rcases List.mem_cons.1 hx with rfl | hx
  ·exact i1 d V deep hV hd hw.1 yA
  ·exact i2 d _ deep T6 hd hw.2 yA x hx
 exact⟨fun s=>Sm.rec (motive_1:=M1) (motive_2:=M2) A1 A2 A3 A4 A5 A6 A7 A0 A8 s,fun l=>Sm.rec_1 (motive_1:=M1) (motive_2:=M2) A1 A2 A3 A4 A5 A6 A7 A0 A8 l⟩
theorem Bo:(∀ s:Sm,∀ d V m9,(∀ x∈V,kO x)→fA d m9→dh ms fs ps d V s→dB s≤2000→TxS m9 s)∧
  (∀ l:List Sm,∀ d V m9,(∀ x∈V,kO x)→fA d m9→ck ms fs ps d V l→bz l≤2000→∀ s∈l,TxS m9 s):=by
 let M1:Sm→Prop:=fun s=>∀ d V m9,(∀ x∈V,kO x)→fA d m9→dh ms fs ps d V s→dB s≤2000→TxS m9 s
 let M2:List Sm→Prop:=fun l=>∀ d V m9,(∀ x∈V,kO x)→fA d m9→ck ms fs ps d V l→bz l≤2000→∀ s∈l,TxS m9 s
 have PV:∀ k,k<24→kO (eA k):=vL;have hz:∀ s:ByteArray,kO s→s.size≤100:=fun s hs=>by
  have:=hs.1.2.2;rw[jO] at this;omega
 have tx:∀ {V:List ByteArray} (_:∀ x∈V,kO x) {e:Ex},eO V 2 e→IH e:=fun {V} hV {e} he=>⟨lQ (fun x hx=>(hV x hx).1) 2 _ yA he,ka (fun x hx=>(hV x hx).1) (d:=2) yA he⟩;have iI:∀ (l:List Sm) (d:Nat) (V:List ByteArray) (m9:ByteArray),M2 l→(∀ x∈V,kO x)→fA d m9→ck ms fs ps d V l→bz l≤2000→ae Tryz.prog 109 [.au (bh l) l.length,.str m9] (.str (g6 m9 l)):=by
  intro l d V m9 i1 hV ht hw hk;have hs:=((bN.lines (ms:=ms) (fs:=fs) (ps:=ps) (fun m hm=>(K3 m hm).1) (fun x hx=>(LL x hx).1) (fun q hq=>(Lt q hq).1)).2 l d V m9 (fun x hx=>(hV x hx).1) ht hw).1;rw[jO] at hs;have h2:=ht.2;rw[jO] at h2;have h3:=iO l;exact rB l m9 yA yA yA (i1 d V m9 hV ht hw hk)
 have A1:∀ (s:ByteArray) (e:Ex),M1 (.fN s e):=by
  intro s e d V m9 hV _ hw _;simp only[dh] at hw;obtain⟨⟨k,hk,rfl⟩,_,he⟩:=hw;exact⟨hz _ (PV k hk),tx hV he⟩
 have A2:∀ (s:ByteArray) (e:Ex),M1 (.gz s e):=by
  intro s e d V m9 hV _ hw _;simp only[dh] at hw;exact⟨hz _ (hV s hw.1),tx hV hw.2⟩
 have A3:∀ (g:Bool) (s:ByteArray) (l:List Ar),M1 (.dm g s l):=by
  intro g s l d V m9 hV _ hw hk;simp only[dh] at hw;obtain⟨gp,h1,h2⟩:=hw;have:=h2.len;have:=Ld _ h1;simp only at this;exact⟨hz _ (LL _ h1),by omega,GV K3 Lt hV h2⟩
 have A4:∀ (u:Bool) (r:Rf),M1 (.cR u r):=by
  intro u r d V m9 hV _ hw _;simp only[dh] at hw;exact rf_T K3 Lt hV hw
 have A5:∀ (e:Ex) (th el:List Sm),M2 th→M2 el→M1 (.jS e th el):=by
  intro e th el i1 i2 d V m9 hV ht hw hk
  cases d with
  | zero=>simp[dh] at hw
  | succ d=>
   simp only[dh] at hw;simp only[dB] at hk;exact⟨tx hV hw.1,iI th d V _ i1 hV ht.more hw.2.1 yA,iI el d V _ i2 hV ht.more hw.2.2 yA⟩
 have A6:∀ (e:Ex) (th:List Sm),M2 th→M1 (.cb e th):=by
  intro e th i1 d V m9 hV ht hw hk
  cases d with
  | zero=>simp[dh] at hw
  | succ d=>
   simp only[dh] at hw;simp only[dB] at hk;exact⟨tx hV hw.1,iI th d V _ i1 hV ht.more hw.2 yA⟩
 have A7:M1 .ia:=fun _ _ _ _ _ _ _=>trivial;have A0:M2 []:=fun _ _ _ _ _ _ _ s hs=>by simp at hs
 have A8:∀ (s:Sm) (r:List Sm),M1 s→M2 r→M2 (s::r):=by
  intro s r i1 i2 d V m9 hV hd hw hk x hx;simp only[ck] at hw;simp only[bz] at hk;have T6:∀ x∈V++di s,kO x:=by
   intro x hx;rcases List.mem_append.1 hx with hx | hx
   ·exact hV x hx
   ·cases s<;>simp only[di,List.mem_singleton,List.not_mem_nil] at hx;subst hx;have:=hw.1;simp only[dh] at this;obtain⟨⟨j,hj,rfl⟩,_⟩:=this;exact PV j hj
  rcases List.mem_cons.1 hx with rfl | hx
  ·exact i1 d V m9 hV hd hw.1 yA
  ·exact i2 d _ m9 T6 hd hw.2 yA x hx
 exact⟨fun s=>Sm.rec (motive_1:=M1) (motive_2:=M2) A1 A2 A3 A4 A5 A6 A7 A0 A8 s,fun l=>Sm.rec_1 (motive_1:=M1) (motive_2:=M2) A1 A2 A3 A4 A5 A6 A7 A0 A8 l⟩
end
section
variable {p:Pg}(h:jg p)
include h
theorem _root_.Go.aT.jg.zA (f:Fu)(hf:f∈p.fs):bz f.body≤1152:=by
 have hw:=h.wt;have:bz f.body∈p.fs.map fun f=>bz f.body:=List.mem_map_of_mem (f:=fun f=>bz f.body) hf;have h2:∀ {l:List Nat} {a:Nat},a∈l→a≤l.sum:=fun {l a} ha=>by
  induction l with
  | nil=>simp at ha
  | cons b r ih=>
   rcases List.mem_cons.1 ha with rfl | ha
   ·simp
   ·have:=ih ha;simp only[List.sum_cons];omega
 have:=h2 this;omega
theorem _root_.Go.aT.jg.EJ:(∀ x∈p.fs.map fun f=>(f.name,f.params),kO x.1)∧(∀ x∈p.fs.map fun f=>(f.name,f.params),x.2.length≤2):=by
 refine⟨fun x hx=>?_,fun x hx=>?_⟩
 ·rw[List.mem_map] at hx;obtain⟨f,hf,rfl⟩:=hx;exact h.fR f hf
 ·rw[List.mem_map] at hx;obtain⟨f,hf,rfl⟩:=hx;exact h.pl f hf
theorem _root_.Go.aT.jg.okb (f:Fu)(hf:f∈p.fs):ae Tryz.prog 82 [.au (bh f.body) f.body.length,I (0:Nat)] (.bool true):=by
 have hk:=h.zA f hf;have hl:=iO f.body;exact kz yA yA ((wQ h.mR h.EJ.1 h.EJ.2 (h.pR f hf)).2 f.body 2 _ 0 (h.vR f hf) yA (h.bd f hf) yA)
theorem _root_.Go.aT.jg.lnb (f:Fu)(hf:f∈p.fs):ae Tryz.prog 109 [.au (bh f.body) f.body.length,.str ⟨#[9]⟩] (.str (g6 ⟨#[9]⟩ f.body)):=by
 have hk:=h.zA f hf;have hl:=iO f.body;have ht:fA 2 ⟨#[9]⟩:=⟨by decide,by decide⟩;have hs:=((bN.lines (ms:=p.ms) (fs:=p.fs.map fun f=>(f.name,f.params)) (ps:=f.params) (fun m hm=>(h.mR m hm).1) (fun x hx=>(h.EJ.1 x hx).1) (fun q hq=>(h.pR f hf q hq).1)).2 f.body 2 _ ⟨#[9]⟩ (fun x hx=>(h.vR f hf x hx).1) ht (h.bd f hf)).1;rw[jO] at hs;exact rB f.body ⟨#[9]⟩ Fk yA yA ((Bo h.mR h.EJ.1 h.EJ.2 (h.pR f hf)).2 f.body 2 _ _ (h.vR f hf) ht (h.bd f hf) yA)
end
def J57a (p:Pg)(n:Nat)(s:St):Prop:=∃ i:Nat,n=p.gs.length-i∧i≤p.gs.length∧s=⟨[(3,I i),(1,.ai 0 0)],[(0,⟨27,0,dH p⟩)],1⟩
def J57b (p:Pg)(n:Nat)(s:St):Prop:=∃ i:Nat,n=p.ms.length-i∧i≤p.ms.length∧s=⟨[(4,I i),(1,.ai 0 0)],[(0,⟨27,0,dH p⟩)],1⟩
def J57c (p:Pg)(n:Nat)(s:St):Prop:=∃ i:Nat,n=p.fs.length-i∧i≤p.fs.length∧s=⟨[(6,I i),(1,.ai 0 0)],[(0,⟨27,0,dH p⟩)],1⟩
def J57d (p:Pg)(i:Nat)(f:Fu)(n:Nat)(s:St):Prop:=∃ q:Nat,n=f.params.length-q∧q≤f.params.length∧s=⟨[(8,I q),(7,.ai 1 0),(6,I i),(1,.ai 0 0)],[(0,⟨27,0,dH p⟩),(1,⟨109,0,ed f⟩)],2⟩
set_option maxHeartbeats 8000000 in
theorem Cf (p:Pg)(h:jg p):ae Tryz.prog 46 [tv p] (.bool true):=by
 have hT:=HI h;have hTs:(Ba p).size≤262144:=by have:=hT.2;rw[jO] at this;exact this
 obtain⟨k1,N6,e1⟩:=h.gn;obtain⟨k2,_,MX,e2⟩:=h.mn;obtain⟨k3,_,Wk,e3⟩:=h.fn;have l1:=congrArg List.length e1;have l2:=congrArg List.length e2;have l3:=congrArg List.length e3;simp[nG] at l1;simp[nM] at l2;simp[nF] at l3;clear e1 e2 e3;have Tb:=wD p yA yA yA yA (fun g hg=>by have:=h.gi g hg;omega) (fun m hm=>by have:=(h.mz m hm).1;omega) (fun f hf=>⟨by have:=h.pl f hf;omega,h.lnb f hf⟩);have X7:=HV (bs (Ba p)) hT.2 hT.1;have g1:¬ (16:Int)<p.gs.length:=by omega
 have g2:¬ (12:Int)<p.ms.length:=by omega
 have g3:¬ (16:Int)<p.fs.length:=by omega
 have fg:=fun (k:Nat) (a:Gl) (h:p.gs[k]? = some a)=>az (f:=mL) (n:=2) (fun _=>rfl) h;have Xh:=fun (k:Nat) (a:Gl) (h:p.gs[k]? = some a)=>bb (f:=mL) (n:=2) (fun _=>rfl) h 1 yA;have fm:=fun (k:Nat) (a:Mx) (h:p.ms[k]? = some a)=>az (f:=eQ) (n:=3) (fun _=>rfl) h;have ff:=fun (k:Nat) (a:Fu) (h:p.fs[k]? = some a)=>az (f:=ed) (n:=3) (fun _=>rfl) h;refine ae.aD af Tryz.func46 rfl lz (by simp[Tryz.ntmps46]) rfl fun C hC xJ=>?_;rw[Tryz.ntmps46] at hC;apply ah;simp[hC,tv,dH];apply aL;simp[hC,g1,g2,g3];refine dg ?_;simp;refine T.cut (fun s=>s=⟨[(1,.ai 0 0)],[(0,⟨27,0,dH p⟩)],1⟩) ?_ ?_
 ·apply ah;simp[hC];apply T.block;refine T.aI (J57a p) (n:=p.gs.length) ?_ ?_
  ·refine aa.trim [3,1] [0] 1 j5 yA ⟨0,by omega,by omega,?_⟩;simp[dH]
  ·rintro n s ⟨i,rfl,hi,rfl⟩;by_cases nr:i<p.gs.length
   ·obtain⟨a,KH⟩:∃ a,p.gs[i]? = some a:=⟨p.gs[i],List.getElem?_eq_getElem nr⟩;have oy:=fg i a KH;have KU:=Xh i a KH;have hm:=List.mem_of_getElem? KH;have hn:=im a.name (h.gR a hm).1 (h.gR a hm).2;have Kz:(a.init == -9223372036854775808)=false:=by have:=h.gi a hm;simp;omega
    have wi:=cm ((i:Int)+1) yA yA;apply aL;simp[hC,nr,dH];refine gF ?_;simp;apply fw;apply ah;simp[hC,nr,oy,mL];refine dk zK (hn) ?_;simp[hC,nr,oy,Kz,mL];refine dg ?_;simp;apply a8;simp[hC,wi];refine⟨p.gs.length-(i+1),by omega,?_⟩;refine aa.trim [3,1] [0] 1 j5 yA ⟨i+1,rfl,by omega,?_⟩;simp[dH]
   ·apply aL;simp[hC,nr,dH];refine aU ?_;simp;apply T.exit;simp;refine aa.trim [1] [0] 1 j5 yA ?_;simp
 rintro s rfl;refine T.cut (fun s=>s=⟨[(1,.ai 0 0)],[(0,⟨27,0,dH p⟩)],1⟩) ?_ ?_
 ·apply ah;simp[hC];apply T.block;refine T.aI (J57b p) (n:=p.ms.length) ?_ ?_
  ·refine aa.trim [4,1] [0] 1 NW yA ⟨0,by omega,by omega,?_⟩;simp[dH]
  ·rintro n s ⟨i,rfl,hi,rfl⟩;by_cases nr:i<p.ms.length
   ·obtain⟨a,KH⟩:∃ a,p.ms[i]? = some a:=⟨p.ms[i],List.getElem?_eq_getElem nr⟩;have oy:=fm i a KH;have hm:=List.mem_of_getElem? KH;have hn:=im a.name (h.mR a hm).1 (h.mR a hm).2;have hz:=h.mz a hm;have wi:=cm ((i:Int)+1) yA yA;have z1:¬ (a.size:Int)<0:=by omega
    have z2:¬ (64:Int)<a.size:=by omega
    apply aL;simp[hC,nr,dH];refine gF ?_;simp;apply fw;apply ah;simp[hC,nr,oy,eQ]
    cases Me:a.re with
    | true=>
     have z3:=hz.2 Me;apply ah;simp[hC];refine dk zK (hn) ?_;simp[hC,z3];refine dg ?_;simp;apply a8;simp[hC,wi];refine⟨p.ms.length-(i+1),by omega,?_⟩;refine aa.trim [4,1] [0] 1 j5 yA ⟨i+1,rfl,by omega,?_⟩;simp[dH]
    | false=>
     apply ah;simp[hC];refine dk zK (hn) ?_;simp[hC,z1,z2];refine dg ?_;simp;apply a8;simp[hC,wi];refine⟨p.ms.length-(i+1),by omega,?_⟩;refine aa.trim [4,1] [0] 1 j5 yA ⟨i+1,rfl,by omega,?_⟩;simp[dH]
   ·apply aL;simp[hC,nr,dH];refine aU ?_;simp;apply T.exit;simp;refine aa.trim [1] [0] 1 j5 yA ?_;simp
 rintro s rfl;refine T.cut (fun s=>s=⟨[(1,.ai 0 0)],[(0,⟨27,0,dH p⟩)],1⟩) ?_ ?_
 ·apply ah;simp[hC];apply T.block;refine T.aI (J57c p) (n:=p.fs.length) ?_ ?_
  ·refine aa.trim [6,1] [0] 1 NW yA ⟨0,by omega,by omega,?_⟩;simp[dH]
  ·rintro n s ⟨i,rfl,hi,rfl⟩;by_cases nr:i<p.fs.length
   ·obtain⟨a,KH⟩:∃ a,p.fs[i]? = some a:=⟨p.fs[i],List.getElem?_eq_getElem nr⟩;have oy:=ff i a KH;have hm:=List.mem_of_getElem? KH;have hn:=im a.name (h.fR a hm).1 (h.fR a hm).2;have hb:=h.okb a hm;have LX:=h.pl a hm;have wi:=cm ((i:Int)+1) yA yA;have z1:¬ (6:Int)<a.params.length:=by omega
    apply aL;simp[hC,nr,dH];refine gF ?_;simp;apply fw;apply ah;simp[hC,nr,oy,ed];apply aL;simp[hC];refine dk zK (hn) ?_;simp[hC,z1];refine TL.bG yI rfl rfl rfl rfl (bm.of rfl zK (hb)) (TL.go' af ?_);simp[hC];refine dg ?_;simp;apply ah;simp[hC];apply T.block;refine T.aI (J57d p i a) (n:=a.params.length) ?_ ?_
    ·refine aa.trim [8,7,6,1] [0,1] 2 j5 yA ⟨0,by omega,by omega,?_⟩;simp[dH,ed]
    ·rintro n s ⟨q,rfl,hq,rfl⟩;by_cases Nc:q<a.params.length
     ·obtain⟨b,PX⟩:∃ b,a.params[q]? = some b:=⟨a.params[q],List.getElem?_eq_getElem Nc⟩;have Nw:=az (f:=jB) (n:=2) (fun _=>rfl) PX;have T0:=List.mem_of_getElem? PX;have Mp:=im b.name (h.pR a hm b T0).1 (h.pR a hm b T0).2;have wq:=cm ((q:Int)+1) yA yA;apply aL;simp[hC,Nc,ed];refine gF ?_;simp;apply fw;apply ah;simp[hC,Nc,Nw,jB];refine dk zK (Mp) ?_;simp[hC];refine dg ?_;simp;apply a8;simp[hC,wq];refine⟨a.params.length-(q+1),by omega,?_⟩;refine aa.trim [8,7,6,1] [0,1] 2 NW yA ⟨q+1,rfl,by omega,?_⟩;simp[dH,ed]
     ·apply aL;simp[hC,Nc,ed];refine aU ?_;simp;apply T.exit;simp;apply a8;simp[hC,wi];refine⟨p.fs.length-(i+1),by omega,?_⟩;refine aa.trim [6,1] [0] 1 NW yA ⟨i+1,rfl,by omega,?_⟩;simp[dH]
   ·apply aL;simp[hC,nr,dH];refine aU ?_;simp;apply T.exit;simp;refine aa.trim [1] [0] 1 j5 yA ?_;simp
 rintro s rfl;apply ah;simp[hC,dH];refine TL.call yI rfl rfl (bm.of rfl (by rfl) Tb) (TL.yh af ?_);have hTz:(Ba p).size≤1000000:=by omega
 have PJ:cW (bs (Ba p))=.au (nw (Ba p)) (Ba p).size:=by rw[cW,jO];rfl
 rw[PJ] at X7;simp[hC,hTz];refine TL.Eh yI rfl rfl rfl (by rfl) X7 fun r hr=>TL.go' af ?_;obtain⟨cs,n,e,rfl⟩:=hr;simp[hC];apply ah;simp[hC];apply T.ret;apply aa.here;simp[Tryz.results46]
end Go.Proofs.YtlkmbdfhdknlgaaGreatDoor
