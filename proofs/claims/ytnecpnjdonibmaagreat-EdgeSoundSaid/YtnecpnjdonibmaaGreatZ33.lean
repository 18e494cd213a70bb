/- program: the text of a program. -/
import Derived.Test.YtnecpnjdonibmaaGreatZ32
namespace Go.Proofs.YtnecpnjdonibmaaGreat
open Go.Can Go.aP
def J91a (p:Pg)(X:ByteArray)(n:Nat)(s:St):Prop:=∃ (i:Nat) (x:ByteArray),n=p.gs.length-i∧i≤p.gs.length∧x++(jm K5 (p.gs.drop i)++jm JT p.ms++jm Fz p.fs)=X∧s=⟨[(4,I i),(3,.str x),(1,.av 0 0)],[(0,⟨27,0,dU p⟩)],1⟩
def J91b (p:Pg)(X:ByteArray)(n:Nat)(s:St):Prop:=∃ (i:Nat) (x:ByteArray),n=p.ms.length-i∧i≤p.ms.length∧x++(jm JT (p.ms.drop i)++jm Fz p.fs)=X∧s=⟨[(5,I i),(3,.str x),(1,.av 0 0)],[(0,⟨27,0,dU p⟩)],1⟩
def J91c (p:Pg)(X:ByteArray)(n:Nat)(s:St):Prop:=∃ (i:Nat) (x:ByteArray),n=p.fs.length-i∧i≤p.fs.length∧x++jm Fz (p.fs.drop i)=X∧s=⟨[(7,I i),(3,.str x),(1,.av 0 0)],[(0,⟨27,0,dU p⟩)],1⟩
def J91d (p:Pg)(i:Nat)(nm:ByteArray)(ps:List Pm)(bd:List Sm)(Y:ByteArray)(n:Nat)(s:St):Prop:=∃ (q:Nat) (z:ByteArray),n=ps.length-q∧q≤ps.length∧z++tH (decide (q=0)) (ps.drop q)=Y∧s=⟨[(9,I q),(8,.av 1 0),(7,I i),(3,.str z),(1,.av 0 0)],[(0,⟨27,0,dU p⟩),(1,⟨192,0,eF ⟨nm,ps,bd⟩⟩)],2⟩
theorem yh (b:ByteArray):(⟨#[]⟩:ByteArray)++b=b:=ByteArray.empty_append
theorem lL (b:ByteArray):b++(⟨#[]⟩:ByteArray)=b:=ByteArray.append_empty
set_option maxHeartbeats 8000000 in
theorem zk (p:Pg)(PZ:(Ej p).size≤1000000)(h1:p.gs.length≤100)(h2:p.ms.length≤100)(h3:p.fs.length≤100)(hg:∀ g∈p.gs,-1000≤g.init∧g.init≤1000)(hm:∀ m∈p.ms,m.size≤1000)
  (hf:∀ f∈p.fs,f.params.length≤100∧ae Tryz.prog 262 [.az (bz f.body) f.body.length,.str ⟨#[9]⟩] (.str (iS ⟨#[9]⟩ f.body))):ae Tryz.prog 202 [vS p] (.str (Ej p)):=by
 obtain⟨X,hX⟩:∃ X,Ej p=X:=⟨_,rfl⟩;rw[hX] at PZ ⊢;unfold Ej at hX;have fg:=fun (k:Nat) (a:Gl) (h:p.gs[k]? = some a)=>aO (f:=nW) (n:=2) (fun _=>rfl) h;have fg1:=fun (k:Nat) (a:Gl) (h:p.gs[k]? = some a)=>bS (f:=nW) (n:=2) (fun _=>rfl) h 1 yA;have fm:=fun (k:Nat) (a:Mx) (h:p.ms[k]? = some a)=>aO (f:=eL) (n:=3) (fun _=>rfl) h;have ff:=fun (k:Nat) (a:Fu) (h:p.fs[k]? = some a)=>aO (f:=eF) (n:=3) (fun _=>rfl) h;refine ae.aM ah Tryz.func202 rfl PH (by simp[Tryz.ntmps202]) rfl fun C hC PN=>?_;rw[Tryz.ntmps202] at hC;apply aj;simp[hC,vS,dU];apply aj;simp[hC];refine T.cut (fun s=>∃ x,x++(jm JT p.ms++jm Fz p.fs)=X∧s=⟨[(3,.str x),(1,.av 0 0)],[(0,⟨27,0,dU p⟩)],1⟩) ?_ ?_
 ·apply aj;simp[hC];apply T.block;refine T.aJ (J91a p X) (n:=p.gs.length) ?_ ?_
  ·refine aa.trim [4,3,1] [0] 1 zX yA ⟨0,⟨#[]⟩,by omega,by omega,?_,?_⟩
   ·rw[yh];exact hX
   ·simp[dU]
  ·rintro n s ⟨i,x,rfl,hi,hx,rfl⟩;by_cases PJ:i<p.gs.length
   ·obtain⟨a,Qz⟩:∃ a,p.gs[i]? = some a:=⟨p.gs[i],List.getElem?_eq_getElem PJ⟩;have PL:=fg i a Qz;have Rz:=fg1 i a Qz;have P4:=hg a (List.mem_of_getElem? Qz);have wi:=cE ((i:Int)+1) yA yA;have hd:p.gs.drop i=a::p.gs.drop (i+1):=by
     rw[List.drop_eq_getElem_cons PJ,(List.getElem?_eq_some_iff.1 Qz).2]
    rw[hd,jm] at hx;have hz:=congrArg ByteArray.size hx;simp only[K5,y0,ByteArray.size_append] at hz;have s0:=ax x ⟨#[118,97,114,32]⟩ yA;have s1:=ax (x++⟨#[118,97,114,32]⟩) a.name Uv;apply aU;simp[hC,PJ,dU];refine gQ ?_;simp;apply dZ;apply aj;simp[hC,PJ,PL,nW,s0,s1];by_cases h0:a.init=0
    ·rw[if_pos h0] at hz;have s2:=ax (x++⟨#[118,97,114,32]⟩++a.name) ⟨#[59,10]⟩ Uv;apply aU;simp[hC,PJ,PL,nW,h0];refine gO ?_;simp;apply aW;simp[hC,s2];apply aW;simp[hC,wi];refine⟨p.gs.length-(i+1),by omega,?_⟩;refine aa.trim [4,3,1] [0] 1 zX yA ⟨i+1,x++⟨#[118,97,114,32]⟩++a.name++⟨#[59,10]⟩,rfl,by omega,?_,?_⟩
     ·rw[← hx,K5,if_pos h0,lL];simp only[y0,ByteArray.append_assoc]
     ·simp[dU]
    ·rw[if_neg h0] at hz;simp only[Ga,ByteArray.size_append] at hz;have h0b:(a.init != 0)=true:=by simp[h0]
     have s2:=ax (x++⟨#[118,97,114,32]⟩++a.name) ⟨#[32,61,32]⟩ Uv;have s3:=ax (x++⟨#[118,97,114,32]⟩++a.name++⟨#[32,61,32]⟩) (kk a.init) Uv;have s4:=ax (x++⟨#[118,97,114,32]⟩++a.name++⟨#[32,61,32]⟩++kk a.init) ⟨#[59,10]⟩ Uv;apply aU;simp[hC,PJ,PL,nW,h0b];refine fx ?_;simp;apply aW;simp[hC,PJ,PL,nW,s2];refine dQ P2 (oq a.init yA yA) ?_;simp[hC,s3];apply aW;simp[hC,s4];apply aW;simp[hC,wi];refine⟨p.gs.length-(i+1),by omega,?_⟩;refine aa.trim [4,3,1] [0] 1 zX yA ⟨i+1,x++⟨#[118,97,114,32]⟩++a.name++⟨#[32,61,32]⟩++kk a.init++⟨#[59,10]⟩,rfl,by omega,?_,?_⟩
     ·rw[← hx,K5,if_neg h0];simp only[y0,Ga,ByteArray.append_assoc]
     ·simp[dU]
   ·have PS:i=p.gs.length:=by omega
    rw[PS,List.drop_length,jm,yh] at hx;apply aU;simp[hC,PJ,dU];refine bh ?_;simp;apply T.exit;simp;refine aa.trim [3,1] [0] 1 zX yA ⟨x,hx,?_⟩;simp
 rintro s ⟨x0,Za,rfl⟩;clear hX;refine T.cut (fun s=>∃ x,x++jm Fz p.fs=X∧s=⟨[(3,.str x),(1,.av 0 0)],[(0,⟨27,0,dU p⟩)],1⟩) ?_ ?_
 ·apply aj;simp[hC];apply T.block;refine T.aJ (J91b p X) (n:=p.ms.length) ?_ ?_
  ·refine aa.trim [5,3,1] [0] 1 TR yA ⟨0,x0,by omega,by omega,Za,?_⟩;simp
  ·rintro n s ⟨i,x,rfl,hi,hx,rfl⟩;by_cases PJ:i<p.ms.length
   ·obtain⟨a,Qz⟩:∃ a,p.ms[i]? = some a:=⟨p.ms[i],List.getElem?_eq_getElem PJ⟩;have PL:=fm i a Qz;have P4:=hm a (List.mem_of_getElem? Qz);have wi:=cE ((i:Int)+1) yA yA;have hd:p.ms.drop i=a::p.ms.drop (i+1):=by
     rw[List.drop_eq_getElem_cons PJ,(List.getElem?_eq_some_iff.1 Qz).2]
    rw[hd,jm,JT] at hx;have hz:=congrArg ByteArray.size hx;simp only[ByteArray.size_append] at hz;apply aU;simp[hC,PJ,dU];refine gQ ?_;simp;apply dZ;apply aj;simp[hC,PJ,PL,eL];obtain⟨y,hy⟩:∃ y,x++(if a.re=true then ⟨#[114]⟩ else ⟨#[]⟩)=y:=⟨_,rfl⟩;have Y6:y.size=x.size+(if a.re=true then (⟨#[114]⟩:ByteArray) else ⟨#[]⟩).size:=by rw[← hy,ByteArray.size_append]
    have hyX:y.size≤1000000:=by omega
    refine T.cut (fun s=>s=⟨[(6,.av 1 0),(5,I i),(3,.str y),(1,.av 0 0)],[(0,⟨27,0,dU p⟩),(1,⟨93,0,eL a⟩)],2⟩) ?_ ?_
    ·apply aj;simp[hC];refine T.cond (b:=a.re) rfl ?_
     cases QD:a.re with
     | true=>
      rw[QD,if_pos rfl] at hy Y6;have s0:=ax x ⟨#[114]⟩ yA;simp;apply aW;simp[hC,s0];refine aa.trim [6,5,3,1] [0,1] 2 zX yA ?_;simp[← hy,eL,QD,dU]
     | false=>
      rw[QD,if_neg zX,lL] at hy;simp;apply T.skip;simp;refine aa.trim [6,5,3,1] [0,1] 2 zX yA ?_;simp[← hy,eL,QD,dU]
    rintro s rfl;have s1:=ax y ⟨#[109,117,116,101,120,32]⟩ yA;have s2:=ax (y++⟨#[109,117,116,101,120,32]⟩) a.name Uv;apply aj;simp[hC,s1,s2,eL];have Sw:y++(⟨#[109,117,116,101,120,32]⟩++a.name++(if a.size=0 then ⟨#[]⟩ else ⟨#[91]⟩++kk a.size++⟨#[93]⟩)++⟨#[59,10]⟩++(jm JT (p.ms.drop (i+1))++jm Fz p.fs))=X:=by
     rw[← hx,← hy];simp only[ByteArray.append_assoc]
    by_cases h0:a.size=0
    ·rw[if_pos h0] at hz Sw;have s3:=ax (y++⟨#[109,117,116,101,120,32]⟩++a.name) ⟨#[59,10]⟩ Uv;apply aU;simp[hC,h0];refine gO ?_;simp;apply aW;simp[hC,s3];apply aW;simp[hC,wi];refine⟨p.ms.length-(i+1),by omega,?_⟩;refine aa.trim [5,3,1] [0] 1 TR yA ⟨i+1,y++⟨#[109,117,116,101,120,32]⟩++a.name++⟨#[59,10]⟩,rfl,by omega,?_,?_⟩
     ·rw[← Sw,lL];simp only[ByteArray.append_assoc]
     ·simp[dU]
    ·rw[if_neg h0] at hz Sw;simp only[ByteArray.size_append] at hz;have h0b:0<a.size:=by omega
     have s3:=ax (y++⟨#[109,117,116,101,120,32]⟩++a.name) ⟨#[91]⟩ Uv;have s4:=ax (y++⟨#[109,117,116,101,120,32]⟩++a.name++⟨#[91]⟩) (kk a.size) Uv;have s5:=ax (y++⟨#[109,117,116,101,120,32]⟩++a.name++⟨#[91]⟩++kk a.size) ⟨#[93]⟩ Uv;have s6:=ax (y++⟨#[109,117,116,101,120,32]⟩++a.name++⟨#[91]⟩++kk a.size++⟨#[93]⟩) ⟨#[59,10]⟩ Uv;apply aU;simp[hC,h0b];refine fx ?_;simp;apply aW;simp[hC,s3];refine dQ P2 (oq (a.size:Int) yA yA) ?_;simp[hC,s4,s5];apply aW;simp[hC,s6];apply aW;simp[hC,wi];refine⟨p.ms.length-(i+1),by omega,?_⟩;refine aa.trim [5,3,1] [0] 1 TR yA ⟨i+1,y++⟨#[109,117,116,101,120,32]⟩++a.name++⟨#[91]⟩++kk a.size++⟨#[93]⟩++⟨#[59,10]⟩,rfl,by omega,?_,?_⟩
     ·rw[← Sw];simp only[ByteArray.append_assoc]
     ·simp[dU]
   ·have PS:i=p.ms.length:=by omega
    rw[PS,List.drop_length,jm,yh] at hx;apply aU;simp[hC,PJ,dU];refine bh ?_;simp;apply T.exit;simp;refine aa.trim [3,1] [0] 1 zX yA ⟨x,hx,?_⟩;simp
 rintro s ⟨x1,hx1,rfl⟩;clear Za;refine T.cut (fun s=>s=⟨[(3,.str X),(1,.av 0 0)],[(0,⟨27,0,dU p⟩)],1⟩) ?_ ?_
 ·apply aj;simp[hC];apply T.block;refine T.aJ (J91c p X) (n:=p.fs.length) ?_ ?_
  ·refine aa.trim [7,3,1] [0] 1 TR yA ⟨0,x1,by omega,by omega,hx1,?_⟩;simp
  ·rintro n s ⟨i,x,rfl,hi,hx,rfl⟩;by_cases PJ:i<p.fs.length
   ·obtain⟨a,Qz⟩:∃ a,p.fs[i]? = some a:=⟨p.fs[i],List.getElem?_eq_getElem PJ⟩;have PL:=ff i a Qz;obtain⟨Qy,PX⟩:=hf a (List.mem_of_getElem? Qz);have wi:=cE ((i:Int)+1) yA yA;have hd:p.fs.drop i=a::p.fs.drop (i+1):=by
     rw[List.drop_eq_getElem_cons PJ,(List.getElem?_eq_some_iff.1 Qz).2]
    rw[hd,jm,Fz] at hx;obtain⟨nm,ps,bd⟩:=a;simp only at hx Qy PX;have hz:=congrArg ByteArray.size hx;simp only[ByteArray.size_append] at hz;obtain⟨y,hy⟩:∃ y,x++⟨#[102,117,110,99,32]⟩++nm++⟨#[40]⟩=y:=⟨_,rfl⟩;have Y6:y.size=x.size+(⟨#[102,117,110,99,32]⟩:ByteArray).size+nm.size+(⟨#[40]⟩:ByteArray).size:=by rw[← hy];simp only[ByteArray.size_append]
    obtain⟨Y,hY⟩:∃ Y,y++tH true ps=Y:=⟨_,rfl⟩;have hYs:Y.size=y.size+(tH true ps).size:=by rw[← hY,ByteArray.size_append]
    have Sw:Y++(⟨#[41,32,123,10]⟩++iS oR bd++⟨#[125,10]⟩++jm Fz (p.fs.drop (i+1)))=X:=by
     rw[← hx,← hY,← hy];simp only[ByteArray.append_assoc]
    have s0:=ax x ⟨#[102,117,110,99,32]⟩ yA;have s1:=ax (x++⟨#[102,117,110,99,32]⟩) nm Uv;have s2:=ax (x++⟨#[102,117,110,99,32]⟩++nm) ⟨#[40]⟩ Uv;rw[hy] at s2;apply aU;simp[hC,PJ,dU];refine gQ ?_;simp;apply dZ;apply aj;simp[hC,PJ,PL,eF];apply aj;simp[hC,s0,s1,s2];refine T.cut (fun s=>s=⟨[(8,.av 1 0),(7,I i),(3,.str Y),(1,.av 0 0)],[(0,⟨27,0,dU p⟩),(1,⟨192,0,eF ⟨nm,ps,bd⟩⟩)],2⟩) ?_ ?_
    ·apply aj;simp[hC];apply T.block;refine T.aJ (J91d p i nm ps bd Y) (n:=ps.length) ?_ ?_
     ·refine aa.trim [9,8,7,3,1] [0,1] 2 zX yA ⟨0,y,by omega,by omega,hY,?_⟩;simp[eF,dU]
     ·rintro n s ⟨q,z,rfl,hq,Y5,rfl⟩;by_cases RI:q<ps.length
      ·obtain⟨b,V6⟩:∃ b,ps[q]? = some b:=⟨ps[q],List.getElem?_eq_getElem RI⟩;have ZD:=aO (f:=kj) (n:=2) (fun _=>rfl) V6;have V7:=bS (f:=kj) (n:=2) (fun _=>rfl) V6 1 yA;have wq:=cE ((q:Int)+1) yA yA;have Ua:ps.drop q=b::ps.drop (q+1):=by
        rw[List.drop_eq_getElem_cons RI,(List.getElem?_eq_some_iff.1 V6).2]
       rw[Ua,tH] at Y5;have hz3:=congrArg ByteArray.size Y5;simp only[ByteArray.size_append] at hz3;apply aU;simp[hC,RI,eF];refine gQ ?_;simp;apply dZ;obtain⟨u,hu⟩:∃ u,z++(if decide (q=0)=true then ⟨#[]⟩ else ⟨#[44,32]⟩)=u:=⟨_,rfl⟩;have Vh:u.size=z.size+(if decide (q=0)=true then (⟨#[]⟩:ByteArray) else ⟨#[44,32]⟩).size:=by rw[← hu,ByteArray.size_append]
       obtain⟨v,hv⟩:∃ v,u++(if b.mutex=true then ⟨#[109,117,116,101,120,32]⟩ else ⟨#[]⟩)=v:=⟨_,rfl⟩;have hvs:v.size=u.size+(if b.mutex=true then (⟨#[109,117,116,101,120,32]⟩:ByteArray) else ⟨#[]⟩).size:=by rw[← hv,ByteArray.size_append]
       have hvX:v.size≤1000000:=by omega
       have huX:u.size≤1000000:=by omega
       refine T.cut (fun s=>s=⟨[(9,I q),(8,.av 1 0),(7,I i),(3,.str u),(1,.av 0 0)],[(0,⟨27,0,dU p⟩),(1,⟨192,0,eF ⟨nm,ps,bd⟩⟩)],2⟩) ?_ ?_
       ·apply aj;simp[hC];by_cases hq0:q=0
        ·have V6:¬ 0<q:=by omega
         simp only[hq0,decide_true,if_true,lL] at hu;simp only[V6,decide_false];refine gO ?_;simp;refine aa.trim [9,8,7,3,1] [0,1] 2 TR yA ?_;simp[hu,eF,dU]
        ·have V6:0<q:=by omega
         have e0:decide (q=0)=false:=by simp[hq0]
         rw[e0] at hu Vh;simp only[Bool.false_eq_true,if_false] at hu Vh;have t0:=ax z ⟨#[44,32]⟩ yA;rw[hu] at t0;simp only[V6,decide_true];refine fx ?_;simp;apply aW;simp[hC,t0];refine aa.trim [9,8,7,3,1] [0,1] 2 TR yA ?_;simp[eF,dU]
       rintro s rfl;refine T.cut (fun s=>s=⟨[(9,I q),(8,.av 1 0),(7,I i),(3,.str v),(1,.av 0 0)],[(0,⟨27,0,dU p⟩),(1,⟨192,0,eF ⟨nm,ps,bd⟩⟩)],2⟩) ?_ ?_
       ·apply aj;simp[hC,RI,V7,kj,eF];refine T.cond (b:=b.mutex) rfl ?_
        cases Xh:b.mutex with
        | true=>
         rw[Xh,if_pos rfl] at hv hvs;have t0:=ax u ⟨#[109,117,116,101,120,32]⟩ yA;rw[hv] at t0;simp;apply aW;simp[hC,t0];refine aa.trim [9,8,7,3,1] [0,1] 2 TR yA ?_;simp[dU]
        | false=>
         rw[Xh,if_neg zX,lL] at hv;simp;apply T.skip;simp;refine aa.trim [9,8,7,3,1] [0,1] 2 TR yA ?_;simp[hv,dU]
       rintro s rfl;have t1:=ax v b.name yA;apply aW;simp[hC,RI,ZD,kj,eF,t1];apply aW;simp[hC,wq];refine⟨ps.length-(q+1),by omega,?_⟩;refine aa.trim [9,8,7,3,1] [0,1] 2 TR yA ⟨q+1,v++b.name,rfl,by omega,?_,?_⟩
       ·rw[← Y5,← hv,← hu];simp only[ByteArray.append_assoc];simp
       ·simp[eF,dU]
      ·have PS:q=ps.length:=by omega
       rw[PS,List.drop_length,tH,lL] at Y5;subst Y5;apply aU;simp[hC,RI,eF];refine bh ?_;simp;apply T.exit;simp;refine aa.trim [8,7,3,1] [0,1] 2 TR yA ?_;simp[dU]
    rintro s rfl;have t0:=ax Y ⟨#[41,32,123,10]⟩ yA;have t1:=ax (Y++⟨#[41,32,123,10]⟩) (iS ⟨#[9]⟩ bd) yCo;have t2:=ax (Y++⟨#[41,32,123,10]⟩++iS ⟨#[9]⟩ bd) ⟨#[125,10]⟩ yCo;apply aW;simp[hC,t0,eF];refine dQ P2 (PX) ?_;simp[hC,t1,t2];apply aW;simp[hC,wi];refine⟨p.fs.length-(i+1),by omega,?_⟩;refine aa.trim [7,3,1] [0] 1 TR yA ⟨i+1,Y++⟨#[41,32,123,10]⟩++iS ⟨#[9]⟩ bd++⟨#[125,10]⟩,rfl,by omega,?_,?_⟩
    ·rw[← Sw];simp only[ByteArray.append_assoc];rfl
    ·simp[dU]
   ·have PS:i=p.fs.length:=by omega
    rw[PS,List.drop_length,jm,lL] at hx;subst hx;apply aU;simp[hC,PJ,dU];refine bh ?_;simp;apply T.exit;simp;refine aa.trim [3,1] [0] 1 zX yA ?_;simp
 rintro s rfl;apply aj;simp[hC];apply T.ret;apply aa.here;simp[Tryz.results202]
theorem sa:∀ s∈nG++nM++nF++nP,bs s∉qe:=by decide
theorem L0 (k:Nat)(hk:k<24):bs (eR k)∉qe:=by
 rw[fH];exact (by decide:∀ k,k<24→[118,UInt8.ofNat (97+k % 26),UInt8.ofNat (97+k / 26 % 26)]∉qe) k hk
theorem yS (k:Nat)(hk:k<24):lP (eR k):=by
 refine⟨⟨⟨118,_,fH k,by decide⟩,?_,by rw[fH];simp⟩,L0 k hk⟩;rw[fH];exact (by decide:∀ k,k<24→List.all [118,UInt8.ofNat (97+k % 26),UInt8.ofNat (97+k / 26 % 26)] eW=true) k hk
theorem _root_.Go.aP.jP.gR {p:Pg}(h:jP p):∀ g∈p.gs,lP g.name:=fun g hg=>⟨h.ng g hg,by
 obtain⟨k,_,hk⟩:=h.gn;have:=List.mem_map_of_mem (f:=(·.name)) hg;rw[hk] at this;exact sa _ (by simp only[List.mem_append];exact .inl (.inl (.inl (List.mem_of_mem_take this))))⟩
theorem _root_.Go.aP.jP.mR {p:Pg}(h:jP p):∀ g∈p.ms,lP g.name:=fun g hg=>⟨h.nm g hg,by
 obtain⟨k,_,_,hk⟩:=h.mn;have:=List.mem_map_of_mem (f:=(·.name)) hg;rw[hk] at this;exact sa _ (by simp only[List.mem_append];exact .inl (.inl (.inr (List.mem_of_mem_take this))))⟩
theorem _root_.Go.aP.jP.fR {p:Pg}(h:jP p):∀ g∈p.fs,lP g.name:=fun g hg=>⟨h.nf g hg,by
 obtain⟨k,_,_,hk⟩:=h.fn;have:=List.mem_map_of_mem (f:=(·.name)) hg;rw[hk] at this;exact sa _ (by simp only[List.mem_append];exact .inl (.inr (List.mem_of_mem_take this)))⟩
theorem _root_.Go.aP.jP.pR {p:Pg}(h:jP p):∀ f∈p.fs,∀ q∈f.params,lP q.name:=fun f hf q hq=>⟨h.np f hf q hq,by
 obtain⟨k,_,hk⟩:=h.pn f hf;have:=List.mem_map_of_mem (f:=(·.name)) hq;rw[hk,List.mem_reverse] at this;exact sa _ (by simp only[List.mem_append];exact .inr (List.mem_of_mem_take this))⟩
theorem _root_.Go.aP.jP.vR {p:Pg}(h:jP p):∀ f∈p.fs,∀ s∈jf p.gs f.params,lP s:=fun f hf s hs=>by
 rcases tV hs with hs | hs
 ·rw[List.mem_map] at hs;obtain⟨g,hg,rfl⟩:=hs;exact h.gR g hg
 ·rw[List.mem_map] at hs;obtain⟨g,hg,rfl⟩:=hs;exact h.pR f hf g hg
theorem _root_.Go.aP.jP.pl {p:Pg}(h:jP p):∀ f∈p.fs,f.params.length≤2:=fun f hf=>by
 obtain⟨k,hk,Si⟩:=h.pn f hf;have:=congrArg List.length Si;simp[nP] at this;omega
theorem Jh (s:Sm):2≤dO s:=by cases s<;>simp only[dO]<;>omega
theorem jx:∀ l:List Sm,2*l.length≤bH l
 | []=>by simp[bH]
 | s::r=>by
  have:=jx r;have:=Jh s;simp only[bH,List.length_cons];omega
def OkF (deep:Nat)(s:Sm):Prop:=match s with
 | .gA nm e=>lP nm∧ae Tryz.prog 257 [.agg (bK e)] (.bool true)
 | .hD nm e=>lP nm∧ae Tryz.prog 257 [.agg (bK e)] (.bool true)
 | .dI _ nm al=>lP nm∧al.length≤1000∧∀ a∈al,okA a
 | .di _ r=>RfR r
 | .kG e th el=>ae Tryz.prog 257 [.agg (bK e)] (.bool true)∧ae Tryz.prog 201 [.az (bz th) th.length,I ((deep+1:Nat))] (.bool true)∧ae Tryz.prog 201 [.az (bz el) el.length,I ((deep+1:Nat))] (.bool true)
 | .cC e th=>ae Tryz.prog 257 [.agg (bK e)] (.bool true)∧ae Tryz.prog 201 [.az (bz th) th.length,I ((deep+1:Nat))] (.bool true)
 | .jb=>True
theorem lv {l:List Sm}{deep:Nat}(hd:deep<20)(hl:l.length≤100000)(h:∀ s∈l,OkF deep s):ae Tryz.prog 201 [.az (bz l) l.length,I deep] (.bool true):=
 xQ l deep hd hl fun s hs=>by
  have:=h s hs;cases s<;>exact this
section
variable {ms:List Mx}{fs:List (ByteArray×List Pm)}{ps:List Pm}(QZ:∀ m∈ms,lP m.name)(RP:∀ x∈fs,lP x.1)(Qv:∀ x∈fs,x.2.length≤2)(Rc:∀ q∈ps,lP q.name)
include QZ Rc
theorem rf_R {V:List ByteArray}(hV:∀ x∈V,lP x){r:Rf}(h:FC ms ps V r):RfR r:=by
 rcases h with ⟨m,hm,hn,hi⟩ | ⟨q,hq,_,hn,hi⟩
 ·refine⟨by rw[hn];exact QZ m hm,fun e he=>?_⟩;rcases hi with ⟨hi,_⟩ | ⟨e',hi,_,hw⟩
  ·rw[hi] at he;cases he
  ·rw[hi] at he;cases he;exact fh hV 1 _ yA hw
 ·exact⟨by rw[hn];exact Rc q hq,fun e he=>by rw[hi] at he;cases he⟩
theorem Lk {V:List ByteArray}(hV:∀ x∈V,lP x):∀ {gp:List Pm} {l:List Ar},iR ms ps V gp l→∀ a∈l,okA a
 | [],[],_=>by simp
 | q::gp,a::l,h=>by
  simp only[iR] at h;intro x hx;rcases List.mem_cons.1 hx with rfl | hx
  ·cases x with
   | ua r=>exact rf_R QZ Rc hV h.1.2
   | exp e=>exact fh hV 2 _ yA h.1.2
  ·exact Lk hV h.2 x hx
 | [],_::_,h=>h.elim
 | _::_,[],h=>h.elim
theorem rf_T {V:List ByteArray}(hV:∀ x∈V,lP x){r:Rf}(h:FC ms ps V r):No r:=by
 have hV':∀ x∈V,db x:=fun x hx=>(hV x hx).1;have hz:∀ s:ByteArray,db s→s.size≤100:=fun s hs=>by
  have:=hs.2.2;rw[kE] at this;omega
 rcases h with ⟨m,hm,hn,hi⟩ | ⟨q,hq,_,hn,hi⟩
 ·refine⟨by rw[hn];exact hz _ (QZ m hm).1,fun e he=>?_⟩;rcases hi with ⟨hi,_⟩ | ⟨e',hi,_,hw⟩
  ·rw[hi] at he;cases he
  ·rw[hi] at he;cases he;exact⟨mP hV' 1 _ yA hw,kY hV' (d:=1) yA hw⟩
 ·exact⟨by rw[hn];exact hz _ (Rc q hq).1,fun e he=>by rw[hi] at he;cases he⟩
theorem Lj {V:List ByteArray}(hV:∀ x∈V,lP x):∀ {gp:List Pm} {l:List Ar},iR ms ps V gp l→∀ a∈l,TxA a
 | [],[],_=>by simp
 | q::gp,a::l,h=>by
  simp only[iR] at h;intro x hx;rcases List.mem_cons.1 hx with rfl | hx
  ·cases x with
   | ua r=>exact rf_T QZ Rc hV h.1.2
   | exp e=>
    have hV':∀ x∈V,db x:=fun x hx=>(hV x hx).1;exact⟨mP hV' 2 _ yA h.1.2,kY hV' (d:=2) yA h.1.2⟩
  ·exact Lj hV h.2 x hx
 | [],_::_,h=>h.elim
 | _::_,[],h=>h.elim
include RP Qv
theorem zu:(∀ s:Sm,∀ d V deep,(∀ x∈V,lP x)→deep+d<20→dB ms fs ps d V s→dO s≤2000→OkF deep s)∧
  (∀ l:List Sm,∀ d V deep,(∀ x∈V,lP x)→deep+d<20→cI ms fs ps d V l→bH l≤2000→∀ s∈l,OkF deep s):=by
 let M1:Sm→Prop:=fun s=>∀ d V deep,(∀ x∈V,lP x)→deep+d<20→dB ms fs ps d V s→dO s≤2000→OkF deep s
 let M2:List Sm→Prop:=fun l=>∀ d V deep,(∀ x∈V,lP x)→deep+d<20→cI ms fs ps d V l→bH l≤2000→∀ s∈l,OkF deep s
 have V2:∀ k,k<24→lP (eR k):=yS;have A1:∀ (s:ByteArray) (e:Ex),M1 (.gA s e):=by
  intro s e d V deep hV _ hw _;simp only[dB] at hw;obtain⟨⟨k,hk,rfl⟩,_,he⟩:=hw;exact⟨V2 k hk,fh hV 2 _ yA he⟩
 have A2:∀ (s:ByteArray) (e:Ex),M1 (.hD s e):=by
  intro s e d V deep hV _ hw _;simp only[dB] at hw;exact⟨hV s hw.1,fh hV 2 _ yA hw.2⟩
 have A3:∀ (g:Bool) (s:ByteArray) (l:List Ar),M1 (.dI g s l):=by
  intro g s l d V deep hV _ hw hk;simp only[dB] at hw;obtain⟨gp,h1,h2⟩:=hw;have:=h2.len;have:=Qv _ h1;simp only at this;exact⟨RP _ h1,by omega,Lk QZ Rc hV h2⟩
 have A4:∀ (u:Bool) (r:Rf),M1 (.di u r):=by
  intro u r d V deep hV _ hw _;simp only[dB] at hw;exact rf_R QZ Rc hV hw
 have A5:∀ (e:Ex) (th el:List Sm),M2 th→M2 el→M1 (.kG e th el):=by
  intro e th el i1 i2 d V deep hV hd hw hk
  cases d with
  | zero=>simp[dB] at hw
  | succ d=>
   simp only[dB] at hw;simp only[dO] at hk;have l1:=jx th;have l2:=jx el;exact⟨fh hV 2 _ yA hw.1,lv yA yA (i1 d V _ hV yA hw.2.1 yA),lv yA yA (i2 d V _ hV yA hw.2.2 yA)⟩
 have A6:∀ (e:Ex) (th:List Sm),M2 th→M1 (.cC e th):=by
  intro e th i1 d V deep hV hd hw hk
  cases d with
  | zero=>simp[dB] at hw
  | succ d=>
   simp only[dB] at hw;simp only[dO] at hk;have l1:=jx th;exact⟨fh hV 2 _ yA hw.1,lv yA yA (i1 d V _ hV yA hw.2 yA)⟩
 have A7:M1 .jb:=fun _ _ _ _ _ _ _=>trivial;have A0:M2 []:=fun _ _ _ _ _ _ _ s hs=>by simp at hs
 have A8:∀ (s:Sm) (r:List Sm),M1 s→M2 r→M2 (s::r):=by
  intro s r i1 i2 d V deep hV hd hw hk x hx;simp only[cI] at hw;simp only[bH] at hk;have hV2:∀ x∈V++dE s,lP x:=by
   intro x hx;rcases List.mem_append.1 hx with hx | hx
   ·exact hV x hx
   ·cases s<;>simp only[dE,List.mem_singleton,List.not_mem_nil] at hx;subst hx;have:=hw.1;simp only[dB] at this;obtain⟨⟨j,hj,rfl⟩,_⟩:=this;exact V2 j hj
  rcases List.mem_cons.1 hx with rfl | hx
  ·exact i1 d V deep hV hd hw.1 yA
  ·exact i2 d _ deep hV2 hd hw.2 yA x hx
 exact⟨fun s=>Sm.rec (motive_1:=M1) (motive_2:=M2) A1 A2 A3 A4 A5 A6 A7 A0 A8 s,fun l=>Sm.rec_1 (motive_1:=M1) (motive_2:=M2) A1 A2 A3 A4 A5 A6 A7 A0 A8 l⟩
theorem ED:(∀ s:Sm,∀ d V PI,(∀ x∈V,lP x)→fY d PI→dB ms fs ps d V s→dO s≤2000→TxS PI s)∧
  (∀ l:List Sm,∀ d V PI,(∀ x∈V,lP x)→fY d PI→cI ms fs ps d V l→bH l≤2000→∀ s∈l,TxS PI s):=by
 let M1:Sm→Prop:=fun s=>∀ d V PI,(∀ x∈V,lP x)→fY d PI→dB ms fs ps d V s→dO s≤2000→TxS PI s
 let M2:List Sm→Prop:=fun l=>∀ d V PI,(∀ x∈V,lP x)→fY d PI→cI ms fs ps d V l→bH l≤2000→∀ s∈l,TxS PI s
 have V2:∀ k,k<24→lP (eR k):=yS;have hz:∀ s:ByteArray,lP s→s.size≤100:=fun s hs=>by
  have:=hs.1.2.2;rw[kE] at this;omega
 have tx:∀ {V:List ByteArray} (_:∀ x∈V,lP x) {e:Ex},fc V 2 e→Np e:=fun {V} hV {e} he=>⟨mP (fun x hx=>(hV x hx).1) 2 _ yA he,kY (fun x hx=>(hV x hx).1) (d:=2) yA he⟩;have iQ:∀ (l:List Sm) (d:Nat) (V:List ByteArray) (PI:ByteArray),M2 l→(∀ x∈V,lP x)→fY d PI→cI ms fs ps d V l→bH l≤2000→ae Tryz.prog 262 [.az (bz l) l.length,.str PI] (.str (iS PI l)):=by
  intro l d V PI i1 hV ht hw hk;have hs:=((bY.lines (ms:=ms) (fs:=fs) (ps:=ps) (fun m hm=>(QZ m hm).1) (fun x hx=>(RP x hx).1) (fun q hq=>(Rc q hq).1)).2 l d V PI (fun x hx=>(hV x hx).1) ht hw).1;rw[kE] at hs;have h2:=ht.2;rw[kE] at h2;have h3:=jx l;exact ug l PI yA yA yA (i1 d V PI hV ht hw hk)
 have A1:∀ (s:ByteArray) (e:Ex),M1 (.gA s e):=by
  intro s e d V PI hV _ hw _;simp only[dB] at hw;obtain⟨⟨k,hk,rfl⟩,_,he⟩:=hw;exact⟨hz _ (V2 k hk),tx hV he⟩
 have A2:∀ (s:ByteArray) (e:Ex),M1 (.hD s e):=by
  intro s e d V PI hV _ hw _;simp only[dB] at hw;exact⟨hz _ (hV s hw.1),tx hV hw.2⟩
 have A3:∀ (g:Bool) (s:ByteArray) (l:List Ar),M1 (.dI g s l):=by
  intro g s l d V PI hV _ hw hk;simp only[dB] at hw;obtain⟨gp,h1,h2⟩:=hw;have:=h2.len;have:=Qv _ h1;simp only at this;exact⟨hz _ (RP _ h1),by omega,Lj QZ Rc hV h2⟩
 have A4:∀ (u:Bool) (r:Rf),M1 (.di u r):=by
  intro u r d V PI hV _ hw _;simp only[dB] at hw;exact rf_T QZ Rc hV hw
 have A5:∀ (e:Ex) (th el:List Sm),M2 th→M2 el→M1 (.kG e th el):=by
  intro e th el i1 i2 d V PI hV ht hw hk
  cases d with
  | zero=>simp[dB] at hw
  | succ d=>
   simp only[dB] at hw;simp only[dO] at hk;exact⟨tx hV hw.1,iQ th d V _ i1 hV ht.more hw.2.1 yA,iQ el d V _ i2 hV ht.more hw.2.2 yA⟩
 have A6:∀ (e:Ex) (th:List Sm),M2 th→M1 (.cC e th):=by
  intro e th i1 d V PI hV ht hw hk
  cases d with
  | zero=>simp[dB] at hw
  | succ d=>
   simp only[dB] at hw;simp only[dO] at hk;exact⟨tx hV hw.1,iQ th d V _ i1 hV ht.more hw.2 yA⟩
 have A7:M1 .jb:=fun _ _ _ _ _ _ _=>trivial;have A0:M2 []:=fun _ _ _ _ _ _ _ s hs=>by simp at hs
 have A8:∀ (s:Sm) (r:List Sm),M1 s→M2 r→M2 (s::r):=by
  intro s r i1 i2 d V PI hV hd hw hk x hx;simp only[cI] at hw;simp only[bH] at hk;have hV2:∀ x∈V++dE s,lP x:=by
   intro x hx;rcases List.mem_append.1 hx with hx | hx
   ·exact hV x hx
   ·cases s<;>simp only[dE,List.mem_singleton,List.not_mem_nil] at hx;subst hx;have:=hw.1;simp only[dB] at this;obtain⟨⟨j,hj,rfl⟩,_⟩:=this;exact V2 j hj
  rcases List.mem_cons.1 hx with rfl | hx
  ·exact i1 d V PI hV hd hw.1 yA
  ·exact i2 d _ PI hV2 hd hw.2 yA x hx
 exact⟨fun s=>Sm.rec (motive_1:=M1) (motive_2:=M2) A1 A2 A3 A4 A5 A6 A7 A0 A8 s,fun l=>Sm.rec_1 (motive_1:=M1) (motive_2:=M2) A1 A2 A3 A4 A5 A6 A7 A0 A8 l⟩
end
section
variable {p:Pg}(h:jP p)
include h
theorem _root_.Go.aP.jP.CB (f:Fu)(hf:f∈p.fs):bH f.body≤1152:=by
 have hw:=h.wt;have:bH f.body∈p.fs.map fun f=>bH f.body:=List.mem_map_of_mem (f:=fun f=>bH f.body) hf;have h2:∀ {l:List Nat} {a:Nat},a∈l→a≤l.sum:=fun {l a} ha=>by
  induction l with
  | nil=>simp at ha
  | cons b r ih=>
   rcases List.mem_cons.1 ha with rfl | ha
   ·simp
   ·have:=ih ha;simp only[List.sum_cons];omega
 have:=h2 this;omega
theorem _root_.Go.aP.jP.IL:(∀ x∈p.fs.map fun f=>(f.name,f.params),lP x.1)∧(∀ x∈p.fs.map fun f=>(f.name,f.params),x.2.length≤2):=by
 refine⟨fun x hx=>?_,fun x hx=>?_⟩
 ·rw[List.mem_map] at hx;obtain⟨f,hf,rfl⟩:=hx;exact h.fR f hf
 ·rw[List.mem_map] at hx;obtain⟨f,hf,rfl⟩:=hx;exact h.pl f hf
theorem _root_.Go.aP.jP.okb (f:Fu)(hf:f∈p.fs):ae Tryz.prog 201 [.az (bz f.body) f.body.length,I (0:Nat)] (.bool true):=by
 have hk:=h.CB f hf;have hl:=jx f.body;exact lv yA yA ((zu h.mR h.IL.1 h.IL.2 (h.pR f hf)).2 f.body 2 _ 0 (h.vR f hf) yA (h.bd f hf) yA)
theorem _root_.Go.aP.jP.lnb (f:Fu)(hf:f∈p.fs):ae Tryz.prog 262 [.az (bz f.body) f.body.length,.str ⟨#[9]⟩] (.str (iS ⟨#[9]⟩ f.body)):=by
 have hk:=h.CB f hf;have hl:=jx f.body;have ht:fY 2 ⟨#[9]⟩:=⟨by decide,by decide⟩;have hs:=((bY.lines (ms:=p.ms) (fs:=p.fs.map fun f=>(f.name,f.params)) (ps:=f.params) (fun m hm=>(h.mR m hm).1) (fun x hx=>(h.IL.1 x hx).1) (fun q hq=>(h.pR f hf q hq).1)).2 f.body 2 _ ⟨#[9]⟩ (fun x hx=>(h.vR f hf x hx).1) ht (h.bd f hf)).1;rw[kE] at hs;exact ug f.body ⟨#[9]⟩ P1 yA yA ((ED h.mR h.IL.1 h.IL.2 (h.pR f hf)).2 f.body 2 _ _ (h.vR f hf) ht (h.bd f hf) yA)
end
def J57a (p:Pg)(n:Nat)(s:St):Prop:=∃ i:Nat,n=p.gs.length-i∧i≤p.gs.length∧s=⟨[(3,I i),(1,.av 0 0)],[(0,⟨27,0,dU p⟩)],1⟩
def J57b (p:Pg)(n:Nat)(s:St):Prop:=∃ i:Nat,n=p.ms.length-i∧i≤p.ms.length∧s=⟨[(4,I i),(1,.av 0 0)],[(0,⟨27,0,dU p⟩)],1⟩
def J57c (p:Pg)(n:Nat)(s:St):Prop:=∃ i:Nat,n=p.fs.length-i∧i≤p.fs.length∧s=⟨[(6,I i),(1,.av 0 0)],[(0,⟨27,0,dU p⟩)],1⟩
def J57d (p:Pg)(i:Nat)(f:Fu)(n:Nat)(s:St):Prop:=∃ q:Nat,n=f.params.length-q∧q≤f.params.length∧s=⟨[(8,I q),(7,.av 1 0),(6,I i),(1,.av 0 0)],[(0,⟨27,0,dU p⟩),(1,⟨192,0,eF f⟩)],2⟩
set_option maxHeartbeats 8000000 in
theorem FY (p:Pg)(h:jP p):ae Tryz.prog 133 [vS p] (.bool true):=by
 have hT:=Mj h;have hTs:(Ej p).size≤262144:=by have:=hT.2;rw[kE] at this;exact this
 obtain⟨k1,VC,e1⟩:=h.gn;obtain⟨k2,_,UX,e2⟩:=h.mn;obtain⟨k3,_,hk3,e3⟩:=h.fn;have l1:=congrArg List.length e1;have l2:=congrArg List.length e2;have l3:=congrArg List.length e3;simp[nG] at l1;simp[nM] at l2;simp[nF] at l3;clear e1 e2 e3;have ZA:=zk p yA yA yA yA (fun g hg=>by have:=h.gi g hg;omega) (fun m hm=>by have:=(h.mz m hm).1;omega) (fun f hf=>⟨by have:=h.pl f hf;omega,h.lnb f hf⟩);have hlx:=MA (bs (Ej p)) hT.2 hT.1;have g1:¬ (16:Int)<p.gs.length:=by omega
 have g2:¬ (12:Int)<p.ms.length:=by omega
 have g3:¬ (16:Int)<p.fs.length:=by omega
 have fg:=fun (k:Nat) (a:Gl) (h:p.gs[k]? = some a)=>aO (f:=nW) (n:=2) (fun _=>rfl) h;have fg1:=fun (k:Nat) (a:Gl) (h:p.gs[k]? = some a)=>bS (f:=nW) (n:=2) (fun _=>rfl) h 1 yA;have fm:=fun (k:Nat) (a:Mx) (h:p.ms[k]? = some a)=>aO (f:=eL) (n:=3) (fun _=>rfl) h;have ff:=fun (k:Nat) (a:Fu) (h:p.fs[k]? = some a)=>aO (f:=eF) (n:=3) (fun _=>rfl) h;refine ae.aM ah Tryz.func133 rfl PH (by simp[Tryz.ntmps133]) rfl fun C hC PN=>?_;rw[Tryz.ntmps133] at hC;apply aj;simp[hC,vS,dU];apply aU;simp[hC,g1,g2,g3];refine gO ?_;simp;refine T.cut (fun s=>s=⟨[(1,.av 0 0)],[(0,⟨27,0,dU p⟩)],1⟩) ?_ ?_
 ·apply aj;simp[hC];apply T.block;refine T.aJ (J57a p) (n:=p.gs.length) ?_ ?_
  ·refine aa.trim [3,1] [0] 1 zX yA ⟨0,by omega,by omega,?_⟩;simp[dU]
  ·rintro n s ⟨i,rfl,hi,rfl⟩;by_cases PJ:i<p.gs.length
   ·obtain⟨a,Qz⟩:∃ a,p.gs[i]? = some a:=⟨p.gs[i],List.getElem?_eq_getElem PJ⟩;have PL:=fg i a Qz;have Rz:=fg1 i a Qz;have hm:=List.mem_of_getElem? Qz;have hn:=jh a.name (h.gR a hm).1 (h.gR a hm).2;have P4:(a.init == -9223372036854775808)=false:=by have:=h.gi a hm;simp;omega
    have wi:=cE ((i:Int)+1) yA yA;apply aU;simp[hC,PJ,dU];refine gQ ?_;simp;apply dZ;apply aj;simp[hC,PJ,PL,nW];refine dQ P2 (hn) ?_;simp[hC,PJ,PL,P4,nW];refine gO ?_;simp;apply aW;simp[hC,wi];refine⟨p.gs.length-(i+1),by omega,?_⟩;refine aa.trim [3,1] [0] 1 zX yA ⟨i+1,rfl,by omega,?_⟩;simp[dU]
   ·apply aU;simp[hC,PJ,dU];refine bh ?_;simp;apply T.exit;simp;refine aa.trim [1] [0] 1 zX yA ?_;simp
 rintro s rfl;refine T.cut (fun s=>s=⟨[(1,.av 0 0)],[(0,⟨27,0,dU p⟩)],1⟩) ?_ ?_
 ·apply aj;simp[hC];apply T.block;refine T.aJ (J57b p) (n:=p.ms.length) ?_ ?_
  ·refine aa.trim [4,1] [0] 1 TR yA ⟨0,by omega,by omega,?_⟩;simp[dU]
  ·rintro n s ⟨i,rfl,hi,rfl⟩;by_cases PJ:i<p.ms.length
   ·obtain⟨a,Qz⟩:∃ a,p.ms[i]? = some a:=⟨p.ms[i],List.getElem?_eq_getElem PJ⟩;have PL:=fm i a Qz;have hm:=List.mem_of_getElem? Qz;have hn:=jh a.name (h.mR a hm).1 (h.mR a hm).2;have hz:=h.mz a hm;have wi:=cE ((i:Int)+1) yA yA;have z1:¬ (a.size:Int)<0:=by omega
    have z2:¬ (64:Int)<a.size:=by omega
    apply aU;simp[hC,PJ,dU];refine gQ ?_;simp;apply dZ;apply aj;simp[hC,PJ,PL,eL]
    cases QD:a.re with
    | true=>
     have z3:=hz.2 QD;apply aj;simp[hC];refine dQ P2 (hn) ?_;simp[hC,z3];refine gO ?_;simp;apply aW;simp[hC,wi];refine⟨p.ms.length-(i+1),by omega,?_⟩;refine aa.trim [4,1] [0] 1 zX yA ⟨i+1,rfl,by omega,?_⟩;simp[dU]
    | false=>
     apply aj;simp[hC];refine dQ P2 (hn) ?_;simp[hC,z1,z2];refine gO ?_;simp;apply aW;simp[hC,wi];refine⟨p.ms.length-(i+1),by omega,?_⟩;refine aa.trim [4,1] [0] 1 zX yA ⟨i+1,rfl,by omega,?_⟩;simp[dU]
   ·apply aU;simp[hC,PJ,dU];refine bh ?_;simp;apply T.exit;simp;refine aa.trim [1] [0] 1 zX yA ?_;simp
 rintro s rfl;refine T.cut (fun s=>s=⟨[(1,.av 0 0)],[(0,⟨27,0,dU p⟩)],1⟩) ?_ ?_
 ·apply aj;simp[hC];apply T.block;refine T.aJ (J57c p) (n:=p.fs.length) ?_ ?_
  ·refine aa.trim [6,1] [0] 1 TR yA ⟨0,by omega,by omega,?_⟩;simp[dU]
  ·rintro n s ⟨i,rfl,hi,rfl⟩;by_cases PJ:i<p.fs.length
   ·obtain⟨a,Qz⟩:∃ a,p.fs[i]? = some a:=⟨p.fs[i],List.getElem?_eq_getElem PJ⟩;have PL:=ff i a Qz;have hm:=List.mem_of_getElem? Qz;have hn:=jh a.name (h.fR a hm).1 (h.fR a hm).2;have hb:=h.okb a hm;have Qy:=h.pl a hm;have wi:=cE ((i:Int)+1) yA yA;have z1:¬ (6:Int)<a.params.length:=by omega
    apply aU;simp[hC,PJ,dU];refine gQ ?_;simp;apply dZ;apply aj;simp[hC,PJ,PL,eF];apply aU;simp[hC];refine dQ P2 (hn) ?_;simp[hC,z1];refine TL.cw PV rfl rfl rfl rfl (bT.of rfl P2 (hb)) (TL.go' ah ?_);simp[hC];refine gO ?_;simp;apply aj;simp[hC];apply T.block;refine T.aJ (J57d p i a) (n:=a.params.length) ?_ ?_
    ·refine aa.trim [8,7,6,1] [0,1] 2 zX yA ⟨0,by omega,by omega,?_⟩;simp[dU,eF]
    ·rintro n s ⟨q,rfl,hq,rfl⟩;by_cases RI:q<a.params.length
     ·obtain⟨b,V6⟩:∃ b,a.params[q]? = some b:=⟨a.params[q],List.getElem?_eq_getElem RI⟩;have ZD:=aO (f:=kj) (n:=2) (fun _=>rfl) V6;have Xh:=List.mem_of_getElem? V6;have SP:=jh b.name (h.pR a hm b Xh).1 (h.pR a hm b Xh).2;have wq:=cE ((q:Int)+1) yA yA;apply aU;simp[hC,RI,eF];refine gQ ?_;simp;apply dZ;apply aj;simp[hC,RI,ZD,kj];refine dQ P2 (SP) ?_;simp[hC];refine gO ?_;simp;apply aW;simp[hC,wq];refine⟨a.params.length-(q+1),by omega,?_⟩;refine aa.trim [8,7,6,1] [0,1] 2 TR yA ⟨q+1,rfl,by omega,?_⟩;simp[dU,eF]
     ·apply aU;simp[hC,RI,eF];refine bh ?_;simp;apply T.exit;simp;apply aW;simp[hC,wi];refine⟨p.fs.length-(i+1),by omega,?_⟩;refine aa.trim [6,1] [0] 1 TR yA ⟨i+1,rfl,by omega,?_⟩;simp[dU]
   ·apply aU;simp[hC,PJ,dU];refine bh ?_;simp;apply T.exit;simp;refine aa.trim [1] [0] 1 zX yA ?_;simp
 rintro s rfl;apply aj;simp[hC,dU];refine TL.call PV rfl rfl (bT.of rfl (by rfl) ZA) (TL.AR ah ?_);have hTz:(Ej p).size≤1000000:=by omega
 have VQ:dm (bs (Ej p))=.az (oD (Ej p)) (Ej p).size:=by rw[dm,kE];rfl
 rw[VQ] at hlx;simp[hC,hTz];refine TL.It PV rfl rfl rfl (by rfl) hlx fun r hr=>TL.go' ah ?_;obtain⟨cs,n,e,rfl⟩:=hr;simp[hC];apply aj;simp[hC];apply T.ret;apply aa.here;simp[Tryz.results133]
end Go.Proofs.YtnecpnjdonibmaaGreat
