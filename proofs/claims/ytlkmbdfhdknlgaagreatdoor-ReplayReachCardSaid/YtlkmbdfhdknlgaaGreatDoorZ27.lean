/- lines. -/
import Derived.Test.YtlkmbdfhdknlgaaGreatDoorZ26
namespace Go.Proofs.YtlkmbdfhdknlgaaGreatDoor
open Go.Can Go.aN
def TxS (N5:ByteArray)(s:Sm):Prop:=match s with
 | .gP nm e=>nm.size≤100∧MR e
 | .iy nm e=>nm.size≤100∧MR e
 | .dU _ nm al=>nm.size≤100∧al.length≤1000∧∀ a∈al,TxA a
 | .dx _ r=>MQ r
 | .lu e th el=>MR e∧ae Tryz.prog 109 [.az (bx th) th.length,.str (N5++⟨#[9]⟩)] (.str (jc (N5++⟨#[9]⟩) th))∧ae Tryz.prog 109 [.az (bx el) el.length,.str (N5++⟨#[9]⟩)] (.str (jc (N5++⟨#[9]⟩) el))
 | .cE e th=>MR e∧ae Tryz.prog 109 [.az (bx th) th.length,.str (N5++⟨#[9]⟩)] (.str (jc (N5++⟨#[9]⟩) th))
 | .jm=>True
def J129 (l:List Sm)(N5 X:ByteArray)(n:Nat)(s:St):Prop:=∃ (i:Nat) (x:ByteArray),n=l.length-i∧i≤l.length∧x++jc N5 (l.drop i)=X∧s=⟨[(6,I i),(5,.str x),(0,.az (bx l) l.length),(1,.str N5)],[],0⟩
set_option maxHeartbeats 8000000 in
theorem u6 (l:List Sm)(N5:ByteArray)(ht:N5.size≤100)(hl:l.length≤100000)(hX:(jc N5 l).size≤1000000)(h:∀ s∈l,TxS N5 s):ae Tryz.prog 109 [.az (bx l) l.length,.str N5] (.str (jc N5 l)):=by
 have PC:=fun (i:Nat) (x:Sm) (h:l[i]? = some x)=>aD (f:=ib) (n:=11) kp (m:=l) h;rw[← nY] at PC;obtain⟨X,hXe⟩:∃ X,jc N5 l=X:=⟨_,rfl⟩;rw[hXe] at hX ⊢;refine ae.aH af Tryz.func109 rfl N4 (by simp[Tryz.ntmps109]) rfl fun C hC N8=>?_;rw[Tryz.ntmps109] at hC;apply ai;simp[hC];apply ai;simp[hC];apply aL;simp[hC];apply T.block;refine T.aI (J129 l N5 X) (n:=l.length) ?_ ?_
 ·refine aa.le (Le.env [6,5,0,1]) (aa.here ⟨0,⟨#[]⟩,by omega,by omega,?_,?_⟩)
  ·rw[List.drop_zero,hXe];exact ByteArray.empty_append
  ·simp
 ·rintro n s ⟨i,x,rfl,N6,hx,rfl⟩;by_cases hi:i<l.length
  ·obtain⟨a,OZ⟩:∃ a,l[i]? = some a:=⟨l[i],List.getElem?_eq_getElem hi⟩;have N7:=PC i a OZ;have PS:=h a (List.mem_of_getElem? OZ);have wi:=cf ((i:Int)+1) yA yA;have hd:l.drop i=a::l.drop (i+1):=by
    rw[List.drop_eq_getElem_cons hi,(List.getElem?_eq_some_iff.1 OZ).2]
   rw[hd,jc] at hx;have hz:x.size+(N5.size+(kM N5 a).size+tNl.size+(jc N5 (l.drop (i+1))).size)=X.size:=by
    rw[← hx];simp only[ByteArray.size_append]
   have hq:tNl.size=1:=rfl;apply aL;simp[hC,hi];refine fh ?_;simp;apply eG;have st:=ax x N5 yA;obtain⟨y,hy⟩:∃ y,x++N5=y:=⟨_,rfl⟩;have Yk:y.size=x.size+N5.size:=by rw[← hy,ByteArray.size_append]
   rw[hy] at st;obtain⟨Y,hY⟩:∃ Y,y++kM N5 a=Y:=⟨_,rfl⟩;have hYs:Y.size=y.size+(kM N5 a).size:=by rw[← hY,ByteArray.size_append]
   have U9:=ax Y ⟨#[10]⟩ (by have:(⟨#[10]⟩:ByteArray).size=1:=rfl;omega);have PU:Y++⟨#[10]⟩++jc N5 (l.drop (i+1))=X:=by
    rw[← hx,← hY,← hy];simp only[ByteArray.append_assoc];rfl
   have O0:y.size+(kM N5 a).size≤1000000:=by omega
   clear hz hx Yk hYs
   match a,N7,PS,hY,O0 with
   | .gP nm e,N7,PS,hY,O0=>
    obtain⟨h1,h2,h2z⟩:=PS;simp only[ib,bW e,kQ,List.cons_append,List.nil_append] at N7;rw[bW e] at h2;apply ai;simp[hC,hi,N7];apply ai;simp[hC,st];refine T.cut (fun s=>s=⟨[(6,I i),(5,.str Y),(0,.az (bx l) l.length),(1,.str N5)],[],0⟩) ?_ ?_
    ·apply ai;simp[hC];apply T.block;apply ai;simp[hC];refine cB ?_;simp;simp only[kM,zC,Gi,iS,ByteArray.size_append] at O0;have s0:=ax (y) (⟨#[118,97,114,32]⟩) O3;have s1:=ax (y++⟨#[118,97,114,32]⟩) (nm) O3;have s2:=ax (y++⟨#[118,97,114,32]⟩++nm) (⟨#[32,61,32]⟩) O3;have s3:=ax (y++⟨#[118,97,114,32]⟩++nm++⟨#[32,61,32]⟩) (iK e) O3;have s4:=ax (y++⟨#[118,97,114,32]⟩++nm++⟨#[32,61,32]⟩++iK e) (⟨#[59]⟩) O3;refine T.rx af follows [0,1,2,3,4,5,6,7,8,9,10,11] [(3,8)] N4 ?_;simp[hC,s0,s1,s2];refine RX.call rfl N3 rfl rfl rfl Od (h2) ?_;simp[s3,s4];refine aa.trim [6,5,0,1] [] 0 N3 yA ?_;simp[← hY,kM,zC,Gi,iS,ByteArray.append_assoc]
    rintro s rfl;apply aY;simp[hC,U9];apply aY;simp[hC,wi];refine⟨l.length-(i+1),by omega,?_⟩;refine aa.trim [6,5,0,1] [] 0 N3 yA ⟨i+1,Y++⟨#[10]⟩,rfl,by omega,PU,?_⟩;simp
   | .iy nm e,N7,PS,hY,O0=>
    obtain⟨h1,h2,h2z⟩:=PS;simp only[ib,bW e,kQ,List.cons_append,List.nil_append] at N7;rw[bW e] at h2;apply ai;simp[hC,hi,N7];apply ai;simp[hC,st];refine T.cut (fun s=>s=⟨[(6,I i),(5,.str Y),(0,.az (bx l) l.length),(1,.str N5)],[],0⟩) ?_ ?_
    ·apply ai;simp[hC];apply T.block;apply ai;simp[hC];refine aX ?_;simp;apply ai;simp[hC];refine cB ?_;simp;simp only[kM,Gi,iS,ByteArray.size_append] at O0;have s0:=ax (y) (nm) O3;have s1:=ax (y++nm) (⟨#[32,61,32]⟩) O3;have s2:=ax (y++nm++⟨#[32,61,32]⟩) (iK e) O3;have s3:=ax (y++nm++⟨#[32,61,32]⟩++iK e) (⟨#[59]⟩) O3;refine T.rx af follows [0,1,2,3,4,5,6,7,8,9,10] [(2,7)] N4 ?_;simp[hC,s0,s1];refine RX.call rfl N3 rfl rfl rfl Od (h2) ?_;simp[s2,s3];refine aa.trim [6,5,0,1] [] 0 N3 yA ?_;simp[← hY,kM,Gi,iS,ByteArray.append_assoc]
    rintro s rfl;apply aY;simp[hC,U9];apply aY;simp[hC,wi];refine⟨l.length-(i+1),by omega,?_⟩;refine aa.trim [6,5,0,1] [] 0 N3 yA ⟨i+1,Y++⟨#[10]⟩,rfl,by omega,PU,?_⟩;simp
   | .dU false nm al,N7,PS,hY,O0=>
    obtain⟨h1,h2,h3⟩:=PS;have OG:=sO al h2 h3;simp only[ib,bM,kQ,List.cons_append,List.nil_append] at N7;have e5:(if false=true then (4:Int) else 3)=3:=rfl
    try rw[e5] at N7
    apply ai;simp[hC,hi,N7];apply ai;simp[hC,st];refine T.cut (fun s=>s=⟨[(6,I i),(5,.str Y),(0,.az (bx l) l.length),(1,.str N5)],[],0⟩) ?_ ?_
    ·apply ai;simp[hC];apply T.block;apply ai;simp[hC];refine aX ?_;simp;apply ai;simp[hC];refine aX ?_;simp;apply ai;simp[hC];refine cB ?_;simp;simp only[kM,iS,M5,ByteArray.size_append] at O0
     try simp only[Bool.false_eq_true,if_false] at O0
     have s0:=ax (y) (nm) O3;have s1:=ax (y++nm) (tf al) O3;have s2:=ax (y++nm++tf al) (⟨#[59]⟩) O3;refine T.rx af follows [0,1,2,3,4,5,6,7,8,9] [(2,6)] N4 ?_;simp[hC,s0];refine RX.call rfl N3 rfl rfl rfl Od (OG) ?_;simp[s1,s2];refine aa.trim [6,5,0,1] [] 0 N3 yA ?_;simp[← hY,kM,iS,tf,ByteArray.append_assoc]
    rintro s rfl;apply aY;simp[hC,U9];apply aY;simp[hC,wi];refine⟨l.length-(i+1),by omega,?_⟩;refine aa.trim [6,5,0,1] [] 0 N3 yA ⟨i+1,Y++⟨#[10]⟩,rfl,by omega,PU,?_⟩;simp
   | .dU true nm al,N7,PS,hY,O0=>
    obtain⟨h1,h2,h3⟩:=PS;have OG:=sO al h2 h3;simp only[ib,bM,kQ,List.cons_append,List.nil_append] at N7;have e5:(if true=true then (4:Int) else 3)=4:=rfl
    try rw[e5] at N7
    apply ai;simp[hC,hi,N7];apply ai;simp[hC,st];refine T.cut (fun s=>s=⟨[(6,I i),(5,.str Y),(0,.az (bx l) l.length),(1,.str N5)],[],0⟩) ?_ ?_
    ·apply ai;simp[hC];apply T.block;apply ai;simp[hC];refine aX ?_;simp;apply ai;simp[hC];refine aX ?_;simp;apply ai;simp[hC];refine aX ?_;simp;apply ai;simp[hC];refine cB ?_;simp;simp only[kM,iS,M5,ByteArray.size_append,if_true] at O0;have s0:=ax (y) (⟨#[103,111,32]⟩) O3;have s1:=ax (y++⟨#[103,111,32]⟩) (nm) O3;have s2:=ax (y++⟨#[103,111,32]⟩++nm) (tf al) O3;have s3:=ax (y++⟨#[103,111,32]⟩++nm++tf al) (⟨#[59]⟩) O3;refine T.rx af follows [0,1,2,3,4,5,6,7,8,9,10] [(3,7)] N4 ?_;simp[hC,s0,s1];refine RX.call rfl N3 rfl rfl rfl Od (OG) ?_;simp[s2,s3];refine aa.trim [6,5,0,1] [] 0 N3 yA ?_;simp[← hY,kM,iS,M5,tf,ByteArray.append_assoc]
    rintro s rfl;apply aY;simp[hC,U9];apply aY;simp[hC,wi];refine⟨l.length-(i+1),by omega,?_⟩;refine aa.trim [6,5,0,1] [] 0 N3 yA ⟨i+1,Y++⟨#[10]⟩,rfl,by omega,PU,?_⟩;simp
   | .dx false r,N7,PS,hY,O0=>
    have Qk:=ph r (show MQ r from PS);obtain⟨rn,ri⟩:=r;obtain⟨q1,q2,hq⟩:∃ cs n,oZ ri=.az cs n:=by cases ri<;>exact⟨_,_,rfl⟩
    simp only[kO,hq] at Qk;simp only[ib,bM,kO,hq,List.cons_append,List.nil_append] at N7;have e5:(if false=true then (6:Int) else 5)=5:=rfl
    try rw[e5] at N7
    apply ai;simp[hC,hi,N7];apply ai;simp[hC,st];refine T.cut (fun s=>s=⟨[(6,I i),(5,.str Y),(0,.az (bx l) l.length),(1,.str N5)],[],0⟩) ?_ ?_
    ·apply ai;simp[hC];apply T.block;apply ai;simp[hC];refine aX ?_;simp;apply ai;simp[hC];refine aX ?_;simp;apply ai;simp[hC];refine aX ?_;simp;apply ai;simp[hC];refine aX ?_;simp;apply ai;simp[hC];refine cB ?_;simp;simp only[kM,iS,wK,nW,ByteArray.size_append] at O0
     try simp only[Bool.false_eq_true,if_false] at O0
     have s0:=ax (y) (⟨#[108,111,99,107,32]⟩) O3;have s1:=ax (y++⟨#[108,111,99,107,32]⟩) (B8 ⟨rn,ri⟩) O3;have s2:=ax (y++⟨#[108,111,99,107,32]⟩++B8 ⟨rn,ri⟩) (⟨#[59]⟩) O3;apply aY;simp[hC,s0];refine dc Od (Qk) ?_;simp[hC,s1,s2];refine aa.trim [6,5,0,1] [] 0 N3 yA ?_;simp[← hY,kM,iS,wK,ByteArray.append_assoc]
    rintro s rfl;apply aY;simp[hC,U9];apply aY;simp[hC,wi];refine⟨l.length-(i+1),by omega,?_⟩;refine aa.trim [6,5,0,1] [] 0 N3 yA ⟨i+1,Y++⟨#[10]⟩,rfl,by omega,PU,?_⟩;simp
   | .dx true r,N7,PS,hY,O0=>
    have Qk:=ph r (show MQ r from PS);obtain⟨rn,ri⟩:=r;obtain⟨q1,q2,hq⟩:∃ cs n,oZ ri=.az cs n:=by cases ri<;>exact⟨_,_,rfl⟩
    simp only[kO,hq] at Qk;simp only[ib,bM,kO,hq,List.cons_append,List.nil_append] at N7;have e5:(if true=true then (6:Int) else 5)=6:=rfl
    try rw[e5] at N7
    apply ai;simp[hC,hi,N7];apply ai;simp[hC,st];refine T.cut (fun s=>s=⟨[(6,I i),(5,.str Y),(0,.az (bx l) l.length),(1,.str N5)],[],0⟩) ?_ ?_
    ·apply ai;simp[hC];apply T.block;apply ai;simp[hC];refine aX ?_;simp;apply ai;simp[hC];refine aX ?_;simp;apply ai;simp[hC];refine aX ?_;simp;apply ai;simp[hC];refine aX ?_;simp;apply ai;simp[hC];refine aX ?_;simp;apply ai;simp[hC];refine cB ?_;simp;simp only[kM,iS,wK,nW,ByteArray.size_append] at O0
     try simp only[if_true] at O0
     have s0:=ax (y) (⟨#[117,110,108,111,99,107,32]⟩) O3;have s1:=ax (y++⟨#[117,110,108,111,99,107,32]⟩) (B8 ⟨rn,ri⟩) O3;have s2:=ax (y++⟨#[117,110,108,111,99,107,32]⟩++B8 ⟨rn,ri⟩) (⟨#[59]⟩) O3;apply aY;simp[hC,s0];refine dc Od (Qk) ?_;simp[hC,s1,s2];refine aa.trim [6,5,0,1] [] 0 N3 yA ?_;simp[← hY,kM,iS,nW,ByteArray.append_assoc]
    rintro s rfl;apply aY;simp[hC,U9];apply aY;simp[hC,wi];refine⟨l.length-(i+1),by omega,?_⟩;refine aa.trim [6,5,0,1] [] 0 N3 yA ⟨i+1,Y++⟨#[10]⟩,rfl,by omega,PU,?_⟩;simp
   | .lu e th el,N7,PS,hY,O0=>
    obtain⟨⟨h2,h2z⟩,h3,h4⟩:=PS;simp only[ib,bW e,kQ,eS,List.cons_append,List.nil_append] at N7;rw[bW e] at h2;apply ai;simp[hC,hi,N7];apply ai;simp[hC,st];refine T.cut (fun s=>s=⟨[(6,I i),(5,.str Y),(0,.az (bx l) l.length),(1,.str N5)],[],0⟩) ?_ ?_
    ·apply ai;simp[hC];apply T.block;by_cases Ou:el.length=0
     ·simp only[kM,M4,qf,kL,zE,qd,ByteArray.size_append,Ou,if_true] at O0;apply ai;simp[hC];refine aX ?_;simp;apply ai;simp[hC];refine aX ?_;simp;apply ai;simp[hC];refine aX ?_;simp;apply ai;simp[hC];refine aX ?_;simp;apply ai;simp[hC];refine aX ?_;simp;apply ai;simp[hC];refine aX ?_;simp;apply aL;simp[hC];refine cB ?_;simp;apply T.skip;simp;refine cB ?_;simp;apply ai;simp[hC];refine T.cut (fun s=>s=⟨[(8,.str ⟨#[105,102,32]⟩),(7,.aq 0 0),(6,I i),(5,.str y),(0,.az (bx l) l.length),(1,.str N5)],[(0,⟨170,0,[I 7,.str ⟨#[]⟩,I e.op,I e.n,.str e.name,.az (e.args.flatMap bM) e.args.length,.str ⟨#[]⟩,.az [] 0,.az [] 0,.az (bx th) th.length,.az (bx el) el.length]⟩)],1⟩) ?_ ?_
      ·apply ai;simp[hC];refine aX ?_;simp;apply T.skip;simp;refine aa.trim [8,7,6,5,0,1] [0] 1 N3 yA ?_;simp
      rintro s rfl;have s0:=ax (y) (⟨#[105,102,32]⟩) O3;have s1:=ax (y++⟨#[105,102,32]⟩) (iK e) O3;have s2:=ax (y++⟨#[105,102,32]⟩++iK e) (⟨#[32,123,10]⟩) O3;have s3:=ax (y++⟨#[105,102,32]⟩++iK e++⟨#[32,123,10]⟩) (jc (N5++⟨#[9]⟩) th) O3;have s4:=ax (y++⟨#[105,102,32]⟩++iK e++⟨#[32,123,10]⟩++jc (N5++⟨#[9]⟩) th) (N5) O3;have s5:=ax (y++⟨#[105,102,32]⟩++iK e++⟨#[32,123,10]⟩++jc (N5++⟨#[9]⟩) th++N5) (⟨#[125]⟩) O3;have s9:=ax N5 ⟨#[9]⟩ yCr;apply T.seq;refine T.rx af follows [0,1,2,3,4,8,9,10,11,14,5,6,7,12,13,15,16,17] [(9,5)] N4 ?_;simp[hC,s0,s9];refine RX.call rfl N3 rfl rfl rfl Od (h2) ?_;simp[s1,s2];refine RX.call rfl N3 rfl rfl rfl Od (h3) ?_;simp[s3,s4,s5];have Zt:¬ 0<el.length:=by omega
      apply ai;simp[hC,Ou];refine aX ?_;simp;apply T.skip;simp;refine aa.trim [6,5,0,1] [] 0 N3 yA ?_;simp[← hY,kM,M4,qf,kL,qd,ByteArray.append_assoc,Ou];exact (ByteArray.append_empty (b:=⟨#[125]⟩)).symm
     ·simp only[kM,M4,qf,kL,zE,qd,ByteArray.size_append,Ou,if_false] at O0;apply ai;simp[hC];refine aX ?_;simp;apply ai;simp[hC];refine aX ?_;simp;apply ai;simp[hC];refine aX ?_;simp;apply ai;simp[hC];refine aX ?_;simp;apply ai;simp[hC];refine aX ?_;simp;apply ai;simp[hC];refine aX ?_;simp;apply aL;simp[hC];refine cB ?_;simp;apply T.skip;simp;refine cB ?_;simp;apply ai;simp[hC];refine T.cut (fun s=>s=⟨[(8,.str ⟨#[105,102,32]⟩),(7,.aq 0 0),(6,I i),(5,.str y),(0,.az (bx l) l.length),(1,.str N5)],[(0,⟨170,0,[I 7,.str ⟨#[]⟩,I e.op,I e.n,.str e.name,.az (e.args.flatMap bM) e.args.length,.str ⟨#[]⟩,.az [] 0,.az [] 0,.az (bx th) th.length,.az (bx el) el.length]⟩)],1⟩) ?_ ?_
      ·apply ai;simp[hC];refine aX ?_;simp;apply T.skip;simp;refine aa.trim [8,7,6,5,0,1] [0] 1 N3 yA ?_;simp
      rintro s rfl;have s0:=ax (y) (⟨#[105,102,32]⟩) O3;have s1:=ax (y++⟨#[105,102,32]⟩) (iK e) O3;have s2:=ax (y++⟨#[105,102,32]⟩++iK e) (⟨#[32,123,10]⟩) O3;have s3:=ax (y++⟨#[105,102,32]⟩++iK e++⟨#[32,123,10]⟩) (jc (N5++⟨#[9]⟩) th) O3;have s4:=ax (y++⟨#[105,102,32]⟩++iK e++⟨#[32,123,10]⟩++jc (N5++⟨#[9]⟩) th) (N5) O3;have s5:=ax (y++⟨#[105,102,32]⟩++iK e++⟨#[32,123,10]⟩++jc (N5++⟨#[9]⟩) th++N5) (⟨#[125]⟩) O3;have s9:=ax N5 ⟨#[9]⟩ yCr;apply T.seq;refine T.rx af follows [0,1,2,3,4,8,9,10,11,14,5,6,7,12,13,15,16,17] [(9,5)] N4 ?_;simp[hC,s0,s9];refine RX.call rfl N3 rfl rfl rfl Od (h2) ?_;simp[s1,s2];refine RX.call rfl N3 rfl rfl rfl Od (h3) ?_;simp[s3,s4,s5];have r0:=ax (y++⟨#[105,102,32]⟩++iK e++⟨#[32,123,10]⟩++jc (N5++⟨#[9]⟩) th++N5++⟨#[125]⟩) (⟨#[32,101,108,115,101,32,123,10]⟩) O3;have r1:=ax (y++⟨#[105,102,32]⟩++iK e++⟨#[32,123,10]⟩++jc (N5++⟨#[9]⟩) th++N5++⟨#[125]⟩++⟨#[32,101,108,115,101,32,123,10]⟩) (jc (N5++⟨#[9]⟩) el) O3;have r2:=ax (y++⟨#[105,102,32]⟩++iK e++⟨#[32,123,10]⟩++jc (N5++⟨#[9]⟩) th++N5++⟨#[125]⟩++⟨#[32,101,108,115,101,32,123,10]⟩++jc (N5++⟨#[9]⟩) el) (N5) O3;have r3:=ax (y++⟨#[105,102,32]⟩++iK e++⟨#[32,123,10]⟩++jc (N5++⟨#[9]⟩) th++N5++⟨#[125]⟩++⟨#[32,101,108,115,101,32,123,10]⟩++jc (N5++⟨#[9]⟩) el++N5) (⟨#[125]⟩) O3;have Zt:0<el.length:=by omega
      apply ai;simp[hC,Zt];refine cB ?_;simp;apply aY;simp[hC,r0,s9];refine dc Od (h4) ?_;simp[hC,r1,r2,r3];refine aa.trim [6,5,0,1] [] 0 N3 yA ?_;simp[← hY,kM,M4,qf,kL,zE,qd,ByteArray.append_assoc,Ou]
    rintro s rfl;apply aY;simp[hC,U9];apply aY;simp[hC,wi];refine⟨l.length-(i+1),by omega,?_⟩;refine aa.trim [6,5,0,1] [] 0 N3 yA ⟨i+1,Y++⟨#[10]⟩,rfl,by omega,PU,?_⟩;simp
   | .cE e th,N7,PS,hY,O0=>
    obtain⟨⟨h2,h2z⟩,h3⟩:=PS;simp only[ib,bW e,kQ,eS,List.cons_append,List.nil_append] at N7;rw[bW e] at h2;apply ai;simp[hC,hi,N7];apply ai;simp[hC,st];refine T.cut (fun s=>s=⟨[(6,I i),(5,.str Y),(0,.az (bx l) l.length),(1,.str N5)],[],0⟩) ?_ ?_
    ·apply ai;simp[hC];apply T.block;simp only[kM,xX,qf,kL,qd,ByteArray.size_append] at O0;apply ai;simp[hC];refine aX ?_;simp;apply ai;simp[hC];refine aX ?_;simp;apply ai;simp[hC];refine aX ?_;simp;apply ai;simp[hC];refine aX ?_;simp;apply ai;simp[hC];refine aX ?_;simp;apply ai;simp[hC];refine aX ?_;simp;apply aL;simp[hC];refine aX ?_;simp;apply aY;simp[hC];refine cB ?_;simp;apply ai;simp[hC];refine T.cut (fun s=>s=⟨[(8,.str ⟨#[119,104,105,108,101,32]⟩),(7,.aq 0 0),(6,I i),(5,.str y),(0,.az (bx l) l.length),(1,.str N5)],[(0,⟨170,0,[I 8,.str ⟨#[]⟩,I e.op,I e.n,.str e.name,.az (e.args.flatMap bM) e.args.length,.str ⟨#[]⟩,.az [] 0,.az [] 0,.az (bx th) th.length,.az [] 0]⟩)],1⟩) ?_ ?_
     ·apply ai;simp[hC];refine cB ?_;simp;apply aY;simp[hC];refine aa.trim [8,7,6,5,0,1] [0] 1 N3 yA ?_;simp
     rintro s rfl;have s0:=ax (y) (⟨#[119,104,105,108,101,32]⟩) O3;have s1:=ax (y++⟨#[119,104,105,108,101,32]⟩) (iK e) O3;have s2:=ax (y++⟨#[119,104,105,108,101,32]⟩++iK e) (⟨#[32,123,10]⟩) O3;have s3:=ax (y++⟨#[119,104,105,108,101,32]⟩++iK e++⟨#[32,123,10]⟩) (jc (N5++⟨#[9]⟩) th) O3;have s4:=ax (y++⟨#[119,104,105,108,101,32]⟩++iK e++⟨#[32,123,10]⟩++jc (N5++⟨#[9]⟩) th) (N5) O3;have s5:=ax (y++⟨#[119,104,105,108,101,32]⟩++iK e++⟨#[32,123,10]⟩++jc (N5++⟨#[9]⟩) th++N5) (⟨#[125]⟩) O3;have s9:=ax N5 ⟨#[9]⟩ yCr;apply T.seq;refine T.rx af follows [0,1,2,3,4,8,9,10,11,14,5,6,7,12,13,15,16,17] [(9,5)] N4 ?_;simp[hC,s0,s9];refine RX.call rfl N3 rfl rfl rfl Od (h2) ?_;simp[s1,s2];refine RX.call rfl N3 rfl rfl rfl Od (h3) ?_;simp[s3,s4,s5];apply ai;simp[hC];refine aX ?_;simp;apply T.skip;simp;refine aa.trim [6,5,0,1] [] 0 N3 yA ?_;simp[← hY,kM,xX,qf,kL,qd,ByteArray.append_assoc]
    rintro s rfl;apply aY;simp[hC,U9];apply aY;simp[hC,wi];refine⟨l.length-(i+1),by omega,?_⟩;refine aa.trim [6,5,0,1] [] 0 N3 yA ⟨i+1,Y++⟨#[10]⟩,rfl,by omega,PU,?_⟩;simp
   | .jm,N7,PS,hY,O0=>
    simp only[ib,bM,kQ,eS,List.cons_append,List.nil_append] at N7;apply ai;simp[hC,hi,N7];apply ai;simp[hC,st];refine T.cut (fun s=>s=⟨[(6,I i),(5,.str Y),(0,.az (bx l) l.length),(1,.str N5)],[],0⟩) ?_ ?_
    ·apply ai;simp[hC];apply T.block;simp only[kM,I4] at O0;have s0:=ax (y) (⟨#[114,101,116,117,114,110,59]⟩) O3;apply ai;simp[hC];refine aX ?_;simp;apply ai;simp[hC];refine aX ?_;simp;apply ai;simp[hC];refine aX ?_;simp;apply ai;simp[hC];refine aX ?_;simp;apply ai;simp[hC];refine aX ?_;simp;apply ai;simp[hC];refine aX ?_;simp;apply aL;simp[hC];refine aX ?_;simp;apply aY;simp[hC];refine aX ?_;simp;apply aY;simp[hC,s0];refine aa.trim [6,5,0,1] [] 0 N3 yA ?_;simp[← hY,kM,I4]
    rintro s rfl;apply aY;simp[hC,U9];apply aY;simp[hC,wi];refine⟨l.length-(i+1),by omega,?_⟩;refine aa.trim [6,5,0,1] [] 0 N3 yA ⟨i+1,Y++⟨#[10]⟩,rfl,by omega,PU,?_⟩;simp
  ·have Oe:i=l.length:=by omega
   rw[Oe,List.drop_length,jc] at hx;have hxX:x=X:=by rw[← hx];exact (ByteArray.append_empty (b:=x)).symm
   subst hxX;apply aL;simp[hC,hi];refine aX ?_;simp;apply T.exit;simp;apply ai;simp[hC];apply T.ret;apply aa.here;simp[Tryz.results109]
end Go.Proofs.YtlkmbdfhdknlgaaGreatDoor
