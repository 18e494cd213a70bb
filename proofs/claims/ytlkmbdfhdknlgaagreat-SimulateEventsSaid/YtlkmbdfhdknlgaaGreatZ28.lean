/- lines. -/
import Derived.Test.YtlkmbdfhdknlgaaGreatZ27
namespace Go.Proofs.YtlkmbdfhdknlgaaGreat
open Go.Can Go.aJ List Tryz
def TxS (I9:ByteArray)(s:Sm):Prop:=match s with
 | .iz nm e=>nm.size<=100/\QI e
 | .jd nm e=>nm.size<=100/\QI e
 | .eJ _ nm al=>nm.size<=100/\al.length<=1000/\∀ a∈al,TxA a
 | .dP _ r=>QH r
 | .mf e th el=>QI e/\ae prog 165 [.ax (bO th) th.length,.str (I9++⟨#[9]⟩)] (.str (jF (I9++⟨#[9]⟩) th))/\ae prog 165 [.ax (bO el) el.length,.str (I9++⟨#[9]⟩)] (.str (jF (I9++⟨#[9]⟩) el))
 | .cS e th=>QI e/\ae prog 165 [.ax (bO th) th.length,.str (I9++⟨#[9]⟩)] (.str (jF (I9++⟨#[9]⟩) th))
 | .jP=>True
def J129 (l:List Sm)(I9 X:ByteArray)(n:Nat)(s:St):Prop:=∃ (i:Nat) (x:ByteArray),n=l.length-i/\i<=l.length/\x++jF I9 (l.drop i)=X/\s=⟨[(6,I i),(5,.str x),(0,.ax (bO l) l.length),(1,.str I9)],[],0⟩
set_option maxHeartbeats 8000000 in
theorem xo (l:List Sm)(I9:ByteArray)(ht:I9.size<=100)(hl:l.length<=100000)(hX:(jF I9 l).size<=1000000)(h:∀ s∈l,TxS I9 s):ae prog 165 [.ax (bO l) l.length,.str I9] (.str (jF I9 l)):=by
 have Tl:=λ (i:Nat) (x:Sm) (h:l[i]? = some x)=>aI (f:=iR) (n:=11) lg (m:=l) h;rw[<- pB] at Tl;obtain⟨X,hXe⟩:∃ X,jF I9 l=X:=⟨_,rfl⟩;rw[hXe] at hX |-;refine ae.aE ah Tryz.func165 rfl Ix (by simp[Tryz.ntmps165]) rfl λ C hC RR=>?_;rw[Tryz.ntmps165] at hC;apply aq;simp[hC];apply aq;simp[hC];apply aW;simp[hC];apply T.block;refine T.aH (J129 l I9 X) (n:=l.length) ?_ ?_
 ·refine aa.le (Le.env [6,5,0,1]) (aa.here ⟨0,⟨#[]⟩,by omega,by omega,?_,?_⟩)
  ·rw[drop_zero,hXe];exact ByteArray.empty_append
  ·simp
 ·rintro n s ⟨i,x,rfl,Og,hx,rfl⟩;by_cases hi:i<l.length
  ·obtain⟨a,SH⟩:∃ a,l[i]? = some a:=⟨l[i],getElem?_eq_getElem hi⟩;have Qd:=Tl i a SH;have Ty:=h a (mem_of_getElem? SH);have wi:=cF ((i:Int)+1) yA yA;have hd:l.drop i=a::l.drop (i+1):=by
    rw[drop_eq_getElem_cons hi,(List.getElem?_eq_some_iff.1 SH).2]
   rw[hd,jF] at hx;have hz:x.size+(I9.size+(lL I9 a).size+tNl.size+(jF I9 (l.drop (i+1))).size)=X.size:=by
    rw[<- hx];simp only[ByteArray.size_append]
   have hq:tNl.size=1:=rfl;apply aW;simp[hC,hi];refine gw ?_;simp;apply eN;have st:=aA x I9 yA;obtain⟨y,hy⟩:∃ y,x++I9=y:=⟨_,rfl⟩;have hys:y.size=x.size+I9.size:=by rw[<- hy,ByteArray.size_append]
   rw[hy] at st;obtain⟨Y,hY⟩:∃ Y,y++lL I9 a=Y:=⟨_,rfl⟩;have hYs:Y.size=y.size+(lL I9 a).size:=by rw[<- hY,ByteArray.size_append]
   have Yw:=aA Y ⟨#[10]⟩ (by have:(⟨#[10]⟩:ByteArray).size=1:=rfl;omega);have UG:Y++⟨#[10]⟩++jF I9 (l.drop (i+1))=X:=by
    rw[<- hx,<- hY,<- hy];simp only[ByteArray.append_assoc];rfl
   have Ti:y.size+(lL I9 a).size<=1000000:=by omega
   clear hz hx hys hYs
   match a,Qd,Ty,hY,Ti with
   | .iz nm e,Qd,Ty,hY,Ti=>
    obtain⟨h1,h2,h2z⟩:=Ty;simp only[iR,bW e,lP,cons_append,nil_append] at Qd;rw[bW e] at h2;apply aq;simp[hC,hi,Qd];apply aq;simp[hC,st];refine T.cut (λ s=>s=⟨[(6,I i),(5,.str Y),(0,.ax (bO l) l.length),(1,.str I9)],[],0⟩) ?_ ?_
    ·apply aq;simp[hC];apply T.block;apply aq;simp[hC];refine dy ?_;simp;simp only[lL,BQ,I1,jt,ByteArray.size_append] at Ti;have s0:=aA (y) (⟨#[118,97,114,32]⟩) SM;have s1:=aA (y++⟨#[118,97,114,32]⟩) (nm) SM;have s2:=aA (y++⟨#[118,97,114,32]⟩++nm) (⟨#[32,61,32]⟩) SM;have s3:=aA (y++⟨#[118,97,114,32]⟩++nm++⟨#[32,61,32]⟩) (jn e) SM;have s4:=aA (y++⟨#[118,97,114,32]⟩++nm++⟨#[32,61,32]⟩++jn e) (⟨#[59]⟩) SM;refine T.rx ah follows [0,1,2,3,4,5,6,7,8,9,10,11] [(3,8)] Ix ?_;simp[hC,s0,s1,s2];refine RX.call rfl xr rfl rfl rfl R2 (h2) ?_;simp[s3,s4];refine aa.trim [6,5,0,1] [] 0 xr yA ?_;simp[<- hY,lL,BQ,I1,jt,ByteArray.append_assoc]
    rintro s rfl;apply aN;simp[hC,Yw];apply aN;simp[hC,wi];refine⟨l.length-(i+1),by omega,?_⟩;refine aa.trim [6,5,0,1] [] 0 xr yA ⟨i+1,Y++⟨#[10]⟩,rfl,by omega,UG,?_⟩;simp
   | .jd nm e,Qd,Ty,hY,Ti=>
    obtain⟨h1,h2,h2z⟩:=Ty;simp only[iR,bW e,lP,cons_append,nil_append] at Qd;rw[bW e] at h2;apply aq;simp[hC,hi,Qd];apply aq;simp[hC,st];refine T.cut (λ s=>s=⟨[(6,I i),(5,.str Y),(0,.ax (bO l) l.length),(1,.str I9)],[],0⟩) ?_ ?_
    ·apply aq;simp[hC];apply T.block;apply aq;simp[hC];refine a9 ?_;simp;apply aq;simp[hC];refine dy ?_;simp;simp only[lL,I1,jt,ByteArray.size_append] at Ti;have s0:=aA (y) (nm) SM;have s1:=aA (y++nm) (⟨#[32,61,32]⟩) SM;have s2:=aA (y++nm++⟨#[32,61,32]⟩) (jn e) SM;have s3:=aA (y++nm++⟨#[32,61,32]⟩++jn e) (⟨#[59]⟩) SM;refine T.rx ah follows [0,1,2,3,4,5,6,7,8,9,10] [(2,7)] Ix ?_;simp[hC,s0,s1];refine RX.call rfl xr rfl rfl rfl R2 (h2) ?_;simp[s2,s3];refine aa.trim [6,5,0,1] [] 0 xr yA ?_;simp[<- hY,lL,I1,jt,ByteArray.append_assoc]
    rintro s rfl;apply aN;simp[hC,Yw];apply aN;simp[hC,wi];refine⟨l.length-(i+1),by omega,?_⟩;refine aa.trim [6,5,0,1] [] 0 xr yA ⟨i+1,Y++⟨#[10]⟩,rfl,by omega,UG,?_⟩;simp
   | .eJ false nm al,Qd,Ty,hY,Ti=>
    obtain⟨h1,h2,h3⟩:=Ty;have Se:=u9 al h2 h3;simp only[iR,bf,lP,cons_append,nil_append] at Qd;have e5:(if false=true then (4:Int) else 3)=3:=rfl
    try rw[e5] at Qd
    apply aq;simp[hC,hi,Qd];apply aq;simp[hC,st];refine T.cut (λ s=>s=⟨[(6,I i),(5,.str Y),(0,.ax (bO l) l.length),(1,.str I9)],[],0⟩) ?_ ?_
    ·apply aq;simp[hC];apply T.block;apply aq;simp[hC];refine a9 ?_;simp;apply aq;simp[hC];refine a9 ?_;simp;apply aq;simp[hC];refine dy ?_;simp;simp only[lL,jt,QQ,ByteArray.size_append] at Ti
     try simp only[Bool.false_eq_true,if_false] at Ti
     have s0:=aA (y) (nm) SM;have s1:=aA (y++nm) (vw al) SM;have s2:=aA (y++nm++vw al) (⟨#[59]⟩) SM;refine T.rx ah follows [0,1,2,3,4,5,6,7,8,9] [(2,6)] Ix ?_;simp[hC,s0];refine RX.call rfl xr rfl rfl rfl R2 (Se) ?_;simp[s1,s2];refine aa.trim [6,5,0,1] [] 0 xr yA ?_;simp[<- hY,lL,jt,vw,ByteArray.append_assoc]
    rintro s rfl;apply aN;simp[hC,Yw];apply aN;simp[hC,wi];refine⟨l.length-(i+1),by omega,?_⟩;refine aa.trim [6,5,0,1] [] 0 xr yA ⟨i+1,Y++⟨#[10]⟩,rfl,by omega,UG,?_⟩;simp
   | .eJ true nm al,Qd,Ty,hY,Ti=>
    obtain⟨h1,h2,h3⟩:=Ty;have Se:=u9 al h2 h3;simp only[iR,bf,lP,cons_append,nil_append] at Qd;have e5:(if true=true then (4:Int) else 3)=4:=rfl
    try rw[e5] at Qd
    apply aq;simp[hC,hi,Qd];apply aq;simp[hC,st];refine T.cut (λ s=>s=⟨[(6,I i),(5,.str Y),(0,.ax (bO l) l.length),(1,.str I9)],[],0⟩) ?_ ?_
    ·apply aq;simp[hC];apply T.block;apply aq;simp[hC];refine a9 ?_;simp;apply aq;simp[hC];refine a9 ?_;simp;apply aq;simp[hC];refine a9 ?_;simp;apply aq;simp[hC];refine dy ?_;simp;simp only[lL,jt,QQ,ByteArray.size_append,if_true] at Ti;have s0:=aA (y) (⟨#[103,111,32]⟩) SM;have s1:=aA (y++⟨#[103,111,32]⟩) (nm) SM;have s2:=aA (y++⟨#[103,111,32]⟩++nm) (vw al) SM;have s3:=aA (y++⟨#[103,111,32]⟩++nm++vw al) (⟨#[59]⟩) SM;refine T.rx ah follows [0,1,2,3,4,5,6,7,8,9,10] [(3,7)] Ix ?_;simp[hC,s0,s1];refine RX.call rfl xr rfl rfl rfl R2 (Se) ?_;simp[s2,s3];refine aa.trim [6,5,0,1] [] 0 xr yA ?_;simp[<- hY,lL,jt,QQ,vw,ByteArray.append_assoc]
    rintro s rfl;apply aN;simp[hC,Yw];apply aN;simp[hC,wi];refine⟨l.length-(i+1),by omega,?_⟩;refine aa.trim [6,5,0,1] [] 0 xr yA ⟨i+1,Y++⟨#[10]⟩,rfl,by omega,UG,?_⟩;simp
   | .dP false r,Qd,Ty,hY,Ti=>
    have Uq:=qw r (show QH r from Ty);obtain⟨rn,ri⟩:=r;obtain⟨q1,q2,hq⟩:∃ cs n,oc ri=.ax cs n:=by cases ri<;>exact⟨_,_,rfl⟩
    simp only[lN,hq] at Uq;simp only[iR,bf,lN,hq,cons_append,nil_append] at Qd;have e5:(if false=true then (6:Int) else 5)=5:=rfl
    try rw[e5] at Qd
    apply aq;simp[hC,hi,Qd];apply aq;simp[hC,st];refine T.cut (λ s=>s=⟨[(6,I i),(5,.str Y),(0,.ax (bO l) l.length),(1,.str I9)],[],0⟩) ?_ ?_
    ·apply aq;simp[hC];apply T.block;apply aq;simp[hC];refine a9 ?_;simp;apply aq;simp[hC];refine a9 ?_;simp;apply aq;simp[hC];refine a9 ?_;simp;apply aq;simp[hC];refine a9 ?_;simp;apply aq;simp[hC];refine dy ?_;simp;simp only[lL,jt,yP,pA,ByteArray.size_append] at Ti
     try simp only[Bool.false_eq_true,if_false] at Ti
     have s0:=aA (y) (⟨#[108,111,99,107,32]⟩) SM;have s1:=aA (y++⟨#[108,111,99,107,32]⟩) (Eg ⟨rn,ri⟩) SM;have s2:=aA (y++⟨#[108,111,99,107,32]⟩++Eg ⟨rn,ri⟩) (⟨#[59]⟩) SM;apply aN;simp[hC,s0];refine cX R2 (Uq) ?_;simp[hC,s1,s2];refine aa.trim [6,5,0,1] [] 0 xr yA ?_;simp[<- hY,lL,jt,yP,ByteArray.append_assoc]
    rintro s rfl;apply aN;simp[hC,Yw];apply aN;simp[hC,wi];refine⟨l.length-(i+1),by omega,?_⟩;refine aa.trim [6,5,0,1] [] 0 xr yA ⟨i+1,Y++⟨#[10]⟩,rfl,by omega,UG,?_⟩;simp
   | .dP true r,Qd,Ty,hY,Ti=>
    have Uq:=qw r (show QH r from Ty);obtain⟨rn,ri⟩:=r;obtain⟨q1,q2,hq⟩:∃ cs n,oc ri=.ax cs n:=by cases ri<;>exact⟨_,_,rfl⟩
    simp only[lN,hq] at Uq;simp only[iR,bf,lN,hq,cons_append,nil_append] at Qd;have e5:(if true=true then (6:Int) else 5)=6:=rfl
    try rw[e5] at Qd
    apply aq;simp[hC,hi,Qd];apply aq;simp[hC,st];refine T.cut (λ s=>s=⟨[(6,I i),(5,.str Y),(0,.ax (bO l) l.length),(1,.str I9)],[],0⟩) ?_ ?_
    ·apply aq;simp[hC];apply T.block;apply aq;simp[hC];refine a9 ?_;simp;apply aq;simp[hC];refine a9 ?_;simp;apply aq;simp[hC];refine a9 ?_;simp;apply aq;simp[hC];refine a9 ?_;simp;apply aq;simp[hC];refine a9 ?_;simp;apply aq;simp[hC];refine dy ?_;simp;simp only[lL,jt,yP,pA,ByteArray.size_append] at Ti
     try simp only[if_true] at Ti
     have s0:=aA (y) (⟨#[117,110,108,111,99,107,32]⟩) SM;have s1:=aA (y++⟨#[117,110,108,111,99,107,32]⟩) (Eg ⟨rn,ri⟩) SM;have s2:=aA (y++⟨#[117,110,108,111,99,107,32]⟩++Eg ⟨rn,ri⟩) (⟨#[59]⟩) SM;apply aN;simp[hC,s0];refine cX R2 (Uq) ?_;simp[hC,s1,s2];refine aa.trim [6,5,0,1] [] 0 xr yA ?_;simp[<- hY,lL,jt,pA,ByteArray.append_assoc]
    rintro s rfl;apply aN;simp[hC,Yw];apply aN;simp[hC,wi];refine⟨l.length-(i+1),by omega,?_⟩;refine aa.trim [6,5,0,1] [] 0 xr yA ⟨i+1,Y++⟨#[10]⟩,rfl,by omega,UG,?_⟩;simp
   | .mf e th el,Qd,Ty,hY,Ti=>
    obtain⟨⟨h2,h2z⟩,h3,h4⟩:=Ty;simp only[iR,bW e,lP,eS,cons_append,nil_append] at Qd;rw[bW e] at h2;apply aq;simp[hC,hi,Qd];apply aq;simp[hC,st];refine T.cut (λ s=>s=⟨[(6,I i),(5,.str Y),(0,.ax (bO l) l.length),(1,.str I9)],[],0⟩) ?_ ?_
    ·apply aq;simp[hC];apply T.block;by_cases R7:el.length=0
     ·simp only[lL,QP,rz,lK,BS,rv,ByteArray.size_append,R7,if_true] at Ti;apply aq;simp[hC];refine a9 ?_;simp;apply aq;simp[hC];refine a9 ?_;simp;apply aq;simp[hC];refine a9 ?_;simp;apply aq;simp[hC];refine a9 ?_;simp;apply aq;simp[hC];refine a9 ?_;simp;apply aq;simp[hC];refine a9 ?_;simp;apply aW;simp[hC];refine dy ?_;simp;apply T.skip;simp;refine dy ?_;simp;apply aq;simp[hC];refine T.cut (λ s=>s=⟨[(8,.str ⟨#[105,102,32]⟩),(7,.aw 0 0),(6,I i),(5,.str y),(0,.ax (bO l) l.length),(1,.str I9)],[(0,⟨207,0,[I 7,.str ⟨#[]⟩,I e.op,I e.n,.str e.name,.ax (e.args.flatMap bf) e.args.length,.str ⟨#[]⟩,.ax [] 0,.ax [] 0,.ax (bO th) th.length,.ax (bO el) el.length]⟩)],1⟩) ?_ ?_
      ·apply aq;simp[hC];refine a9 ?_;simp;apply T.skip;simp;refine aa.trim [8,7,6,5,0,1] [0] 1 xr yA ?_;simp
      rintro s rfl;have s0:=aA (y) (⟨#[105,102,32]⟩) SM;have s1:=aA (y++⟨#[105,102,32]⟩) (jn e) SM;have s2:=aA (y++⟨#[105,102,32]⟩++jn e) (⟨#[32,123,10]⟩) SM;have s3:=aA (y++⟨#[105,102,32]⟩++jn e++⟨#[32,123,10]⟩) (jF (I9++⟨#[9]⟩) th) SM;have s4:=aA (y++⟨#[105,102,32]⟩++jn e++⟨#[32,123,10]⟩++jF (I9++⟨#[9]⟩) th) (I9) SM;have s5:=aA (y++⟨#[105,102,32]⟩++jn e++⟨#[32,123,10]⟩++jF (I9++⟨#[9]⟩) th++I9) (⟨#[125]⟩) SM;have s9:=aA I9 ⟨#[9]⟩ yDj;apply T.seq;refine T.rx ah follows [0,1,2,3,4,8,9,10,11,14,5,6,7,12,13,15,16,17] [(9,5)] Ix ?_;simp[hC,s0,s9];refine RX.call rfl xr rfl rfl rfl R2 (h2) ?_;simp[s1,s2];refine RX.call rfl xr rfl rfl rfl R2 (h3) ?_;simp[s3,s4,s5];have helb:¬ 0<el.length:=by omega
      apply aq;simp[hC,R7];refine a9 ?_;simp;apply T.skip;simp;refine aa.trim [6,5,0,1] [] 0 xr yA ?_;simp[<- hY,lL,QP,rz,lK,rv,ByteArray.append_assoc,R7];exact (ByteArray.append_empty (b:=⟨#[125]⟩)).symm
     ·simp only[lL,QP,rz,lK,BS,rv,ByteArray.size_append,R7,if_false] at Ti;apply aq;simp[hC];refine a9 ?_;simp;apply aq;simp[hC];refine a9 ?_;simp;apply aq;simp[hC];refine a9 ?_;simp;apply aq;simp[hC];refine a9 ?_;simp;apply aq;simp[hC];refine a9 ?_;simp;apply aq;simp[hC];refine a9 ?_;simp;apply aW;simp[hC];refine dy ?_;simp;apply T.skip;simp;refine dy ?_;simp;apply aq;simp[hC];refine T.cut (λ s=>s=⟨[(8,.str ⟨#[105,102,32]⟩),(7,.aw 0 0),(6,I i),(5,.str y),(0,.ax (bO l) l.length),(1,.str I9)],[(0,⟨207,0,[I 7,.str ⟨#[]⟩,I e.op,I e.n,.str e.name,.ax (e.args.flatMap bf) e.args.length,.str ⟨#[]⟩,.ax [] 0,.ax [] 0,.ax (bO th) th.length,.ax (bO el) el.length]⟩)],1⟩) ?_ ?_
      ·apply aq;simp[hC];refine a9 ?_;simp;apply T.skip;simp;refine aa.trim [8,7,6,5,0,1] [0] 1 xr yA ?_;simp
      rintro s rfl;have s0:=aA (y) (⟨#[105,102,32]⟩) SM;have s1:=aA (y++⟨#[105,102,32]⟩) (jn e) SM;have s2:=aA (y++⟨#[105,102,32]⟩++jn e) (⟨#[32,123,10]⟩) SM;have s3:=aA (y++⟨#[105,102,32]⟩++jn e++⟨#[32,123,10]⟩) (jF (I9++⟨#[9]⟩) th) SM;have s4:=aA (y++⟨#[105,102,32]⟩++jn e++⟨#[32,123,10]⟩++jF (I9++⟨#[9]⟩) th) (I9) SM;have s5:=aA (y++⟨#[105,102,32]⟩++jn e++⟨#[32,123,10]⟩++jF (I9++⟨#[9]⟩) th++I9) (⟨#[125]⟩) SM;have s9:=aA I9 ⟨#[9]⟩ yDj;apply T.seq;refine T.rx ah follows [0,1,2,3,4,8,9,10,11,14,5,6,7,12,13,15,16,17] [(9,5)] Ix ?_;simp[hC,s0,s9];refine RX.call rfl xr rfl rfl rfl R2 (h2) ?_;simp[s1,s2];refine RX.call rfl xr rfl rfl rfl R2 (h3) ?_;simp[s3,s4,s5];have r0:=aA (y++⟨#[105,102,32]⟩++jn e++⟨#[32,123,10]⟩++jF (I9++⟨#[9]⟩) th++I9++⟨#[125]⟩) (⟨#[32,101,108,115,101,32,123,10]⟩) SM;have r1:=aA (y++⟨#[105,102,32]⟩++jn e++⟨#[32,123,10]⟩++jF (I9++⟨#[9]⟩) th++I9++⟨#[125]⟩++⟨#[32,101,108,115,101,32,123,10]⟩) (jF (I9++⟨#[9]⟩) el) SM;have r2:=aA (y++⟨#[105,102,32]⟩++jn e++⟨#[32,123,10]⟩++jF (I9++⟨#[9]⟩) th++I9++⟨#[125]⟩++⟨#[32,101,108,115,101,32,123,10]⟩++jF (I9++⟨#[9]⟩) el) (I9) SM;have r3:=aA (y++⟨#[105,102,32]⟩++jn e++⟨#[32,123,10]⟩++jF (I9++⟨#[9]⟩) th++I9++⟨#[125]⟩++⟨#[32,101,108,115,101,32,123,10]⟩++jF (I9++⟨#[9]⟩) el++I9) (⟨#[125]⟩) SM;have helb:0<el.length:=by omega
      apply aq;simp[hC,helb];refine dy ?_;simp;apply aN;simp[hC,r0,s9];refine cX R2 (h4) ?_;simp[hC,r1,r2,r3];refine aa.trim [6,5,0,1] [] 0 xr yA ?_;simp[<- hY,lL,QP,rz,lK,BS,rv,ByteArray.append_assoc,R7]
    rintro s rfl;apply aN;simp[hC,Yw];apply aN;simp[hC,wi];refine⟨l.length-(i+1),by omega,?_⟩;refine aa.trim [6,5,0,1] [] 0 xr yA ⟨i+1,Y++⟨#[10]⟩,rfl,by omega,UG,?_⟩;simp
   | .cS e th,Qd,Ty,hY,Ti=>
    obtain⟨⟨h2,h2z⟩,h3⟩:=Ty;simp only[iR,bW e,lP,eS,cons_append,nil_append] at Qd;rw[bW e] at h2;apply aq;simp[hC,hi,Qd];apply aq;simp[hC,st];refine T.cut (λ s=>s=⟨[(6,I i),(5,.str Y),(0,.ax (bO l) l.length),(1,.str I9)],[],0⟩) ?_ ?_
    ·apply aq;simp[hC];apply T.block;simp only[lL,z9,rz,lK,rv,ByteArray.size_append] at Ti;apply aq;simp[hC];refine a9 ?_;simp;apply aq;simp[hC];refine a9 ?_;simp;apply aq;simp[hC];refine a9 ?_;simp;apply aq;simp[hC];refine a9 ?_;simp;apply aq;simp[hC];refine a9 ?_;simp;apply aq;simp[hC];refine a9 ?_;simp;apply aW;simp[hC];refine a9 ?_;simp;apply aN;simp[hC];refine dy ?_;simp;apply aq;simp[hC];refine T.cut (λ s=>s=⟨[(8,.str ⟨#[119,104,105,108,101,32]⟩),(7,.aw 0 0),(6,I i),(5,.str y),(0,.ax (bO l) l.length),(1,.str I9)],[(0,⟨207,0,[I 8,.str ⟨#[]⟩,I e.op,I e.n,.str e.name,.ax (e.args.flatMap bf) e.args.length,.str ⟨#[]⟩,.ax [] 0,.ax [] 0,.ax (bO th) th.length,.ax [] 0]⟩)],1⟩) ?_ ?_
     ·apply aq;simp[hC];refine dy ?_;simp;apply aN;simp[hC];refine aa.trim [8,7,6,5,0,1] [0] 1 xr yA ?_;simp
     rintro s rfl;have s0:=aA (y) (⟨#[119,104,105,108,101,32]⟩) SM;have s1:=aA (y++⟨#[119,104,105,108,101,32]⟩) (jn e) SM;have s2:=aA (y++⟨#[119,104,105,108,101,32]⟩++jn e) (⟨#[32,123,10]⟩) SM;have s3:=aA (y++⟨#[119,104,105,108,101,32]⟩++jn e++⟨#[32,123,10]⟩) (jF (I9++⟨#[9]⟩) th) SM;have s4:=aA (y++⟨#[119,104,105,108,101,32]⟩++jn e++⟨#[32,123,10]⟩++jF (I9++⟨#[9]⟩) th) (I9) SM;have s5:=aA (y++⟨#[119,104,105,108,101,32]⟩++jn e++⟨#[32,123,10]⟩++jF (I9++⟨#[9]⟩) th++I9) (⟨#[125]⟩) SM;have s9:=aA I9 ⟨#[9]⟩ yDj;apply T.seq;refine T.rx ah follows [0,1,2,3,4,8,9,10,11,14,5,6,7,12,13,15,16,17] [(9,5)] Ix ?_;simp[hC,s0,s9];refine RX.call rfl xr rfl rfl rfl R2 (h2) ?_;simp[s1,s2];refine RX.call rfl xr rfl rfl rfl R2 (h3) ?_;simp[s3,s4,s5];apply aq;simp[hC];refine a9 ?_;simp;apply T.skip;simp;refine aa.trim [6,5,0,1] [] 0 xr yA ?_;simp[<- hY,lL,z9,rz,lK,rv,ByteArray.append_assoc]
    rintro s rfl;apply aN;simp[hC,Yw];apply aN;simp[hC,wi];refine⟨l.length-(i+1),by omega,?_⟩;refine aa.trim [6,5,0,1] [] 0 xr yA ⟨i+1,Y++⟨#[10]⟩,rfl,by omega,UG,?_⟩;simp
   | .jP,Qd,Ty,hY,Ti=>
    simp only[iR,bf,lP,eS,cons_append,nil_append] at Qd;apply aq;simp[hC,hi,Qd];apply aq;simp[hC,st];refine T.cut (λ s=>s=⟨[(6,I i),(5,.str Y),(0,.ax (bO l) l.length),(1,.str I9)],[],0⟩) ?_ ?_
    ·apply aq;simp[hC];apply T.block;simp only[lL,L7] at Ti;have s0:=aA (y) (⟨#[114,101,116,117,114,110,59]⟩) SM;apply aq;simp[hC];refine a9 ?_;simp;apply aq;simp[hC];refine a9 ?_;simp;apply aq;simp[hC];refine a9 ?_;simp;apply aq;simp[hC];refine a9 ?_;simp;apply aq;simp[hC];refine a9 ?_;simp;apply aq;simp[hC];refine a9 ?_;simp;apply aW;simp[hC];refine a9 ?_;simp;apply aN;simp[hC];refine a9 ?_;simp;apply aN;simp[hC,s0];refine aa.trim [6,5,0,1] [] 0 xr yA ?_;simp[<- hY,lL,L7]
    rintro s rfl;apply aN;simp[hC,Yw];apply aN;simp[hC,wi];refine⟨l.length-(i+1),by omega,?_⟩;refine aa.trim [6,5,0,1] [] 0 xr yA ⟨i+1,Y++⟨#[10]⟩,rfl,by omega,UG,?_⟩;simp
  ·have RU:i=l.length:=by omega
   rw[RU,drop_length,jF] at hx;have hxX:x=X:=by rw[<- hx];exact (ByteArray.append_empty (b:=x)).symm
   subst hxX;apply aW;simp[hC,hi];refine a9 ?_;simp;apply T.exit;simp;apply aq;simp[hC];apply T.ret;apply aa.here;simp[Tryz.results165]
end Go.Proofs.YtlkmbdfhdknlgaaGreat
