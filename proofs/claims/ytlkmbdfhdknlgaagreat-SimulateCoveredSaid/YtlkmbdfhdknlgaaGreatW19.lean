/- Lemmas. -/
import Derived.Test.YtlkmbdfhdknlgaaGreatW18
namespace Go.Proofs.YtlkmbdfhdknlgaaGreat
open Go.Can Go.aK List Tryz
def TxS (HN:ByteArray)(s:Sm):Prop:=match s with
 | .iU nm e=>nm.size<=100/\Rk e
 | .jx nm e=>nm.size<=100/\Rk e
 | .eM _ nm al=>nm.size<=100/\al.length<=1000/\∀ a∈al,TxA a
 | .dS _ r=>Rj r
 | .mL e th el=>Rk e/\ae prog 165 [.az (bP th) th.length,.str (HN++⟨#[9]⟩)] (.str (j3 (HN++⟨#[9]⟩) th))/\ae prog 165 [.az (bP el) el.length,.str (HN++⟨#[9]⟩)] (.str (j3 (HN++⟨#[9]⟩) el))
 | .cX e th=>Rk e/\ae prog 165 [.az (bP th) th.length,.str (HN++⟨#[9]⟩)] (.str (j3 (HN++⟨#[9]⟩) th))
 | .kj=>True
def J129 (l:List Sm)(HN X:ByteArray)(n:Nat)(s:St):Prop:=∃ (i:Nat) (x:ByteArray),n=l.length-i/\i<=l.length/\x++j3 HN (l.drop i)=X/\s=⟨[(6,I i),(5,.str x),(0,.az (bP l) l.length),(1,.str HN)],[],0⟩
set_option maxHeartbeats 8000000 in
theorem xL (l:List Sm)(HN:ByteArray)(ht:HN.size<=100)(hl:l.length<=100000)(hX:(j3 HN l).size<=1000000)(h:∀ s∈l,TxS HN s):ae prog 165 [.az (bP l) l.length,.str HN] (.str (j3 HN l)):=by
 have T2:=λ (i:Nat) (x:Sm) (h:l[i]? = some x)=>aL (f:=ji) (n:=11) lP (m:=l) h;rw[<- pV] at T2;obtain⟨X,hXe⟩:∃ X,j3 HN l=X:=⟨_,rfl⟩;rw[hXe] at hX |-;refine ae.aD af Tryz.func165 rfl Bw (by simp[Tryz.ntmps165]) rfl λ C hC M0=>?_;rw[Tryz.ntmps165] at hC;apply aq;simp[hC];apply aq;simp[hC];apply aW;simp[hC];apply T.block;refine T.aI (J129 l HN X) (n:=l.length) ?_ ?_
 .refine aa.le (Le.env [6,5,0,1]) (aa.here ⟨0,⟨#[]⟩,by omega,by omega,?_,?_⟩)
  .rw[drop_zero,hXe];exact ByteArray.empty_append
  .simp
 .rintro n s ⟨i,x,rfl,Jz,hx,rfl⟩;by_cases hi:i<l.length
  .obtain⟨a,Tn⟩:∃ a,l[i]? = some a:=⟨l[i],getElem?_eq_getElem hi⟩;have OZ:=T2 i a Tn;have Ug:=h a (mem_of_getElem? Tn);have wi:=cr ((i:Int)+1) yA yA;have hd:l.drop i=a::l.drop (i+1):=by
    rw[drop_eq_getElem_cons hi,(List.getElem?_eq_some_iff.1 Tn).2]
   rw[hd,j3] at hx;have hz:x.size+(HN.size+(mf HN a).size+tNl.size+(j3 HN (l.drop (i+1))).size)=X.size:=by
    rw[<- hx];simp only[ByteArray.size_append]
   have hq:tNl.size=1:=rfl;apply aW;simp[hC,hi];refine jk ?_;simp;apply eE;have st:=aB x HN yA;obtain⟨y,hy⟩:∃ y,x++HN=y:=⟨_,rfl⟩;have hys:y.size=x.size+HN.size:=by rw[<- hy,ByteArray.size_append]
   rw[hy] at st;obtain⟨Y,hY⟩:∃ Y,y++mf HN a=Y:=⟨_,rfl⟩;have hYs:Y.size=y.size+(mf HN a).size:=by rw[<- hY,ByteArray.size_append]
   have Ze:=aB Y ⟨#[10]⟩ (by have:(⟨#[10]⟩:ByteArray).size=1:=rfl;omega);have Vp:Y++⟨#[10]⟩++j3 HN (l.drop (i+1))=X:=by
    rw[<- hx,<- hY,<- hy];simp only[ByteArray.append_assoc];rfl
   have T1:y.size+(mf HN a).size<=1000000:=by omega
   clear hz hx hys hYs
   match a,OZ,Ug,hY,T1 with
   | .iU nm e,OZ,Ug,hY,T1=>
    obtain⟨h1,h2,h2z⟩:=Ug;simp only[ji,bZ e,ml,cons_append,nil_append] at OZ;rw[bZ e] at h2;apply aq;simp[hC,hi,OZ];apply aq;simp[hC,st];refine T.cut (λ s=>s=⟨[(6,I i),(5,.str Y),(0,.az (bP l) l.length),(1,.str HN)],[],0⟩) ?_ ?_
    .apply aq;simp[hC];apply T.block;apply aq;simp[hC];refine du ?_;simp;simp only[mf,B3,Js,jQ,ByteArray.size_append] at T1;have s0:=aB (y) (⟨#[118,97,114,32]⟩) Tp;have s1:=aB (y++⟨#[118,97,114,32]⟩) (nm) Tp;have s2:=aB (y++⟨#[118,97,114,32]⟩++nm) (⟨#[32,61,32]⟩) Tp;have s3:=aB (y++⟨#[118,97,114,32]⟩++nm++⟨#[32,61,32]⟩) (jK e) Tp;have s4:=aB (y++⟨#[118,97,114,32]⟩++nm++⟨#[32,61,32]⟩++jK e) (⟨#[59]⟩) Tp;refine T.rx af follows [0,1,2,3,4,5,6,7,8,9,10,11] [(3,8)] Bw ?_;simp[hC,s0,s1,s2];refine RX.call rfl xr rfl rfl rfl SD (h2) ?_;simp[s3,s4];refine aa.trim [6,5,0,1] [] 0 xr yA ?_;simp[<- hY,mf,B3,Js,jQ,ByteArray.append_assoc]
    rintro s rfl;apply aM;simp[hC,Ze];apply aM;simp[hC,wi];refine⟨l.length-(i+1),by omega,?_⟩;refine aa.trim [6,5,0,1] [] 0 xr yA ⟨i+1,Y++⟨#[10]⟩,rfl,by omega,Vp,?_⟩;simp
   | .jx nm e,OZ,Ug,hY,T1=>
    obtain⟨h1,h2,h2z⟩:=Ug;simp only[ji,bZ e,ml,cons_append,nil_append] at OZ;rw[bZ e] at h2;apply aq;simp[hC,hi,OZ];apply aq;simp[hC,st];refine T.cut (λ s=>s=⟨[(6,I i),(5,.str Y),(0,.az (bP l) l.length),(1,.str HN)],[],0⟩) ?_ ?_
    .apply aq;simp[hC];apply T.block;apply aq;simp[hC];refine bg ?_;simp;apply aq;simp[hC];refine du ?_;simp;simp only[mf,Js,jQ,ByteArray.size_append] at T1;have s0:=aB (y) (nm) Tp;have s1:=aB (y++nm) (⟨#[32,61,32]⟩) Tp;have s2:=aB (y++nm++⟨#[32,61,32]⟩) (jK e) Tp;have s3:=aB (y++nm++⟨#[32,61,32]⟩++jK e) (⟨#[59]⟩) Tp;refine T.rx af follows [0,1,2,3,4,5,6,7,8,9,10] [(2,7)] Bw ?_;simp[hC,s0,s1];refine RX.call rfl xr rfl rfl rfl SD (h2) ?_;simp[s2,s3];refine aa.trim [6,5,0,1] [] 0 xr yA ?_;simp[<- hY,mf,Js,jQ,ByteArray.append_assoc]
    rintro s rfl;apply aM;simp[hC,Ze];apply aM;simp[hC,wi];refine⟨l.length-(i+1),by omega,?_⟩;refine aa.trim [6,5,0,1] [] 0 xr yA ⟨i+1,Y++⟨#[10]⟩,rfl,by omega,Vp,?_⟩;simp
   | .eM false nm al,OZ,Ug,hY,T1=>
    obtain⟨h1,h2,h3⟩:=Ug;have SP:=vC al h2 h3;simp only[ji,bf,ml,cons_append,nil_append] at OZ;have e5:(if false=true then (4:Int) else 3)=3:=rfl
    try rw[e5] at OZ
    apply aq;simp[hC,hi,OZ];apply aq;simp[hC,st];refine T.cut (λ s=>s=⟨[(6,I i),(5,.str Y),(0,.az (bP l) l.length),(1,.str HN)],[],0⟩) ?_ ?_
    .apply aq;simp[hC];apply T.block;apply aq;simp[hC];refine bg ?_;simp;apply aq;simp[hC];refine bg ?_;simp;apply aq;simp[hC];refine du ?_;simp;simp only[mf,jQ,Ru,ByteArray.size_append] at T1
     try simp only[Bool.false_eq_true,if_false] at T1
     have s0:=aB (y) (nm) Tp;have s1:=aB (y++nm) (vS al) Tp;have s2:=aB (y++nm++vS al) (⟨#[59]⟩) Tp;refine T.rx af follows [0,1,2,3,4,5,6,7,8,9] [(2,6)] Bw ?_;simp[hC,s0];refine RX.call rfl xr rfl rfl rfl SD (SP) ?_;simp[s1,s2];refine aa.trim [6,5,0,1] [] 0 xr yA ?_;simp[<- hY,mf,jQ,vS,ByteArray.append_assoc]
    rintro s rfl;apply aM;simp[hC,Ze];apply aM;simp[hC,wi];refine⟨l.length-(i+1),by omega,?_⟩;refine aa.trim [6,5,0,1] [] 0 xr yA ⟨i+1,Y++⟨#[10]⟩,rfl,by omega,Vp,?_⟩;simp
   | .eM true nm al,OZ,Ug,hY,T1=>
    obtain⟨h1,h2,h3⟩:=Ug;have SP:=vC al h2 h3;simp only[ji,bf,ml,cons_append,nil_append] at OZ;have e5:(if true=true then (4:Int) else 3)=4:=rfl
    try rw[e5] at OZ
    apply aq;simp[hC,hi,OZ];apply aq;simp[hC,st];refine T.cut (λ s=>s=⟨[(6,I i),(5,.str Y),(0,.az (bP l) l.length),(1,.str HN)],[],0⟩) ?_ ?_
    .apply aq;simp[hC];apply T.block;apply aq;simp[hC];refine bg ?_;simp;apply aq;simp[hC];refine bg ?_;simp;apply aq;simp[hC];refine bg ?_;simp;apply aq;simp[hC];refine du ?_;simp;simp only[mf,jQ,Ru,ByteArray.size_append,if_true] at T1;have s0:=aB (y) (⟨#[103,111,32]⟩) Tp;have s1:=aB (y++⟨#[103,111,32]⟩) (nm) Tp;have s2:=aB (y++⟨#[103,111,32]⟩++nm) (vS al) Tp;have s3:=aB (y++⟨#[103,111,32]⟩++nm++vS al) (⟨#[59]⟩) Tp;refine T.rx af follows [0,1,2,3,4,5,6,7,8,9,10] [(3,7)] Bw ?_;simp[hC,s0,s1];refine RX.call rfl xr rfl rfl rfl SD (SP) ?_;simp[s2,s3];refine aa.trim [6,5,0,1] [] 0 xr yA ?_;simp[<- hY,mf,jQ,Ru,vS,ByteArray.append_assoc]
    rintro s rfl;apply aM;simp[hC,Ze];apply aM;simp[hC,wi];refine⟨l.length-(i+1),by omega,?_⟩;refine aa.trim [6,5,0,1] [] 0 xr yA ⟨i+1,Y++⟨#[10]⟩,rfl,by omega,Vp,?_⟩;simp
   | .dS false r,OZ,Ug,hY,T1=>
    have U6:=qQ r (show Rj r from Ug);obtain⟨rn,ri⟩:=r;obtain⟨q1,q2,hq⟩:∃ cs n,oL ri=.az cs n:=by cases ri<;>exact⟨_,_,rfl⟩
    simp only[mh,hq] at U6;simp only[ji,bf,mh,hq,cons_append,nil_append] at OZ;have e5:(if false=true then (6:Int) else 5)=5:=rfl
    try rw[e5] at OZ
    apply aq;simp[hC,hi,OZ];apply aq;simp[hC,st];refine T.cut (λ s=>s=⟨[(6,I i),(5,.str Y),(0,.az (bP l) l.length),(1,.str HN)],[],0⟩) ?_ ?_
    .apply aq;simp[hC];apply T.block;apply aq;simp[hC];refine bg ?_;simp;apply aq;simp[hC];refine bg ?_;simp;apply aq;simp[hC];refine bg ?_;simp;apply aq;simp[hC];refine bg ?_;simp;apply aq;simp[hC];refine du ?_;simp;simp only[mf,jQ,zd,pT,ByteArray.size_append] at T1
     try simp only[Bool.false_eq_true,if_false] at T1
     have s0:=aB (y) (⟨#[108,111,99,107,32]⟩) Tp;have s1:=aB (y++⟨#[108,111,99,107,32]⟩) (EC ⟨rn,ri⟩) Tp;have s2:=aB (y++⟨#[108,111,99,107,32]⟩++EC ⟨rn,ri⟩) (⟨#[59]⟩) Tp;apply aM;simp[hC,s0];refine cS SD (U6) ?_;simp[hC,s1,s2];refine aa.trim [6,5,0,1] [] 0 xr yA ?_;simp[<- hY,mf,jQ,zd,ByteArray.append_assoc]
    rintro s rfl;apply aM;simp[hC,Ze];apply aM;simp[hC,wi];refine⟨l.length-(i+1),by omega,?_⟩;refine aa.trim [6,5,0,1] [] 0 xr yA ⟨i+1,Y++⟨#[10]⟩,rfl,by omega,Vp,?_⟩;simp
   | .dS true r,OZ,Ug,hY,T1=>
    have U6:=qQ r (show Rj r from Ug);obtain⟨rn,ri⟩:=r;obtain⟨q1,q2,hq⟩:∃ cs n,oL ri=.az cs n:=by cases ri<;>exact⟨_,_,rfl⟩
    simp only[mh,hq] at U6;simp only[ji,bf,mh,hq,cons_append,nil_append] at OZ;have e5:(if true=true then (6:Int) else 5)=6:=rfl
    try rw[e5] at OZ
    apply aq;simp[hC,hi,OZ];apply aq;simp[hC,st];refine T.cut (λ s=>s=⟨[(6,I i),(5,.str Y),(0,.az (bP l) l.length),(1,.str HN)],[],0⟩) ?_ ?_
    .apply aq;simp[hC];apply T.block;apply aq;simp[hC];refine bg ?_;simp;apply aq;simp[hC];refine bg ?_;simp;apply aq;simp[hC];refine bg ?_;simp;apply aq;simp[hC];refine bg ?_;simp;apply aq;simp[hC];refine bg ?_;simp;apply aq;simp[hC];refine du ?_;simp;simp only[mf,jQ,zd,pT,ByteArray.size_append] at T1
     try simp only[if_true] at T1
     have s0:=aB (y) (⟨#[117,110,108,111,99,107,32]⟩) Tp;have s1:=aB (y++⟨#[117,110,108,111,99,107,32]⟩) (EC ⟨rn,ri⟩) Tp;have s2:=aB (y++⟨#[117,110,108,111,99,107,32]⟩++EC ⟨rn,ri⟩) (⟨#[59]⟩) Tp;apply aM;simp[hC,s0];refine cS SD (U6) ?_;simp[hC,s1,s2];refine aa.trim [6,5,0,1] [] 0 xr yA ?_;simp[<- hY,mf,jQ,pT,ByteArray.append_assoc]
    rintro s rfl;apply aM;simp[hC,Ze];apply aM;simp[hC,wi];refine⟨l.length-(i+1),by omega,?_⟩;refine aa.trim [6,5,0,1] [] 0 xr yA ⟨i+1,Y++⟨#[10]⟩,rfl,by omega,Vp,?_⟩;simp
   | .mL e th el,OZ,Ug,hY,T1=>
    obtain⟨⟨h2,h2z⟩,h3,h4⟩:=Ug;simp only[ji,bZ e,ml,eS,cons_append,nil_append] at OZ;rw[bZ e] at h2;apply aq;simp[hC,hi,OZ];apply aq;simp[hC,st];refine T.cut (λ s=>s=⟨[(6,I i),(5,.str Y),(0,.az (bP l) l.length),(1,.str HN)],[],0⟩) ?_ ?_
    .apply aq;simp[hC];apply T.block;by_cases SK:el.length=0
     .simp only[mf,Rt,sq,me,B5,sh,ByteArray.size_append,SK,if_true] at T1;apply aq;simp[hC];refine bg ?_;simp;apply aq;simp[hC];refine bg ?_;simp;apply aq;simp[hC];refine bg ?_;simp;apply aq;simp[hC];refine bg ?_;simp;apply aq;simp[hC];refine bg ?_;simp;apply aq;simp[hC];refine bg ?_;simp;apply aW;simp[hC];refine du ?_;simp;apply T.skip;simp;refine du ?_;simp;apply aq;simp[hC];refine T.cut (λ s=>s=⟨[(8,.str ⟨#[105,102,32]⟩),(7,.ax 0 0),(6,I i),(5,.str y),(0,.az (bP l) l.length),(1,.str HN)],[(0,⟨207,0,[I 7,.str ⟨#[]⟩,I e.op,I e.n,.str e.name,.az (e.args.flatMap bf) e.args.length,.str ⟨#[]⟩,.az [] 0,.az [] 0,.az (bP th) th.length,.az (bP el) el.length]⟩)],1⟩) ?_ ?_
      .apply aq;simp[hC];refine bg ?_;simp;apply T.skip;simp;refine aa.trim [8,7,6,5,0,1] [0] 1 xr yA ?_;simp
      rintro s rfl;have s0:=aB (y) (⟨#[105,102,32]⟩) Tp;have s1:=aB (y++⟨#[105,102,32]⟩) (jK e) Tp;have s2:=aB (y++⟨#[105,102,32]⟩++jK e) (⟨#[32,123,10]⟩) Tp;have s3:=aB (y++⟨#[105,102,32]⟩++jK e++⟨#[32,123,10]⟩) (j3 (HN++⟨#[9]⟩) th) Tp;have s4:=aB (y++⟨#[105,102,32]⟩++jK e++⟨#[32,123,10]⟩++j3 (HN++⟨#[9]⟩) th) (HN) Tp;have s5:=aB (y++⟨#[105,102,32]⟩++jK e++⟨#[32,123,10]⟩++j3 (HN++⟨#[9]⟩) th++HN) (⟨#[125]⟩) Tp;have s9:=aB HN ⟨#[9]⟩ yDj;apply T.seq;refine T.rx af follows [0,1,2,3,4,8,9,10,11,14,5,6,7,12,13,15,16,17] [(9,5)] Bw ?_;simp[hC,s0,s9];refine RX.call rfl xr rfl rfl rfl SD (h2) ?_;simp[s1,s2];refine RX.call rfl xr rfl rfl rfl SD (h3) ?_;simp[s3,s4,s5];have helb:¬ 0<el.length:=by omega
      apply aq;simp[hC,SK];refine bg ?_;simp;apply T.skip;simp;refine aa.trim [6,5,0,1] [] 0 xr yA ?_;simp[<- hY,mf,Rt,sq,me,sh,ByteArray.append_assoc,SK];exact (ByteArray.append_empty (b:=⟨#[125]⟩)).symm
     .simp only[mf,Rt,sq,me,B5,sh,ByteArray.size_append,SK,if_false] at T1;apply aq;simp[hC];refine bg ?_;simp;apply aq;simp[hC];refine bg ?_;simp;apply aq;simp[hC];refine bg ?_;simp;apply aq;simp[hC];refine bg ?_;simp;apply aq;simp[hC];refine bg ?_;simp;apply aq;simp[hC];refine bg ?_;simp;apply aW;simp[hC];refine du ?_;simp;apply T.skip;simp;refine du ?_;simp;apply aq;simp[hC];refine T.cut (λ s=>s=⟨[(8,.str ⟨#[105,102,32]⟩),(7,.ax 0 0),(6,I i),(5,.str y),(0,.az (bP l) l.length),(1,.str HN)],[(0,⟨207,0,[I 7,.str ⟨#[]⟩,I e.op,I e.n,.str e.name,.az (e.args.flatMap bf) e.args.length,.str ⟨#[]⟩,.az [] 0,.az [] 0,.az (bP th) th.length,.az (bP el) el.length]⟩)],1⟩) ?_ ?_
      .apply aq;simp[hC];refine bg ?_;simp;apply T.skip;simp;refine aa.trim [8,7,6,5,0,1] [0] 1 xr yA ?_;simp
      rintro s rfl;have s0:=aB (y) (⟨#[105,102,32]⟩) Tp;have s1:=aB (y++⟨#[105,102,32]⟩) (jK e) Tp;have s2:=aB (y++⟨#[105,102,32]⟩++jK e) (⟨#[32,123,10]⟩) Tp;have s3:=aB (y++⟨#[105,102,32]⟩++jK e++⟨#[32,123,10]⟩) (j3 (HN++⟨#[9]⟩) th) Tp;have s4:=aB (y++⟨#[105,102,32]⟩++jK e++⟨#[32,123,10]⟩++j3 (HN++⟨#[9]⟩) th) (HN) Tp;have s5:=aB (y++⟨#[105,102,32]⟩++jK e++⟨#[32,123,10]⟩++j3 (HN++⟨#[9]⟩) th++HN) (⟨#[125]⟩) Tp;have s9:=aB HN ⟨#[9]⟩ yDj;apply T.seq;refine T.rx af follows [0,1,2,3,4,8,9,10,11,14,5,6,7,12,13,15,16,17] [(9,5)] Bw ?_;simp[hC,s0,s9];refine RX.call rfl xr rfl rfl rfl SD (h2) ?_;simp[s1,s2];refine RX.call rfl xr rfl rfl rfl SD (h3) ?_;simp[s3,s4,s5];have r0:=aB (y++⟨#[105,102,32]⟩++jK e++⟨#[32,123,10]⟩++j3 (HN++⟨#[9]⟩) th++HN++⟨#[125]⟩) (⟨#[32,101,108,115,101,32,123,10]⟩) Tp;have r1:=aB (y++⟨#[105,102,32]⟩++jK e++⟨#[32,123,10]⟩++j3 (HN++⟨#[9]⟩) th++HN++⟨#[125]⟩++⟨#[32,101,108,115,101,32,123,10]⟩) (j3 (HN++⟨#[9]⟩) el) Tp;have r2:=aB (y++⟨#[105,102,32]⟩++jK e++⟨#[32,123,10]⟩++j3 (HN++⟨#[9]⟩) th++HN++⟨#[125]⟩++⟨#[32,101,108,115,101,32,123,10]⟩++j3 (HN++⟨#[9]⟩) el) (HN) Tp;have r3:=aB (y++⟨#[105,102,32]⟩++jK e++⟨#[32,123,10]⟩++j3 (HN++⟨#[9]⟩) th++HN++⟨#[125]⟩++⟨#[32,101,108,115,101,32,123,10]⟩++j3 (HN++⟨#[9]⟩) el++HN) (⟨#[125]⟩) Tp;have helb:0<el.length:=by omega
      apply aq;simp[hC,helb];refine du ?_;simp;apply aM;simp[hC,r0,s9];refine cS SD (h4) ?_;simp[hC,r1,r2,r3];refine aa.trim [6,5,0,1] [] 0 xr yA ?_;simp[<- hY,mf,Rt,sq,me,B5,sh,ByteArray.append_assoc,SK]
    rintro s rfl;apply aM;simp[hC,Ze];apply aM;simp[hC,wi];refine⟨l.length-(i+1),by omega,?_⟩;refine aa.trim [6,5,0,1] [] 0 xr yA ⟨i+1,Y++⟨#[10]⟩,rfl,by omega,Vp,?_⟩;simp
   | .cX e th,OZ,Ug,hY,T1=>
    obtain⟨⟨h2,h2z⟩,h3⟩:=Ug;simp only[ji,bZ e,ml,eS,cons_append,nil_append] at OZ;rw[bZ e] at h2;apply aq;simp[hC,hi,OZ];apply aq;simp[hC,st];refine T.cut (λ s=>s=⟨[(6,I i),(5,.str Y),(0,.az (bP l) l.length),(1,.str HN)],[],0⟩) ?_ ?_
    .apply aq;simp[hC];apply T.block;simp only[mf,An,sq,me,sh,ByteArray.size_append] at T1;apply aq;simp[hC];refine bg ?_;simp;apply aq;simp[hC];refine bg ?_;simp;apply aq;simp[hC];refine bg ?_;simp;apply aq;simp[hC];refine bg ?_;simp;apply aq;simp[hC];refine bg ?_;simp;apply aq;simp[hC];refine bg ?_;simp;apply aW;simp[hC];refine bg ?_;simp;apply aM;simp[hC];refine du ?_;simp;apply aq;simp[hC];refine T.cut (λ s=>s=⟨[(8,.str ⟨#[119,104,105,108,101,32]⟩),(7,.ax 0 0),(6,I i),(5,.str y),(0,.az (bP l) l.length),(1,.str HN)],[(0,⟨207,0,[I 8,.str ⟨#[]⟩,I e.op,I e.n,.str e.name,.az (e.args.flatMap bf) e.args.length,.str ⟨#[]⟩,.az [] 0,.az [] 0,.az (bP th) th.length,.az [] 0]⟩)],1⟩) ?_ ?_
     .apply aq;simp[hC];refine du ?_;simp;apply aM;simp[hC];refine aa.trim [8,7,6,5,0,1] [0] 1 xr yA ?_;simp
     rintro s rfl;have s0:=aB (y) (⟨#[119,104,105,108,101,32]⟩) Tp;have s1:=aB (y++⟨#[119,104,105,108,101,32]⟩) (jK e) Tp;have s2:=aB (y++⟨#[119,104,105,108,101,32]⟩++jK e) (⟨#[32,123,10]⟩) Tp;have s3:=aB (y++⟨#[119,104,105,108,101,32]⟩++jK e++⟨#[32,123,10]⟩) (j3 (HN++⟨#[9]⟩) th) Tp;have s4:=aB (y++⟨#[119,104,105,108,101,32]⟩++jK e++⟨#[32,123,10]⟩++j3 (HN++⟨#[9]⟩) th) (HN) Tp;have s5:=aB (y++⟨#[119,104,105,108,101,32]⟩++jK e++⟨#[32,123,10]⟩++j3 (HN++⟨#[9]⟩) th++HN) (⟨#[125]⟩) Tp;have s9:=aB HN ⟨#[9]⟩ yDj;apply T.seq;refine T.rx af follows [0,1,2,3,4,8,9,10,11,14,5,6,7,12,13,15,16,17] [(9,5)] Bw ?_;simp[hC,s0,s9];refine RX.call rfl xr rfl rfl rfl SD (h2) ?_;simp[s1,s2];refine RX.call rfl xr rfl rfl rfl SD (h3) ?_;simp[s3,s4,s5];apply aq;simp[hC];refine bg ?_;simp;apply T.skip;simp;refine aa.trim [6,5,0,1] [] 0 xr yA ?_;simp[<- hY,mf,An,sq,me,sh,ByteArray.append_assoc]
    rintro s rfl;apply aM;simp[hC,Ze];apply aM;simp[hC,wi];refine⟨l.length-(i+1),by omega,?_⟩;refine aa.trim [6,5,0,1] [] 0 xr yA ⟨i+1,Y++⟨#[10]⟩,rfl,by omega,Vp,?_⟩;simp
   | .kj,OZ,Ug,hY,T1=>
    simp only[ji,bf,ml,eS,cons_append,nil_append] at OZ;apply aq;simp[hC,hi,OZ];apply aq;simp[hC,st];refine T.cut (λ s=>s=⟨[(6,I i),(5,.str Y),(0,.az (bP l) l.length),(1,.str HN)],[],0⟩) ?_ ?_
    .apply aq;simp[hC];apply T.block;simp only[mf,MJ] at T1;have s0:=aB (y) (⟨#[114,101,116,117,114,110,59]⟩) Tp;apply aq;simp[hC];refine bg ?_;simp;apply aq;simp[hC];refine bg ?_;simp;apply aq;simp[hC];refine bg ?_;simp;apply aq;simp[hC];refine bg ?_;simp;apply aq;simp[hC];refine bg ?_;simp;apply aq;simp[hC];refine bg ?_;simp;apply aW;simp[hC];refine bg ?_;simp;apply aM;simp[hC];refine bg ?_;simp;apply aM;simp[hC,s0];refine aa.trim [6,5,0,1] [] 0 xr yA ?_;simp[<- hY,mf,MJ]
    rintro s rfl;apply aM;simp[hC,Ze];apply aM;simp[hC,wi];refine⟨l.length-(i+1),by omega,?_⟩;refine aa.trim [6,5,0,1] [] 0 xr yA ⟨i+1,Y++⟨#[10]⟩,rfl,by omega,Vp,?_⟩;simp
  .have Rz:i=l.length:=by omega
   rw[Rz,drop_length,j3] at hx;have hxX:x=X:=by rw[<- hx];exact (ByteArray.append_empty (b:=x)).symm
   subst hxX;apply aW;simp[hC,hi];refine bg ?_;simp;apply T.exit;simp;apply aq;simp[hC];apply T.ret;apply aa.here;simp[Tryz.results165]
end Go.Proofs.YtlkmbdfhdknlgaaGreat
