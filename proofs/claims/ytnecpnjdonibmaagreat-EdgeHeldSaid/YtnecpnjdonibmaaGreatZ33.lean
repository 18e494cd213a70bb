/- lines. -/
import Derived.Test.YtnecpnjdonibmaaGreatZ32
namespace Go.Proofs.YtnecpnjdonibmaaGreat
open Go.Can Go.aP
def TxS (OW:ByteArray)(s:Sm):Prop:=match s with
 | .g6 nm e=>nm.size≤100∧NQ e
 | .iD nm e=>nm.size≤100∧NQ e
 | .ef _ nm al=>nm.size≤100∧al.length≤1000∧∀ a∈al,TxA a
 | .dA _ r=>NO r
 | .lE e th el=>NQ e∧af Tryz.prog 262 [.aA (bx th) th.length,.str (OW++⟨#[9]⟩)] (.str (jy (OW++⟨#[9]⟩) th))∧af Tryz.prog 262 [.aA (bx el) el.length,.str (OW++⟨#[9]⟩)] (.str (jy (OW++⟨#[9]⟩) el))
 | .cJ e th=>NQ e∧af Tryz.prog 262 [.aA (bx th) th.length,.str (OW++⟨#[9]⟩)] (.str (jy (OW++⟨#[9]⟩) th))
 | .jF=>True
def J129 (l:List Sm)(OW X:ByteArray)(n:Nat)(s:St):Prop:=∃ (i:Nat) (x:ByteArray),n=l.length-i∧i≤l.length∧x++jy OW (l.drop i)=X∧s=⟨[(6,I i),(5,.str x),(0,.aA (bx l) l.length),(1,.str OW)],[],0⟩
set_option maxHeartbeats 8000000 in
theorem vz (l:List Sm)(OW:ByteArray)(ht:OW.size≤100)(hl:l.length≤100000)(hX:(jy OW l).size≤1000000)(h:∀ s∈l,TxS OW s):af Tryz.prog 262 [.aA (bx l) l.length,.str OW] (.str (jy OW l)):=by
 have Qu:=fun (i:Nat) (x:Sm) (h:l[i]? = some x)=>aN (f:=ik) (n:=11) kE (m:=l) h;rw[← oE] at Qu;obtain⟨X,hXe⟩:∃ X,jy OW l=X:=⟨_,rfl⟩;rw[hXe] at hX ⊢;refine af.aK ai Tryz.func262 rfl OV (by simp[Tryz.ntmps262]) rfl fun C hC O0=>?_;rw[Tryz.ntmps262] at hC;apply aq;simp[hC];apply aq;simp[hC];apply aO;simp[hC];apply T.block;refine T.aH (J129 l OW X) (n:=l.length) ?_ ?_
 ·refine ae.le (Le.env [6,5,0,1]) (ae.here ⟨0,⟨#[]⟩,by omega,by omega,?_,?_⟩)
  ·rw[List.drop_zero,hXe];exact ByteArray.empty_append
  ·simp
 ·rintro n s ⟨i,x,rfl,OX,hx,rfl⟩;by_cases hi:i<l.length
  ·obtain⟨a,PS⟩:∃ a,l[i]? = some a:=⟨l[i],List.getElem?_eq_getElem hi⟩;have OZ:=Qu i a PS;have QI:=h a (List.mem_of_getElem? PS);have wi:=cC ((i:Int)+1) yA yA;have hd:l.drop i=a::l.drop (i+1):=by
    rw[List.drop_eq_getElem_cons hi,(List.getElem?_eq_some_iff.1 PS).2]
   rw[hd,jy] at hx;have hz:x.size+(OW.size+(kW OW a).size+tNl.size+(jy OW (l.drop (i+1))).size)=X.size:=by
    rw[← hx];simp only[ByteArray.size_append]
   have hq:tNl.size=1:=rfl;apply aO;simp[hC,hi];refine fB ?_;simp;apply ed;have st:=aB x OW yA;obtain⟨y,hy⟩:∃ y,x++OW=y:=⟨_,rfl⟩;have Ys:y.size=x.size+OW.size:=by rw[← hy,ByteArray.size_append]
   rw[hy] at st;obtain⟨Y,hY⟩:∃ Y,y++kW OW a=Y:=⟨_,rfl⟩;have hYs:Y.size=y.size+(kW OW a).size:=by rw[← hY,ByteArray.size_append]
   have VE:=aB Y ⟨#[10]⟩ (by have:(⟨#[10]⟩:ByteArray).size=1:=rfl;omega);have RI:Y++⟨#[10]⟩++jy OW (l.drop (i+1))=X:=by
    rw[← hx,← hY,← hy];simp only[ByteArray.append_assoc];rfl
   have Qw:y.size+(kW OW a).size≤1000000:=by omega
   clear hz hx Ys hYs
   match a,OZ,QI,hY,Qw with
   | .g6 nm e,OZ,QI,hY,Qw=>
    obtain⟨h1,h2,h2z⟩:=QI;simp only[ik,b9 e,k8,List.cons_append,List.nil_append] at OZ;rw[b9 e] at h2;apply aq;simp[hC,hi,OZ];apply aq;simp[hC,st];refine T.cut (fun s=>s=⟨[(6,I i),(5,.str Y),(0,.aA (bx l) l.length),(1,.str OW)],[],0⟩) ?_ ?_
    ·apply aq;simp[hC];apply T.block;apply aq;simp[hC];refine fE ?_;simp;simp only[kW,Am,G9,jh,ByteArray.size_append] at Qw;have s0:=aB (y) (⟨#[118,97,114,32]⟩) PX;have s1:=aB (y++⟨#[118,97,114,32]⟩) (nm) PX;have s2:=aB (y++⟨#[118,97,114,32]⟩++nm) (⟨#[32,61,32]⟩) PX;have s3:=aB (y++⟨#[118,97,114,32]⟩++nm++⟨#[32,61,32]⟩) (iY e) PX;have s4:=aB (y++⟨#[118,97,114,32]⟩++nm++⟨#[32,61,32]⟩++iY e) (⟨#[59]⟩) PX;refine T.rx ai follows [0,1,2,3,4,5,6,7,8,9,10,11] [(3,8)] OV ?_;simp[hC,s0,s1,s2];refine RX.call rfl OU rfl rfl rfl Pc (h2) ?_;simp[s3,s4];refine ae.trim [6,5,0,1] [] 0 OU yA ?_;simp[← hY,kW,Am,G9,jh,ByteArray.append_assoc]
    rintro s rfl;apply aV;simp[hC,VE];apply aV;simp[hC,wi];refine⟨l.length-(i+1),by omega,?_⟩;refine ae.trim [6,5,0,1] [] 0 OU yA ⟨i+1,Y++⟨#[10]⟩,rfl,by omega,RI,?_⟩;simp
   | .iD nm e,OZ,QI,hY,Qw=>
    obtain⟨h1,h2,h2z⟩:=QI;simp only[ik,b9 e,k8,List.cons_append,List.nil_append] at OZ;rw[b9 e] at h2;apply aq;simp[hC,hi,OZ];apply aq;simp[hC,st];refine T.cut (fun s=>s=⟨[(6,I i),(5,.str Y),(0,.aA (bx l) l.length),(1,.str OW)],[],0⟩) ?_ ?_
    ·apply aq;simp[hC];apply T.block;apply aq;simp[hC];refine a7 ?_;simp;apply aq;simp[hC];refine fE ?_;simp;simp only[kW,G9,jh,ByteArray.size_append] at Qw;have s0:=aB (y) (nm) PX;have s1:=aB (y++nm) (⟨#[32,61,32]⟩) PX;have s2:=aB (y++nm++⟨#[32,61,32]⟩) (iY e) PX;have s3:=aB (y++nm++⟨#[32,61,32]⟩++iY e) (⟨#[59]⟩) PX;refine T.rx ai follows [0,1,2,3,4,5,6,7,8,9,10] [(2,7)] OV ?_;simp[hC,s0,s1];refine RX.call rfl OU rfl rfl rfl Pc (h2) ?_;simp[s2,s3];refine ae.trim [6,5,0,1] [] 0 OU yA ?_;simp[← hY,kW,G9,jh,ByteArray.append_assoc]
    rintro s rfl;apply aV;simp[hC,VE];apply aV;simp[hC,wi];refine⟨l.length-(i+1),by omega,?_⟩;refine ae.trim [6,5,0,1] [] 0 OU yA ⟨i+1,Y++⟨#[10]⟩,rfl,by omega,RI,?_⟩;simp
   | .ef false nm al,OZ,QI,hY,Qw=>
    obtain⟨h1,h2,h3⟩:=QI;have Ps:=tf al h2 h3;simp only[ik,bR,k8,List.cons_append,List.nil_append] at OZ;have e5:(if false=true then (4:Int) else 3)=3:=rfl
    try rw[e5] at OZ
    apply aq;simp[hC,hi,OZ];apply aq;simp[hC,st];refine T.cut (fun s=>s=⟨[(6,I i),(5,.str Y),(0,.aA (bx l) l.length),(1,.str OW)],[],0⟩) ?_ ?_
    ·apply aq;simp[hC];apply T.block;apply aq;simp[hC];refine a7 ?_;simp;apply aq;simp[hC];refine a7 ?_;simp;apply aq;simp[hC];refine fE ?_;simp;simp only[kW,jh,NZ,ByteArray.size_append] at Qw
     try simp only[Bool.false_eq_true,if_false] at Qw
     have s0:=aB (y) (nm) PX;have s1:=aB (y++nm) (tM al) PX;have s2:=aB (y++nm++tM al) (⟨#[59]⟩) PX;refine T.rx ai follows [0,1,2,3,4,5,6,7,8,9] [(2,6)] OV ?_;simp[hC,s0];refine RX.call rfl OU rfl rfl rfl Pc (Ps) ?_;simp[s1,s2];refine ae.trim [6,5,0,1] [] 0 OU yA ?_;simp[← hY,kW,jh,tM,ByteArray.append_assoc]
    rintro s rfl;apply aV;simp[hC,VE];apply aV;simp[hC,wi];refine⟨l.length-(i+1),by omega,?_⟩;refine ae.trim [6,5,0,1] [] 0 OU yA ⟨i+1,Y++⟨#[10]⟩,rfl,by omega,RI,?_⟩;simp
   | .ef true nm al,OZ,QI,hY,Qw=>
    obtain⟨h1,h2,h3⟩:=QI;have Ps:=tf al h2 h3;simp only[ik,bR,k8,List.cons_append,List.nil_append] at OZ;have e5:(if true=true then (4:Int) else 3)=4:=rfl
    try rw[e5] at OZ
    apply aq;simp[hC,hi,OZ];apply aq;simp[hC,st];refine T.cut (fun s=>s=⟨[(6,I i),(5,.str Y),(0,.aA (bx l) l.length),(1,.str OW)],[],0⟩) ?_ ?_
    ·apply aq;simp[hC];apply T.block;apply aq;simp[hC];refine a7 ?_;simp;apply aq;simp[hC];refine a7 ?_;simp;apply aq;simp[hC];refine a7 ?_;simp;apply aq;simp[hC];refine fE ?_;simp;simp only[kW,jh,NZ,ByteArray.size_append,if_true] at Qw;have s0:=aB (y) (⟨#[103,111,32]⟩) PX;have s1:=aB (y++⟨#[103,111,32]⟩) (nm) PX;have s2:=aB (y++⟨#[103,111,32]⟩++nm) (tM al) PX;have s3:=aB (y++⟨#[103,111,32]⟩++nm++tM al) (⟨#[59]⟩) PX;refine T.rx ai follows [0,1,2,3,4,5,6,7,8,9,10] [(3,7)] OV ?_;simp[hC,s0,s1];refine RX.call rfl OU rfl rfl rfl Pc (Ps) ?_;simp[s2,s3];refine ae.trim [6,5,0,1] [] 0 OU yA ?_;simp[← hY,kW,jh,NZ,tM,ByteArray.append_assoc]
    rintro s rfl;apply aV;simp[hC,VE];apply aV;simp[hC,wi];refine⟨l.length-(i+1),by omega,?_⟩;refine ae.trim [6,5,0,1] [] 0 OU yA ⟨i+1,Y++⟨#[10]⟩,rfl,by omega,RI,?_⟩;simp
   | .dA false r,OZ,QI,hY,Qw=>
    have Ra:=pK r (show NO r from QI);obtain⟨rn,ri⟩:=r;obtain⟨q1,q2,hq⟩:∃ cs n,pv ri=.aA cs n:=by cases ri<;>exact⟨_,_,rfl⟩
    simp only[kY,hq] at Ra;simp only[ik,bR,kY,hq,List.cons_append,List.nil_append] at OZ;have e5:(if false=true then (6:Int) else 5)=5:=rfl
    try rw[e5] at OZ
    apply aq;simp[hC,hi,OZ];apply aq;simp[hC,st];refine T.cut (fun s=>s=⟨[(6,I i),(5,.str Y),(0,.aA (bx l) l.length),(1,.str OW)],[],0⟩) ?_ ?_
    ·apply aq;simp[hC];apply T.block;apply aq;simp[hC];refine a7 ?_;simp;apply aq;simp[hC];refine a7 ?_;simp;apply aq;simp[hC];refine a7 ?_;simp;apply aq;simp[hC];refine a7 ?_;simp;apply aq;simp[hC];refine fE ?_;simp;simp only[kW,jh,xp,oD,ByteArray.size_append] at Qw
     try simp only[Bool.false_eq_true,if_false] at Qw
     have s0:=aB (y) (⟨#[108,111,99,107,32]⟩) PX;have s1:=aB (y++⟨#[108,111,99,107,32]⟩) (Cq ⟨rn,ri⟩) PX;have s2:=aB (y++⟨#[108,111,99,107,32]⟩++Cq ⟨rn,ri⟩) (⟨#[59]⟩) PX;apply aV;simp[hC,s0];refine dz Pc (Ra) ?_;simp[hC,s1,s2];refine ae.trim [6,5,0,1] [] 0 OU yA ?_;simp[← hY,kW,jh,xp,ByteArray.append_assoc]
    rintro s rfl;apply aV;simp[hC,VE];apply aV;simp[hC,wi];refine⟨l.length-(i+1),by omega,?_⟩;refine ae.trim [6,5,0,1] [] 0 OU yA ⟨i+1,Y++⟨#[10]⟩,rfl,by omega,RI,?_⟩;simp
   | .dA true r,OZ,QI,hY,Qw=>
    have Ra:=pK r (show NO r from QI);obtain⟨rn,ri⟩:=r;obtain⟨q1,q2,hq⟩:∃ cs n,pv ri=.aA cs n:=by cases ri<;>exact⟨_,_,rfl⟩
    simp only[kY,hq] at Ra;simp only[ik,bR,kY,hq,List.cons_append,List.nil_append] at OZ;have e5:(if true=true then (6:Int) else 5)=6:=rfl
    try rw[e5] at OZ
    apply aq;simp[hC,hi,OZ];apply aq;simp[hC,st];refine T.cut (fun s=>s=⟨[(6,I i),(5,.str Y),(0,.aA (bx l) l.length),(1,.str OW)],[],0⟩) ?_ ?_
    ·apply aq;simp[hC];apply T.block;apply aq;simp[hC];refine a7 ?_;simp;apply aq;simp[hC];refine a7 ?_;simp;apply aq;simp[hC];refine a7 ?_;simp;apply aq;simp[hC];refine a7 ?_;simp;apply aq;simp[hC];refine a7 ?_;simp;apply aq;simp[hC];refine fE ?_;simp;simp only[kW,jh,xp,oD,ByteArray.size_append] at Qw
     try simp only[if_true] at Qw
     have s0:=aB (y) (⟨#[117,110,108,111,99,107,32]⟩) PX;have s1:=aB (y++⟨#[117,110,108,111,99,107,32]⟩) (Cq ⟨rn,ri⟩) PX;have s2:=aB (y++⟨#[117,110,108,111,99,107,32]⟩++Cq ⟨rn,ri⟩) (⟨#[59]⟩) PX;apply aV;simp[hC,s0];refine dz Pc (Ra) ?_;simp[hC,s1,s2];refine ae.trim [6,5,0,1] [] 0 OU yA ?_;simp[← hY,kW,jh,oD,ByteArray.append_assoc]
    rintro s rfl;apply aV;simp[hC,VE];apply aV;simp[hC,wi];refine⟨l.length-(i+1),by omega,?_⟩;refine ae.trim [6,5,0,1] [] 0 OU yA ⟨i+1,Y++⟨#[10]⟩,rfl,by omega,RI,?_⟩;simp
   | .lE e th el,OZ,QI,hY,Qw=>
    obtain⟨⟨h2,h2z⟩,h3,h4⟩:=QI;simp only[ik,b9 e,k8,eS,List.cons_append,List.nil_append] at OZ;rw[b9 e] at h2;apply aq;simp[hC,hi,OZ];apply aq;simp[hC,st];refine T.cut (fun s=>s=⟨[(6,I i),(5,.str Y),(0,.aA (bx l) l.length),(1,.str OW)],[],0⟩) ?_ ?_
    ·apply aq;simp[hC];apply T.block;by_cases PH:el.length=0
     ·simp only[kW,NY,qk,kU,Ao,qi,ByteArray.size_append,PH,if_true] at Qw;apply aq;simp[hC];refine a7 ?_;simp;apply aq;simp[hC];refine a7 ?_;simp;apply aq;simp[hC];refine a7 ?_;simp;apply aq;simp[hC];refine a7 ?_;simp;apply aq;simp[hC];refine a7 ?_;simp;apply aq;simp[hC];refine a7 ?_;simp;apply aO;simp[hC];refine fE ?_;simp;apply T.skip;simp;refine fE ?_;simp;apply aq;simp[hC];refine T.cut (fun s=>s=⟨[(8,.str ⟨#[105,102,32]⟩),(7,.ax 0 0),(6,I i),(5,.str y),(0,.aA (bx l) l.length),(1,.str OW)],[(0,⟨265,0,[I 7,.str ⟨#[]⟩,I e.op,I e.n,.str e.name,.aA (e.args.flatMap bR) e.args.length,.str ⟨#[]⟩,.aA [] 0,.aA [] 0,.aA (bx th) th.length,.aA (bx el) el.length]⟩)],1⟩) ?_ ?_
      ·apply aq;simp[hC];refine a7 ?_;simp;apply T.skip;simp;refine ae.trim [8,7,6,5,0,1] [0] 1 OU yA ?_;simp
      rintro s rfl;have s0:=aB (y) (⟨#[105,102,32]⟩) PX;have s1:=aB (y++⟨#[105,102,32]⟩) (iY e) PX;have s2:=aB (y++⟨#[105,102,32]⟩++iY e) (⟨#[32,123,10]⟩) PX;have s3:=aB (y++⟨#[105,102,32]⟩++iY e++⟨#[32,123,10]⟩) (jy (OW++⟨#[9]⟩) th) PX;have s4:=aB (y++⟨#[105,102,32]⟩++iY e++⟨#[32,123,10]⟩++jy (OW++⟨#[9]⟩) th) (OW) PX;have s5:=aB (y++⟨#[105,102,32]⟩++iY e++⟨#[32,123,10]⟩++jy (OW++⟨#[9]⟩) th++OW) (⟨#[125]⟩) PX;have s9:=aB OW ⟨#[9]⟩ yCn;apply T.seq;refine T.rx ai follows [0,1,2,3,4,8,9,10,11,14,5,6,7,12,13,15,16,17] [(9,5)] OV ?_;simp[hC,s0,s9];refine RX.call rfl OU rfl rfl rfl Pc (h2) ?_;simp[s1,s2];refine RX.call rfl OU rfl rfl rfl Pc (h3) ?_;simp[s3,s4,s5];have Zw:¬ 0<el.length:=by omega
      apply aq;simp[hC,PH];refine a7 ?_;simp;apply T.skip;simp;refine ae.trim [6,5,0,1] [] 0 OU yA ?_;simp[← hY,kW,NY,qk,kU,qi,ByteArray.append_assoc,PH];exact (ByteArray.append_empty (b:=⟨#[125]⟩)).symm
     ·simp only[kW,NY,qk,kU,Ao,qi,ByteArray.size_append,PH,if_false] at Qw;apply aq;simp[hC];refine a7 ?_;simp;apply aq;simp[hC];refine a7 ?_;simp;apply aq;simp[hC];refine a7 ?_;simp;apply aq;simp[hC];refine a7 ?_;simp;apply aq;simp[hC];refine a7 ?_;simp;apply aq;simp[hC];refine a7 ?_;simp;apply aO;simp[hC];refine fE ?_;simp;apply T.skip;simp;refine fE ?_;simp;apply aq;simp[hC];refine T.cut (fun s=>s=⟨[(8,.str ⟨#[105,102,32]⟩),(7,.ax 0 0),(6,I i),(5,.str y),(0,.aA (bx l) l.length),(1,.str OW)],[(0,⟨265,0,[I 7,.str ⟨#[]⟩,I e.op,I e.n,.str e.name,.aA (e.args.flatMap bR) e.args.length,.str ⟨#[]⟩,.aA [] 0,.aA [] 0,.aA (bx th) th.length,.aA (bx el) el.length]⟩)],1⟩) ?_ ?_
      ·apply aq;simp[hC];refine a7 ?_;simp;apply T.skip;simp;refine ae.trim [8,7,6,5,0,1] [0] 1 OU yA ?_;simp
      rintro s rfl;have s0:=aB (y) (⟨#[105,102,32]⟩) PX;have s1:=aB (y++⟨#[105,102,32]⟩) (iY e) PX;have s2:=aB (y++⟨#[105,102,32]⟩++iY e) (⟨#[32,123,10]⟩) PX;have s3:=aB (y++⟨#[105,102,32]⟩++iY e++⟨#[32,123,10]⟩) (jy (OW++⟨#[9]⟩) th) PX;have s4:=aB (y++⟨#[105,102,32]⟩++iY e++⟨#[32,123,10]⟩++jy (OW++⟨#[9]⟩) th) (OW) PX;have s5:=aB (y++⟨#[105,102,32]⟩++iY e++⟨#[32,123,10]⟩++jy (OW++⟨#[9]⟩) th++OW) (⟨#[125]⟩) PX;have s9:=aB OW ⟨#[9]⟩ yCn;apply T.seq;refine T.rx ai follows [0,1,2,3,4,8,9,10,11,14,5,6,7,12,13,15,16,17] [(9,5)] OV ?_;simp[hC,s0,s9];refine RX.call rfl OU rfl rfl rfl Pc (h2) ?_;simp[s1,s2];refine RX.call rfl OU rfl rfl rfl Pc (h3) ?_;simp[s3,s4,s5];have r0:=aB (y++⟨#[105,102,32]⟩++iY e++⟨#[32,123,10]⟩++jy (OW++⟨#[9]⟩) th++OW++⟨#[125]⟩) (⟨#[32,101,108,115,101,32,123,10]⟩) PX;have r1:=aB (y++⟨#[105,102,32]⟩++iY e++⟨#[32,123,10]⟩++jy (OW++⟨#[9]⟩) th++OW++⟨#[125]⟩++⟨#[32,101,108,115,101,32,123,10]⟩) (jy (OW++⟨#[9]⟩) el) PX;have r2:=aB (y++⟨#[105,102,32]⟩++iY e++⟨#[32,123,10]⟩++jy (OW++⟨#[9]⟩) th++OW++⟨#[125]⟩++⟨#[32,101,108,115,101,32,123,10]⟩++jy (OW++⟨#[9]⟩) el) (OW) PX;have r3:=aB (y++⟨#[105,102,32]⟩++iY e++⟨#[32,123,10]⟩++jy (OW++⟨#[9]⟩) th++OW++⟨#[125]⟩++⟨#[32,101,108,115,101,32,123,10]⟩++jy (OW++⟨#[9]⟩) el++OW) (⟨#[125]⟩) PX;have Zw:0<el.length:=by omega
      apply aq;simp[hC,Zw];refine fE ?_;simp;apply aV;simp[hC,r0,s9];refine dz Pc (h4) ?_;simp[hC,r1,r2,r3];refine ae.trim [6,5,0,1] [] 0 OU yA ?_;simp[← hY,kW,NY,qk,kU,Ao,qi,ByteArray.append_assoc,PH]
    rintro s rfl;apply aV;simp[hC,VE];apply aV;simp[hC,wi];refine⟨l.length-(i+1),by omega,?_⟩;refine ae.trim [6,5,0,1] [] 0 OU yA ⟨i+1,Y++⟨#[10]⟩,rfl,by omega,RI,?_⟩;simp
   | .cJ e th,OZ,QI,hY,Qw=>
    obtain⟨⟨h2,h2z⟩,h3⟩:=QI;simp only[ik,b9 e,k8,eS,List.cons_append,List.nil_append] at OZ;rw[b9 e] at h2;apply aq;simp[hC,hi,OZ];apply aq;simp[hC,st];refine T.cut (fun s=>s=⟨[(6,I i),(5,.str Y),(0,.aA (bx l) l.length),(1,.str OW)],[],0⟩) ?_ ?_
    ·apply aq;simp[hC];apply T.block;simp only[kW,yS,qk,kU,qi,ByteArray.size_append] at Qw;apply aq;simp[hC];refine a7 ?_;simp;apply aq;simp[hC];refine a7 ?_;simp;apply aq;simp[hC];refine a7 ?_;simp;apply aq;simp[hC];refine a7 ?_;simp;apply aq;simp[hC];refine a7 ?_;simp;apply aq;simp[hC];refine a7 ?_;simp;apply aO;simp[hC];refine a7 ?_;simp;apply aV;simp[hC];refine fE ?_;simp;apply aq;simp[hC];refine T.cut (fun s=>s=⟨[(8,.str ⟨#[119,104,105,108,101,32]⟩),(7,.ax 0 0),(6,I i),(5,.str y),(0,.aA (bx l) l.length),(1,.str OW)],[(0,⟨265,0,[I 8,.str ⟨#[]⟩,I e.op,I e.n,.str e.name,.aA (e.args.flatMap bR) e.args.length,.str ⟨#[]⟩,.aA [] 0,.aA [] 0,.aA (bx th) th.length,.aA [] 0]⟩)],1⟩) ?_ ?_
     ·apply aq;simp[hC];refine fE ?_;simp;apply aV;simp[hC];refine ae.trim [8,7,6,5,0,1] [0] 1 OU yA ?_;simp
     rintro s rfl;have s0:=aB (y) (⟨#[119,104,105,108,101,32]⟩) PX;have s1:=aB (y++⟨#[119,104,105,108,101,32]⟩) (iY e) PX;have s2:=aB (y++⟨#[119,104,105,108,101,32]⟩++iY e) (⟨#[32,123,10]⟩) PX;have s3:=aB (y++⟨#[119,104,105,108,101,32]⟩++iY e++⟨#[32,123,10]⟩) (jy (OW++⟨#[9]⟩) th) PX;have s4:=aB (y++⟨#[119,104,105,108,101,32]⟩++iY e++⟨#[32,123,10]⟩++jy (OW++⟨#[9]⟩) th) (OW) PX;have s5:=aB (y++⟨#[119,104,105,108,101,32]⟩++iY e++⟨#[32,123,10]⟩++jy (OW++⟨#[9]⟩) th++OW) (⟨#[125]⟩) PX;have s9:=aB OW ⟨#[9]⟩ yCn;apply T.seq;refine T.rx ai follows [0,1,2,3,4,8,9,10,11,14,5,6,7,12,13,15,16,17] [(9,5)] OV ?_;simp[hC,s0,s9];refine RX.call rfl OU rfl rfl rfl Pc (h2) ?_;simp[s1,s2];refine RX.call rfl OU rfl rfl rfl Pc (h3) ?_;simp[s3,s4,s5];apply aq;simp[hC];refine a7 ?_;simp;apply T.skip;simp;refine ae.trim [6,5,0,1] [] 0 OU yA ?_;simp[← hY,kW,yS,qk,kU,qi,ByteArray.append_assoc]
    rintro s rfl;apply aV;simp[hC,VE];apply aV;simp[hC,wi];refine⟨l.length-(i+1),by omega,?_⟩;refine ae.trim [6,5,0,1] [] 0 OU yA ⟨i+1,Y++⟨#[10]⟩,rfl,by omega,RI,?_⟩;simp
   | .jF,OZ,QI,hY,Qw=>
    simp only[ik,bR,k8,eS,List.cons_append,List.nil_append] at OZ;apply aq;simp[hC,hi,OZ];apply aq;simp[hC,st];refine T.cut (fun s=>s=⟨[(6,I i),(5,.str Y),(0,.aA (bx l) l.length),(1,.str OW)],[],0⟩) ?_ ?_
    ·apply aq;simp[hC];apply T.block;simp only[kW,JW] at Qw;have s0:=aB (y) (⟨#[114,101,116,117,114,110,59]⟩) PX;apply aq;simp[hC];refine a7 ?_;simp;apply aq;simp[hC];refine a7 ?_;simp;apply aq;simp[hC];refine a7 ?_;simp;apply aq;simp[hC];refine a7 ?_;simp;apply aq;simp[hC];refine a7 ?_;simp;apply aq;simp[hC];refine a7 ?_;simp;apply aO;simp[hC];refine a7 ?_;simp;apply aV;simp[hC];refine a7 ?_;simp;apply aV;simp[hC,s0];refine ae.trim [6,5,0,1] [] 0 OU yA ?_;simp[← hY,kW,JW]
    rintro s rfl;apply aV;simp[hC,VE];apply aV;simp[hC,wi];refine⟨l.length-(i+1),by omega,?_⟩;refine ae.trim [6,5,0,1] [] 0 OU yA ⟨i+1,Y++⟨#[10]⟩,rfl,by omega,RI,?_⟩;simp
  ·have O6:i=l.length:=by omega
   rw[O6,List.drop_length,jy] at hx;have hxX:x=X:=by rw[← hx];exact (ByteArray.append_empty (b:=x)).symm
   subst hxX;apply aO;simp[hC,hi];refine a7 ?_;simp;apply T.exit;simp;apply aq;simp[hC];apply T.ret;apply ae.here;simp[Tryz.results262]
end Go.Proofs.YtnecpnjdonibmaaGreat
