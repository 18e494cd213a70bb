/- lines. -/
import Derived.Test.YtnecpnjdonibmaaGreatZ31
namespace Go.Proofs.YtnecpnjdonibmaaGreat
open Go.Can Go.aP
def TxS (PI:ByteArray)(s:Sm):Prop:=match s with
 | .gA nm e=>nm.size≤100∧Np e
 | .hD nm e=>nm.size≤100∧Np e
 | .dI _ nm al=>nm.size≤100∧al.length≤1000∧∀ a∈al,TxA a
 | .di _ r=>No r
 | .kG e th el=>Np e∧ae Tryz.prog 262 [.az (bz th) th.length,.str (PI++⟨#[9]⟩)] (.str (iS (PI++⟨#[9]⟩) th))∧ae Tryz.prog 262 [.az (bz el) el.length,.str (PI++⟨#[9]⟩)] (.str (iS (PI++⟨#[9]⟩) el))
 | .cC e th=>Np e∧ae Tryz.prog 262 [.az (bz th) th.length,.str (PI++⟨#[9]⟩)] (.str (iS (PI++⟨#[9]⟩) th))
 | .jb=>True
def J129 (l:List Sm)(PI X:ByteArray)(n:Nat)(s:St):Prop:=∃ (i:Nat) (x:ByteArray),n=l.length-i∧i≤l.length∧x++iS PI (l.drop i)=X∧s=⟨[(6,I i),(5,.str x),(0,.az (bz l) l.length),(1,.str PI)],[],0⟩
set_option maxHeartbeats 8000000 in
theorem ug (l:List Sm)(PI:ByteArray)(ht:PI.size≤100)(hl:l.length≤100000)(hX:(iS PI l).size≤1000000)(h:∀ s∈l,TxS PI s):ae Tryz.prog 262 [.az (bz l) l.length,.str PI] (.str (iS PI l)):=by
 have Q7:=fun (i:Nat) (x:Sm) (h:l[i]? = some x)=>aO (f:=gM) (n:=11) jR (m:=l) h;rw[← mT] at Q7;obtain⟨X,hXe⟩:∃ X,iS PI l=X:=⟨_,rfl⟩;rw[hXe] at hX ⊢;refine ae.aM ah Tryz.func262 rfl PH (by simp[Tryz.ntmps262]) rfl fun C hC PN=>?_;rw[Tryz.ntmps262] at hC;apply aj;simp[hC];apply aj;simp[hC];apply aU;simp[hC];apply T.block;refine T.aJ (J129 l PI X) (n:=l.length) ?_ ?_
 ·refine aa.le (Le.env [6,5,0,1]) (aa.here ⟨0,⟨#[]⟩,by omega,by omega,?_,?_⟩)
  ·rw[List.drop_zero,hXe];exact ByteArray.empty_append
  ·simp
 ·rintro n s ⟨i,x,rfl,PJ,hx,rfl⟩;by_cases hi:i<l.length
  ·obtain⟨a,Qz⟩:∃ a,l[i]? = some a:=⟨l[i],List.getElem?_eq_getElem hi⟩;have PL:=Q7 i a Qz;have Rp:=h a (List.mem_of_getElem? Qz);have wi:=cE ((i:Int)+1) yA yA;have hd:l.drop i=a::l.drop (i+1):=by
    rw[List.drop_eq_getElem_cons hi,(List.getElem?_eq_some_iff.1 Qz).2]
   rw[hd,iS] at hx;have hz:x.size+(PI.size+(j7 PI a).size+tNl.size+(iS PI (l.drop (i+1))).size)=X.size:=by
    rw[← hx];simp only[ByteArray.size_append]
   have hq:tNl.size=1:=rfl;apply aU;simp[hC,hi];refine gQ ?_;simp;apply dZ;have st:=ax x PI yA;obtain⟨y,hy⟩:∃ y,x++PI=y:=⟨_,rfl⟩;have Y6:y.size=x.size+PI.size:=by rw[← hy,ByteArray.size_append]
   rw[hy] at st;obtain⟨Y,hY⟩:∃ Y,y++j7 PI a=Y:=⟨_,rfl⟩;have hYs:Y.size=y.size+(j7 PI a).size:=by rw[← hY,ByteArray.size_append]
   have Wn:=ax Y ⟨#[10]⟩ (by have:(⟨#[10]⟩:ByteArray).size=1:=rfl;omega);have Sw:Y++⟨#[10]⟩++iS PI (l.drop (i+1))=X:=by
    rw[← hx,← hY,← hy];simp only[ByteArray.append_assoc];rfl
   have Ra:y.size+(j7 PI a).size≤1000000:=by omega
   clear hz hx Y6 hYs
   match a,PL,Rp,hY,Ra with
   | .gA nm e,PL,Rp,hY,Ra=>
    obtain⟨h1,h2,h2z⟩:=Rp;simp only[gM,bU e,ke,List.cons_append,List.nil_append] at PL;rw[bU e] at h2;apply aj;simp[hC,hi,PL];apply aj;simp[hC,st];refine T.cut (fun s=>s=⟨[(6,I i),(5,.str Y),(0,.az (bz l) l.length),(1,.str PI)],[],0⟩) ?_ ?_
    ·apply aj;simp[hC];apply T.block;apply aj;simp[hC];refine fx ?_;simp;simp only[j7,y0,Ga,iF,ByteArray.size_append] at Ra;have s0:=ax (y) (⟨#[118,97,114,32]⟩) QE;have s1:=ax (y++⟨#[118,97,114,32]⟩) (nm) QE;have s2:=ax (y++⟨#[118,97,114,32]⟩++nm) (⟨#[32,61,32]⟩) QE;have s3:=ax (y++⟨#[118,97,114,32]⟩++nm++⟨#[32,61,32]⟩) (iv e) QE;have s4:=ax (y++⟨#[118,97,114,32]⟩++nm++⟨#[32,61,32]⟩++iv e) (⟨#[59]⟩) QE;refine T.rx ah follows [0,1,2,3,4,5,6,7,8,9,10,11] [(3,8)] PH ?_;simp[hC,s0,s1,s2];refine RX.call rfl zX rfl rfl rfl P2 (h2) ?_;simp[s3,s4];refine aa.trim [6,5,0,1] [] 0 zX yA ?_;simp[← hY,j7,y0,Ga,iF,ByteArray.append_assoc]
    rintro s rfl;apply aW;simp[hC,Wn];apply aW;simp[hC,wi];refine⟨l.length-(i+1),by omega,?_⟩;refine aa.trim [6,5,0,1] [] 0 zX yA ⟨i+1,Y++⟨#[10]⟩,rfl,by omega,Sw,?_⟩;simp
   | .hD nm e,PL,Rp,hY,Ra=>
    obtain⟨h1,h2,h2z⟩:=Rp;simp only[gM,bU e,ke,List.cons_append,List.nil_append] at PL;rw[bU e] at h2;apply aj;simp[hC,hi,PL];apply aj;simp[hC,st];refine T.cut (fun s=>s=⟨[(6,I i),(5,.str Y),(0,.az (bz l) l.length),(1,.str PI)],[],0⟩) ?_ ?_
    ·apply aj;simp[hC];apply T.block;apply aj;simp[hC];refine bh ?_;simp;apply aj;simp[hC];refine fx ?_;simp;simp only[j7,Ga,iF,ByteArray.size_append] at Ra;have s0:=ax (y) (nm) QE;have s1:=ax (y++nm) (⟨#[32,61,32]⟩) QE;have s2:=ax (y++nm++⟨#[32,61,32]⟩) (iv e) QE;have s3:=ax (y++nm++⟨#[32,61,32]⟩++iv e) (⟨#[59]⟩) QE;refine T.rx ah follows [0,1,2,3,4,5,6,7,8,9,10] [(2,7)] PH ?_;simp[hC,s0,s1];refine RX.call rfl zX rfl rfl rfl P2 (h2) ?_;simp[s2,s3];refine aa.trim [6,5,0,1] [] 0 zX yA ?_;simp[← hY,j7,Ga,iF,ByteArray.append_assoc]
    rintro s rfl;apply aW;simp[hC,Wn];apply aW;simp[hC,wi];refine⟨l.length-(i+1),by omega,?_⟩;refine aa.trim [6,5,0,1] [] 0 zX yA ⟨i+1,Y++⟨#[10]⟩,rfl,by omega,Sw,?_⟩;simp
   | .dI false nm al,PL,Rp,hY,Ra=>
    obtain⟨h1,h2,h3⟩:=Rp;have Qb:=qX al h2 h3;simp only[gM,bK,ke,List.cons_append,List.nil_append] at PL;have e5:(if false=true then (4:Int) else 3)=3:=rfl
    try rw[e5] at PL
    apply aj;simp[hC,hi,PL];apply aj;simp[hC,st];refine T.cut (fun s=>s=⟨[(6,I i),(5,.str Y),(0,.az (bz l) l.length),(1,.str PI)],[],0⟩) ?_ ?_
    ·apply aj;simp[hC];apply T.block;apply aj;simp[hC];refine bh ?_;simp;apply aj;simp[hC];refine bh ?_;simp;apply aj;simp[hC];refine fx ?_;simp;simp only[j7,iF,Nw,ByteArray.size_append] at Ra
     try simp only[Bool.false_eq_true,if_false] at Ra
     have s0:=ax (y) (nm) QE;have s1:=ax (y++nm) (rJ al) QE;have s2:=ax (y++nm++rJ al) (⟨#[59]⟩) QE;refine T.rx ah follows [0,1,2,3,4,5,6,7,8,9] [(2,6)] PH ?_;simp[hC,s0];refine RX.call rfl zX rfl rfl rfl P2 (Qb) ?_;simp[s1,s2];refine aa.trim [6,5,0,1] [] 0 zX yA ?_;simp[← hY,j7,iF,rJ,ByteArray.append_assoc]
    rintro s rfl;apply aW;simp[hC,Wn];apply aW;simp[hC,wi];refine⟨l.length-(i+1),by omega,?_⟩;refine aa.trim [6,5,0,1] [] 0 zX yA ⟨i+1,Y++⟨#[10]⟩,rfl,by omega,Sw,?_⟩;simp
   | .dI true nm al,PL,Rp,hY,Ra=>
    obtain⟨h1,h2,h3⟩:=Rp;have Qb:=qX al h2 h3;simp only[gM,bK,ke,List.cons_append,List.nil_append] at PL;have e5:(if true=true then (4:Int) else 3)=4:=rfl
    try rw[e5] at PL
    apply aj;simp[hC,hi,PL];apply aj;simp[hC,st];refine T.cut (fun s=>s=⟨[(6,I i),(5,.str Y),(0,.az (bz l) l.length),(1,.str PI)],[],0⟩) ?_ ?_
    ·apply aj;simp[hC];apply T.block;apply aj;simp[hC];refine bh ?_;simp;apply aj;simp[hC];refine bh ?_;simp;apply aj;simp[hC];refine bh ?_;simp;apply aj;simp[hC];refine fx ?_;simp;simp only[j7,iF,Nw,ByteArray.size_append,if_true] at Ra;have s0:=ax (y) (⟨#[103,111,32]⟩) QE;have s1:=ax (y++⟨#[103,111,32]⟩) (nm) QE;have s2:=ax (y++⟨#[103,111,32]⟩++nm) (rJ al) QE;have s3:=ax (y++⟨#[103,111,32]⟩++nm++rJ al) (⟨#[59]⟩) QE;refine T.rx ah follows [0,1,2,3,4,5,6,7,8,9,10] [(3,7)] PH ?_;simp[hC,s0,s1];refine RX.call rfl zX rfl rfl rfl P2 (Qb) ?_;simp[s2,s3];refine aa.trim [6,5,0,1] [] 0 zX yA ?_;simp[← hY,j7,iF,Nw,rJ,ByteArray.append_assoc]
    rintro s rfl;apply aW;simp[hC,Wn];apply aW;simp[hC,wi];refine⟨l.length-(i+1),by omega,?_⟩;refine aa.trim [6,5,0,1] [] 0 zX yA ⟨i+1,Y++⟨#[10]⟩,rfl,by omega,Sw,?_⟩;simp
   | .di false r,PL,Rp,hY,Ra=>
    have RT:=og r (show No r from Rp);obtain⟨rn,ri⟩:=r;obtain⟨q1,q2,hq⟩:∃ cs n,nV ri=.az cs n:=by cases ri<;>exact⟨_,_,rfl⟩
    simp only[j9,hq] at RT;simp only[gM,bK,j9,hq,List.cons_append,List.nil_append] at PL;have e5:(if false=true then (6:Int) else 5)=5:=rfl
    try rw[e5] at PL
    apply aj;simp[hC,hi,PL];apply aj;simp[hC,st];refine T.cut (fun s=>s=⟨[(6,I i),(5,.str Y),(0,.az (bz l) l.length),(1,.str PI)],[],0⟩) ?_ ?_
    ·apply aj;simp[hC];apply T.block;apply aj;simp[hC];refine bh ?_;simp;apply aj;simp[hC];refine bh ?_;simp;apply aj;simp[hC];refine bh ?_;simp;apply aj;simp[hC];refine bh ?_;simp;apply aj;simp[hC];refine fx ?_;simp;simp only[j7,iF,vD,mQ,ByteArray.size_append] at Ra
     try simp only[Bool.false_eq_true,if_false] at Ra
     have s0:=ax (y) (⟨#[108,111,99,107,32]⟩) QE;have s1:=ax (y++⟨#[108,111,99,107,32]⟩) (Bo ⟨rn,ri⟩) QE;have s2:=ax (y++⟨#[108,111,99,107,32]⟩++Bo ⟨rn,ri⟩) (⟨#[59]⟩) QE;apply aW;simp[hC,s0];refine dQ P2 (RT) ?_;simp[hC,s1,s2];refine aa.trim [6,5,0,1] [] 0 zX yA ?_;simp[← hY,j7,iF,vD,ByteArray.append_assoc]
    rintro s rfl;apply aW;simp[hC,Wn];apply aW;simp[hC,wi];refine⟨l.length-(i+1),by omega,?_⟩;refine aa.trim [6,5,0,1] [] 0 zX yA ⟨i+1,Y++⟨#[10]⟩,rfl,by omega,Sw,?_⟩;simp
   | .di true r,PL,Rp,hY,Ra=>
    have RT:=og r (show No r from Rp);obtain⟨rn,ri⟩:=r;obtain⟨q1,q2,hq⟩:∃ cs n,nV ri=.az cs n:=by cases ri<;>exact⟨_,_,rfl⟩
    simp only[j9,hq] at RT;simp only[gM,bK,j9,hq,List.cons_append,List.nil_append] at PL;have e5:(if true=true then (6:Int) else 5)=6:=rfl
    try rw[e5] at PL
    apply aj;simp[hC,hi,PL];apply aj;simp[hC,st];refine T.cut (fun s=>s=⟨[(6,I i),(5,.str Y),(0,.az (bz l) l.length),(1,.str PI)],[],0⟩) ?_ ?_
    ·apply aj;simp[hC];apply T.block;apply aj;simp[hC];refine bh ?_;simp;apply aj;simp[hC];refine bh ?_;simp;apply aj;simp[hC];refine bh ?_;simp;apply aj;simp[hC];refine bh ?_;simp;apply aj;simp[hC];refine bh ?_;simp;apply aj;simp[hC];refine fx ?_;simp;simp only[j7,iF,vD,mQ,ByteArray.size_append] at Ra
     try simp only[if_true] at Ra
     have s0:=ax (y) (⟨#[117,110,108,111,99,107,32]⟩) QE;have s1:=ax (y++⟨#[117,110,108,111,99,107,32]⟩) (Bo ⟨rn,ri⟩) QE;have s2:=ax (y++⟨#[117,110,108,111,99,107,32]⟩++Bo ⟨rn,ri⟩) (⟨#[59]⟩) QE;apply aW;simp[hC,s0];refine dQ P2 (RT) ?_;simp[hC,s1,s2];refine aa.trim [6,5,0,1] [] 0 zX yA ?_;simp[← hY,j7,iF,mQ,ByteArray.append_assoc]
    rintro s rfl;apply aW;simp[hC,Wn];apply aW;simp[hC,wi];refine⟨l.length-(i+1),by omega,?_⟩;refine aa.trim [6,5,0,1] [] 0 zX yA ⟨i+1,Y++⟨#[10]⟩,rfl,by omega,Sw,?_⟩;simp
   | .kG e th el,PL,Rp,hY,Ra=>
    obtain⟨⟨h2,h2z⟩,h3,h4⟩:=Rp;simp only[gM,bU e,ke,eS,List.cons_append,List.nil_append] at PL;rw[bU e] at h2;apply aj;simp[hC,hi,PL];apply aj;simp[hC,st];refine T.cut (fun s=>s=⟨[(6,I i),(5,.str Y),(0,.az (bz l) l.length),(1,.str PI)],[],0⟩) ?_ ?_
    ·apply aj;simp[hC];apply T.block;by_cases Qq:el.length=0
     ·simp only[j7,Nv,oT,j6,y4,oR,ByteArray.size_append,Qq,if_true] at Ra;apply aj;simp[hC];refine bh ?_;simp;apply aj;simp[hC];refine bh ?_;simp;apply aj;simp[hC];refine bh ?_;simp;apply aj;simp[hC];refine bh ?_;simp;apply aj;simp[hC];refine bh ?_;simp;apply aj;simp[hC];refine bh ?_;simp;apply aU;simp[hC];refine fx ?_;simp;apply T.skip;simp;refine fx ?_;simp;apply aj;simp[hC];refine T.cut (fun s=>s=⟨[(8,.str ⟨#[105,102,32]⟩),(7,.av 0 0),(6,I i),(5,.str y),(0,.az (bz l) l.length),(1,.str PI)],[(0,⟨265,0,[I 7,.str ⟨#[]⟩,I e.op,I e.n,.str e.name,.az (e.args.flatMap bK) e.args.length,.str ⟨#[]⟩,.az [] 0,.az [] 0,.az (bz th) th.length,.az (bz el) el.length]⟩)],1⟩) ?_ ?_
      ·apply aj;simp[hC];refine bh ?_;simp;apply T.skip;simp;refine aa.trim [8,7,6,5,0,1] [0] 1 zX yA ?_;simp
      rintro s rfl;have s0:=ax (y) (⟨#[105,102,32]⟩) QE;have s1:=ax (y++⟨#[105,102,32]⟩) (iv e) QE;have s2:=ax (y++⟨#[105,102,32]⟩++iv e) (⟨#[32,123,10]⟩) QE;have s3:=ax (y++⟨#[105,102,32]⟩++iv e++⟨#[32,123,10]⟩) (iS (PI++⟨#[9]⟩) th) QE;have s4:=ax (y++⟨#[105,102,32]⟩++iv e++⟨#[32,123,10]⟩++iS (PI++⟨#[9]⟩) th) (PI) QE;have s5:=ax (y++⟨#[105,102,32]⟩++iv e++⟨#[32,123,10]⟩++iS (PI++⟨#[9]⟩) th++PI) (⟨#[125]⟩) QE;have s9:=ax PI ⟨#[9]⟩ yCh;apply T.seq;refine T.rx ah follows [0,1,2,3,4,8,9,10,11,14,5,6,7,12,13,15,16,17] [(9,5)] PH ?_;simp[hC,s0,s9];refine RX.call rfl zX rfl rfl rfl P2 (h2) ?_;simp[s1,s2];refine RX.call rfl zX rfl rfl rfl P2 (h3) ?_;simp[s3,s4,s5];have helb:¬ 0<el.length:=by omega
      apply aj;simp[hC,Qq];refine bh ?_;simp;apply T.skip;simp;refine aa.trim [6,5,0,1] [] 0 zX yA ?_;simp[← hY,j7,Nv,oT,j6,oR,ByteArray.append_assoc,Qq];exact (ByteArray.append_empty (b:=⟨#[125]⟩)).symm
     ·simp only[j7,Nv,oT,j6,y4,oR,ByteArray.size_append,Qq,if_false] at Ra;apply aj;simp[hC];refine bh ?_;simp;apply aj;simp[hC];refine bh ?_;simp;apply aj;simp[hC];refine bh ?_;simp;apply aj;simp[hC];refine bh ?_;simp;apply aj;simp[hC];refine bh ?_;simp;apply aj;simp[hC];refine bh ?_;simp;apply aU;simp[hC];refine fx ?_;simp;apply T.skip;simp;refine fx ?_;simp;apply aj;simp[hC];refine T.cut (fun s=>s=⟨[(8,.str ⟨#[105,102,32]⟩),(7,.av 0 0),(6,I i),(5,.str y),(0,.az (bz l) l.length),(1,.str PI)],[(0,⟨265,0,[I 7,.str ⟨#[]⟩,I e.op,I e.n,.str e.name,.az (e.args.flatMap bK) e.args.length,.str ⟨#[]⟩,.az [] 0,.az [] 0,.az (bz th) th.length,.az (bz el) el.length]⟩)],1⟩) ?_ ?_
      ·apply aj;simp[hC];refine bh ?_;simp;apply T.skip;simp;refine aa.trim [8,7,6,5,0,1] [0] 1 zX yA ?_;simp
      rintro s rfl;have s0:=ax (y) (⟨#[105,102,32]⟩) QE;have s1:=ax (y++⟨#[105,102,32]⟩) (iv e) QE;have s2:=ax (y++⟨#[105,102,32]⟩++iv e) (⟨#[32,123,10]⟩) QE;have s3:=ax (y++⟨#[105,102,32]⟩++iv e++⟨#[32,123,10]⟩) (iS (PI++⟨#[9]⟩) th) QE;have s4:=ax (y++⟨#[105,102,32]⟩++iv e++⟨#[32,123,10]⟩++iS (PI++⟨#[9]⟩) th) (PI) QE;have s5:=ax (y++⟨#[105,102,32]⟩++iv e++⟨#[32,123,10]⟩++iS (PI++⟨#[9]⟩) th++PI) (⟨#[125]⟩) QE;have s9:=ax PI ⟨#[9]⟩ yCh;apply T.seq;refine T.rx ah follows [0,1,2,3,4,8,9,10,11,14,5,6,7,12,13,15,16,17] [(9,5)] PH ?_;simp[hC,s0,s9];refine RX.call rfl zX rfl rfl rfl P2 (h2) ?_;simp[s1,s2];refine RX.call rfl zX rfl rfl rfl P2 (h3) ?_;simp[s3,s4,s5];have r0:=ax (y++⟨#[105,102,32]⟩++iv e++⟨#[32,123,10]⟩++iS (PI++⟨#[9]⟩) th++PI++⟨#[125]⟩) (⟨#[32,101,108,115,101,32,123,10]⟩) QE;have r1:=ax (y++⟨#[105,102,32]⟩++iv e++⟨#[32,123,10]⟩++iS (PI++⟨#[9]⟩) th++PI++⟨#[125]⟩++⟨#[32,101,108,115,101,32,123,10]⟩) (iS (PI++⟨#[9]⟩) el) QE;have r2:=ax (y++⟨#[105,102,32]⟩++iv e++⟨#[32,123,10]⟩++iS (PI++⟨#[9]⟩) th++PI++⟨#[125]⟩++⟨#[32,101,108,115,101,32,123,10]⟩++iS (PI++⟨#[9]⟩) el) (PI) QE;have r3:=ax (y++⟨#[105,102,32]⟩++iv e++⟨#[32,123,10]⟩++iS (PI++⟨#[9]⟩) th++PI++⟨#[125]⟩++⟨#[32,101,108,115,101,32,123,10]⟩++iS (PI++⟨#[9]⟩) el++PI) (⟨#[125]⟩) QE;have helb:0<el.length:=by omega
      apply aj;simp[hC,helb];refine fx ?_;simp;apply aW;simp[hC,r0,s9];refine dQ P2 (h4) ?_;simp[hC,r1,r2,r3];refine aa.trim [6,5,0,1] [] 0 zX yA ?_;simp[← hY,j7,Nv,oT,j6,y4,oR,ByteArray.append_assoc,Qq]
    rintro s rfl;apply aW;simp[hC,Wn];apply aW;simp[hC,wi];refine⟨l.length-(i+1),by omega,?_⟩;refine aa.trim [6,5,0,1] [] 0 zX yA ⟨i+1,Y++⟨#[10]⟩,rfl,by omega,Sw,?_⟩;simp
   | .cC e th,PL,Rp,hY,Ra=>
    obtain⟨⟨h2,h2z⟩,h3⟩:=Rp;simp only[gM,bU e,ke,eS,List.cons_append,List.nil_append] at PL;rw[bU e] at h2;apply aj;simp[hC,hi,PL];apply aj;simp[hC,st];refine T.cut (fun s=>s=⟨[(6,I i),(5,.str Y),(0,.az (bz l) l.length),(1,.str PI)],[],0⟩) ?_ ?_
    ·apply aj;simp[hC];apply T.block;simp only[j7,xw,oT,j6,oR,ByteArray.size_append] at Ra;apply aj;simp[hC];refine bh ?_;simp;apply aj;simp[hC];refine bh ?_;simp;apply aj;simp[hC];refine bh ?_;simp;apply aj;simp[hC];refine bh ?_;simp;apply aj;simp[hC];refine bh ?_;simp;apply aj;simp[hC];refine bh ?_;simp;apply aU;simp[hC];refine bh ?_;simp;apply aW;simp[hC];refine fx ?_;simp;apply aj;simp[hC];refine T.cut (fun s=>s=⟨[(8,.str ⟨#[119,104,105,108,101,32]⟩),(7,.av 0 0),(6,I i),(5,.str y),(0,.az (bz l) l.length),(1,.str PI)],[(0,⟨265,0,[I 8,.str ⟨#[]⟩,I e.op,I e.n,.str e.name,.az (e.args.flatMap bK) e.args.length,.str ⟨#[]⟩,.az [] 0,.az [] 0,.az (bz th) th.length,.az [] 0]⟩)],1⟩) ?_ ?_
     ·apply aj;simp[hC];refine fx ?_;simp;apply aW;simp[hC];refine aa.trim [8,7,6,5,0,1] [0] 1 zX yA ?_;simp
     rintro s rfl;have s0:=ax (y) (⟨#[119,104,105,108,101,32]⟩) QE;have s1:=ax (y++⟨#[119,104,105,108,101,32]⟩) (iv e) QE;have s2:=ax (y++⟨#[119,104,105,108,101,32]⟩++iv e) (⟨#[32,123,10]⟩) QE;have s3:=ax (y++⟨#[119,104,105,108,101,32]⟩++iv e++⟨#[32,123,10]⟩) (iS (PI++⟨#[9]⟩) th) QE;have s4:=ax (y++⟨#[119,104,105,108,101,32]⟩++iv e++⟨#[32,123,10]⟩++iS (PI++⟨#[9]⟩) th) (PI) QE;have s5:=ax (y++⟨#[119,104,105,108,101,32]⟩++iv e++⟨#[32,123,10]⟩++iS (PI++⟨#[9]⟩) th++PI) (⟨#[125]⟩) QE;have s9:=ax PI ⟨#[9]⟩ yCh;apply T.seq;refine T.rx ah follows [0,1,2,3,4,8,9,10,11,14,5,6,7,12,13,15,16,17] [(9,5)] PH ?_;simp[hC,s0,s9];refine RX.call rfl zX rfl rfl rfl P2 (h2) ?_;simp[s1,s2];refine RX.call rfl zX rfl rfl rfl P2 (h3) ?_;simp[s3,s4,s5];apply aj;simp[hC];refine bh ?_;simp;apply T.skip;simp;refine aa.trim [6,5,0,1] [] 0 zX yA ?_;simp[← hY,j7,xw,oT,j6,oR,ByteArray.append_assoc]
    rintro s rfl;apply aW;simp[hC,Wn];apply aW;simp[hC,wi];refine⟨l.length-(i+1),by omega,?_⟩;refine aa.trim [6,5,0,1] [] 0 zX yA ⟨i+1,Y++⟨#[10]⟩,rfl,by omega,Sw,?_⟩;simp
   | .jb,PL,Rp,hY,Ra=>
    simp only[gM,bK,ke,eS,List.cons_append,List.nil_append] at PL;apply aj;simp[hC,hi,PL];apply aj;simp[hC,st];refine T.cut (fun s=>s=⟨[(6,I i),(5,.str Y),(0,.az (bz l) l.length),(1,.str PI)],[],0⟩) ?_ ?_
    ·apply aj;simp[hC];apply T.block;simp only[j7,Jc] at Ra;have s0:=ax (y) (⟨#[114,101,116,117,114,110,59]⟩) QE;apply aj;simp[hC];refine bh ?_;simp;apply aj;simp[hC];refine bh ?_;simp;apply aj;simp[hC];refine bh ?_;simp;apply aj;simp[hC];refine bh ?_;simp;apply aj;simp[hC];refine bh ?_;simp;apply aj;simp[hC];refine bh ?_;simp;apply aU;simp[hC];refine bh ?_;simp;apply aW;simp[hC];refine bh ?_;simp;apply aW;simp[hC,s0];refine aa.trim [6,5,0,1] [] 0 zX yA ?_;simp[← hY,j7,Jc]
    rintro s rfl;apply aW;simp[hC,Wn];apply aW;simp[hC,wi];refine⟨l.length-(i+1),by omega,?_⟩;refine aa.trim [6,5,0,1] [] 0 zX yA ⟨i+1,Y++⟨#[10]⟩,rfl,by omega,Sw,?_⟩;simp
  ·have PS:i=l.length:=by omega
   rw[PS,List.drop_length,iS] at hx;have hxX:x=X:=by rw[← hx];exact (ByteArray.append_empty (b:=x)).symm
   subst hxX;apply aU;simp[hC,hi];refine bh ?_;simp;apply T.exit;simp;apply aj;simp[hC];apply T.ret;apply aa.here;simp[Tryz.results262]
end Go.Proofs.YtnecpnjdonibmaaGreat
