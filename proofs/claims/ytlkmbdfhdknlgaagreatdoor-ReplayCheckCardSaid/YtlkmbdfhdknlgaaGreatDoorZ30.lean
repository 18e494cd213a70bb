/- lines. -/
import Derived.Test.YtlkmbdfhdknlgaaGreatDoorZ29
namespace Go.Proofs.YtlkmbdfhdknlgaaGreatDoor
open Go.Can Go.aT
def TxS (m9:ByteArray)(s:Sm):Prop:=match s with
 | .fN nm e=>nm.size≤100∧IH e
 | .gz nm e=>nm.size≤100∧IH e
 | .dm _ nm al=>nm.size≤100∧al.length≤1000∧∀ a∈al,TxA a
 | .cR _ r=>IG r
 | .jS e th el=>IH e∧ae Tryz.prog 109 [.au (bh th) th.length,.str (m9++⟨#[9]⟩)] (.str (g6 (m9++⟨#[9]⟩) th))∧ae Tryz.prog 109 [.au (bh el) el.length,.str (m9++⟨#[9]⟩)] (.str (g6 (m9++⟨#[9]⟩) el))
 | .cb e th=>IH e∧ae Tryz.prog 109 [.au (bh th) th.length,.str (m9++⟨#[9]⟩)] (.str (g6 (m9++⟨#[9]⟩) th))
 | .ia=>True
def J129 (l:List Sm)(m9 X:ByteArray)(n:Nat)(s:St):Prop:=∃ (i:Nat) (x:ByteArray),n=l.length-i∧i≤l.length∧x++g6 m9 (l.drop i)=X∧s=⟨[(6,I i),(5,.str x),(0,.au (bh l) l.length),(1,.str m9)],[],0⟩
set_option maxHeartbeats 8000000 in
theorem rB (l:List Sm)(m9:ByteArray)(ht:m9.size≤100)(hl:l.length≤100000)(hX:(g6 m9 l).size≤1000000)(h:∀ s∈l,TxS m9 s):ae Tryz.prog 109 [.au (bh l) l.length,.str m9] (.str (g6 m9 l)):=by
 have K8:=fun (i:Nat) (x:Sm) (h:l[i]? = some x)=>az (f:=gk) (n:=11) jh (m:=l) h;rw[← lS] at K8;obtain⟨X,Yp⟩:∃ X,g6 m9 l=X:=⟨_,rfl⟩;rw[Yp] at hX ⊢;refine ae.aD af Tryz.func109 rfl lz (by simp[Tryz.ntmps109]) rfl fun C hC xJ=>?_;rw[Tryz.ntmps109] at hC;apply ah;simp[hC];apply ah;simp[hC];apply aL;simp[hC];apply T.block;refine T.aI (J129 l m9 X) (n:=l.length) ?_ ?_
 ·refine aa.le (Le.env [6,5,0,1]) (aa.here ⟨0,⟨#[]⟩,by omega,by omega,?_,?_⟩)
  ·rw[List.drop_zero,Yp];exact ByteArray.empty_append
  ·simp
 ·rintro n s ⟨i,x,rfl,nr,hx,rfl⟩;by_cases hi:i<l.length
  ·obtain⟨a,KH⟩:∃ a,l[i]? = some a:=⟨l[i],List.getElem?_eq_getElem hi⟩;have oy:=K8 i a KH;have Ln:=h a (List.mem_of_getElem? KH);have wi:=cm ((i:Int)+1) yA yA;have hd:l.drop i=a::l.drop (i+1):=by
    rw[List.drop_eq_getElem_cons hi,(List.getElem?_eq_some_iff.1 KH).2]
   rw[hd,g6] at hx;have hz:x.size+(m9.size+(ju m9 a).size+tNl.size+(g6 m9 (l.drop (i+1))).size)=X.size:=by
    rw[← hx];simp only[ByteArray.size_append]
   have hq:tNl.size=1:=rfl;apply aL;simp[hC,hi];refine gF ?_;simp;apply fw;have st:=aq x m9 yA;obtain⟨y,hy⟩:∃ y,x++m9=y:=⟨_,rfl⟩;have SF:y.size=x.size+m9.size:=by rw[← hy,ByteArray.size_append]
   rw[hy] at st;obtain⟨Y,hY⟩:∃ Y,y++ju m9 a=Y:=⟨_,rfl⟩;have Yo:Y.size=y.size+(ju m9 a).size:=by rw[← hY,ByteArray.size_append]
   have Qb:=aq Y ⟨#[10]⟩ (by have:(⟨#[10]⟩:ByteArray).size=1:=rfl;omega);have Lq:Y++⟨#[10]⟩++g6 m9 (l.drop (i+1))=X:=by
    rw[← hx,← hY,← hy];simp only[ByteArray.append_assoc];rfl
   have KP:y.size+(ju m9 a).size≤1000000:=by omega
   clear hz hx SF Yo
   match a,oy,Ln,hY,KP with
   | .fN nm e,oy,Ln,hY,KP=>
    obtain⟨h1,h2,Xd⟩:=Ln;simp only[gk,bJ e,jy,List.cons_append,List.nil_append] at oy;rw[bJ e] at h2;apply ah;simp[hC,hi,oy];apply ah;simp[hC,st];refine T.cut (fun s=>s=⟨[(6,I i),(5,.str Y),(0,.au (bh l) l.length),(1,.str m9)],[],0⟩) ?_ ?_
    ·apply ah;simp[hC];apply T.block;apply ah;simp[hC];refine cz ?_;simp;simp only[ju,vS,Cq,gQ,ByteArray.size_append] at KP;have s0:=aq (y) (⟨#[118,97,114,32]⟩) KI;have s1:=aq (y++⟨#[118,97,114,32]⟩) (nm) KI;have s2:=aq (y++⟨#[118,97,114,32]⟩++nm) (⟨#[32,61,32]⟩) KI;have s3:=aq (y++⟨#[118,97,114,32]⟩++nm++⟨#[32,61,32]⟩) (gJ e) KI;have s4:=aq (y++⟨#[118,97,114,32]⟩++nm++⟨#[32,61,32]⟩++gJ e) (⟨#[59]⟩) KI;refine T.rx af follows [0,1,2,3,4,5,6,7,8,9,10,11] [(3,8)] lz ?_;simp[hC,s0,s1,s2];refine RX.call rfl j5 rfl rfl rfl zK (h2) ?_;simp[s3,s4];refine aa.trim [6,5,0,1] [] 0 j5 yA ?_;simp[← hY,ju,vS,Cq,gQ,ByteArray.append_assoc]
    rintro s rfl;apply a8;simp[hC,Qb];apply a8;simp[hC,wi];refine⟨l.length-(i+1),by omega,?_⟩;refine aa.trim [6,5,0,1] [] 0 j5 yA ⟨i+1,Y++⟨#[10]⟩,rfl,by omega,Lq,?_⟩;simp
   | .gz nm e,oy,Ln,hY,KP=>
    obtain⟨h1,h2,Xd⟩:=Ln;simp only[gk,bJ e,jy,List.cons_append,List.nil_append] at oy;rw[bJ e] at h2;apply ah;simp[hC,hi,oy];apply ah;simp[hC,st];refine T.cut (fun s=>s=⟨[(6,I i),(5,.str Y),(0,.au (bh l) l.length),(1,.str m9)],[],0⟩) ?_ ?_
    ·apply ah;simp[hC];apply T.block;apply ah;simp[hC];refine aU ?_;simp;apply ah;simp[hC];refine cz ?_;simp;simp only[ju,Cq,gQ,ByteArray.size_append] at KP;have s0:=aq (y) (nm) KI;have s1:=aq (y++nm) (⟨#[32,61,32]⟩) KI;have s2:=aq (y++nm++⟨#[32,61,32]⟩) (gJ e) KI;have s3:=aq (y++nm++⟨#[32,61,32]⟩++gJ e) (⟨#[59]⟩) KI;refine T.rx af follows [0,1,2,3,4,5,6,7,8,9,10] [(2,7)] lz ?_;simp[hC,s0,s1];refine RX.call rfl j5 rfl rfl rfl zK (h2) ?_;simp[s2,s3];refine aa.trim [6,5,0,1] [] 0 j5 yA ?_;simp[← hY,ju,Cq,gQ,ByteArray.append_assoc]
    rintro s rfl;apply a8;simp[hC,Qb];apply a8;simp[hC,wi];refine⟨l.length-(i+1),by omega,?_⟩;refine aa.trim [6,5,0,1] [] 0 j5 yA ⟨i+1,Y++⟨#[10]⟩,rfl,by omega,Lq,?_⟩;simp
   | .dm false nm al,oy,Ln,hY,KP=>
    obtain⟨h1,h2,h3⟩:=Ln;have Kj:=pY al h2 h3;simp only[gk,bC,jy,List.cons_append,List.nil_append] at oy;have e5:(if false=true then (4:Int) else 3)=3:=rfl
    try rw[e5] at oy
    apply ah;simp[hC,hi,oy];apply ah;simp[hC,st];refine T.cut (fun s=>s=⟨[(6,I i),(5,.str Y),(0,.au (bh l) l.length),(1,.str m9)],[],0⟩) ?_ ?_
    ·apply ah;simp[hC];apply T.block;apply ah;simp[hC];refine aU ?_;simp;apply ah;simp[hC];refine aU ?_;simp;apply ah;simp[hC];refine cz ?_;simp;simp only[ju,gQ,IU,ByteArray.size_append] at KP
     try simp only[Bool.false_eq_true,if_false] at KP
     have s0:=aq (y) (nm) KI;have s1:=aq (y++nm) (qe al) KI;have s2:=aq (y++nm++qe al) (⟨#[59]⟩) KI;refine T.rx af follows [0,1,2,3,4,5,6,7,8,9] [(2,6)] lz ?_;simp[hC,s0];refine RX.call rfl j5 rfl rfl rfl zK (Kj) ?_;simp[s1,s2];refine aa.trim [6,5,0,1] [] 0 j5 yA ?_;simp[← hY,ju,gQ,qe,ByteArray.append_assoc]
    rintro s rfl;apply a8;simp[hC,Qb];apply a8;simp[hC,wi];refine⟨l.length-(i+1),by omega,?_⟩;refine aa.trim [6,5,0,1] [] 0 j5 yA ⟨i+1,Y++⟨#[10]⟩,rfl,by omega,Lq,?_⟩;simp
   | .dm true nm al,oy,Ln,hY,KP=>
    obtain⟨h1,h2,h3⟩:=Ln;have Kj:=pY al h2 h3;simp only[gk,bC,jy,List.cons_append,List.nil_append] at oy;have e5:(if true=true then (4:Int) else 3)=4:=rfl
    try rw[e5] at oy
    apply ah;simp[hC,hi,oy];apply ah;simp[hC,st];refine T.cut (fun s=>s=⟨[(6,I i),(5,.str Y),(0,.au (bh l) l.length),(1,.str m9)],[],0⟩) ?_ ?_
    ·apply ah;simp[hC];apply T.block;apply ah;simp[hC];refine aU ?_;simp;apply ah;simp[hC];refine aU ?_;simp;apply ah;simp[hC];refine aU ?_;simp;apply ah;simp[hC];refine cz ?_;simp;simp only[ju,gQ,IU,ByteArray.size_append,if_true] at KP;have s0:=aq (y) (⟨#[103,111,32]⟩) KI;have s1:=aq (y++⟨#[103,111,32]⟩) (nm) KI;have s2:=aq (y++⟨#[103,111,32]⟩++nm) (qe al) KI;have s3:=aq (y++⟨#[103,111,32]⟩++nm++qe al) (⟨#[59]⟩) KI;refine T.rx af follows [0,1,2,3,4,5,6,7,8,9,10] [(3,7)] lz ?_;simp[hC,s0,s1];refine RX.call rfl j5 rfl rfl rfl zK (Kj) ?_;simp[s2,s3];refine aa.trim [6,5,0,1] [] 0 j5 yA ?_;simp[← hY,ju,gQ,IU,qe,ByteArray.append_assoc]
    rintro s rfl;apply a8;simp[hC,Qb];apply a8;simp[hC,wi];refine⟨l.length-(i+1),by omega,?_⟩;refine aa.trim [6,5,0,1] [] 0 j5 yA ⟨i+1,Y++⟨#[10]⟩,rfl,by omega,Lq,?_⟩;simp
   | .cR false r,oy,Ln,hY,KP=>
    have LQ:=mS r (show IG r from Ln);obtain⟨rn,ri⟩:=r;obtain⟨q1,q2,hq⟩:∃ cs n,mK ri=.au cs n:=by cases ri<;>exact⟨_,_,rfl⟩
    simp only[jw,hq] at LQ;simp only[gk,bC,jw,hq,List.cons_append,List.nil_append] at oy;have e5:(if false=true then (6:Int) else 5)=5:=rfl
    try rw[e5] at oy
    apply ah;simp[hC,hi,oy];apply ah;simp[hC,st];refine T.cut (fun s=>s=⟨[(6,I i),(5,.str Y),(0,.au (bh l) l.length),(1,.str m9)],[],0⟩) ?_ ?_
    ·apply ah;simp[hC];apply T.block;apply ah;simp[hC];refine aU ?_;simp;apply ah;simp[hC];refine aU ?_;simp;apply ah;simp[hC];refine aU ?_;simp;apply ah;simp[hC];refine aU ?_;simp;apply ah;simp[hC];refine cz ?_;simp;simp only[ju,gQ,sX,lR,ByteArray.size_append] at KP
     try simp only[Bool.false_eq_true,if_false] at KP
     have s0:=aq (y) (⟨#[108,111,99,107,32]⟩) KI;have s1:=aq (y++⟨#[108,111,99,107,32]⟩) (yL ⟨rn,ri⟩) KI;have s2:=aq (y++⟨#[108,111,99,107,32]⟩++yL ⟨rn,ri⟩) (⟨#[59]⟩) KI;apply a8;simp[hC,s0];refine dk zK (LQ) ?_;simp[hC,s1,s2];refine aa.trim [6,5,0,1] [] 0 j5 yA ?_;simp[← hY,ju,gQ,sX,ByteArray.append_assoc]
    rintro s rfl;apply a8;simp[hC,Qb];apply a8;simp[hC,wi];refine⟨l.length-(i+1),by omega,?_⟩;refine aa.trim [6,5,0,1] [] 0 j5 yA ⟨i+1,Y++⟨#[10]⟩,rfl,by omega,Lq,?_⟩;simp
   | .cR true r,oy,Ln,hY,KP=>
    have LQ:=mS r (show IG r from Ln);obtain⟨rn,ri⟩:=r;obtain⟨q1,q2,hq⟩:∃ cs n,mK ri=.au cs n:=by cases ri<;>exact⟨_,_,rfl⟩
    simp only[jw,hq] at LQ;simp only[gk,bC,jw,hq,List.cons_append,List.nil_append] at oy;have e5:(if true=true then (6:Int) else 5)=6:=rfl
    try rw[e5] at oy
    apply ah;simp[hC,hi,oy];apply ah;simp[hC,st];refine T.cut (fun s=>s=⟨[(6,I i),(5,.str Y),(0,.au (bh l) l.length),(1,.str m9)],[],0⟩) ?_ ?_
    ·apply ah;simp[hC];apply T.block;apply ah;simp[hC];refine aU ?_;simp;apply ah;simp[hC];refine aU ?_;simp;apply ah;simp[hC];refine aU ?_;simp;apply ah;simp[hC];refine aU ?_;simp;apply ah;simp[hC];refine aU ?_;simp;apply ah;simp[hC];refine cz ?_;simp;simp only[ju,gQ,sX,lR,ByteArray.size_append] at KP
     try simp only[if_true] at KP
     have s0:=aq (y) (⟨#[117,110,108,111,99,107,32]⟩) KI;have s1:=aq (y++⟨#[117,110,108,111,99,107,32]⟩) (yL ⟨rn,ri⟩) KI;have s2:=aq (y++⟨#[117,110,108,111,99,107,32]⟩++yL ⟨rn,ri⟩) (⟨#[59]⟩) KI;apply a8;simp[hC,s0];refine dk zK (LQ) ?_;simp[hC,s1,s2];refine aa.trim [6,5,0,1] [] 0 j5 yA ?_;simp[← hY,ju,gQ,lR,ByteArray.append_assoc]
    rintro s rfl;apply a8;simp[hC,Qb];apply a8;simp[hC,wi];refine⟨l.length-(i+1),by omega,?_⟩;refine aa.trim [6,5,0,1] [] 0 j5 yA ⟨i+1,Y++⟨#[10]⟩,rfl,by omega,Lq,?_⟩;simp
   | .jS e th el,oy,Ln,hY,KP=>
    obtain⟨⟨h2,Xd⟩,h3,h4⟩:=Ln;simp only[gk,bJ e,jy,eS,List.cons_append,List.nil_append] at oy;rw[bJ e] at h2;apply ah;simp[hC,hi,oy];apply ah;simp[hC,st];refine T.cut (fun s=>s=⟨[(6,I i),(5,.str Y),(0,.au (bh l) l.length),(1,.str m9)],[],0⟩) ?_ ?_
    ·apply ah;simp[hC];apply T.block;by_cases Ki:el.length=0
     ·simp only[ju,IT,nQ,jt,vU,nN,ByteArray.size_append,Ki,if_true] at KP;apply ah;simp[hC];refine aU ?_;simp;apply ah;simp[hC];refine aU ?_;simp;apply ah;simp[hC];refine aU ?_;simp;apply ah;simp[hC];refine aU ?_;simp;apply ah;simp[hC];refine aU ?_;simp;apply ah;simp[hC];refine aU ?_;simp;apply aL;simp[hC];refine cz ?_;simp;apply T.skip;simp;refine cz ?_;simp;apply ah;simp[hC];refine T.cut (fun s=>s=⟨[(8,.str ⟨#[105,102,32]⟩),(7,.ai 0 0),(6,I i),(5,.str y),(0,.au (bh l) l.length),(1,.str m9)],[(0,⟨170,0,[I 7,.str ⟨#[]⟩,I e.op,I e.n,.str e.name,.au (e.args.flatMap bC) e.args.length,.str ⟨#[]⟩,.au [] 0,.au [] 0,.au (bh th) th.length,.au (bh el) el.length]⟩)],1⟩) ?_ ?_
      ·apply ah;simp[hC];refine aU ?_;simp;apply T.skip;simp;refine aa.trim [8,7,6,5,0,1] [0] 1 j5 yA ?_;simp
      rintro s rfl;have s0:=aq (y) (⟨#[105,102,32]⟩) KI;have s1:=aq (y++⟨#[105,102,32]⟩) (gJ e) KI;have s2:=aq (y++⟨#[105,102,32]⟩++gJ e) (⟨#[32,123,10]⟩) KI;have s3:=aq (y++⟨#[105,102,32]⟩++gJ e++⟨#[32,123,10]⟩) (g6 (m9++⟨#[9]⟩) th) KI;have s4:=aq (y++⟨#[105,102,32]⟩++gJ e++⟨#[32,123,10]⟩++g6 (m9++⟨#[9]⟩) th) (m9) KI;have s5:=aq (y++⟨#[105,102,32]⟩++gJ e++⟨#[32,123,10]⟩++g6 (m9++⟨#[9]⟩) th++m9) (⟨#[125]⟩) KI;have s9:=aq m9 ⟨#[9]⟩ UY;apply T.seq;refine T.rx af follows [0,1,2,3,4,8,9,10,11,14,5,6,7,12,13,15,16,17] [(9,5)] lz ?_;simp[hC,s0,s9];refine RX.call rfl j5 rfl rfl rfl zK (h2) ?_;simp[s1,s2];refine RX.call rfl j5 rfl rfl rfl zK (h3) ?_;simp[s3,s4,s5];have TK:¬ 0<el.length:=by omega
      apply ah;simp[hC,Ki];refine aU ?_;simp;apply T.skip;simp;refine aa.trim [6,5,0,1] [] 0 j5 yA ?_;simp[← hY,ju,IT,nQ,jt,nN,ByteArray.append_assoc,Ki];exact (ByteArray.append_empty (b:=⟨#[125]⟩)).symm
     ·simp only[ju,IT,nQ,jt,vU,nN,ByteArray.size_append,Ki,if_false] at KP;apply ah;simp[hC];refine aU ?_;simp;apply ah;simp[hC];refine aU ?_;simp;apply ah;simp[hC];refine aU ?_;simp;apply ah;simp[hC];refine aU ?_;simp;apply ah;simp[hC];refine aU ?_;simp;apply ah;simp[hC];refine aU ?_;simp;apply aL;simp[hC];refine cz ?_;simp;apply T.skip;simp;refine cz ?_;simp;apply ah;simp[hC];refine T.cut (fun s=>s=⟨[(8,.str ⟨#[105,102,32]⟩),(7,.ai 0 0),(6,I i),(5,.str y),(0,.au (bh l) l.length),(1,.str m9)],[(0,⟨170,0,[I 7,.str ⟨#[]⟩,I e.op,I e.n,.str e.name,.au (e.args.flatMap bC) e.args.length,.str ⟨#[]⟩,.au [] 0,.au [] 0,.au (bh th) th.length,.au (bh el) el.length]⟩)],1⟩) ?_ ?_
      ·apply ah;simp[hC];refine aU ?_;simp;apply T.skip;simp;refine aa.trim [8,7,6,5,0,1] [0] 1 j5 yA ?_;simp
      rintro s rfl;have s0:=aq (y) (⟨#[105,102,32]⟩) KI;have s1:=aq (y++⟨#[105,102,32]⟩) (gJ e) KI;have s2:=aq (y++⟨#[105,102,32]⟩++gJ e) (⟨#[32,123,10]⟩) KI;have s3:=aq (y++⟨#[105,102,32]⟩++gJ e++⟨#[32,123,10]⟩) (g6 (m9++⟨#[9]⟩) th) KI;have s4:=aq (y++⟨#[105,102,32]⟩++gJ e++⟨#[32,123,10]⟩++g6 (m9++⟨#[9]⟩) th) (m9) KI;have s5:=aq (y++⟨#[105,102,32]⟩++gJ e++⟨#[32,123,10]⟩++g6 (m9++⟨#[9]⟩) th++m9) (⟨#[125]⟩) KI;have s9:=aq m9 ⟨#[9]⟩ UY;apply T.seq;refine T.rx af follows [0,1,2,3,4,8,9,10,11,14,5,6,7,12,13,15,16,17] [(9,5)] lz ?_;simp[hC,s0,s9];refine RX.call rfl j5 rfl rfl rfl zK (h2) ?_;simp[s1,s2];refine RX.call rfl j5 rfl rfl rfl zK (h3) ?_;simp[s3,s4,s5];have r0:=aq (y++⟨#[105,102,32]⟩++gJ e++⟨#[32,123,10]⟩++g6 (m9++⟨#[9]⟩) th++m9++⟨#[125]⟩) (⟨#[32,101,108,115,101,32,123,10]⟩) KI;have r1:=aq (y++⟨#[105,102,32]⟩++gJ e++⟨#[32,123,10]⟩++g6 (m9++⟨#[9]⟩) th++m9++⟨#[125]⟩++⟨#[32,101,108,115,101,32,123,10]⟩) (g6 (m9++⟨#[9]⟩) el) KI;have r2:=aq (y++⟨#[105,102,32]⟩++gJ e++⟨#[32,123,10]⟩++g6 (m9++⟨#[9]⟩) th++m9++⟨#[125]⟩++⟨#[32,101,108,115,101,32,123,10]⟩++g6 (m9++⟨#[9]⟩) el) (m9) KI;have r3:=aq (y++⟨#[105,102,32]⟩++gJ e++⟨#[32,123,10]⟩++g6 (m9++⟨#[9]⟩) th++m9++⟨#[125]⟩++⟨#[32,101,108,115,101,32,123,10]⟩++g6 (m9++⟨#[9]⟩) el++m9) (⟨#[125]⟩) KI;have TK:0<el.length:=by omega
      apply ah;simp[hC,TK];refine cz ?_;simp;apply a8;simp[hC,r0,s9];refine dk zK (h4) ?_;simp[hC,r1,r2,r3];refine aa.trim [6,5,0,1] [] 0 j5 yA ?_;simp[← hY,ju,IT,nQ,jt,vU,nN,ByteArray.append_assoc,Ki]
    rintro s rfl;apply a8;simp[hC,Qb];apply a8;simp[hC,wi];refine⟨l.length-(i+1),by omega,?_⟩;refine aa.trim [6,5,0,1] [] 0 j5 yA ⟨i+1,Y++⟨#[10]⟩,rfl,by omega,Lq,?_⟩;simp
   | .cb e th,oy,Ln,hY,KP=>
    obtain⟨⟨h2,Xd⟩,h3⟩:=Ln;simp only[gk,bJ e,jy,eS,List.cons_append,List.nil_append] at oy;rw[bJ e] at h2;apply ah;simp[hC,hi,oy];apply ah;simp[hC,st];refine T.cut (fun s=>s=⟨[(6,I i),(5,.str Y),(0,.au (bh l) l.length),(1,.str m9)],[],0⟩) ?_ ?_
    ·apply ah;simp[hC];apply T.block;simp only[ju,uy,nQ,jt,nN,ByteArray.size_append] at KP;apply ah;simp[hC];refine aU ?_;simp;apply ah;simp[hC];refine aU ?_;simp;apply ah;simp[hC];refine aU ?_;simp;apply ah;simp[hC];refine aU ?_;simp;apply ah;simp[hC];refine aU ?_;simp;apply ah;simp[hC];refine aU ?_;simp;apply aL;simp[hC];refine aU ?_;simp;apply a8;simp[hC];refine cz ?_;simp;apply ah;simp[hC];refine T.cut (fun s=>s=⟨[(8,.str ⟨#[119,104,105,108,101,32]⟩),(7,.ai 0 0),(6,I i),(5,.str y),(0,.au (bh l) l.length),(1,.str m9)],[(0,⟨170,0,[I 8,.str ⟨#[]⟩,I e.op,I e.n,.str e.name,.au (e.args.flatMap bC) e.args.length,.str ⟨#[]⟩,.au [] 0,.au [] 0,.au (bh th) th.length,.au [] 0]⟩)],1⟩) ?_ ?_
     ·apply ah;simp[hC];refine cz ?_;simp;apply a8;simp[hC];refine aa.trim [8,7,6,5,0,1] [0] 1 j5 yA ?_;simp
     rintro s rfl;have s0:=aq (y) (⟨#[119,104,105,108,101,32]⟩) KI;have s1:=aq (y++⟨#[119,104,105,108,101,32]⟩) (gJ e) KI;have s2:=aq (y++⟨#[119,104,105,108,101,32]⟩++gJ e) (⟨#[32,123,10]⟩) KI;have s3:=aq (y++⟨#[119,104,105,108,101,32]⟩++gJ e++⟨#[32,123,10]⟩) (g6 (m9++⟨#[9]⟩) th) KI;have s4:=aq (y++⟨#[119,104,105,108,101,32]⟩++gJ e++⟨#[32,123,10]⟩++g6 (m9++⟨#[9]⟩) th) (m9) KI;have s5:=aq (y++⟨#[119,104,105,108,101,32]⟩++gJ e++⟨#[32,123,10]⟩++g6 (m9++⟨#[9]⟩) th++m9) (⟨#[125]⟩) KI;have s9:=aq m9 ⟨#[9]⟩ UY;apply T.seq;refine T.rx af follows [0,1,2,3,4,8,9,10,11,14,5,6,7,12,13,15,16,17] [(9,5)] lz ?_;simp[hC,s0,s9];refine RX.call rfl j5 rfl rfl rfl zK (h2) ?_;simp[s1,s2];refine RX.call rfl j5 rfl rfl rfl zK (h3) ?_;simp[s3,s4,s5];apply ah;simp[hC];refine aU ?_;simp;apply T.skip;simp;refine aa.trim [6,5,0,1] [] 0 j5 yA ?_;simp[← hY,ju,uy,nQ,jt,nN,ByteArray.append_assoc]
    rintro s rfl;apply a8;simp[hC,Qb];apply a8;simp[hC,wi];refine⟨l.length-(i+1),by omega,?_⟩;refine aa.trim [6,5,0,1] [] 0 j5 yA ⟨i+1,Y++⟨#[10]⟩,rfl,by omega,Lq,?_⟩;simp
   | .ia,oy,Ln,hY,KP=>
    simp only[gk,bC,jy,eS,List.cons_append,List.nil_append] at oy;apply ah;simp[hC,hi,oy];apply ah;simp[hC,st];refine T.cut (fun s=>s=⟨[(6,I i),(5,.str Y),(0,.au (bh l) l.length),(1,.str m9)],[],0⟩) ?_ ?_
    ·apply ah;simp[hC];apply T.block;simp only[ju,EY] at KP;have s0:=aq (y) (⟨#[114,101,116,117,114,110,59]⟩) KI;apply ah;simp[hC];refine aU ?_;simp;apply ah;simp[hC];refine aU ?_;simp;apply ah;simp[hC];refine aU ?_;simp;apply ah;simp[hC];refine aU ?_;simp;apply ah;simp[hC];refine aU ?_;simp;apply ah;simp[hC];refine aU ?_;simp;apply aL;simp[hC];refine aU ?_;simp;apply a8;simp[hC];refine aU ?_;simp;apply a8;simp[hC,s0];refine aa.trim [6,5,0,1] [] 0 j5 yA ?_;simp[← hY,ju,EY]
    rintro s rfl;apply a8;simp[hC,Qb];apply a8;simp[hC,wi];refine⟨l.length-(i+1),by omega,?_⟩;refine aa.trim [6,5,0,1] [] 0 j5 yA ⟨i+1,Y++⟨#[10]⟩,rfl,by omega,Lq,?_⟩;simp
  ·have CW:i=l.length:=by omega
   rw[CW,List.drop_length,g6] at hx;have Vo:x=X:=by rw[← hx];exact (ByteArray.append_empty (b:=x)).symm
   subst Vo;apply aL;simp[hC,hi];refine aU ?_;simp;apply T.exit;simp;apply ah;simp[hC];apply T.ret;apply aa.here;simp[Tryz.results109]
end Go.Proofs.YtlkmbdfhdknlgaaGreatDoor
