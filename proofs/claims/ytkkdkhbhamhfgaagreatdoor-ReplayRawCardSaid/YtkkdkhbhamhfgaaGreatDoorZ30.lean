/- lines. -/
import Derived.Test.YtkkdkhbhamhfgaaGreatDoorZ29
namespace Go.Proofs.YtkkdkhbhamhfgaaGreatDoor
open Go.Can Go.aT
def TxS (JO:ByteArray)(s:Sm):Prop:=match s with
 | .fN nm e=>nm.size≤100∧IH e
 | .gz nm e=>nm.size≤100∧IH e
 | .dm _ nm al=>nm.size≤100∧al.length≤1000∧∀ a∈al,TxA a
 | .cR _ r=>IG r
 | .jS e th el=>IH e∧ae Tryz.prog 109 [.au (bh th) th.length,.str (JO++⟨#[9]⟩)] (.str (g6 (JO++⟨#[9]⟩) th))∧ae Tryz.prog 109 [.au (bh el) el.length,.str (JO++⟨#[9]⟩)] (.str (g6 (JO++⟨#[9]⟩) el))
 | .cb e th=>IH e∧ae Tryz.prog 109 [.au (bh th) th.length,.str (JO++⟨#[9]⟩)] (.str (g6 (JO++⟨#[9]⟩) th))
 | .ia=>True
def J129 (l:List Sm)(JO X:ByteArray)(n:Nat)(s:St):Prop:=∃ (i:Nat) (x:ByteArray),n=l.length-i∧i≤l.length∧x++g6 JO (l.drop i)=X∧s=⟨[(6,I i),(5,.str x),(0,.au (bh l) l.length),(1,.str JO)],[],0⟩
set_option maxHeartbeats 8000000 in
theorem rB (l:List Sm)(JO:ByteArray)(ht:JO.size≤100)(hl:l.length≤100000)(hX:(g6 JO l).size≤1000000)(h:∀ s∈l,TxS JO s):ae Tryz.prog 109 [.au (bh l) l.length,.str JO] (.str (g6 JO l)):=by
 have KQ:=fun (i:Nat) (x:Sm) (h:l[i]? = some x)=>az (f:=gk) (n:=11) jh (m:=l) h;rw[← lS] at KQ;obtain⟨X,Xx⟩:∃ X,g6 JO l=X:=⟨_,rfl⟩;rw[Xx] at hX ⊢;refine ae.aD af Tryz.func109 rfl JN (by simp[Tryz.ntmps109]) rfl fun C hC JR=>?_;rw[Tryz.ntmps109] at hC;apply ah;simp[hC];apply ah;simp[hC];apply aL;simp[hC];apply T.block;refine T.aI (J129 l JO X) (n:=l.length) ?_ ?_
 ·refine aa.le (Le.env [6,5,0,1]) (aa.here ⟨0,⟨#[]⟩,by omega,by omega,?_,?_⟩)
  ·rw[List.drop_zero,Xx];exact ByteArray.empty_append
  ·simp
 ·rintro n s ⟨i,x,rfl,JP,hx,rfl⟩;by_cases hi:i<l.length
  ·obtain⟨a,Kt⟩:∃ a,l[i]? = some a:=⟨l[i],List.getElem?_eq_getElem hi⟩;have JQ:=KQ i a Kt;have K5:=h a (List.mem_of_getElem? Kt);have wi:=cm ((i:Int)+1) yA yA;have hd:l.drop i=a::l.drop (i+1):=by
    rw[List.drop_eq_getElem_cons hi,(List.getElem?_eq_some_iff.1 Kt).2]
   rw[hd,g6] at hx;have hz:x.size+(JO.size+(ju JO a).size+tNl.size+(g6 JO (l.drop (i+1))).size)=X.size:=by
    rw[← hx];simp only[ByteArray.size_append]
   have hq:tNl.size=1:=rfl;apply aL;simp[hC,hi];refine gF ?_;simp;apply fw;have st:=aq x JO yA;obtain⟨y,hy⟩:∃ y,x++JO=y:=⟨_,rfl⟩;have RZ:y.size=x.size+JO.size:=by rw[← hy,ByteArray.size_append]
   rw[hy] at st;obtain⟨Y,hY⟩:∃ Y,y++ju JO a=Y:=⟨_,rfl⟩;have Xw:Y.size=y.size+(ju JO a).size:=by rw[← hY,ByteArray.size_append]
   have Py:=aq Y ⟨#[10]⟩ (by have:(⟨#[10]⟩:ByteArray).size=1:=rfl;omega);have LK:Y++⟨#[10]⟩++g6 JO (l.drop (i+1))=X:=by
    rw[← hx,← hY,← hy];simp only[ByteArray.append_assoc];rfl
   have KE:y.size+(ju JO a).size≤1000000:=by omega
   clear hz hx RZ Xw
   match a,JQ,K5,hY,KE with
   | .fN nm e,JQ,K5,hY,KE=>
    obtain⟨h1,h2,Wt⟩:=K5;simp only[gk,bJ e,jy,List.cons_append,List.nil_append] at JQ;rw[bJ e] at h2;apply ah;simp[hC,hi,JQ];apply ah;simp[hC,st];refine T.cut (fun s=>s=⟨[(6,I i),(5,.str Y),(0,.au (bh l) l.length),(1,.str JO)],[],0⟩) ?_ ?_
    ·apply ah;simp[hC];apply T.block;apply ah;simp[hC];refine cz ?_;simp;simp only[ju,vS,Cq,gQ,ByteArray.size_append] at KE;have s0:=aq (y) (⟨#[118,97,114,32]⟩) Kv;have s1:=aq (y++⟨#[118,97,114,32]⟩) (nm) Kv;have s2:=aq (y++⟨#[118,97,114,32]⟩++nm) (⟨#[32,61,32]⟩) Kv;have s3:=aq (y++⟨#[118,97,114,32]⟩++nm++⟨#[32,61,32]⟩) (gJ e) Kv;have s4:=aq (y++⟨#[118,97,114,32]⟩++nm++⟨#[32,61,32]⟩++gJ e) (⟨#[59]⟩) Kv;refine T.rx af follows [0,1,2,3,4,5,6,7,8,9,10,11] [(3,8)] JN ?_;simp[hC,s0,s1,s2];refine RX.call rfl JM rfl rfl rfl JV (h2) ?_;simp[s3,s4];refine aa.trim [6,5,0,1] [] 0 JM yA ?_;simp[← hY,ju,vS,Cq,gQ,ByteArray.append_assoc]
    rintro s rfl;apply a8;simp[hC,Py];apply a8;simp[hC,wi];refine⟨l.length-(i+1),by omega,?_⟩;refine aa.trim [6,5,0,1] [] 0 JM yA ⟨i+1,Y++⟨#[10]⟩,rfl,by omega,LK,?_⟩;simp
   | .gz nm e,JQ,K5,hY,KE=>
    obtain⟨h1,h2,Wt⟩:=K5;simp only[gk,bJ e,jy,List.cons_append,List.nil_append] at JQ;rw[bJ e] at h2;apply ah;simp[hC,hi,JQ];apply ah;simp[hC,st];refine T.cut (fun s=>s=⟨[(6,I i),(5,.str Y),(0,.au (bh l) l.length),(1,.str JO)],[],0⟩) ?_ ?_
    ·apply ah;simp[hC];apply T.block;apply ah;simp[hC];refine aU ?_;simp;apply ah;simp[hC];refine cz ?_;simp;simp only[ju,Cq,gQ,ByteArray.size_append] at KE;have s0:=aq (y) (nm) Kv;have s1:=aq (y++nm) (⟨#[32,61,32]⟩) Kv;have s2:=aq (y++nm++⟨#[32,61,32]⟩) (gJ e) Kv;have s3:=aq (y++nm++⟨#[32,61,32]⟩++gJ e) (⟨#[59]⟩) Kv;refine T.rx af follows [0,1,2,3,4,5,6,7,8,9,10] [(2,7)] JN ?_;simp[hC,s0,s1];refine RX.call rfl JM rfl rfl rfl JV (h2) ?_;simp[s2,s3];refine aa.trim [6,5,0,1] [] 0 JM yA ?_;simp[← hY,ju,Cq,gQ,ByteArray.append_assoc]
    rintro s rfl;apply a8;simp[hC,Py];apply a8;simp[hC,wi];refine⟨l.length-(i+1),by omega,?_⟩;refine aa.trim [6,5,0,1] [] 0 JM yA ⟨i+1,Y++⟨#[10]⟩,rfl,by omega,LK,?_⟩;simp
   | .dm false nm al,JQ,K5,hY,KE=>
    obtain⟨h1,h2,h3⟩:=K5;have Ka:=pY al h2 h3;simp only[gk,bC,jy,List.cons_append,List.nil_append] at JQ;have e5:(if false=true then (4:Int) else 3)=3:=rfl
    try rw[e5] at JQ
    apply ah;simp[hC,hi,JQ];apply ah;simp[hC,st];refine T.cut (fun s=>s=⟨[(6,I i),(5,.str Y),(0,.au (bh l) l.length),(1,.str JO)],[],0⟩) ?_ ?_
    ·apply ah;simp[hC];apply T.block;apply ah;simp[hC];refine aU ?_;simp;apply ah;simp[hC];refine aU ?_;simp;apply ah;simp[hC];refine cz ?_;simp;simp only[ju,gQ,IU,ByteArray.size_append] at KE
     try simp only[Bool.false_eq_true,if_false] at KE
     have s0:=aq (y) (nm) Kv;have s1:=aq (y++nm) (qe al) Kv;have s2:=aq (y++nm++qe al) (⟨#[59]⟩) Kv;refine T.rx af follows [0,1,2,3,4,5,6,7,8,9] [(2,6)] JN ?_;simp[hC,s0];refine RX.call rfl JM rfl rfl rfl JV (Ka) ?_;simp[s1,s2];refine aa.trim [6,5,0,1] [] 0 JM yA ?_;simp[← hY,ju,gQ,qe,ByteArray.append_assoc]
    rintro s rfl;apply a8;simp[hC,Py];apply a8;simp[hC,wi];refine⟨l.length-(i+1),by omega,?_⟩;refine aa.trim [6,5,0,1] [] 0 JM yA ⟨i+1,Y++⟨#[10]⟩,rfl,by omega,LK,?_⟩;simp
   | .dm true nm al,JQ,K5,hY,KE=>
    obtain⟨h1,h2,h3⟩:=K5;have Ka:=pY al h2 h3;simp only[gk,bC,jy,List.cons_append,List.nil_append] at JQ;have e5:(if true=true then (4:Int) else 3)=4:=rfl
    try rw[e5] at JQ
    apply ah;simp[hC,hi,JQ];apply ah;simp[hC,st];refine T.cut (fun s=>s=⟨[(6,I i),(5,.str Y),(0,.au (bh l) l.length),(1,.str JO)],[],0⟩) ?_ ?_
    ·apply ah;simp[hC];apply T.block;apply ah;simp[hC];refine aU ?_;simp;apply ah;simp[hC];refine aU ?_;simp;apply ah;simp[hC];refine aU ?_;simp;apply ah;simp[hC];refine cz ?_;simp;simp only[ju,gQ,IU,ByteArray.size_append,if_true] at KE;have s0:=aq (y) (⟨#[103,111,32]⟩) Kv;have s1:=aq (y++⟨#[103,111,32]⟩) (nm) Kv;have s2:=aq (y++⟨#[103,111,32]⟩++nm) (qe al) Kv;have s3:=aq (y++⟨#[103,111,32]⟩++nm++qe al) (⟨#[59]⟩) Kv;refine T.rx af follows [0,1,2,3,4,5,6,7,8,9,10] [(3,7)] JN ?_;simp[hC,s0,s1];refine RX.call rfl JM rfl rfl rfl JV (Ka) ?_;simp[s2,s3];refine aa.trim [6,5,0,1] [] 0 JM yA ?_;simp[← hY,ju,gQ,IU,qe,ByteArray.append_assoc]
    rintro s rfl;apply a8;simp[hC,Py];apply a8;simp[hC,wi];refine⟨l.length-(i+1),by omega,?_⟩;refine aa.trim [6,5,0,1] [] 0 JM yA ⟨i+1,Y++⟨#[10]⟩,rfl,by omega,LK,?_⟩;simp
   | .cR false r,JQ,K5,hY,KE=>
    have Lt:=mS r (show IG r from K5);obtain⟨rn,ri⟩:=r;obtain⟨q1,q2,hq⟩:∃ cs n,mK ri=.au cs n:=by cases ri<;>exact⟨_,_,rfl⟩
    simp only[jw,hq] at Lt;simp only[gk,bC,jw,hq,List.cons_append,List.nil_append] at JQ;have e5:(if false=true then (6:Int) else 5)=5:=rfl
    try rw[e5] at JQ
    apply ah;simp[hC,hi,JQ];apply ah;simp[hC,st];refine T.cut (fun s=>s=⟨[(6,I i),(5,.str Y),(0,.au (bh l) l.length),(1,.str JO)],[],0⟩) ?_ ?_
    ·apply ah;simp[hC];apply T.block;apply ah;simp[hC];refine aU ?_;simp;apply ah;simp[hC];refine aU ?_;simp;apply ah;simp[hC];refine aU ?_;simp;apply ah;simp[hC];refine aU ?_;simp;apply ah;simp[hC];refine cz ?_;simp;simp only[ju,gQ,sX,lR,ByteArray.size_append] at KE
     try simp only[Bool.false_eq_true,if_false] at KE
     have s0:=aq (y) (⟨#[108,111,99,107,32]⟩) Kv;have s1:=aq (y++⟨#[108,111,99,107,32]⟩) (yL ⟨rn,ri⟩) Kv;have s2:=aq (y++⟨#[108,111,99,107,32]⟩++yL ⟨rn,ri⟩) (⟨#[59]⟩) Kv;apply a8;simp[hC,s0];refine dk JV (Lt) ?_;simp[hC,s1,s2];refine aa.trim [6,5,0,1] [] 0 JM yA ?_;simp[← hY,ju,gQ,sX,ByteArray.append_assoc]
    rintro s rfl;apply a8;simp[hC,Py];apply a8;simp[hC,wi];refine⟨l.length-(i+1),by omega,?_⟩;refine aa.trim [6,5,0,1] [] 0 JM yA ⟨i+1,Y++⟨#[10]⟩,rfl,by omega,LK,?_⟩;simp
   | .cR true r,JQ,K5,hY,KE=>
    have Lt:=mS r (show IG r from K5);obtain⟨rn,ri⟩:=r;obtain⟨q1,q2,hq⟩:∃ cs n,mK ri=.au cs n:=by cases ri<;>exact⟨_,_,rfl⟩
    simp only[jw,hq] at Lt;simp only[gk,bC,jw,hq,List.cons_append,List.nil_append] at JQ;have e5:(if true=true then (6:Int) else 5)=6:=rfl
    try rw[e5] at JQ
    apply ah;simp[hC,hi,JQ];apply ah;simp[hC,st];refine T.cut (fun s=>s=⟨[(6,I i),(5,.str Y),(0,.au (bh l) l.length),(1,.str JO)],[],0⟩) ?_ ?_
    ·apply ah;simp[hC];apply T.block;apply ah;simp[hC];refine aU ?_;simp;apply ah;simp[hC];refine aU ?_;simp;apply ah;simp[hC];refine aU ?_;simp;apply ah;simp[hC];refine aU ?_;simp;apply ah;simp[hC];refine aU ?_;simp;apply ah;simp[hC];refine cz ?_;simp;simp only[ju,gQ,sX,lR,ByteArray.size_append] at KE
     try simp only[if_true] at KE
     have s0:=aq (y) (⟨#[117,110,108,111,99,107,32]⟩) Kv;have s1:=aq (y++⟨#[117,110,108,111,99,107,32]⟩) (yL ⟨rn,ri⟩) Kv;have s2:=aq (y++⟨#[117,110,108,111,99,107,32]⟩++yL ⟨rn,ri⟩) (⟨#[59]⟩) Kv;apply a8;simp[hC,s0];refine dk JV (Lt) ?_;simp[hC,s1,s2];refine aa.trim [6,5,0,1] [] 0 JM yA ?_;simp[← hY,ju,gQ,lR,ByteArray.append_assoc]
    rintro s rfl;apply a8;simp[hC,Py];apply a8;simp[hC,wi];refine⟨l.length-(i+1),by omega,?_⟩;refine aa.trim [6,5,0,1] [] 0 JM yA ⟨i+1,Y++⟨#[10]⟩,rfl,by omega,LK,?_⟩;simp
   | .jS e th el,JQ,K5,hY,KE=>
    obtain⟨⟨h2,Wt⟩,h3,h4⟩:=K5;simp only[gk,bJ e,jy,eS,List.cons_append,List.nil_append] at JQ;rw[bJ e] at h2;apply ah;simp[hC,hi,JQ];apply ah;simp[hC,st];refine T.cut (fun s=>s=⟨[(6,I i),(5,.str Y),(0,.au (bh l) l.length),(1,.str JO)],[],0⟩) ?_ ?_
    ·apply ah;simp[hC];apply T.block;by_cases Kb:el.length=0
     ·simp only[ju,IT,nQ,jt,vU,nN,ByteArray.size_append,Kb,if_true] at KE;apply ah;simp[hC];refine aU ?_;simp;apply ah;simp[hC];refine aU ?_;simp;apply ah;simp[hC];refine aU ?_;simp;apply ah;simp[hC];refine aU ?_;simp;apply ah;simp[hC];refine aU ?_;simp;apply ah;simp[hC];refine aU ?_;simp;apply aL;simp[hC];refine cz ?_;simp;apply T.skip;simp;refine cz ?_;simp;apply ah;simp[hC];refine T.cut (fun s=>s=⟨[(8,.str ⟨#[105,102,32]⟩),(7,.ai 0 0),(6,I i),(5,.str y),(0,.au (bh l) l.length),(1,.str JO)],[(0,⟨170,0,[I 7,.str ⟨#[]⟩,I e.op,I e.n,.str e.name,.au (e.args.flatMap bC) e.args.length,.str ⟨#[]⟩,.au [] 0,.au [] 0,.au (bh th) th.length,.au (bh el) el.length]⟩)],1⟩) ?_ ?_
      ·apply ah;simp[hC];refine aU ?_;simp;apply T.skip;simp;refine aa.trim [8,7,6,5,0,1] [0] 1 JM yA ?_;simp
      rintro s rfl;have s0:=aq (y) (⟨#[105,102,32]⟩) Kv;have s1:=aq (y++⟨#[105,102,32]⟩) (gJ e) Kv;have s2:=aq (y++⟨#[105,102,32]⟩++gJ e) (⟨#[32,123,10]⟩) Kv;have s3:=aq (y++⟨#[105,102,32]⟩++gJ e++⟨#[32,123,10]⟩) (g6 (JO++⟨#[9]⟩) th) Kv;have s4:=aq (y++⟨#[105,102,32]⟩++gJ e++⟨#[32,123,10]⟩++g6 (JO++⟨#[9]⟩) th) (JO) Kv;have s5:=aq (y++⟨#[105,102,32]⟩++gJ e++⟨#[32,123,10]⟩++g6 (JO++⟨#[9]⟩) th++JO) (⟨#[125]⟩) Kv;have s9:=aq JO ⟨#[9]⟩ Ul;apply T.seq;refine T.rx af follows [0,1,2,3,4,8,9,10,11,14,5,6,7,12,13,15,16,17] [(9,5)] JN ?_;simp[hC,s0,s9];refine RX.call rfl JM rfl rfl rfl JV (h2) ?_;simp[s1,s2];refine RX.call rfl JM rfl rfl rfl JV (h3) ?_;simp[s3,s4,s5];have SV:¬ 0<el.length:=by omega
      apply ah;simp[hC,Kb];refine aU ?_;simp;apply T.skip;simp;refine aa.trim [6,5,0,1] [] 0 JM yA ?_;simp[← hY,ju,IT,nQ,jt,nN,ByteArray.append_assoc,Kb];exact (ByteArray.append_empty (b:=⟨#[125]⟩)).symm
     ·simp only[ju,IT,nQ,jt,vU,nN,ByteArray.size_append,Kb,if_false] at KE;apply ah;simp[hC];refine aU ?_;simp;apply ah;simp[hC];refine aU ?_;simp;apply ah;simp[hC];refine aU ?_;simp;apply ah;simp[hC];refine aU ?_;simp;apply ah;simp[hC];refine aU ?_;simp;apply ah;simp[hC];refine aU ?_;simp;apply aL;simp[hC];refine cz ?_;simp;apply T.skip;simp;refine cz ?_;simp;apply ah;simp[hC];refine T.cut (fun s=>s=⟨[(8,.str ⟨#[105,102,32]⟩),(7,.ai 0 0),(6,I i),(5,.str y),(0,.au (bh l) l.length),(1,.str JO)],[(0,⟨170,0,[I 7,.str ⟨#[]⟩,I e.op,I e.n,.str e.name,.au (e.args.flatMap bC) e.args.length,.str ⟨#[]⟩,.au [] 0,.au [] 0,.au (bh th) th.length,.au (bh el) el.length]⟩)],1⟩) ?_ ?_
      ·apply ah;simp[hC];refine aU ?_;simp;apply T.skip;simp;refine aa.trim [8,7,6,5,0,1] [0] 1 JM yA ?_;simp
      rintro s rfl;have s0:=aq (y) (⟨#[105,102,32]⟩) Kv;have s1:=aq (y++⟨#[105,102,32]⟩) (gJ e) Kv;have s2:=aq (y++⟨#[105,102,32]⟩++gJ e) (⟨#[32,123,10]⟩) Kv;have s3:=aq (y++⟨#[105,102,32]⟩++gJ e++⟨#[32,123,10]⟩) (g6 (JO++⟨#[9]⟩) th) Kv;have s4:=aq (y++⟨#[105,102,32]⟩++gJ e++⟨#[32,123,10]⟩++g6 (JO++⟨#[9]⟩) th) (JO) Kv;have s5:=aq (y++⟨#[105,102,32]⟩++gJ e++⟨#[32,123,10]⟩++g6 (JO++⟨#[9]⟩) th++JO) (⟨#[125]⟩) Kv;have s9:=aq JO ⟨#[9]⟩ Ul;apply T.seq;refine T.rx af follows [0,1,2,3,4,8,9,10,11,14,5,6,7,12,13,15,16,17] [(9,5)] JN ?_;simp[hC,s0,s9];refine RX.call rfl JM rfl rfl rfl JV (h2) ?_;simp[s1,s2];refine RX.call rfl JM rfl rfl rfl JV (h3) ?_;simp[s3,s4,s5];have r0:=aq (y++⟨#[105,102,32]⟩++gJ e++⟨#[32,123,10]⟩++g6 (JO++⟨#[9]⟩) th++JO++⟨#[125]⟩) (⟨#[32,101,108,115,101,32,123,10]⟩) Kv;have r1:=aq (y++⟨#[105,102,32]⟩++gJ e++⟨#[32,123,10]⟩++g6 (JO++⟨#[9]⟩) th++JO++⟨#[125]⟩++⟨#[32,101,108,115,101,32,123,10]⟩) (g6 (JO++⟨#[9]⟩) el) Kv;have r2:=aq (y++⟨#[105,102,32]⟩++gJ e++⟨#[32,123,10]⟩++g6 (JO++⟨#[9]⟩) th++JO++⟨#[125]⟩++⟨#[32,101,108,115,101,32,123,10]⟩++g6 (JO++⟨#[9]⟩) el) (JO) Kv;have r3:=aq (y++⟨#[105,102,32]⟩++gJ e++⟨#[32,123,10]⟩++g6 (JO++⟨#[9]⟩) th++JO++⟨#[125]⟩++⟨#[32,101,108,115,101,32,123,10]⟩++g6 (JO++⟨#[9]⟩) el++JO) (⟨#[125]⟩) Kv;have SV:0<el.length:=by omega
      apply ah;simp[hC,SV];refine cz ?_;simp;apply a8;simp[hC,r0,s9];refine dk JV (h4) ?_;simp[hC,r1,r2,r3];refine aa.trim [6,5,0,1] [] 0 JM yA ?_;simp[← hY,ju,IT,nQ,jt,vU,nN,ByteArray.append_assoc,Kb]
    rintro s rfl;apply a8;simp[hC,Py];apply a8;simp[hC,wi];refine⟨l.length-(i+1),by omega,?_⟩;refine aa.trim [6,5,0,1] [] 0 JM yA ⟨i+1,Y++⟨#[10]⟩,rfl,by omega,LK,?_⟩;simp
   | .cb e th,JQ,K5,hY,KE=>
    obtain⟨⟨h2,Wt⟩,h3⟩:=K5;simp only[gk,bJ e,jy,eS,List.cons_append,List.nil_append] at JQ;rw[bJ e] at h2;apply ah;simp[hC,hi,JQ];apply ah;simp[hC,st];refine T.cut (fun s=>s=⟨[(6,I i),(5,.str Y),(0,.au (bh l) l.length),(1,.str JO)],[],0⟩) ?_ ?_
    ·apply ah;simp[hC];apply T.block;simp only[ju,uy,nQ,jt,nN,ByteArray.size_append] at KE;apply ah;simp[hC];refine aU ?_;simp;apply ah;simp[hC];refine aU ?_;simp;apply ah;simp[hC];refine aU ?_;simp;apply ah;simp[hC];refine aU ?_;simp;apply ah;simp[hC];refine aU ?_;simp;apply ah;simp[hC];refine aU ?_;simp;apply aL;simp[hC];refine aU ?_;simp;apply a8;simp[hC];refine cz ?_;simp;apply ah;simp[hC];refine T.cut (fun s=>s=⟨[(8,.str ⟨#[119,104,105,108,101,32]⟩),(7,.ai 0 0),(6,I i),(5,.str y),(0,.au (bh l) l.length),(1,.str JO)],[(0,⟨170,0,[I 8,.str ⟨#[]⟩,I e.op,I e.n,.str e.name,.au (e.args.flatMap bC) e.args.length,.str ⟨#[]⟩,.au [] 0,.au [] 0,.au (bh th) th.length,.au [] 0]⟩)],1⟩) ?_ ?_
     ·apply ah;simp[hC];refine cz ?_;simp;apply a8;simp[hC];refine aa.trim [8,7,6,5,0,1] [0] 1 JM yA ?_;simp
     rintro s rfl;have s0:=aq (y) (⟨#[119,104,105,108,101,32]⟩) Kv;have s1:=aq (y++⟨#[119,104,105,108,101,32]⟩) (gJ e) Kv;have s2:=aq (y++⟨#[119,104,105,108,101,32]⟩++gJ e) (⟨#[32,123,10]⟩) Kv;have s3:=aq (y++⟨#[119,104,105,108,101,32]⟩++gJ e++⟨#[32,123,10]⟩) (g6 (JO++⟨#[9]⟩) th) Kv;have s4:=aq (y++⟨#[119,104,105,108,101,32]⟩++gJ e++⟨#[32,123,10]⟩++g6 (JO++⟨#[9]⟩) th) (JO) Kv;have s5:=aq (y++⟨#[119,104,105,108,101,32]⟩++gJ e++⟨#[32,123,10]⟩++g6 (JO++⟨#[9]⟩) th++JO) (⟨#[125]⟩) Kv;have s9:=aq JO ⟨#[9]⟩ Ul;apply T.seq;refine T.rx af follows [0,1,2,3,4,8,9,10,11,14,5,6,7,12,13,15,16,17] [(9,5)] JN ?_;simp[hC,s0,s9];refine RX.call rfl JM rfl rfl rfl JV (h2) ?_;simp[s1,s2];refine RX.call rfl JM rfl rfl rfl JV (h3) ?_;simp[s3,s4,s5];apply ah;simp[hC];refine aU ?_;simp;apply T.skip;simp;refine aa.trim [6,5,0,1] [] 0 JM yA ?_;simp[← hY,ju,uy,nQ,jt,nN,ByteArray.append_assoc]
    rintro s rfl;apply a8;simp[hC,Py];apply a8;simp[hC,wi];refine⟨l.length-(i+1),by omega,?_⟩;refine aa.trim [6,5,0,1] [] 0 JM yA ⟨i+1,Y++⟨#[10]⟩,rfl,by omega,LK,?_⟩;simp
   | .ia,JQ,K5,hY,KE=>
    simp only[gk,bC,jy,eS,List.cons_append,List.nil_append] at JQ;apply ah;simp[hC,hi,JQ];apply ah;simp[hC,st];refine T.cut (fun s=>s=⟨[(6,I i),(5,.str Y),(0,.au (bh l) l.length),(1,.str JO)],[],0⟩) ?_ ?_
    ·apply ah;simp[hC];apply T.block;simp only[ju,EY] at KE;have s0:=aq (y) (⟨#[114,101,116,117,114,110,59]⟩) Kv;apply ah;simp[hC];refine aU ?_;simp;apply ah;simp[hC];refine aU ?_;simp;apply ah;simp[hC];refine aU ?_;simp;apply ah;simp[hC];refine aU ?_;simp;apply ah;simp[hC];refine aU ?_;simp;apply ah;simp[hC];refine aU ?_;simp;apply aL;simp[hC];refine aU ?_;simp;apply a8;simp[hC];refine aU ?_;simp;apply a8;simp[hC,s0];refine aa.trim [6,5,0,1] [] 0 JM yA ?_;simp[← hY,ju,EY]
    rintro s rfl;apply a8;simp[hC,Py];apply a8;simp[hC,wi];refine⟨l.length-(i+1),by omega,?_⟩;refine aa.trim [6,5,0,1] [] 0 JM yA ⟨i+1,Y++⟨#[10]⟩,rfl,by omega,LK,?_⟩;simp
  ·have JW:i=l.length:=by omega
   rw[JW,List.drop_length,g6] at hx;have UJ:x=X:=by rw[← hx];exact (ByteArray.append_empty (b:=x)).symm
   subst UJ;apply aL;simp[hC,hi];refine aU ?_;simp;apply T.exit;simp;apply ah;simp[hC];apply T.ret;apply aa.here;simp[Tryz.results109]
end Go.Proofs.YtkkdkhbhamhfgaaGreatDoor
