/- lines. -/
import Derived.Test.YtlkmbdfhdknlgaaGreatV28
namespace Go.Proofs.YtlkmbdfhdknlgaaGreat
open Go.Can Go.aV List Tryz
def TxS (Lf:ByteArray)(s:Sm):Prop:=match s with
 | .ia nm e=>nm.size<=100/\NB e
 | .iX nm e=>nm.size<=100/\NB e
 | .en _ nm al=>nm.size<=100/\al.length<=1000/\∀ a∈al,TxA a
 | .dP _ r=>NA r
 | .lO e th el=>NB e/\af prog 165 [.au (bS th) th.length,.str (Lf++⟨#[9]⟩)] (.str (jz (Lf++⟨#[9]⟩) th))/\af prog 165 [.au (bS el) el.length,.str (Lf++⟨#[9]⟩)] (.str (jz (Lf++⟨#[9]⟩) el))
 | .dh e th=>NB e/\af prog 165 [.au (bS th) th.length,.str (Lf++⟨#[9]⟩)] (.str (jz (Lf++⟨#[9]⟩) th))
 | .jJ=>True
def J129 (l:List Sm)(Lf X:ByteArray)(n:Nat)(s:St):Prop:=∃ (i:Nat) (x:ByteArray),n=l.length-i/\i<=l.length/\x++jz Lf (l.drop i)=X/\s=⟨[(6,I i),(5,.str x),(0,.au (bS l) l.length),(1,.str Lf)],[],0⟩
set_option maxHeartbeats 8000000 in
theorem vF (l:List Sm)(Lf:ByteArray)(ht:Lf.size<=100)(hl:l.length<=100000)(hX:(jz Lf l).size<=1000000)(h:∀ s∈l,TxS Lf s):af prog 165 [.au (bS l) l.length,.str Lf] (.str (jz Lf l)):=by
 have Qv:=λ (i:Nat) (x:Sm) (h:l[i]? = some x)=>aH (f:=iD) (n:=11) kN (m:=l) h;rw[<- oO] at Qv;obtain⟨X,hXe⟩:∃ X,jz Lf l=X:=⟨_,rfl⟩;rw[hXe] at hX |-;refine af.aC ag Tryz.func165 rfl GK (by simp[Tryz.ntmps165]) rfl λ C hC OR=>?_;rw[Tryz.ntmps165] at hC;apply aq;simp[hC];apply aq;simp[hC];apply aT;simp[hC];apply T.block;refine T.aQ (J129 l Lf X) (n:=l.length) ?_ ?_
 ·refine aa.le (Le.env [6,5,0,1]) (aa.here ⟨0,⟨#[]⟩,by omega,by omega,?_,?_⟩)
  ·rw[drop_zero,hXe];exact ByteArray.empty_append
  ·simp
 ·rintro n s ⟨i,x,rfl,OP,hx,rfl⟩;by_cases hi:i<l.length
  ·obtain⟨a,PX⟩:∃ a,l[i]? = some a:=⟨l[i],getElem?_eq_getElem hi⟩;have OS:=Qv i a PX;have QG:=h a (mem_of_getElem? PX);have wi:=cw ((i:Int)+1) yA yA;have hd:l.drop i=a::l.drop (i+1):=by
    rw[drop_eq_getElem_cons hi,(List.getElem?_eq_some_iff.1 PX).2]
   rw[hd,jz] at hx;have hz:x.size+(Lf.size+(la Lf a).size+tNl.size+(jz Lf (l.drop (i+1))).size)=X.size:=by
    rw[<- hx];simp only[ByteArray.size_append]
   have hq:tNl.size=1:=rfl;apply aT;simp[hC,hi];refine iI ?_;simp;apply eZ;have st:=az x Lf yA;obtain⟨y,hy⟩:∃ y,x++Lf=y:=⟨_,rfl⟩;have YJ:y.size=x.size+Lf.size:=by rw[<- hy,ByteArray.size_append]
   rw[hy] at st;obtain⟨Y,hY⟩:∃ Y,y++la Lf a=Y:=⟨_,rfl⟩;have hYs:Y.size=y.size+(la Lf a).size:=by rw[<- hY,ByteArray.size_append]
   have VF:=az Y ⟨#[10]⟩ (by have:(⟨#[10]⟩:ByteArray).size=1:=rfl;omega);have RL:Y++⟨#[10]⟩++jz Lf (l.drop (i+1))=X:=by
    rw[<- hx,<- hY,<- hy];simp only[ByteArray.append_assoc];rfl
   have Qs:y.size+(la Lf a).size<=1000000:=by omega
   clear hz hx YJ hYs
   match a,OS,QG,hY,Qs with
   | .ia nm e,OS,QG,hY,Qs=>
    obtain⟨h1,h2,h2z⟩:=QG;simp only[iD,bV e,lh,cons_append,nil_append] at OS;rw[bV e] at h2;apply aq;simp[hC,hi,OS];apply aq;simp[hC,st];refine T.cut (λ s=>s=⟨[(6,I i),(5,.str Y),(0,.au (bS l) l.length),(1,.str Lf)],[],0⟩) ?_ ?_
    ·apply aq;simp[hC];apply T.block;apply aq;simp[hC];refine cX ?_;simp;simp only[la,z0,GC,jo,ByteArray.size_append] at Qs;have s0:=az (y) (⟨#[118,97,114,32]⟩) PZ;have s1:=az (y++⟨#[118,97,114,32]⟩) (nm) PZ;have s2:=az (y++⟨#[118,97,114,32]⟩++nm) (⟨#[32,61,32]⟩) PZ;have s3:=az (y++⟨#[118,97,114,32]⟩++nm++⟨#[32,61,32]⟩) (ji e) PZ;have s4:=az (y++⟨#[118,97,114,32]⟩++nm++⟨#[32,61,32]⟩++ji e) (⟨#[59]⟩) PZ;refine T.rx ag follows [0,1,2,3,4,5,6,7,8,9,10,11] [(3,8)] GK ?_;simp[hC,s0,s1,s2];refine RX.call rfl xr rfl rfl rfl O4 (h2) ?_;simp[s3,s4];refine aa.trim [6,5,0,1] [] 0 xr yA ?_;simp[<- hY,la,z0,GC,jo,ByteArray.append_assoc]
    rintro s rfl;apply aG;simp[hC,VF];apply aG;simp[hC,wi];refine⟨l.length-(i+1),by omega,?_⟩;refine aa.trim [6,5,0,1] [] 0 xr yA ⟨i+1,Y++⟨#[10]⟩,rfl,by omega,RL,?_⟩;simp
   | .iX nm e,OS,QG,hY,Qs=>
    obtain⟨h1,h2,h2z⟩:=QG;simp only[iD,bV e,lh,cons_append,nil_append] at OS;rw[bV e] at h2;apply aq;simp[hC,hi,OS];apply aq;simp[hC,st];refine T.cut (λ s=>s=⟨[(6,I i),(5,.str Y),(0,.au (bS l) l.length),(1,.str Lf)],[],0⟩) ?_ ?_
    ·apply aq;simp[hC];apply T.block;apply aq;simp[hC];refine bh ?_;simp;apply aq;simp[hC];refine cX ?_;simp;simp only[la,GC,jo,ByteArray.size_append] at Qs;have s0:=az (y) (nm) PZ;have s1:=az (y++nm) (⟨#[32,61,32]⟩) PZ;have s2:=az (y++nm++⟨#[32,61,32]⟩) (ji e) PZ;have s3:=az (y++nm++⟨#[32,61,32]⟩++ji e) (⟨#[59]⟩) PZ;refine T.rx ag follows [0,1,2,3,4,5,6,7,8,9,10] [(2,7)] GK ?_;simp[hC,s0,s1];refine RX.call rfl xr rfl rfl rfl O4 (h2) ?_;simp[s2,s3];refine aa.trim [6,5,0,1] [] 0 xr yA ?_;simp[<- hY,la,GC,jo,ByteArray.append_assoc]
    rintro s rfl;apply aG;simp[hC,VF];apply aG;simp[hC,wi];refine⟨l.length-(i+1),by omega,?_⟩;refine aa.trim [6,5,0,1] [] 0 xr yA ⟨i+1,Y++⟨#[10]⟩,rfl,by omega,RL,?_⟩;simp
   | .en false nm al,OS,QG,hY,Qs=>
    obtain⟨h1,h2,h3⟩:=QG;have Pc:=tJ al h2 h3;simp only[iD,a8,lh,cons_append,nil_append] at OS;have e5:(if false=true then (4:Int) else 3)=3:=rfl
    try rw[e5] at OS
    apply aq;simp[hC,hi,OS];apply aq;simp[hC,st];refine T.cut (λ s=>s=⟨[(6,I i),(5,.str Y),(0,.au (bS l) l.length),(1,.str Lf)],[],0⟩) ?_ ?_
    ·apply aq;simp[hC];apply T.block;apply aq;simp[hC];refine bh ?_;simp;apply aq;simp[hC];refine bh ?_;simp;apply aq;simp[hC];refine cX ?_;simp;simp only[la,jo,NL,ByteArray.size_append] at Qs
     try simp only[Bool.false_eq_true,if_false] at Qs
     have s0:=az (y) (nm) PZ;have s1:=az (y++nm) (uq al) PZ;have s2:=az (y++nm++uq al) (⟨#[59]⟩) PZ;refine T.rx ag follows [0,1,2,3,4,5,6,7,8,9] [(2,6)] GK ?_;simp[hC,s0];refine RX.call rfl xr rfl rfl rfl O4 (Pc) ?_;simp[s1,s2];refine aa.trim [6,5,0,1] [] 0 xr yA ?_;simp[<- hY,la,jo,uq,ByteArray.append_assoc]
    rintro s rfl;apply aG;simp[hC,VF];apply aG;simp[hC,wi];refine⟨l.length-(i+1),by omega,?_⟩;refine aa.trim [6,5,0,1] [] 0 xr yA ⟨i+1,Y++⟨#[10]⟩,rfl,by omega,RL,?_⟩;simp
   | .en true nm al,OS,QG,hY,Qs=>
    obtain⟨h1,h2,h3⟩:=QG;have Pc:=tJ al h2 h3;simp only[iD,a8,lh,cons_append,nil_append] at OS;have e5:(if true=true then (4:Int) else 3)=4:=rfl
    try rw[e5] at OS
    apply aq;simp[hC,hi,OS];apply aq;simp[hC,st];refine T.cut (λ s=>s=⟨[(6,I i),(5,.str Y),(0,.au (bS l) l.length),(1,.str Lf)],[],0⟩) ?_ ?_
    ·apply aq;simp[hC];apply T.block;apply aq;simp[hC];refine bh ?_;simp;apply aq;simp[hC];refine bh ?_;simp;apply aq;simp[hC];refine bh ?_;simp;apply aq;simp[hC];refine cX ?_;simp;simp only[la,jo,NL,ByteArray.size_append,if_true] at Qs;have s0:=az (y) (⟨#[103,111,32]⟩) PZ;have s1:=az (y++⟨#[103,111,32]⟩) (nm) PZ;have s2:=az (y++⟨#[103,111,32]⟩++nm) (uq al) PZ;have s3:=az (y++⟨#[103,111,32]⟩++nm++uq al) (⟨#[59]⟩) PZ;refine T.rx ag follows [0,1,2,3,4,5,6,7,8,9,10] [(3,7)] GK ?_;simp[hC,s0,s1];refine RX.call rfl xr rfl rfl rfl O4 (Pc) ?_;simp[s2,s3];refine aa.trim [6,5,0,1] [] 0 xr yA ?_;simp[<- hY,la,jo,NL,uq,ByteArray.append_assoc]
    rintro s rfl;apply aG;simp[hC,VF];apply aG;simp[hC,wi];refine⟨l.length-(i+1),by omega,?_⟩;refine aa.trim [6,5,0,1] [] 0 xr yA ⟨i+1,Y++⟨#[10]⟩,rfl,by omega,RL,?_⟩;simp
   | .dP false r,OS,QG,hY,Qs=>
    have Rw:=pS r (show NA r from QG);obtain⟨rn,ri⟩:=r;obtain⟨q1,q2,hq⟩:∃ cs n,mA ri=.au cs n:=by cases ri<;>exact⟨_,_,rfl⟩
    simp only[ld,hq] at Rw;simp only[iD,a8,ld,hq,cons_append,nil_append] at OS;have e5:(if false=true then (6:Int) else 5)=5:=rfl
    try rw[e5] at OS
    apply aq;simp[hC,hi,OS];apply aq;simp[hC,st];refine T.cut (λ s=>s=⟨[(6,I i),(5,.str Y),(0,.au (bS l) l.length),(1,.str Lf)],[],0⟩) ?_ ?_
    ·apply aq;simp[hC];apply T.block;apply aq;simp[hC];refine bh ?_;simp;apply aq;simp[hC];refine bh ?_;simp;apply aq;simp[hC];refine bh ?_;simp;apply aq;simp[hC];refine bh ?_;simp;apply aq;simp[hC];refine cX ?_;simp;simp only[la,jo,xg,oM,ByteArray.size_append] at Qs
     try simp only[Bool.false_eq_true,if_false] at Qs
     have s0:=az (y) (⟨#[108,111,99,107,32]⟩) PZ;have s1:=az (y++⟨#[108,111,99,107,32]⟩) (Cw ⟨rn,ri⟩) PZ;have s2:=az (y++⟨#[108,111,99,107,32]⟩++Cw ⟨rn,ri⟩) (⟨#[59]⟩) PZ;apply aG;simp[hC,s0];refine ct O4 (Rw) ?_;simp[hC,s1,s2];refine aa.trim [6,5,0,1] [] 0 xr yA ?_;simp[<- hY,la,jo,xg,ByteArray.append_assoc]
    rintro s rfl;apply aG;simp[hC,VF];apply aG;simp[hC,wi];refine⟨l.length-(i+1),by omega,?_⟩;refine aa.trim [6,5,0,1] [] 0 xr yA ⟨i+1,Y++⟨#[10]⟩,rfl,by omega,RL,?_⟩;simp
   | .dP true r,OS,QG,hY,Qs=>
    have Rw:=pS r (show NA r from QG);obtain⟨rn,ri⟩:=r;obtain⟨q1,q2,hq⟩:∃ cs n,mA ri=.au cs n:=by cases ri<;>exact⟨_,_,rfl⟩
    simp only[ld,hq] at Rw;simp only[iD,a8,ld,hq,cons_append,nil_append] at OS;have e5:(if true=true then (6:Int) else 5)=6:=rfl
    try rw[e5] at OS
    apply aq;simp[hC,hi,OS];apply aq;simp[hC,st];refine T.cut (λ s=>s=⟨[(6,I i),(5,.str Y),(0,.au (bS l) l.length),(1,.str Lf)],[],0⟩) ?_ ?_
    ·apply aq;simp[hC];apply T.block;apply aq;simp[hC];refine bh ?_;simp;apply aq;simp[hC];refine bh ?_;simp;apply aq;simp[hC];refine bh ?_;simp;apply aq;simp[hC];refine bh ?_;simp;apply aq;simp[hC];refine bh ?_;simp;apply aq;simp[hC];refine cX ?_;simp;simp only[la,jo,xg,oM,ByteArray.size_append] at Qs
     try simp only[if_true] at Qs
     have s0:=az (y) (⟨#[117,110,108,111,99,107,32]⟩) PZ;have s1:=az (y++⟨#[117,110,108,111,99,107,32]⟩) (Cw ⟨rn,ri⟩) PZ;have s2:=az (y++⟨#[117,110,108,111,99,107,32]⟩++Cw ⟨rn,ri⟩) (⟨#[59]⟩) PZ;apply aG;simp[hC,s0];refine ct O4 (Rw) ?_;simp[hC,s1,s2];refine aa.trim [6,5,0,1] [] 0 xr yA ?_;simp[<- hY,la,jo,oM,ByteArray.append_assoc]
    rintro s rfl;apply aG;simp[hC,VF];apply aG;simp[hC,wi];refine⟨l.length-(i+1),by omega,?_⟩;refine aa.trim [6,5,0,1] [] 0 xr yA ⟨i+1,Y++⟨#[10]⟩,rfl,by omega,RL,?_⟩;simp
   | .lO e th el,OS,QG,hY,Qs=>
    obtain⟨⟨h2,h2z⟩,h3,h4⟩:=QG;simp only[iD,bV e,lh,eS,cons_append,nil_append] at OS;rw[bV e] at h2;apply aq;simp[hC,hi,OS];apply aq;simp[hC,st];refine T.cut (λ s=>s=⟨[(6,I i),(5,.str Y),(0,.au (bS l) l.length),(1,.str Lf)],[],0⟩) ?_ ?_
    ·apply aq;simp[hC];apply T.block;by_cases O7:el.length=0
     ·simp only[la,NK,qw,k9,z5,qu,ByteArray.size_append,O7,if_true] at Qs;apply aq;simp[hC];refine bh ?_;simp;apply aq;simp[hC];refine bh ?_;simp;apply aq;simp[hC];refine bh ?_;simp;apply aq;simp[hC];refine bh ?_;simp;apply aq;simp[hC];refine bh ?_;simp;apply aq;simp[hC];refine bh ?_;simp;apply aT;simp[hC];refine cX ?_;simp;apply T.skip;simp;refine cX ?_;simp;apply aq;simp[hC];refine T.cut (λ s=>s=⟨[(8,.str ⟨#[105,102,32]⟩),(7,.ax 0 0),(6,I i),(5,.str y),(0,.au (bS l) l.length),(1,.str Lf)],[(0,⟨207,0,[I 7,.str ⟨#[]⟩,I e.op,I e.n,.str e.name,.au (e.args.flatMap a8) e.args.length,.str ⟨#[]⟩,.au [] 0,.au [] 0,.au (bS th) th.length,.au (bS el) el.length]⟩)],1⟩) ?_ ?_
      ·apply aq;simp[hC];refine bh ?_;simp;apply T.skip;simp;refine aa.trim [8,7,6,5,0,1] [0] 1 xr yA ?_;simp
      rintro s rfl;have s0:=az (y) (⟨#[105,102,32]⟩) PZ;have s1:=az (y++⟨#[105,102,32]⟩) (ji e) PZ;have s2:=az (y++⟨#[105,102,32]⟩++ji e) (⟨#[32,123,10]⟩) PZ;have s3:=az (y++⟨#[105,102,32]⟩++ji e++⟨#[32,123,10]⟩) (jz (Lf++⟨#[9]⟩) th) PZ;have s4:=az (y++⟨#[105,102,32]⟩++ji e++⟨#[32,123,10]⟩++jz (Lf++⟨#[9]⟩) th) (Lf) PZ;have s5:=az (y++⟨#[105,102,32]⟩++ji e++⟨#[32,123,10]⟩++jz (Lf++⟨#[9]⟩) th++Lf) (⟨#[125]⟩) PZ;have s9:=az Lf ⟨#[9]⟩ yDj;apply T.seq;refine T.rx ag follows [0,1,2,3,4,8,9,10,11,14,5,6,7,12,13,15,16,17] [(9,5)] GK ?_;simp[hC,s0,s9];refine RX.call rfl xr rfl rfl rfl O4 (h2) ?_;simp[s1,s2];refine RX.call rfl xr rfl rfl rfl O4 (h3) ?_;simp[s3,s4,s5];have ZF:¬ 0<el.length:=by omega
      apply aq;simp[hC,O7];refine bh ?_;simp;apply T.skip;simp;refine aa.trim [6,5,0,1] [] 0 xr yA ?_;simp[<- hY,la,NK,qw,k9,qu,ByteArray.append_assoc,O7];exact (ByteArray.append_empty (b:=⟨#[125]⟩)).symm
     ·simp only[la,NK,qw,k9,z5,qu,ByteArray.size_append,O7,if_false] at Qs;apply aq;simp[hC];refine bh ?_;simp;apply aq;simp[hC];refine bh ?_;simp;apply aq;simp[hC];refine bh ?_;simp;apply aq;simp[hC];refine bh ?_;simp;apply aq;simp[hC];refine bh ?_;simp;apply aq;simp[hC];refine bh ?_;simp;apply aT;simp[hC];refine cX ?_;simp;apply T.skip;simp;refine cX ?_;simp;apply aq;simp[hC];refine T.cut (λ s=>s=⟨[(8,.str ⟨#[105,102,32]⟩),(7,.ax 0 0),(6,I i),(5,.str y),(0,.au (bS l) l.length),(1,.str Lf)],[(0,⟨207,0,[I 7,.str ⟨#[]⟩,I e.op,I e.n,.str e.name,.au (e.args.flatMap a8) e.args.length,.str ⟨#[]⟩,.au [] 0,.au [] 0,.au (bS th) th.length,.au (bS el) el.length]⟩)],1⟩) ?_ ?_
      ·apply aq;simp[hC];refine bh ?_;simp;apply T.skip;simp;refine aa.trim [8,7,6,5,0,1] [0] 1 xr yA ?_;simp
      rintro s rfl;have s0:=az (y) (⟨#[105,102,32]⟩) PZ;have s1:=az (y++⟨#[105,102,32]⟩) (ji e) PZ;have s2:=az (y++⟨#[105,102,32]⟩++ji e) (⟨#[32,123,10]⟩) PZ;have s3:=az (y++⟨#[105,102,32]⟩++ji e++⟨#[32,123,10]⟩) (jz (Lf++⟨#[9]⟩) th) PZ;have s4:=az (y++⟨#[105,102,32]⟩++ji e++⟨#[32,123,10]⟩++jz (Lf++⟨#[9]⟩) th) (Lf) PZ;have s5:=az (y++⟨#[105,102,32]⟩++ji e++⟨#[32,123,10]⟩++jz (Lf++⟨#[9]⟩) th++Lf) (⟨#[125]⟩) PZ;have s9:=az Lf ⟨#[9]⟩ yDj;apply T.seq;refine T.rx ag follows [0,1,2,3,4,8,9,10,11,14,5,6,7,12,13,15,16,17] [(9,5)] GK ?_;simp[hC,s0,s9];refine RX.call rfl xr rfl rfl rfl O4 (h2) ?_;simp[s1,s2];refine RX.call rfl xr rfl rfl rfl O4 (h3) ?_;simp[s3,s4,s5];have r0:=az (y++⟨#[105,102,32]⟩++ji e++⟨#[32,123,10]⟩++jz (Lf++⟨#[9]⟩) th++Lf++⟨#[125]⟩) (⟨#[32,101,108,115,101,32,123,10]⟩) PZ;have r1:=az (y++⟨#[105,102,32]⟩++ji e++⟨#[32,123,10]⟩++jz (Lf++⟨#[9]⟩) th++Lf++⟨#[125]⟩++⟨#[32,101,108,115,101,32,123,10]⟩) (jz (Lf++⟨#[9]⟩) el) PZ;have r2:=az (y++⟨#[105,102,32]⟩++ji e++⟨#[32,123,10]⟩++jz (Lf++⟨#[9]⟩) th++Lf++⟨#[125]⟩++⟨#[32,101,108,115,101,32,123,10]⟩++jz (Lf++⟨#[9]⟩) el) (Lf) PZ;have r3:=az (y++⟨#[105,102,32]⟩++ji e++⟨#[32,123,10]⟩++jz (Lf++⟨#[9]⟩) th++Lf++⟨#[125]⟩++⟨#[32,101,108,115,101,32,123,10]⟩++jz (Lf++⟨#[9]⟩) el++Lf) (⟨#[125]⟩) PZ;have ZF:0<el.length:=by omega
      apply aq;simp[hC,ZF];refine cX ?_;simp;apply aG;simp[hC,r0,s9];refine ct O4 (h4) ?_;simp[hC,r1,r2,r3];refine aa.trim [6,5,0,1] [] 0 xr yA ?_;simp[<- hY,la,NK,qw,k9,z5,qu,ByteArray.append_assoc,O7]
    rintro s rfl;apply aG;simp[hC,VF];apply aG;simp[hC,wi];refine⟨l.length-(i+1),by omega,?_⟩;refine aa.trim [6,5,0,1] [] 0 xr yA ⟨i+1,Y++⟨#[10]⟩,rfl,by omega,RL,?_⟩;simp
   | .dh e th,OS,QG,hY,Qs=>
    obtain⟨⟨h2,h2z⟩,h3⟩:=QG;simp only[iD,bV e,lh,eS,cons_append,nil_append] at OS;rw[bV e] at h2;apply aq;simp[hC,hi,OS];apply aq;simp[hC,st];refine T.cut (λ s=>s=⟨[(6,I i),(5,.str Y),(0,.au (bS l) l.length),(1,.str Lf)],[],0⟩) ?_ ?_
    ·apply aq;simp[hC];apply T.block;simp only[la,yz,qw,k9,qu,ByteArray.size_append] at Qs;apply aq;simp[hC];refine bh ?_;simp;apply aq;simp[hC];refine bh ?_;simp;apply aq;simp[hC];refine bh ?_;simp;apply aq;simp[hC];refine bh ?_;simp;apply aq;simp[hC];refine bh ?_;simp;apply aq;simp[hC];refine bh ?_;simp;apply aT;simp[hC];refine bh ?_;simp;apply aG;simp[hC];refine cX ?_;simp;apply aq;simp[hC];refine T.cut (λ s=>s=⟨[(8,.str ⟨#[119,104,105,108,101,32]⟩),(7,.ax 0 0),(6,I i),(5,.str y),(0,.au (bS l) l.length),(1,.str Lf)],[(0,⟨207,0,[I 8,.str ⟨#[]⟩,I e.op,I e.n,.str e.name,.au (e.args.flatMap a8) e.args.length,.str ⟨#[]⟩,.au [] 0,.au [] 0,.au (bS th) th.length,.au [] 0]⟩)],1⟩) ?_ ?_
     ·apply aq;simp[hC];refine cX ?_;simp;apply aG;simp[hC];refine aa.trim [8,7,6,5,0,1] [0] 1 xr yA ?_;simp
     rintro s rfl;have s0:=az (y) (⟨#[119,104,105,108,101,32]⟩) PZ;have s1:=az (y++⟨#[119,104,105,108,101,32]⟩) (ji e) PZ;have s2:=az (y++⟨#[119,104,105,108,101,32]⟩++ji e) (⟨#[32,123,10]⟩) PZ;have s3:=az (y++⟨#[119,104,105,108,101,32]⟩++ji e++⟨#[32,123,10]⟩) (jz (Lf++⟨#[9]⟩) th) PZ;have s4:=az (y++⟨#[119,104,105,108,101,32]⟩++ji e++⟨#[32,123,10]⟩++jz (Lf++⟨#[9]⟩) th) (Lf) PZ;have s5:=az (y++⟨#[119,104,105,108,101,32]⟩++ji e++⟨#[32,123,10]⟩++jz (Lf++⟨#[9]⟩) th++Lf) (⟨#[125]⟩) PZ;have s9:=az Lf ⟨#[9]⟩ yDj;apply T.seq;refine T.rx ag follows [0,1,2,3,4,8,9,10,11,14,5,6,7,12,13,15,16,17] [(9,5)] GK ?_;simp[hC,s0,s9];refine RX.call rfl xr rfl rfl rfl O4 (h2) ?_;simp[s1,s2];refine RX.call rfl xr rfl rfl rfl O4 (h3) ?_;simp[s3,s4,s5];apply aq;simp[hC];refine bh ?_;simp;apply T.skip;simp;refine aa.trim [6,5,0,1] [] 0 xr yA ?_;simp[<- hY,la,yz,qw,k9,qu,ByteArray.append_assoc]
    rintro s rfl;apply aG;simp[hC,VF];apply aG;simp[hC,wi];refine⟨l.length-(i+1),by omega,?_⟩;refine aa.trim [6,5,0,1] [] 0 xr yA ⟨i+1,Y++⟨#[10]⟩,rfl,by omega,RL,?_⟩;simp
   | .jJ,OS,QG,hY,Qs=>
    simp only[iD,a8,lh,eS,cons_append,nil_append] at OS;apply aq;simp[hC,hi,OS];apply aq;simp[hC,st];refine T.cut (λ s=>s=⟨[(6,I i),(5,.str Y),(0,.au (bS l) l.length),(1,.str Lf)],[],0⟩) ?_ ?_
    ·apply aq;simp[hC];apply T.block;simp only[la,Jm] at Qs;have s0:=az (y) (⟨#[114,101,116,117,114,110,59]⟩) PZ;apply aq;simp[hC];refine bh ?_;simp;apply aq;simp[hC];refine bh ?_;simp;apply aq;simp[hC];refine bh ?_;simp;apply aq;simp[hC];refine bh ?_;simp;apply aq;simp[hC];refine bh ?_;simp;apply aq;simp[hC];refine bh ?_;simp;apply aT;simp[hC];refine bh ?_;simp;apply aG;simp[hC];refine bh ?_;simp;apply aG;simp[hC,s0];refine aa.trim [6,5,0,1] [] 0 xr yA ?_;simp[<- hY,la,Jm]
    rintro s rfl;apply aG;simp[hC,VF];apply aG;simp[hC,wi];refine⟨l.length-(i+1),by omega,?_⟩;refine aa.trim [6,5,0,1] [] 0 xr yA ⟨i+1,Y++⟨#[10]⟩,rfl,by omega,RL,?_⟩;simp
  ·have OV:i=l.length:=by omega
   rw[OV,drop_length,jz] at hx;have hxX:x=X:=by rw[<- hx];exact (ByteArray.append_empty (b:=x)).symm
   subst hxX;apply aT;simp[hC,hi];refine bh ?_;simp;apply T.exit;simp;apply aq;simp[hC];apply T.ret;apply aa.here;simp[Tryz.results165]
end Go.Proofs.YtlkmbdfhdknlgaaGreat
