/- Mutex, Callee. -/
import Derived.Test.YtlkmbdfhdknlgaaGreatV34
namespace Go.Proofs.YtlkmbdfhdknlgaaGreat
open Go.Can Go.aV List Tryz
theorem aM (l:List Nat):trees (l.map λ n:Nat=>I n)=true:=bb l
theorem bT (l:List Nat):tree (aN l)=true:=by simp only[aN,tree]
theorem cP (x:Is):trees (gI x)=true:=by simp only[gI,trees,bT,Bool.and_true];rfl
theorem jR (x:Is):(gI x).length=2:=rfl
theorem kj {l:List Nat}{i n:Nat}(h:l[i]? = some n):(l.map λ n:Nat=>I n).drop i=I n::(l.drop (i+1)).map λ n:Nat=>I n:=by
 obtain⟨hl,rfl⟩:=List.getElem?_eq_some_iff.1 h;rw[<- map_drop,drop_eq_getElem_cons hl,map_cons]
theorem E2 (is:Is)(q:Pl)(h:q.param=true->q.index<is.bz.length):af prog 117 [.agg (gI is),.agg (fC q)] (I (lC is q)):=by
 refine af.aC ag Tryz.func117 rfl GK (by simp[Tryz.ntmps117]) rfl λ C hC OR=>?_;rw[Tryz.ntmps117] at hC;simp only[gI,fC,aN,od];apply aq;simp[hC];apply aT;simp[hC]
 cases hq:q.param with
 | true=>
  have OT:=h hq;obtain⟨n,hn⟩:∃ n,is.bz[q.index]? = some n:=⟨_,getElem?_eq_getElem OT⟩;have OS:=kj hn;have Sg:lC is q=n:=by simp[lC,hq,getD_eq_getElem?_getD,hn]
  refine T.cond (b:=true) PC ?_;simp;apply aq;simp[hC,OT,OS];apply T.ret;apply aa.here;simp[Tryz.results117,Sg]
 | false=>
  have Sg:lC is q=q.index:=by simp[lC,hq]
  refine T.cond (b:=false) PC (T.skip ?_);simp;apply aq;simp[hC];apply T.ret;apply aa.here;simp[Tryz.results117,Sg]
theorem HO (g:Bool)(t:Nat)(l:List Ex)(ps:List Pl):df (.call g t l ps)=[I (if g=true then 3 else 2),I t,.bool false,I 0,I 0,.str eS,.au [] 0,.bool false,I 0,.au [] 0,.au (l.flatMap a8) l.length,.au (ps.flatMap fC) ps.length]:=rfl
def iq (l:List Nat):Ob:=⟨3,1,l.map λ n:Nat=>I n⟩
def J27 (_u:Un)(is:Is)(cs:List CV)(cn:Nat)(pc:Int)(t:Nat)(ps:List Pl)(m:Nat)(s:St):Prop:=∃ i:Nat,m=ps.length-i/\i<=ps.length/\
 s=⟨[(10,I i),(9,.ax 3 0),(8,.au cs cn),(6,.ax 2 0),(4,.ax 1 0),(2,I pc)],[(1,⟨95,0,gI is⟩),(2,⟨95,0,[I 0,.ak]⟩),(3,⟨95,0,[I t,.bg 4 0 i]⟩),(4,iq ((ps.take i).map (lC is)))],5⟩
theorem bt (u:Un):trees (eD u)=true:=by
 simp only[eD,trees,ints,tree];simp
set_option maxHeartbeats 4000000 in
theorem Cy (u:Un)(hu:jx u)(is:Is)(hi:B5 u is)(pc:Int):af prog 71 [cb u,.agg (gI is),I pc] (zE (sG u is pc)):=by
 obtain⟨⟨pq,R4,PV⟩,RT⟩:=id hi;have RE:bN u is=pq.code:=by simp only[bN,R4]
 have Qx:=(List.getElem?_eq_some_iff.1 R4).1;have OS:=cq (f:=mw) (n:=5) jM R4 4 yA;have hlen:=(hu.pr pq (mem_of_getElem? R4)).2.2.2.2;have O1:tree (zE (sG u is pc))=true:=by
  cases sG u is pc with
  | none=>rfl
  | some x=>simp only[zE,tree,trees,cP];rfl
 have PR:=bt u;simp only[eD,ints] at PR;refine af.aC ag Tryz.func71 rfl GK (by simp[Tryz.ntmps71]) O1 λ C hC OR=>?_;rw[Tryz.ntmps71] at hC;simp only[cb,eD,gI,ints];apply aq;simp[hC];apply aq;simp[hC,Qx,OS,mw];have Vd:=cC pq.code;have Vd:=cC pq.code;by_cases h1:pc<0
 ·have hn:sG u is pc=none:=by simp[sG,h1]
  apply aT;simp[hC,h1];refine cX ?_;simp;apply aq;simp[hC];apply T.ret;simp;refine aa.le (Le.trim [6,7] [2] 3 xr yA) ?_;simp;refine aa.le (Le.nz [] [2]) ?_;apply aa.here;simp[hn,zE]
 ·obtain⟨k,rfl⟩:∃ k:Nat,pc=k:=⟨pc.toNat,by omega⟩;by_cases h2:k<pq.code.length
  ·obtain⟨x,hx⟩:∃ x,pq.code[k]? = some x:=⟨_,getElem?_eq_getElem h2⟩;have Rs:sG u is k=jZ is x:=by simp[sG,RE,hx,h1]
   have Ub:=aH (f:=df) (n:=12) jS hx;obtain⟨xc,WQ,_⟩:=zg x;rw[WQ] at Ub;have QE:¬ ((pq.code.length:Int)<=(k:Int)):=by omega
   by_cases Pj:∃ g t l ps,x=.call g t l ps
   ·obtain⟨g,t,l,ps,rfl⟩:=Pj;have ZR:sG u is k=some ⟨t,ps.map (lC is)⟩:=by rw[Rs];rfl
    have Zv:IV (u.ps.map λ q=>(q.ints,q.bz)) u.ms u.gs.length pq.locals pq.bz (pq.code.length-1) (.call g t l ps):=(hu.pc pq (mem_of_getElem? R4)).2 _ (mem_of_getElem? hx);have Qb:=Zv.2.2;have Qa:=cq (f:=df) (n:=12) jS hx 1 yA;have V4:=cq (f:=df) (n:=12) jS hx 11 yA;rw[HO] at Qa V4;have VT:((DK (.call g t l ps) == 2) && (DK (.call g t l ps) == 3))=false:=by cases g<;>rfl
    have Xn:drop (k*12) (pq.code.flatMap df)=I (if g=true then 3 else 2)::xc++(pq.code.drop (k+1)).flatMap df:=by rw[Ub];cases g<;>rfl
    have hpsl:ps.length<=100:=by
     have h5:=Zv.1;rw[getElem?_map,Option.map_eq_some_iff] at h5;obtain⟨q',h6,h7⟩:=h5;simp only[Prod.mk.injEq] at h7;have:=(hu.pr q' (mem_of_getElem? h6)).2.1;omega
    rw[ZR];simp only[zE];clear Ub;generalize TR:(if g=true then (3:Int) else 2)=op at Xn;have hop3:((op != 2) && (op != 3))=false:=by subst TR;cases g<;>rfl
    have U1:(op != 2)=false\/((op != 2)=true/\(op != 3)=false):=by subst TR;cases g<;>simp
    refine T.cut (λ s=>s=⟨[(8,.au (pq.code.flatMap df) pq.code.length),(6,.ax 2 0),(4,.ax 1 0),(2,I k)],[(2,⟨95,0,[I 0,.ak]⟩),(1,⟨95,0,gI is⟩)],3⟩) ?_ ?_
    ·rcases U1 with hb | ⟨hb,Q0⟩
     ·apply aq;simp[hC,QE,h1,h2,Xn,hb];refine eQ ?_;simp;refine aa.trim [8,6,4,2] [2,1] 3 (by simp[-all_eq_true,-all_flatMap,bq 3 _ (bT is.bz)]) yA ?_;simp[gI]
     ·apply aq;simp[hC,QE,h1,h2,Xn,hb,Q0];refine eQ ?_;simp;refine aa.trim [8,6,4,2] [2,1] 3 (by simp[-all_eq_true,-all_flatMap,bq 3 _ (bT is.bz)]) yA ?_;simp[gI]
    ·rintro s rfl;simp only[gI];apply aq;simp[hC,h2,Qa];apply aT;simp[hC];apply T.block;refine T.aQ (J27 u is (pq.code.flatMap df) pq.code.length k t ps) (n:=ps.length) ?_ ?_
     ·refine aa.le (Le.lq 3 1 3 1 rfl rfl) ?_;simp;refine aa.trim [10,9,8,6,4,2] [1,2,3,4] 5 (by simp[-all_eq_true,-all_flatMap,bq 5 _ (bT is.bz)]) yA ⟨0,by omega,by omega,?_⟩;simp[gI,iq]
     ·rintro n s ⟨i,rfl,TQ,rfl⟩;by_cases OP:i<ps.length
      ·obtain⟨q,hq⟩:∃ q,ps[i]? = some q:=⟨ps[i],getElem?_eq_getElem OP⟩;have ZH:=aH (f:=fC) (n:=3) jN hq;have XT:q.param=true->q.index<is.bz.length:=λ hp=>by
        rcases Qb q (mem_of_getElem? hq) with ⟨_,h8,_⟩ | ⟨h8,_⟩
        ·omega
        ·rw[hp] at h8;cases h8
       have To:=E2 is q XT;have wi:=cw ((i:Int)+1) yA yA;have Pb:ps.take (i+1)=ps.take i++[q]:=by rw[take_add_one,hq];rfl
       have Q3:((ps.take i).map (lC is)).length=i:=by simp;omega
       have tN:=aM ((ps.take i).map (lC is));have SJ:(i+1)*8<=140737488355328:=by omega
       obtain⟨q1,q2,q3,q4,hqc,tq⟩:=lp q;rw[hqc] at ZH To;generalize hG:(ps.take i).map (lC is)=G at Q3 tN;simp only[gI,iq] at To |-;apply aT;simp[hC,h2,V4,OP];refine iI ?_;simp;apply eZ;refine T.rx ag follows [0,1,2,3,4,5,6,7,8,9,10,11,12,13,14,15] [(1,11),(1,12)] GK ?_;simp[hC,h2,V4,OP,ZH];have OQ:trees [.agg [I is.proc,aN is.bz],.agg [.bool q1,I q2,.au q3 q4]]=true:=by
        simp only[trees,tree,bT,Bool.and_true]
       refine RX.call rfl rfl rfl rfl rfl OQ To ?_;simp[Q3,SJ,aS];apply aG;simp[hC,wi];refine⟨ps.length-(i+1),by omega,?_⟩;have tN2:trees ((G.map λ n:Nat=>I n)++[I (lC is q)])=true:=by rw[aF,tN];rfl
       have OZ:=aw tN2;have Ta:=λ ρ=>ae ρ _ tN2;have tnt:=bT is.bz;simp only[aN,tree] at tnt;simp only[aN];refine aa.le (Le.norm [10,9,8,6,4,2] [(1,1),(2,2),(3,3),(21,4)] 0 5 Px Pw Yo yA) ?_;simp[cz,bf,aL,cQ,dW,assoc,Ta];refine aa.here ⟨i+1,rfl,by omega,?_⟩;simp[gI,iq,Pb,hG,aN]
      ·have OV:i=ps.length:=by omega
       subst OV;rw[take_length];have tN:=aM (ps.map (lC is));have tkN:take ps.length ((ps.map (lC is)).map λ n:Nat=>I n)=(ps.map (lC is)).map λ n:Nat=>I n:=take_of_length_le xr;have hnt:aN (ps.map (lC is))=.au ((ps.map (lC is)).map λ n:Nat=>I n) ps.length:=by simp[aN]
       simp only[gI,iq];rw[hnt];generalize hG:((ps.map (lC is)).map λ n:Nat=>I n)=G at tN tkN;apply aT;simp[hC,h2,V4];refine bh ?_;simp;apply T.exit;simp;apply aq;simp[hC];apply T.ret;refine aa.le (Le.trim [6,7] [2,4] 5 (by simp[-all_eq_true,-all_flatMap,aj tN]) yA) ?_;simp;refine aa.le (Le.cF (o:=4) rfl tN) ?_;simp[tkN];apply aa.here;simp
   ·have hn:sG u is k=none:=by
     rw[Rs]
     cases x with
     | call g t l ps=>exact (Pj ⟨g,t,l,ps,rfl⟩).elim
     | _=>rfl
    have VT:((DK x != 2)=true)/\((DK x != 3)=true):=by
     cases x with
     | call g t l ps=>exact (Pj ⟨g,t,l,ps,rfl⟩).elim
     | lock u _=>cases u<;>exact⟨rfl,rfl⟩
     | _=>exact⟨rfl,rfl⟩
    apply aT;simp[hC,QE,h1,h2,Ub,VT.1,VT.2];refine cX ?_;simp;apply aq;simp[hC];apply T.ret;simp;refine aa.le (Le.trim [6,7] [2] 3 xr yA) ?_;simp;refine aa.le (Le.nz [] [2]) ?_;apply aa.here;simp[hn,zE]
  ·have hn:sG u is k=none:=by simp[sG,RE,getElem?_eq_none (Nat.le_of_not_lt h2)]
   have QE:(pq.code.length:Int)<=(k:Int):=by omega
   apply aT;simp[hC,QE,h1];refine cX ?_;simp;apply aq;simp[hC];apply T.ret;simp;refine aa.le (Le.trim [6,7] [2] 3 xr yA) ?_;simp;refine aa.le (Le.nz [] [2]) ?_;apply aa.here;simp[hn,zE]
def J94 (l:List Nat)(x:Nat)(m:Nat)(s:St):Prop:=∃ i:Nat,m=l.length-i/\i<=l.length/\(x∉l.take i)/\s=⟨[(5,I i),(0,aN l),(1,I x)],[],0⟩
theorem JC (l:List Nat)(x:Nat)(hl:l.length<=100000):af prog 131 [aN l,I x] (.bool (decide (x∈l))):=by
 refine af.aC ag Tryz.func131 rfl GK (by simp[Tryz.ntmps131]) rfl λ C hC OR=>?_;rw[Tryz.ntmps131] at hC;simp only[aN];apply aq;simp[hC];apply aT;simp[hC];apply T.block;refine T.aQ (J94 l x) (n:=l.length) ?_ ?_
 ·refine aa.trim [5,0,1] [] 0 Ue yA ⟨0,by omega,by omega,by simp,?_⟩;simp[aN]
 ·rintro n s ⟨i,rfl,hi,hx,rfl⟩;simp only[aN];by_cases OP:i<l.length
  ·obtain⟨a,ha⟩:∃ a,l[i]? = some a:=⟨l[i],getElem?_eq_getElem OP⟩;have OS:=kj ha;have wi:=cw ((i:Int)+1) yA yA;have Pb:l.take (i+1)=l.take i++[a]:=by rw[take_add_one,ha];rfl
   apply aT;simp[hC,OP];refine iI ?_;simp;apply eZ;by_cases hax:a=x
   ·have hd:decide (x∈l)=true:=by simp only[decide_eq_true_eq];exact hax ▸ mem_of_getElem? ha
    subst hax;apply aq;simp[hC,OP,OS];refine cX ?_;simp;apply aq;simp[hC];apply T.ret;apply aa.here;rw[hd];simp[Tryz.results131]
   ·have Pp:((a:Int) == (x:Int))=false:=by
     rw[beq_eq_false_iff_ne];omega
    apply aq;simp[hC,OP,OS,Pp];refine eQ ?_;simp;apply aG;simp[hC,wi];refine⟨l.length-(i+1),by omega,aa.trim [5,0,1] [] 0 Ue yA ⟨i+1,rfl,by omega,?_,?_⟩⟩
    ·rw[Pb,mem_append,mem_singleton,not_or];exact⟨hx,λ h=>hax h.symm⟩
    ·simp[aN]
  ·have OV:i=l.length:=by omega
   subst OV;rw[take_length] at hx;have hd:decide (x∈l)=false:=by simp[hx]
   apply aT;simp[hC];refine bh ?_;simp;apply T.exit;simp;apply aq;simp[hC];apply T.ret;apply aa.here;rw[hd];simp[Tryz.results131]
theorem zR:∀ (l:List Nat) (x i:Nat),i<cW l x->∃ a,l[i]? = some a/\a<x
 | [],x,i,h=>by simp[cW] at h
 | b::r,x,i,h=>by
  simp only[cW,takeWhile_cons] at h;split at h
  ·rename_i hb
   cases i with
   | zero=>exact⟨b,rfl,by simpa using hb⟩
   | succ i=>
    obtain⟨a,h1,h2⟩:=zR r x i (by simp only[cW];simpa using h);exact⟨a,by simpa using h1,h2⟩
  ·simp at h
theorem wX:∀ (l:List Nat) (x:Nat),cW l x<=l.length/\∀ a,l[cW l x]? = some a->¬ a<x
 | [],x=>⟨by simp[cW],λ a h=>by simp[cW] at h⟩
 | b::r,x=>by
  obtain⟨h1,h2⟩:=wX r x;simp only[cW,takeWhile_cons] at h1 h2 |-;split
  ·exact⟨by simpa using h1,λ a h=>h2 a Sa⟩
  ·rename_i hb;refine⟨by simp,λ a h=>?_⟩;simp only[length_nil,getElem?_cons_zero,Option.some.injEq] at h;subst h
   simpa using hb
def J61 (l:List Nat)(x:Nat)(m:Nat)(s:St):Prop:=∃ i:Nat,m=cW l x-i/\i<=cW l x/\s=⟨[(5,I i),(0,aN l),(1,I x)],[],0⟩
theorem GW (l:List Nat)(x:Nat)(hl:l.length<=100000):af prog 73 [aN l,I x] (aN (g9 l x)):=by
 have hhas:=JC l x hl;have tl:=aM l;obtain⟨RU,Uo⟩:=wX l x;refine af.aC ag Tryz.func73 rfl GK (by simp[Tryz.ntmps73]) (bT _) λ C hC OR=>?_;rw[Tryz.ntmps73] at hC;apply aq;simp[hC];apply aT;simp[hC];have OQ:trees [aN l,I x]=true:=by simp only[trees,bT,tree,Bool.and_self]
 refine ct OQ hhas ?_;simp;by_cases hm:x∈l
 ·have hw:g9 l x=l:=if_pos hm;rw[hw];refine T.cond (b:=true) (by simp[ev,assoc,hm]) ?_;simp;apply aq;simp[hC];apply T.ret;apply aa.here;simp[Tryz.results73]
 ·have hw:g9 l x=l.take (cW l x)++x::l.drop (cW l x):=if_neg hm;rw[hw];refine T.cond (b:=false) (by simp[ev,assoc,hm]) (T.skip ?_);simp;apply aq;simp[hC];apply eZ;refine T.aQ (J61 l x) (n:=cW l x) ?_ ?_
  ·refine aa.trim [5,0,1] [] 0 (by simp[-all_eq_true,bq 0 _ (bT l)]) yA ⟨0,by omega,by omega,?_⟩;simp
  ·rintro n s ⟨i,rfl,hi,rfl⟩;simp only[aN];by_cases OP:i<cW l x
   ·obtain⟨a,ha,hax⟩:=zR l x i OP;have OS:=kj ha;have PV:i<l.length:=(List.getElem?_eq_some_iff.1 ha).1;have wi:=cw ((i:Int)+1) yA yA;have hax':(a:Int)<(x:Int):=by omega
    apply aT;simp[hC,PV,OS,hax'];refine iI ?_;simp;apply T.block;apply aG;simp[hC,wi];refine⟨cW l x-(i+1),by omega,aa.trim [5,0,1] [] 0 Ue yA ⟨i+1,rfl,by omega,?_⟩⟩;simp[aN]
   ·have OV:i=cW l x:=by omega
    subst OV;apply T.seq;refine T.cut (λ s=>s=⟨[(21,.bool false),(5,I (cW l x)),(0,aN l),(1,I x)],[],0⟩) ?_ ?_
    ·cases P3:l[cW l x]? with
     | none=>
      have PV:¬ cW l x<l.length:=by
       rw[List.getElem?_eq_none_iff] at P3;omega
      apply aG;simp[hC,PV];refine aa.trim [21,5,0,1] [] 0 Ue yA ?_;simp[aN]
     | some a=>
      have PV:=(List.getElem?_eq_some_iff.1 P3).1;have OS:=kj P3;have SD:¬ (a:Int)<(x:Int):=by have:=Uo a P3;omega
      apply aG;simp[hC,PV,OS,SD];refine aa.trim [21,5,0,1] [] 0 Ue yA ?_;simp[aN]
    rintro s rfl;refine bh ?_;simp;apply T.exit;simp[aN];have Tg:cW l x*8<=140737488355328:=by omega
    have Q0:(cW l x+1)*8<=140737488355328:=by omega
    have hb3:(l.length+1)*8<=140737488355328:=by omega
    have hb4:(cW l x+1+(l.length-cW l x))*8<=140737488355328:=by omega
    apply T.seq;refine T.rx ag follows [0,1,2,3,4,5,6,7,8,9,10,11,12] [(0,3),(0,6),(0,10),(3,6),(4,6),(4,10),(6,10),(7,10)] GK ?_;simp[hC,RU,Tg,Q0,hb4,aS];apply T.ret;have Zo:take (l.length-cW l x) (drop (cW l x) (l.map λ n:Nat=>I n))=(l.drop (cW l x)).map λ n:Nat=>I n:=by
     rw[<- map_drop,take_of_length_le xr]
    have PJ:take (cW l x) (l.map λ n:Nat=>I n)++I x::((l.drop (cW l x)).map λ n:Nat=>I n)=(l.take (cW l x)++x::l.drop (cW l x)).map λ n:Nat=>I n:=by simp
    have hlen:cW l x+1+(l.length-cW l x)=(l.take (cW l x)++x::l.drop (cW l x)).length:=by simp;omega
    have tN:=aM (l.take (cW l x)++x::l.drop (cW l x));simp only[Zo];rw[PJ];have Pb:take (l.take (cW l x)++x::l.drop (cW l x)).length ((l.take (cW l x)++x::l.drop (cW l x)).map λ n:Nat=>I n)=(l.take (cW l x)++x::l.drop (cW l x)).map λ n:Nat=>I n:=take_of_length_le xr;rw[hlen];generalize hL:(l.take (cW l x)++x::l.drop (cW l x))=L at tN Pb;refine aa.le (Le.trim [4] [15] 16 (by simp[-all_eq_true,aj tN]) yA) ?_;simp;refine aa.le (Le.cF (o:=15) rfl tN) ?_;simp[Pb];apply aa.here;simp;exact⟨by rw[<- hL];simp,by rw[<- hL];simp;omega⟩
end Go.Proofs.YtlkmbdfhdknlgaaGreat
namespace Go.aV
open Go.Can
theorem j6 (l:List Nat):aN l=ints (l.map λ n:Nat=>(n:Int)):=by simp[aN,ints,List.map_map,Function.comp_def]
def mv (y:Is)(p:Int)(ls:List Int):Bool:=decide ((y.proc:Int)=p) && decide ((y.bz.map λ n:Nat=>(n:Int))=ls)
def kr:List Is->Int->List Int->Int->Int
 | [],_,_,_=>-1
 | y::r,p,ls,i=>if mv y p ls=true then i else kr r p ls (i+1)
end Go.aV
namespace Go.Proofs.YtlkmbdfhdknlgaaGreat
open Go.Can Go.aV List Tryz
set_option maxRecDepth 10000 in
theorem sP (a b:List Int)(ha:a.length<=4611686018427387904):af prog 88 [ints a,ints b] (.bool (decide (a=b))):=by
 refine af.aC ag Tryz.func88 rfl GK (by simp[Tryz.ntmps88]) rfl λ C hC OR=>?_;rw[Tryz.ntmps88] at hC;apply aq;simp[hC];apply aT;simp[hC,ints];refine T.bB rfl (λ h=>?_) (λ h=>?_)
 ·apply aq;simp[hC];apply T.ret;apply aa.here;simp[Tryz.results88];intro e;subst e;simp at h
 ·apply T.skip;have hl:a.length=b.length:=by simp at h;omega
  apply aT;simp[hC];apply T.block;refine T.aQ (λ m s=>∃ i,m=a.length-i/\i<=a.length/\(∀ j,j<i->a[j]? = b[j]?)/\s=⟨[(5,.int .i64 i),(0,ints a),(1,ints b)],[],0⟩) (n:=a.length) ?_ ?_
  ·refine aa.trim [5,0,1] [] 0 rfl yA ⟨0,rfl,Nat.zero_le _,by simp,?_⟩;simp[ints]
  ·rintro n s ⟨i,rfl,hi,hj,rfl⟩;apply aT;simp[hC,ints];refine T.bB rfl (λ h=>?_) (λ h=>?_)
   ·apply T.skip;have hib:i<a.length:=by simpa using h
    simp;have ea:a[i]? = some a[i]:=getElem?_eq_getElem hib;have eb:b[i]? = some b[i]:=getElem?_eq_getElem yA;refine T.seq (T.block (T.seq (T.rx ag follows [0,1,2,3,4,5,6,7,8] [] GK ?_)));simp[hC,hib,<- hl];refine T.bB rfl (λ h=>?_) (λ h=>?_)
    ·apply aq;simp[hC];apply T.ret;apply aa.here;simp[Tryz.results88];intro e;subst e;simp at h
    ·apply T.skip;simp;apply aG;simp[hC];refine⟨_,?_,aa.trim [5,0,1] [] 0 rfl yA ⟨i+1,rfl,hib,?_,?_⟩⟩
     ·omega
     ·intro j hj';by_cases e:j=i
      ·subst e;rw[ea,eb];simpa using h
      ·exact hj j yA
     ·simp;rw[cw _ yA yA]
   ·apply T.exit;simp;apply aq;simp[hC];apply T.ret;apply aa.here;simp[Tryz.results88];have:i=a.length:=by simp at h;omega
    subst this;refine ext_getElem? λ j=>?_;by_cases QL:j<a.length
    ·exact hj j QL
    ·rw[getElem?_eq_none yA,getElem?_eq_none yA]
def gr (l:List Is):Ob:=⟨95,2,l.flatMap gI⟩
def J33 (l:List Is)(X Y:CV)(p:Int)(ls:List Int)(n:Nat)(s:St):Prop:=∃ i:Nat,n=l.length-i/\i<=l.length/\kr l p ls 0=kr (l.drop i) p ls i/\s=⟨[(5,I i),(3,.ax 1 0),(2,.ax 0 0)],[(0,⟨34,0,[.au (l.flatMap gI) l.length,X,Y]⟩),(1,⟨95,0,[I p,ints ls]⟩)],2⟩
set_option maxHeartbeats 4000000 in
theorem GX (l:List Is)(hl:l.length<=100000)(PV:∀ x∈l,x.bz.length<=100000)(X Y:CV)(hX:tree X=true)(hY:tree Y=true)(p:Int)(ls:List Int) :
  af prog 72 [.agg [.au (l.flatMap gI) l.length,X,Y],.agg [I p,ints ls]] (I (kr l p ls 0)):=by
 have Vc:tree (ints ls)=true:=by simp[ints,tree]
 refine af.aC ag Tryz.func72 rfl GK (by simp[Tryz.ntmps72]) rfl λ C hC OR=>?_;rw[Tryz.ntmps72] at hC;apply aq;simp[hC];apply aT;simp[hC];apply T.block;refine T.aQ (J33 l X Y p ls) (n:=l.length) ?_ ?_
 ·refine aa.trim [5,3,2] [0,1] 2 yCs yA ⟨0,by omega,by omega,rfl,?_⟩;simp
 ·rintro n s ⟨i,rfl,hi,hf,rfl⟩;by_cases OP:i<l.length
  ·obtain⟨y,hy⟩:∃ y,l[i]? = some y:=⟨l[i],getElem?_eq_getElem OP⟩;have hd:l.drop i=y::l.drop (i+1):=by
    rw[drop_eq_getElem_cons OP,(List.getElem?_eq_some_iff.1 hy).2]
   rw[hd,kr] at hf;have OS:=aH (f:=gI) (n:=2) jR hy;have QO:=cq (f:=gI) (n:=2) jR hy 1 yA;have wi:=cw ((i:Int)+1) yA yA;have Rz:=sP (y.bz.map λ n:Nat=>(n:Int)) ls (by have:=PV y (mem_of_getElem? hy);simp;omega);rw[<- j6] at Rz;have OQ:trees [aN y.bz,ints ls]=true:=by simp only[trees,bT,Vc,Bool.and_self]
   apply aT;simp[hC,OP];refine iI ?_;simp;apply eZ;refine T.cut (λ s=>s=⟨(32,.bool (mv y p ls))::[(5,I i),(3,.ax 1 0),(2,.ax 0 0)],[(0,⟨34,0,[.au (l.flatMap gI) l.length,X,Y]⟩),(1,⟨95,0,[I p,ints ls]⟩)],2⟩) ?_ ?_
   ·refine T.rx ag follows [0,1,2,3,4,5,6,7,8,9,10,11,12,13,14,15,16,17,18,19] [] GK ?_;by_cases hp:(y.proc:Int)=p
    ·have RR:mv y p ls=decide ((y.bz.map λ n:Nat=>(n:Int))=ls):=by simp[mv,hp]
     simp[hC,OP,OS,gI,hp];refine RX.call rfl rfl rfl rfl rfl OQ Rz ?_;simp;refine aa.trim [32,5,3,2] [0,1] 2 yCs yA ?_;simp[RR]
    ·have RR:mv y p ls=false:=by simp[mv,hp]
     have VQ:((y.proc:Int) == p)=false:=by simpa using hp
     simp[hC,OP,OS,gI,VQ];refine aa.trim [32,5,3,2] [0,1] 2 yCs yA ?_;simp[RR]
   rintro s rfl
   cases hr:mv y p ls with
   | true=>
    rw[if_pos hr] at hf;refine cX ?_;simp;apply aq;simp[hC];apply T.ret;have P2:=hf;simp;apply aa.here;simp[Tryz.results72,P2]
   | false=>
    rw[if_neg (by simp[hr])] at hf;refine eQ ?_;simp;apply aG;simp[hC,wi];refine⟨l.length-(i+1),by omega,aa.trim [5,3,2] [0,1] 2 yCs yA ⟨i+1,rfl,by omega,hf,?_⟩⟩;simp
  ·have OV:i=l.length:=by omega
   rw[OV,drop_length,kr] at hf;have P2:=hf;apply aT;simp[hC,OP];refine bh ?_;simp;apply T.exit;simp;apply aq;simp[hC];apply T.ret;apply aa.here;simp[Tryz.results72,P2]
def J33B (l:List Is)(m:Nat)(Xt:Ob)(Y:CV)(p:Int)(ls:List Int)(n:Nat)(s:St):Prop:=∃ i:Nat,n=l.length-i/\i<=l.length/\kr l p ls 0=kr (l.drop i) p ls i/\s=⟨[(5,I i),(3,.ax 3 0),(2,.ax 2 0)],[(2,⟨34,0,[.bg 0 0 l.length,.bg 1 0 m,Y]⟩),(3,⟨95,0,[I p,ints ls]⟩),(0,gr l),(1,Xt)],4⟩
set_option maxHeartbeats 4000000 in
theorem xq (l:List Is)(hl:l.length<=100000)(PV:∀ x∈l,x.bz.length<=100000)(m:Nat)(Xt:Ob)(V5:trees Xt.cells=true)(Y:CV)(hY:tree Y=true)(p:Int)(ls:List Int) :
  Body prog av 72 [.agg [.bg 0 0 l.length,.bg 1 0 m,Y],.agg [I p,ints ls]] [(0,gr l),(1,Xt)] 2 (jk (I (kr l p ls 0)) [(0,gr l),(1,Xt)] 2):=by
 have Vc:tree (ints ls)=true:=by simp[ints,tree]
 refine Body.jb Tryz.func72 rfl GK (by simp[Tryz.ntmps72]) λ C hC OR=>?_;rw[Tryz.ntmps72] at hC;apply aq;simp[hC,gr];apply aT;simp[hC];apply T.block;refine T.aQ (J33B l m Xt Y p ls) (n:=l.length) ?_ ?_
 ·refine aa.trim [5,3,2] [2,3,0,1] 4 yD yA ⟨0,by omega,by omega,rfl,?_⟩;simp[gr]
 ·rintro n s ⟨i,rfl,hi,hf,rfl⟩;by_cases OP:i<l.length
  ·obtain⟨y,hy⟩:∃ y,l[i]? = some y:=⟨l[i],getElem?_eq_getElem OP⟩;have hd:l.drop i=y::l.drop (i+1):=by
    rw[drop_eq_getElem_cons OP,(List.getElem?_eq_some_iff.1 hy).2]
   rw[hd,kr] at hf;have OS:=aH (f:=gI) (n:=2) jR hy;have QO:=cq (f:=gI) (n:=2) jR hy 1 yA;have wi:=cw ((i:Int)+1) yA yA;have Rz:=sP (y.bz.map λ n:Nat=>(n:Int)) ls (by have:=PV y (mem_of_getElem? hy);simp;omega);rw[<- j6] at Rz;have OQ:trees [aN y.bz,ints ls]=true:=by simp only[trees,bT,Vc,Bool.and_self]
   apply aT;simp[hC,OP];refine iI ?_;simp;apply eZ;refine T.cut (λ s=>s=⟨(32,.bool (mv y p ls))::[(5,I i),(3,.ax 3 0),(2,.ax 2 0)],[(2,⟨34,0,[.bg 0 0 l.length,.bg 1 0 m,Y]⟩),(3,⟨95,0,[I p,ints ls]⟩),(0,gr l),(1,Xt)],4⟩) ?_ ?_
   ·refine T.rx ag follows [0,1,2,3,4,5,6,7,8,9,10,11,12,13,14,15,16,17,18,19] [] GK ?_;by_cases hp:(y.proc:Int)=p
    ·have RR:mv y p ls=decide ((y.bz.map λ n:Nat=>(n:Int))=ls):=by simp[mv,hp]
     simp[hC,OP,OS,QO,gI,hp,gr];refine RX.call rfl rfl rfl rfl rfl OQ Rz ?_;simp;refine aa.trim [32,5,3,2] [2,3,0,1] 4 yD yA ?_;simp[RR]
    ·have RR:mv y p ls=false:=by simp[mv,hp]
     have VQ:((y.proc:Int) == p)=false:=by simpa using hp
     simp[hC,OP,OS,gI,VQ,gr];refine aa.trim [32,5,3,2] [2,3,0,1] 4 yD yA ?_;simp[RR]
   rintro s rfl
   cases hr:mv y p ls with
   | true=>
    rw[if_pos hr] at hf;refine cX ?_;simp;apply aq;simp[hC];apply T.ret;have P2:=hf;simp;refine aa.trim [4] [0,1] 2 (by simp[-all_eq_true,aj V5,aj (ah cP l),gr]) yA ⟨_,?_,rfl,?_,rfl⟩
    ·simp[Tryz.results72,P2]
    ·simp[gr]
   | false=>
    rw[if_neg (by simp[hr])] at hf;refine eQ ?_;simp;apply aG;simp[hC,wi];refine⟨l.length-(i+1),by omega,aa.trim [5,3,2] [2,3,0,1] 4 (by simp[-all_eq_true,-all_flatMap,bq 4 _ hY,aj (ah cP l),bq 4 _ Vc,aj V5,gr]) yA ⟨i+1,rfl,by omega,hf,?_⟩⟩;simp[gr]
  ·have OV:i=l.length:=by omega
   rw[OV,drop_length,kr] at hf;have P2:=hf;apply aT;simp[hC,OP];refine bh ?_;simp;apply T.exit;simp;apply aq;simp[hC];apply T.ret;refine aa.trim [4] [0,1] 2 (by simp[-all_eq_true,aj V5,aj (ah cP l),gr]) yA ⟨_,?_,rfl,?_,rfl⟩
   ·simp[Tryz.results72,P2]
   ·simp[gr]
end Go.Proofs.YtlkmbdfhdknlgaaGreat
namespace Go.aV
open Go.Can List
def comb (n:Nat):Nat->List (List Nat)
 | 0=>[[]]
 | k+1=>(range n).flatMap λ a=>(comb n k).map (a :: ·)
theorem AJ (n:Nat):∀ (l:List Nat),(∀ x∈l,x<n)->l∈comb n l.length
 | [],_=>by simp[comb]
 | a::r,h=>by
  simp only[length_cons,comb,mem_flatMap,mem_range,mem_map];exact⟨a,h a mem_cons_self,r,AJ n r λ x hx=>h x (mem_cons_of_mem _ hx),rfl⟩
theorem z6 (c:Nat):∀ l:List Nat,(∀ x∈l,x<=c)->l.sum<=l.length*c
 | [],_=>by simp
 | a::r,h=>by
  have h1:=h a mem_cons_self;have h2:=z6 c r λ x hx=>h x (mem_cons_of_mem _ hx);rw[sum_cons,length_cons,Nat.succ_mul];omega
theorem BD (n:Nat):∀ k,(comb n k).length=n ^ k
 | 0=>by simp[comb]
 | k+1=>by
  simp only[comb,length_flatMap,length_map,BD n k];rw[map_const',sum_replicate_nat,length_range,Nat.pow_succ,Nat.mul_comm]
def wB (n:Nat):Nat->List Pr->List Is
 | _,[]=>[]
 | t,q::r=>(comb n q.bz).map (λ ls=>⟨t,ls⟩)++wB n (t+1) r
theorem AK (n:Nat):∀ (l:List Pr) (t j:Nat) (q:Pr) (x:Is),l[j]? = some q->x.proc=t+j->x.bz.length=q.bz->(∀ a∈x.bz,a<n)->x∈wB n t l
 | [],_,_,_,_,h,_,_,_=>by simp at h
 | p::r,t,0,q,x,h,hp,hl,ha=>by
  simp only[getElem?_cons_zero,Option.some.injEq] at h;subst h;simp only[wB,mem_append,mem_map];refine .inl ⟨x.bz,by rw[<- hl];exact AJ n _ ha,?_⟩;cases x;simp only at hp;simp[hp]
 | p::r,t,j+1,q,x,h,hp,hl,ha=>by
  simp only[getElem?_cons_succ] at h;simp only[wB,mem_append];exact .inr (AK n r (t+1) j q x h yA hl ha)
theorem xK {α:Type}(w:α->Nat):∀ (l m:List α),l.Nodup->(∀ x∈l,x∈m)->(l.map w).sum<=(m.map w).sum
 | [],_,_,_=>by simp
 | a::r,m,hn,hs=>by
  obtain⟨m1,m2,rfl⟩:=append_of_mem (hs a mem_cons_self);rw[nodup_cons] at hn;have ih:=xK w r (m1++m2) hn.2 λ x hx=>by
   have h1:=hs x (mem_cons_of_mem _ hx);have Pp:x≠a:=λ e=>hn.1 (e ▸ hx);simp only[mem_append,mem_cons] at h1 |-;rcases h1 with h | h | h
   ·exact .inl h
   ·exact (Pp h).elim
   ·exact .inr h
  simp only[map_append,sum_append,map_cons,sum_cons] at ih |-;omega
theorem BP {u:Un}(w:Is->Nat)(c:Nat)(n:Nat)(hw:∀ x,w x<=c)(hn:n<=4):∀ (l:List Pr) (t:Nat),(∀ q∈l,q.bz<=2)->((wB n t l).map w).sum<=l.length*(16*c)
 | [],_,_=>by simp[wB]
 | q::r,t,h=>by
  have h1:=BP (u:=u) w c n hw hn r (t+1) λ x hx=>h x (mem_cons_of_mem _ hx);have h2:=h q mem_cons_self;have h3:(comb n q.bz).length<=16:=by
   rw[BD]
   calc n ^ q.bz<=4 ^ q.bz:=Nat.pow_le_pow_left hn _
    _<=4 ^ 2:=Nat.pow_le_pow_right yA h2
  have h4:(((comb n q.bz).map λ ls=>(⟨t,ls⟩:Is)).map w).sum<=16*c:=by
   refine Nat.le_trans (z6 c _ λ x hx=>?_) (Nat.mul_le_mul_right c (by simpa using h3));simp only[mem_map] at hx;obtain⟨y,_,rfl⟩:=hx;exact hw y
  have h5:(r.length+1)*(16*c)=r.length*(16*c)+16*c:=Nat.succ_mul _ _;simp only[wB,map_append,sum_append,length_cons];omega
theorem AX {u:Un}(hu:jx u)(w:Is->Nat)(c:Nat)(hw:∀ x,w x<=c){l:List Is}(hn:l.Nodup)(hv:∀ x∈l,B5 u x):(l.map w).sum<=c+48*c:=by
 have Uk:=hu.np;have P5:=hu.nm;have h1:=xK w l (wB u.ms.length 0 u.ps) hn λ x hx=>by
  obtain⟨⟨q,hq,hl⟩,hm⟩:=hv x hx;exact AK _ _ 0 x.proc q x hq yA hl hm
 refine Nat.le_trans h1 ?_
 cases Qp:u.ps with
 | nil=>rw[Qp] at Uk;simp at Uk
 | cons q0 r=>
  have h0:=hu.p0 q0 (by rw[Qp];rfl);have hr:r.length<=3:=by rw[Qp] at Uk;simp at Uk;omega
  have h2:=BP (u:=u) w c u.ms.length hw P5.2 r 1 λ q hq=>(hu.pr q (by rw[Qp];exact mem_cons_of_mem _ hq)).2.1;have h3:(wB u.ms.length 0 (q0::r))=⟨0,[]⟩ :: wB u.ms.length 1 r:=by simp[wB,h0.2,comb]
  rw[h3,map_cons,sum_cons];have h4:=hw ⟨0,[]⟩;have h5:r.length*(16*c)<=48*c:=by
   calc r.length*(16*c)<=3*(16*c):=Nat.mul_le_mul_right _ hr
    _=48*c:=by omega
  omega
theorem kq {u:Un}(hu:jx u){l:List Is}(hn:l.Nodup)(hv:∀ x∈l,B5 u x):l.length<=49:=by
 have:=AX hu (λ _=>1) 1 (λ _=>Nat.le_refl _) hn hv;rw[map_const',sum_replicate_nat] at this;omega
theorem BE {u:Un}(hu:jx u)(x:Is):(bN u x).length<=145:=by
 unfold bN
 cases h:u.ps[x.proc]? with
 | none=>simp
 | some q=>exact (hu.pr q (mem_of_getElem? h)).2.2.2.2
theorem CY {u:Un}(hu:jx u){l:List Is}(hn:l.Nodup)(hv:∀ x∈l,B5 u x):(l.map λ x=>(bN u x).length).sum<=7105:=
 AX hu _ 145 (BE hu) hn hv
theorem nh {l:List Is}{x:Is}(h:l.Nodup):(fh l x).Nodup:=by
 unfold fh;split
 ·exact h
 ·rename_i hx;refine nodup_append.2 ⟨h,by simp,λ a ha b hb e=>?_⟩;rw[mem_singleton] at hb;subst hb;subst e;exact hx ha
theorem Dl {u:Un}{l:List Is}{x:Is}(h:∀ y∈l,B5 u y)(hx:B5 u x):∀ y∈fh l x,B5 u y:=by
 unfold fh;split
 ·exact h
 ·intro y hy;rcases mem_append.1 hy with hy | hy
  ·exact h y hy
  ·rw[mem_singleton] at hy;subst hy;exact hx
theorem KV {l:List Is}{x y:Is}{i:Nat}(h:l[i]? = some y):(fh l x)[i]? = some y:=by
 unfold fh;split
 ·exact h
 ·rw[getElem?_append_left (List.getElem?_eq_some_iff.1 h).1];exact h
theorem BR (l:List Is)(x:Is):x∈fh l x:=by
 unfold fh;split
 ·assumption
 ·simp
theorem BQ (l:List Is)(x:Is):∃ t,fh l x=l++t:=by
 unfold fh;split
 ·exact⟨[],by simp⟩
 ·exact⟨[x],rfl⟩
theorem qA (x:Is):∀ (c:List In) (l:List Is) (r:List Nat),∃ t,(g6 x c l r).1=l++t
 | [],l,r=>⟨[],by simp[g6]⟩
 | i::c,l,r=>by
  simp only[g6]
  cases jZ x i with
  | none=>exact qA x c l r
  | some y=>
   simp only;obtain⟨t1,h1⟩:=BQ l y;obtain⟨t2,h2⟩:=qA x c (fh l y) (if sq i=true then g9 r (fc (fh l y) y) else r);exact⟨t1++t2,by rw[h2,h1,append_assoc]⟩
theorem uE {l:List Is}{x:Is}(h:x∈l):fc l x<l.length:=by
 unfold fc;exact findIdx_lt_length_of_exists ⟨x,h,by simp⟩
end Go.aV
