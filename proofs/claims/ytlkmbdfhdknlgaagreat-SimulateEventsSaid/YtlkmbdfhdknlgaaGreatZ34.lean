/- Mutex, Callee. -/
import Derived.Test.YtlkmbdfhdknlgaaGreatZ33
namespace Go.Proofs.YtlkmbdfhdknlgaaGreat
open Go.Can Go.aJ List Tryz
theorem aK (l:List Nat):trees (l.map λ n:Nat=>I n)=true:=a8 l
theorem aM (l:List Nat):tree (aB l)=true:=by simp only[aB,tree]
theorem ca (x:Is):trees (dV x)=true:=by simp only[dV,trees,aM,Bool.and_true];rfl
theorem gU (x:Is):(dV x).length=2:=rfl
theorem gX {l:List Nat}{i n:Nat}(h:l[i]? = some n):(l.map λ n:Nat=>I n).drop i=I n::(l.drop (i+1)).map λ n:Nat=>I n:=by
 obtain⟨hl,rfl⟩:=List.getElem?_eq_some_iff.1 h;rw[<- map_drop,drop_eq_getElem_cons hl,map_cons]
theorem yX (is:Is)(q:Pl)(h:q.param=true->q.index<is.bp.length):ae prog 117 [.agg (dV is),.agg (gW q)] (I (iV is q)):=by
 refine ae.aE ah Tryz.func117 rfl Ix (by simp[Tryz.ntmps117]) rfl λ C hC RR=>?_;rw[Tryz.ntmps117] at hC;simp only[dV,gW,aB,oQ];apply aq;simp[hC];apply aW;simp[hC]
 cases hq:q.param with
 | true=>
  have RS:=h hq;obtain⟨n,hn⟩:∃ n,is.bp[q.index]? = some n:=⟨_,getElem?_eq_getElem RS⟩;have Qd:=gX hn;have Wj:iV is q=n:=by simp[iV,hq,getD_eq_getElem?_getD,hn]
  refine T.cond (b:=true) Ta ?_;simp;apply aq;simp[hC,RS,Qd];apply T.ret;apply aa.here;simp[Tryz.results117,Wj]
 | false=>
  have Wj:iV is q=q.index:=by simp[iV,hq]
  refine T.cond (b:=false) Ta (T.skip ?_);simp;apply aq;simp[hC];apply T.ret;apply aa.here;simp[Tryz.results117,Wj]
theorem Ks (g:Bool)(t:Nat)(l:List Ex)(ps:List Pl):cW (.call g t l ps)=[I (if g=true then 3 else 2),I t,.bool false,I 0,I 0,.str eS,.ax [] 0,.bool false,I 0,.ax [] 0,.ax (l.flatMap bf) l.length,.ax (ps.flatMap gW) ps.length]:=rfl
def eE (l:List Nat):Ob:=⟨3,1,l.map λ n:Nat=>I n⟩
def J27 (_u:Un)(is:Is)(cs:List CV)(cn:Nat)(pc:Int)(t:Nat)(ps:List Pl)(m:Nat)(s:St):Prop:=∃ i:Nat,m=ps.length-i/\i<=ps.length/\
 s=⟨[(10,I i),(9,.aw 3 0),(8,.ax cs cn),(6,.aw 2 0),(4,.aw 1 0),(2,I pc)],[(1,⟨95,0,dV is⟩),(2,⟨95,0,[I 0,.aj]⟩),(3,⟨95,0,[I t,.bb 4 0 i]⟩),(4,eE ((ps.take i).map (iV is)))],5⟩
theorem bj (u:Un):trees (cR u)=true:=by
 simp only[cR,trees,ints,tree];simp
set_option maxHeartbeats 4000000 in
theorem Ej (u:Un)(hu:fV u)(is:Is)(hi:sX u is)(pc:Int):ae prog 71 [cg u,.agg (dV is),I pc] (Bn (uF u is pc)):=by
 obtain⟨⟨pq,Tw,Tg⟩,UR⟩:=id hi;have RZ:ay u is=pq.code:=by simp only[ay,Tw]
 have SR:=(List.getElem?_eq_some_iff.1 Tw).1;have Qd:=b9 (f:=mW) (n:=5) iC Tw 4 yA;have hlen:=(hu.pr pq (mem_of_getElem? Tw)).2.2.2.2;have Sa:tree (Bn (uF u is pc))=true:=by
  cases uF u is pc with
  | none=>rfl
  | some x=>simp only[Bn,tree,trees,ca];rfl
 have R6:=bj u;simp only[cR,ints] at R6;refine ae.aE ah Tryz.func71 rfl Ix (by simp[Tryz.ntmps71]) Sa λ C hC RR=>?_;rw[Tryz.ntmps71] at hC;simp only[cg,cR,dV,ints];apply aq;simp[hC];apply aq;simp[hC,SR,Qd,mW];have tco:=cu pq.code;have tco:=cu pq.code;by_cases h1:pc<0
 ·have hn:uF u is pc=none:=by simp[uF,h1]
  apply aW;simp[hC,h1];refine dy ?_;simp;apply aq;simp[hC];apply T.ret;simp;refine aa.le (Le.trim [6,7] [2] 3 xr yA) ?_;simp;refine aa.le (Le.nz [] [2]) ?_;apply aa.here;simp[hn,Bn]
 ·obtain⟨k,rfl⟩:∃ k:Nat,pc=k:=⟨pc.toNat,by omega⟩;by_cases h2:k<pq.code.length
  ·obtain⟨x,hx⟩:∃ x,pq.code[k]? = some x:=⟨_,getElem?_eq_getElem h2⟩;have Um:uF u is k=j4 is x:=by simp[uF,RZ,hx,h1]
   have Ud:=aI (f:=cW) (n:=12) gB hx;obtain⟨xc,UT,_⟩:=oW x;rw[UT] at Ud;have UJ:¬ ((pq.code.length:Int)<=(k:Int)):=by omega
   by_cases R5:∃ g t l ps,x=.call g t l ps
   ·obtain⟨g,t,l,ps,rfl⟩:=R5;have hcal2:uF u is k=some ⟨t,ps.map (iV is)⟩:=by rw[Um];rfl
    have hic:IA (u.ps.map λ q=>(q.ints,q.bp)) u.ms u.gs.length pq.locals pq.bp (pq.code.length-1) (.call g t l ps):=(hu.pc pq (mem_of_getElem? Tw)).2 _ (mem_of_getElem? hx);have T0:=hic.2.2;have SU:=b9 (f:=cW) (n:=12) gB hx 1 yA;have YU:=b9 (f:=cW) (n:=12) gB hx 11 yA;rw[Ks] at SU YU;have Z6:((qX (.call g t l ps) == 2) && (qX (.call g t l ps) == 3))=false:=by cases g<;>rfl
    have hdc2:drop (k*12) (pq.code.flatMap cW)=I (if g=true then 3 else 2)::xc++(pq.code.drop (k+1)).flatMap cW:=by rw[Ud];cases g<;>rfl
    have hpsl:ps.length<=100:=by
     have h5:=hic.1;rw[getElem?_map,Option.map_eq_some_iff] at h5;obtain⟨q',h6,h7⟩:=h5;simp only[Prod.mk.injEq] at h7;have:=(hu.pr q' (mem_of_getElem? h6)).2.1;omega
    rw[hcal2];simp only[Bn];clear Ud;generalize Xi:(if g=true then (3:Int) else 2)=op at hdc2;have hop3:((op != 2) && (op != 3))=false:=by subst Xi;cases g<;>rfl
    have X5:(op != 2)=false\/((op != 2)=true/\(op != 3)=false):=by subst Xi;cases g<;>simp
    refine T.cut (λ s=>s=⟨[(8,.ax (pq.code.flatMap cW) pq.code.length),(6,.aw 2 0),(4,.aw 1 0),(2,I k)],[(2,⟨95,0,[I 0,.aj]⟩),(1,⟨95,0,dV is⟩)],3⟩) ?_ ?_
    ·rcases X5 with hb | ⟨hb,TG⟩
     ·apply aq;simp[hC,UJ,h1,h2,hdc2,hb];refine fX ?_;simp;refine aa.trim [8,6,4,2] [2,1] 3 (by simp[-all_eq_true,-all_flatMap,bP 3 _ (aM is.bp)]) yA ?_;simp[dV]
     ·apply aq;simp[hC,UJ,h1,h2,hdc2,hb,TG];refine fX ?_;simp;refine aa.trim [8,6,4,2] [2,1] 3 (by simp[-all_eq_true,-all_flatMap,bP 3 _ (aM is.bp)]) yA ?_;simp[dV]
    ·rintro s rfl;simp only[dV];apply aq;simp[hC,h2,SU];apply aW;simp[hC];apply T.block;refine T.aH (J27 u is (pq.code.flatMap cW) pq.code.length k t ps) (n:=ps.length) ?_ ?_
     ·refine aa.le (Le.nk 3 1 3 1 rfl rfl) ?_;simp;refine aa.trim [10,9,8,6,4,2] [1,2,3,4] 5 (by simp[-all_eq_true,-all_flatMap,bP 5 _ (aM is.bp)]) yA ⟨0,by omega,by omega,?_⟩;simp[dV,eE]
     ·rintro n s ⟨i,rfl,Xh,rfl⟩;by_cases Og:i<ps.length
      ·obtain⟨q,hq⟩:∃ q,ps[i]? = some q:=⟨ps[i],getElem?_eq_getElem Og⟩;have YS:=aI (f:=gW) (n:=3) lj hq;have hqv:q.param=true->q.index<is.bp.length:=λ hp=>by
        rcases T0 q (mem_of_getElem? hq) with ⟨_,h8,_⟩ | ⟨h8,_⟩
        ·omega
        ·rw[hp] at h8;cases h8
       have UW:=yX is q hqv;have wi:=cF ((i:Int)+1) yA yA;have R3:ps.take (i+1)=ps.take i++[q]:=by rw[take_add_one,hq];rfl
       have Tb:((ps.take i).map (iV is)).length=i:=by simp;omega
       have tN:=aK ((ps.take i).map (iV is));have Wa:(i+1)*8<=140737488355328:=by omega
       obtain⟨q1,q2,q3,q4,hqc,tq⟩:=oL q;rw[hqc] at YS UW;generalize hG:(ps.take i).map (iV is)=G at Tb tN;simp only[dV,eE] at UW |-;apply aW;simp[hC,h2,YU,Og];refine gw ?_;simp;apply eN;refine T.rx ah follows [0,1,2,3,4,5,6,7,8,9,10,11,12,13,14,15] [(1,11),(1,12)] Ix ?_;simp[hC,h2,YU,Og,YS];have RQ:trees [.agg [I is.proc,aB is.bp],.agg [.bool q1,I q2,.ax q3 q4]]=true:=by
        simp only[trees,tree,aM,Bool.and_true]
       refine RX.call rfl rfl rfl rfl rfl RQ UW ?_;simp[Tb,Wa,aY];apply aN;simp[hC,wi];refine⟨ps.length-(i+1),by omega,?_⟩;have tN2:trees ((G.map λ n:Nat=>I n)++[I (iV is q)])=true:=by rw[bg,tN];rfl
       have R4:=au tN2;have U5:=λ ρ=>af ρ _ tN2;have tnt:=aM is.bp;simp only[aB,tree] at tnt;simp only[aB];refine aa.le (Le.norm [10,9,8,6,4,2] [(1,1),(2,2),(3,3),(21,4)] 0 5 Sn Sl yCl yA) ?_;simp[cm,bh,aX,cN,dZ,assoc,U5];refine aa.here ⟨i+1,rfl,by omega,?_⟩;simp[dV,eE,R3,hG,aB]
      ·have RU:i=ps.length:=by omega
       subst RU;rw[take_length];have tN:=aK (ps.map (iV is));have tkN:take ps.length ((ps.map (iV is)).map λ n:Nat=>I n)=(ps.map (iV is)).map λ n:Nat=>I n:=take_of_length_le xr;have hnt:aB (ps.map (iV is))=.ax ((ps.map (iV is)).map λ n:Nat=>I n) ps.length:=by simp[aB]
       simp only[dV,eE];rw[hnt];generalize hG:((ps.map (iV is)).map λ n:Nat=>I n)=G at tN tkN;apply aW;simp[hC,h2,YU];refine a9 ?_;simp;apply T.exit;simp;apply aq;simp[hC];apply T.ret;refine aa.le (Le.trim [6,7] [2,4] 5 (by simp[-all_eq_true,-all_flatMap,ai tN]) yA) ?_;simp;refine aa.le (Le.dn (o:=4) rfl tN) ?_;simp[tkN];apply aa.here;simp
   ·have hn:uF u is k=none:=by
     rw[Um]
     cases x with
     | call g t l ps=>exact (R5 ⟨g,t,l,ps,rfl⟩).elim
     | _=>rfl
    have Z6:((qX x != 2)=true)/\((qX x != 3)=true):=by
     cases x with
     | call g t l ps=>exact (R5 ⟨g,t,l,ps,rfl⟩).elim
     | lock u _=>cases u<;>exact⟨rfl,rfl⟩
     | _=>exact⟨rfl,rfl⟩
    apply aW;simp[hC,UJ,h1,h2,Ud,Z6.1,Z6.2];refine dy ?_;simp;apply aq;simp[hC];apply T.ret;simp;refine aa.le (Le.trim [6,7] [2] 3 xr yA) ?_;simp;refine aa.le (Le.nz [] [2]) ?_;apply aa.here;simp[hn,Bn]
  ·have hn:uF u is k=none:=by simp[uF,RZ,getElem?_eq_none (Nat.le_of_not_lt h2)]
   have UJ:(pq.code.length:Int)<=(k:Int):=by omega
   apply aW;simp[hC,UJ,h1];refine dy ?_;simp;apply aq;simp[hC];apply T.ret;simp;refine aa.le (Le.trim [6,7] [2] 3 xr yA) ?_;simp;refine aa.le (Le.nz [] [2]) ?_;apply aa.here;simp[hn,Bn]
def J94 (l:List Nat)(x:Nat)(m:Nat)(s:St):Prop:=∃ i:Nat,m=l.length-i/\i<=l.length/\(x∉l.take i)/\s=⟨[(5,I i),(0,aB l),(1,I x)],[],0⟩
theorem Mp (l:List Nat)(x:Nat)(hl:l.length<=100000):ae prog 131 [aB l,I x] (.bool (decide (x∈l))):=by
 refine ae.aE ah Tryz.func131 rfl Ix (by simp[Tryz.ntmps131]) rfl λ C hC RR=>?_;rw[Tryz.ntmps131] at hC;simp only[aB];apply aq;simp[hC];apply aW;simp[hC];apply T.block;refine T.aH (J94 l x) (n:=l.length) ?_ ?_
 ·refine aa.trim [5,0,1] [] 0 U2 yA ⟨0,by omega,by omega,by simp,?_⟩;simp[aB]
 ·rintro n s ⟨i,rfl,hi,hx,rfl⟩;simp only[aB];by_cases Og:i<l.length
  ·obtain⟨a,ha⟩:∃ a,l[i]? = some a:=⟨l[i],getElem?_eq_getElem Og⟩;have Qd:=gX ha;have wi:=cF ((i:Int)+1) yA yA;have R3:l.take (i+1)=l.take i++[a]:=by rw[take_add_one,ha];rfl
   apply aW;simp[hC,Og];refine gw ?_;simp;apply eN;by_cases hax:a=x
   ·have hd:decide (x∈l)=true:=by simp only[decide_eq_true_eq];exact hax ▸ mem_of_getElem? ha
    subst hax;apply aq;simp[hC,Og,Qd];refine dy ?_;simp;apply aq;simp[hC];apply T.ret;apply aa.here;rw[hd];simp[Tryz.results131]
   ·have Sb:((a:Int) == (x:Int))=false:=by
     rw[beq_eq_false_iff_ne];omega
    apply aq;simp[hC,Og,Qd,Sb];refine fX ?_;simp;apply aN;simp[hC,wi];refine⟨l.length-(i+1),by omega,aa.trim [5,0,1] [] 0 U2 yA ⟨i+1,rfl,by omega,?_,?_⟩⟩
    ·rw[R3,mem_append,mem_singleton,not_or];exact⟨hx,λ h=>hax h.symm⟩
    ·simp[aB]
  ·have RU:i=l.length:=by omega
   subst RU;rw[take_length] at hx;have hd:decide (x∈l)=false:=by simp[hx]
   apply aW;simp[hC];refine a9 ?_;simp;apply T.exit;simp;apply aq;simp[hC];apply T.ret;apply aa.here;rw[hd];simp[Tryz.results131]
theorem BD:∀ (l:List Nat) (x i:Nat),i<cJ l x->∃ a,l[i]? = some a/\a<x
 | [],x,i,h=>by simp[cJ] at h
 | b::r,x,i,h=>by
  simp only[cJ,takeWhile_cons] at h;split at h
  ·rename_i hb
   cases i with
   | zero=>exact⟨b,rfl,by simpa using hb⟩
   | succ i=>
    obtain⟨a,h1,h2⟩:=BD r x i (by simp only[cJ];simpa using h);exact⟨a,by simpa using h1,h2⟩
  ·simp at h
theorem yG:∀ (l:List Nat) (x:Nat),cJ l x<=l.length/\∀ a,l[cJ l x]? = some a->¬ a<x
 | [],x=>⟨by simp[cJ],λ a h=>by simp[cJ] at h⟩
 | b::r,x=>by
  obtain⟨h1,h2⟩:=yG r x;simp only[cJ,takeWhile_cons] at h1 h2 |-;split
  ·exact⟨by simpa using h1,λ a h=>h2 a TK⟩
  ·rename_i hb;refine⟨by simp,λ a h=>?_⟩;simp only[length_nil,getElem?_cons_zero,Option.some.injEq] at h;subst h
   simpa using hb
def J61 (l:List Nat)(x:Nat)(m:Nat)(s:St):Prop:=∃ i:Nat,m=cJ l x-i/\i<=cJ l x/\s=⟨[(5,I i),(0,aB l),(1,I x)],[],0⟩
theorem BZ (l:List Nat)(x:Nat)(hl:l.length<=100000):ae prog 73 [aB l,I x] (aB (gF l x)):=by
 have hhas:=Mp l x hl;have tl:=aK l;obtain⟨V6,Xg⟩:=yG l x;refine ae.aE ah Tryz.func73 rfl Ix (by simp[Tryz.ntmps73]) (aM _) λ C hC RR=>?_;rw[Tryz.ntmps73] at hC;apply aq;simp[hC];apply aW;simp[hC];have RQ:trees [aB l,I x]=true:=by simp only[trees,aM,tree,Bool.and_self]
 refine cX RQ hhas ?_;simp;by_cases hm:x∈l
 ·have hw:gF l x=l:=if_pos hm;rw[hw];refine T.cond (b:=true) (by simp[ev,assoc,hm]) ?_;simp;apply aq;simp[hC];apply T.ret;apply aa.here;simp[Tryz.results73]
 ·have hw:gF l x=l.take (cJ l x)++x::l.drop (cJ l x):=if_neg hm;rw[hw];refine T.cond (b:=false) (by simp[ev,assoc,hm]) (T.skip ?_);simp;apply aq;simp[hC];apply eN;refine T.aH (J61 l x) (n:=cJ l x) ?_ ?_
  ·refine aa.trim [5,0,1] [] 0 (by simp[-all_eq_true,bP 0 _ (aM l)]) yA ⟨0,by omega,by omega,?_⟩;simp
  ·rintro n s ⟨i,rfl,hi,rfl⟩;simp only[aB];by_cases Og:i<cJ l x
   ·obtain⟨a,ha,hax⟩:=BD l x i Og;have Qd:=gX ha;have Tg:i<l.length:=(List.getElem?_eq_some_iff.1 ha).1;have wi:=cF ((i:Int)+1) yA yA;have hax':(a:Int)<(x:Int):=by omega
    apply aW;simp[hC,Tg,Qd,hax'];refine gw ?_;simp;apply T.block;apply aN;simp[hC,wi];refine⟨cJ l x-(i+1),by omega,aa.trim [5,0,1] [] 0 U2 yA ⟨i+1,rfl,by omega,?_⟩⟩;simp[aB]
   ·have RU:i=cJ l x:=by omega
    subst RU;apply T.seq;refine T.cut (λ s=>s=⟨[(21,.bool false),(5,I (cJ l x)),(0,aB l),(1,I x)],[],0⟩) ?_ ?_
    ·cases S8:l[cJ l x]? with
     | none=>
      have Tg:¬ cJ l x<l.length:=by
       rw[List.getElem?_eq_none_iff] at S8;omega
      apply aN;simp[hC,Tg];refine aa.trim [21,5,0,1] [] 0 U2 yA ?_;simp[aB]
     | some a=>
      have Tg:=(List.getElem?_eq_some_iff.1 S8).1;have Qd:=gX S8;have VV:¬ (a:Int)<(x:Int):=by have:=Xg a S8;omega
      apply aN;simp[hC,Tg,Qd,VV];refine aa.trim [21,5,0,1] [] 0 U2 yA ?_;simp[aB]
    rintro s rfl;refine a9 ?_;simp;apply T.exit;simp[aB];have Vl:cJ l x*8<=140737488355328:=by omega
    have TG:(cJ l x+1)*8<=140737488355328:=by omega
    have hb3:(l.length+1)*8<=140737488355328:=by omega
    have hb4:(cJ l x+1+(l.length-cJ l x))*8<=140737488355328:=by omega
    apply T.seq;refine T.rx ah follows [0,1,2,3,4,5,6,7,8,9,10,11,12] [(0,3),(0,6),(0,10),(3,6),(4,6),(4,10),(6,10),(7,10)] Ix ?_;simp[hC,V6,Vl,TG,hb4,aY];apply T.ret;have hlast:take (l.length-cJ l x) (drop (cJ l x) (l.map λ n:Nat=>I n))=(l.drop (cJ l x)).map λ n:Nat=>I n:=by
     rw[<- map_drop,take_of_length_le xr]
    have Tn:take (cJ l x) (l.map λ n:Nat=>I n)++I x::((l.drop (cJ l x)).map λ n:Nat=>I n)=(l.take (cJ l x)++x::l.drop (cJ l x)).map λ n:Nat=>I n:=by simp
    have hlen:cJ l x+1+(l.length-cJ l x)=(l.take (cJ l x)++x::l.drop (cJ l x)).length:=by simp;omega
    have tN:=aK (l.take (cJ l x)++x::l.drop (cJ l x));simp only[hlast];rw[Tn];have R3:take (l.take (cJ l x)++x::l.drop (cJ l x)).length ((l.take (cJ l x)++x::l.drop (cJ l x)).map λ n:Nat=>I n)=(l.take (cJ l x)++x::l.drop (cJ l x)).map λ n:Nat=>I n:=take_of_length_le xr;rw[hlen];generalize hL:(l.take (cJ l x)++x::l.drop (cJ l x))=L at tN R3;refine aa.le (Le.trim [4] [15] 16 (by simp[-all_eq_true,ai tN]) yA) ?_;simp;refine aa.le (Le.dn (o:=15) rfl tN) ?_;simp[R3];apply aa.here;simp;exact⟨by rw[<- hL];simp,by rw[<- hL];simp;omega⟩
end Go.Proofs.YtlkmbdfhdknlgaaGreat
namespace Go.aJ
open Go.Can
theorem ka (l:List Nat):aB l=ints (l.map λ n:Nat=>(n:Int)):=by simp[aB,ints,List.map_map,Function.comp_def]
def nj (y:Is)(p:Int)(ls:List Int):Bool:=decide ((y.proc:Int)=p) && decide ((y.bp.map λ n:Nat=>(n:Int))=ls)
def kK:List Is->Int->List Int->Int->Int
 | [],_,_,_=>-1
 | y::r,p,ls,i=>if nj y p ls=true then i else kK r p ls (i+1)
end Go.aJ
namespace Go.Proofs.YtlkmbdfhdknlgaaGreat
open Go.Can Go.aJ List Tryz
set_option maxRecDepth 10000 in
theorem oG (a b:List Int)(ha:a.length<=4611686018427387904):ae prog 88 [ints a,ints b] (.bool (decide (a=b))):=by
 refine ae.aE ah Tryz.func88 rfl Ix (by simp[Tryz.ntmps88]) rfl λ C hC RR=>?_;rw[Tryz.ntmps88] at hC;apply aq;simp[hC];apply aW;simp[hC,ints];refine T.bu rfl (λ h=>?_) (λ h=>?_)
 ·apply aq;simp[hC];apply T.ret;apply aa.here;simp[Tryz.results88];intro e;subst e;simp at h
 ·apply T.skip;have hl:a.length=b.length:=by simp at h;omega
  apply aW;simp[hC];apply T.block;refine T.aH (λ m s=>∃ i,m=a.length-i/\i<=a.length/\(∀ j,j<i->a[j]? = b[j]?)/\s=⟨[(5,.int .i64 i),(0,ints a),(1,ints b)],[],0⟩) (n:=a.length) ?_ ?_
  ·refine aa.trim [5,0,1] [] 0 rfl yA ⟨0,rfl,Nat.zero_le _,by simp,?_⟩;simp[ints]
  ·rintro n s ⟨i,rfl,hi,hj,rfl⟩;apply aW;simp[hC,ints];refine T.bu rfl (λ h=>?_) (λ h=>?_)
   ·apply T.skip;have hib:i<a.length:=by simpa using h
    simp;have ea:a[i]? = some a[i]:=getElem?_eq_getElem hib;have eb:b[i]? = some b[i]:=getElem?_eq_getElem yA;refine T.seq (T.block (T.seq (T.rx ah follows [0,1,2,3,4,5,6,7,8] [] Ix ?_)));simp[hC,hib,<- hl];refine T.bu rfl (λ h=>?_) (λ h=>?_)
    ·apply aq;simp[hC];apply T.ret;apply aa.here;simp[Tryz.results88];intro e;subst e;simp at h
    ·apply T.skip;simp;apply aN;simp[hC];refine⟨_,?_,aa.trim [5,0,1] [] 0 rfl yA ⟨i+1,rfl,hib,?_,?_⟩⟩
     ·omega
     ·intro j hj';by_cases e:j=i
      ·subst e;rw[ea,eb];simpa using h
      ·exact hj j yA
     ·simp;rw[cF _ yA yA]
   ·apply T.exit;simp;apply aq;simp[hC];apply T.ret;apply aa.here;simp[Tryz.results88];have:i=a.length:=by simp at h;omega
    subst this;refine ext_getElem? λ j=>?_;by_cases Sv:j<a.length
    ·exact hj j Sv
    ·rw[getElem?_eq_none yA,getElem?_eq_none yA]
def gJ (l:List Is):Ob:=⟨95,2,l.flatMap dV⟩
def J33 (l:List Is)(X Y:CV)(p:Int)(ls:List Int)(n:Nat)(s:St):Prop:=∃ i:Nat,n=l.length-i/\i<=l.length/\kK l p ls 0=kK (l.drop i) p ls i/\s=⟨[(5,I i),(3,.aw 1 0),(2,.aw 0 0)],[(0,⟨34,0,[.ax (l.flatMap dV) l.length,X,Y]⟩),(1,⟨95,0,[I p,ints ls]⟩)],2⟩
set_option maxHeartbeats 4000000 in
theorem Jn (l:List Is)(hl:l.length<=100000)(Tg:∀ x∈l,x.bp.length<=100000)(X Y:CV)(hX:tree X=true)(hY:tree Y=true)(p:Int)(ls:List Int) :
  ae prog 72 [.agg [.ax (l.flatMap dV) l.length,X,Y],.agg [I p,ints ls]] (I (kK l p ls 0)):=by
 have Yd:tree (ints ls)=true:=by simp[ints,tree]
 refine ae.aE ah Tryz.func72 rfl Ix (by simp[Tryz.ntmps72]) rfl λ C hC RR=>?_;rw[Tryz.ntmps72] at hC;apply aq;simp[hC];apply aW;simp[hC];apply T.block;refine T.aH (J33 l X Y p ls) (n:=l.length) ?_ ?_
 ·refine aa.trim [5,3,2] [0,1] 2 yCs yA ⟨0,by omega,by omega,rfl,?_⟩;simp
 ·rintro n s ⟨i,rfl,hi,hf,rfl⟩;by_cases Og:i<l.length
  ·obtain⟨y,hy⟩:∃ y,l[i]? = some y:=⟨l[i],getElem?_eq_getElem Og⟩;have hd:l.drop i=y::l.drop (i+1):=by
    rw[drop_eq_getElem_cons Og,(List.getElem?_eq_some_iff.1 hy).2]
   rw[hd,kK] at hf;have Qd:=aI (f:=dV) (n:=2) gU hy;have TF:=b9 (f:=dV) (n:=2) gU hy 1 yA;have wi:=cF ((i:Int)+1) yA yA;have UP:=oG (y.bp.map λ n:Nat=>(n:Int)) ls (by have:=Tg y (mem_of_getElem? hy);simp;omega);rw[<- ka] at UP;have RQ:trees [aB y.bp,ints ls]=true:=by simp only[trees,aM,Yd,Bool.and_self]
   apply aW;simp[hC,Og];refine gw ?_;simp;apply eN;refine T.cut (λ s=>s=⟨(32,.bool (nj y p ls))::[(5,I i),(3,.aw 1 0),(2,.aw 0 0)],[(0,⟨34,0,[.ax (l.flatMap dV) l.length,X,Y]⟩),(1,⟨95,0,[I p,ints ls]⟩)],2⟩) ?_ ?_
   ·refine T.rx ah follows [0,1,2,3,4,5,6,7,8,9,10,11,12,13,14,15,16,17,18,19] [] Ix ?_;by_cases hp:(y.proc:Int)=p
    ·have UQ:nj y p ls=decide ((y.bp.map λ n:Nat=>(n:Int))=ls):=by simp[nj,hp]
     simp[hC,Og,Qd,dV,hp];refine RX.call rfl rfl rfl rfl rfl RQ UP ?_;simp;refine aa.trim [32,5,3,2] [0,1] 2 yCs yA ?_;simp[UQ]
    ·have UQ:nj y p ls=false:=by simp[nj,hp]
     have Wg:((y.proc:Int) == p)=false:=by simpa using hp
     simp[hC,Og,Qd,dV,Wg];refine aa.trim [32,5,3,2] [0,1] 2 yCs yA ?_;simp[UQ]
   rintro s rfl
   cases hr:nj y p ls with
   | true=>
    rw[if_pos hr] at hf;refine dy ?_;simp;apply aq;simp[hC];apply T.ret;have SP:=hf;simp;apply aa.here;simp[Tryz.results72,SP]
   | false=>
    rw[if_neg (by simp[hr])] at hf;refine fX ?_;simp;apply aN;simp[hC,wi];refine⟨l.length-(i+1),by omega,aa.trim [5,3,2] [0,1] 2 yCs yA ⟨i+1,rfl,by omega,hf,?_⟩⟩;simp
  ·have RU:i=l.length:=by omega
   rw[RU,drop_length,kK] at hf;have SP:=hf;apply aW;simp[hC,Og];refine a9 ?_;simp;apply T.exit;simp;apply aq;simp[hC];apply T.ret;apply aa.here;simp[Tryz.results72,SP]
def J33B (l:List Is)(m:Nat)(cob:Ob)(Y:CV)(p:Int)(ls:List Int)(n:Nat)(s:St):Prop:=∃ i:Nat,n=l.length-i/\i<=l.length/\kK l p ls 0=kK (l.drop i) p ls i/\s=⟨[(5,I i),(3,.aw 3 0),(2,.aw 2 0)],[(2,⟨34,0,[.bb 0 0 l.length,.bb 1 0 m,Y]⟩),(3,⟨95,0,[I p,ints ls]⟩),(0,gJ l),(1,cob)],4⟩
set_option maxHeartbeats 4000000 in
theorem yY (l:List Is)(hl:l.length<=100000)(Tg:∀ x∈l,x.bp.length<=100000)(m:Nat)(cob:Ob)(YV:trees cob.cells=true)(Y:CV)(hY:tree Y=true)(p:Int)(ls:List Int) :
  Body prog av 72 [.agg [.bb 0 0 l.length,.bb 1 0 m,Y],.agg [I p,ints ls]] [(0,gJ l),(1,cob)] 2 (jC (I (kK l p ls 0)) [(0,gJ l),(1,cob)] 2):=by
 have Yd:tree (ints ls)=true:=by simp[ints,tree]
 refine Body.jv Tryz.func72 rfl Ix (by simp[Tryz.ntmps72]) λ C hC RR=>?_;rw[Tryz.ntmps72] at hC;apply aq;simp[hC,gJ];apply aW;simp[hC];apply T.block;refine T.aH (J33B l m cob Y p ls) (n:=l.length) ?_ ?_
 ·refine aa.trim [5,3,2] [2,3,0,1] 4 yD yA ⟨0,by omega,by omega,rfl,?_⟩;simp[gJ]
 ·rintro n s ⟨i,rfl,hi,hf,rfl⟩;by_cases Og:i<l.length
  ·obtain⟨y,hy⟩:∃ y,l[i]? = some y:=⟨l[i],getElem?_eq_getElem Og⟩;have hd:l.drop i=y::l.drop (i+1):=by
    rw[drop_eq_getElem_cons Og,(List.getElem?_eq_some_iff.1 hy).2]
   rw[hd,kK] at hf;have Qd:=aI (f:=dV) (n:=2) gU hy;have TF:=b9 (f:=dV) (n:=2) gU hy 1 yA;have wi:=cF ((i:Int)+1) yA yA;have UP:=oG (y.bp.map λ n:Nat=>(n:Int)) ls (by have:=Tg y (mem_of_getElem? hy);simp;omega);rw[<- ka] at UP;have RQ:trees [aB y.bp,ints ls]=true:=by simp only[trees,aM,Yd,Bool.and_self]
   apply aW;simp[hC,Og];refine gw ?_;simp;apply eN;refine T.cut (λ s=>s=⟨(32,.bool (nj y p ls))::[(5,I i),(3,.aw 3 0),(2,.aw 2 0)],[(2,⟨34,0,[.bb 0 0 l.length,.bb 1 0 m,Y]⟩),(3,⟨95,0,[I p,ints ls]⟩),(0,gJ l),(1,cob)],4⟩) ?_ ?_
   ·refine T.rx ah follows [0,1,2,3,4,5,6,7,8,9,10,11,12,13,14,15,16,17,18,19] [] Ix ?_;by_cases hp:(y.proc:Int)=p
    ·have UQ:nj y p ls=decide ((y.bp.map λ n:Nat=>(n:Int))=ls):=by simp[nj,hp]
     simp[hC,Og,Qd,TF,dV,hp,gJ];refine RX.call rfl rfl rfl rfl rfl RQ UP ?_;simp;refine aa.trim [32,5,3,2] [2,3,0,1] 4 yD yA ?_;simp[UQ]
    ·have UQ:nj y p ls=false:=by simp[nj,hp]
     have Wg:((y.proc:Int) == p)=false:=by simpa using hp
     simp[hC,Og,Qd,dV,Wg,gJ];refine aa.trim [32,5,3,2] [2,3,0,1] 4 yD yA ?_;simp[UQ]
   rintro s rfl
   cases hr:nj y p ls with
   | true=>
    rw[if_pos hr] at hf;refine dy ?_;simp;apply aq;simp[hC];apply T.ret;have SP:=hf;simp;refine aa.trim [4] [0,1] 2 (by simp[-all_eq_true,ai YV,ai (ak ca l),gJ]) yA ⟨_,?_,rfl,?_,rfl⟩
    ·simp[Tryz.results72,SP]
    ·simp[gJ]
   | false=>
    rw[if_neg (by simp[hr])] at hf;refine fX ?_;simp;apply aN;simp[hC,wi];refine⟨l.length-(i+1),by omega,aa.trim [5,3,2] [2,3,0,1] 4 (by simp[-all_eq_true,-all_flatMap,bP 4 _ hY,ai (ak ca l),bP 4 _ Yd,ai YV,gJ]) yA ⟨i+1,rfl,by omega,hf,?_⟩⟩;simp[gJ]
  ·have RU:i=l.length:=by omega
   rw[RU,drop_length,kK] at hf;have SP:=hf;apply aW;simp[hC,Og];refine a9 ?_;simp;apply T.exit;simp;apply aq;simp[hC];apply T.ret;refine aa.trim [4] [0,1] 2 (by simp[-all_eq_true,ai YV,ai (ak ca l),gJ]) yA ⟨_,?_,rfl,?_,rfl⟩
   ·simp[Tryz.results72,SP]
   ·simp[gJ]
end Go.Proofs.YtlkmbdfhdknlgaaGreat
namespace Go.aJ
open Go.Can List
def comb (n:Nat):Nat->List (List Nat)
 | 0=>[[]]
 | k+1=>(range n).flatMap λ a=>(comb n k).map (a :: ·)
theorem CA (n:Nat):∀ (l:List Nat),(∀ x∈l,x<n)->l∈comb n l.length
 | [],_=>by simp[comb]
 | a::r,h=>by
  simp only[length_cons,comb,mem_flatMap,mem_range,mem_map];exact⟨a,h a mem_cons_self,r,CA n r λ x hx=>h x (mem_cons_of_mem _ hx),rfl⟩
theorem BT (c:Nat):∀ l:List Nat,(∀ x∈l,x<=c)->l.sum<=l.length*c
 | [],_=>by simp
 | a::r,h=>by
  have h1:=h a mem_cons_self;have h2:=BT c r λ x hx=>h x (mem_cons_of_mem _ hx);rw[sum_cons,length_cons,Nat.succ_mul];omega
theorem Dp (n:Nat):∀ k,(comb n k).length=n ^ k
 | 0=>by simp[comb]
 | k+1=>by
  simp only[comb,length_flatMap,length_map,Dp n k];rw[map_const',sum_replicate_nat,length_range,Nat.pow_succ,Nat.mul_comm]
def yd (n:Nat):Nat->List Pr->List Is
 | _,[]=>[]
 | t,q::r=>(comb n q.bp).map (λ ls=>⟨t,ls⟩)++yd n (t+1) r
theorem CB (n:Nat):∀ (l:List Pr) (t j:Nat) (q:Pr) (x:Is),l[j]? = some q->x.proc=t+j->x.bp.length=q.bp->(∀ a∈x.bp,a<n)->x∈yd n t l
 | [],_,_,_,_,h,_,_,_=>by simp at h
 | p::r,t,0,q,x,h,hp,hl,ha=>by
  simp only[getElem?_cons_zero,Option.some.injEq] at h;subst h;simp only[yd,mem_append,mem_map];refine .inl ⟨x.bp,by rw[<- hl];exact CA n _ ha,?_⟩;cases x;simp only at hp;simp[hp]
 | p::r,t,j+1,q,x,h,hp,hl,ha=>by
  simp only[getElem?_cons_succ] at h;simp only[yd,mem_append];exact .inr (CB n r (t+1) j q x h yA hl ha)
theorem zi {α:Type}(w:α->Nat):∀ (l m:List α),l.Nodup->(∀ x∈l,x∈m)->(l.map w).sum<=(m.map w).sum
 | [],_,_,_=>by simp
 | a::r,m,hn,hs=>by
  obtain⟨m1,m2,rfl⟩:=append_of_mem (hs a mem_cons_self);rw[nodup_cons] at hn;have ih:=zi w r (m1++m2) hn.2 λ x hx=>by
   have h1:=hs x (mem_cons_of_mem _ hx);have Sb:x≠a:=λ e=>hn.1 (e ▸ hx);simp only[mem_append,mem_cons] at h1 |-;rcases h1 with h | h | h
   ·exact .inl h
   ·exact (Sb h).elim
   ·exact .inr h
  simp only[map_append,sum_append,map_cons,sum_cons] at ih |-;omega
theorem DD {u:Un}(w:Is->Nat)(c:Nat)(n:Nat)(hw:∀ x,w x<=c)(hn:n<=4):∀ (l:List Pr) (t:Nat),(∀ q∈l,q.bp<=2)->((yd n t l).map w).sum<=l.length*(16*c)
 | [],_,_=>by simp[yd]
 | q::r,t,h=>by
  have h1:=DD (u:=u) w c n hw hn r (t+1) λ x hx=>h x (mem_cons_of_mem _ hx);have h2:=h q mem_cons_self;have h3:(comb n q.bp).length<=16:=by
   rw[Dp]
   calc n ^ q.bp<=4 ^ q.bp:=Nat.pow_le_pow_left hn _
    _<=4 ^ 2:=Nat.pow_le_pow_right yA h2
  have h4:(((comb n q.bp).map λ ls=>(⟨t,ls⟩:Is)).map w).sum<=16*c:=by
   refine Nat.le_trans (BT c _ λ x hx=>?_) (Nat.mul_le_mul_right c (by simpa using h3));simp only[mem_map] at hx;obtain⟨y,_,rfl⟩:=hx;exact hw y
  have h5:(r.length+1)*(16*c)=r.length*(16*c)+16*c:=Nat.succ_mul _ _;simp only[yd,map_append,sum_append,length_cons];omega
theorem CQ {u:Un}(hu:fV u)(w:Is->Nat)(c:Nat)(hw:∀ x,w x<=c){l:List Is}(hn:l.Nodup)(hv:∀ x∈l,sX u x):(l.map w).sum<=c+48*c:=by
 have Xd:=hu.np;have SW:=hu.nm;have h1:=zi w l (yd u.ms.length 0 u.ps) hn λ x hx=>by
  obtain⟨⟨q,hq,hl⟩,hm⟩:=hv x hx;exact CB _ _ 0 x.proc q x hq yA hl hm
 refine Nat.le_trans h1 ?_
 cases TC:u.ps with
 | nil=>rw[TC] at Xd;simp at Xd
 | cons q0 r=>
  have h0:=hu.p0 q0 (by rw[TC];rfl);have hr:r.length<=3:=by rw[TC] at Xd;simp at Xd;omega
  have h2:=DD (u:=u) w c u.ms.length hw SW.2 r 1 λ q hq=>(hu.pr q (by rw[TC];exact mem_cons_of_mem _ hq)).2.1;have h3:(yd u.ms.length 0 (q0::r))=⟨0,[]⟩ :: yd u.ms.length 1 r:=by simp[yd,h0.2,comb]
  rw[h3,map_cons,sum_cons];have h4:=hw ⟨0,[]⟩;have h5:r.length*(16*c)<=48*c:=by
   calc r.length*(16*c)<=3*(16*c):=Nat.mul_le_mul_right _ hr
    _=48*c:=by omega
  omega
theorem jy {u:Un}(hu:fV u){l:List Is}(hn:l.Nodup)(hv:∀ x∈l,sX u x):l.length<=49:=by
 have:=CQ hu (λ _=>1) 1 (λ _=>Nat.le_refl _) hn hv;rw[map_const',sum_replicate_nat] at this;omega
theorem mP {u:Un}(hu:fV u)(x:Is):(ay u x).length<=145:=by
 unfold ay
 cases h:u.ps[x.proc]? with
 | none=>simp
 | some q=>exact (hu.pr q (mem_of_getElem? h)).2.2.2.2
theorem EO {u:Un}(hu:fV u){l:List Is}(hn:l.Nodup)(hv:∀ x∈l,sX u x):(l.map λ x=>(ay u x).length).sum<=7105:=
 CQ hu _ 145 (mP hu) hn hv
theorem nW {l:List Is}{x:Is}(h:l.Nodup):(fx l x).Nodup:=by
 unfold fx;split
 ·exact h
 ·rename_i hx;refine nodup_append.2 ⟨h,by simp,λ a ha b hb e=>?_⟩;rw[mem_singleton] at hb;subst hb;subst e;exact hx ha
theorem Fl {u:Un}{l:List Is}{x:Is}(h:∀ y∈l,sX u y)(hx:sX u x):∀ y∈fx l x,sX u y:=by
 unfold fx;split
 ·exact h
 ·intro y hy;rcases mem_append.1 hy with hy | hy
  ·exact h y hy
  ·rw[mem_singleton] at hy;subst hy;exact hx
theorem NT {l:List Is}{x y:Is}{i:Nat}(h:l[i]? = some y):(fx l x)[i]? = some y:=by
 unfold fx;split
 ·exact h
 ·rw[getElem?_append_left (List.getElem?_eq_some_iff.1 h).1];exact h
theorem DF (l:List Is)(x:Is):x∈fx l x:=by
 unfold fx;split
 ·assumption
 ·simp
theorem DE (l:List Is)(x:Is):∃ t,fx l x=l++t:=by
 unfold fx;split
 ·exact⟨[],by simp⟩
 ·exact⟨[x],rfl⟩
theorem rH (x:Is):∀ (c:List In) (l:List Is) (r:List Nat),∃ t,(iu x c l r).1=l++t
 | [],l,r=>⟨[],by simp[iu]⟩
 | i::c,l,r=>by
  simp only[iu]
  cases j4 x i with
  | none=>exact rH x c l r
  | some y=>
   simp only;obtain⟨t1,h1⟩:=DE l y;obtain⟨t2,h2⟩:=rH x c (fx l y) (if uk i=true then gF r (ez (fx l y) y) else r);exact⟨t1++t2,by rw[h2,h1,append_assoc]⟩
theorem vO {l:List Is}{x:Is}(h:x∈l):ez l x<l.length:=by
 unfold ez;exact findIdx_lt_length_of_exists ⟨x,h,by simp⟩
end Go.aJ
