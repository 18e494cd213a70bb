/- Unit. -/
import Derived.Test.YtlkmbdfhdknlgaaGreatDoorZ37
namespace Go.Proofs.YtlkmbdfhdknlgaaGreatDoor
open Go.Can Go.aT
theorem wW (l:List Int):jP (jV (zV l)):=by
 have h:=Gw l;refine h.unit (fun f hf=>?_) fun f hf=>?_
 ·have h1:=y4 (List.mem_map_of_mem (f:=fun f:Fu=>bz f.body) hf);have h2:=h.wt;omega
 ·obtain⟨k,hk,e⟩:=h.pn f hf;have h5:=congrArg List.length e;simp only[List.length_map,List.length_reverse,List.length_take,nP,List.length_cons,List.length_nil] at h5;omega
theorem ET (l:List Int)(hl:l.length≤9223372036854775807):ae Tryz.prog 6 [ints l] (.db [tv (zV l),dt (jV (zV l)),ja (av (jV (zV l)))]):=by
 have hp:=yR l hl;have OU:=Dl (zV l) (Gw l);have De:=tj (jV (zV l)) (wW l);generalize jV (zV l)=u at OU De;generalize zV l=p at hp OU;generalize av u=c at De;have Kd:=bB u;obtain⟨t1,t2,t3⟩:=gN p;have tp:trees (dH p)=true:=by simp only[dH,trees,t1,t2,t3];rfl
 have tc:trees (fe c)=true:=by simp only[fe,trees,tree,aP];rfl
 have LN:tree (.db [tv p,dt u,ja c])=true:=by simp only[tree,trees,tv,dt,ja,tp,Kd,tc];rfl
 refine ae.aD af Tryz.func6 rfl lz (by simp[Tryz.ntmps6]) LN fun C hC xJ=>?_;rw[Tryz.ntmps6] at hC;have Ul:trees [ints l]=true:=by simp only[trees,iD,Bool.and_self]
 have RY:trees [tv p]=true:=by simp only[trees,tree,tv,tp,Bool.and_self]
 have RW:trees [dt u]=true:=by simp only[trees,tree,dt,Kd,Bool.and_self]
 simp only[tv,dH,dt,dj,ja,fe] at hp OU De RY RW ⊢;apply ah;simp[hC];apply ah;simp[hC];refine dk Ul hp ?_;simp[hC];apply ah;simp[hC];refine dk RY OU ?_;simp[hC];apply ah;simp[hC];refine dk RW De ?_;simp[hC];apply T.seq;refine T.rx af follows [0,1,2,3,4,5] [(1,3),(2,3),(2,4)] lz ?_;simp[hC];apply T.ret;apply aa.here;simp[Tryz.results6]
end Go.Proofs.YtlkmbdfhdknlgaaGreatDoor
namespace Go.aT
open Go.Can
def stpR (c:Cl)(L m:Nat)(sm:List (List Nat))(i:Nat)(x:Is)(z:In)(pc:Nat):List Nat:=if km z=true then sm.getD (sH c i pc) [] else shF L (dO x m z)
def swA (a:List Nat):List Nat→List (List Nat)×Bool→List (List Nat)×Bool
 | [],s=>s
 | q::r,s=>swA a r (if inR a (s.1.getD q [])=true then s else (s.1.set q (unR (s.1.getD q []) a),true))
def nR (u:Un)(c:Cl)(L m i:Nat)(x:Is)(sm t0:List (List Nat)):Nat→List (List Nat)×Bool
 | 0=>(t0,false)
 | pc+1=>match (aC u x)[pc]? with
  | none=>nR u c L m i x sm t0 pc
  | some z=>swA (coR ((nR u c L m i x sm t0 pc).1.getD pc []) (stpR c L m sm i x z pc)) (qp z pc) (nR u c L m i x sm t0 pc)
section
variable (u:Un)(c:Cl)(m L:Nat)
structure EnH:Prop where
 L8:L≤8
 kal:∀ i x pc z,c.is[i]? = some x→(aC u x)[pc]? = some z→km z=true→sH c i pc<c.is.length
 root:∀ r∈c.roots,r<c.is.length
end
theorem Aj {u:Un}{x:Is}(h:p6 u x):∃ q,u.ps[x.proc]? = some q∧aC u x=q.code:=by
 obtain⟨⟨q,hq,_⟩,_⟩:=h;exact⟨q,hq,by simp only[aC,hq]⟩
theorem JY {u:Un}(hu:jP u){x:Is}(h:p6 u x){pc:Nat}{z:In}(hz:(aC u x)[pc]? = some z)(hr:z≠.ret):pc+1<(aC u x).length:=by
 obtain⟨q,hq,hc⟩:=Aj h;obtain⟨⟨c,RE⟩,_⟩:=hu.pc q (List.mem_of_getElem? hq);rw[hc,RE] at hz ⊢;have h1:=(List.getElem?_eq_some_iff.1 hz).1;simp only[List.length_append,List.length_singleton] at h1 ⊢;by_cases h:pc=c.length
 ·rw[h] at hz;simp at hz;exact (hr hz.symm).elim
 ·omega
theorem JS {u:Un}(hu:jP u){x:Is}(h:p6 u x):0<(aC u x).length:=by
 obtain⟨q,hq,hc⟩:=Aj h;obtain⟨⟨c,RE⟩,_⟩:=hu.pc q (List.mem_of_getElem? hq);rw[hc,RE];simp
theorem oB {u:Un}(hu:jP u){x:Is}(h:p6 u x){pc:Nat}{z:In}(hz:(aC u x)[pc]? = some z):∃ q,u.ps[x.proc]? = some q∧aC u x=q.code∧x.bx.length=q.bx∧BY (u.ps.map fun q=>(q.ints,q.bx)) u.ms u.gs.length q.locals q.bx ((aC u x).length-1) z:=by
 obtain⟨⟨q,hq,hl⟩,_⟩:=h;have hc:aC u x=q.code:=by simp only[aC,hq]
 rw[hc] at hz ⊢;exact⟨q,hq,rfl,hl,(hu.pc q (List.mem_of_getElem? hq)).2 z (List.mem_of_getElem? hz)⟩
theorem J0 {u:Un}(hu:jP u){x:Is}(h:p6 u x){pc:Nat}{z:In}(hz:(aC u x)[pc]? = some z){q:Nat}(hq:q∈qp z pc):q<(aC u x).length:=by
 have hp:=JS hu h;obtain⟨_,_,_,_,hi⟩:=oB hu h hz;have hn:z≠.ret→pc+1<(aC u x).length:=JY hu h hz
 cases z with
 | ret=>cases hq
 | jump g=>
  have:g≤(aC u x).length-1:=hi;simp only[qp,List.mem_singleton] at hq;omega
 | branch g e=>
  have h1:g≤(aC u x).length-1:=hi.1;have h2:=hn j5;simp only[qp] at hq;split at hq
  ·simp only[List.mem_singleton] at hq;omega
  ·simp only[List.mem_cons,List.not_mem_nil,or_false] at hq;omega
 | set t g e=>
  have h2:=hn j5;simp only[qp,List.mem_singleton] at hq;omega
 | call g t l ps=>
  have h2:=hn j5;simp only[qp,List.mem_singleton] at hq;omega
 | lock un p=>
  have h2:=hn j5;simp only[qp,List.mem_singleton] at hq;omega
theorem HW {u:Un}(hu:jP u){i:Nat}{x:Is}(hx:(av u).is[i]? = some x){pc:Nat}{z:In}(hz:(aC u x)[pc]? = some z){y:Is}(hy:iy x z=some y):((av u).calls.getD i []).getD pc (-1)=(fo (av u).is y:Int)∧y∈(av u).is:=by
 have ci:=F4 hu;have hi:=(List.getElem?_eq_some_iff.1 hx).1;have h1:=ci.row i x hi hx;refine⟨?_,ci.mem i x hi hx z (List.mem_of_getElem? hz) y hy⟩;have hg:(av u).calls.getD i []=uI (av u).is x (aC u x):=by
  rw[List.getD_eq_getElem?_getD,h1];rfl
 rw[hg,uI,List.getD_eq_getElem?_getD,List.getElem?_map,hz];simp only[Option.map_some,Option.getD_some,hy]
theorem BJ {x:Is}{z:In}(h:km z=true):∃ y,iy x z=some y:=by
 cases z with
 | call g t l ps=>exact⟨_,rfl⟩
 | _=>simp[km] at h
theorem FI {u:Un}(hu:jP u){i:Nat}{x:Is}(hx:(av u).is[i]? = some x){pc:Nat}{z:In}(hz:(aC u x)[pc]? = some z)(hc:km z=true):sH (av u) i pc<(av u).is.length∧((av u).calls.getD i []).getD pc (-1)=(sH (av u) i pc:Int):=by
 obtain⟨y,hy⟩:=BJ (x:=x) hc;obtain⟨h1,h2⟩:=HW hu hx hz hy;have h3:sH (av u) i pc=fo (av u).is y:=by
  rw[sH,h1];simp
 rw[h3];exact⟨FO h2,h1⟩
theorem J3 {u:Un}(hu:jP u){L:Nat}(h8:L≤8):EnH u (av u) L:=by
 refine⟨h8,fun i x pc z hx hz hc=>(FI hu hx hz hc).1,fun r hr=>?_⟩;have ci:=F4 hu;rcases (ci.root r).1 hr with rfl | ⟨j,x,hj,hx,z,hz,_,y,hy,rfl⟩
 ·exact ci.pos
 ·exact FO (ci.mem j x hj hx z hz y hy)
theorem Eb {u:Un}(hu:jP u):∀ (f i:Nat) (l:List Is) (cs:List (List Int)) (r:List Nat),l.Nodup→(∀ y∈l,p6 u y)→∀ y∈(kG u f i l cs r).is,p6 u y
 | 0,_,_,_,_,_,h=>h
 | f+1,i,l,cs,r,hn,h=>by
  simp only[kG];split
  ·exact h
  ·rename_i x hx;obtain⟨h1,h2⟩:=nS hu (h x (List.mem_of_getElem? hx)) (aC u x) l r (fun _ h=>h) hn h;exact Eb hu f (i+1) _ _ _ h1 h2
theorem Iv {u:Un}(hu:jP u):∀ y∈(av u).is,p6 u y:=by
 refine Eb hu 100 0 [⟨u.main,[]⟩] [] [0] j5 fun x hx=>?_;rw[List.mem_singleton.1 hx];have hp:=hu.np.1;obtain⟨q,hq⟩:∃ q,u.ps[0]? = some q:=⟨_,List.getElem?_eq_getElem yA⟩;exact⟨⟨q,by rw[hu.main];exact hq,by rw[(hu.p0 q hq).2];rfl⟩,fun l hl=>by cases hl⟩
theorem AB (l:List Nat)(n:Nat):(eY l n).length≤l.length+1:=by
 unfold eY;split
 ·omega
 ·simp;omega
theorem yE (x:Is):∀ (c:List In) (l:List Is) (r:List Nat),(fJ x c l r).2.2.length≤r.length+c.length
 | [],_,_=>by simp[fJ]
 | i::c,l,r=>by
  cases h:iy x i with
  | none=>
   have:=yE x c l r;simp only[fJ,h,List.length_cons];omega
  | some y=>
   have:=yE x c (dQ l y) (if pj i=true then eY r (fo (dQ l y) y) else r);have h2:(if pj i=true then eY r (fo (dQ l y) y) else r).length≤r.length+1:=by
    split
    ·exact AB _ _
    ·omega
   simp only[fJ,h,List.length_cons];omega
theorem Ao {u:Un}(hu:jP u):∀ (f i:Nat) (l:List Is) (cs:List (List Int)) (r:List Nat),(kG u f i l cs r).roots.length≤r.length+145*f
 | 0,_,_,_,_=>by simp[kG]
 | f+1,i,l,cs,r=>by
  simp only[kG];split
  ·simp
  ·rename_i x _;have h1:=Ao hu f (i+1) (fJ x (aC u x) l r).1 (cs++[(fJ x (aC u x) l r).2.1]) (fJ x (aC u x) l r).2.2;have h2:=yE x (aC u x) l r;have h3:=gX hu x;omega
theorem An {u:Un}(hu:jP u):(av u).roots.length≤14501:=Ao hu 100 0 _ _ _
theorem xh {cs:List CV}(h:cs.length=11):∃ c1 c2 c3 c4 c5 c6 c7 c8 c9 RM RL,cs=[c1,c2,c3,c4,c5,c6,c7,c8,c9,RM,RL]:=by
 match cs,h with
 | [a,b,c,d,e,f,g,h,i,j,k],_=>exact⟨a,b,c,d,e,f,g,h,i,j,k,rfl⟩
end Go.aT
namespace Go.Proofs.YtlkmbdfhdknlgaaGreatDoor
open Go.Can Go.aT
theorem DR (e:Ex):(bC e).all one=true:=by cases e<;>rfl
theorem Fp (o:Option Ex):one (mK o)=true:=by rw[lB];rfl
theorem CQ (q:Pl):(mU q).all one=true:=by simp only[mU,List.all_cons,List.all_nil,Fp];rfl
theorem lF (x:In):(cK x).all one=true:=by
 cases x<;>simp only[cK,List.cons_append,List.nil_append,List.append_assoc,List.all_append,List.all_cons,List.all_nil,DR,CQ,one,Bool.and_self,Bool.and_true,Bool.true_and]<;>rfl
theorem Da (is:Is)(q:Pl)(h:q.param=true→q.index<is.bx.length):ae Tryz.prog 117 [.agg (cP is),.agg (mU q)] (I (l9 is q)):=by
 refine ae.aD af Tryz.func117 rfl lz (by simp[Tryz.ntmps117]) rfl fun C hC xJ=>?_;rw[Tryz.ntmps117] at hC;simp only[cP,mU,aN,lB];apply ah;simp[hC]
 cases hq:q.param with
 | true=>
  have yN:=h hq;obtain⟨n,hn⟩:∃ n,is.bx[q.index]? = some n:=⟨_,List.getElem?_eq_getElem yN⟩;have oy:=mY hn;have Rc:l9 is q=n:=by simp[l9,hq,List.getD_eq_getElem?_getD,hn]
  apply aL;simp[hC,yN];refine cz ?_;simp;apply ah;simp[hC,yN,oy];apply T.ret;apply aa.here;simp[Tryz.results117,Rc]
 | false=>
  have Rc:l9 is q=q.index:=by simp[l9,hq]
  apply aL;simp[hC];refine dg ?_;simp;apply ah;simp[hC];apply T.ret;apply aa.here;simp[Tryz.results117,Rc]
set_option maxHeartbeats 2000000 in
theorem yO {u:Un}(hu:jP u){x:Is}(hx:p6 u x){k:Nat}{z:In}(hz:(aC u x)[k]? = some z)(m:Nat):ae Tryz.prog 28 [dt u,.agg (cP x),I k,I m] (I (dO x m z)):=by
 obtain⟨pq,K2,J9,NZ,Ty⟩:=oB hu hx hz;rw[J9] at hz;have LX:=(List.getElem?_eq_some_iff.1 K2).1;have Ke:=(List.getElem?_eq_some_iff.1 hz).1;have oy:=bb (f:=kR) (n:=5) ig K2 4 yA;have KJ:=az (f:=cK) (n:=12) eV hz;have MT:=lF z;have NL:=gw z;have Kd:=bB u;simp only[dj,ints] at Kd;obtain⟨xc,Lp,LM⟩:=jG z;obtain⟨c1,c2,c3,c4,c5,c6,c7,c8,c9,RM,RL,rfl⟩:=xh LM;rw[Lp] at KJ MT NL;simp only[List.all_cons,List.all_nil,Bool.and_true,Bool.and_eq_true] at MT;obtain⟨_,o1,o2,o3,o4,o5,o6,o7,o8,o9,Up,Uo⟩:=MT;refine ae.aD af Tryz.func28 rfl lz (by simp[Tryz.ntmps28]) rfl fun C hC xJ=>?_;rw[Tryz.ntmps28] at hC;simp only[dt,dj,cP,ints];apply ah;simp[hC];apply ah;simp[hC,LX,oy,kR,Ke,KJ];apply fw;by_cases Tq:∃ un p,z=.lock un p
 ·obtain⟨un,p,rfl⟩:=Tq;have hp:mU p=[c7,c8,c9]:=by
   have h:=congrArg (fun l=>(l.drop 7).take 3) Lp
   simpa [cK,bC,mU] using h
  have S9:EF u.ms u.gs.length pq.locals pq.bx p:=Ty;have hq:p.param=true→p.index<x.bx.length:=fun h=>by
   rw[NZ];rcases S9 with h6 | h6
   ·exact h6.2.1
   ·rw[h] at h6;cases h6.1
  have L5:=td x p hq;rw[hp] at L5;have h2:trees [c7,c8,c9]=true:=by rw[← hp];exact iA p
  have tp:trees [.agg (cP x),.agg [c7,c8,c9]]=true:=by
   rw[show trees [.agg (cP x),.agg [c7,c8,c9]]=(trees (cP x) && (trees [c7,c8,c9] && true)) from rfl,bL,h2];rfl
  simp only[cP] at L5 tp
  cases un with
  | false=>
   have Fm:lA (.lock false p)=4:=rfl;rw[Fm];apply ah;simp[hC];refine TL.bG yI rfl rfl rfl rfl (bm.of rfl tp L5) (TL.go' af ?_);by_cases L9:l9 x p=m
   ·have hc:dO x m (.lock false p)=1:=by simp[dO,L9]
    rw[hc];simp[hC,L9];refine cz ?_;simp;apply ah;simp[hC];apply T.ret;apply aa.here;simp[Tryz.results28]
   ·have hc:dO x m (.lock false p)=0:=by simp[dO,L9]
    have Re:¬ ((l9 x p:Int)=(m:Int)):=by omega
    rw[hc];simp[hC];refine T.cond (b:=false) (by simp[ev,assoc,L9]) ?_;simp;apply ah;simp[hC];refine dg ?_;simp;apply ah;simp[hC];apply T.ret;apply aa.here;simp[Tryz.results28]
  | true=>
   have Fm:lA (.lock true p)=5:=rfl;rw[Fm];apply ah;simp[hC];refine aU ?_;simp;apply ah;simp[hC];refine TL.bG yI rfl rfl rfl rfl (bm.of rfl tp L5) (TL.go' af ?_);by_cases L9:l9 x p=m
   ·have hc:dO x m (.lock true p)=-1:=by simp[dO,L9]
    rw[hc];simp[hC,L9];refine cz ?_;simp;apply ah;simp[hC];apply T.ret;apply aa.here;simp[Tryz.results28]
   ·have hc:dO x m (.lock true p)=0:=by simp[dO,L9]
    rw[hc];simp[hC];refine T.cond (b:=false) (by simp[ev,assoc,L9]) (T.skip ?_);simp;apply ah;simp[hC];apply T.ret;apply aa.here;simp[Tryz.results28]
 ·have Kq:(((lA z:Int) == 4)=false∧((lA z:Int) == 5)=false)∧dO x m z=0:=by
   cases z with
   | lock un p=>exact (Tq ⟨un,p,rfl⟩).elim
   | call g t l ps=>cases g<;>exact⟨⟨rfl,rfl⟩,rfl⟩
   | _=>exact⟨⟨rfl,rfl⟩,rfl⟩
  obtain⟨⟨h4,h5⟩,hc⟩:=Kq;rw[hc];apply ah;simp[hC,h4];refine aU ?_;simp;apply ah;simp[hC,h5];refine dg ?_;simp;apply ah;simp[hC];apply T.ret;apply aa.here;simp[Tryz.results28]
theorem At (x:Mx):kk x≤8:=by unfold kk;split<;>omega
theorem C9 (x:Mx):(eQ x).length=3:=rfl
theorem wK {u:Un}(hu:jP u){x:Is}(hx:p6 u x){k:Nat}{z:In}(hz:(aC u x)[k]? = some z):ae Tryz.prog 93 [dt u,.agg (cP x),I k] (.agg (cK z)):=by
 obtain⟨pq,K2,J9,NZ,Ty⟩:=oB hu hx hz;rw[J9] at hz;have LX:=(List.getElem?_eq_some_iff.1 K2).1;have Ke:=(List.getElem?_eq_some_iff.1 hz).1;have oy:=bb (f:=kR) (n:=5) ig K2 4 yA;have KJ:=az (f:=cK) (n:=12) eV hz;have MT:=lF z;have NL:=gw z;have Kd:=bB u;simp only[dj,ints] at Kd;obtain⟨xc,Lp,LM⟩:=jG z;obtain⟨c1,c2,c3,c4,c5,c6,c7,c8,c9,RM,RL,rfl⟩:=xh LM;rw[Lp] at KJ MT NL ⊢;simp only[List.all_cons,List.all_nil,Bool.and_true,Bool.and_eq_true] at MT;obtain⟨_,o1,o2,o3,o4,o5,o6,o7,o8,o9,Up,Uo⟩:=MT;have LN:tree (.agg [I (lA z),c1,c2,c3,c4,c5,c6,c7,c8,c9,RM,RL])=true:=by simp only[tree,NL]
 refine ae.aD af Tryz.func93 rfl lz (by simp[Tryz.ntmps93]) LN fun C hC xJ=>?_;rw[Tryz.ntmps93] at hC;simp only[dt,dj,cP,ints];apply ah;simp[hC];apply ah;simp[hC,LX,oy,kR,Ke,KJ];apply T.ret;apply aa.here;simp[Tryz.results93]
set_option maxHeartbeats 2000000 in
theorem yS {u:Un}(hu:jP u){x:Is}(hx:p6 u x){k:Nat}{z:In}(hz:(aC u x)[k]? = some z)(m:Nat):ae Tryz.prog 90 [dt u,.agg (cP x),I k,I m] (I (dO x m z)):=by
 have Mi:=wK hu hx hz;obtain⟨pq,K2,J9,NZ,Ty⟩:=oB hu hx hz;have MT:=lF z;have NL:=gw z;have Kd:=bB u;have ti:=bL x;obtain⟨xc,Lp,LM⟩:=jG z;obtain⟨c1,c2,c3,c4,c5,c6,c7,c8,c9,RM,RL,rfl⟩:=xh LM;rw[Lp] at MT NL Mi;simp only[List.all_cons,List.all_nil,Bool.and_true,Bool.and_eq_true] at MT;obtain⟨_,o1,o2,o3,o4,o5,o6,o7,o8,o9,Up,Uo⟩:=MT;have t2:trees [dt u,.agg (cP x),I k]=true:=by simp only[trees,tree,dt,Kd,ti,Bool.and_self]
 refine ae.aD af Tryz.func90 rfl lz (by simp[Tryz.ntmps90]) rfl fun C hC xJ=>?_;rw[Tryz.ntmps90] at hC;simp only[dt,dj,cP,ints] at Mi t2 ⊢;apply ah;simp[hC];apply ah;simp[hC];refine dk t2 Mi ?_;simp[hC];by_cases Tq:∃ un p,z=.lock un p
 ·obtain⟨un,p,rfl⟩:=Tq;have hp:mU p=[c7,c8,c9]:=by
   have h:=congrArg (fun l=>(l.drop 7).take 3) Lp
   simpa [cK,bC,mU] using h
  have S9:EF u.ms u.gs.length pq.locals pq.bx p:=Ty;have hq:p.param=true→p.index<x.bx.length:=fun h=>by
   rw[NZ];rcases S9 with h6 | h6
   ·exact h6.2.1
   ·rw[h] at h6;cases h6.1
  have L5:=Da x p hq;rw[hp] at L5;have h2:trees [c7,c8,c9]=true:=by rw[← hp];exact iA p
  have tp:trees [.agg (cP x),.agg [c7,c8,c9]]=true:=by
   rw[show trees [.agg (cP x),.agg [c7,c8,c9]]=(trees (cP x) && (trees [c7,c8,c9] && true)) from rfl,bL,h2];rfl
  simp only[cP] at L5 tp
  cases un with
  | false=>
   have Fm:lA (.lock false p)=4:=rfl;rw[Fm];apply aL;simp[hC];refine TL.bG yI rfl rfl rfl rfl (bm.of rfl tp L5) (TL.go' af ?_);by_cases L9:l9 x p=m
   ·have hc:dO x m (.lock false p)=1:=by simp[dO,L9]
    rw[hc];simp[hC,L9];refine dg ?_;simp;apply aL;simp[hC];refine cz ?_;simp;apply ah;simp[hC];apply T.ret;apply aa.here;simp[Tryz.results90]
   ·have hc:dO x m (.lock false p)=0:=by simp[dO,L9]
    have Re:((l9 x p:Int) != (m:Int))=true:=by rw[bne_iff_ne];omega
    rw[hc];simp[hC,Re];refine cz ?_;simp;apply ah;simp[hC];apply T.ret;apply aa.here;simp[Tryz.results90]
  | true=>
   have Fm:lA (.lock true p)=5:=rfl;rw[Fm];apply aL;simp[hC];refine TL.bG yI rfl rfl rfl rfl (bm.of rfl tp L5) (TL.go' af ?_);by_cases L9:l9 x p=m
   ·have hc:dO x m (.lock true p)=-1:=by simp[dO,L9]
    rw[hc];simp[hC,L9];refine dg ?_;simp;apply aL;simp[hC];refine dg ?_;simp;apply ah;simp[hC];apply T.ret;apply aa.here;simp[Tryz.results90]
   ·have hc:dO x m (.lock true p)=0:=by simp[dO,L9]
    have Re:((l9 x p:Int) != (m:Int))=true:=by rw[bne_iff_ne];omega
    rw[hc];simp[hC,Re];refine cz ?_;simp;apply ah;simp[hC];apply T.ret;apply aa.here;simp[Tryz.results90]
 ·have Kq:(((lA z:Int) != 4)=true∧((lA z:Int) != 5)=true)∧dO x m z=0:=by
   cases z with
   | lock un p=>exact (Tq ⟨un,p,rfl⟩).elim
   | call g t l ps=>cases g<;>exact⟨⟨rfl,rfl⟩,rfl⟩
   | _=>exact⟨⟨rfl,rfl⟩,rfl⟩
  obtain⟨⟨h4,h5⟩,hc⟩:=Kq;rw[hc];apply aL;simp[hC,h4,h5];refine cz ?_;simp;apply ah;simp[hC];apply T.ret;apply aa.here;simp[Tryz.results90]
theorem Cc (g p:Nat):eY [p] g=if g=p then [g] else [min g p,max g p]:=by
 unfold eY bW;by_cases h:g=p
 ·simp[h]
 ·rw[if_neg h];by_cases h2:p<g
  ·simp[h,h2];omega
  ·simp[h,h2];omega
theorem wu {u:Un}(hu:jP u){x:Is}(hx:p6 u x){k:Nat}{z:In}(hz:(aC u x)[k]? = some z)(hk:k≤1000000):ae Tryz.prog 24 [dt u,.agg (cP x),I k] (aN (qp z k)):=by
 obtain⟨pq,K2,J9,NZ,Ty⟩:=oB hu hx hz;rw[J9] at hz;have LX:=(List.getElem?_eq_some_iff.1 K2).1;have Ke:=(List.getElem?_eq_some_iff.1 hz).1;have oy:=bb (f:=kR) (n:=5) ig K2 4 yA;have KJ:=az (f:=cK) (n:=12) eV hz;have MT:=lF z;have NL:=gw z;have Kd:=bB u;have wk:=cm ((k:Int)+1) yA yA;simp only[dj,ints] at Kd;obtain⟨xc,Lp,LM⟩:=jG z;obtain⟨c1,c2,c3,c4,c5,c6,c7,c8,c9,RM,RL,rfl⟩:=xh LM;rw[Lp] at KJ MT NL;simp only[List.all_cons,List.all_nil,Bool.and_true,Bool.and_eq_true] at MT;obtain⟨_,o1,o2,o3,o4,o5,o6,o7,o8,o9,Up,Uo⟩:=MT;refine ae.aD af Tryz.func24 rfl lz (by simp[Tryz.ntmps24]) (aP _) fun C hC xJ=>?_;rw[Tryz.ntmps24] at hC;simp only[dt,dj,cP,ints];apply ah;simp[hC];apply ah;simp[hC,LX,oy,kR,Ke,KJ];apply aL;simp[hC];apply T.block
 cases z with
 | ret=>
  have Fm:lA In.ret=8:=rfl;rw[Fm];apply ah;simp[hC];refine cz ?_;simp;apply ah;simp[hC];apply T.ret;simp;refine aa.le (Le.trim [6] [] 0 j5 yA) ?_;simp;refine aa.le (Le.nz [6] []) ?_;apply aa.here;simp[qp,aN]
 | jump g=>
  have Fm:lA (In.jump g)=7:=rfl;have Oc:c1=I g:=by
   have h:=congrArg (fun l=>l.drop 1) Lp;simp[cK] at h;exact h.1.symm
  subst Oc;rw[Fm];apply ah;simp[hC];refine aU ?_;simp;apply ah;simp[hC];refine cz ?_;simp;apply ah;simp[hC];apply T.ret;simp;refine aa.le (Le.trim [6] [3] 4 j5 yA) ?_;simp;refine aa.le (Le.dC (o:=3) rfl rfl) ?_;apply aa.here;simp[qp,aN]
 | branch g e=>
  have Fm:lA (In.branch g e)=6:=rfl;have Oc:c1=I g:=by
   have h:=congrArg (fun l=>l.drop 1) Lp;simp[cK] at h;exact h.1.symm
  subst Oc;have hw:=v9 [k+1] g j5;have KB:qp (In.branch g e) k=eY [k+1] g:=by rw[Cc];rfl
  have Lw:trees [aN [k+1],I g]=true:=rfl;rw[KB,Fm];apply ah;simp[hC];refine aU ?_;simp;apply ah;simp[hC];refine aU ?_;simp;apply ah;simp[hC];refine cz ?_;simp;apply ah;simp[hC,wk];refine TL.le (Le.dC (o:=3) rfl rfl) ?_;simp;refine dk Lw hw ?_;simp[hC];apply T.ret;simp;refine aa.le (Le.trim [6] [] 0 (by simp[aN]) yA) ?_;simp;apply aa.here;simp
 | set t gl e=>
  rw[show lA (In.set t gl e)=1 from rfl];apply ah;simp[hC];refine aU ?_;simp;apply ah;simp[hC];refine aU ?_;simp;apply ah;simp[hC];refine dg ?_;simp;apply ah;simp[hC,wk];apply T.ret;refine aa.le (Le.trim [6] [3] 4 j5 yA) ?_;simp;refine aa.le (Le.dC (o:=3) rfl rfl) ?_;apply aa.here;simp[qp,aN]
 | call g t l ps=>
  cases g with
  | true=>
   rw[show lA (In.call true t l ps)=3 from rfl];apply ah;simp[hC];refine aU ?_;simp;apply ah;simp[hC];refine aU ?_;simp;apply ah;simp[hC];refine dg ?_;simp;apply ah;simp[hC,wk];apply T.ret;refine aa.le (Le.trim [6] [3] 4 j5 yA) ?_;simp;refine aa.le (Le.dC (o:=3) rfl rfl) ?_;apply aa.here;simp[qp,aN]
  | false=>
   rw[show lA (In.call false t l ps)=2 from rfl];apply ah;simp[hC];refine aU ?_;simp;apply ah;simp[hC];refine aU ?_;simp;apply ah;simp[hC];refine dg ?_;simp;apply ah;simp[hC,wk];apply T.ret;refine aa.le (Le.trim [6] [3] 4 j5 yA) ?_;simp;refine aa.le (Le.dC (o:=3) rfl rfl) ?_;apply aa.here;simp[qp,aN]
 | lock un p=>
  cases un with
  | true=>
   rw[show lA (In.lock true p)=5 from rfl];apply ah;simp[hC];refine aU ?_;simp;apply ah;simp[hC];refine aU ?_;simp;apply ah;simp[hC];refine dg ?_;simp;apply ah;simp[hC,wk];apply T.ret;refine aa.le (Le.trim [6] [3] 4 j5 yA) ?_;simp;refine aa.le (Le.dC (o:=3) rfl rfl) ?_;apply aa.here;simp[qp,aN]
  | false=>
   rw[show lA (In.lock false p)=4 from rfl];apply ah;simp[hC];refine aU ?_;simp;apply ah;simp[hC];refine aU ?_;simp;apply ah;simp[hC];refine dg ?_;simp;apply ah;simp[hC,wk];apply T.ret;refine aa.le (Le.trim [6] [3] 4 j5 yA) ?_;simp;refine aa.le (Le.dC (o:=3) rfl rfl) ?_;apply aa.here;simp[qp,aN]
theorem uS {α:Type}(f:α→CV){l:List α}{i:Nat}{a:α}(h:l[i]? = some a):(l.map f).drop i=f a::(l.drop (i+1)).map f:=by
 obtain⟨hl,rfl⟩:=List.getElem?_eq_some_iff.1 h;rw[← List.map_drop,List.drop_eq_getElem_cons hl,List.map_cons]
theorem xj {u:Un}(hu:jP u){i:Nat}{x:Is}(hx:(av u).is[i]? = some x){pc:Nat}{z:In}(hz:(aC u x)[pc]? = some z)(hc:km z=true):∃ row:List Int,(av u).calls[i]? = some row∧row[pc]? = some ((sH (av u) i pc:Nat):Int)∧sH (av u) i pc<(av u).is.length:=by
 obtain⟨h1,h2⟩:=FI hu hx hz hc
 cases hr:(av u).calls[i]? with
 | none=>rw[List.getD_eq_getElem?_getD,List.getD_eq_getElem?_getD,hr] at h2;simp at h2
 | some row=>
  rw[List.getD_eq_getElem?_getD,List.getD_eq_getElem?_getD,hr] at h2;simp only[Option.getD_some] at h2
  cases hp:row[pc]? with
  | none=>rw[hp] at h2;simp at h2
  | some n=>
   rw[hp] at h2;exact⟨row,rfl,by rw[hp,← h2];rfl,h1⟩
theorem CY (z:In):((lA z:Int) == 2)=km z:=by
 cases z with
 | call g _ _ _=>cases g<;>rfl
 | lock g _=>cases g<;>rfl
 | _=>rfl
theorem cM (c:Cl):trees (fe c)=true:=by
 simp only[fe,trees,tree,aP,Bool.and_self]
theorem rS {u:Un}(hu:jP u){i:Nat}{x:Is}(hx:(av u).is[i]? = some x):p6 u x:=Iv hu x (List.mem_of_getElem? hx)
theorem mc (o:Nat)(cs:List CV)(n:Nat)(l:List Nat):bZ o cs n (aN l)=aN l:=rfl
def Gz:List Nat→Int→Nat→Int
 | [],_,_=>-1
 | a::r,x,i=>if (a:Int)=x then i else Gz r x (i+1)
def oP (l:List Nat)(x:Int):Bool:=l.any fun a=>decide ((a:Int)=x)
theorem Dr:∀ (l:List Nat) (x:Int) (i:Nat),decide (0≤Gz l x i)=oP l x
 | [],x,i=>rfl
 | a::r,x,i=>by
  simp only[Gz,oP,List.any_cons];by_cases h:(a:Int)=x
  ·simp[h]
  ·have:=Dr r x (i+1);simp only[oP] at this;simp[h,this]
theorem va (l:List Nat)(x:Int):oP l x=true↔0≤x∧x.toNat∈l:=by
 simp only[oP,List.any_eq_true,decide_eq_true_eq];constructor
 ·rintro⟨a,ha,rfl⟩;exact⟨by omega,by simpa using ha⟩
 ·rintro⟨h,hm⟩;exact⟨_,hm,by omega⟩
theorem z5 (l:List Nat)(x:Nat):oP l x=decide (x∈l):=by
 rw[Bool.eq_iff_iff,va];simp
def J200 (l:List Nat)(x:Int)(m:Nat)(s:St):Prop:=∃ i:Nat,m=l.length-i∧i≤l.length∧oP l x=oP (l.drop i) x∧s=⟨[(5,I i),(0,aN l),(1,I x)],[],0⟩
theorem Ae {l:List Nat}{i n:Nat}(h:l[i]? = some n):l.drop i=n::l.drop (i+1):=by
 obtain⟨hl,rfl⟩:=List.getElem?_eq_some_iff.1 h;rw[List.drop_eq_getElem_cons hl]
theorem qV (l:List Nat)(x:Int)(hl:l.length≤100000):ae Tryz.prog 34 [aN l,I x] (.bool (oP l x)):=by
 refine ae.aD af Tryz.func34 rfl lz (by simp[Tryz.ntmps34]) rfl fun C hC xJ=>?_;rw[Tryz.ntmps34] at hC;simp only[aN];apply ah;simp[hC];apply aL;simp[hC];apply T.block;refine T.aI (J200 l x) (n:=l.length) ?_ ?_
 ·refine aa.trim [5,0,1] [] 0 Nk yA ⟨0,by omega,by omega,by simp,?_⟩;simp[aN]
 ·rintro n s ⟨i,rfl,hi,hx,rfl⟩;simp only[aN];by_cases nr:i<l.length
  ·obtain⟨a,ha⟩:∃ a,l[i]? = some a:=⟨l[i],List.getElem?_eq_getElem nr⟩;have oy:=mY ha;have wi:=cm ((i:Int)+1) yA yA;rw[Ae ha] at hx;simp only[oP,List.any_cons] at hx;apply aL;simp[hC,nr];refine gF ?_;simp;apply fw;by_cases Ow:(a:Int)=x
   ·have hd:oP l x=true:=by simp only[oP,hx,Ow,decide_true,Bool.true_or]
    subst Ow;apply ah;simp[hC,nr,oy];refine cz ?_;simp;apply ah;simp[hC];apply T.ret;apply aa.here;rw[hd];simp[Tryz.results34]
   ·have F0:((a:Int) == x)=false:=by
     rw[beq_eq_false_iff_ne];exact Ow
    apply ah;simp[hC,nr,oy,F0];refine dg ?_;simp;apply a8;simp[hC,wi];refine⟨l.length-(i+1),by omega,aa.trim [5,0,1] [] 0 Nk yA ⟨i+1,rfl,by omega,?_,?_⟩⟩
    ·simp only[Ow,decide_false,Bool.false_or] at hx;exact hx
    ·simp[aN]
  ·have CW:i=l.length:=by omega
   subst CW;rw[List.drop_length] at hx;apply aL;simp[hC];refine aU ?_;simp;apply T.exit;simp;apply ah;simp[hC];apply T.ret;apply aa.here;rw[hx];simp[Tryz.results34,oP]
def J201 (l:List Nat)(x:Int)(m:Nat)(s:St):Prop:=∃ i:Nat,m=l.length-i∧i≤l.length∧Gz l x 0=Gz (l.drop i) x i∧s=⟨[(8,I i),(7,I l.length),(0,aN l),(1,I x)],[],0⟩
theorem wG (l:List Nat)(x:Int)(hl:l.length≤100000):ae Tryz.prog 59 [aN l,I x] (I (Gz l x 0)):=by
 refine ae.aD af Tryz.func59 rfl lz (by simp[Tryz.ntmps59]) rfl fun C hC xJ=>?_;rw[Tryz.ntmps59] at hC;simp only[aN];apply ah;simp[hC];apply aL;simp[hC];apply T.block;refine T.aI (J201 l x) (n:=l.length) ?_ ?_
 ·refine aa.trim [8,7,0,1] [] 0 Nk yA ⟨0,by omega,by omega,by simp,?_⟩;simp[aN]
 ·rintro n s ⟨i,rfl,hi,hx,rfl⟩;simp only[aN];by_cases nr:i<l.length
  ·obtain⟨a,ha⟩:∃ a,l[i]? = some a:=⟨l[i],List.getElem?_eq_getElem nr⟩;have oy:=mY ha;have wi:=cm ((i:Int)+1) yA yA;rw[Ae ha] at hx;simp only[Gz] at hx;apply ah;simp[hC,nr];refine T.seq (T.cond (b:=true) rfl (T.skip ?_));simp;apply fw;apply ah;simp[hC];by_cases Ow:(a:Int)=x
   ·rw[if_pos Ow] at hx;subst Ow;apply ah;simp[hC,nr,oy];refine cz ?_;simp;apply ah;simp[hC];apply T.ret;apply aa.here;rw[hx];simp[Tryz.results59]
   ·have F0:(x == (a:Int))=false:=by
     rw[beq_eq_false_iff_ne];exact fun h=>Ow h.symm
    rw[if_neg Ow] at hx;apply ah;simp[hC,nr,oy,F0];refine dg ?_;simp;apply a8;simp[hC,wi];refine⟨l.length-(i+1),by omega,aa.trim [8,7,0,1] [] 0 Nk yA ⟨i+1,rfl,by omega,hx,?_⟩⟩;simp[aN]
  ·have CW:i=l.length:=by omega
   subst CW;rw[List.drop_length] at hx;apply ah;simp[hC];refine T.seq (T.cond (b:=false) rfl ?_);simp;apply T.exit;simp;apply ah;simp[hC];apply T.ret;apply aa.here;rw[hx];simp[Tryz.results59,Gz]
theorem ku (l:List Nat)(x:Int)(hl:l.length≤100000):ae Tryz.prog 30 [aN l,I x] (.bool (oP l x)):=by
 have hi:=wG l x hl;have t2:trees [aN l,I x]=true:=by simp only[trees,aP,Bool.true_and];rfl
 rw[← Dr l x 0];refine ae.aD af Tryz.func30 rfl lz (by simp[Tryz.ntmps30]) rfl fun C hC xJ=>?_;rw[Tryz.ntmps30] at hC;simp only[aN] at hi t2 ⊢;apply ah;simp[hC];apply ah;simp[hC];refine dk t2 hi ?_;simp[hC];apply T.ret;apply aa.here;simp[Tryz.results30]
theorem zL (z:In):((lA z:Int) == 8)=uK z:=by
 cases z with
 | call g _ _ _=>cases g<;>rfl
 | lock g _=>cases g<;>rfl
 | _=>rfl
def mw (u:Un):List (Nat×Ob):=[(1,⟨34,0,fe (av u)⟩),(0,⟨30,0,dj u⟩)]
theorem uB {u:Un}(hu:jP u){x:Is}(hx:p6 u x):∀ (c:List In) (l:List Is) (r:List Nat),(∀ i∈c,i∈aC u x)→sq u l→sq u (fJ x c l r).1
 | [],_,_,_,h=>h
 | i::c,l,r,hc,h=>by
  simp only[fJ];split
  ·exact uB hu hx c l r (fun j hj=>hc j (List.mem_cons_of_mem _ hj)) h
  ·rename_i y hy;have Vm:=zk hu hx (hc i List.mem_cons_self) hy;exact uB hu hx c _ _ (fun j hj=>hc j (List.mem_cons_of_mem _ hj)) ⟨kN h.nd,zp h.v Vm⟩
theorem xS {u:Un}(hu:jP u):∀ (f i:Nat) (l:List Is) (cs:List (List Int)) (r:List Nat),sq u l→sq u (kG u f i l cs r).is∧l.length≤(kG u f i l cs r).is.length
 | 0,_,l,_,_,h=>⟨h,Nat.le_refl _⟩
 | f+1,i,l,cs,r,h=>by
  simp only[kG];split
  ·exact⟨h,Nat.le_refl _⟩
  ·rename_i x hx;have hs:=uB hu (h.v x (List.mem_of_getElem? hx)) (aC u x) l r (fun _ hi=>hi) h;obtain⟨h1,h2⟩:=xS hu f (i+1) (fJ x (aC u x) l r).1 (cs++[(fJ x (aC u x) l r).2.1]) (fJ x (aC u x) l r).2.2 hs;obtain⟨t,ht⟩:=qh x (aC u x) l r;refine⟨h1,Nat.le_trans ?_ h2⟩;rw[ht];simp
theorem Ea {u:Un}(hu:jP u):sq u (av u).is∧0<(av u).is.length:=by
 have h0:sq u [⟨u.main,[]⟩]:=⟨by simp,fun x hx=>by
  rw[List.mem_singleton.1 hx];have hp:=hu.np.1;obtain⟨q,hq⟩:∃ q,u.ps[0]? = some q:=⟨_,List.getElem?_eq_getElem yA⟩;exact⟨⟨q,by rw[hu.main];exact hq,by rw[(hu.p0 q hq).2];rfl⟩,fun l hl=>by cases hl⟩⟩
 obtain⟨h1,h2⟩:=xS hu 100 0 [⟨u.main,[]⟩] [] [0] h0;exact⟨h1,h2⟩
theorem vn {u:Un}(hu:jP u):(av u).is.length≤49∧0<(av u).is.length:=by
 obtain⟨hI,Nv⟩:=Ea hu;exact⟨iU hu hI.nd hI.v,Nv⟩
theorem qT (ρ:Nat→Nat)(l:List Nat):en ρ (aN l)=aN l:=by simp only[aN,en]
end Go.Proofs.YtlkmbdfhdknlgaaGreatDoor
