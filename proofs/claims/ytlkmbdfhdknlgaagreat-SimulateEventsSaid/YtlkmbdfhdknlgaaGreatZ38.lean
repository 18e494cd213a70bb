/- Find of the program. -/
import Derived.Test.YtlkmbdfhdknlgaaGreatZ37
namespace Go.aJ
open Go.Can List
def AM (p:Int)(ls:List Int):List Int:=[p,ls.length]++ls++replicate (6-ls.length) 0
theorem AN (p:Int)(ls:List Int)(h:ls.length<=6):jx p ls=(AM p ls).map λ n:Int=>I n:=by
 match ls,h with
 | [],_=>rfl
 | [_],_=>rfl
 | [_,_],_=>rfl
 | [_,_,_],_=>rfl
 | [_,_,_,_],_=>rfl
 | [_,_,_,_,_],_=>rfl
 | [_,_,_,_,_,_],_=>rfl
 | _::_::_::_::_::_::_::_,h=>simp at h
theorem CM {p p':Int}{ls Za:List Int}:AM p ls=AM p' Za↔p=p'/\ls=Za:=by
 refine⟨λ h=>?_,λ⟨h1,h2⟩=>by rw[h1,h2]⟩;simp only[AM,cons_append,nil_append,cons.injEq] at h;obtain⟨h1,h2,h3⟩:=h;refine⟨h1,?_⟩;have hl:ls.length=Za.length:=by omega
 have:=congrArg (take ls.length) h3;rwa [take_left,hl,take_left] at this
def EM (p:Int)(ls:List Int):Value:=.agg ((AM p ls).map λ n:Int=>Value.int .i64 n).toArray
theorem K1 (l:List Int):Qk (l.map λ n:Int=>I n)=some (l.map λ n:Int=>Value.int .i64 n):=by
 induction l with
 | nil=>rfl
 | cons a r ih=>simp only[map_cons,Qk,cv1,ih]
theorem zG (p:Int)(ls:List Int)(h:ls.length<=6):kP (.agg (jx p ls))=some (EM p ls):=by
 rw[AN p ls h];simp only[kP,K1,EM]
theorem yK:∀ (a b:List Int),vY (a.map λ n:Int=>Value.int .i64 n) (b.map λ n:Int=>Value.int .i64 n)=decide (a=b)
 | [],[]=>rfl
 | [],_::_=>rfl
 | _::_,[]=>rfl
 | x::a,y::b=>by
  simp only[map_cons,vY,yK a b,BH];by_cases h:x=y<;>simp[h]
theorem LW (p p':Int)(ls Za:List Int):Bv (EM p ls) (EM p' Za)=(decide (p=p') && decide (ls=Za)):=by
 simp only[EM,Bv,yK];by_cases h:AM p ls=AM p' Za
 ·have:=CM.1 h;simp[this.1,this.2]
 ·have h2:¬ (p=p'/\ls=Za):=λ e=>h (CM.2 e);rw[decide_eq_false h];by_cases e:p=p'<;>simp_all
theorem B8 (p:Int)(ls:List Int)(h:ls.length<=6)(hp:CT p=true)(hls:∀ n∈ls,CT n=true):qx 8 (EM p ls)=true:=by
 have h2:CT (ls.length:Int)=true:=by simp only[CT,Bool.and_eq_true,decide_eq_true_eq];omega
 simp only[qx,EM,Bool.and_eq_true,decide_eq_true_eq];refine⟨by simp[AM];omega,all_eq_true.2 λ v hv=>?_⟩;simp only[mem_map,AM,mem_append,mem_cons,not_mem_nil,or_false,mem_replicate] at hv;obtain⟨n,hn,rfl⟩:=hv;simp only[wI];rcases hn with ((rfl | rfl) | hn) | ⟨_,rfl⟩
 ·exact hp
 ·exact h2
 ·exact hls n hn
 ·rfl
theorem zA (p:Int)(ls:List Int)(hls:6<ls.length):∀ (l:List Is) (i:Int),(∀ x∈l,x.bp.length<=6)->kK l p ls i=-1
 | [],_,_=>rfl
 | y::r,i,h=>by
  have hy:=h y mem_cons_self;rw[kK,if_neg,zA p ls hls r (i+1) λ x hx=>h x (mem_cons_of_mem _ hx)];simp only[nj,Bool.and_eq_true,decide_eq_true_eq];rintro⟨_,e⟩;rw[<- e] at hls;simp at hls;omega
end Go.aJ
namespace Go.Proofs.YtlkmbdfhdknlgaaGreat
open Go.Can Go.aJ List Tryz
theorem M5:zF prog 3 8 221=true:=by kernel_rfl
theorem keyEq:EqT prog 221 (qx 8):=C9 yA M5 Ix
theorem keyEI:LH prog [⟨221,qx 8⟩]:=λ x hx=>by
 simp only[mem_cons,not_mem_nil,or_false] at hx;subst hx;exact keyEq
theorem KU {C:Cx}{s:St}{o:Oper}{x y:Operand}{q:TypeId}{cx cy:CV}{vx vy:Value}(hd:bm C.nt o.dst=true)(ho:o.op=.binOp .eql 221 x y q)(hx:ev s x=some cx)(hy:ev s y=some cy)(h1:kP cx=some vx)(h2:kP cy=some vy)(k1:qx 8 vx=true)(k2:qx 8 vy=true):qU prog C o s (s.put o.dst (.bool (Bv vx vy))):=
 xI keyEI hd (by simp only[C8,ho,hx,hy,h1,h2,Qe,if_true,k1,k2,and_self])
theorem CN (p:Int)(ls:List Int)(h:ls.length<=6):(jx p ls).length=8:=by simp[jx,gP];omega
theorem zr (p:Int)(ls:List Int)(h:ls.length<=6):(jx p ls).all one=true:=by
 rw[AN p ls h];exact all_eq_true.2 λ x hx=>by
  obtain⟨n,_,rfl⟩:=mem_map.1 hx;rfl
theorem xp (p:Int)(ls:List Int)(h:ls.length<=6):trees (jx p ls)=true:=by
 rw[AN p ls h];exact aO _
def J31 (l:List Is)(p:Int)(ls:List Int)(n:Nat)(s:St):Prop:=∃ i:Nat,n=l.length-i/\i<=l.length/\kK l p ls 0=kK (l.drop i) p ls i/\
 s=⟨[(21,I i),(20,I l.length),(19,.ax (l.flatMap dV) l.length),(5,.aw 2 0)],[(2,⟨221,0,jx p ls⟩)],3⟩
set_option maxHeartbeats 4000000 in
theorem Ku (l:List Is)(hl:l.length<=100000)(Tg:∀ x∈l,x.bp.length<=6/\CT x.proc=true/\∀ n∈x.bp,CT (n:Int)=true)(X Y:CV)(_hX:tree X=true)(_hY:tree Y=true)(p:Int)(ls:List Int)(hp:CT p=true)(hls:∀ n∈ls,CT n=true) :
  ae prog 79 [.agg [.ax (l.flatMap dV) l.length,X,Y],.agg [I p,ints ls]] (I (kK l p ls 0)):=by
 have Yd:tree (ints ls)=true:=by simp[ints,tree]
 have RQ:trees [.agg [I p,ints ls]]=true:=by simp only[trees,tree,Yd,Bool.and_self]
 refine ae.aE ah Tryz.func79 rfl Ix (by simp[Tryz.ntmps79]) rfl λ C hC RR=>?_;rw[Tryz.ntmps79] at hC;apply aq;simp[hC];by_cases h6:ls.length<=6
 ·have R8:=CN p ls h6;have hko:=zr p ls h6;have YA:(jx p ls).take 8=jx p ls:=take_of_length_le yA;have tkc:=xp p ls h6;apply aq;simp[hC];refine cX RQ (CL p ls h6) ?_;simp[hC,R8];apply aW;simp[hC];refine fX ?_;simp;apply aW;simp[hC];apply T.block;refine T.aH (J31 l p ls) (n:=l.length) ?_ ?_
  ·refine aa.trim [21,20,19,5] [2] 3 (by simp[-all_eq_true,-all_flatMap,ai tkc]) yA ⟨0,by omega,by omega,rfl,?_⟩;simp
  ·rintro n s ⟨i,rfl,hi,hf,rfl⟩;by_cases Og:i<l.length
   ·obtain⟨y,hy⟩:∃ y,l[i]? = some y:=⟨l[i],getElem?_eq_getElem Og⟩;have hd:l.drop i=y::l.drop (i+1):=by
     rw[drop_eq_getElem_cons Og,(List.getElem?_eq_some_iff.1 hy).2]
    rw[hd,kK] at hf;have Qd:=aI (f:=dV) (n:=2) gU hy;have wi:=cF ((i:Int)+1) yA yA;obtain⟨hy6,hyp,hyl⟩:=Tg y (mem_of_getElem? hy);have WT:(y.bp.map λ n:Nat=>(n:Int)).length<=6:=by simpa using hy6
    have hyls:∀ n∈(y.bp.map λ n:Nat=>(n:Int)),CT n=true:=λ n hn=>by
     obtain⟨m,hm,rfl⟩:=mem_map.1 hn;exact hyl m hm
    have SD:trees [.agg [I y.proc,aB y.bp]]=true:=by simp only[trees,tree,aM,Bool.and_self]
    have hkey:=CL y.proc _ WT;rw[<- ka] at hkey;have XU:=CN y.proc _ WT;have Zd:(jx y.proc (y.bp.map λ n:Nat=>(n:Int))).take 8=jx y.proc (y.bp.map λ n:Nat=>(n:Int)):=take_of_length_le yA;have tkc2:=xp y.proc _ WT;have hko2:=zr y.proc _ WT;have Zv:=zG p ls h6;have hcv2:=zG y.proc _ WT;have Ui:=B8 p ls h6 hp hls;have hre2:=B8 y.proc _ WT hyp hyls;have hveq:=LW y.proc p (y.bp.map λ n:Nat=>(n:Int)) ls;have UQ:nj y p ls=(decide ((y.proc:Int)=p) && decide ((y.bp.map λ n:Nat=>(n:Int))=ls)):=rfl;generalize (y.bp.map λ n:Nat=>(n:Int))=yl at UQ hkey XU Zd tkc2 hko2 hcv2 hre2 hveq;apply aq;simp[hC,Og];refine T.seq (T.cond (b:=true) rfl (T.skip ?_));simp;apply eN;apply aq;simp[hC,Og,Qd,dV];apply aq;simp[hC];refine cX SD hkey ?_;simp[hC,XU];refine T.seq (T.region (TL.some ah 2 ?_));simp[hC,R8,YA,XU,Zd];refine mK rfl (KU (x:=.tmp 31) (y:=.tmp 32) (cx:=.agg (jx y.proc yl)) (cy:=.agg (jx p ls)) RT rfl xr xr hcv2 Zv hre2 Ui) ?_;rw[hveq,<- UQ];refine TL.go' ah ?_;simp
    cases hr:nj y p ls with
    | true=>
     rw[if_pos hr] at hf;refine dy ?_;simp;apply aq;simp[hC];apply T.ret;apply aa.here;simp[Tryz.results79,hf]
    | false=>
     rw[if_neg (by simp[hr])] at hf;refine fX ?_;simp;apply aN;simp[hC,wi];refine⟨l.length-(i+1),by omega,aa.trim [21,20,19,5] [2] 3 (by simp[-all_eq_true,-all_flatMap,ai tkc]) yA ⟨i+1,rfl,by omega,hf,?_⟩⟩;simp
   ·have RU:i=l.length:=by omega
    rw[RU,drop_length,kK] at hf;have SP:=hf;apply aq;simp[hC,Og];refine T.seq (T.cond (b:=false) rfl ?_);simp;apply T.exit;simp;apply aq;simp[hC];apply T.ret;apply aa.here;simp[Tryz.results79,SP]
 ·have h6':6<ls.length:=by omega
  have SP:=zA p ls h6' l 0 λ x hx=>(Tg x hx).1;apply aq;simp[hC];refine cX RQ (HP p ls h6') ?_;simp[hC];apply aW;simp[hC];refine dy ?_;simp;apply aq;simp[hC];apply T.ret;apply aa.here;simp[Tryz.results79,SP]
theorem Cv {u:Un}{e:Nat}(h:e<(bR u.ms).length):kD u.ms e=(kB u.ms e:Int):=by
 rw[kD,if_neg yA,Int.toNat_natCast,getElem?_eq_getElem h,kB,getD_eq_getElem?_getD,getElem?_eq_getElem h];rfl
def J45 (u:Un)(f:Fr)(n:Nat)(s:St):Prop:=∃ i:Nat,n=f.eA.length-i/\i<=f.eA.length/\
 s=⟨[(14,I i),(13,I f.eA.length),(12,.ax (f.eA.map λ n:Nat=>I n) f.eA.length),(5,.aw 3 0),(4,.aw 2 0),(2,.aw 0 0)],[(4,eE ((f.eA.take i).map (kB u.ms))),(3,⟨95,0,[I f.proc,.bb 4 0 i]⟩),(2,⟨95,0,[I 0,.aj]⟩),(0,⟨30,0,cR u⟩)],5⟩
set_option maxHeartbeats 2000000 in
theorem zu {u:Un}(hu:fV u)(f:Fr)(hl:f.eA.length<=1000)(he:∀ e∈f.eA,e<(bR u.ms).length):ae prog 35 [cg u,.agg (dY f)] (.agg (dV (gg u.ms f))):=by
 have Vo:=mY hu;have Zl:=z0 hu;have tE:=aK f.eA;have tV:=aO f.aV;have Yb:trees (u.gs.map dc)=true:=aO u.gs;have Ya:=dG u.ms;have cB:trees (u.ps.flatMap mW)=true:=ak gy u.ps;have Sa:tree (.agg (dV (gg u.ms f)))=true:=by simp only[tree,ca]
 refine ae.aE ah Tryz.func35 rfl Ix (by simp[Tryz.ntmps35]) Sa λ C hC RR=>?_;rw[Tryz.ntmps35] at hC;simp only[cg,cR,dY,ints,aB];apply aq;simp[hC];apply aq;simp[hC];apply aW;simp[hC];apply T.block;refine T.aH (J45 u f) (n:=f.eA.length) ?_ ?_
 ·refine aa.le (Le.nk 3 1 3 1 rfl rfl) ?_;simp;refine aa.trim [14,13,12,5,4,2] [4,3,2,0] 5 VA yA ⟨0,by omega,by omega,?_⟩;simp[eE,cR,ints]
 ·rintro n s ⟨i,rfl,hi,rfl⟩;simp only[eE,cR,ints];by_cases Og:i<f.eA.length
  ·obtain⟨a,W6⟩:∃ a,f.eA[i]? = some a:=⟨_,getElem?_eq_getElem Og⟩;have W4:=he a (mem_of_getElem? W6);have Xk:=gX W6;have Wj:=uU u.ms Vo a yA;rw[Cv W4] at Wj;have RQ:trees [.ax (u.ms.flatMap cH) u.ms.length,I a]=true:=by simp only[trees,tree,Bool.and_self]
   have wi:=cF ((i:Int)+1) yA yA;have R3:(f.eA.take (i+1)).map (kB u.ms)=(f.eA.take i).map (kB u.ms)++[kB u.ms a]:=by
    rw[take_add_one,W6];simp
   have Ts:((f.eA.take i).map (kB u.ms)).length=i:=by simp;omega
   generalize (f.eA.take i).map (kB u.ms)=B at Ts R3;have bd:(i+1)*8<=140737488355328:=by omega
   apply aq;simp[hC,Og];refine T.seq (T.cond (b:=true) rfl (T.skip ?_));simp;apply eN;apply aq;simp[hC,Og,Xk];refine T.rx ah follows [0,1,2,3,4,5,6,7,8,9] [(1,5),(1,6)] Ix ?_;simp[hC];refine RX.call rfl rfl rfl rfl rfl RQ Wj ?_;simp[Ts,bd,aY];apply aN;simp[hC,wi];refine⟨f.eA.length-(i+1),by omega,?_⟩;have Ye:trees (B.map (λ n:Nat=>I n)++[I (kB u.ms a)])=true:=by rw[bg,aK];rfl
   have Yx:=λ ρ=>af ρ _ Ye;have r1:=λ ρ=>af ρ _ tE;have r2:=λ ρ=>af ρ _ Yb;have r3:=λ ρ=>af ρ _ Ya;have r4:=λ ρ=>af ρ _ cB;refine aa.le (Le.norm [14,13,12,5,4,2] [(15,4),(3,3),(2,2),(0,0)] 0 5 Sn Sl yCj yA) ?_;simp[cm,bh,aX,cN,dZ,assoc,Yx];refine aa.here ⟨i+1,rfl,by omega,?_⟩;rw[R3];simp[eE,cR,ints]
  ·have RU:i=f.eA.length:=by omega
   subst RU;rw[take_length];have tO:=aK (f.eA.map (kB u.ms));have tkO:take f.eA.length ((f.eA.map (kB u.ms)).map λ n:Nat=>I n)=(f.eA.map (kB u.ms)).map λ n:Nat=>I n:=take_of_length_le xr;generalize hW:f.eA.map (kB u.ms)=W at tO tkO |-;have Vv:W.length=f.eA.length:=by rw[<- hW];simp
   apply aq;simp[hC];apply T.seq;refine T.cond (b:=false) Ta ?_;simp;apply T.exit;simp;apply aq;simp[hC];apply T.ret;refine aa.le (Le.trim [4] [2,4] 5 (by simp[-all_eq_true,-all_flatMap,-all_map,ai tO]) yA) ?_;simp;refine aa.le (Le.dn (o:=4) rfl tO) ?_;simp[tkO];apply aa.here;simp[dV,gg,aB,hW,Vv]
theorem ov.bounds {u:Un}(hu:fV u){k:Nat}(hk:k<=1000){s:Sy}(h:ov u k s):s.gs.length<=1000000/\s.tb.length<=1000000/\s.ts.length<=1000000/\(∀ l∈s.ts,l.length<=1000000)/\∀ l∈s.ts,∀ f∈l,f.aV.length<=1000000/\f.pc<=1000000:=by
 have h1:=hu.ng;have h2:=z0 hu;have h3:=h.gs;have h4:=h.tb;have h5:=h.ts;refine⟨by omega,by omega,by omega,λ l hl=>by have:=h.fl l hl;omega,λ l hl f hf=>?_⟩;obtain⟨q,hq,gZ,hv,_⟩:=(h.fr l hl f hf).q;have h6:=hu.pr q (mem_of_getElem? hq);omega
def wU (x:Int):Int:=if x.tmod 16=7 then x else x % 4
def dJ (l:List Int)(n:Nat):List Int:=(l.take n).map wU
def J38n (l:List Int)(n:Nat)(m:Nat)(s:St):Prop:=∃ i:Nat,m=min l.length n-i/\i<=min l.length n/\
 s=⟨[(6,I i),(5,.bb 0 0 i),(1,I n),(0,.ax (l.map dc) l.length)],[(0,⟨3,1,(dJ l i).map dc⟩)],1⟩
theorem jf (l:List Int)(n:Nat):(dJ l n).length=min l.length n:=by simp[dJ,Nat.min_comm]
theorem JE (l:List Int)(hl:l.length<=9223372036854775807)(n:Nat)(hn:n<=1000):ae prog 9 [ints l,I n] (ints (dJ l n)):=by
 have tl:trees (l.map dc)=true:=aO l;refine ae.aE ah Tryz.func9 rfl Ix (by simp[Tryz.ntmps9]) rfl λ C hC RR=>?_;rw[Tryz.ntmps9] at hC;simp only[ints];apply aq;simp[hC];apply aq;simp[hC];apply aW;simp[hC];apply T.block;refine T.aH (J38n l n) (n:=min l.length n) ?_ ?_
 ·refine aa.le (Le.own 5 3 1 rfl) ?_;simp[St.own];refine aa.trim [6,5,1,0] [0] 1 (by simp[-all_eq_true,-all_map]) yA ⟨0,by omega,by omega,?_⟩;simp[dJ]
 ·rintro m s ⟨i,rfl,hi,rfl⟩;have tp:trees ((dJ l i).map dc)=true:=aO _;have SR:(dJ l i).length=i:=by rw[jf];omega
  by_cases Og:i<l.length
  ·by_cases R4:i<n
   ·obtain⟨x,hx⟩:∃ x,l[i]? = some x:=⟨_,getElem?_eq_getElem Og⟩;have T1:(l.map dc).drop i=I x::(l.map dc).drop (i+1):=by
     rw[drop_eq_getElem_cons (by simpa using Og)];simp[(List.getElem?_eq_some_iff.1 hx).2]
    have wi:=cF ((i:Int)+1) yA yA;have RW:dJ l (i+1)=dJ l i++[wU x]:=by
     simp only[dJ];rw[take_add_one,hx];simp
    have bd:(i+1)*8<=140737488355328:=by omega
    have tp1:trees ((dJ l i).map dc++[I (wU x)])=true:=by rw[bg,tp];rfl
    have rp1:=λ ρ=>af ρ _ tp1;apply aW;simp[hC,Og,R4];refine T.cond (b:=true) Ta (T.skip ?_);simp;apply eN;by_cases h7:x.tmod 16=7
    ·have hz:wU x=x:=by simp[wU,h7]
     rw[hz] at RW tp1 rp1;apply aq;simp[hC,Og,T1,h7];refine dy ?_;simp;apply aN;simp[hC,Og,T1,bd,SR,aY];apply aN;simp[hC,wi];refine⟨min l.length n-(i+1),by omega,?_⟩;refine aa.le (Le.norm [6,5,1,0] [(2,0)] 0 1 Sn Sl yE yA) ?_;simp[cm,bh,cN,dZ,assoc,rp1];refine aa.here ⟨i+1,rfl,by omega,?_⟩;rw[RW];simp
    ·have hz:wU x=x % 4:=by simp[wU,h7]
     rw[hz] at RW tp1 rp1;have h7b:(x.tmod 16 == 7)=false:=by rw[beq_eq_false_iff_ne];exact h7
     have hwi:=yF x 4 yA yA;apply aq;simp[hC,Og,T1];refine T.cond (b:=false) (by simp[ev,assoc,h7b]) ?_;simp;apply aN;simp[hC,Og,T1];refine cX rfl hwi ?_;simp[hC,bd,SR,aY];apply aN;simp[hC,wi];refine⟨min l.length n-(i+1),by omega,?_⟩;refine aa.le (Le.norm [6,5,1,0] [(2,0)] 0 1 Sn Sl yE yA) ?_;simp[cm,bh,cN,dZ,assoc,rp1];refine aa.here ⟨i+1,rfl,by omega,?_⟩;rw[RW];simp
   ·have RU:i=min l.length n:=by omega
    apply aW;simp[hC,Og,R4];refine T.cond (b:=false) Ta ?_;simp;apply T.exit;simp;apply aq;simp[hC];apply T.ret;have Wg:dJ l i=dJ l n:=by
     have:l.take i=l.take n:=by
      rw[take_eq_take_iff];omega
     rw[dJ,this,dJ]
    have kp:take i ((dJ l n).map dc)=(dJ l n).map dc:=take_of_length_le (by simp[jf];omega);have tpn:trees ((dJ l n).map dc)=true:=aO _;rw[Wg];refine aa.le (Le.trim [4] [0] 1 (by simp[-all_eq_true,-all_map,ai tpn]) yA) ?_;simp;refine aa.le (Le.dn (o:=0) rfl tpn) ?_;simp[kp];apply aa.here;simp[jf];omega
  ·apply aW;simp[hC,Og];refine T.cond (b:=false) Ta ?_;simp;apply T.exit;simp;apply aq;simp[hC];apply T.ret;have Wg:dJ l i=dJ l n:=by
    have:l.take i=l.take n:=by
     rw[take_eq_take_iff];omega
    rw[dJ,this,dJ]
   have kp:take i ((dJ l n).map dc)=(dJ l n).map dc:=take_of_length_le (by simp[jf];omega);have tpn:trees ((dJ l n).map dc)=true:=aO _;rw[Wg];refine aa.le (Le.trim [4] [0] 1 (by simp[-all_eq_true,-all_map,ai tpn]) yA) ?_;simp;refine aa.le (Le.dn (o:=0) rfl tpn) ?_;simp[kp];apply aa.here;simp[jf];omega
theorem Af {u:Un}(hu:fV u){x:Is}(hx:sX u x):∀ (c:List In) (l:List Is) (r:List Nat),(∀ i∈c,i∈ay u x)->yf u l->yf u (iu x c l r).1
 | [],_,_,_,h=>h
 | i::c,l,r,hc,h=>by
  simp only[iu];split
  ·exact Af hu hx c l r (λ j hj=>hc j (mem_cons_of_mem _ hj)) h
  ·rename_i y hy;have hyv:=Fc hu hx (hc i mem_cons_self) hy;exact Af hu hx c _ _ (λ j hj=>hc j (mem_cons_of_mem _ hj)) ⟨nW h.nd,Fl h.v hyv⟩
theorem Ds {u:Un}(hu:fV u):∀ (f i:Nat) (l:List Is) (cs:List (List Int)) (r:List Nat),yf u l->yf u (kQ u f i l cs r).is/\l.length<=(kQ u f i l cs r).is.length
 | 0,_,l,_,_,h=>⟨h,Nat.le_refl _⟩
 | f+1,i,l,cs,r,h=>by
  simp only[kQ];split
  ·exact⟨h,Nat.le_refl _⟩
  ·rename_i x hx;have hs:=Af hu (h.v x (mem_of_getElem? hx)) (ay u x) l r (λ _ hi=>hi) h;obtain⟨h1,h2⟩:=Ds hu f (i+1) (iu x (ay u x) l r).1 (cs++[(iu x (ay u x) l r).2.1]) (iu x (ay u x) l r).2.2 hs;obtain⟨t,ht⟩:=rH x (ay u x) l r;refine⟨h1,Nat.le_trans ?_ h2⟩;rw[ht];simp
theorem xS {u:Un}(hu:fV u):yf u (az u).is/\0<(az u).is.length:=by
 have h0:yf u [⟨u.main,[]⟩]:=⟨by simp,λ x hx=>by
  rw[mem_singleton.1 hx];have hp:=hu.np.1;obtain⟨q,hq⟩:∃ q,u.ps[0]? = some q:=⟨_,getElem?_eq_getElem yA⟩;exact⟨⟨q,by rw[hu.main];exact hq,by rw[(hu.p0 q hq).2];rfl⟩,λ l hl=>by cases hl⟩⟩
 obtain⟨h1,h2⟩:=Ds hu 100 0 [⟨u.main,[]⟩] [] [0] h0;exact⟨h1,h2⟩
theorem M7 {u:Un}(hu:fV u){x:Is}(h:sX u x):x.bp.length<=2:=by
 obtain⟨⟨q,hq,hl⟩,_⟩:=h;have:=(hu.pr q (mem_of_getElem? hq)).2.1;omega
theorem GG {u:Un}(hu:fV u):(az u).is.length<=49/\∀ z∈(az u).is,z.bp.length<=6/\CT z.proc=true/\∀ n∈z.bp,CT (n:Int)=true:=by
 obtain⟨hI,U6⟩:=xS hu;refine⟨jy hu hI.nd hI.v,λ z hz=>?_⟩;have h1:=hI.v z hz;have h2:=M7 hu h1;obtain⟨⟨q,hq,_⟩,hm⟩:=h1;have h3:=(List.getElem?_eq_some_iff.1 hq).1;have h4:=hu.np;have h5:=hu.nm;have R4:∀ n:Nat,n<10->CT (n:Int)=true:=λ n hn=>by simp only[CT,Bool.and_eq_true,decide_eq_true_eq];omega
 exact⟨by omega,R4 _ yA,λ n hn=>R4 _ (by have:=hm n hn;omega)⟩
theorem Nk {u:Un}(hu:fV u){x:Is}(hx:x∈(az u).is):ae prog 79 [gC (az u),.agg (dV x)] (I (ez (az u).is x))/\ae prog 72 [gC (az u),.agg (dV x)] (I (ez (az u).is x)):=by
 obtain⟨h1,h2⟩:=GG hu;obtain⟨_,h3,h4⟩:=h2 x hx;have h5:=vP x (az u).is 0;rw[if_pos hx] at h5;have Yc:=aM (az u).roots;have tc:tree (.ax ((az u).calls.map ints) (az u).calls.length)=true:=by simp only[tree]
 have a1:=Ku (az u).is yA h2 (.ax ((az u).calls.map ints) (az u).calls.length) (aB (az u).roots) tc Yc x.proc (x.bp.map λ n:Nat=>(n:Int)) h3 (λ n hn=>by
  rw[mem_map] at hn;obtain⟨m,hm,rfl⟩:=hn;exact h4 m hm)
 have a2:=Jn (az u).is yA (λ z hz=>by have:=(h2 z hz).1;omega) (.ax ((az u).calls.map ints) (az u).calls.length) (aB (az u).roots) tc Yc x.proc (x.bp.map λ n:Nat=>(n:Int));rw[show ((0:Nat):Int)=0 from rfl] at h5;rw[h5,Nat.add_zero] at a1 a2;rw[<- ka] at a1 a2;exact⟨a1,a2⟩
def y6 (p:Nat×Nat):List CV:=[I p.1,I p.2]
theorem Aw (p:Nat×Nat):(y6 p).length=2:=rfl
theorem s8 (p:Nat×Nat):trees (y6 p)=true:=rfl
def pJ (u:Un)(f:Fr):Nat×Nat:=(ez (az u).is (gg u.ms f),f.pc)
def LP (d:Nat)(l:List (Nat×Nat)):List CV:=[I d,.ax (l.flatMap y6) l.length]
def Qw:Option (Nat×List (Nat×Nat))->CV
 | some x=>.cB [.agg (LP x.1 x.2),.bool true]
 | none=>.cB [.agg [I 0,.ax [] 0],.bool false]
def Ox:Option (Nat×List (Nat×Nat))->CV
 | some x=>.iface 48 [.agg (LP x.1 x.2)]
 | none=>.iface 0 []
def fz (u:Un)(s:Sy)(t:Int)(m:Nat):Option (Nat×List (Nat×Nat)):=if t<0 then none else match s.ts[t.toNat]? with
 | none=>none
 | some l=>match u.ms[m]? with
  | none=>none
  | some x=>some (min (ch u.ms s.tb m t.toNat) (aF x),l.map (pJ u))
theorem IY (o:Option (Nat×List (Nat×Nat))):tree (Ox o)=true:=by
 cases o with
 | none=>rfl
 | some x=>simp only[Ox,tree,trees,LP,Bool.and_self]
def J39 (u:Un)(l:List Fr)(d:Nat)(n:Nat)(s:St):Prop:=∃ i:Nat,n=l.length-i/\i<=l.length/\
 s=⟨[(46,I i),(45,I l.length),(44,.ax (l.flatMap dY) l.length),(11,.aw 18 0),(6,.aw 1 0),(5,.aw 0 0)],[(19,⟨54,2,((l.take i).map (pJ u)).flatMap y6⟩),(18,⟨48,0,[I d,.bb 19 0 i]⟩),(1,⟨34,0,eC (az u)⟩),(0,⟨30,0,cR u⟩)],20⟩
set_option maxHeartbeats 2000000 in
theorem Eu {u:Un}(hu:fV u){k:Nat}(hk:k<=1000){s:Sy}(hs:ov u k s)(t:Int)(m:Nat)(hm:m<u.ms.length):ae prog 36 [cg u,gC (az u),cT s,I t,I m] (Ox (fz u s t m)):=by
 obtain⟨h1,h2,h3,h4,h5⟩:=hs.bounds hu hk;have Vo:=mY hu;obtain⟨x,hx⟩:∃ x,u.ms[m]? = some x:=⟨_,getElem?_eq_getElem hm⟩;refine ae.aE ah Tryz.func36 rfl Ix (by simp[Tryz.ntmps36]) (IY _) λ C hC RR=>?_;rw[Tryz.ntmps36] at hC;have tG:trees (s.gs.map dc)=true:=aO s.gs;have tT:trees (s.tb.flatMap dL)=true:=ak cj _;have tS:trees (s.ts.flatMap en)=true:=ak bX _;have Yb:trees (u.gs.map dc)=true:=aO u.gs;have Ya:=dG u.ms;have cB:trees (u.ps.flatMap mW)=true:=ak gy u.ps;have Xa:=ak ca (az u).is;have Tp:=js (az u).calls;have Yc:=aK (az u).roots;simp only[cT,kX,cg,cR,gC,eC,ints,aB];apply aq;simp[hC];by_cases h0:t<0
 ·have hn:fz u s t m=none:=by simp[fz,h0]
  rw[hn];apply aW;simp[hC,h0];refine T.cond (b:=true) Ta ?_;simp;apply aq;simp[hC];apply T.ret;apply aa.here;simp[Tryz.results36,Ox]
 ·obtain⟨j,rfl⟩:∃ j:Nat,t=j:=⟨t.toNat,by omega⟩;by_cases hj:j<s.ts.length
  ·obtain⟨l,hl⟩:∃ l,s.ts[j]? = some l:=⟨_,getElem?_eq_getElem hj⟩;have hn:fz u s j m=some (min (ch u.ms s.tb m j) (aF x),l.map (pJ u)):=by simp[fz,hl,hx]
   rw[hn];have Xj:=zb u.ms Vo s.tb m j x hx hs.tb yA λ h hh=>⟨by have:=(hs.hd h hh).1;omega,by have:=hs.ho h hh;omega⟩;have Se:=MA x;have T1:=aI (f:=cH) (n:=3) mB hx;have Uk:=L4 hl;have UJ:¬ ((s.ts.length:Int)<=(j:Int)):=by omega
   have RQ:trees [.ax (u.ms.flatMap cH) u.ms.length,.ax (s.tb.flatMap dL) s.tb.length,I m,I j]=true:=by simp only[trees,tree,Bool.and_self]
   have SD:trees [.agg (cH x)]=true:=rfl;have Va:(if aF x<ch u.ms s.tb m j then (aF x:Int) else (ch u.ms s.tb m j:Int))=((min (ch u.ms s.tb m j) (aF x):Nat):Int):=by split<;>omega
   generalize ch u.ms s.tb m j=dd at Xj Va |-;generalize S9:min dd (aF x)=d at Va |-;apply aW;simp[hC,h0,UJ];refine T.cond (b:=false) Ta (T.skip ?_);simp;refine T.seq (T.rx ah follows [0,1,2,3,4,5,7,8,9,10,11,15,6,12,13,14,16] [(1,15),(3,15),(8,15),(8,6),(11,15),(11,6),(15,6),(15,12)] Ix ?_);simp[hC,hm,T1,cH];refine RX.call rfl rfl rfl rfl rfl RQ Xj ?_;simp;refine RX.call rfl rfl rfl rfl rfl SD Se ?_;simp[Va];have tF:trees (l.flatMap dY)=true:=ak cZ _;have hlb:=h4 l (mem_of_getElem? hl);apply aW;simp[hC,hj,Uk,en];refine T.le (Le.trim [46,45,44,11,6,5] [18,1,0] 19 VA yA) ?_;simp;apply T.block;refine T.aH (J39 u l d) (n:=l.length) ?_ ?_
   ·refine aa.le (Le.nk 18 1 54 2 rfl rfl) ?_;simp;refine aa.here ⟨0,by omega,by omega,?_⟩;simp[cR,eC,ints,aB]
   ·rintro n σ ⟨i,rfl,hi,rfl⟩;simp only[cR,eC,ints,aB];by_cases Og:i<l.length
    ·obtain⟨f,Yo⟩:∃ f,l[i]? = some f:=⟨_,getElem?_eq_getElem Og⟩;have W2:=hs.fr l (mem_of_getElem? hl) f (mem_of_getElem? Yo);obtain⟨q,hq,gZ,Wd,R7⟩:=W2.q;have hqv:=hu.pr q (mem_of_getElem? hq);have UK:=zu hu f yA W2.el;have Wm:=(Nk hu W2.ic).1;have Ua:trees [cg u,.agg (dY f)]=true:=by
      have:=bj u;simp only[trees,tree,cg,this,cZ,Bool.and_self]
     have VB:trees [gC (az u),.agg (dV (gg u.ms f))]=true:=by
      simp only[trees,tree,gC,eC,aB,ca,Bool.and_self]
     have VZ:=aI (f:=dY) (n:=4) ef Yo;have wi:=cF ((i:Int)+1) yA yA;have R3:(l.take (i+1)).map (pJ u)=(l.take i).map (pJ u)++[(ez (az u).is (gg u.ms f),f.pc)]:=by
      rw[take_add_one,Yo];simp[pJ]
     have Ts:((l.take i).map (pJ u)).length=i:=by simp;omega
     generalize (l.take i).map (pJ u)=B at Ts R3;have hBl:=aC Aw B;rw[Ts] at hBl;have tB:trees (B.flatMap y6)=true:=ak s8 _;have bd:(i+1)*16<=140737488355328:=by omega
     have b2:i*2+2=(i+1)*2:=by omega
     have YJ:¬ ((ez (az u).is (gg u.ms f):Nat):Int)<0:=by omega
     generalize ez (az u).is (gg u.ms f)=ix at Wm R3 YJ;obtain⟨i1,i2,i3,i4⟩:∃ p ls n,dV (gg u.ms f)=[I p,.ax ls n]/\trees ls=true:=⟨_,_,_,rfl,aK _⟩;rw[i4.1] at UK Wm VB;simp only[cg,cR,gC,eC,ints,aB,dY] at UK Wm Ua VB;apply aq;simp[hC,Og];refine T.seq (T.cond (b:=true) rfl (T.skip ?_));simp;apply eN;apply aq;simp[hC,Og,VZ,dY,ints,aB];refine T.seq (T.rx ah follows [0,1,2,3,4,5] [(0,3)] Ix ?_);simp[hC];refine RX.call rfl rfl rfl rfl rfl Ua UK ?_;simp;refine RX.call rfl rfl rfl rfl rfl VB Wm ?_;simp;apply aW;simp[hC,YJ];refine fX ?_;simp;apply aN;simp[hC,hBl,bd,aY];apply aN;simp[hC,wi];refine⟨l.length-(i+1),by omega,?_⟩;have Ye:trees (B.flatMap y6++[I ix,I f.pc])=true:=by rw[bg,tB];rfl
     have Yx:=λ ρ=>af ρ _ Ye;have r1:=λ ρ=>af ρ _ tF;have r2:=λ ρ=>af ρ _ Yb;have r3:=λ ρ=>af ρ _ Ya;have r4:=λ ρ=>af ρ _ cB;have r5:=λ ρ=>af ρ _ Xa;have r6:=λ ρ=>af ρ _ Tp;have r7:=λ ρ=>af ρ _ Yc;refine aa.le (Le.norm [46,45,44,11,6,5] [(28,19),(18,18),(1,1),(0,0)] 0 20 Sn Sl yCj yA) ?_;simp[cm,bh,aX,cN,dZ,assoc,Yx];refine aa.here ⟨i+1,rfl,by omega,?_⟩;rw[R3];simp[cR,eC,ints,aB,y6]
    ·have RU:i=l.length:=by omega
     subst RU;rw[take_length];have tP:trees ((l.map (pJ u)).flatMap y6)=true:=ak s8 _;have tkP:take (l.length*2) ((l.map (pJ u)).flatMap y6)=(l.map (pJ u)).flatMap y6:=take_of_length_le (by rw[aC Aw];simp);have Zz:(l.map (pJ u)).length=l.length:=by simp
     generalize l.map (pJ u)=B at tP tkP Zz |-;apply aq;simp[hC];apply T.seq;refine T.cond (b:=false) Ta ?_;simp;apply T.exit;simp;refine T.seq (T.region (TL.some ah 1 ?_));simp[hC];refine mK rfl (CU (d:=.bB [(0,3),(1,46)]) (c:=.agg [I d,.bb 19 0 l.length]) ah RT rfl xr rfl (λ h=>by cases h)) (TL.go' ah ?_);simp[hC];apply T.ret;refine aa.le (Le.trim [10] [19] 20 (by simp[-all_eq_true,-all_flatMap,-all_map,ai tP]) yA) ?_;simp;refine aa.le (Le.dn (o:=19) rfl tP) ?_;simp[tkP];apply aa.here;simp[Ox,LP,Zz]
  ·have hn:fz u s j m=none:=by simp[fz,getElem?_eq_none (Nat.le_of_not_lt hj)]
   have UJ:(s.ts.length:Int)<=(j:Int):=by omega
   rw[hn];apply aW;simp[hC,h0,UJ];refine T.cond (b:=true) Ta ?_;simp;apply aq;simp[hC];apply T.ret;apply aa.here;simp[Tryz.results36,Ox]
theorem IX (o:Option (Nat×List (Nat×Nat))):tree (Qw o)=true:=by
 cases o with
 | none=>rfl
 | some x=>simp only[Qw,tree,trees,LP,Bool.and_self]
theorem uT {u:Un}(hu:fV u){k:Nat}(hk:k<=1000){s:Sy}(hs:ov u k s)(t:Int)(m:Nat)(hm:m<u.ms.length):ae prog 11 [cg u,gC (az u),cT s,I t,I m] (Qw (fz u s t m)):=by
 have UU:=Eu hu hk hs t m hm;have Xa:=ak ca (az u).is;have Tp:=js (az u).calls;have Yc:=aK (az u).roots;have RQ:trees [cg u,gC (az u),cT s,I t,I m]=true:=by
  have:=bj u;simp only[trees,tree,cg,this,gC,eC,aB,cT,kX,ints,Bool.and_self]
 refine ae.aE ah Tryz.func11 rfl Ix (by simp[Tryz.ntmps11]) (IX _) λ C hC RR=>?_;rw[Tryz.ntmps11] at hC;simp only[cT,kX,cg,cR,gC,eC,ints,aB] at UU RQ |-;generalize fz u s t m=o at UU |-;apply aq;simp[hC];apply aq;simp[hC]
 cases o with
 | none=>
  refine TL.call RT rfl rfl (bU.of rfl RQ UU) ?_;refine mK rfl (Fj (c:=.agg [I 0,.aj]) (z:=.agg #[.int .i64 0,.slice none 0 0]) ah RT rfl (by simp[Ox]) rfl (λ h=>by cases h) Ix rfl) (TL.go' ah ?_);simp[hC];apply aq;simp[hC];apply T.ret;refine aa.le (Le.trim [10,11] [3] 4 xr yA) ?_;simp;refine aa.le (Le.nz [] [3]) ?_;apply aa.here;simp[Qw]
 | some x=>
  have tP:trees (x.2.flatMap y6)=true:=ak s8 _;refine TL.call RT rfl rfl (bU.of rfl RQ UU) ?_;refine mK rfl (Ih (c:=.agg (LP x.1 x.2)) ah RT rfl (by simp[Ox]) rfl (λ h=>by cases h)) (TL.go' ah ?_);simp[hC,LP];apply aq;simp[hC];apply T.ret;apply aa.here;simp[Tryz.results11,Qw,LP]
def RO (s:Sy):Prop:=∀ h∈s.tb,h.o<=s.ts.length/\(h.o=0->h.d=0)
def DH (i:Nat)(a b:List Ho):Prop:=∀ (j:Nat) (h h':Ho),a[j]? = some h->b[j]? = some h'->(h.o=i+1\/h'.o=i+1)->h=h'
theorem DH.refl (i:Nat)(a:List Ho):DH i a a:=λ j h h' h1 h2 _=>by rw[h1] at h2;cases h2;rfl
theorem nH (m i:Nat):∀ (os:List Nat) (a b:List Ho),a.length=b.length->DH i a b->fh m i os b=fh m i os a
 | [],a,b,_,_=>by cases a<;>cases b<;>rfl
 | o::os,[],[],_,_=>rfl
 | o::os,[],_::_,h,_=>by simp at h
 | o::os,_::_,[],h,_=>by simp at h
 | o::os,x::a,y::b,h,ht=>by
  have h1:=nH m i os a b TK λ j p q hp hq hd=>ht (j+1) p q (by simpa using hp) (by simpa using hq) hd;have h2:=ht 0 x y rfl rfl;simp only[fh,h1];by_cases hd:x.o=i+1\/y.o=i+1
  ·rw[h2 hd]
  ·have hx:x.o≠i+1:=λ e=>hd (.inl e);have hy:y.o≠i+1:=λ e=>hd (.inr e);rw[if_neg (λ e=>hy e.2),if_neg (λ e=>hx e.2)]
theorem pa (m i:Nat):∀ (os:List Nat) (a:List Ho),(∀ h∈a,h.o<=i)->fh m i os a=0
 | [],a,_=>by cases a<;>rfl
 | o::os,[],_=>rfl
 | o::os,x::a,h=>by
  have h1:=h x mem_cons_self;simp only[fh,pa m i os a λ y hy=>h y (mem_cons_of_mem _ hy)];rw[if_neg (λ e=>by omega)]
theorem DH.set {i:Nat}{a:List Ho}{e:Nat}{x y:Ho}(he:a[e]? = some x)(hx:x.o≠i+1)(hy:y.o≠i+1):DH i a (a.set e y):=λ j h h' h1 h2 hd=>by
 by_cases hj:e=j
 ·subst hj;rw[he] at h1;cases h1;rw[getElem?_set_self (List.getElem?_eq_some_iff.1 he).1] at h2;cases h2;rcases hd with hd | hd
  ·exact (hx hd).elim
  ·exact (hy hd).elim
 ·rw[getElem?_set_ne hj,h1] at h2;cases h2;rfl
theorem M0 (ms:List Mx)(tb:List Ho)(e th:Nat):(fH ms tb e th).1.length=tb.length/\(∀ i,i≠th->DH i tb (fH ms tb e th).1)/\∀ h∈(fH ms tb e th).1,h∈tb\/h.o=th+1:=by
 unfold fH;split
 ·rename_i hf;refine⟨by simp,λ i hi=>?_,λ h hh=>?_⟩
  ·unfold xC at hf;split at hf
   ·rename_i m h hm hh;rw[hh];refine DH.set hh (λ Tc=>?_) ZE;rw[Tc] at hf;simp at hf;omega
   ·cases hf
  ·rcases mem_or_eq_of_mem_set hh with hh | hh
   ·exact .inl hh
   ·exact .inr (by rw[hh])
 ·exact⟨rfl,λ i _=>DH.refl i tb,λ h hh=>.inl hh⟩
theorem G6 (ms:List Mx)(tb:List Ho)(e th:Nat):(dm ms tb e th).1.length=tb.length/\(∀ i,i≠th->DH i tb (dm ms tb e th).1)/\∀ h∈(dm ms tb e th).1,h∈tb\/h.o=th+1\/(h.o=0/\h.d=0):=by
 unfold dm;split
 ·rename_i h hm hh;split
  ·rename_i ho;refine⟨by simp,λ i hi=>DH.set hh yA ?_,λ x hx=>?_⟩
   ·split
    ·simp only;omega
    ·simp only;omega
   ·rcases mem_or_eq_of_mem_set hx with hx | hx
    ·exact .inl hx
    ·rw[hx];split
     ·exact .inr (.inr ⟨rfl,rfl⟩)
     ·exact .inr (.inl rfl)
  ·exact⟨rfl,λ i _=>DH.refl i tb,λ h hh=>.inl hh⟩
 ·exact⟨rfl,λ i _=>DH.refl i tb,λ h hh=>.inl hh⟩
structure sS (u:Un)(t:Nat)(s s':Sy):Prop where
 tbl:s'.tb.length=s.tb.length
 tb:∀ i,i≠t->DH i s.tb s'.tb
 ow:RO s->RO s'
 ts:∀ i,i≠t->i<s.ts.length->s'.ts[i]? = s.ts[i]?
 len:s.ts.length<=s'.ts.length
 new:∀ i l,s.ts.length<=i->s'.ts[i]? = some l->i=s.ts.length/\t<s.ts.length/\∃ g:Fr,l=[g]/\g.pc=0/\gg u.ms g∈(az u).is/\ez (az u).is (gg u.ms g)∈(az u).roots
theorem sS.same (u:Un)(t:Nat)(s:Sy){gs:List Int}{fa:Nat}:sS u t s ⟨gs,s.tb,s.ts,fa⟩:=
 ⟨rfl,λ i _=>DH.refl i _,λ h=>h,λ _ _ _=>rfl,Nat.le_refl _,λ i l hi h=>by
  have:=(List.getElem?_eq_some_iff.1 h).1;simp only at this;omega⟩
theorem sS.set (u:Un){t:Nat}{s:Sy}{gs:List Int}{tb:List Ho}{l:List Fr}{fa:Nat}(h1:tb.length=s.tb.length)(h2:∀ i,i≠t->DH i s.tb tb)(h3:∀ h∈tb,h∈s.tb\/h.o=t+1\/(h.o=0/\h.d=0))(ht:t<s.ts.length):sS u t s ⟨gs,tb,s.ts.set t l,fa⟩:=
 ⟨h1,h2,λ h x hx=>by
  simp only[length_set];rcases h3 x hx with h4 | h4 | h4
  ·exact h x h4
  ·exact⟨by omega,λ h5=>by omega⟩
  ·exact⟨by omega,λ _=>h4.2⟩,λ i hi _=>by simp only;rw[getElem?_set_ne yA],by simp,λ i l hi h=>by
  have:=(List.getElem?_eq_some_iff.1 h).1;simp only[length_set] at this;omega⟩
theorem sS.D8 (u:Un){t:Nat}{s:Sy}{gs:List Int}{l:List Fr}{fa:Nat}(ht:t<s.ts.length):sS u t s ⟨gs,s.tb,s.ts.set t l,fa⟩:=
 sS.set u rfl (λ i _=>DH.refl i _) (λ _ h=>.inl h) ht
theorem Md {u:Un}(hu:fV u){k:Nat}{s:Sy}(hs:ov u k s){t:Nat}{l0:List Fr}{f:Fr}(hl:s.ts[t]? = some (l0++[f]))(ht:eW s t=some f){q:Pr}(hq:u.ps[f.proc]? = some q){i:In}(hi:q.code[f.pc]? = some i):sS u t s (fk u s t l0 f i).1:=by
 have Si:=(List.getElem?_eq_some_iff.1 hl).1
 cases i with
 | set k' gl e=>
  simp only[fk,N4];split
  ·split
   ·exact sS.D8 u Si
   ·exact sS.D8 u Si
  ·exact sS.same u t s
 | branch g e=>
  simp only[fk,OG];split
  ·exact sS.D8 u Si
  ·exact sS.same u t s
 | jump g=>exact sS.D8 u Si
 | ret=>exact sS.D8 u Si
 | lock un p=>
  simp only[fk];split
  ·simp only[N1];split
   ·split
    ·obtain⟨a,b,c⟩:=G6 u.ms s.tb (bT u s t p).1.toNat t;exact sS.set u a b c Si
    ·exact sS.same u t s
   ·exact sS.same u t s
  ·simp only[Of];split
   ·split
    ·obtain⟨a,b,c⟩:=M0 u.ms s.tb (bT u s t p).1.toNat t;exact sS.set u a b (λ h hh=>(c h hh).imp id .inl) Si
    ·exact sS.same u t s
   ·exact sS.same u t s
 | call go tg es ps=>
  have hsv:=FG hu hs hl ht hq hi;simp only[fk] at hsv |-;split
  ·rename_i Xi;rw[if_pos Xi] at hsv;simp only[Oq] at hsv |-;split
   ·rename_i h0;rw[if_pos h0] at hsv;split
    ·exact sS.same u t s
    ·rename_i h32;rw[if_neg h32] at hsv;have hb:=sS.D8 u (s:=s) (gs:=s.gs) (l:=l0++[{ f with pc:=f.pc+1 }]) (fa:=s.fault) Si;refine⟨rfl,λ i _=>DH.refl i _,λ h x hx=>?_,λ i hi Og=>?_,by simp,λ i l Tc h=>?_⟩
     ·have:=h x hx;simp only[length_append,length_set,length_singleton];exact⟨by omega,this.2⟩
     ·simp only;rw[getElem?_append_left (by rw[length_set];exact Og),getElem?_set_ne yA]
     ·have RS:=(List.getElem?_eq_some_iff.1 h).1;simp only[length_append,length_set,length_singleton] at RS;have RU:i=s.ts.length:=by omega
      subst RU;simp only at h;rw[getElem?_append_right xr] at h;simp only[length_set,Nat.sub_self,getElem?_cons_zero,Option.some.injEq] at h;subst h;have hic:=(hsv.fr [(mV u s t f tg (uj u tg) es ps).1] xr _ (mem_singleton.2 rfl)).ic;refine⟨rfl,Si,_,rfl,?_,hic,?_⟩
      ·unfold mV;split
       ·split<;>rfl
       ·rfl
      ·obtain⟨o1,o2,o3,o4⟩:=hs.gA hl;obtain⟨q',T6,gZ,Wd,R7⟩:=o2.q;rw[hq] at T6;cases T6;have TV:=(hu.pc q (mem_of_getElem? hq)).2 _ (mem_of_getElem? hi);rw[<- hs.gs,<- Wd,<- R7] at TV;obtain⟨c1,c2,c3⟩:=TV;have hci:=sF hu;rw[hci.root];right;obtain⟨j,hj⟩:=mem_iff_getElem?.1 o2.ic;refine⟨j,_,(List.getElem?_eq_some_iff.1 hj).1,hj,.call go tg es ps,?_,Xi,?_⟩
       ·simp only[ay,gg,hq];exact mem_of_getElem? hi
       ·unfold mV at h0 |-;split
        ·rename_i h1;rw[if_pos h1] at h0;split
         ·rename_i h2;obtain⟨k1,k2⟩:=nC hu ht o2 ps c3 h2;refine⟨_,rfl,?_⟩;simp only[gg,k2]
         ·rename_i h2;rw[if_neg h2] at h0;exact (h2 h0).elim
        ·rename_i h1;rw[if_neg h1] at h0;exact (h1 h0).elim
   ·exact sS.same u t s
  ·simp only[OF];split
   ·exact sS.D8 u Si
   ·exact sS.same u t s
theorem FF {u:Un}(hu:fV u){k:Nat}{s:Sy}(hs:ov u k s)(t:Int):sS u t.toNat s (fT u s t).1:=by
 unfold fT;split
 ·exact sS.same u _ s (gs:=s.gs) (fa:=s.fault)
 ·rename_i f hf;split
  ·exact sS.same u _ s (gs:=s.gs) (fa:=s.fault)
  ·rename_i i hi;obtain⟨n,l0,rfl,hl,_,hd⟩:=ld hf;obtain⟨q,hq,gZ,_,_⟩:=(hs.gA hl).2.1.q;simp only[jJ,hf,hq] at hi;rw[Int.toNat_natCast,hd];exact Md hu hs hl hf hq hi
theorem PV (u:Un):RO (oS u):=λ h hh=>by
 have:=eq_of_mem_replicate hh;rw[this];exact⟨Nat.zero_le _,λ _=>rfl⟩
end Go.Proofs.YtlkmbdfhdknlgaaGreat
