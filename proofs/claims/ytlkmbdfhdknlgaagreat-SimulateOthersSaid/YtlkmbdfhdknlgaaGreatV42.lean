/- Find of the program. -/
import Derived.Test.YtlkmbdfhdknlgaaGreatV41
set_option maxHeartbeats 4000000
set_option maxRecDepth 100000
namespace Go.aV
open Go.Can List
def zd (p:Int)(ls:List Int):List Int:=[p,ls.length]++ls++replicate (6-ls.length) 0
theorem ze (p:Int)(ls:List Int)(h:ls.length<=6):js p ls=(zd p ls).map λ n:Int=>I n:=by
 match ls,h with
 | [],_=>rfl
 | [_],_=>rfl
 | [_,_],_=>rfl
 | [_,_,_],_=>rfl
 | [_,_,_,_],_=>rfl
 | [_,_,_,_,_],_=>rfl
 | [_,_,_,_,_,_],_=>rfl
 | _::_::_::_::_::_::_::_,h=>simp at h
theorem AU {p p':Int}{ls Wh:List Int}:zd p ls=zd p' Wh↔p=p'/\ls=Wh:=by
 refine⟨λ h=>?_,λ⟨h1,h2⟩=>by rw[h1,h2]⟩;simp only[zd,cons_append,nil_append,cons.injEq] at h;obtain⟨h1,h2,h3⟩:=h;refine⟨h1,?_⟩;have hl:ls.length=Wh.length:=by omega
 have:=congrArg (take ls.length) h3;rwa [take_left,hl,take_left] at this
def CU (p:Int)(ls:List Int):Value:=.agg ((zd p ls).map λ n:Int=>Value.int .i64 n).toArray
theorem Im (l:List Int):Nf (l.map λ n:Int=>I n)=some (l.map λ n:Int=>Value.int .i64 n):=by
 induction l with
 | nil=>rfl
 | cons a r ih=>simp only[map_cons,Nf,cv1,ih]
theorem ya (p:Int)(ls:List Int)(h:ls.length<=6):ju (.agg (js p ls))=some (CU p ls):=by
 rw[ze p ls h];simp only[ju,Im,CU]
theorem xa:∀ (a b:List Int),ub (a.map λ n:Int=>Value.int .i64 n) (b.map λ n:Int=>Value.int .i64 n)=decide (a=b)
 | [],[]=>rfl
 | [],_::_=>rfl
 | _::_,[]=>rfl
 | x::a,y::b=>by
  simp only[map_cons,ub,xa a b,yu];by_cases h:x=y<;>simp[h]
theorem Jg (p p':Int)(ls Wh:List Int):wJ (CU p ls) (CU p' Wh)=(decide (p=p') && decide (ls=Wh)):=by
 simp only[CU,wJ,xa];by_cases h:zd p ls=zd p' Wh
 .have:=AU.1 h;simp[this.1,this.2]
 .have h2:¬ (p=p'/\ls=Wh):=λ e=>h (AU.2 e);rw[decide_eq_false h];by_cases e:p=p'<;>simp_all
theorem Ag (p:Int)(ls:List Int)(h:ls.length<=6)(hp:zM p=true)(Xe:∀ n∈ls,zM n=true):n7 8 (CU p ls)=true:=by
 have h2:zM (ls.length:Int)=true:=by simp only[zM,Bool.and_eq_true,decide_eq_true_eq];omega
 simp only[n7,CU,Bool.and_eq_true,decide_eq_true_eq];refine⟨by simp[zd];omega,all_eq_true.2 λ v hv=>?_⟩;simp only[mem_map,zd,mem_append,mem_cons,not_mem_nil,or_false,mem_replicate] at hv;obtain⟨n,hn,rfl⟩:=hv;simp only[wI];rcases hn with ((rfl | rfl) | hn) | ⟨_,rfl⟩
 .exact hp
 .exact h2
 .exact Xe n hn
 .rfl
theorem xY (p:Int)(ls:List Int)(Xe:6<ls.length):∀ (l:List Is) (i:Int),(∀ x∈l,x.bz.length<=6)->kr l p ls i=-1
 | [],_,_=>rfl
 | y::r,i,h=>by
  have hy:=h y mem_cons_self;rw[kr,if_neg,xY p ls Xe r (i+1) λ x hx=>h x (mem_cons_of_mem _ hx)];simp only[mv,Bool.and_eq_true,decide_eq_true_eq];rintro⟨_,e⟩;rw[<- e] at Xe;simp at Xe;omega
end Go.aV
namespace Go.Proofs.YtlkmbdfhdknlgaaGreat
open Go.Can Go.aV List Tryz
theorem Kc:x9 prog 3 8 221=true:=by kernel_rfl
theorem keyEq:EqT prog 221 (n7 8):=Bn yA Kc GK
theorem keyEI:IY prog [⟨221,n7 8⟩]:=λ x hx=>by
 simp only[mem_cons,not_mem_nil,or_false] at hx;subst hx;exact keyEq
theorem Ie {C:Cx}{s:St}{o:Oper}{x y:Operand}{q:TypeId}{cx cy:CV}{vx vy:Value}(hd:bl C.nt o.dst=true)(ho:o.op=.binOp .eql 221 x y q)(hx:ev s x=some cx)(hy:ev s y=some cy)(h1:ju cx=some vx)(h2:ju cy=some vy)(k1:n7 8 vx=true)(k2:n7 8 vy=true):qh prog C o s (s.put o.dst (.bool (wJ vx vy))):=
 vS keyEI hd (by simp only[Bm,ho,hx,hy,h1,h2,M8,if_true,k1,k2,and_self])
theorem AV (p:Int)(ls:List Int)(h:ls.length<=6):(js p ls).length=8:=by simp[js,gC];omega
theorem xS (p:Int)(ls:List Int)(h:ls.length<=6):(js p ls).all one=true:=by
 rw[ze p ls h];exact all_eq_true.2 λ x hx=>by
  obtain⟨n,_,rfl⟩:=mem_map.1 hx;rfl
theorem vG (p:Int)(ls:List Int)(h:ls.length<=6):trees (js p ls)=true:=by
 rw[ze p ls h];exact aB _
def J31 (l:List Is)(p:Int)(ls:List Int)(n:Nat)(s:St):Prop:=∃ i:Nat,n=l.length-i/\i<=l.length/\kr l p ls 0=kr (l.drop i) p ls i/\
 s=⟨[(21,I i),(20,I l.length),(19,.au (l.flatMap gI) l.length),(5,.ax 2 0)],[(2,⟨221,0,js p ls⟩)],3⟩
theorem HQ (l:List Is)(hl:l.length<=100000)(PV:∀ x∈l,x.bz.length<=6/\zM x.proc=true/\∀ n∈x.bz,zM (n:Int)=true)(X Y:CV)(_hX:tree X=true)(_hY:tree Y=true)(p:Int)(ls:List Int)(hp:zM p=true)(Xe:∀ n∈ls,zM n=true) :
  af prog 79 [.agg [.au (l.flatMap gI) l.length,X,Y],.agg [I p,ints ls]] (I (kr l p ls 0)):=by
 have Vc:tree (ints ls)=true:=by simp[ints,tree]
 have OQ:trees [.agg [I p,ints ls]]=true:=by simp only[trees,tree,Vc,Bool.and_self]
 refine af.aC ag Tryz.func79 rfl GK (by simp[Tryz.ntmps79]) rfl λ C hC OR=>?_;rw[Tryz.ntmps79] at hC;apply aq;simp[hC];by_cases h6:ls.length<=6
 .have Pa:=AV p ls h6;have hko:=xS p ls h6;have VI:(js p ls).take 8=js p ls:=take_of_length_le yA;have tkc:=vG p ls h6;apply aq;simp[hC];refine ct OQ (AT p ls h6) ?_;simp[hC,Pa];apply aT;simp[hC];refine eQ ?_;simp;apply aT;simp[hC];apply T.block;refine T.aQ (J31 l p ls) (n:=l.length) ?_ ?_
  .refine aa.trim [21,20,19,5] [2] 3 (by simp[-all_eq_true,-all_flatMap,aj tkc]) yA ⟨0,by omega,by omega,rfl,?_⟩;simp
  .rintro n s ⟨i,rfl,hi,hf,rfl⟩;by_cases OP:i<l.length
   .obtain⟨y,hy⟩:∃ y,l[i]? = some y:=⟨l[i],getElem?_eq_getElem OP⟩;have hd:l.drop i=y::l.drop (i+1):=by
     rw[drop_eq_getElem_cons OP,(List.getElem?_eq_some_iff.1 hy).2]
    rw[hd,kr] at hf;have OS:=aH (f:=gI) (n:=2) jR hy;have wi:=cw ((i:Int)+1) yA yA;obtain⟨hy6,hyp,hyl⟩:=PV y (mem_of_getElem? hy);have T0:(y.bz.map λ n:Nat=>(n:Int)).length<=6:=by simpa using hy6
    have hyls:∀ n∈(y.bz.map λ n:Nat=>(n:Int)),zM n=true:=λ n hn=>by
     obtain⟨m,hm,rfl⟩:=mem_map.1 hn;exact hyl m hm
    have Ph:trees [.agg [I y.proc,aN y.bz]]=true:=by simp only[trees,tree,bT,Bool.and_self]
    have Xf:=AT y.proc _ T0;rw[<- j6] at Xf;have Tr:=AV y.proc _ T0;have Wk:(js y.proc (y.bz.map λ n:Nat=>(n:Int))).take 8=js y.proc (y.bz.map λ n:Nat=>(n:Int)):=take_of_length_le yA;have tkc2:=vG y.proc _ T0;have hko2:=xS y.proc _ T0;have Up:=ya p ls h6;have ZK:=ya y.proc _ T0;have Ro:=Ag p ls h6 hp Xe;have Y4:=Ag y.proc _ T0 hyp hyls;have YO:=Jg y.proc p (y.bz.map λ n:Nat=>(n:Int)) ls;have RR:mv y p ls=(decide ((y.proc:Int)=p) && decide ((y.bz.map λ n:Nat=>(n:Int))=ls)):=rfl;generalize (y.bz.map λ n:Nat=>(n:Int))=yl at RR Xf Tr Wk tkc2 hko2 ZK Y4 YO;apply aq;simp[hC,OP];refine T.seq (T.cond (b:=true) rfl (T.skip ?_));simp;apply eZ;apply aq;simp[hC,OP,OS,gI];apply aq;simp[hC];refine ct Ph Xf ?_;simp[hC,Tr];refine T.seq (T.region (TL.some ag 2 ?_));simp[hC,Pa,VI,Tr,Wk];refine l9 rfl (Ie (x:=.tmp 31) (y:=.tmp 32) (cx:=.agg (js y.proc yl)) (cy:=.agg (js p ls)) OU rfl xr xr ZK Up Y4 Ro) ?_;rw[YO,<- RR];refine TL.go' ag ?_;simp
    cases hr:mv y p ls with
    | true=>
     rw[if_pos hr] at hf;refine cX ?_;simp;apply aq;simp[hC];apply T.ret;apply aa.here;simp[Tryz.results79,hf]
    | false=>
     rw[if_neg (by simp[hr])] at hf;refine eQ ?_;simp;apply aG;simp[hC,wi];refine⟨l.length-(i+1),by omega,aa.trim [21,20,19,5] [2] 3 (by simp[-all_eq_true,-all_flatMap,aj tkc]) yA ⟨i+1,rfl,by omega,hf,?_⟩⟩;simp
   .have OV:i=l.length:=by omega
    rw[OV,drop_length,kr] at hf;have P2:=hf;apply aq;simp[hC,OP];refine T.seq (T.cond (b:=false) rfl ?_);simp;apply T.exit;simp;apply aq;simp[hC];apply T.ret;apply aa.here;simp[Tryz.results79,P2]
 .have h6':6<ls.length:=by omega
  have P2:=xY p ls h6' l 0 λ x hx=>(PV x hx).1;apply aq;simp[hC];refine ct OQ (FA p ls h6') ?_;simp[hC];apply aT;simp[hC];refine cX ?_;simp;apply aq;simp[hC];apply T.ret;apply aa.here;simp[Tryz.results79,P2]
theorem AF {u:Un}{e:Nat}(h:e<(a6 u.ms).length):e9 u.ms e=(oc u.ms e:Int):=by
 rw[e9,if_neg yA,Int.toNat_natCast,getElem?_eq_getElem h,oc,getD_eq_getElem?_getD,getElem?_eq_getElem h];rfl
def J45 (u:Un)(f:Fr)(n:Nat)(s:St):Prop:=∃ i:Nat,n=f.b9.length-i/\i<=f.b9.length/\
 s=⟨[(14,I i),(13,I f.b9.length),(12,.au (f.b9.map λ n:Nat=>I n) f.b9.length),(5,.ax 3 0),(4,.ax 2 0),(2,.ax 0 0)],[(4,iq ((f.b9.take i).map (oc u.ms))),(3,⟨95,0,[I f.proc,.bg 4 0 i]⟩),(2,⟨95,0,[I 0,.ak]⟩),(0,⟨30,0,eD u⟩)],5⟩
theorem xU {u:Un}(hu:jx u)(f:Fr)(hl:f.b9.length<=1000)(he:∀ e∈f.b9,e<(a6 u.ms).length):af prog 35 [cb u,.agg (cZ f)] (.agg (gI (mG u.ms f))):=by
 have RC:=mj hu;have Sf:=yv hu;have tE:=aM f.b9;have tV:=aB f.ay;have Tk:trees (u.gs.map bj)=true:=aB u.gs;have Tj:=dm u.ms;have bY:trees (u.ps.flatMap mw)=true:=ah eX u.ps;have O1:tree (.agg (gI (mG u.ms f)))=true:=by simp only[tree,cP]
 refine af.aC ag Tryz.func35 rfl GK (by simp[Tryz.ntmps35]) O1 λ C hC OR=>?_;rw[Tryz.ntmps35] at hC;simp only[cb,eD,cZ,ints,aN];apply aq;simp[hC];apply aq;simp[hC];apply aT;simp[hC];apply T.block;refine T.aQ (J45 u f) (n:=f.b9.length) ?_ ?_
 .refine aa.le (Le.lq 3 1 3 1 rfl rfl) ?_;simp;refine aa.trim [14,13,12,5,4,2] [4,3,2,0] 5 Qr yA ⟨0,by omega,by omega,?_⟩;simp[iq,eD,ints]
 .rintro n s ⟨i,rfl,hi,rfl⟩;simp only[iq,eD,ints];by_cases OP:i<f.b9.length
  .obtain⟨a,Uc⟩:∃ a,f.b9[i]? = some a:=⟨_,getElem?_eq_getElem OP⟩;have V3:=he a (mem_of_getElem? Uc);have SG:=kj Uc;have Sg:=sT u.ms RC a yA;rw[AF V3] at Sg;have OQ:trees [.au (u.ms.flatMap cI) u.ms.length,I a]=true:=by simp only[trees,tree,Bool.and_self]
   have wi:=cw ((i:Int)+1) yA yA;have Pb:(f.b9.take (i+1)).map (oc u.ms)=(f.b9.take i).map (oc u.ms)++[oc u.ms a]:=by
    rw[take_add_one,Uc];simp
   have Rd:((f.b9.take i).map (oc u.ms)).length=i:=by simp;omega
   generalize (f.b9.take i).map (oc u.ms)=B at Rd Pb;have bd:(i+1)*8<=140737488355328:=by omega
   apply aq;simp[hC,OP];refine T.seq (T.cond (b:=true) rfl (T.skip ?_));simp;apply eZ;apply aq;simp[hC,OP,SG];refine T.rx ag follows [0,1,2,3,4,5,6,7,8,9] [(1,5),(1,6)] GK ?_;simp[hC];refine RX.call rfl rfl rfl rfl rfl OQ Sg ?_;simp[Rd,bd,aS];apply aG;simp[hC,wi];refine⟨f.b9.length-(i+1),by omega,?_⟩;have Ve:trees (B.map (λ n:Nat=>I n)++[I (oc u.ms a)])=true:=by rw[aF,aM];rfl
   have VG:=λ ρ=>ae ρ _ Ve;have r1:=λ ρ=>ae ρ _ tE;have r2:=λ ρ=>ae ρ _ Tk;have r3:=λ ρ=>ae ρ _ Tj;have r4:=λ ρ=>ae ρ _ bY;refine aa.le (Le.norm [14,13,12,5,4,2] [(15,4),(3,3),(2,2),(0,0)] 0 5 Px Pw Yp yA) ?_;simp[cz,bf,aL,cQ,dW,assoc,VG];refine aa.here ⟨i+1,rfl,by omega,?_⟩;rw[Pb];simp[iq,eD,ints]
  .have OV:i=f.b9.length:=by omega
   subst OV;rw[take_length];have tO:=aM (f.b9.map (oc u.ms));have tkO:take f.b9.length ((f.b9.map (oc u.ms)).map λ n:Nat=>I n)=(f.b9.map (oc u.ms)).map λ n:Nat=>I n:=take_of_length_le xr;generalize hW:f.b9.map (oc u.ms)=W at tO tkO |-;have Rl:W.length=f.b9.length:=by rw[<- hW];simp
   apply aq;simp[hC];apply T.seq;refine T.cond (b:=false) PC ?_;simp;apply T.exit;simp;apply aq;simp[hC];apply T.ret;refine aa.le (Le.trim [4] [2,4] 5 (by simp[-all_eq_true,-all_flatMap,-all_map,aj tO]) yA) ?_;simp;refine aa.le (Le.cF (o:=4) rfl tO) ?_;simp[tkO];apply aa.here;simp[gI,mG,aN,hW,Rl]
theorem GH (u:Un)(s:Sy)(t:Nat)(l0:List Fr)(f:Fr)(q:Pr)(k:Nat)(gl:Bool)(e:Ex)(hk:if gl=true then k<s.gs.length else k<f.ay.length)(he:px s.gs.length f.ay.length e)(hl:s.ts[t]? = some (l0++[f]))(PI:s.fault=0)(hq:u.ps[f.proc]? = some q)(hc:q.code[f.pc]? = some (.set k gl e))(PB:ur u s)
  (h1:s.gs.length<=1000000) (h2:s.tb.length<=1000000) (h3:s.ts.length<=1000000) (h4:∀ l∈s.ts,l.length<=1000000) (h5:f.ay.length<=1000000) (h6:f.pc<=1000000) :
  af prog 53 [cb u,bp s,I t] (.bY [bp (I1 s t l0 f k gl e),.bool true]):=by
 have OZ:=dy u s t ⟨h3,h4⟩ PB;have PV:=h4 _ (mem_of_getElem? hl);have PE:l0.length<=1000000:=by simp at PV;omega
 have Pq:cN s t=some f:=by simp[cN,hl,PI]
 have PF:dR u s t=some (.set k gl e):=by simp[dR,Pq,hq,hc]
 rw[PF] at OZ;have PN:=gX s t l0 f hl h1 h2 h3 PE h5;have OQ:trees [cb u,bp s,I t]=true:=by
  have:=bt u;simp only[trees,tree,bp,dK,cb,this,ints,Bool.and_self]
 have O1:tree (.bY [bp (I1 s t l0 f k gl e),.bool true])=true:=by
  simp only[bp,dK,tree,trees,bD,Bool.and_self]
 refine af.aC ag Tryz.func53 rfl GK Vu O1 λ C hC OR=>?_;rw[Tryz.ntmps53] at hC;have Pv:=mL s.gs f.ay e he;have Qj:=gW s (aW s.gs f.ay e).2;have Qh:trees [bp s,I (aW s.gs f.ay e).2]=true:=by simp only[trees,tree,bp,dK,ints,Bool.and_self]
 have hse:I1 s t l0 f k gl e=if (aW s.gs f.ay e).2=0 then
  (if gl=true then { s with gs:=s.gs.set k (aW s.gs f.ay e).1,ts:=s.ts.set t (l0++[{ f with pc:=f.pc+1 }]) }
   else { s with ts:=s.ts.set t (l0++[{ f with pc:=f.pc+1,ay:=f.ay.set k (aW s.gs f.ay e).1 }]) })
  else { s with fault:=(aW s.gs f.ay e).2 }:=rfl
 rw[hse];generalize aW s.gs f.ay e=va at Pv Qj Qh |-;obtain⟨v,fa⟩:=va;have Uh:trees [.agg (a8 e),ints s.gs,ints f.ay]=true:=by simp only[trees,tree,aJ,bD,Bool.and_self]
 obtain⟨e1,e2,e3,e4,e5,S7,XH⟩:=fe e;simp only[gg,df,S7,kI,cons_append,nil_append] at OZ;rw[S7] at Pv Uh;simp only[bp,dK,cb,eD,ints] at OZ PN OQ Pv Qj Qh Uh |-;apply aq;simp[hC];apply aq;simp[hC];refine ct OQ OZ ?_;simp[hC];apply aT;simp[hC];refine eQ ?_;simp;apply aq;simp[hC];have tG:trees (s.gs.map bj)=true:=aB s.gs;have tT:trees (s.tb.flatMap cg)=true:=ah ba _;have tL:trees (l0.flatMap cZ)=true:=ah bX _;have tV:trees (f.ay.map bj)=true:=aB f.ay;have tE:=aM f.b9;have OW:trees ((s.ts.take t).flatMap cd)=true:=ah aK _;have OY:trees ((s.ts.drop (t+1)).flatMap cd)=true:=ah aK _;have rG:=λ ρ=>ae ρ _ tG;have rT:=λ ρ=>ae ρ _ tT;have rL:=λ ρ=>ae ρ _ tL;have rV:=λ ρ=>ae ρ _ tV;have r1:=λ ρ=>ae ρ _ OW;have r2:=λ ρ=>ae ρ _ OY;have rE:=λ ρ=>ae ρ _ tE;have ra:∀ ρ (a b:List CV),aL ρ (a++b)=aL ρ a++aL ρ b:=λ ρ a b=>by rw[aY,aY,aY,map_append]
 have Vd:aX 0 [.agg [.au (s.gs.map bj) s.gs.length,.au (s.tb.flatMap cg) s.tb.length,.au (s.ts.flatMap cd) s.ts.length,I s.fault],I t]=true:=by
  have tS:trees (s.ts.flatMap cd)=true:=ah aK _;simp only[aE,all_cons,all_nil,Bool.and_true];rw[bq 0 _ Wb];rfl
 refine TL.du ag [] [] 0 6 (PN) rfl PU OU rfl rfl Pd Pd RZ Pd Pd (TL.go' ag ?_);simp[hC,br,bf,aL,cQ,bP,rG,rT,rL,rV,r1,r2,ra,aN];generalize hA:(s.ts.take t).flatMap cd=A at OW r1 |-;generalize hB:(s.ts.drop (t+1)).flatMap cd=B at OY r2 |-;generalize hD:l0.flatMap cZ=D at tL rL |-;have O5:=(List.getElem?_eq_some_iff.1 hl).1;have lA:A.length=t:=by rw[<- hA,ch,length_map,length_take];omega
 have lD:D.length=l0.length*4:=by rw[<- hD];exact aA cL l0
 have dA:∀ r:List CV,(A++r).drop t=r:=λ r=>by rw[<- lA];simp
 have dD:∀ r:List CV,(D++r).drop (l0.length*4)=r:=λ r=>by rw[<- lD];simp
 have PK:∀ (r:List CV) (k:Nat),(D++r).drop (l0.length*4+k)=r.drop k:=λ r k=>by rw[<- lD,drop_append];simp
 have P4:∀ (r:List CV) (k:Nat),(D++r).take (l0.length*4+k)=D++r.take k:=λ r k=>by rw[<- lD,take_append,take_of_length_le yA];simp
 have P6:∀ (r:List CV),(D++r).drop (l0.length*4+1+1)=r.drop 2:=λ r=>PK r 2;have w1:=cw (l0.length:Int) yA yA;have w2:(l0.length:Int)<(l0.length:Int)+1:=by omega
 have w3:=cw ((f.pc:Int)+1) yA yA;refine T.le (Le.trim [10,8,7,6,4,3,2] [10,4,5,6,7,8,3,2,1,0] 11 U9 yA) ?_;simp;apply aq;simp[hC,O5,dA];apply aq;simp[hC,w1,w2];apply aq;simp[hC,w3,lD,PK,P4,P6]
 repeat first
  | apply T.seq
  | (apply aG;simp[hC])
  | (refine T.cond (b:=false) ?_ ?_;(first | rfl | (simp[ev,assoc];done));simp)
  | (refine T.cond (b:=true) ?_ ?_;(first | rfl | (simp[ev,assoc,lD];done));simp)
  | (apply T.skip;simp)
  | apply T.block
 refine T.Ls ag follows [] [0,1,2,3,4,5,6,7,8,9,10,11,12,13] [] GK ?_;have kV0:take f.ay.length (f.ay.map bj)=f.ay.map bj:=take_of_length_le xr;simp[hC,PK];refine TH.call rfl rfl rfl rfl (bR.lent rfl (by simp[nr,zb,assoc,kV0]) Pv rfl) (TH.go' ?_);simp[hC];by_cases hf:fa=0
 .subst hf
  cases gl with
  | true=>
   have VX:k<s.gs.length:=hk;have US:k+1<=s.gs.length:=VX;have eG:take k (s.gs.map bj)++I v::drop (k+1) (s.gs.map bj)=(s.gs.set k v).map bj:=by
    rw[map_set,set_eq_take_append_cons_drop,if_pos (by simpa using VX)]
   have Rl:(s.gs.set k v).length=s.gs.length:=by simp
   generalize s.gs.set k v=W at eG Rl |-
   repeat first
    | apply T.seq
    | (apply aG;simp[hC,VX,US,eG])
    | (refine T.cond (b:=false) ?_ ?_;(first | rfl | (simp[ev,assoc];done));simp)
    | (refine T.cond (b:=true) ?_ ?_;(first | rfl | (simp[ev,assoc,lD,VX,US,dD,PK,P4,P6,eG];done));simp)
    | (apply T.skip;simp)
    | apply T.block
   have tG2:trees ((W).map bj)=true:=aB _;apply T.ret;refine aa.le (Le.trim [7,6] [2,4,5,6,7,8] 11 (by simp[-all_eq_true,-all_flatMap,-all_map,aj tG2,aj tT,aj tL,aj tV,aj OW,aj OY]) yA) ?_;simp;have kG:take s.gs.length ((W).map bj)=(W).map bj:=take_of_length_le (by simp[Rl]);have kT:take (s.tb.length*2) (s.tb.flatMap cg)=s.tb.flatMap cg:=take_of_length_le Vy;have kV:take f.ay.length ((f.ay).map bj)=(f.ay).map bj:=take_of_length_le xr;refine aa.le (Le.cF (o:=8) rfl tV) ?_;simp[kV,ai tG2,ai tT,ai tL,ai OW,ai OY];refine aa.le (Le.cF (o:=4) rfl tG2) ?_;simp[kG,ai tT,ai tL,ai OW,ai OY];refine aa.le (Le.cF (o:=5) rfl tT) ?_;simp[kT,ai tL,ai OW,ai OY];have tF:trees (D++[I f.proc,I ((f.pc:Int)+1),.au ((f.ay).map bj) f.ay.length,.au (f.b9.map λ n:Nat=>I n) f.b9.length])=true:=by
    rw[aF,tL];simp only[trees,tree,Bool.and_self]
   have kF:∀ a b c d:CV,take ((l0.length+1)*4) (D++[a,b,c,d])=D++[a,b,c,d]:=λ a b c d=>take_of_length_le PA;refine aa.le (Le.cF (o:=7) rfl tF) ?_;simp[kF,ai OW,ai OY];have tH:trees (A++.au (D++[I f.proc,I ((f.pc:Int)+1),.au ((f.ay).map bj) f.ay.length,.au (f.b9.map λ n:Nat=>I n) f.b9.length]) (l0.length+1)::B)=true:=by
    simp only[aF,OW,trees,OY,tree,Bool.and_self]
   have lB:B.length=s.ts.length-(t+1):=by rw[<- hB,ch,length_map,length_drop]
   have kH:∀ x:CV,take s.ts.length (A++x::B)=A++x::B:=λ x=>take_of_length_le PA;refine aa.le (Le.cF (o:=6) rfl tH) ?_;simp[kH];apply aa.here;have O6:(s.ts.set t (l0++[{ f with pc:=f.pc+1 }])).flatMap cd=A++.au (D++[I f.proc,I ((f.pc:Int)+1),.au ((f.ay).map bj) f.ay.length,.au (f.b9.map λ n:Nat=>I n) f.b9.length]) (l0.length+1)::B:=by
    rw[set_eq_take_append_cons_drop,if_pos O5,flatMap_append,flatMap_cons,hA,hB];simp[cd,cZ,hD,ints,aN]
   simp[O6,Rl]
  | false=>
   have Pa:k<f.ay.length:=hk;have Tr:k+1<=f.ay.length:=Pa;have eV:take k (f.ay.map bj)++I v::drop (k+1) (f.ay.map bj)=(f.ay.set k v).map bj:=by
    rw[map_set,set_eq_take_append_cons_drop,if_pos (by simpa using Pa)]
   have Rl:(f.ay.set k v).length=f.ay.length:=by simp
   generalize f.ay.set k v=W at eV Rl |-
   repeat first
    | apply T.seq
    | (apply aG;simp[hC])
    | (refine T.cond (b:=false) ?_ ?_;(first | rfl | (simp[ev,assoc];done));simp)
    | (refine T.cond (b:=true) ?_ ?_;(first | rfl | (simp[ev,assoc,lD,Pa,dD,PK,P4,P6];done));simp)
    | (apply T.skip;simp)
    | apply T.block
   refine T.Ls ag follows [] [0,1,2,3,4,5,6,7] [8] GK ?_;simp[hC,Pa,Tr,PK,eV]
   repeat first
    | apply T.seq
    | (apply aG;simp[hC])
    | (refine T.cond (b:=false) ?_ ?_;(first | rfl | (simp[ev,assoc,lD];done));simp)
    | (refine T.cond (b:=true) ?_ ?_;(first | rfl | (simp[ev,assoc,lD];done));simp)
    | (apply T.skip;simp)
    | apply T.block
   have tV2:trees ((W).map bj)=true:=aB _;apply T.ret;refine aa.le (Le.trim [7,6] [2,4,5,6,7,8] 11 (by simp[-all_eq_true,-all_flatMap,-all_map,aj tG,aj tT,aj tL,aj tV2,aj OW,aj OY]) yA) ?_;simp;have kG:take s.gs.length ((s.gs).map bj)=(s.gs).map bj:=take_of_length_le xr;have kT:take (s.tb.length*2) (s.tb.flatMap cg)=s.tb.flatMap cg:=take_of_length_le Vy;have kV:take f.ay.length ((W).map bj)=(W).map bj:=take_of_length_le (by simp[Rl]);refine aa.le (Le.cF (o:=8) rfl tV2) ?_;simp[kV,ai tG,ai tT,ai tL,ai OW,ai OY];refine aa.le (Le.cF (o:=4) rfl tG) ?_;simp[kG,ai tT,ai tL,ai OW,ai OY];refine aa.le (Le.cF (o:=5) rfl tT) ?_;simp[kT,ai tL,ai OW,ai OY];have tF:trees (D++[I f.proc,I ((f.pc:Int)+1),.au ((W).map bj) f.ay.length,.au (f.b9.map λ n:Nat=>I n) f.b9.length])=true:=by
    rw[aF,tL];simp only[trees,tree,Bool.and_self]
   have kF:∀ a b c d:CV,take ((l0.length+1)*4) (D++[a,b,c,d])=D++[a,b,c,d]:=λ a b c d=>take_of_length_le PA;refine aa.le (Le.cF (o:=7) rfl tF) ?_;simp[kF,ai OW,ai OY];have tH:trees (A++.au (D++[I f.proc,I ((f.pc:Int)+1),.au ((W).map bj) f.ay.length,.au (f.b9.map λ n:Nat=>I n) f.b9.length]) (l0.length+1)::B)=true:=by
    simp only[aF,OW,trees,OY,tree,Bool.and_self]
   have lB:B.length=s.ts.length-(t+1):=by rw[<- hB,ch,length_map,length_drop]
   have kH:∀ x:CV,take s.ts.length (A++x::B)=A++x::B:=λ x=>take_of_length_le PA;refine aa.le (Le.cF (o:=6) rfl tH) ?_;simp[kH];apply aa.here;have O6:(s.ts.set t (l0++[{ f with pc:=f.pc+1,ay:=W }])).flatMap cd=A++.au (D++[I f.proc,I ((f.pc:Int)+1),.au ((W).map bj) f.ay.length,.au (f.b9.map λ n:Nat=>I n) f.b9.length]) (l0.length+1)::B:=by
    rw[set_eq_take_append_cons_drop,if_pos O5,flatMap_append,flatMap_cons,hA,hB];simp[cd,cZ,hD,ints,aN,Rl]
   simp[O6]
 .have O9:((fa:Int) != 0)=true:=by rw[bne_iff_ne];omega
  repeat first
   | apply T.seq
   | (apply aG;simp[hC,O9])
   | (refine T.cond (b:=false) ?_ ?_;(first | rfl | (simp[ev,assoc];done));simp)
   | (refine T.cond (b:=true) ?_ ?_;(first | rfl | (simp[ev,assoc,O9];done));simp)
   | (apply T.skip;simp)
   | apply T.block
  refine ct Qh Qj ?_;simp[hC];apply T.ret;refine aa.le (Le.trim [7,6] [2] 11 Qr yA) ?_;simp;apply aa.here;simp[hf]
theorem Jp (u:Un)(s:Sy)(t:Nat)(l0:List Fr)(f:Fr)(q:Pr)(tg:Nat)(es:List Ex)(ps:List Pl)(qq:Pr)(hm:ua u.ms)(Ru:u.ps[tg]? = some qq)(he:∀ e∈es,px s.gs.length f.ay.length e)(O7:es.length<=1000)(hp:∀ p∈ps,p.index<=1000000/\pN u.ms s.gs.length f.ay.length f.b9.length p)(Qx:ps.length<=1000)(XW:qq.ints=es.length)(Vj:qq.locals<=1000000)(hl:s.ts[t]? = some (l0++[f]))(PI:s.fault=0)(hq:u.ps[f.proc]? = some q)(hc:q.code[f.pc]? = some (.call true tg es ps))(PB:ur u s)
  (h1:s.gs.length<=1000000) (h2:s.tb.length<=1000000) (h3:s.ts.length<=1000000) (h4:∀ l∈s.ts,l.length<=1000000) (h5:f.ay.length<=1000000) (h6:f.pc<=1000000) :
  af prog 53 [cb u,bp s,I t] (.bY [bp (I5 u s t l0 f tg qq.locals es ps),.bool true]):=by
 have OZ:=dy u s t ⟨h3,h4⟩ PB;have PV:=h4 _ (mem_of_getElem? hl);have PE:l0.length<=1000000:=by simp at PV;omega
 have Pq:cN s t=some f:=by simp[cN,hl,PI]
 have PF:dR u s t=some (.call true tg es ps):=by simp[dR,Pq,hq,hc]
 rw[PF] at OZ;have PN:=gX s t l0 f hl h1 h2 h3 PE h5;have OQ:trees [cb u,bp s,I t]=true:=by
  have:=bt u;simp only[trees,tree,bp,dK,cb,this,ints,Bool.and_self]
 have O1:tree (.bY [bp (I5 u s t l0 f tg qq.locals es ps),.bool true])=true:=by
  simp only[bp,dK,tree,trees,bD,Bool.and_self]
 refine af.aC ag Tryz.func53 rfl GK Vu O1 λ C hC OR=>?_;rw[Tryz.ntmps53] at hC;have U4:=pM u s t f true tg qq es ps hm ⟨h3,h4⟩ Pq Ru he O7 hp Qx XW Vj;have TR:I5 u s t l0 f tg qq.locals es ps=if (fw u s t f tg qq.locals es ps).2=0 then (if 32<=s.ts.length then { s with fault:=4 } else { s with ts:=s.ts.set t (l0++[{ f with pc:=f.pc+1 }])++[[(fw u s t f tg qq.locals es ps).1]] }) else { s with fault:=(fw u s t f tg qq.locals es ps).2 }:=rfl
 rw[TR];have Qj:=gW s (fw u s t f tg qq.locals es ps).2;have hf4:=gW s 4;have tf4:trees [bp s,I (4:Nat)]=true:=by simp only[trees,tree,bp,dK,ints,Bool.and_self]
 have Qh:trees [bp s,I (fw u s t f tg qq.locals es ps).2]=true:=by simp only[trees,tree,bp,dK,ints,Bool.and_self]
 have Yx:trees [cb u,bp s,I t,.agg (df (.call true tg es ps))]=true:=by
  have:=bt u;simp only[trees,tree,eE,bp,dK,cb,this,ints,Bool.and_self]
 generalize fw u s t f tg qq.locals es ps=y at U4 Qj Qh |-;obtain⟨z,fa⟩:=y;simp only[bp,dK,cb,eD,ints,gg,df,a8,kI,cons_append,nil_append,cZ] at OZ PN OQ U4 Yx Qj Qh hf4 tf4 |-;apply aq;simp[hC];apply aq;simp[hC];refine ct OQ OZ ?_;simp[hC];apply aT;simp[hC];refine eQ ?_;simp;apply aq;simp[hC];have tG:trees (s.gs.map bj)=true:=aB s.gs;have tT:trees (s.tb.flatMap cg)=true:=ah ba _;have tL:trees (l0.flatMap cZ)=true:=ah bX _;have tV:trees (f.ay.map bj)=true:=aB f.ay;have tE:=aM f.b9;have OW:trees ((s.ts.take t).flatMap cd)=true:=ah aK _;have OY:trees ((s.ts.drop (t+1)).flatMap cd)=true:=ah aK _;have rG:=λ ρ=>ae ρ _ tG;have rT:=λ ρ=>ae ρ _ tT;have rL:=λ ρ=>ae ρ _ tL;have rV:=λ ρ=>ae ρ _ tV;have r1:=λ ρ=>ae ρ _ OW;have r2:=λ ρ=>ae ρ _ OY;have rE:=λ ρ=>ae ρ _ tE;have ra:∀ ρ (a b:List CV),aL ρ (a++b)=aL ρ a++aL ρ b:=λ ρ a b=>by rw[aY,aY,aY,map_append]
 have Vd:aX 0 [.agg [.au (s.gs.map bj) s.gs.length,.au (s.tb.flatMap cg) s.tb.length,.au (s.ts.flatMap cd) s.ts.length,I s.fault],I t]=true:=by
  have tS:trees (s.ts.flatMap cd)=true:=ah aK _;simp only[aE,all_cons,all_nil,Bool.and_true];rw[bq 0 _ Wb];rfl
 refine TL.du ag [] [] 0 6 (PN) rfl PU OU rfl rfl Pd Pd RZ Pd Pd (TL.go' ag ?_);simp[hC,br,bf,aL,cQ,bP,rG,rT,rL,rV,r1,r2,ra,aN];generalize hA:(s.ts.take t).flatMap cd=A at OW r1 |-;generalize hB:(s.ts.drop (t+1)).flatMap cd=B at OY r2 |-;generalize hD:l0.flatMap cZ=D at tL rL |-;have O5:=(List.getElem?_eq_some_iff.1 hl).1;have lA:A.length=t:=by rw[<- hA,ch,length_map,length_take];omega
 have lD:D.length=l0.length*4:=by rw[<- hD];exact aA cL l0
 have dA:∀ r:List CV,(A++r).drop t=r:=λ r=>by rw[<- lA];simp
 have dD:∀ r:List CV,(D++r).drop (l0.length*4)=r:=λ r=>by rw[<- lD];simp
 have PK:∀ (r:List CV) (k:Nat),(D++r).drop (l0.length*4+k)=r.drop k:=λ r k=>by rw[<- lD,drop_append];simp
 have P4:∀ (r:List CV) (k:Nat),(D++r).take (l0.length*4+k)=D++r.take k:=λ r k=>by rw[<- lD,take_append,take_of_length_le yA];simp
 have P6:∀ (r:List CV),(D++r).drop (l0.length*4+1+1)=r.drop 2:=λ r=>PK r 2;have w1:=cw (l0.length:Int) yA yA;have w2:(l0.length:Int)<(l0.length:Int)+1:=by omega
 have w3:=cw ((f.pc:Int)+1) yA yA;refine T.le (Le.trim [10,8,7,6,4,3,2] [10,4,5,6,7,8,3,2,1,0] 11 U9 yA) ?_;simp;apply aq;simp[hC,O5,dA];apply aq;simp[hC,w1,w2];apply aq;simp[hC,w3,lD,PK,P4,P6]
 repeat first
  | apply T.seq
  | (apply aG;simp[hC])
  | (refine T.cond (b:=false) ?_ ?_;(first | rfl | (simp[ev,assoc];done));simp)
  | (refine T.cond (b:=true) ?_ ?_;(first | rfl | (simp[ev,assoc,lD];done));simp)
  | (apply T.skip;simp)
  | apply T.block
 refine ct Yx U4 ?_;simp[hC];by_cases hf:fa=0
 .subst hf;by_cases Vr:32<=s.ts.length
  .have Q8:(32:Int)<=(s.ts.length:Int):=by omega
   repeat first
    | apply T.seq
    | (apply aG;simp[hC,Q8])
    | (refine T.cond (b:=false) ?_ ?_;(first | rfl | (simp[ev,assoc];done));simp)
    | (refine T.cond (b:=true) ?_ ?_;(first | rfl | (simp[ev,assoc,Q8];done));simp)
    | (apply T.skip;simp)
    | apply T.block
   refine ct tf4 hf4 ?_;simp[hC];apply T.ret;refine aa.le (Le.trim [7,6] [2] 12 Qr yA) ?_;simp;apply aa.here;simp[Vr]
  .have Q8:¬ (32:Int)<=(s.ts.length:Int):=by omega
   have b1:(s.ts.length+1)*24<=140737488355328:=by omega
   have b2:(s.ts.length+1)*8<=140737488355328:=by omega
   have XN:A.length+(B.length+1)=s.ts.length:=by
    have:B.length=s.ts.length-(t+1):=by rw[<- hB,ch,length_map,length_drop]
    omega
   repeat first
    | apply T.seq
    | (apply aG;simp[hC,Q8,b1,XN,aS])
    | (refine T.cond (b:=false) ?_ ?_;(first | rfl | (simp[ev,assoc,Q8,lD,b1,b2,XN,aS];done));simp)
    | (refine T.cond (b:=true) ?_ ?_;(first | rfl | (simp[ev,assoc,Q8,lD,b1,b2,XN,aS];done));simp)
    | (apply T.skip;simp)
    | apply T.block
   have tZv:trees (z.ay.map bj)=true:=aB z.ay;have tZe:=aM z.b9;apply T.ret;refine aa.le (Le.trim [7,6] [2,4,5,14,7,12,8] 15 yDm yA) ?_;simp;have kG:take s.gs.length (s.gs.map bj)=s.gs.map bj:=take_of_length_le xr;have kT:take (s.tb.length*2) (s.tb.flatMap cg)=s.tb.flatMap cg:=take_of_length_le Vy;have kV:take f.ay.length (f.ay.map bj)=f.ay.map bj:=take_of_length_le xr;refine aa.le (Le.cF (o:=8) rfl tV) ?_;simp[kV,ai tG,ai tT,ai tL,aN,ai OW,ai OY];refine aa.le (Le.cF (o:=4) rfl tG) ?_;simp[kG,ai tT,ai tL,ai OW,ai OY];refine aa.le (Le.cF (o:=5) rfl tT) ?_;simp[kT,ai tL,ai OW,ai OY];have tF:trees (D++[I f.proc,I ((f.pc:Int)+1),.au (f.ay.map bj) f.ay.length,.au (f.b9.map λ n:Nat=>I n) f.b9.length])=true:=by
    rw[aF,tL];simp only[trees,tree,Bool.and_self]
   have kF:∀ a b c d:CV,take ((l0.length+1)*4) (D++[a,b,c,d])=D++[a,b,c,d]:=λ a b c d=>take_of_length_le PA;refine aa.le (Le.cF (o:=7) rfl tF) ?_;simp[kF,ai OW,ai OY];have tZ:trees [I z.proc,I z.pc,.au (z.ay.map bj) z.ay.length,.au (z.b9.map λ n:Nat=>I n) z.b9.length]=true:=by simp only[trees,tree,Bool.and_self]
   refine aa.le (Le.cF (o:=12) rfl tZ) ?_;simp[ai OW,ai OY];have tH:trees (A++.au (D++[I f.proc,I ((f.pc:Int)+1),.au (f.ay.map bj) f.ay.length,.au (f.b9.map λ n:Nat=>I n) f.b9.length]) (l0.length+1)::(B++[.au [I z.proc,I z.pc,.au (z.ay.map bj) z.ay.length,.au (z.b9.map λ n:Nat=>I n) z.b9.length] 1]))=true:=by
    simp only[aF,OW,trees,OY,tree,Bool.and_self]
   have kH:∀ x y:CV,take (s.ts.length+1) (A++x::(B++[y]))=A++x::(B++[y]):=λ x y=>take_of_length_le PA;refine aa.le (Le.cF (o:=14) rfl tH) ?_;simp[kH];apply aa.here;have O6:(s.ts.set t (l0++[{ f with pc:=f.pc+1 }])).flatMap cd=A++.au (D++[I f.proc,I ((f.pc:Int)+1),.au (f.ay.map bj) f.ay.length,.au (f.b9.map λ n:Nat=>I n) f.b9.length]) (l0.length+1)::B:=by
    rw[set_eq_take_append_cons_drop,if_pos O5,flatMap_append,flatMap_cons,hA,hB];simp[cd,cZ,hD,ints,aN]
   have Sc:cd [z]=[.au [I z.proc,I z.pc,.au (z.ay.map bj) z.ay.length,.au (z.b9.map λ n:Nat=>I n) z.b9.length] 1]:=by simp[cd,cZ,ints,aN]
   simp[Vr,O6,Sc]
 .have SF:((fa:Int) == 0)=false:=by rw[beq_eq_false_iff_ne];omega
  have O9:((fa:Int) != 0)=true:=by rw[bne_iff_ne];omega
  repeat first
   | apply T.seq
   | (apply aG;simp[hC,SF,O9])
   | (refine T.cond (b:=false) ?_ ?_;(first | rfl | (simp[ev,assoc];done));simp)
   | (refine T.cond (b:=true) ?_ ?_;(first | rfl | (simp[ev,assoc,SF,O9];done));simp)
   | (apply T.skip;simp)
   | apply T.block
  refine ct Qh Qj ?_;simp[hC];apply T.ret;refine aa.le (Le.trim [7,6] [2] 12 Qr yA) ?_;simp;apply aa.here;simp[hf]
theorem ER (u:Un)(s:Sy)(t:Nat)(l0:List Fr)(f:Fr)(q:Pr)(g:Nat)(hl:s.ts[t]? = some (l0++[f]))(PI:s.fault=0)(hq:u.ps[f.proc]? = some q)(hc:q.code[f.pc]? = some (.jump g))(PB:ur u s)
  (h1:s.gs.length<=1000000) (h2:s.tb.length<=1000000) (h3:s.ts.length<=1000000) (h4:∀ l∈s.ts,l.length<=1000000) (h5:f.ay.length<=1000000) (h6:f.pc<=1000000) :
  af prog 53 [cb u,bp s,I t] (.bY [bp { s with ts:=s.ts.set t (l0++[{ f with pc:=g }]) },.bool true]):=by
 have OZ:=dy u s t ⟨h3,h4⟩ PB;have PV:=h4 _ (mem_of_getElem? hl);have PE:l0.length<=1000000:=by simp at PV;omega
 have Pq:cN s t=some f:=by simp[cN,hl,PI]
 have PF:dR u s t=some (.jump g):=by simp[dR,Pq,hq,hc]
 rw[PF] at OZ;have PN:=gX s t l0 f hl h1 h2 h3 PE h5;have OQ:trees [cb u,bp s,I t]=true:=by
  have:=bt u;simp only[trees,tree,bp,dK,cb,this,ints,Bool.and_self]
 have O1:tree (.bY [bp { s with ts:=s.ts.set t (l0++[{ f with pc:=g }]) },.bool true])=true:=by
  simp only[bp,dK,tree,trees,bD,Bool.and_self]
 refine af.aC ag Tryz.func53 rfl GK Vu O1 λ C hC OR=>?_;rw[Tryz.ntmps53] at hC;simp only[bp,dK,cb,eD,ints] at OZ PN OQ |-;apply aq;simp[hC];apply aq;simp[hC];refine ct OQ OZ ?_;simp[hC,gg,df,a8,kI];apply aT;simp[hC];refine eQ ?_;simp;apply aq;simp[hC];have tG:trees (s.gs.map bj)=true:=aB s.gs;have tT:trees (s.tb.flatMap cg)=true:=ah ba _;have tL:trees (l0.flatMap cZ)=true:=ah bX _;have tV:trees (f.ay.map bj)=true:=aB f.ay;have tE:=aM f.b9;have OW:trees ((s.ts.take t).flatMap cd)=true:=ah aK _;have OY:trees ((s.ts.drop (t+1)).flatMap cd)=true:=ah aK _;have rG:=λ ρ=>ae ρ _ tG;have rT:=λ ρ=>ae ρ _ tT;have rL:=λ ρ=>ae ρ _ tL;have rV:=λ ρ=>ae ρ _ tV;have r1:=λ ρ=>ae ρ _ OW;have r2:=λ ρ=>ae ρ _ OY;have rE:=λ ρ=>ae ρ _ tE;have ra:∀ ρ (a b:List CV),aL ρ (a++b)=aL ρ a++aL ρ b:=λ ρ a b=>by rw[aY,aY,aY,map_append]
 have Vd:aX 0 [.agg [.au (s.gs.map bj) s.gs.length,.au (s.tb.flatMap cg) s.tb.length,.au (s.ts.flatMap cd) s.ts.length,I s.fault],I t]=true:=by
  have tS:trees (s.ts.flatMap cd)=true:=ah aK _;simp only[aE,all_cons,all_nil,Bool.and_true];rw[bq 0 _ Wb];rfl
 refine TL.du ag [] [] 0 6 (PN) rfl PU OU rfl rfl Pd Pd RZ Pd Pd (TL.go' ag ?_);simp[hC,br,bf,aL,cQ,bP,rG,rT,rL,rV,r1,r2,ra,aN];generalize hA:(s.ts.take t).flatMap cd=A at OW r1 |-;generalize hB:(s.ts.drop (t+1)).flatMap cd=B at OY r2 |-;generalize hD:l0.flatMap cZ=D at tL rL |-;have O5:=(List.getElem?_eq_some_iff.1 hl).1;have lA:A.length=t:=by rw[<- hA,ch,length_map,length_take];omega
 have lD:D.length=l0.length*4:=by rw[<- hD];exact aA cL l0
 have dA:∀ r:List CV,(A++r).drop t=r:=λ r=>by rw[<- lA];simp
 have dD:∀ r:List CV,(D++r).drop (l0.length*4)=r:=λ r=>by rw[<- lD];simp
 have PK:∀ (r:List CV) (k:Nat),(D++r).drop (l0.length*4+k)=r.drop k:=λ r k=>by rw[<- lD,drop_append];simp
 have P4:∀ (r:List CV) (k:Nat),(D++r).take (l0.length*4+k)=D++r.take k:=λ r k=>by rw[<- lD,take_append,take_of_length_le yA];simp
 have P6:∀ (r:List CV),(D++r).drop (l0.length*4+1+1)=r.drop 2:=λ r=>PK r 2;have w1:=cw (l0.length:Int) yA yA;have w2:(l0.length:Int)<(l0.length:Int)+1:=by omega
 have w3:=cw ((f.pc:Int)+1) yA yA;refine T.le (Le.trim [10,8,7,6,4,3,2] [10,4,5,6,7,8,3,2,1,0] 11 U9 yA) ?_;simp;apply aq;simp[hC,O5,dA];apply aq;simp[hC,w1,w2];apply aq;simp[hC,w3,lD,PK,P4,P6]
 repeat first
  | apply T.seq
  | (apply aG;simp[hC,lD,P4,P6])
  | (refine T.cond (b:=false) ?_ ?_;(first | rfl | (simp[ev,assoc];done));simp)
  | (refine T.cond (b:=true) ?_ ?_;(first | rfl | (simp[ev,assoc,lD,dD,PK,P4,P6];done));simp)
  | (apply T.skip;simp)
  | apply T.block
 apply T.ret;refine aa.le (Le.trim [7,6] [2,4,5,6,7,8] 11 U9 yA) ?_;simp;have kG:take s.gs.length (s.gs.map bj)=s.gs.map bj:=take_of_length_le xr;have kT:take (s.tb.length*2) (s.tb.flatMap cg)=s.tb.flatMap cg:=take_of_length_le Vy;have kV:take f.ay.length (f.ay.map bj)=f.ay.map bj:=take_of_length_le xr;refine aa.le (Le.cF (o:=8) rfl tV) ?_;simp[kV,ai tG,ai tT,ai tL,ai OW,ai OY];refine aa.le (Le.cF (o:=4) rfl tG) ?_;simp[kG,ai tT,ai tL,ai OW,ai OY];refine aa.le (Le.cF (o:=5) rfl tT) ?_;simp[kT,ai tL,ai OW,ai OY];have tF:trees (D++[I f.proc,I g,.au (f.ay.map bj) f.ay.length,.au (f.b9.map λ n:Nat=>I n) f.b9.length])=true:=by
  rw[aF,tL];simp only[trees,tree,Bool.and_self]
 have kF:∀ a b c d:CV,take ((l0.length+1)*4) (D++[a,b,c,d])=D++[a,b,c,d]:=λ a b c d=>take_of_length_le PA;refine aa.le (Le.cF (o:=7) rfl tF) ?_;simp[kF,ai OW,ai OY];have tH:trees (A++.au (D++[I f.proc,I g,.au (f.ay.map bj) f.ay.length,.au (f.b9.map λ n:Nat=>I n) f.b9.length]) (l0.length+1)::B)=true:=by
  simp only[aF,OW,trees,OY,tree,Bool.and_self]
 have lB:B.length=s.ts.length-(t+1):=by rw[<- hB,ch,length_map,length_drop]
 have kH:∀ x:CV,take s.ts.length (A++x::B)=A++x::B:=λ x=>take_of_length_le PA;refine aa.le (Le.cF (o:=6) rfl tH) ?_;simp[kH];apply aa.here;have O6:(s.ts.set t (l0++[{ f with pc:=g }])).flatMap cd=A++.au (D++[I f.proc,I g,.au (f.ay.map bj) f.ay.length,.au (f.b9.map λ n:Nat=>I n) f.b9.length]) (l0.length+1)::B:=by
  rw[set_eq_take_append_cons_drop,if_pos O5,flatMap_append,flatMap_cons,hA,hB];simp[cd,cZ,hD,ints,aN]
 simp[O6]
theorem EO (u:Un)(s:Sy)(t:Int)(h3:s.ts.length<=1000000)(h4:∀ l∈s.ts,l.length<=1000000)(PB:ur u s)(hn:cN s t=none) :
  af prog 53 [cb u,bp s,I t] (.bY [bp s,.bool false]):=by
 have OZ:=dy u s t ⟨h3,h4⟩ PB;have PF:dR u s t=none:=by simp[dR,hn]
 rw[PF] at OZ;have OQ:trees [cb u,bp s,I t]=true:=by
  have:=bt u;simp only[trees,tree,bp,dK,cb,this,ints,Bool.and_self]
 have O1:tree (.bY [bp s,.bool false])=true:=by
  simp only[bp,dK,tree,trees,bD,Bool.and_self]
 refine af.aC ag Tryz.func53 rfl GK Vu O1 λ C hC OR=>?_;rw[Tryz.ntmps53] at hC;simp only[bp,dK,cb,eD,ints] at OZ OQ |-;apply aq;simp[hC];apply aq;simp[hC];refine ct OQ OZ ?_;simp[hC,gg];apply aT;simp[hC];refine cX ?_;simp;apply aq;simp[hC];apply T.ret;apply aa.here;simp[Tryz.results53]
theorem nK.bounds {u:Un}(hu:jx u){k:Nat}(hk:k<=1000){s:Sy}(h:nK u k s):s.gs.length<=1000000/\s.tb.length<=1000000/\s.ts.length<=1000000/\(∀ l∈s.ts,l.length<=1000000)/\∀ l∈s.ts,∀ f∈l,f.ay.length<=1000000/\f.pc<=1000000:=by
 have h1:=hu.ng;have h2:=yv hu;have h3:=h.gs;have h4:=h.tb;have h5:=h.ts;refine⟨by omega,by omega,by omega,λ l hl=>by have:=h.fl l hl;omega,λ l hl f hf=>?_⟩;obtain⟨q,hq,gJ,hv,_⟩:=(h.fr l hl f hf).q;have h6:=hu.pr q (mem_of_getElem? hq);omega
theorem GI {u:Un}(hu:jx u){k:Nat}(hk:k<=1000){s:Sy}(hs:nK u k s)(t:Int) :
  af prog 53 [cb u,bp s,I t] (.bY [bp (fy u s t).1,.bool (fy u s t).2]):=by
 obtain⟨h1,h2,h3,h4,h5⟩:=hs.bounds hu hk;have PB:=hs.frs;unfold fy
 cases ht:cN s t with
 | none=>exact EO u s t h3 h4 PB ht
 | some f=>
  obtain⟨n,l0,rfl,hl,PI,hd⟩:=oJ ht;obtain⟨o1,o2,o3,o4⟩:=hs.fX hl;obtain⟨q,hq,gJ,Tm,O7⟩:=o2.q;obtain⟨i,hi⟩:∃ i,q.code[f.pc]? = some i:=⟨_,getElem?_eq_getElem gJ⟩;have PF:dR u s n=some i:=by simp[dR,ht,hq,hi]
  obtain⟨h6,h7⟩:=h5 _ (mem_of_getElem? hl) f xr;have QW:=(hu.pc q (mem_of_getElem? hq)).2 i (mem_of_getElem? hi);have XT:=hu.pr q (mem_of_getElem? hq);rw[<- hs.gs,<- Tm,<- O7] at QW;have RC:=mj hu;have Sf:=xF u.ms;have Qa:∀ h∈s.tb,h.d<=1000000/\(h.o≠0->0<h.d):=λ h hh=>by
   have:=hs.hd h hh;exact⟨by omega,this.2⟩
  have P5:=hu.nm;have RS:∀ p:Pl,pN u.ms s.gs.length f.ay.length f.b9.length p->p.index<=1000000:=λ p hp=>by
   rcases hp with ⟨_,h,_⟩ | ⟨_,m,h,_⟩
   .omega
   .have:=(List.getElem?_eq_some_iff.1 h).1;omega
  simp only[PF,Int.toNat_natCast,hd]
  cases i with
  | set k' gl e=>
   refine GH u s n l0 f q k' gl e ?_ QW.2 hl PI hq hi PB h1 h2 h3 h4 h6 h7;exact QW.1
  | branch g e=>exact z8 u s n l0 f q g e QW.2 hl PI hq hi PB h1 h2 h3 h4 h6 h7
  | jump g=>exact ER u s n l0 f q g hl PI hq hi PB h1 h2 h3 h4 h6 h7
  | ret=>exact step_ret u s n l0 f q hl PI hq hi PB h1 h2 h3 h4 h6 h7
  | lock un p=>
   have Qb:pN u.ms s.gs.length f.ay.length f.b9.length p:=QW;have S0:∀ j:Nat,aZ u s n p=((j:Int),0)->j<(a6 u.ms).length:=λ j hj=>(mN hu ht o2 Qb hj).1
   cases un with
   | true=>exact z7 u s n l0 f q p RC (RS p Qb) Qb S0 hs.tb Qa hl PI hq hi PB h1 h2 h3 h4 h6 h7
   | false=>exact EP u s n l0 f q p RC (RS p Qb) Qb S0 hs.tb Sf (λ h hh=>(Qa h hh).1) hl PI hq hi PB h1 h2 h3 h4 h6 h7
  | call go tg es ps=>
   obtain⟨c1,c2,c3⟩:=QW;rw[getElem?_map,Option.map_eq_some_iff] at c1;obtain⟨qq,Ru,c4⟩:=c1;simp only[Prod.mk.injEq] at c4;have hqv2:=hu.pr qq (mem_of_getElem? Ru);have Tp:sj u tg=qq.locals:=by simp only[sj,Ru]
   have c5:∀ p∈ps,p.index<=1000000/\pN u.ms s.gs.length f.ay.length f.b9.length p:=λ p hp=>⟨RS p (c3 p hp),c3 p hp⟩
   cases go with
   | true=>
    simp only[ib,if_true,Tp];exact Jp u s n l0 f q tg es ps qq RC Ru c2 yA c5 yA yA yA hl PI hq hi PB h1 h2 h3 h4 h6 h7
   | false=>
    simp only[ib,Bool.false_eq_true,if_false,Tp];exact ES u s n l0 f q tg es ps qq RC Ru c2 yA c5 yA yA yA hl PI hq hi PB h1 h2 h3 h4 h6 h7
def runN (u:Un):List Int->Sy->Nat
 | [],_=>0
 | t::r,s=>(if (fy u s t).2=true then 1 else 0)+runN u r (if (fy u s t).2=true then (fy u s t).1 else s)
end Go.Proofs.YtlkmbdfhdknlgaaGreat
