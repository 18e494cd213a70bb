/- The arguments of a call, b -/
import Derived.Test.YtlkmbdfhdknlgaaGreatV46
import Derived.Test.YtlkmbdfhdknlgaaGreatV42
set_option maxHeartbeats 4000000
set_option maxRecDepth 100000
namespace Go.Proofs.YtlkmbdfhdknlgaaGreat
open Go.Can Go.aV List Tryz
def BN (V:List Int×Nat)(L:List Nat×Nat):CV:=if V.2=0 then (if L.2=0 then .bY [ints V.1,aN L.1,I 0] else .bY [.ak,.ak,I L.2]) else .bY [.ak,.ak,I V.2]
def ha (u:Un)(s:Sy)(ko:Int)(tg:Nat)(es:List Ex)(ps:List Pl):List (Nat×Ob):=
 [(0,⟨30,0,[.au (u.gs.map bj) u.gs.length,.au (u.ms.flatMap cI) u.ms.length,.au (u.ps.flatMap mw) u.ps.length,I u.main]⟩),
  (1,⟨40,0,[.au (s.gs.map bj) s.gs.length,.au (s.tb.flatMap cg) s.tb.length,.au (s.ts.flatMap cd) s.ts.length,I s.fault]⟩),
  (2,⟨90,0,[I ko,I tg,.bool false,I 0,I 0,.str eS,.au [] 0,.bool false,I 0,.au [] 0,.au (es.flatMap a8) es.length,.au (ps.flatMap fC) ps.length]⟩)]
def JA (u:Un)(s:Sy)(t:Int)(f:Fr)(ko:Int)(tg:Nat)(es:List Ex)(ps:List Pl)(n:Nat)(σ:St):Prop:=∃ (i:Nat) (G:List Int),n=es.length-i/\i<=es.length/\G.length=i/\
 cR s.gs f.ay es=(G++(cR s.gs f.ay (es.drop i)).1,(cR s.gs f.ay (es.drop i)).2)/\
 σ=⟨[(28,I i),(27,I es.length),(26,.au (es.flatMap a8) es.length),(13,.de (cZ f)),(12,.ak),(11,.bg 3 0 i),(7,.ax 2 0),(5,.ax 1 0),(4,.ax 0 0),(2,I t)],(3,⟨3,1,G.map bj⟩)::ha u s ko tg es ps,4⟩
def JAB (u:Un)(s:Sy)(t:Int)(ko:Int)(tg:Nat)(es:List Ex)(ps:List Pl)(G:List Int)(n:Nat)(σ:St):Prop:=∃ (k:Nat) (L:List Nat),n=ps.length-k/\k<=ps.length/\L.length=k/\
 dc u s t ps=(L++(dc u s t (ps.drop k)).1,(dc u s t (ps.drop k)).2)/\
 σ=⟨[(54,I k),(53,I ps.length),(52,.au (ps.flatMap fC) ps.length),(12,.bg 4 0 k),(11,.bg 3 0 G.length),(7,.ax 2 0),(5,.ax 1 0),(4,.ax 0 0),(2,I t)],(3,⟨3,1,G.map bj⟩)::(4,⟨3,1,L.map λ n:Nat=>I n⟩)::ha u s ko tg es ps,5⟩
theorem DI (u:Un)(s:Sy)(t:Int)(f:Fr)(go:Bool)(tg:Nat)(es:List Ex)(ps:List Pl)(hm:ua u.ms)(hs:Ev s)(hr:B4 s)(ht:cN s t=some f)
  (he:∀ e∈es,px s.gs.length f.ay.length e) (O7:es.length<=1000) (hp:∀ p∈ps,p.index<=1000000/\pN u.ms s.gs.length f.ay.length f.b9.length p) (Qx:ps.length<=1000) :
  af prog 90 [cb u,bp s,I t,.agg (df (.call go tg es ps))] (BN (cR s.gs f.ay es) (dc u s t ps)):=by
 have Q2:=qE s t (qx hs);rw[ht] at Q2;obtain⟨lf,Um,hff⟩:=qo ht;have OQ:trees [bp s,I t]=true:=by simp only[trees,tree,cG,Bool.and_self]
 have PR:=bt u;have P7:=cG s;have O1:tree (BN (cR s.gs f.ay es) (dc u s t ps))=true:=by
  unfold BN;split
  .split
   .simp only[tree,trees,bD,bT,Bool.and_self]
   .rfl
  .rfl
 refine af.aC ag Tryz.func90 rfl GK (by simp[Tryz.ntmps90]) O1 λ C hC OR=>?_;rw[Tryz.ntmps90] at hC;clear O1;simp only[bp,dK,cb,eD,ints] at *;generalize hKo:(if go=true then (3:Int) else 2)=ko;simp only[df,a8,kI,cons_append,nil_append];apply aq;simp[hC];apply aq;simp[hC];apply aq;simp[hC];refine ct OQ Q2 ?_;simp[hC,rN];apply aT;simp[hC];apply T.block;have VE:trees (es.flatMap a8)=true:=ah aJ es;have VB:trees (ps.flatMap fC)=true:=ah cJ ps;have tG:trees (s.gs.map bj)=true:=aB s.gs;have tT:trees (s.tb.flatMap cg)=true:=ah ba _;have tS:trees (s.ts.flatMap cd)=true:=ah aK _;have tV:trees (f.ay.map bj)=true:=aB f.ay;have tE:=aM f.b9;have Tk:trees (u.gs.map bj)=true:=aB u.gs;have Tj:=dm u.ms;have bY:trees (u.ps.flatMap mw)=true:=ah eX u.ps;have rs1:=λ ρ=>ae ρ _ tV;have rs2:=λ ρ=>ae ρ _ tE;have rs3:=λ ρ=>ae ρ _ VE;have rs4:=λ ρ=>ae ρ _ VB;have rs5:=λ ρ=>ae ρ _ tG;have rs6:=λ ρ=>ae ρ _ tT;have rs7:=λ ρ=>ae ρ _ tS;have rs8:=λ ρ=>ae ρ _ Tk;have rs9:=λ ρ=>ae ρ _ Tj;have WO:=λ ρ=>ae ρ _ bY;refine T.aQ (JA u s t f ko tg es ps) (n:=es.length) ?_ ?_
 .refine aa.le (Le.own 11 3 1 rfl) ?_;simp;refine aa.le (Le.norm [28,27,26,13,12,11,7,5,4,2] [(3,3),(0,0),(1,1),(2,2)] 0 4 Px Pw (by simp[cO,nu,lF,tree,assoc,-all_eq_true,-all_flatMap,cZ,ints,aN]) yA) ?_;simp[cz,bf,aL,cQ,dW,assoc,cZ,ints,aN];refine aa.here ⟨0,[],by omega,by omega,rfl,by simp,?_⟩;simp[ha,hKo,cZ,ints,aN]
 .rintro n σ ⟨i,G,rfl,hi,TV,Pv,rfl⟩;simp only[ha];by_cases OP:i<es.length
  .obtain⟨e,V2⟩:∃ e,es[i]? = some e:=⟨_,getElem?_eq_getElem OP⟩;have QJ:=qH s.gs f.ay hr.gs (hr.vs lf Um f hff) e (he e (mem_of_getElem? V2));have Sp:=aH (f:=a8) (n:=4) bA V2;have OS:es.drop i=e::es.drop (i+1):=by rw[drop_eq_getElem_cons OP];simp[(List.getElem?_eq_some_iff.1 V2).2]
   have wi:=cw ((i:Int)+1) yA yA;have b1:(i+1)*8<=140737488355328:=by omega
   have Ph:trees [.agg (a8 e),ints s.gs,ints f.ay]=true:=by simp only[trees,tree,aJ,bD,Bool.and_self]
   obtain⟨e1,e2,e3,e4,e5,S7,XH⟩:=fe e;simp only[ints] at QJ Ph;rw[S7] at QJ Ph Sp;rw[OS] at Pv;simp only[cR] at Pv;generalize aW s.gs f.ay e=va at QJ Pv;obtain⟨v,fa⟩:=va;apply aq;simp[hC,OP];refine T.seq (T.cond (b:=true) rfl (T.skip ?_));simp;apply eZ;apply aq;simp[hC,OP,Sp];refine T.seq (T.rx ag follows [0,1,2,3,4,5,6,7,8,9,10,11,12] [] GK ?_);simp[hC,cZ,ints];refine RX.call rfl xr rfl rfl rfl Ph QJ ?_;simp;by_cases hf:fa=0
   .subst hf;apply aT;simp[hC];refine eQ ?_;simp;apply aG;simp[hC,b1,TV];apply aG;simp[hC,wi];refine⟨es.length-(i+1),by omega,?_⟩;have Yz:trees (G.map bj++[I v])=true:=by rw[aF,aB];rfl
    have rGv:=λ ρ=>ae ρ _ Yz;refine aa.le (Le.norm [28,27,26,13,12,11,7,5,4,2] [(19,3),(0,0),(1,1),(2,2)] 0 4 Px Pw (by simp[cO,nu,lF,tree,assoc,-all_eq_true,-all_flatMap,aw Yz,aN]) yA) ?_;simp[cz,bf,aL,cQ,dW,assoc,rGv,aN];refine aa.here ⟨i+1,G++[v],rfl,by omega,by simp[TV],?_,?_⟩
    .rw[Pv];simp
    .simp[ha,cZ,ints,aN]
   .have O9:((fa:Int) != 0)=true:=by rw[bne_iff_ne];omega
    apply aT;simp[hC,O9];refine cX ?_;simp;apply aq;simp[hC];apply T.ret;simp only[if_neg hf,append_nil] at Pv;apply aa.here;simp[Tryz.results90,BN,Pv,hf]
  .have OV:i=es.length:=by omega
   subst OV;apply aq;simp[hC];refine T.seq (T.cond (b:=false) rfl (T.exit ?_));simp;rw[drop_length,cR,append_nil] at Pv;apply aT;simp[hC];apply T.block;have Tl:trees (G.map bj)=true:=aB G;have XL:=λ ρ=>ae ρ _ Tl;refine T.aQ (JAB u s t ko tg es ps G) (n:=ps.length) ?_ ?_
   .refine aa.le (Le.own 12 3 1 rfl) ?_;simp;refine aa.le (Le.norm [54,53,52,12,11,7,5,4,2] [(3,3),(4,4),(0,0),(1,1),(2,2)] 0 5 Px Pw (by simp[cO,nu,lF,tree,assoc,-all_eq_true,-all_flatMap,aw Tl]) yA) ?_;simp[cz,bf,aL,cQ,dW,assoc,XL];refine aa.here ⟨0,[],by omega,by omega,rfl,by simp,?_⟩;simp[ha,TV]
   .rintro n σ ⟨k,L,rfl,hk,Sx,P0,rfl⟩;simp only[ha];by_cases Pa:k<ps.length
    .obtain⟨p,Rv⟩:∃ p,ps[k]? = some p:=⟨_,getElem?_eq_getElem Pa⟩;obtain⟨RS,Qb⟩:=hp p (mem_of_getElem? Rv);have QJ:=As u s t p hm hr (qx hs) RS f ht Qb;have Sp:=aH (f:=fC) (n:=3) jN Rv;have OS:ps.drop k=p::ps.drop (k+1):=by rw[drop_eq_getElem_cons Pa];simp[(List.getElem?_eq_some_iff.1 Rv).2]
     have wi:=cw ((k:Int)+1) yA yA;have b1:(k+1)*8<=140737488355328:=by omega
     obtain⟨n0,Rc⟩:=gh u s t p hm f ht Qb;have Ph:trees [cb u,bp s,I t,.agg (fC p)]=true:=by
      have:=bt u;simp only[trees,tree,cJ,cG,cb,this,Bool.and_self]
     rw[OS] at P0;simp only[dc] at P0;generalize aZ u s t p=va at QJ P0 Rc;obtain⟨v,fa⟩:=va;simp only at Rc;subst Rc;obtain⟨p1,p2,p3,p4,gJ,WK⟩:=lp p;rw[gJ] at QJ Ph Sp;simp only[cb,eD,bp,dK,ints] at QJ Ph;apply aq;simp[hC,Pa];refine T.seq (T.cond (b:=true) rfl (T.skip ?_));simp;apply eZ;apply aq;simp[hC,Pa,Sp];apply aq;simp[hC];refine ct Ph QJ ?_;simp[hC];by_cases hf:fa=0
     .subst hf;apply aT;simp[hC];refine eQ ?_;simp;apply aG;simp[hC,b1,Sx];apply aG;simp[hC,wi];refine⟨ps.length-(k+1),by omega,?_⟩;have tLv:trees ((L.map λ n:Nat=>I n)++[I n0])=true:=by rw[aF,aM];rfl
      have rLv:=λ ρ=>ae ρ _ tLv;refine aa.le (Le.norm [54,53,52,12,11,7,5,4,2] [(3,3),(7,4),(0,0),(1,1),(2,2)] 0 5 Px Pw yDt yA) ?_;simp[cz,bf,aL,cQ,dW,assoc,rLv,XL];refine aa.here ⟨k+1,L++[n0],rfl,by omega,by simp[Sx],?_,?_⟩
      .rw[P0];simp
      .simp[ha]
     .have O9:((fa:Int) != 0)=true:=by rw[bne_iff_ne];omega
      apply aT;simp[hC,O9];refine cX ?_;simp;apply aq;simp[hC];apply T.ret;simp only[if_neg hf,append_nil] at P0;apply aa.here;simp[Tryz.results90,BN,Pv,P0,hf]
    .have TO:k=ps.length:=by omega
     subst TO;rw[drop_length,dc,append_nil] at P0;have SA:=aM L;have kG:take G.length (G.map bj)=G.map bj:=take_of_length_le xr;have kL:take ps.length (L.map λ n:Nat=>I n)=L.map λ n:Nat=>I n:=take_of_length_le (by simp[Sx]);apply aq;simp[hC];refine T.seq (T.cond (b:=false) rfl (T.exit ?_));simp;apply aq;simp[hC];apply T.ret;refine aa.le (Le.trim [10,9,8] [3,4] 99 (by simp[-all_eq_true,-all_map,aj Tl,aj SA]) yA) ?_;simp;refine aa.le (Le.cF (o:=3) rfl Tl) ?_;simp[cK,kG,ai SA];refine aa.le (Le.cF (o:=4) rfl SA) ?_;simp[cK,kL];apply aa.here;simp[BN,Pv,P0,ints,aN,Sx,TV]
theorem sy (u:Un)(s:Sy)(t:Int):∀ ps:List Pl,(dc u s t ps).1.length<=ps.length
 | []=>by simp[dc]
 | p::r=>by
  have:=sy u s t r;rw[dc];split
  .simpa using this
  .simp
def OJ (u:Un)(s:Sy)(t:Nat)(l0:List Fr)(f:Fr)(go:Bool)(tg n:Nat)(es:List Ex)(ps:List Pl):Sy:=if go=true then I5 u s t l0 f tg n es ps else Jc u s t l0 f tg n es ps
theorem Hb (u:Un)(s:Sy)(t:Nat)(l0:List Fr)(f:Fr)(go:Bool)(tg:Nat)(es:List Ex)(ps:List Pl)(qq:Pr)(hm:ua u.ms)(Ru:u.ps[tg]? = some qq)(he:∀ e∈es,px s.gs.length f.ay.length e)(O7:es.length<=1000)(hp:∀ p∈ps,p.index<=1000000/\pN u.ms s.gs.length f.ay.length f.b9.length p)(Qx:ps.length<=1000)(XW:es.length<=qq.locals)(Vj:qq.locals<=1000000)
  (hl:s.ts[t]? = some (l0++[f])) (PI:s.fault=0) (hs:Ev s) (hr:B4 s) (h6:f.pc<=1000000) (TR:go=false) :
  af prog 42 [cb u,bp s,I t,.agg (df (.call go tg es ps))] (.bY [bp (OJ u s t l0 f go tg qq.locals es ps),.bool true]):=by
 have Pq:cN s t=some f:=by simp[cN,hl,PI]
 have RT:=mem_of_getElem? hl;have PV:=(hs.f _ RT).1;have PE:l0.length<=1000000:=by simp at PV;omega
 have PN:=qb s t l0 f hl hs;have U2:=DI u s t f go tg es ps hm hs hr Pq he O7 hp Qx;have P7:=cG s;have PR:=bt u;have Yw:trees [cb u,bp s,I t,.agg (df (.call go tg es ps))]=true:=by simp only[trees,tree,eE,P7,cb,PR,Bool.and_self]
 have O1:tree (.bY [bp (OJ u s t l0 f go tg qq.locals es ps),.bool true])=true:=by simp only[tree,trees,cG,Bool.and_self]
 have Wa:=mK s.gs f.ay es;have Sx:=sy u s t ps;have Qj:∀ fa:Nat,af prog 91 [bp s,I fa] (.bY [bp ⟨s.gs,s.tb,s.ts,fa⟩,.bool true]):=iZ s hs;have Qh:∀ fa:Nat,trees [bp s,I fa]=true:=λ fa=>by simp only[trees,tree,P7,Bool.and_self]
 refine af.aC ag Tryz.func42 rfl GK (by simp[Tryz.ntmps42]) O1 λ C hC OR=>?_;rw[Tryz.ntmps42] at hC;clear O1;have U4:fw u s t f tg qq.locals es ps=if (cR s.gs f.ay es).2=0 then
  (if (dc u s t ps).2=0 then (⟨tg,0,(cR s.gs f.ay es).1++replicate (qq.locals-es.length) 0,(dc u s t ps).1⟩,0)
   else (⟨tg,0,(cR s.gs f.ay es).1,(dc u s t ps).1⟩,(dc u s t ps).2))
  else (⟨tg,0,(cR s.gs f.ay es).1,[]⟩,(cR s.gs f.ay es).2):=rfl
 simp only[OJ,I5,Jc];rw[U4];generalize cR s.gs f.ay es=va at U2 Wa |-;obtain⟨V,f1⟩:=va;generalize dc u s t ps=vb at U2 Sx |-;obtain⟨L,f2⟩:=vb;have tG:trees (s.gs.map bj)=true:=aB s.gs;have tT:trees (s.tb.flatMap cg)=true:=ah ba _;have tL:trees (l0.flatMap cZ)=true:=ah bX _;have tV:trees (f.ay.map bj)=true:=aB f.ay;have tE:=aM f.b9;have OW:trees ((s.ts.take t).flatMap cd)=true:=ah aK _;have OY:trees ((s.ts.drop (t+1)).flatMap cd)=true:=ah aK _;have rG:=λ ρ=>ae ρ _ tG;have rT:=λ ρ=>ae ρ _ tT;have rL:=λ ρ=>ae ρ _ tL;have rV:=λ ρ=>ae ρ _ tV;have r1:=λ ρ=>ae ρ _ OW;have r2:=λ ρ=>ae ρ _ OY;have rE:=λ ρ=>ae ρ _ tE;have ra:∀ ρ (a b:List CV),aL ρ (a++b)=aL ρ a++aL ρ b:=λ ρ a b=>by rw[aY,aY,aY,map_append]
 have VE:trees (es.flatMap a8)=true:=ah aJ es;have VB:trees (ps.flatMap fC)=true:=ah cJ ps;have Tk:trees (u.gs.map bj)=true:=aB u.gs;have Tj:=dm u.ms;have bY:trees (u.ps.flatMap mw)=true:=ah eX u.ps;have re:=λ ρ=>ae ρ _ VE;have rp2:=λ ρ=>ae ρ _ VB;have rg:=λ ρ=>ae ρ _ Tk;have rm:=λ ρ=>ae ρ _ Tj;have rp:=λ ρ=>ae ρ _ bY;have SA:=aM L;have rLL:=λ ρ=>ae ρ _ SA;have tVV:trees (V.map bj)=true:=aB V;have rVV:=λ ρ=>ae ρ _ tVV;simp only[bp,dK,cb,eD,df,a8,kI,cons_append,nil_append,I8,BN,ints,aN] at U2 Yw PN Qj Qh |-;apply aq;simp[hC];apply aq;simp[hC];refine ct Yw U2 ?_;by_cases h1:f1=0
 .by_cases h2:f2=0
  .subst h1 h2;have Wa:V.length=es.length:=Wa rfl;have Sx:L.length<=ps.length:=Sx;simp[hC];have PB:=xC u tg qq Ru Vj V yA L yA (ints V) (aN L) (.inl rfl) (.inl rfl);rw[show (V++replicate (qq.locals-V.length) 0)=V++replicate (qq.locals-es.length) 0 by rw[Wa]] at PB;have Yv:trees [cb u,I tg,ints V,aN L]=true:=by simp only[trees,tree,bD,bT,cb,bt u,Bool.and_self]
   simp only[cb,eD,ints,aN,cZ] at PB Yv
   cases go with
   | false=>
    repeat first
     | apply T.seq
     | (apply aG;simp[hC])
     | (refine bh ?_;simp)
     | (refine cX ?_;simp)
     | (apply T.skip;simp)
     | apply T.block
    refine TL.du ag [] [] 0 6 (PN) rfl PU OU rfl rfl Pd Pd RZ Pd Pd (TL.go' ag ?_);simp[hC,br,bf,aL,cQ,bP,rG,rT,rL,rV,r1,r2,ra];refine T.le (Le.norm [13,11,10,9,8,7,4,2] [(4,0),(5,1),(6,2),(7,3),(8,4),(10,5),(3,6),(2,7),(0,8)] 0 9 Px Pw TY yA) ?_;simp[cz,bf,aL,cQ,dW,assoc,rG,rT,rL,rV,r1,r2,ra];generalize hA:(s.ts.take t).flatMap cd=A at OW r1 |-;generalize hB:(s.ts.drop (t+1)).flatMap cd=B at OY r2 |-;generalize hD:l0.flatMap cZ=D at tL rL |-;have O5:=(List.getElem?_eq_some_iff.1 hl).1;have lA:A.length=t:=by rw[<- hA,ch,length_map,length_take];omega
    have lB:B.length=s.ts.length-(t+1):=by rw[<- hB,ch,length_map,length_drop]
    have lD:D.length=l0.length*4:=by rw[<- hD];exact aA cL l0
    have R2:=kg s.gs.length s.tb.length s.ts.length t l0.length f.proc f.pc f.ay.length f.b9.length A B D _ _ OW OY tL tE tV _ (.inl rfl) lA lD O5 hs.t PE;rw[PI];apply aq;simp[hC];have a1:A.all (aU 5)=true:=by rw[<- aE];exact bK 5 _ OW
    have a2:B.all (aU 5)=true:=by rw[<- aE];exact bK 5 _ OY
    have a3:D.all (aU 5)=true:=by rw[<- aE];exact bK 5 _ tL
    have dD:∀ r:List CV,(D++r).drop (l0.length*4)=r:=λ r=>by rw[<- lD];simp
    have PK:∀ (r:List CV) (k:Nat),(D++r).drop (l0.length*4+k)=r.drop k:=λ r k=>by rw[<- lD,drop_append];simp
    have P4:∀ (r:List CV) (k:Nat),(D++r).take (l0.length*4+k)=D++r.take k:=λ r k=>by rw[<- lD,take_append,take_of_length_le yA];simp
    have P6:∀ (r:List CV),(D++r).drop (l0.length*4+1+1)=r.drop 2:=λ r=>PK r 2;have w3:=cw ((f.pc:Int)+1) yA yA;refine TL.du ag [0,1,2,3,4] [2,3,4] 5 0 R2 rfl PU OU rfl rfl PU XD PU XE WI (TL.go' ag ?_);simp[hC,br,bf,aL,cQ,bP,rL,rV,r1,r2,ra,w3,lD,PK,P4,P6];apply aq;simp[hC];refine ct Yv PB ?_;simp[hC];have tZ:trees (V.map bj++replicate (qq.locals-es.length) (bj 0))=true:=by rw[aF,aB];exact fK _
    generalize hZ:V.map bj++replicate (qq.locals-es.length) (bj 0)=Z at tZ |-;have rZ:=λ ρ=>ae ρ _ tZ;have b2:l0.length*4+4=(l0.length+1)*4:=by omega
    have b1:(l0.length+1+1)*64<=140737488355328:=by omega
    have dA:∀ r:List CV,(A++r).drop t=r:=λ r=>by rw[<- lA];simp
    have WE:∀ (x:CV) (r:List CV),(A++x::r).drop (t+1)=r:=λ x r=>by rw[<- lA,drop_append];simp
    repeat first
     | apply T.seq
     | (apply aG;simp[hC])
     | (refine T.cond (b:=false) ?_ ?_;(first | rfl | (simp[ev,assoc,lD];done));simp)
     | (refine T.cond (b:=true) ?_ ?_;(first | rfl | (simp[ev,assoc,lD];done));simp)
     | (apply T.skip;simp)
     | apply T.block
    refine T.rx ag follows [0,1,2,3,4,5,6,7,8,9,10,11,12,13,14] [(1,10),(1,11),(4,10),(8,10)] GK ?_;simp[hC,lD,lA,dA,WE,O5,b1,b2,aS];apply aq;simp[hC];apply T.ret;refine aa.le (Le.norm [9,8] [(0,0),(1,1),(2,2),(25,3),(4,4),(6,5)] 0 6 Px Pw TY yA) ?_;simp[cz,bf,aL,cQ,dW,assoc,rG,rT,rL,rV,r1,r2,ra];have kF:∀ a b c d a' b' c' d':CV,take ((l0.length+1+1)*4) (D++[a,b,c,d,a',b',c',d'])=D++[a,b,c,d,a',b',c',d']:=λ a b c d a' b' c' d'=>take_of_length_le PA;have O6:(s.ts.set t (l0++[{ f with pc:=f.pc+1 },⟨tg,0,V++replicate (qq.locals-es.length) 0,L⟩])).flatMap cd=A++.au (D++[I f.proc,I ((f.pc:Int)+1),.au (f.ay.map bj) f.ay.length,.au (f.b9.map λ n:Nat=>I n) f.b9.length,I tg,I 0,.au Z (V.length+(qq.locals-es.length)),.au (L.map λ n:Nat=>I n) L.length]) (l0.length+1+1)::B:=by
     rw[set_eq_take_append_cons_drop,if_pos O5,flatMap_append,flatMap_cons,hA,hB];simp[cd,cZ,hD,ints,aN,<- hZ]
    refine kR tG tT OW OY tL tE tV (by simp only[trees,tree,Bool.and_self]) xr (aA cm _) yA xr ?_;simp[O6,kF]
   | true=>cases TR
  .have O9:((f2:Int) == 0)=false:=by rw[beq_eq_false_iff_ne];omega
   have RV:((f2:Int) != 0)=true:=by rw[bne_iff_ne];omega
   subst h1;simp[hC,h2]
   repeat first
    | apply T.seq
    | (apply aG;simp[hC,O9,RV])
    | (refine T.cond (b:=false) ?_ ?_;(first | rfl | (simp[ev,assoc];done));simp)
    | (refine T.cond (b:=true) ?_ ?_;(first | rfl | (simp[ev,assoc,h2,O9,RV];done));simp)
    | (apply T.skip;simp)
    | apply T.block
   refine ct (Qh f2) (Qj f2) ?_;simp[hC];apply T.ret;refine aa.le (Le.trim [9,8] [3] 99 Qr yA) ?_;simp;apply aa.here;cases go<;>simp
 .have O9:((f1:Int) == 0)=false:=by rw[beq_eq_false_iff_ne];omega
  have RV:((f1:Int) != 0)=true:=by rw[bne_iff_ne];omega
  simp[hC,h1]
  repeat first
   | apply T.seq
   | (apply aG;simp[hC,O9,RV])
   | (refine T.cond (b:=false) ?_ ?_;(first | rfl | (simp[ev,assoc];done));simp)
   | (refine T.cond (b:=true) ?_ ?_;(first | rfl | (simp[ev,assoc,h1,O9,RV];done));simp)
   | (apply T.skip;simp)
   | apply T.block
  refine ct (Qh f1) (Qj f1) ?_;simp[hC];apply T.ret;refine aa.le (Le.trim [9,8] [3] 99 Qr yA) ?_;simp;apply aa.here;cases go<;>simp
theorem go24 (n:Nat)(h:¬ 32<=n):(n+1)*24<=140737488355328:=by omega
theorem go8 (n:Nat)(h:¬ 32<=n):(n+1)*8<=140737488355328:=by omega
theorem goAB {a b n t:Nat}(h1:a=t)(h2:b=n-(t+1))(h3:t<n):a+(b+1)=n:=by omega
theorem Mv (u:Un)(s:Sy)(t:Nat)(l0:List Fr)(f:Fr)(go:Bool)(tg:Nat)(es:List Ex)(ps:List Pl)(qq:Pr)(hm:ua u.ms)(Ru:u.ps[tg]? = some qq)(he:∀ e∈es,px s.gs.length f.ay.length e)(O7:es.length<=1000)(hp:∀ p∈ps,p.index<=1000000/\pN u.ms s.gs.length f.ay.length f.b9.length p)(Qx:ps.length<=1000)(XW:es.length<=qq.locals)(Vj:qq.locals<=1000000)
  (hl:s.ts[t]? = some (l0++[f])) (PI:s.fault=0) (hs:Ev s) (hr:B4 s) (h6:f.pc<=1000000) (TR:go=true) :
  af prog 42 [cb u,bp s,I t,.agg (df (.call go tg es ps))] (.bY [bp (OJ u s t l0 f go tg qq.locals es ps),.bool true]):=by
 have Pq:cN s t=some f:=by simp[cN,hl,PI]
 have RT:=mem_of_getElem? hl;have PV:=(hs.f _ RT).1;have PE:l0.length<=1000000:=by simp at PV;omega
 have PN:=qb s t l0 f hl hs;have U2:=DI u s t f go tg es ps hm hs hr Pq he O7 hp Qx;have P7:=cG s;have PR:=bt u;have Yw:trees [cb u,bp s,I t,.agg (df (.call go tg es ps))]=true:=by simp only[trees,tree,eE,P7,cb,PR,Bool.and_self]
 have O1:tree (.bY [bp (OJ u s t l0 f go tg qq.locals es ps),.bool true])=true:=by simp only[tree,trees,cG,Bool.and_self]
 have Wa:=mK s.gs f.ay es;have Sx:=sy u s t ps;have Qj:∀ fa:Nat,af prog 91 [bp s,I fa] (.bY [bp ⟨s.gs,s.tb,s.ts,fa⟩,.bool true]):=iZ s hs;have Qh:∀ fa:Nat,trees [bp s,I fa]=true:=λ fa=>by simp only[trees,tree,P7,Bool.and_self]
 refine af.aC ag Tryz.func42 rfl GK (by simp[Tryz.ntmps42]) O1 λ C hC OR=>?_;rw[Tryz.ntmps42] at hC;clear O1;have U4:fw u s t f tg qq.locals es ps=if (cR s.gs f.ay es).2=0 then
  (if (dc u s t ps).2=0 then (⟨tg,0,(cR s.gs f.ay es).1++replicate (qq.locals-es.length) 0,(dc u s t ps).1⟩,0)
   else (⟨tg,0,(cR s.gs f.ay es).1,(dc u s t ps).1⟩,(dc u s t ps).2))
  else (⟨tg,0,(cR s.gs f.ay es).1,[]⟩,(cR s.gs f.ay es).2):=rfl
 simp only[OJ,I5,Jc];rw[U4];generalize cR s.gs f.ay es=va at U2 Wa |-;obtain⟨V,f1⟩:=va;generalize dc u s t ps=vb at U2 Sx |-;obtain⟨L,f2⟩:=vb;have tG:trees (s.gs.map bj)=true:=aB s.gs;have tT:trees (s.tb.flatMap cg)=true:=ah ba _;have tL:trees (l0.flatMap cZ)=true:=ah bX _;have tV:trees (f.ay.map bj)=true:=aB f.ay;have tE:=aM f.b9;have OW:trees ((s.ts.take t).flatMap cd)=true:=ah aK _;have OY:trees ((s.ts.drop (t+1)).flatMap cd)=true:=ah aK _;have rG:=λ ρ=>ae ρ _ tG;have rT:=λ ρ=>ae ρ _ tT;have rL:=λ ρ=>ae ρ _ tL;have rV:=λ ρ=>ae ρ _ tV;have r1:=λ ρ=>ae ρ _ OW;have r2:=λ ρ=>ae ρ _ OY;have rE:=λ ρ=>ae ρ _ tE;have ra:∀ ρ (a b:List CV),aL ρ (a++b)=aL ρ a++aL ρ b:=λ ρ a b=>by rw[aY,aY,aY,map_append]
 have VE:trees (es.flatMap a8)=true:=ah aJ es;have VB:trees (ps.flatMap fC)=true:=ah cJ ps;have Tk:trees (u.gs.map bj)=true:=aB u.gs;have Tj:=dm u.ms;have bY:trees (u.ps.flatMap mw)=true:=ah eX u.ps;have re:=λ ρ=>ae ρ _ VE;have rp2:=λ ρ=>ae ρ _ VB;have rg:=λ ρ=>ae ρ _ Tk;have rm:=λ ρ=>ae ρ _ Tj;have rp:=λ ρ=>ae ρ _ bY;have SA:=aM L;have rLL:=λ ρ=>ae ρ _ SA;have tVV:trees (V.map bj)=true:=aB V;have rVV:=λ ρ=>ae ρ _ tVV;simp only[bp,dK,cb,eD,df,a8,kI,cons_append,nil_append,I8,BN,ints,aN] at U2 Yw PN Qj Qh |-;apply aq;simp[hC];apply aq;simp[hC];refine ct Yw U2 ?_;by_cases h1:f1=0
 .by_cases h2:f2=0
  .subst h1 h2;have Wa:V.length=es.length:=Wa rfl;have Sx:L.length<=ps.length:=Sx;simp[hC];have PB:=xC u tg qq Ru Vj V yA L yA (ints V) (aN L) (.inl rfl) (.inl rfl);rw[show (V++replicate (qq.locals-V.length) 0)=V++replicate (qq.locals-es.length) 0 by rw[Wa]] at PB;have Yv:trees [cb u,I tg,ints V,aN L]=true:=by simp only[trees,tree,bD,bT,cb,bt u,Bool.and_self]
   simp only[cb,eD,ints,aN,cZ] at PB Yv
   cases go with
   | false=>cases TR
   | true=>
    by_cases Vr:32<=s.ts.length
    .have Q8:(32:Int)<=(s.ts.length:Int):=by omega
     repeat first
      | apply T.seq
      | (apply aG;simp[hC,Q8])
      | (refine T.cond (b:=false) ?_ ?_;(first | rfl | (simp[ev,assoc];done));simp)
      | (refine T.cond (b:=true) ?_ ?_;(first | rfl | (simp[ev,assoc,Q8];done));simp)
      | (apply T.skip;simp)
      | apply T.block
     refine ct (Qh 4) (Qj 4) ?_;simp[hC];apply T.ret;refine aa.le (Le.trim [9,8] [3] 99 Qr yA) ?_;simp;apply aa.here;simp[Vr]
    .have Q8:¬ (32:Int)<=(s.ts.length:Int):=by omega
     simp only[if_neg Vr]
     repeat first
      | apply T.seq
      | (apply aG;simp[hC,Q8])
      | (refine T.cond (b:=false) ?_ ?_;(first | rfl | (simp[ev,assoc,Q8];done));simp)
      | (refine T.cond (b:=true) ?_ ?_;(first | rfl | (simp[ev,assoc,Q8];done));simp)
      | (apply T.skip;simp)
      | apply T.block
     refine TL.du ag [] [] 0 6 (PN) rfl PU OU rfl rfl Pd Pd RZ Pd Pd (TL.go' ag ?_);simp[hC,br,bf,aL,cQ,bP,rG,rT,rL,rV,r1,r2,ra];refine T.le (Le.norm [13,11,10,9,8,7,4,2] [(4,0),(5,1),(6,2),(7,3),(8,4),(10,5),(3,6),(2,7),(0,8)] 0 9 Px Pw TY yA) ?_;simp[cz,bf,aL,cQ,dW,assoc,rG,rT,rL,rV,r1,r2,ra];generalize hA:(s.ts.take t).flatMap cd=A at OW r1 |-;generalize hB:(s.ts.drop (t+1)).flatMap cd=B at OY r2 |-;generalize hD:l0.flatMap cZ=D at tL rL |-;have O5:=(List.getElem?_eq_some_iff.1 hl).1;have lA:A.length=t:=by rw[<- hA,ch,length_map,length_take];omega
     have lB:B.length=s.ts.length-(t+1):=by rw[<- hB,ch,length_map,length_drop]
     have lD:D.length=l0.length*4:=by rw[<- hD];exact aA cL l0
     have R2:=kg s.gs.length s.tb.length s.ts.length t l0.length f.proc f.pc f.ay.length f.b9.length A B D _ _ OW OY tL tE tV _ (.inl rfl) lA lD O5 hs.t PE;rw[PI];apply aq;simp[hC];have a1:A.all (aU 5)=true:=by rw[<- aE];exact bK 5 _ OW
     have a2:B.all (aU 5)=true:=by rw[<- aE];exact bK 5 _ OY
     have a3:D.all (aU 5)=true:=by rw[<- aE];exact bK 5 _ tL
     have dD:∀ r:List CV,(D++r).drop (l0.length*4)=r:=λ r=>by rw[<- lD];simp
     have PK:∀ (r:List CV) (k:Nat),(D++r).drop (l0.length*4+k)=r.drop k:=λ r k=>by rw[<- lD,drop_append];simp
     have P4:∀ (r:List CV) (k:Nat),(D++r).take (l0.length*4+k)=D++r.take k:=λ r k=>by rw[<- lD,take_append,take_of_length_le yA];simp
     have P6:∀ (r:List CV),(D++r).drop (l0.length*4+1+1)=r.drop 2:=λ r=>PK r 2;have w3:=cw ((f.pc:Int)+1) yA yA;refine TL.du ag [0,1,2,3,4] [2,3,4] 5 0 R2 rfl PU OU rfl rfl PU XD PU XE WI (TL.go' ag ?_);simp[hC,br,bf,aL,cQ,bP,rL,rV,r1,r2,ra,w3,lD,PK,P4,P6];apply aq;simp[hC];refine ct Yv PB ?_;simp[hC];have tZ:trees (V.map bj++replicate (qq.locals-es.length) (bj 0))=true:=by rw[aF,aB];exact fK _
     generalize hZ:V.map bj++replicate (qq.locals-es.length) (bj 0)=Z at tZ |-;have rZ:=λ ρ=>ae ρ _ tZ;have b2:l0.length*4+4=(l0.length+1)*4:=by omega
     have b1:(l0.length+1+1)*64<=140737488355328:=by omega
     have dA:∀ r:List CV,(A++r).drop t=r:=λ r=>by rw[<- lA];simp
     have WE:∀ (x:CV) (r:List CV),(A++x::r).drop (t+1)=r:=λ x r=>by rw[<- lA,drop_append];simp
     have b3:=go24 _ Vr;have b4:=go8 _ Vr;have XN:A.length+(B.length+1)=s.ts.length:=goAB lA lB O5
     repeat first
      | apply T.seq
      | (apply aG;simp[hC,b3,XN,aS])
      | (refine T.cond (b:=false) ?_ ?_;(first | rfl | (simp[ev,assoc];done));simp)
      | (refine T.cond (b:=true) ?_ ?_;(first | rfl | (simp[ev,assoc,lD,b3,b4,XN,aS];done));simp)
      | (apply T.skip;simp)
      | apply T.block
     apply T.ret;refine aa.le (Le.norm [9,8] [(0,0),(1,1),(12,2),(3,3),(4,4),(6,5),(10,6)] 0 7 Px Pw TY yA) ?_;simp[cz,bf,aL,cQ,dW,assoc,rG,rT,rL,rV,r1,r2,ra];have tX:trees [I tg,I 0,.au Z (V.length+(qq.locals-es.length)),.au (L.map λ n:Nat=>I n) L.length]=true:=by simp only[trees,tree,Bool.and_self]
     refine aa.le (Le.cF (o:=6) rfl tX) ?_;simp[ai tG,ai tT,ai tL,ai tV,ai OW,ai OY];have kF:∀ a b c d:CV,take ((l0.length+1)*4) (D++[a,b,c,d])=D++[a,b,c,d]:=λ a b c d=>take_of_length_le PA;have O6:(s.ts.set t (l0++[{ f with pc:=f.pc+1 }])++[[(⟨tg,0,V++replicate (qq.locals-es.length) 0,L⟩:Fr)]]).flatMap cd=A++.au (D++[I f.proc,I ((f.pc:Int)+1),.au (f.ay.map bj) f.ay.length,.au (f.b9.map λ n:Nat=>I n) f.b9.length]) (l0.length+1)::(B++[.au [I tg,I 0,.au Z (V.length+(qq.locals-es.length)),.au (L.map λ n:Nat=>I n) L.length] 1]):=by
      rw[flatMap_append,set_eq_take_append_cons_drop,if_pos O5,flatMap_append,flatMap_cons,hA,hB];simp[cd,cZ,hD,ints,aN,<- hZ]
     refine kR tG tT OW ?_ tL tE tV ?_ ?_ ?_ ?_ ?_ ?_
     .rw[aF,OY];simp only[trees,tree,Bool.and_self]
     .rfl
     .simp
     .exact aA cm _
     .rw[length_append,length_singleton];omega
     .simp
     simp only[flatMap_append,flatMap_cons,flatMap_nil,append_nil] at O6;simp[kF];exact O6.symm
  .have O9:((f2:Int) == 0)=false:=by rw[beq_eq_false_iff_ne];omega
   have RV:((f2:Int) != 0)=true:=by rw[bne_iff_ne];omega
   subst h1;simp[hC,h2]
   repeat first
    | apply T.seq
    | (apply aG;simp[hC,O9,RV])
    | (refine T.cond (b:=false) ?_ ?_;(first | rfl | (simp[ev,assoc];done));simp)
    | (refine T.cond (b:=true) ?_ ?_;(first | rfl | (simp[ev,assoc,h2,O9,RV];done));simp)
    | (apply T.skip;simp)
    | apply T.block
   refine ct (Qh f2) (Qj f2) ?_;simp[hC];apply T.ret;refine aa.le (Le.trim [9,8] [3] 99 Qr yA) ?_;simp;apply aa.here;cases go<;>simp
 .have O9:((f1:Int) == 0)=false:=by rw[beq_eq_false_iff_ne];omega
  have RV:((f1:Int) != 0)=true:=by rw[bne_iff_ne];omega
  simp[hC,h1]
  repeat first
   | apply T.seq
   | (apply aG;simp[hC,O9,RV])
   | (refine T.cond (b:=false) ?_ ?_;(first | rfl | (simp[ev,assoc];done));simp)
   | (refine T.cond (b:=true) ?_ ?_;(first | rfl | (simp[ev,assoc,h1,O9,RV];done));simp)
   | (apply T.skip;simp)
   | apply T.block
  refine ct (Qh f1) (Qj f1) ?_;simp[hC];apply T.ret;refine aa.le (Le.trim [9,8] [3] 99 Qr yA) ?_;simp;apply aa.here;cases go<;>simp
theorem Ak (u:Un)(s s':Sy)(t:Int)(b:Bool)(i:In)(K a e1 e2 p2:Int)(g p1:Bool)(e3:ByteArray)(e4 p3 q1 q3:List CV)(e5 p4 q2 q4:Nat)(Zw:df i=[I K,I a,.bool g,I e1,I e2,.str e3,.au e4 e5,.bool p1,I p2,.au p3 p4,.au q1 q2,.au q3 q4])(hK:K=1\/K=6)
  (OZ:af prog 33 [cb u,bp s,I t] (gg (some i))) (hR:af prog 44 [bp s,I t,.agg (df i)] (.bY [bp s',.bool b])) :
  af prog 14 [cb u,bp s,I t] (.bY [bp s',.bool b]):=by
 have PR:=bt u;have P7:=cG s;have OQ:trees [cb u,bp s,I t]=true:=by simp only[trees,tree,P7,cb,PR,Bool.and_self]
 have tR:trees [bp s,I t,.agg (df i)]=true:=by simp only[trees,tree,P7,eE,Bool.and_self]
 have O1:tree (.bY [bp s',.bool b])=true:=by simp only[tree,trees,cG,Bool.and_self]
 refine af.aC ag Tryz.func14 rfl GK Xw O1 λ C hC OR=>?_;rw[Tryz.ntmps14] at hC;clear O1;simp only[gg,Zw,bp,dK,cb,eD,ints] at OZ hR OQ tR |-;rcases hK with rfl | rfl
 all_goals
  apply aq;simp[hC];apply aq;simp[hC];refine ct OQ OZ ?_;simp[hC]
  repeat first
   | apply T.seq
   | (apply aG;simp[hC])
   | (refine bh ?_;simp)
   | (refine cX ?_;simp)
   | (apply T.skip;simp)
   | apply T.block
  refine ct tR hR ?_;simp[hC];apply T.ret;refine aa.le (Le.trim [7,6] [2] 99 Qr yA) ?_;simp;apply aa.here;simp
theorem Aj (u:Un)(s s':Sy)(t:Int)(b:Bool)(i:In)(K a e1 e2 p2:Int)(g p1:Bool)(e3:ByteArray)(e4 p3 q1 q3:List CV)(e5 p4 q2 q4:Nat)(Zw:df i=[I K,I a,.bool g,I e1,I e2,.str e3,.au e4 e5,.bool p1,I p2,.au p3 p4,.au q1 q2,.au q3 q4])(hK:K=4\/K=5)
  (OZ:af prog 33 [cb u,bp s,I t] (gg (some i))) (hR:af prog 43 [cb u,bp s,I t,.agg (df i)] (.bY [bp s',.bool b])) :
  af prog 14 [cb u,bp s,I t] (.bY [bp s',.bool b]):=by
 have PR:=bt u;have P7:=cG s;have OQ:trees [cb u,bp s,I t]=true:=by simp only[trees,tree,P7,cb,PR,Bool.and_self]
 have tR:trees [cb u,bp s,I t,.agg (df i)]=true:=by simp only[trees,tree,P7,eE,cb,PR,Bool.and_self]
 have O1:tree (.bY [bp s',.bool b])=true:=by simp only[tree,trees,cG,Bool.and_self]
 refine af.aC ag Tryz.func14 rfl GK Xw O1 λ C hC OR=>?_;rw[Tryz.ntmps14] at hC;clear O1;simp only[gg,Zw,bp,dK,cb,eD,ints] at OZ hR OQ tR |-;rcases hK with rfl | rfl
 all_goals
  apply aq;simp[hC];apply aq;simp[hC];refine ct OQ OZ ?_;simp[hC]
  repeat first
   | apply T.seq
   | (apply aG;simp[hC])
   | (refine bh ?_;simp)
   | (refine cX ?_;simp)
   | (apply T.skip;simp)
   | apply T.block
  refine ct tR hR ?_;simp[hC];apply T.ret;refine aa.le (Le.trim [7,6] [2] 99 Qr yA) ?_;simp;apply aa.here;simp
theorem Al (u:Un)(s s':Sy)(t:Int)(b:Bool)(i:In)(K a e1 e2 p2:Int)(g p1:Bool)(e3:ByteArray)(e4 p3 q1 q3:List CV)(e5 p4 q2 q4:Nat)(Zw:df i=[I K,I a,.bool g,I e1,I e2,.str e3,.au e4 e5,.bool p1,I p2,.au p3 p4,.au q1 q2,.au q3 q4])(hK:K=2\/K=3)
  (OZ:af prog 33 [cb u,bp s,I t] (gg (some i))) (hR:af prog 42 [cb u,bp s,I t,.agg (df i)] (.bY [bp s',.bool b])) :
  af prog 14 [cb u,bp s,I t] (.bY [bp s',.bool b]):=by
 have PR:=bt u;have P7:=cG s;have OQ:trees [cb u,bp s,I t]=true:=by simp only[trees,tree,P7,cb,PR,Bool.and_self]
 have tR:trees [cb u,bp s,I t,.agg (df i)]=true:=by simp only[trees,tree,P7,eE,cb,PR,Bool.and_self]
 have O1:tree (.bY [bp s',.bool b])=true:=by simp only[tree,trees,cG,Bool.and_self]
 refine af.aC ag Tryz.func14 rfl GK Xw O1 λ C hC OR=>?_;rw[Tryz.ntmps14] at hC;clear O1;simp only[gg,Zw,bp,dK,cb,eD,ints] at OZ hR OQ tR |-;rcases hK with rfl | rfl
 all_goals
  apply aq;simp[hC];apply aq;simp[hC];refine ct OQ OZ ?_;simp[hC]
  repeat first
   | apply T.seq
   | (apply aG;simp[hC])
   | (refine bh ?_;simp)
   | (refine cX ?_;simp)
   | (apply T.skip;simp)
   | apply T.block
  refine ct tR hR ?_;simp[hC];apply T.ret;refine aa.le (Le.trim [7,6] [2] 99 Qr yA) ?_;simp;apply aa.here;simp
theorem CB (u:Un)(s:Sy)(t:Int)(hs:Ev s)(OZ:af prog 33 [cb u,bp s,I t] (gg none)):af prog 14 [cb u,bp s,I t] (.bY [bp s,.bool false]):=by
 have PR:=bt u;have P7:=cG s;have OQ:trees [cb u,bp s,I t]=true:=by simp only[trees,tree,P7,cb,PR,Bool.and_self]
 have O1:tree (.bY [bp s,.bool false])=true:=by simp only[tree,trees,cG,Bool.and_self]
 have Pc:=Da s hs;have tG:trees (s.gs.map bj)=true:=aB s.gs;have tT:trees (s.tb.flatMap cg)=true:=ah ba _;have tS:trees (s.ts.flatMap cd)=true:=ah aK _;have rG:=λ ρ=>ae ρ _ tG;have rT:=λ ρ=>ae ρ _ tT;have rS:=λ ρ=>ae ρ _ tS;refine af.aC ag Tryz.func14 rfl GK Xw O1 λ C hC OR=>?_;rw[Tryz.ntmps14] at hC;clear O1;simp only[gg,bp,dK,cb,eD,ints,OH] at *;apply aq;simp[hC];apply aq;simp[hC];refine ct OQ OZ ?_;simp[hC]
 repeat first
  | apply T.seq
  | (apply aG;simp[hC])
  | (refine bh ?_;simp)
  | (refine cX ?_;simp)
  | (apply T.skip;simp)
  | apply T.block
 refine TL.du ag [] [] 0 6 (Pc) rfl PU OU rfl rfl Pd Pd RZ Pd Pd (TL.go' ag ?_);simp[hC,br,bf,aL,cQ,bP,rG,rT,rS];apply T.ret;refine aa.le (Le.norm [7,6] [(4,0),(5,1),(6,2),(2,5)] 0 6 Px Pw yDc yA) ?_;simp[cz,bf,aL,cQ,dW,assoc,rG,rT,rS];refine Ia tG tT tS xr (aA cm _) (by simpa using aA jH s.ts) ?_;simp
theorem CC (u:Un)(s:Sy)(t:Nat)(l0:List Fr)(f:Fr)(g:Nat)(OZ:af prog 33 [cb u,bp s,I t] (gg (some (.jump g))))(hl:s.ts[t]? = some (l0++[f]))(PI:s.fault=0)(hs:Ev s)(h6:f.pc<=1000000) :
  af prog 14 [cb u,bp s,I t] (.bY [bp { s with ts:=s.ts.set t (l0++[{ f with pc:=g }]) },.bool true]):=by
 have RT:=mem_of_getElem? hl;have PV:=(hs.f _ RT).1;have PE:l0.length<=1000000:=by simp at PV;omega
 have PN:=qb s t l0 f hl hs;have P7:=cG s;have PR:=bt u;have OQ:trees [cb u,bp s,I t]=true:=by simp only[trees,tree,P7,cb,PR,Bool.and_self]
 have O1:tree (.bY [bp { s with ts:=s.ts.set t (l0++[{ f with pc:=g }]) },.bool true])=true:=by simp only[tree,trees,cG,Bool.and_self]
 refine af.aC ag Tryz.func14 rfl GK Xw O1 λ C hC OR=>?_;rw[Tryz.ntmps14] at hC;clear O1;have tG:trees (s.gs.map bj)=true:=aB s.gs;have tT:trees (s.tb.flatMap cg)=true:=ah ba _;have tL:trees (l0.flatMap cZ)=true:=ah bX _;have tV:trees (f.ay.map bj)=true:=aB f.ay;have tE:=aM f.b9;have OW:trees ((s.ts.take t).flatMap cd)=true:=ah aK _;have OY:trees ((s.ts.drop (t+1)).flatMap cd)=true:=ah aK _;have rG:=λ ρ=>ae ρ _ tG;have rT:=λ ρ=>ae ρ _ tT;have rL:=λ ρ=>ae ρ _ tL;have rV:=λ ρ=>ae ρ _ tV;have r1:=λ ρ=>ae ρ _ OW;have r2:=λ ρ=>ae ρ _ OY;have rE:=λ ρ=>ae ρ _ tE;have ra:∀ ρ (a b:List CV),aL ρ (a++b)=aL ρ a++aL ρ b:=λ ρ a b=>by rw[aY,aY,aY,map_append]
 simp only[gg,df,a8,kI,cons_append,nil_append,bp,dK,cb,eD,ints,I8] at OZ PN OQ |-;apply aq;simp[hC];apply aq;simp[hC];refine ct OQ OZ ?_;simp[hC]
 repeat first
  | apply T.seq
  | (apply aG;simp[hC])
  | (refine bh ?_;simp)
  | (refine cX ?_;simp)
  | (apply T.skip;simp)
  | apply T.block
 refine TL.du ag [] [] 0 6 (PN) rfl PU OU rfl rfl Pd Pd RZ Pd Pd (TL.go' ag ?_);simp[hC,br,bf,aL,cQ,bP,rG,rT,rL,rV,r1,r2,ra,aN];refine T.le (Le.norm [10,8,7,6,2] [(4,0),(5,1),(6,2),(7,3),(8,4),(10,5),(2,6),(3,7)] 0 8 Px Pw TY yA) ?_;simp[cz,bf,aL,cQ,dW,assoc,rG,rT,rL,rV,r1,r2,ra];generalize hA:(s.ts.take t).flatMap cd=A at OW r1 |-;generalize hB:(s.ts.drop (t+1)).flatMap cd=B at OY r2 |-;generalize hD:l0.flatMap cZ=D at tL rL |-;have O5:=(List.getElem?_eq_some_iff.1 hl).1;have lA:A.length=t:=by rw[<- hA,ch,length_map,length_take];omega
 have lB:B.length=s.ts.length-(t+1):=by rw[<- hB,ch,length_map,length_drop]
 have lD:D.length=l0.length*4:=by rw[<- hD];exact aA cL l0
 have R2:=kg s.gs.length s.tb.length s.ts.length t l0.length f.proc f.pc f.ay.length f.b9.length A B D _ _ OW OY tL tE tV _ (.inl rfl) lA lD O5 hs.t PE;rw[PI];have a1:A.all (aU 5)=true:=by rw[<- aE];exact bK 5 _ OW
 have a2:B.all (aU 5)=true:=by rw[<- aE];exact bK 5 _ OY
 have a3:D.all (aU 5)=true:=by rw[<- aE];exact bK 5 _ tL
 have dD:∀ r:List CV,(D++r).drop (l0.length*4)=r:=λ r=>by rw[<- lD];simp
 have PK:∀ (r:List CV) (k:Nat),(D++r).drop (l0.length*4+k)=r.drop k:=λ r k=>by rw[<- lD,drop_append];simp
 have P4:∀ (r:List CV) (k:Nat),(D++r).take (l0.length*4+k)=D++r.take k:=λ r k=>by rw[<- lD,take_append,take_of_length_le yA];simp
 have P6:∀ (r:List CV),(D++r).drop (l0.length*4+1+1)=r.drop 2:=λ r=>PK r 2;have w3:=cw ((f.pc:Int)+1) yA yA;have kF:∀ a b c d:CV,take ((l0.length+1)*4) (D++[a,b,c,d])=D++[a,b,c,d]:=λ a b c d=>take_of_length_le PA;have O6:(s.ts.set t (l0++[{ f with pc:=g }])).flatMap cd=A++.au (D++[I f.proc,I g,.au (f.ay.map bj) f.ay.length,.au (f.b9.map λ n:Nat=>I n) f.b9.length]) (l0.length+1)::B:=by
  rw[set_eq_take_append_cons_drop,if_pos O5,flatMap_append,flatMap_cons,hA,hB];simp[cd,cZ,hD,ints,aN]
 repeat first
  | apply T.seq
  | (apply aG;simp[hC])
  | (refine bh ?_;simp)
  | (refine cX ?_;simp)
  | (apply T.skip;simp)
  | apply T.block
 refine T.rx ag follows [0,1,3,4,2,5,6,7] [(4,2)] GK ?_;simp[hC];refine RX.du [0,1,2,3,4] [2,3,4] [] 5 0 R2 rfl PU rfl xr rfl rfl PU XD PU XE PU (by simp[qZ,br,bf,assoc,bP]) (λ p _ _=>rfl) ?_;simp[br,bf,aL,cQ,bP,rL,rV,r1,r2,ra,lD,P4,P6];apply aq;simp[hC];apply T.ret;refine aa.le (Le.norm [7,6] [(0,0),(1,1),(2,2),(3,3),(4,4),(6,5)] 0 6 Px Pw TY yA) ?_;simp[cz,bf,aL,cQ,dW,assoc,rG,rT,rL,rV,r1,r2,ra];refine kR tG tT OW OY tL tE tV rfl xr (aA cm _) yA xr ?_;simp[O6,kF]
end Go.Proofs.YtlkmbdfhdknlgaaGreat
