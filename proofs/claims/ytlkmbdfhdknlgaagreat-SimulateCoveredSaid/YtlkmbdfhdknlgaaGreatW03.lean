/- Lemmas. -/
import Derived.Test.YtlkmbdfhdknlgaaGreatW02
namespace Go.Can
open Go.RowKit List
def ka (P : Program) (f : FuncId) : Prop := ∃ fn, P.funcs[f]? = some fn /\ (fn.name == "runtime.NumGoroutine") = false /\ fn.body.isNone = false
def ae (P:Program)(f:FuncId)(args:List CV)(r:CV):Prop:=
 ka P f/\∀ (F:Nat->Prop) (vs:List Value) (w:World),FOk w F->bX w F args vs ->
  Calls P f vs.toArray w λ e w'=>∃ v,e=.returned v/\Below w.heap.size w w'/\cj w' F r v
mutual
/-- No memory in it. -/
def scalar:CV->Bool
 | .int _ _=>true
 | .bool _=>true
 | .str _=>true
 | .aj=>true
 | .bL=>true
 | .cH=>true
 | .agg cs=>jI cs
 | .cF cs=>jI cs
 | _=>false
def jI:List CV->Bool
 | []=>true
 | c::cs=>scalar c && jI cs
end
mutual
theorem cj.scalar {w w':World}{F F':Nat->Prop}:∀ (c:CV) (v:Value),Can.scalar c=true->cj w F c v->cj w' F' c v
 | .int _ _,_,_,h=>by simpa [cj] using h
 | .bool _,_,_,h=>by simpa [cj] using h
 | .str _,_,_,h=>by simpa [cj] using h
 | .aj,_,_,h=>by simpa [cj] using h
 | .bL,_,_,h=>by simpa [cj] using h
 | .cH,_,_,h=>by simpa [cj] using h
 | .agg cs,v,hs,h=>by
  simp only[cj,Can.scalar] at h hs |-;obtain⟨vs,e,r,h1⟩:=h;exact⟨vs,e,bX.scalar cs vs hs r,h1⟩
 | .cF cs,v,hs,h=>by
  simp only[cj,Can.scalar] at h hs |-;obtain⟨vs,e,r⟩:=h;exact⟨vs,e,bX.scalar cs vs hs r⟩
 | .az _ _,_,hs,_=>by simp[Can.scalar] at hs
 | .cM _,_,hs,_=>by simp[Can.scalar] at hs
 | .fn _ _,_,hs,_=>by simp[Can.scalar] at hs
 | .iface _ _,_,hs,_=>by simp[Can.scalar] at hs
 | .iter _ _ _,_,hs,_=>by simp[Can.scalar] at hs
 | .mp _ _,_,hs,_=>by simp[Can.scalar] at hs
 | .a7 _ _ _,_,hs,_=>by simp[Can.scalar] at hs
 | .ax _ _,_,hs,_=>by simp[Can.scalar] at hs
theorem bX.scalar {w w':World}{F F':Nat->Prop}:∀ (cs:List CV) (vs:List Value),jI cs=true->bX w F cs vs->bX w' F' cs vs
 | [],_,_,h=>by simpa [bX] using h
 | c::cs,vs,hs,h=>by
  simp only[bX,jI,Bool.and_eq_true] at h hs |-;obtain⟨v,r,e,h1,h2⟩:=h;exact⟨v,r,e,cj.scalar c v hs.1 h1,bX.scalar cs r hs.2 h2⟩
end
def KM (s:St):CV->Option CV
 | .a7 o off n=>match assoc s.heap o with
  | some ob=>if trees ob.cells then some (.az ((ob.cells.drop off).take (n*ob.sz)) n) else none
  | none=>none
 | .ax o off=>match assoc s.heap o with
  | some ob=>if trees ob.cells then some (.cM (ob.cells.drop off)) else none
  | none=>none
 | c=>if tree c then some c else none
def vq (s:St):List CV->Option (List CV)
 | []=>some []
 | c::cs=>match KM s c,vq s cs with
  | some d,some ds=>some (d::ds)
  | _,_=>none
section
variable {P:Program}{C:Cx}{U:Nat->Option OB}{s:St}{a:Act}{w:World}{ops:Array Oper}{av:List (Nat×TI)}
theorem aQ.below (h:aQ C U s a w){w':World}(hb:Below w.heap.size w w'):aQ C U s a w':=by
 have hg:w.grownBy w' none:=⟨hb.os,hb.tape,hb.output,hb.size,λ k hk _=>hb.block k hk⟩;have hk:cL w w' (FB C U s.heap) (FB C U s.heap):=lW hg (λ b e=>by cases e) λ b hb=>.inl hb;refine⟨h.pB,h.tm,hg.os.trans h.os,hg.tape.trans h.tape,hg.output.trans h.output,Nat.le_trans h.size hg.size,?_,?_,?_,h.inj,h.nx,h.gH,h.low,h.new⟩
 .intro b SS SR;rw[hb.block b (Nat.lt_of_lt_of_le SS h.size)];exact h.frame b SS SR
 .intro t c hc;obtain⟨v,k1,k2⟩:=h.env t c hc;exact⟨v,k1,VR.bD hk c v (λ _ _=>rfl) k2⟩
 .intro o ob ho;obtain⟨B,m1,m2,m3,m4,m5⟩:=h.obj o ob ho;refine⟨B,m1,m2,m3,m4,λ b SS=>?_⟩;obtain⟨cur,n1,n2,n3,n4,n5,n6⟩:=m5 b SS;exact⟨cur,by rw[hb.block b (Array.getElem?_eq_some_iff.1 n1).1];exact n1,n2,n3,n4,n5,aZ.bD hk _ _ (λ _ _=>rfl) n6⟩
theorem DX (h:aQ C U s a w):∀ b,FB C U s.heap b->b<w.heap.size:=by
 rintro b (hb | ⟨o,ob,ho,hb⟩)
 .exact Nat.lt_of_lt_of_le (C.hF.1 b hb) h.size
 .obtain⟨B',m1,_,_,_,m5⟩:=h.obj o ob ho;obtain⟨cur,n1,_⟩:=m5 b yBw;exact (Array.getElem?_eq_some_iff.1 n1).1
theorem FJ (h:aQ C U s a w):FOk w (FB C U s.heap):=⟨DX h,h.gok.mono λ _ hb=>hb.elim id False.elim⟩
theorem Mf (h:aQ C U s a w):FOk w C.F:=⟨λ b hb=>Nat.lt_of_lt_of_le (C.hF.1 b hb) h.size,h.gok.mono λ _ hb=>.inl (hb.elim id False.elim)⟩
theorem Nk (h:aQ C U s a w):Mu w C.F (λ b=>∃ o ob,assoc s.heap o=some ob/\a6 U o=some b):=⟨(Mf h).1,h.gok⟩
theorem gJ {F:Nat->Prop}:∀ (cs:List CV) (us:List Value) (ad:Addr),bX w F cs us->cs.all one=true->¬ F ad.block->(∀ j u,us[j]? = some u->w.cell? (ad.add j)=some u)->fH w F cs ad
 | [],_,_,_,_,_,_=>by simp[fH]
 | c::cs,us,ad,hr,h1,hF,hc=>by
  simp only[bX] at hr;obtain⟨v,r,rfl,h2,h3⟩:=hr;simp only[all_cons,Bool.and_eq_true] at h1;simp only[fH];refine⟨⟨v,by have:=hc 0 v rfl;rwa [add_zero] at this,hF,h2⟩,h1.1,gJ cs r _ h3 h1.2 (by rw[IM];exact hF) λ j u hu=>?_⟩;rw[add_add,Nat.add_comm];exact hc (j+1) u (by simpa using hu)
theorem NK (h:aQ C U s a w){c d:CV}{v:Value}(hv:VR w (FB C U s.heap) U c v)(hl:KM s c=some d):cj w C.F d v:=by
 have hk:cL w w (FB C U s.heap) C.F:=⟨λ ad u hf hu=>⟨hu,λ hF=>hf (.inl hF)⟩,λ r _ hf hu _=>⟨hu,λ hF=>hf (.inl hF)⟩⟩;have obj:∀ {o ob B b},assoc s.heap o=some ob->U o=some B->B.kW=some b->trees ob.cells=true->∀ k,fH w C.F (ob.cells.drop k) ⟨b,k,none⟩:=λ {o ob B b} ho hB hb ht k=>by
  obtain⟨B',e1,_,_,e4,e5⟩:=h.obj o ob ho;rw[hB] at e1;cases e1;obtain⟨cur,k1,k2,k3,k4,k5,k6⟩:=e5 b hb;have h1:=bX.bD hk.1 _ _ (aZ.eL _ _ ht k6);have h2:fH w C.F ob.cells ⟨b,0,none⟩:=gJ _ _ _ h1 e4 k3 λ j u hu=>by
   rw[add_lit,Nat.zero_add,cell_of_row w b j cur _ _ k1];rw[getElem?_take] at hu;split at hu
   .simpa using hu
   .cases hu
  have:=h2.drop k;rwa [add_lit,Nat.zero_add] at this
 unfold KM at hl;split at hl
 .rename_i o off n;split at hl
  .rename_i ob ho;split at hl
   .rename_i ht;cases hl;simp only[VR] at hv;obtain⟨B,hB,hv⟩:=hv;split at hv
    .obtain⟨rfl,rfl,rfl⟩:=hv;simp only[cj];exact⟨none,0,rfl,Nat.le_refl _,Nat.zero_le _,.inl ⟨trivial,by simp⟩⟩
    .rename_i b hb;obtain⟨cap,rfl,h1,h2,_⟩:=hv;simp only[cj];exact⟨_,cap,rfl,h1,h2,.inr ⟨_,rfl,fH.take _ _ _ (obj ho hB hb ht off)⟩⟩
   .cases hl
  .cases hl
 .rename_i o off;split at hl
  .rename_i ob ho;split at hl
   .rename_i ht;cases hl;simp only[VR] at hv;obtain⟨B,b,hB,hb,rfl⟩:=hv;simp only[cj];exact⟨_,rfl,obj ho hB hb ht off⟩
   .cases hl
  .cases hl
 .split at hl
  .rename_i ht;cases hl;exact cj.bD hk.1 _ _ (VR.eL _ _ ht hv)
  .cases hl
theorem xM (h:aQ C U s a w):∀ (cs ds:List CV) (vs:List Value),aZ w (FB C U s.heap) U cs vs->vq s cs=some ds->bX w C.F ds vs
 | [],ds,vs,hv,hl=>by simp only[vq] at hl;cases hl;simpa [aZ,bX] using hv
 | c::cs,ds,vs,hv,hl=>by
  simp only[vq] at hl;split at hl
  .rename_i d ds' h1 h2;cases hl;simp only[aZ,bX] at hv |-;obtain⟨v,r,e,k1,k2⟩:=hv;exact⟨v,r,e,NK h k1 h1,xM h cs ds' r k2 h2⟩
  .cases hl
def bK (s:St)(c:Call):Option (FuncId×List CV):=
 match c.callee with
 | .value f=>match ev s f,BK s c.args.toList with
  | some (.fn g Ue),some cs=>some (g,cs++Ue)
  | _,_=>none
 | _=>none
def bW (P:Program)(s:St)(c:Call)(r:CV):Prop:=
 ∃ g cs,bK s c=some (g,cs)/\((trees cs=true/\ae P g cs r)\/∃ ds,vq s cs=some ds/\ae P g ds r/\scalar r=true)
theorem DY (h:aQ C U s a w){o:Oper}{c:Call}(ho:o.op=.call c){r:CV}(hc:bW P s c r)(K:Act->World->Prop)(Q:Exit->Act->World->Prop)
  (hK:∀ v w',aQ C U s a w'->VR w' (FB C U s.heap) U r v->K (a.put o.dst v) w'):o.wp P a w K Q:=by
 obtain⟨g,cs,SP,hp⟩:=hc;unfold bK at SP;split at SP
 .rename_i f U0;split at SP
  .rename_i g' Ue Uh hf S8;cases SP;have XJ:=bH h hf;simp only[VR] at XJ;obtain⟨us,e,hu⟩:=XJ;have Sx:=rv h _ _ S8;have Tr:=aZ.append _ _ _ _ Sx hu;have I1:∀ {cs},ae P g cs r->(execOp a.eval o).run P w=.ok (.enter g (c.args.toList.map a.eval++us).toArray) w:=λ hp=>by
    obtain⟨⟨fn,h1,h2,h3⟩,_⟩:=hp;have e2:(c.args.toList.map a.eval).toArray=c.args.map a.eval:=by rw[<- map_toArray]
    simp only[execOp,ho,resolve,U0,e,Deferred.ofValue,Sem.run_bind,Sem.run_pure,Result.andThen_ok,invoke,callFunc,run_program,h1,h2,h3,Bool.false_eq_true,if_false];rw[<- e2];simp
   rcases hp with ⟨ht,hp⟩ | ⟨ds,hl,hp,ZT⟩
   .unfold Oper.wp;rw[I1 hp];refine (hp.2 (FB C U s.heap) _ w (FJ h) (aZ.eL _ _ ht Tr)).mono λ e w' ⟨v,he,hb,hv⟩=>?_;subst he;exact hK v w' (h.below hb) (VR.cJ _ _ hv)
   .unfold Oper.wp;rw[I1 hp];refine (hp.2 C.F _ w (Mf h) (xM h _ _ _ Tr hl)).mono λ e w' ⟨v,he,hb,hv⟩=>?_;subst he;exact hK v w' (h.below hb) (VR.cJ _ _ (cj.scalar _ _ ZT hv))
  .cases SP
 .cases SP
theorem TL.call {o:Oper}{l:List Oper}{c:Call}{r:CV}{K:St->Prop}(hd:bj C.nt o.dst=true)(hg:o.guard=none)(ho:o.op=.call c)(hc:bW P s c r)(h:TL P C ops l (s.put o.dst r) K):TL P C ops (o::l) s K:=by
 intro a w Q hr hQ;obtain⟨U,hr⟩:=hr;unfold wpList;rw[if_pos (by simp[Region.wanted,hg])];refine .inl (DY hr ho hc _ _ λ v w' S0 hv=>h _ _ Q ⟨U,S0.put ?_ hv⟩ hQ);intro t e;rw[S0.tm];rw[e] at hd
 simpa [bj] using hd
theorem TL.cN {o:Oper}{l:List Oper}{c:Call}{r:CV}{K:St->Prop}{j:Nat}{want:Bool}{t:Tmp}(hd:bj C.nt o.dst=true)(hg:o.guard=some (j,want))(hj:(ops[j]?).bind (·.dst)=some t)(ht:assoc s.env t=some (.bool want))(ho:o.op=.call c)(hc:bW P s c r)(h:TL P C ops l (s.put o.dst r) K) :
  TL P C ops (o::l) s K:=by
 intro a w Q hr hQ;have hy:=wN hr hj ht;obtain⟨U,hr⟩:=hr;unfold wpList;rw[if_pos (by simp[Region.wanted,hg,hy])];refine .inl (DY hr ho hc _ _ λ v w' S0 hv=>h _ _ Q ⟨U,S0.put ?_ hv⟩ hQ);intro t e;rw[S0.tm];rw[e] at hd
 simpa [bj] using hd
def enter (args:List CV):St:={ env:=args.zipIdx.map (λ x=>(x.2,x.1)),heap:=[],nx:=0 }
theorem fW:∀ (args:List CV) (k t:Nat) (c:CV),assoc ((args.zipIdx k).map λ x=>(x.2,x.1)) t=some c->k<=t/\args[t-k]? = some c
 | [],_,_,_,h=>by simp[assoc] at h
 | x::args,k,t,c,h=>by
  simp only[zipIdx_cons,map_cons,assoc] at h;split at h
  .rename_i e;subst e;cases h;exact⟨Nat.le_refl _,by simp⟩
  .rename_i e;obtain⟨h1,h2⟩:=fW args (k+1) t c h;refine⟨by omega,?_⟩;rw[show t-k=(t-(k+1))+1 by omega]
   simpa using h2
def qI (av:List (Nat×TI))(s:St):ResultVar->Option CV
 | .tmp t=>assoc s.env t
 | .cell a ty=>match assoc s.env a,assoc av ty with
  | some c,some i=>match iA s c with
   | some cs=>nu i cs
   | none=>none
  | _,_=>none
def l8 (av:List (Nat×TI))(s:St):List ResultVar->Option (List CV)
 | []=>some []
 | r::rs=>match qI av s r,l8 av s rs with
  | some c,some cs=>some (c::cs)
  | _,_=>none
def pj:List CV->CV
 | [c]=>c
 | cs=>.cF cs
def bJ (av:List (Nat×TI))(f:Func)(s:St):Option CV:=match l8 av s f.results.toList with
 | some cs=>some (pj cs)
 | none=>none
def zl (tmps:Array Value):ResultVar->Sem Value
 | .tmp t=>pure (tmps.getD t undef)
 | .cell a t=>do loadVar t (<- asAddr (tmps.getD a undef))
theorem Dv (ht:aF P av)(h:aQ C U s a w):∀ (rs:List ResultVar) (cs:List CV),l8 av s rs=some cs->∃ vs,(rs.mapM (zl a.tmps)).run P w=.ok vs w/\aZ w (FB C U s.heap) U cs vs
 | [],cs,hc=>by simp only[l8] at hc;cases hc;exact⟨[],by simp,by simp[aZ]⟩
 | r::rs,cs,hc=>by
  simp only[l8] at hc;split at hc
  .rename_i c Uh h1 h2;cases hc;obtain⟨vs,k1,k2⟩:=Dv ht h rs Uh h2;have key:∃ v,(zl a.tmps r).run P w=.ok v w/\VR w (FB C U s.heap) U c v:=by
    cases r with
    | tmp t=>
     obtain⟨v,m1,m2⟩:=h.env t c h1;exact⟨v,by simp[zl,Array.getD_eq_getD_getElem?,m1],m2⟩
    | cell x ty=>
     simp only[qI] at h1;split at h1
     .rename_i d i hd hi;split at h1
      .rename_i cells hm;obtain⟨v,m1,m2⟩:=h.env x d hd;obtain⟨ad,rfl,hcells⟩:=CO h m2 hm;obtain⟨u,n1,n2⟩:=DB (P:=P) (ht ty i hi) hcells h1;exact⟨u,by simp[zl,Array.getD_eq_getD_getElem?,m1,asAddr,n1],n2⟩
      .cases h1
     .cases h1
   obtain⟨v,m1,m2⟩:=key;refine⟨v::vs,?_,?_⟩
   .simp only[mapM_cons,Sem.run_bind,m1,k1,Result.andThen_ok,Sem.run_pure]
   .simp only[aZ];exact⟨v,vs,rfl,m2,k2⟩
  .cases hc
theorem iI (ht:aF P av)(h:aQ C U s a w){f:Func}{r:CV}(hr:bJ av f s=some r):∃ v,(results f a.tmps).run P w=.ok v w/\VR w (FB C U s.heap) U r v:=by
 unfold bJ at hr;split at hr
 .rename_i cs S8;cases hr;obtain⟨vs,k1,k2⟩:=Dv ht h _ _ S8;have hl:=aZ.length _ _ k2;have hm:(f.results.mapM (zl a.tmps)).run P w=.ok vs.toArray w:=by
   rw[Array.mapM_eq_mapM_toList];simp only[Sem.run_map,k1,Result.andThen_ok]
  have e:results f a.tmps=(do let vs <- f.results.mapM (zl a.tmps);pure (if h:vs.size=1 then vs[0] else .tuple vs)):=by
   unfold results;congr 1
  rw[e];simp only[Sem.run_bind,hm,Result.andThen_ok,Sem.run_pure];refine⟨_,rfl,?_⟩
  match cs,vs,hl,k2 with
  | [c],[v],_,k2=>
   simp only[aZ] at k2;obtain⟨_,_,e,h1,_⟩:=k2;cases e
   simpa [pj] using h1
  | [],[],_,_=>simp[pj,VR,aZ]
  | c::d::cs,v::u::vs,_,k2=>
   simp only[pj];rw[dif_neg xr];simp only[VR];exact⟨v::u::vs,rfl,k2⟩
 .cases hr
def doneS (av:List (Nat×TI))(f:Func)(r:CV):Exit->St->Prop
 | .normal,s=>bJ av f s=some r
 | .ret,s=>bJ av f s=some r
 | _,_=>False
theorem ae.iZ (UT : aF P av) {f : FuncId} {fn : Func} {c : Code} {args : List CV} {r : CV} (hf : P.funcs[f]? = some fn) (hb : fn.body = some c) (hn : (fn.name == "runtime.NumGoroutine") = false)
  (ha:args.length<=fn.ntmps) (ht:tree r=true) (h:∀ C:Cx,C.nt=fn.ntmps->C.n0=0->T P C c (enter args) (doneS av fn r)):ae P f args r:=by
 refine⟨⟨fn,hf,hn,by simp[hb]⟩,λ F vs w hF hv=>?_⟩;have hl:=bX.length _ _ hv;let C:Cx:=⟨w,F,λ _=>False,hF,fn.ntmps,λ _=>none,0⟩
 have h0:aQ C (λ _=>none) (enter args) { tmps:=vs.toArray++Array.replicate (fn.ntmps-vs.toArray.size) undef,defers:=[] } w:=by
  refine⟨rfl,by simp[C];omega,rfl,rfl,rfl,Nat.le_refl _,λ _ _ _=>rfl,?_,?_,?_,λ _ _=>rfl,λ _ h=>absurd h (Nat.not_lt_zero _),Nat.zero_le _,λ _ _ _ _ h=>by cases h⟩
  .intro t c hc;obtain⟨_,h2⟩:=fW args 0 t c hc;obtain⟨v,h3,h4⟩:=bX.get _ _ hv t c yC;refine⟨v,?_,VR.cJ _ _ (cj.bD (cL.same λ b hb=>?_).1 c v h4)⟩
   .have P1:=(List.getElem?_eq_some_iff.1 h3).1;simp only;rw[Array.getElem?_append_left (by simpa using P1)]
    simpa using h3
   .rcases hb with hF | ⟨o,ob,ho,_⟩
    .exact hF
    .simp[enter,assoc] at ho
  .intro o ob ho;simp[enter,assoc] at ho
  .intro o o' ob SN b ho;simp[enter,assoc] at ho
 refine calls_of_wp hf hb (wp_mono (h C rfl rfl _ _ ⟨_,h0⟩) λ e a' w' ⟨s',q,U,hr⟩=>?_);have fin:bJ av fn s'=some r->a'.defers=[]/\∃ v,(results fn a'.tmps).run P w'=.ok v w'/\(∃ Wf,Ending.returned v=.returned Wf/\Below w.heap.size w w'/\cj w' F r Wf):=λ hq=>by
  obtain⟨v,k1,k2⟩:=iI (P:=P) UT hr hq;refine⟨hr.pB,v,k1,v,rfl,⟨hr.os,hr.tape,hr.output,hr.size,λ k hk=>hr.frame k hk (λ hx=>hx)⟩,?_⟩;exact cj.bD (cL.same λ _ hF=>.inl hF).1 _ _ (VR.eL _ _ ht k2)
 cases e with
 | normal=>exact fin q
 | ret=>exact fin q
 | exit _=>exact q.elim
 | goto _=>exact q.elim
 | panic _=>exact q.elim
 | outgrown=>exact q.elim
end
theorem Hz {av:List (Nat×TI)}{nt:Nat}{ops:Array Oper}{s:St}:zf av nt ops [] s=some s:=rfl
theorem wX {av:List (Nat×TI)}{nt:Nat}{ops:Array Oper}{o:Oper}{l:List Oper}{s:St}:zf av nt ops (o::l) s=(gV av nt ops s o).bind (zf av nt ops l):=by
 simp only[zf];cases gV av nt ops s o<;>rfl
def zA (K:St->Prop):Option St->Prop
 | some s=>K s
 | none=>False
theorem Rel.drew {C:Cx}{s:St}{a:Act}{w:World}(h:Rel C s a w):Rel C s a { w with drawn:=w.drawn+1 }:=by
 obtain⟨U,h⟩:=h;exact⟨U,h.below (w':=w.drew) ⟨rfl,rfl,rfl,Nat.le_refl _,λ _ _=>rfl⟩⟩
section
variable {P:Program}{av:List (Nat×TI)}{s s':St}
theorem kU:∀ (xs:List Operand),(∀ x∈xs,ev s x=ev s' x)->BK s xs=BK s' xs
 | [],_=>rfl
 | x::r,h=>by
  simp only[BK];rw[h x xr,kU r λ y hy=>h y (by simp[hy])]
theorem kD:∀ (xs:List (Nat×Operand)),(∀ x∈xs,ev s x.2=ev s' x.2)->jd s xs=jd s' xs
 | [],_=>rfl
 | (i,x)::r,h=>by
  simp only[jd];rw[h (i,x) xr,kD r λ y hy=>h y (by simp[hy])]
theorem kI {x:Option Operand}(h:∀ y,x=some y->ev s y=ev s' y)(d:Nat):dM s x d=dM s' x d:=by
 cases x with
 | none=>rfl
 | some y=>simp only[dM];rw[h y rfl]
theorem vo (hh:s.heap=s'.heap)(c:CV):iA s c=iA s' c:=by
 unfold iA;rw[hh]
theorem Bk (hh:s.heap=s'.heap){lo hi:Option Operand}(h1:∀ y,lo=some y->ev s y=ev s' y)(h2:∀ y,hi=some y->ev s y=ev s' y)(t:TypeId)(c:CV):mG av s t c lo hi=mG av s' t c lo hi:=by
 unfold mG;rw[hh];simp only[kI h1,kI h2]
theorem EF (hh:s.heap=s'.heap)(op:Op)(h:∀ x∈op.operands,ev s x=ev s' x):fD av s op=fD av s' op:=by
 cases op
 case move x=>exact h x US
 case assign x=>exact h x US
 case pick c x y=>
  simp only[fD];rw[h c US,h x US,h y US]
 case binOp op t x y yt=>
  simp only[fD];rw[h x US,h y US]
 case unOp op t x=>simp only[fD];rw[h x US]
 case load t x=>simp only[fD];rw[h x US];simp only[vo hh]
 case slice t x lo hi mx=>
  have h1:∀ y,lo=some y->ev s y=ev s' y:=λ y e=>h y (by subst e;simp[Op.operands]);have h2:∀ y,hi=some y->ev s y=ev s' y:=λ y e=>h y (by subst e;simp[Op.operands])
  cases mx with
  | none=>simp only[fD];rw[h x US];simp only[Bk hh h1 h2]
  | some _=>rfl
 case fieldAddr t x f=>simp only[fD];rw[h x US]
 case field t x f=>simp only[fD];rw[h x US]
 case indexAddr t x i=>simp only[fD];rw[h x US,h i US]
 case index t x i=>simp only[fD];rw[h x US,h i US]
 case extract x i=>simp only[fD];rw[h x US]
 case makeFunc f first cap=>
  cases f<;>first | rfl | skip
  simp only[fD];rw[kU cap.toList λ x hx=>h x (by simp only[Op.operands,Array.mem_append];exact .inr (by simpa using hx))]
 case nilCheck x=>simp only[fD];rw[h x US]
 case build t parts=>
  simp only[fD,uW];rw[kD parts.toList λ x hx=>h x.2 yEa]
 case call c=>
  simp only[fD];split
  .rename_i b hb;have ha:∀ x∈c.args.toList,ev s x=ev s' x:=λ x hx=>h x (by simp only[Op.operands,Call.operands,Array.mem_append];exact .inr (by simpa using hx));unfold je;split
   .split
    .rename_i x t e _;rw[ha x (by rw[e];simp)]
    .rfl
   .rw[kU _ ha]
   .rw[kU _ ha]
   .rfl
  .rfl
 all_goals rfl
end
def qu (s:St)(d:Option Tmp):Option CV->St
 | some c=>s.put d c
 | none=>s.del d
def PC (P:Program)(av:List (Nat×TI))(nt:Nat)(ops:Array Oper)(s:St)(o:Oper)(r:Option CV):Prop:=
 bj nt o.dst=true/\
  ((∃ j want t,o.guard=some (j,want)/\(ops[j]?).bind (·.dst)=some t/\nX (assoc s.env t) want=some false/\r=some (.cF []))\/
   ((o.guard=none\/∃ j want t,o.guard=some (j,want)/\(ops[j]?).bind (·.dst)=some t/\assoc s.env t=some (.bool want))/\
    ∃ c,r=some c/\(fD av s o.op=some c\/∃ cl,o.op=.call cl/\bW P s cl c)))
section
variable {P:Program}{C:Cx}{s:St}{a:Act}{w:World}{ops:Array Oper}{av:List (Nat×TI)}
def TH (P:Program)(av:List (Nat×TI))(nt:Nat)(ops:Array Oper):List Nat->St->(St->Prop)->Prop
 | [],s,K=>K s
 | i::r,s,K=>∃ o res,ops[i]? = some o/\PC P av nt ops s o res/\TH P av nt ops r (qu s o.dst res) K
def j4 (E:Nat->Option CV)(d:Option Tmp)(r:Option CV):Nat->Option CV:=λ t=>if d=some t then r else E t
def dE (ops:Array Oper)(i:Nat):Option Tmp:=(ops[i]?).bind (·.dst)
theorem yr {s:St}{d:Option Tmp}{r:Option CV}(t:Nat):assoc (qu s d r).env t=j4 (assoc s.env) d r t:=by
 cases r with
 | none=>
  cases d with
  | none=>simp[qu,St.del,j4]
  | some x=>simp[qu,St.del,j4,fG]
 | some c=>
  cases d with
  | none=>simp[qu,St.put,j4]
  | some x=>
   simp only[qu,St.put,j4,assoc,fG,Option.some.injEq];split<;>rfl
theorem p5 {s:St}{d:Option Tmp}{r:Option CV}:(qu s d r).heap=s.heap/\(qu s d r).nx=s.nx:=by
 cases r<;>cases d<;>exact⟨rfl,rfl⟩
def AV:List Nat->Array Bool->Array Bool
 | [],l=>l
 | i::r,l=>AV r (l.setIfInBounds i true)
end
section
variable {P:Program}{C:Cx}{s:St}{a:Act}{w:World}{ops:Array Oper}{av:List (Nat×TI)}
theorem count_set:∀ (ord:List Nat) (i:Nat) (listed:Array Bool),ord.Nodup->i∈ord->i<listed.size->listed.getD i false=false ->
  (ord.countP λ j=>!(listed.setIfInBounds i true).getD j false)+1=ord.countP λ j=>!listed.getD j false
 | [],_,_,_,h,_,_=>by cases h
 | k::r,i,listed,hn,hi,P1,hu=>by
  rw[nodup_cons] at hn;simp only[countP_cons];by_cases hk:k=i
  .subst hk;have h1:((listed.setIfInBounds k true).getD k false)=true:=by simp[P1]
   have h2:(r.countP λ j=>!(listed.setIfInBounds k true).getD j false)=r.countP λ j=>!listed.getD j false:=by
    refine countP_congr λ j hj=>?_;rw[getD_set_ne false (λ e=>hn.1 (by subst e;exact hj))]
   rw[h1,h2,hu];simp
  .have hir:i∈r:=by
    rcases mem_cons.1 hi with e | e
    .exact absurd e.symm hk
    .exact e
   have:=count_set r i listed hn.2 hir P1 hu;rw[getD_set_ne false (Ne.symm hk)];omega
theorem xS (m j:Nat):(Array.replicate m false).getD j false=false:=getD_replicate_false m j
theorem qC {listed:Array Bool}{j:Nat}(hs:j<listed.size)(h:listed.getD j false=false):listed.getD j true=false:=getD_in hs h
def Nc (ops:Array Oper):List Nat->Array Bool->Bool
 | [],_=>true
 | i::r,listed=>(Region.ready .any ops listed).contains i && Region.free .any ops listed i && (match ops[i]? with
   | some o=>o.guard.isNone && (match o.op with | .move _=>true | .indexAddr _ _ _=>true | .fieldAddr _ _ _=>true | .nilCheck _=>true | _=>false)
   | none=>false) && Nc ops r (listed.setIfInBounds i true)
theorem Gb (ht:aF P av)(hsel:Region.noSelect ops=true){Q':Exit->Act->World->Prop}(hQ:∀ c a w,¬ Q' (.panic c) a w){g:Nat}{K:St->Prop}:∀ (pre:List Nat) (L0:Array Bool) (s:St) (a:Act) (w:World),Nc ops pre L0=true->Rel C s a w ->
  TH P av C.nt ops pre s K->(∀ s' a',K s'->Rel C s' a' w->wpAny P .any ops Q' g (AV pre L0) a' w)->wpAny P .any ops Q' (pre.length+g) L0 a w
 | [],L0,s,a,w,_,hr,hk,WG=>by rw[length_nil,Nat.zero_add];exact WG s a hk hr
 | i::r,L0,s,a,w,hp,hr,hk,WG=>by
  simp only[Nc,Bool.and_eq_true] at hp;obtain⟨⟨⟨h1,h2⟩,h3⟩,h4⟩:=hp;obtain⟨o,res,ho,hq,hk'⟩:=hk;rw[ho] at h3;simp only[Bool.and_eq_true] at h3;have hg:o.guard=none:=by simpa using h3.1
  obtain⟨hd,hq⟩:=hq;rcases hq with ⟨j,want,t,e1,_⟩ | ⟨_,c,rfl,hc⟩
  .rw[hg] at e1;cases e1
  .obtain⟨U,hr⟩:=hr;have hv:∃ v,(∀ w,(execOp a.eval o).run P w=.ok (.value v) w)/\VR w (FB C U s.heap) U c v:=by
    rcases hc with hc | ⟨cl,e,_⟩
    .cases SG:o.op<;>rw[SG] at h3<;>simp at h3
     case move x=>
      rw[SG] at hc;exact⟨a.eval x,λ w=>by simp[execOp,SG],bH hr hc⟩
     case indexAddr t x i=>
      rw[SG] at hc;simp only[fD] at hc;split at hc
      .rename_i c' k n hx hi;have hn:=bH hr hi;simp only[VR] at hn;obtain⟨z,k1,k2⟩:=z4 (P:=P) (k:=k) ht (bH hr hx) hc;exact⟨z,λ w=>by simp[execOp,SG,hn,k1],k2⟩
      .cases hc
     case fieldAddr t x f=>
      rw[SG] at hc;simp only[fD] at hc;split at hc
      .rename_i c' hx;obtain⟨z,k1,k2⟩:=qK (P:=P) ht (bH hr hx) hc;exact⟨z,λ w=>by simp[execOp,SG,k1],k2⟩
      .cases hc
     case nilCheck x=>
      rw[SG] at hc;simp only[fD] at hc;split at hc
      .rename_i o' p hx;cases hc;have hv:=bH hr hx;have Vq:=hv;simp only[VR] at Vq;obtain⟨B,b,_,_,e⟩:=Vq;exact⟨_,λ w=>by simp only[execOp,SG,e];rfl,by rw[<- e];exact hv⟩
      .rename_i cs hx;cases hc;have hv:=bH hr hx;have Vq:=hv;simp only[VR,cj] at Vq;obtain⟨ad,e,_⟩:=Vq;exact⟨_,λ w=>by simp only[execOp,SG,e];rfl,by rw[<- e];exact hv⟩
      .rename_i f cs hx;cases hc;have hv:=bH hr hx;have Vq:=hv;simp only[VR] at Vq;obtain⟨vs,e,_⟩:=Vq;exact⟨_,λ w=>by simp only[execOp,SG,e];rfl,by rw[<- e];exact hv⟩
      .cases hc
    .rw[e] at h3;simp at h3
   obtain⟨v,Zh,hv2⟩:=hv;have hy:Yields P ops o v a:=.inl ⟨by simp[Region.wanted,hg],Zh⟩;rw[show (i::r).length+g=(r.length+g)+1 by simp;omega];refine wpAny_take ho hsel h2 h1 (λ c a w h=>absurd h (hQ c _ w)) hy ?_;refine Gb ht hsel hQ r (L0.setIfInBounds i true) _ _ w h4 ⟨U,hr.put ?_ hv2⟩ hk' (λ s' a' Wn S0=>WG s' a' Wn S0);intro t e;rw[hr.tm];rw[e] at hd
   simpa [bj] using hd
end
def Le (C:Cx)(s s':St):Prop:=∀ (a:Act) (w:World),Rel C s a w->Rel C s' a w
section
variable {C:Cx}
theorem Le.refl (s:St):Le C s s:=λ _ _ h=>h
theorem Le.trans {s s' UG:St}(h:Le C s s')(k:Le C s' UG):Le C s UG:=λ a w hr=>k a w (h a w hr)
def pick {α:Type}(l:List (Nat×α)):List Nat->List (Nat×α)
 | []=>[]
 | t::r=>match assoc l t with
  | some c=>(t,c)::pick l r
  | none=>pick l r
theorem fh {α:Type}(l:List (Nat×α)):∀ (ks:List Nat) (t:Nat) (c:α),assoc (pick l ks) t=some c->assoc l t=some c
 | [],_,_,h=>by simp[pick,assoc] at h
 | k::r,t,c,h=>by
  simp only[pick] at h;split at h
  .rename_i x hx;simp only[assoc] at h;split at h
   .rename_i e;subst e;cases h;exact hx
   .exact fh l r t c h
  .exact fh l r t c h
mutual
def aU (n:Nat):CV->Bool
 | .iter o _ _=>decide (o<n)
 | .mp o _=>decide (o<n)
 | .a7 o _ _=>decide (o<n)
 | .ax o _=>decide (o<n)
 | .agg cs=>ba n cs
 | .fn _ cs=>ba n cs
 | .iface _ cs=>ba n cs
 | .cF cs=>ba n cs
 | _=>true
def ba (n:Nat):List CV->Bool
 | []=>true
 | c::cs=>aU n c && ba n cs
end
mutual
theorem mT (n:Nat):∀ (c:CV) (o:Nat),aU n c=true->aS o c=false->o<n
 | .a7 p _ _,o,h,hr=>by
  have:p=o:=by simpa [aS] using hr
  subst this;simpa [aU] using h
 | .ax p _,o,h,hr=>by
  have:p=o:=by simpa [aS] using hr
  subst this;simpa [aU] using h
 | .agg cs,o,h,hr=>fC n cs o (by simpa [aU] using h) (by simpa [aS] using hr)
 | .fn _ cs,o,h,hr=>fC n cs o (by simpa [aU] using h) (by simpa [aS] using hr)
 | .iface _ cs,o,h,hr=>fC n cs o (by simpa [aU] using h) (by simpa [aS] using hr)
 | .cF cs,o,h,hr=>fC n cs o (by simpa [aU] using h) (by simpa [aS] using hr)
 | .int _ _,_,_,hr=>by simp[aS] at hr
 | .bool _,_,_,hr=>by simp[aS] at hr
 | .str _,_,_,hr=>by simp[aS] at hr
 | .az _ _,_,_,hr=>by simp[aS] at hr
 | .aj,_,_,hr=>by simp[aS] at hr
 | .cM _,_,_,hr=>by simp[aS] at hr
 | .bL,_,_,hr=>by simp[aS] at hr
 | .cH,_,_,hr=>by simp[aS] at hr
 | .iter p _ _,o,h,hr=>by
  simp only[aS,bne_eq_false_iff_eq] at hr;subst hr
  simpa [aU] using h
 | .mp p _,o,h,hr=>by
  simp only[aS,bne_eq_false_iff_eq] at hr;subst hr
  simpa [aU] using h
theorem fC (n:Nat):∀ (cs:List CV) (o:Nat),ba n cs=true->ej o cs=false->o<n
 | [],_,_,hr=>by simp[ej] at hr
 | c::cs,o,h,hr=>by
  simp only[ba,Bool.and_eq_true] at h;simp only[ej,Bool.and_eq_false_iff] at hr;rcases hr with hr | hr
  .exact mT n c o h.1 hr
  .exact fC n cs o h.2 hr
end
def St.trim (s:St)(ks os:List Nat)(n:Nat):St:=⟨pick s.env ks,pick s.heap os,n⟩
def wP (s:St)(ks os:List Nat)(n:Nat):Bool:=
 (pick s.env ks).all (λ x=>aU n x.2) && (pick s.heap os).all λ x=>decide (x.1<n) && ba n x.2.cells
theorem Le.trim {s:St}(ks os:List Nat)(n:Nat)(h:wP s ks os n=true)(Vt:C.n0<=n):Le C s (s.trim ks os n):=by
 intro a w ⟨U,hr⟩;simp only[wP,Bool.and_eq_true] at h;obtain⟨h1,h2⟩:=h;rw[all_eq_true] at h1 h2;have hs:∀ {o},o<n->(if o<n then U o else none)=U o:=λ {o} ho=>by rw[if_pos ho]
 have hF:∀ b,FB C (λ o=>if o<n then U o else none) (pick s.heap os) b->FB C U s.heap b:=by
  rintro b (hb | ⟨o,ob,ho,hb⟩)
  .exact .inl hb
  .have:=h2 _ (bA _ _ _ ho);simp only[Bool.and_eq_true,decide_eq_true_eq] at this;simp only[a6,hs this.1] at hb;exact .inr ⟨o,ob,fh _ _ _ _ ho,hb⟩
 have hk:cL w w (FB C U s.heap) (FB C (λ o=>if o<n then U o else none) (pick s.heap os)):=⟨λ ad u hf hu=>⟨hu,λ h=>hf (hF _ h)⟩,λ r _ hf hu _=>⟨hu,λ h=>hf (hF _ h)⟩⟩;refine⟨λ o=>if o<n then U o else none,hr.pB,hr.tm,hr.os,hr.tape,hr.output,hr.size,hr.frame,?_,?_,?_,?_,λ o ho=>by rw[hs (Nat.lt_of_lt_of_le ho Vt)];exact hr.gH o ho,Vt,λ o B b ho hB hb=>?_⟩
 .intro t c hc;have hm:=h1 _ (bA _ _ _ hc);obtain⟨v,k1,k2⟩:=hr.env t c (fh _ _ _ _ hc);exact⟨v,k1,VR.bD hk c v (λ o ho=>hs (mT n c o hm ho)) k2⟩
 .intro o ob ho;have hm:=h2 _ (bA _ _ _ ho);simp only[Bool.and_eq_true,decide_eq_true_eq] at hm;obtain⟨B,m1,m2,m3,m4,m5⟩:=hr.obj o ob (fh _ _ _ _ ho);refine⟨B,by simp only[hs hm.1];exact m1,m2,m3,m4,λ b hb=>?_⟩;obtain⟨cur,n1,n2,n3,n4,n5,n6⟩:=m5 b hb;exact⟨cur,n1,n2,n3,n4,n5,aZ.bD hk _ _ (λ p hp=>hs (fC n _ p hm.2 hp)) n6⟩
 .intro o o' ob SN b ho Tc hb SS;have hm:=h2 _ (bA _ _ _ ho);have hm':=h2 _ (bA _ _ _ Tc);simp only[Bool.and_eq_true,decide_eq_true_eq] at hm hm';simp only[a6,hs hm.1] at hb;simp only[a6,hs hm'.1] at SS;exact hr.inj o o' ob SN b (fh _ _ _ _ ho) (fh _ _ _ _ Tc) hb SS
 .intro o ho;simp only[St.trim] at ho;rw[if_neg yA]
 .split at hB
  .exact hr.new o B b ho hB hb
  .cases hB
theorem Le.env {s:St}(ks:List Nat):Le C s { s with env:=pick s.env ks }:=by
 intro a w ⟨U,hr⟩;exact⟨U,hr.pB,hr.tm,hr.os,hr.tape,hr.output,hr.size,hr.frame,λ t c hc=>hr.env t c (fh _ _ _ _ hc),hr.obj,hr.inj,hr.nx,hr.gH,hr.low,hr.new⟩
mutual
def cC (o:Nat)(cells:List CV)(sz:Nat):CV->CV
 | .a7 p off n=>if p=o then .az ((cells.drop off).take (n*sz)) n else .a7 p off n
 | .ax p off=>if p=o then .cM (cells.drop off) else .ax p off
 | .agg cs=>.agg (jq o cells sz cs)
 | .fn f cs=>.fn f (jq o cells sz cs)
 | .iface f cs=>.iface f (jq o cells sz cs)
 | .cF cs=>.cF (jq o cells sz cs)
 | .int k n=>.int k n
 | .bool b=>.bool b
 | .str b=>.str b
 | .az cs n=>.az cs n
 | .aj=>.aj
 | .cM cs=>.cM cs
 | .bL=>.bL
 | .cH=>.cH
 | .iter k s p=>.iter k s p
 | .mp k es=>.mp k es
 | .any=>.any
def jq (o:Nat)(cells:List CV)(sz:Nat):List CV->List CV
 | []=>[]
 | c::cs=>cC o cells sz c::jq o cells sz cs
end
theorem N0 {o:Nat}{cells:List CV}{sz:Nat}:∀ c,one (cC o cells sz c)=one c
 | .a7 p off n=>by simp only[cC];split<;>rfl
 | .ax p off=>by simp only[cC];split<;>rfl
 | .agg _=>rfl
 | .fn _ _=>rfl
 | .iface _ _=>rfl
 | .cF _=>rfl
 | .int _ _=>rfl
 | .bool _=>rfl
 | .str _=>rfl
 | .az _ _=>rfl
 | .aj=>rfl
 | .any=>rfl
 | .cM _=>rfl
 | .bL=>rfl
 | .cH=>rfl
 | .iter _ _ _=>rfl
 | .mp _ _=>rfl
theorem xU {o:Nat}{cells:List CV}{sz:Nat}:∀ cs:List CV,(jq o cells sz cs).all one=cs.all one
 | []=>rfl
 | c::cs=>by simp only[jq,all_cons,N0,xU cs]
theorem rh {o:Nat}{cells:List CV}{sz:Nat}:∀ cs:List CV,(jq o cells sz cs).length=cs.length
 | []=>rfl
 | c::cs=>by simp only[jq,length_cons,rh cs]
def yX (o:Nat)(cells:List CV)(sz:Nat):List (Nat×CV)->List (Nat×CV)
 | []=>[]
 | (t,c)::r=>(t,cC o cells sz c)::yX o cells sz r
def vP (o:Nat)(cells:List CV)(sz:Nat):List (Nat×Ob)->List (Nat×Ob)
 | []=>[]
 | (p,x)::r=>if p=o then vP o cells sz r else (p,{ x with cells:=jq o cells sz x.cells })::vP o cells sz r
def St.di (s:St)(o:Nat)(ob:Ob):St:=⟨yX o ob.cells ob.sz s.env,vP o ob.cells ob.sz s.heap,s.nx⟩
theorem yv {o:Nat}{cells:List CV}{sz:Nat}:∀ (l:List (Nat×CV)) (t:Nat) (c:CV),assoc (yX o cells sz l) t=some c->∃ d,assoc l t=some d/\c=cC o cells sz d
 | [],_,_,h=>by simp[yX,assoc] at h
 | (k,x)::r,t,c,h=>by
  simp only[yX,assoc] at h |-;split at h
  .rename_i e;rw[if_pos e];cases h;exact⟨x,rfl,rfl⟩
  .rename_i e;rw[if_neg e];exact yv r t c h
theorem gB {o:Nat}{cells:List CV}{sz:Nat}:∀ (l:List (Nat×Ob)) (p:Nat) (x:Ob),assoc (vP o cells sz l) p=some x->p≠o/\∃ y,assoc l p=some y/\x={ y with cells:=jq o cells sz y.cells }
 | [],_,_,h=>by simp[vP,assoc] at h
 | (k,y)::r,p,x,h=>by
  simp only[vP] at h;split at h
  .rename_i hk;obtain⟨h1,z,h2,h3⟩:=gB r p x h;refine⟨h1,z,?_,h3⟩;simp only[assoc];rw[if_neg (λ e=>h1 (by rw[<- e,hk]))];exact h2
  .rename_i hk;simp only[assoc] at h;split at h
   .rename_i e;cases h;subst e;exact⟨hk,y,by simp[assoc],rfl⟩
   .rename_i e;obtain⟨h1,z,h2,h3⟩:=gB r p x h;exact⟨h1,z,by simp only[assoc];rw[if_neg e];exact h2,h3⟩
section
variable {w:World}{F F':Nat->Prop}{U:Nat->Option OB}{o sz:Nat}{cells:List CV}{B:OB}
mutual
theorem GN (hk:cL w w F F')(hB:U o=some B)(SB:B.sz=sz)(hm:∀ b,B.kW=some b->∀ k,fH w F' (cells.drop k) ⟨b,k,none⟩):∀ (c:CV) (v:Value),VR w F U c v->VR w F' U (cC o cells sz c) v
 | .a7 p off n,v,hv=>by
  simp only[cC];split
  .rename_i e;subst e;simp only[VR] at hv;obtain⟨B',Uz,hv⟩:=hv;rw[hB] at Uz;cases Uz;split at hv
   .obtain⟨rfl,rfl,rfl⟩:=hv;simp only[VR,cj];exact⟨none,0,rfl,Nat.le_refl _,Nat.zero_le _,.inl ⟨trivial,by simp⟩⟩
   .rename_i b hb;obtain⟨cap,rfl,h1,h2,_⟩:=hv;simp only[VR,cj];exact⟨_,cap,rfl,h1,h2,.inr ⟨_,rfl,fH.take _ _ _ (hm b hb off)⟩⟩
  .exact VR.bD hk _ _ (λ _ _=>rfl) hv
 | .ax p off,v,hv=>by
  simp only[cC];split
  .rename_i e;subst e;simp only[VR] at hv;obtain⟨B',b,Uz,hb,rfl⟩:=hv;rw[hB] at Uz;cases Uz;simp only[VR,cj];exact⟨_,rfl,hm b hb off⟩
  .exact VR.bD hk _ _ (λ _ _=>rfl) hv
 | .agg cs,v,hv=>by
  simp only[cC,VR] at hv |-;obtain⟨vs,e,r,h1⟩:=hv;exact⟨vs,e,na hk hB SB hm cs vs r,by rw[xU];exact h1⟩
 | .fn f cs,v,hv=>by
  simp only[cC,VR] at hv |-;obtain⟨vs,e,r⟩:=hv;exact⟨vs,e,na hk hB SB hm cs vs r⟩
 | .iface f cs,v,hv=>by
  simp only[cC,VR] at hv |-;obtain⟨vs,e,r⟩:=hv;exact⟨vs,e,na hk hB SB hm cs vs r⟩
 | .cF cs,v,hv=>by
  simp only[cC,VR] at hv |-;obtain⟨vs,e,r⟩:=hv;exact⟨vs,e,na hk hB SB hm cs vs r⟩
 | .int k n,v,hv=>by simp only[cC];exact VR.bD hk _ _ (λ _ _=>rfl) hv
 | .bool b,v,hv=>by simp only[cC];exact VR.bD hk _ _ (λ _ _=>rfl) hv
 | .str b,v,hv=>by simp only[cC];exact VR.bD hk _ _ (λ _ _=>rfl) hv
 | .az cs n,v,hv=>by simp only[cC];exact VR.bD hk _ _ (λ _ _=>rfl) hv
 | .aj,v,hv=>by simp only[cC];exact VR.bD hk _ _ (λ _ _=>rfl) hv
 | .cM cs,v,hv=>by simp only[cC];exact VR.bD hk _ _ (λ _ _=>rfl) hv
 | .bL,v,hv=>by simp only[cC];exact VR.bD hk _ _ (λ _ _=>rfl) hv
 | .cH,v,hv=>by simp only[cC];exact VR.bD hk _ _ (λ _ _=>rfl) hv
 | .iter _ _ _,v,hv=>by simp only[cC];exact VR.bD hk _ _ (λ _ _=>rfl) hv
 | .mp _ _,v,hv=>by simp only[cC];exact VR.bD hk _ _ (λ _ _=>rfl) hv
 | .any,v,hv=>by simpa [cC,VR] using hv
theorem na (hk:cL w w F F')(hB:U o=some B)(SB:B.sz=sz)(hm:∀ b,B.kW=some b->∀ k,fH w F' (cells.drop k) ⟨b,k,none⟩):∀ (cs:List CV) (vs:List Value),aZ w F U cs vs->aZ w F' U (jq o cells sz cs) vs
 | [],_,hv=>by simpa [jq,aZ] using hv
 | c::cs,vs,hv=>by
  simp only[jq,aZ] at hv |-;obtain⟨v,r,e,h1,h2⟩:=hv;exact⟨v,r,e,GN hk hB SB hm c v h1,na hk hB SB hm cs r h2⟩
end
end
theorem aQ.di {C:Cx}{U:Nat->Option OB}{a:Act}{w:World}{s:St}(hr:aQ C U s a w){o:Nat}{ob:Ob}(ho:assoc s.heap o=some ob)(ht:trees ob.cells=true):aQ C U (s.di o ob) a w:=by
 obtain⟨B,hB,SB,hn,h1,h5⟩:=hr.obj o ob ho;have hF:∀ b,FB C U (vP o ob.cells ob.sz s.heap) b->FB C U s.heap b:=by
  rintro b (hb | ⟨p,x,hp,hb⟩)
  .exact .inl hb
  .obtain⟨_,y,hy,_⟩:=gB _ _ _ hp;exact .inr ⟨p,y,hy,hb⟩
 have hk:cL w w (FB C U s.heap) (FB C U (vP o ob.cells ob.sz s.heap)):=⟨λ ad u hf hu=>⟨hu,λ h=>hf (hF _ h)⟩,λ r _ hf hu _=>⟨hu,λ h=>hf (hF _ h)⟩⟩;have hm:∀ b,B.kW=some b->∀ k,fH w (FB C U (vP o ob.cells ob.sz s.heap)) (ob.cells.drop k) ⟨b,k,none⟩:=λ b hb k=>by
  obtain⟨cur,k1,k2,k3,k4,k5,k6⟩:=h5 b hb;have Zs:¬ FB C U (vP o ob.cells ob.sz s.heap) b:=by
   rintro (hf | ⟨p,x,hp,WU⟩)
   .exact k3 hf
   .obtain⟨SL,y,hy,_⟩:=gB _ _ _ hp;exact SL (hr.inj p o y ob b hy ho WU (by simp[a6,hB,hb]))
  have h2:fH w (FB C U (vP o ob.cells ob.sz s.heap)) ob.cells ⟨b,0,none⟩:=gJ _ _ _ (bX.bD hk.1 _ _ (aZ.eL _ _ ht k6)) h1 Zs λ j u hu=>by
   rw[add_lit,Nat.zero_add,cell_of_row w b j cur _ _ k1];rw[getElem?_take] at hu;split at hu
   .simpa using hu
   .cases hu
  have:=h2.drop k;rwa [add_lit,Nat.zero_add] at this
 refine⟨hr.pB,hr.tm,hr.os,hr.tape,hr.output,hr.size,hr.frame,?_,?_,?_,hr.nx,hr.gH,hr.low,hr.new⟩
 .intro t c hc;obtain⟨d,hd,rfl⟩:=yv _ _ _ hc;obtain⟨v,k1,k2⟩:=hr.env t d hd;exact⟨v,k1,GN hk hB SB hm d v k2⟩
 .intro p x hp;obtain⟨SL,y,hy,rfl⟩:=gB _ _ _ hp;obtain⟨B',m1,m2,m3,m4,m5⟩:=hr.obj p y hy;refine⟨B',m1,m2,λ hn=>?_,by rw[xU];exact m4,λ b hb=>?_⟩
  .rw[m3 hn];rfl
  .obtain⟨cur,n1,n2,n3,n4,n5,n6⟩:=m5 b hb;refine⟨cur,n1,n2,n3,n4,by rw[rh];exact n5,?_⟩;rw[rh];exact na hk hB SB hm _ _ n6
 .intro p q x y b hp hq hb SS;obtain⟨_,x',hx,_⟩:=gB _ _ _ hp;obtain⟨_,y',hy,_⟩:=gB _ _ _ hq;exact hr.inj p q x' y' b hx hy hb SS
theorem Le.di {s:St}{o:Nat}{ob:Ob}(ho:assoc s.heap o=some ob)(ht:trees ob.cells=true):Le C s (s.di o ob):=λ _ _ ⟨U,hr⟩=>⟨U,hr.di ho ht⟩
def St.own (s:St)(t:Nat)(e:TypeId)(sz:Nat):St:={ env:=vc s.env t (.a7 s.nx 0 0),heap:=(s.nx,⟨e,sz,[]⟩)::s.heap,nx:=s.nx+1 }
theorem Le.own {s:St}(t:Nat)(e:TypeId)(sz:Nat)(ht:assoc s.env t=some .aj):Le C s (s.own t e sz):=by
 intro a w ⟨U,hr⟩;obtain⟨h1,h2⟩:=hr.fresh (World.grownBy.refl w none) (ob:=⟨e,sz,[]⟩) (B:=⟨none,0,sz⟩) rfl rfl (λ _=>rfl) (λ b hb=>by cases hb);refine⟨_,h1.pB,h1.tm,h1.os,h1.tape,h1.output,h1.size,h1.frame,?_,h1.obj,h1.inj,h1.nx,h1.gH,h1.low,h1.new⟩;intro u c hc;simp only[St.own] at hc;rw[fX] at hc;split at hc
 .rename_i eu;subst eu;rw[ht] at hc;simp only[Option.map_some,Option.some.injEq] at hc;subst hc;obtain⟨v,k1,k2⟩:=hr.env t _ ht;simp only[VR] at k2;subst k2;refine⟨_,k1,?_⟩;simp only[VR];exact⟨_,dP,by simp⟩
 .exact h1.env u c hc
section
variable {P:Program}{C:Cx}{s:St}{ops:Array Oper}{av:List (Nat×TI)}
theorem T.le {s':St}{c:Code}{Q:Exit->St->Prop}(h:Le C s s')(ht:T P C c s' Q):T P C c s Q:=λ a w hr=>ht a w (h a w hr)
theorem T.post {c:Code}{Q Q':Exit->St->Prop}(h:T P C c s Q')(hq:∀ e s',Q' e s'->∃ UG,Q e UG/\Le C s' UG):T P C c s Q:=λ a w hr=>
 wp_mono (h a w hr) λ e a' w' ⟨s',q,r⟩=>by
  obtain⟨UG,q',l⟩:=hq e s' q;exact⟨UG,q',l a' w' r⟩
theorem TL.le {s':St}{l:List Oper}{K:St->Prop}(h:Le C s s')(ht:TL P C ops l s' K):TL P C ops l s K:=λ a w Q hr hQ=>ht a w Q (h a w hr) hQ
def aa (C:Cx)(I:St->Prop)(s:St):Prop:=∃ s',I s'/\Le C s s'
theorem T.aI {c:Code}{Q:Exit->St->Prop}(I:Nat->St->Prop){n:Nat}(h₀:aa C (I n) s)(round:∀ n s,I n s->T P C c s (fz (λ s'=>∃ m,m<n/\aa C (I m) s') Q)):T P C (.loop c) s Q:=by
 obtain⟨s',h0,l0⟩:=h₀;refine T.le l0 (T.loop I h0 λ n s hi=>T.post (round n s hi) λ e s' q=>?_)
 cases e with
 | normal=>
  obtain⟨m,hm,UG,hi,hl⟩:=q;exact⟨UG,⟨m,hm,hi⟩,hl⟩
 | _=>exact⟨s',q,Le.refl _⟩
def QT (C:Cx)(av:List (Nat×TI))(f:Func)(r:CV):Exit->St->Prop
 | .normal,s=>aa C (λ s=>bJ av f s=some r) s
 | .ret,s=>aa C (λ s=>bJ av f s=some r) s
 | _,_=>False
theorem ae.aD (UT : aF P av) {f : FuncId} {fn : Func} {c : Code} {args : List CV} {r : CV} (hf : P.funcs[f]? = some fn) (hb : fn.body = some c) (hn : (fn.name == "runtime.NumGoroutine") = false)
  (ha:args.length<=fn.ntmps) (ht:tree r=true) (h:∀ C:Cx,C.nt=fn.ntmps->C.n0=0->T P C c (enter args) (QT C av fn r)):ae P f args r:=
 ae.iZ UT hf hb hn ha ht λ C hC M0=>T.post (h C hC M0) λ e s' q=>by
  cases e with
  | normal=>exact q
  | ret=>exact q
  | _=>exact q.elim
def AZ (o:Oper):Bool:=match o.op with
 | .call c=>match c.callee with
  | .builtin _=>false
  | _=>true
 | _=>false
def ca (ops:Array Oper)(s:St)(o:Oper):Option Bool:=match o.guard with
 | none=>some true
 | some (j,want)=>match (ops[j]?).bind (·.dst) with
  | none=>none
  | some t=>nX (assoc s.env t) want
def BJ (av:List (Nat×TI))(nt:Nat)(ops:Array Oper)(K:List Oper->St->Prop):List Oper->St->Prop
 | [],s=>K [] s
 | o::r,s=>if AZ o then
   match ca ops s o with
   | some false=>zA (BJ av nt ops K r) (gV av nt ops s o)
   | _=>K (o::r) s
  else zA (BJ av nt ops K r) (gV av nt ops s o)
theorem K8 (ht:aF P av){K:St->Prop}:∀ (l:List Oper) (s:St),BJ av C.nt ops (λ r s'=>TL P C ops r s' K) l s->TL P C ops l s K
 | [],_,h=>h
 | o::r,s,h=>by
  have fin:zA (BJ av C.nt ops (λ r s'=>TL P C ops r s' K) r) (gV av C.nt ops s o)->TL P C ops (o::r) s K:=λ h=>by
   cases hs:gV av C.nt ops s o with
   | none=>rw[hs] at h;exact h.elim
   | some s'=>rw[hs] at h;exact TL.step ht hs (K8 ht r s' h)
  unfold BJ at h;split at h
  .split at h
   .exact fin h
   .exact h
  .exact fin h
theorem C8 {e:Option CV}{want:Bool}(h:nX e want=some true):e=some (.bool want):=by
 unfold nX at h;split at h
 .rename_i b;simp only[Option.some.injEq,beq_iff_eq] at h;subst h;rfl
 .cases h
 .cases h
def cW (av:List (Nat×TI))(nt:Nat)(ops:Array Oper)(s:St)(o:Oper):Option St:=
 if bj nt o.dst then
  match o.guard with
  | none=>(fD av s o.op).map (s.put o.dst)
  | some (j,want)=>match (ops[j]?).bind (·.dst) with
   | none=>none
   | some t=>match nX (assoc s.env t) want with
    | some true=>(fD av s o.op).map (s.put o.dst)
    | some false=>some (s.put o.dst (.cF []))
    | none=>none
 else none
theorem K3 {nt:Nat}{o:Oper}{s':St}(h:cW av nt ops s o=some s'):∃ r,PC P av nt ops s o r/\qu s o.dst r=s':=by
 unfold cW at h;split at h
 .rename_i hd;split at h
  .rename_i hg;obtain⟨c,hc,rfl⟩:=Option.map_eq_some_iff.1 h;exact⟨some c,⟨hd,.inr ⟨.inl hg,c,rfl,.inl hc⟩⟩,rfl⟩
  .rename_i j want hg;split at h
   .cases h
   rename_i t hj;split at h
   .rename_i hb;obtain⟨c,hc,rfl⟩:=Option.map_eq_some_iff.1 h;exact⟨some c,⟨hd,.inr ⟨.inr ⟨j,want,t,hg,hj,C8 hb⟩,c,rfl,.inl hc⟩⟩,rfl⟩
   .rename_i hb;cases h;exact⟨some (.cF []),⟨hd,.inl ⟨j,want,t,hg,hj,hb,rfl⟩⟩,rfl⟩
   .cases h
 .cases h
def IY (av:List (Nat×TI))(nt:Nat)(ops:Array Oper)(K:List Nat->St->Prop):List Nat->St->Prop
 | [],s=>K [] s
 | i::r,s=>match ops[i]? with
  | none=>False
  | some o=>if AZ o then
    match ca ops s o with
    | some false=>zA (IY av nt ops K r) (cW av nt ops s o)
    | _=>K (i::r) s
   else zA (IY av nt ops K r) (cW av nt ops s o)
theorem K9 {nt:Nat}{K:St->Prop}:∀ (l:List Nat) (s:St),IY av nt ops (λ r s'=>TH P av nt ops r s' K) l s->TH P av nt ops l s K
 | [],_,h=>h
 | i::r,s,h=>by
  unfold IY at h;split at h
  .exact h.elim
  rename_i o ho;have fin:zA (IY av nt ops (λ r s'=>TH P av nt ops r s' K) r) (cW av nt ops s o)->TH P av nt ops (i::r) s K:=λ h=>by
   cases hs:cW av nt ops s o with
   | none=>rw[hs] at h;exact h.elim
   | some s'=>
    rw[hs] at h;obtain⟨x,k1,k2⟩:=K3 (P:=P) hs;exact⟨o,x,ho,k1,by rw[k2];exact K9 r s' h⟩
  split at h
  .split at h
   .exact fin h
   .exact h
  .exact fin h
end
end
section
variable {P:Program}{C:Cx}{s:St}{ops:Array Oper}{av:List (Nat×TI)}{Q:Exit->St->Prop}{x y z:Code}
theorem T.cond_true {c:Operand}(hc:ev s c=some (.bool true))(h:T P C x s Q):T P C (.cond c x y) s Q:=T.cond hc UA
theorem T.cond_false {c:Operand}(hc:ev s c=some (.bool false))(h:T P C y s Q):T P C (.cond c x y) s Q:=T.cond hc UA
theorem T.bw {c:Operand}{b:Bool}(hc:ev s c=some (.bool b))(h1:b=true->T P C x s Q)(h2:b=false->T P C y s Q):T P C (.cond c x y) s Q:=by
 cases b
 .exact T.cond_false hc (h2 rfl)
 .exact T.cond_true hc (h1 rfl)
theorem aa.trim {I:St->Prop}(ks os:List Nat)(n:Nat)(h:wP s ks os n=true)(Vt:C.n0<=n)(hi:I (s.trim ks os n)):aa C I s:=⟨_,hi,Le.trim ks os n h Vt⟩
theorem Le.to {s':St}(ks os:List Nat)(n:Nat)(h:wP s ks os n=true)(Vt:C.n0<=n)(e:s.trim ks os n=s'):Le C s s':=e ▸ Le.trim ks os n h Vt
theorem aa.here {I:St->Prop}(hi:I s):aa C I s:=⟨s,hi,Le.refl s⟩
theorem aa.le {I:St->Prop}{s':St}(h:Le C s s')(hi:aa C I s'):aa C I s:=by
 obtain⟨UG,h1,h2⟩:=hi;exact⟨UG,h1,h.trans h2⟩
theorem bW.of {c:Call}{g:FuncId}{cs:List CV}{r:CV}(h1:bK s c=some (g,cs))(h2:trees cs=true)(h3:ae P g cs r):bW P s c r:=⟨g,cs,h1,.inl ⟨h2,h3⟩⟩
end
abbrev dg (n:Int):CV:=.int .i64 n
def ints (l:List Int):CV:=.az (l.map dg) l.length
theorem H6 (o:Nat)(cs:List CV):ej o cs=cs.all (aS o):=by
 induction cs with
 | nil=>rfl
 | cons c cs ih=>simp[ej,ih]
theorem aT (n:Nat)(cs:List CV):ba n cs=cs.all (aU n):=by
 induction cs with
 | nil=>rfl
 | cons c cs ih=>simp[ba,ih]
theorem Jm (cs:List CV):trees cs=cs.all tree:=by
 induction cs with
 | nil=>rfl
 | cons c cs ih=>simp[trees,ih]
theorem Lg (o:Nat)(cells:List CV)(sz:Nat)(cs:List CV):jq o cells sz cs=cs.map (cC o cells sz):=by
 induction cs with
 | nil=>rfl
 | cons c cs ih=>simp[jq,ih]
theorem Ew (cs:List CV):jI cs=cs.all scalar:=by
 induction cs with
 | nil=>rfl
 | cons c cs ih=>simp[jI,ih]
theorem Lf (o:Nat)(c:List CV)(z:Nat)(l:List Int):cC o c z (ints l)=ints l:=rfl
theorem Fe (o:Nat)(c:List CV)(z:Nat):cC o c z∘ints=ints:=rfl
theorem Iq (o:Nat)(c:List CV)(z:Nat):cC o c z∘dg=dg:=rfl
theorem Ff (o:Nat)(c:List CV)(z:Nat):cC o c z∘CV.bool=CV.bool:=rfl
theorem EY (o:Nat)(l:List Int):aS o (ints l)=true:=rfl
theorem Cf (o:Nat)(l:List Int):aU o (ints l)=true:=rfl
theorem de (l:List Int):tree (ints l)=true:=rfl
theorem AP (o:Nat):aS o∘ints=λ _=>true:=rfl
theorem CE (o:Nat):aS o∘dg=λ _=>true:=rfl
theorem AQ (o:Nat):aS o∘CV.bool=λ _=>true:=rfl
theorem yN (o:Nat):aU o∘ints=λ _=>true:=rfl
theorem AB (o:Nat):aU o∘dg=λ _=>true:=rfl
theorem yO (o:Nat):aU o∘CV.bool=λ _=>true:=rfl
theorem BZ:tree∘ints=λ _=>true:=rfl
theorem Eo:tree∘dg=λ _=>true:=rfl
theorem B1:tree∘CV.bool=λ _=>true:=rfl
theorem E9 (l:List Int):eI (ints l)=false:=rfl
theorem Fv (l:List Int):(ints l).cells=[ints l]:=rfl
theorem De {α:Type}(o:Nat)(c:List CV)(z:Nat)(f:α->List Int):cC o c z∘ints∘f=ints∘f:=rfl
theorem yT {α:Type}(o:Nat)(f:α->List Int):aS o∘ints∘f=λ _=>true:=rfl
theorem xj {α:Type}(o:Nat)(f:α->List Int):aU o∘ints∘f=λ _=>true:=rfl
theorem Al {α:Type}(f:α->List Int):tree∘ints∘f=λ _=>true:=rfl
theorem Fc {α:Type}(o:Nat)(c:List CV)(z:Nat)(f:α->Int):cC o c z∘dg∘f=dg∘f:=rfl
theorem AO {α:Type}(o:Nat)(f:α->Int):aS o∘dg∘f=λ _=>true:=rfl
theorem yM {α:Type}(o:Nat)(f:α->Int):aU o∘dg∘f=λ _=>true:=rfl
theorem BY {α:Type}(f:α->Int):tree∘dg∘f=λ _=>true:=rfl
theorem yW {α:Type}(o:Nat)(c:List CV)(z:Nat)(f:α->Bool):cC o c z∘CV.bool∘f=CV.bool∘f:=rfl
theorem vO {α:Type}(o:Nat)(f:α->Bool):aS o∘CV.bool∘f=λ _=>true:=rfl
theorem uA {α:Type}(o:Nat)(f:α->Bool):aU o∘CV.bool∘f=λ _=>true:=rfl
theorem wT {α:Type}(f:α->Bool):tree∘CV.bool∘f=λ _=>true:=rfl
attribute [simp] De yT xj Al Fc AO yM BY yW vO uA wT
attribute [simp] Lf Fe Iq Ff EY Cf
attribute [simp] de AP CE AQ yN AB yO BZ Eo B1
attribute [simp] E9 Fv
@[simp] theorem O4 (k:IntKind)(n:Int):eI (.int k n:CV)=false:=rfl
@[simp] theorem Pk (k:IntKind)(n:Int):CV.cells (.int k n:CV)=[(.int k n:CV)]:=rfl
@[simp] theorem NT (b:Bool):eI (.bool b:CV)=false:=rfl
@[simp] theorem On (b:Bool):CV.cells (.bool b:CV)=[(.bool b:CV)]:=rfl
@[simp] theorem O2 (b:ByteArray):eI (.str b:CV)=false:=rfl
@[simp] theorem Ph (b:ByteArray):CV.cells (.str b:CV)=[(.str b:CV)]:=rfl
@[simp] theorem O1 (cs:List CV)(n:Nat):eI (.az cs n:CV)=false:=rfl
@[simp] theorem Pf (cs:List CV)(n:Nat):CV.cells (.az cs n:CV)=[(.az cs n:CV)]:=rfl
@[simp] theorem Mk  : eI (.aj:CV)=false:=rfl
@[simp] theorem Mr  : CV.cells (.aj:CV)=[(.aj:CV)]:=rfl
@[simp] theorem NQ (cs:List CV):eI (.cM cs:CV)=false:=rfl
@[simp] theorem Ol (cs:List CV):CV.cells (.cM cs:CV)=[(.cM cs:CV)]:=rfl
@[simp] theorem KT  : eI (.bL:CV)=false:=rfl
@[simp] theorem LO  : CV.cells (.bL:CV)=[(.bL:CV)]:=rfl
@[simp] theorem QG (f:FuncId)(cs:List CV):eI (.fn f cs:CV)=false:=rfl
@[simp] theorem Q9 (f:FuncId)(cs:List CV):CV.cells (.fn f cs:CV)=[(.fn f cs:CV)]:=rfl
@[simp] theorem Ml  : eI (.cH:CV)=false:=rfl
@[simp] theorem Ms  : CV.cells (.cH:CV)=[(.cH:CV)]:=rfl
@[simp] theorem O3 (o f n:Nat):eI (.a7 o f n:CV)=false:=rfl
@[simp] theorem Pj (o f n:Nat):CV.cells (.a7 o f n:CV)=[(.a7 o f n:CV)]:=rfl
@[simp] theorem NR (o f:Nat):eI (.ax o f:CV)=false:=rfl
@[simp] theorem Om (o f:Nat):CV.cells (.ax o f:CV)=[(.ax o f:CV)]:=rfl
@[simp] theorem QF (k:Nat)(es:List (Value×Value)):eI (.mp k es:CV)=false:=rfl
@[simp] theorem O5 (cs:List CV):eI (.agg cs)=false:=rfl
@[simp] theorem Pn (cs:List CV):CV.cells (.agg cs)=cs:=rfl
@[simp] theorem O0 (cs:List CV):eI (.cF cs)=true:=rfl
@[simp] theorem Pe (cs:List CV):CV.cells (.cF cs)=[.cF cs]:=rfl
attribute [simp] H6 aT Jm Lg Ew
attribute [simp] aS aU tree cC scalar one
attribute [simp] assoc kC vc St.put St.del ev BK sX gY fN
attribute [simp] nX gV oV Jy fD bj cW AZ ca BJ IY zA Hz wX
attribute [simp] G7 Fw arith cun je Oj dO mI QK imax yf
attribute [simp] Bp wF iA nu TI.agg uS St.new G1 Bu Oq ma jd og Br mG dM uW qe
attribute [simp] qj cells? G6 Fm
attribute [simp] bK KM vq enter bJ l8 qI pj pick St.trim wP St.di yX vP St.own
attribute [simp] gX oG Bt
attribute [simp] head?_drop
section
variable {P:Program}{C:Cx}{s:St}{ops:Array Oper}{av:List (Nat×TI)}{Q:Exit->St->Prop}{x y z:Code}
/- simp looks at the state alone, never at the code. -/
@[congr] theorem T_congr {s s':St}{c:Code}(h:s=s'):T P C c s Q=T P C c s' Q:=by rw[h]
@[congr] theorem TL_congr {s s':St}{l:List Oper}{K:St->Prop}(h:s=s'):TL P C ops l s K=TL P C ops l s' K:=by rw[h]
@[congr] theorem TH_congr {nt:Nat}{s s':St}{l:List Nat}{K:St->Prop}(h:s=s'):TH P av nt ops l s K=TH P av nt ops l s' K:=by rw[h]
attribute [simp] fz rJ
def DZ (P:Program)(C:Cx)(ops:Array Oper)(K:St->Prop):List Oper->St->Prop
 | [],s=>K s
 | o::r,s=>TL P C ops (o::r) s K
def thK (P:Program)(av:List (Nat×TI))(nt:Nat)(ops:Array Oper)(K:St->Prop):List Nat->St->Prop
 | [],s=>K s
 | i::r,s=>TH P av nt ops (i::r) s K
attribute [simp] DZ thK
theorem TL.go' (ht:aF P av){K:St->Prop}{l:List Oper}(h:BJ av C.nt ops (DZ P C ops K) l s):TL P C ops l s K:=by
 refine K8 ht l s ?_;have e:DZ P C ops K=DZ P C ops K:=rfl;revert h;have:∀ (l:List Oper) (s:St),BJ av C.nt ops (DZ P C ops K) l s->BJ av C.nt ops (λ r s'=>TL P C ops r s' K) l s:=by
  intro l
  induction l with
  | nil=>intro s h;exact TL.nil h
  | cons o r ih=>
   intro s h;have fin:zA (BJ av C.nt ops (DZ P C ops K) r) (gV av C.nt ops s o)->zA (BJ av C.nt ops (λ r s'=>TL P C ops r s' K) r) (gV av C.nt ops s o):=λ h=>by
    cases hs:gV av C.nt ops s o with
    | none=>rw[hs] at h;exact h.elim
    | some s'=>rw[hs] at h;exact ih s' h
   unfold BJ at h |-;split
   .rename_i hc;rw[if_pos hc] at h;split
    .rename_i hg;rw[hg] at h;exact fin h
    .rename_i hg;split at h
     .rename_i Zx;exact absurd Zx hg
     .exact h
   .rename_i hc;rw[if_neg hc] at h;exact fin h
 exact this l s
theorem TH.go' {nt:Nat}{K:St->Prop}{l:List Nat}(h:IY av nt ops (thK P av nt ops K) l s):TH P av nt ops l s K:=by
 refine K9 l s ?_;revert h;have:∀ (l:List Nat) (s:St),IY av nt ops (thK P av nt ops K) l s->IY av nt ops (λ r s'=>TH P av nt ops r s' K) l s:=by
  intro l
  induction l with
  | nil=>intro s h;exact h
  | cons i r ih=>
   intro s h;unfold IY at h |-;split
   .rename_i hi;rw[hi] at h;exact h
   .rename_i o hi;rw[hi] at h;have fin:zA (IY av nt ops (thK P av nt ops K) r) (cW av nt ops s o)->zA (IY av nt ops (λ r s'=>TH P av nt ops r s' K) r) (cW av nt ops s o):=λ h=>by
     cases hs:cW av nt ops s o with
     | none=>rw[hs] at h;exact h.elim
     | some s'=>rw[hs] at h;exact ih s' h
    simp only at h;split
    .rename_i hc;rw[if_pos hc] at h;split
     .rename_i hg;rw[hg] at h;exact fin h
     .rename_i hg;split at h
      .rename_i Zx;exact absurd Zx hg
      .exact h
    .rename_i hc;rw[if_neg hc] at h;exact fin h
 exact this l s
theorem T.go' (ht:aF P av){id:Nat}{l:List Oper}(h:BJ av C.nt l.toArray (DZ P C l.toArray (Q .normal)) l s):T P C (.region id l.toArray false) s Q:=T.region (TL.go' ht h)
theorem T.cut (J:St->Prop)(h:T P C x s (fz (aa C J) Q))(k:∀ s',J s'->T P C y s' Q):T P C (.seq x y) s Q:=
 T.seq (T.post h λ e s' q=>by
  cases e with
  | normal=>obtain⟨UG,hj,hl⟩:=q;exact⟨UG,k UG hj,hl⟩
  | _=>exact⟨s',q,Le.refl _⟩)
end
section
variable {P:Program}{C:Cx}{s:St}
def zM (l:Nat)(J:St->Prop)(Q:Exit->St->Prop):Exit->St->Prop
 | .goto m,s=>m=l/\J s
 | e,s=>Q e s
@[simp] theorem QD (l m:Nat)(J:St->Prop)(Q:Exit->St->Prop)(s:St):zM l J Q (.goto m) s=(m=l/\J s):=rfl
@[simp] theorem NM (l:Nat)(J:St->Prop)(Q:Exit->St->Prop)(s:St):zM l J Q .normal s=Q .normal s:=rfl
@[simp] theorem Sc (l:Nat)(J:St->Prop)(Q:Exit->St->Prop)(s:St):zM l J Q .ret s=Q .ret s:=rfl
@[simp] theorem QE (l m:Nat)(J:St->Prop)(Q:Exit->St->Prop)(s:St):zM l J Q (.exit m) s=Q (.exit m) s:=rfl
theorem T.MV {c rest:Code}{Q:Exit->St->Prop}(l:Nat)(I:Nat->St->Prop)(hf:findLabel c l=some rest)(first:T P C c s (zM l (λ s'=>∃ m,aa C (I m) s') Q))
  (pass:∀ n s,I n s->T P C rest s (zM l (λ s'=>∃ m,m<n/\aa C (I m) s') Q)):T P C (.scope c) s Q:=λ a w hr=>by
 classical
 let J:Nat->Act->World->Prop:=λ n a w=>∃ s,I n s/\Rel C s a w
 have hx:∀ a w,(∃ n,J n a w)->∃ n,J n a w/\∀ m,J m a w->n<=m:=λ a w ⟨n,hn⟩=>by
  induction n using Nat.strongRecOn with
  | _ n ih=>
   by_cases h:∃ m,m<n/\J m a w
   .obtain⟨m,hm,hi⟩:=h;exact ih m hm hi
   .exact⟨n,hn,λ m hm=>Nat.le_of_not_lt λ P1=>h ⟨m,P1,hm⟩⟩
 let μ:Act->World->Nat:=λ a w=>if h:∃ n,J n a w then (hx a w h).choose else 0
 have hμ:∀ a w (h:∃ n,J n a w),J (μ a w) a w/\∀ m,J m a w->μ a w<=m:=λ a w h=>by
  simp only[μ,dif_pos h];exact (hx a w h).choose_spec
 have up:∀ {n s' a' w'},aa C (I n) s'->Rel C s' a' w'->J n a' w':=λ⟨UG,hi,hl⟩ hr=>⟨UG,hi,hl _ _ hr⟩;refine wp_scope_jumps l (λ a w=>∃ n,J n a w) μ hf (wp_mono (first a w hr) λ e a' w' q=>?_) λ a w hJ=>?_
 .obtain⟨s',q,S0⟩:=q
  cases e with
  | goto m=>obtain⟨e,m,hm⟩:=q;exact⟨e,m,up hm S0⟩
  | _=>exact⟨s',q,S0⟩
 .obtain⟨s1,hi,TU⟩:=(hμ a w hJ).1;refine wp_mono (pass (μ a w) s1 hi a w TU) λ e a' w' q=>?_;obtain⟨s',q,S0⟩:=q
  cases e with
  | goto m=>
   obtain⟨e,m,hm,hi⟩:=q;exact⟨e,⟨m,up hi S0⟩,Nat.lt_of_le_of_lt ((hμ a' w' ⟨m,up hi S0⟩).2 m (up hi S0)) hm⟩
  | _=>exact⟨s',q,S0⟩
end
def Lr (C:Cx)(av:List (Nat×TI))(f:Func)(R:CV->St->Prop):Exit->St->Prop
 | .normal,s=>aa C (λ s'=>∃ r,bJ av f s'=some r/\R r s') s
 | .ret,s=>aa C (λ s'=>∃ r,bJ av f s'=some r/\R r s') s
 | _,_=>False
def Body (P:Program)(av:List (Nat×TI))(f:FuncId)(args:List CV)(H:List (Nat×Ob))(n:Nat)(R:CV->St->Prop):Prop:=
 ∃ fn c, P.funcs[f]? = some fn /\ fn.body = some c /\ (fn.name == "runtime.NumGoroutine") = false /\ args.length <= fn.ntmps /\
  ∀ C:Cx,C.nt=fn.ntmps->C.n0=n->T P C c ⟨(enter args).env,H,n⟩ (Lr C av fn R)
theorem Body.iZ {P : Program} {av : List (Nat × TI)} {f : FuncId} {fn : Func} {c : Code} {args : List CV} {H : List (Nat × Ob)} {n : Nat} {R : CV -> St -> Prop} (hf : P.funcs[f]? = some fn) (hb : fn.body = some c) (hn : (fn.name == "runtime.NumGoroutine") = false)
  (ha:args.length<=fn.ntmps) (h:∀ C:Cx,C.nt=fn.ntmps->C.n0=n->T P C c ⟨(enter args).env,H,n⟩ (Lr C av fn R)):Body P av f args H n R:=⟨fn,c,hf,hb,hn,ha,h⟩
section
variable {P:Program}{C:Cx}{U σ':Nat->Option OB}{s s':St}{a a':Act}{w w':World}{ops:Array Oper}{av:List (Nat×TI)}
def Cx.inner (C:Cx)(w:World)(U:Nat->Option OB)(H:List (Nat×Ob))(nt:Nat)(hF:Mu w C.F (λ b=>∃ o ob,assoc H o=some ob/\a6 U o=some b))(n:Nat):Cx:=
 ⟨w,C.F,λ b=>∃ o ob,assoc H o=some ob/\a6 U o=some b,hF,nt,U,n⟩
theorem uF (h:aQ C U s a w){b:Nat}(hb:∃ o ob,assoc s.heap o=some ob/\a6 U o=some b):b<w.heap.size/\¬ C.F b/\(C.own b\/C.w0.heap.size<=b):=by
 obtain⟨o,ob,ho,hb⟩:=hb;obtain⟨B,m1,_,_,_,m5⟩:=h.obj o ob ho;obtain⟨cur,n1,_,n3,n4,_⟩:=m5 b yBw;exact⟨(Array.getElem?_eq_some_iff.1 n1).1,n3,n4⟩
theorem aQ.inner (h:aQ C U s a w)(hF:Mu w C.F (λ b=>∃ o ob,assoc s.heap o=some ob/\a6 U o=some b))(nt:Nat){args:List CV}{vs:List Value}(hv:aZ w (FB C U s.heap) U args vs)(ha:args.length<=nt) :
  aQ (C.inner w U s.heap nt hF s.nx) U ⟨(enter args).env,s.heap,s.nx⟩ { tmps:=vs.toArray++Array.replicate (nt-vs.toArray.size) undef,defers:=[] } w:=by
 have hl:=aZ.length _ _ hv;refine⟨rfl,by simp[Cx.inner];omega,rfl,rfl,rfl,Nat.le_refl _,λ _ _ _=>rfl,?_,?_,h.inj,h.nx,λ _ _=>rfl,Nat.le_refl _,λ o B b ho hB _=>(by rw[h.nx o ho] at hB;cases hB)⟩
 .intro t c hc;obtain⟨_,h2⟩:=fW args 0 t c hc;obtain⟨v,h3,h4⟩:=aZ.get _ _ hv t c yC;refine⟨v,?_,h4⟩;have P1:=(List.getElem?_eq_some_iff.1 h3).1;simp only;rw[Array.getElem?_append_left (by simpa using P1)]
  simpa using h3
 .intro o ob ho;obtain⟨B,m1,m2,m3,m4,m5⟩:=h.obj o ob ho;refine⟨B,m1,m2,m3,m4,λ b hb=>?_⟩;obtain⟨cur,n1,n2,n3,n4,n5,n6⟩:=m5 b hb;exact⟨cur,n1,n2,n3,.inl ⟨o,ob,ho,by simp[a6,m1,hb]⟩,n5,n6⟩
theorem aQ.back (h:aQ C U s a w){hF:Mu w C.F (λ b=>∃ o ob,assoc s.heap o=some ob/\a6 U o=some b)}{nt:Nat}(h':aQ (C.inner w U s.heap nt hF s.nx) σ' s' a' w'):aQ C σ' ⟨s.env,s'.heap,s'.nx⟩ a w':=by
 have SR:∀ b,b<w.heap.size->(¬ ∃ o ob,assoc s.heap o=some ob/\a6 U o=some b)->w'.heap[b]? = w.heap[b]?:=λ b hb hn=>h'.frame b hb hn;have Vd:∀ o ob b,assoc s'.heap o=some ob->a6 σ' o=some b->(∃ o ob,assoc s.heap o=some ob/\a6 U o=some b)\/w.heap.size<=b:=λ o ob b ho hb=>by
  obtain⟨B,m1,_,_,_,m5⟩:=h'.obj o ob ho;obtain⟨cur,_,_,_,n4,_⟩:=m5 b yBw;exact n4
 refine⟨h.pB,h.tm,h'.os.trans h.os,h'.tape.trans h.tape,h'.output.trans h.output,Nat.le_trans h.size h'.size,?_,?_,?_,h'.inj,h'.nx,λ o ho=>(h'.gH o (Nat.lt_of_lt_of_le ho h.low)).trans (h.gH o ho),Nat.le_trans h.low h'.low,λ o B b ho hB hb=>?_⟩
 .intro b hb Ty;rw[SR b (Nat.lt_of_lt_of_le hb h.size) λ hx=>?_]
  .exact h.frame b hb Ty
  .rcases (uF h hx).2.2 with h1 | h1
   .exact Ty h1
   .omega
 .intro t c hc;obtain⟨v,k1,k2⟩:=h.env t c hc;refine⟨v,k1,VR.bD ⟨λ ad u hf hu=>?_,λ r _ hf hu _=>?_⟩ _ _ (λ o ho=>?_) k2⟩
  case refine_3=>
   refine h'.gH o (Nat.lt_of_not_le λ hle=>?_);obtain⟨B,hB⟩:=VR.refs _ _ o k2 ho;rw[h.nx o hle] at hB;cases hB
  .have P1:=World.block_lt_of_cell? w ad hu;have Ty:¬ ∃ o ob,assoc s.heap o=some ob/\a6 U o=some ad.block:=λ hx=>hf (.inr hx);refine⟨by rw[World.cell?_of_block (w:=w) (SR ad.block P1 Ty)];exact hu,?_⟩;rintro (hx | ⟨o,ob,ho,hb⟩)
   .exact hf (.inl hx)
   .rcases Vd o ob _ ho hb with h1 | h1
    .exact Ty h1
    .omega
  .have P1:=(Array.getElem?_eq_some_iff.1 hu).1;have Ty:¬ ∃ o ob,assoc s.heap o=some ob/\a6 U o=some r:=λ hx=>hf (.inr hx);refine⟨by rw[SR r P1 Ty];exact hu,?_⟩;rintro (hx | ⟨o,ob,ho,hb⟩)
   .exact hf (.inl hx)
   .rcases Vd o ob _ ho hb with h1 | h1
    .exact Ty h1
    .omega
 .intro o ob ho;obtain⟨B,m1,m2,m3,m4,m5⟩:=h'.obj o ob ho;refine⟨B,m1,m2,m3,m4,λ b hb=>?_⟩;obtain⟨cur,n1,n2,n3,n4,n5,n6⟩:=m5 b hb;refine⟨cur,n1,n2,n3,?_,n5,n6⟩;rcases n4 with n4 | n4
  .exact (uF h n4).2.2
  .exact .inr (Nat.le_trans h.size n4)
 .rcases Nat.lt_or_ge o s.nx with P1 | WD
  .rw[h'.gH o P1] at hB;exact h.new o B b ho hB hb
  .rcases h'.new o B b WD hB hb with n4 | n4
   .exact (uF h n4).2.2
   .exact .inr (Nat.le_trans h.size n4)
end
section
variable {P:Program}{C:Cx}{U:Nat->Option OB}{s:St}{a:Act}{w:World}{ops:Array Oper}{av:List (Nat×TI)}
theorem TL.exec {o:Oper}{l:List Oper}{K:St->Prop}(_hd:bj C.nt o.dst=true)(hg:ca ops s o=some true)(S:St->Prop)
  (hx:∀ a w,Rel C s a w->∃ z w' s',(execOp a.eval o).run P w=.ok (.value z) w'/\S s'/\Rel C s' (a.put o.dst z) w') (h:∀ s',S s'->TL P C ops l s' K):TL P C ops (o::l) s K:=by
 intro a w Q hr hQ;have hw:Region.wanted o (yielded ops a.tmps)=true:=by
  unfold ca at hg;split at hg
  .rename_i e;simp[Region.wanted,e]
  .rename_i j want e;split at hg
   .cases hg
   rename_i t hj;exact kN hr e hj hg
 obtain⟨z,w',s',k1,k2,k3⟩:=hx a w hr;unfold wpList;rw[if_pos hw];refine .inl ?_;unfold Oper.wp;rw[k1];exact h s' k2 _ _ Q k3 hQ
theorem TL.some (ht:aF P av){K:St->Prop}:∀ (k:Nat) {l:List Oper} {s:St},zA (λ s'=>TL P C ops (l.drop k) s' K) (zf av C.nt ops (l.take k) s)->TL P C ops l s K
 | 0,_,_,h=>h
 | k+1,[],_,h=>h
 | k+1,o::l,s,h=>by
  rw[take_succ_cons,wX] at h
  cases hs:gV av C.nt ops s o with
  | none=>rw[hs] at h;exact h.elim
  | some s'=>
   rw[hs] at h;exact TL.step ht hs (TL.some ht k h)
def St.cut (s:St)(o:Nat)(ob:Ob)(k:Nat):St:={ s with heap:=vc s.heap o { ob with cells:=ob.cells.take k } }
theorem Le.cut {s:St}{o:Nat}{ob:Ob}(k:Nat)(ho:assoc s.heap o=some ob):Le C s (s.cut o ob k):=by
 intro a w ⟨U,h⟩;have Yg:∀ {p y},assoc (vc s.heap o { ob with cells:=ob.cells.take k }) p=some y->(p=o/\y={ ob with cells:=ob.cells.take k })\/(p≠o/\assoc s.heap p=some y):=λ {p y} hp=>by
  rw[fX] at hp;split at hp
  .rename_i e;subst e;rw[ho] at hp;cases hp;exact .inl ⟨rfl,rfl⟩
  .rename_i e;exact .inr ⟨Ne.symm e,hp⟩
 have hex:∀ {p y},assoc (vc s.heap o { ob with cells:=ob.cells.take k }) p=some y->∃ z,assoc s.heap p=some z:=λ {p y} hp=>by
  rcases Yg hp with ⟨rfl,_⟩ | ⟨_,hp⟩
  .exact⟨_,ho⟩
  .exact⟨_,hp⟩
 refine⟨U,h.pB,h.tm,h.os,h.tape,h.output,h.size,h.frame,?_,?_,?_,h.nx,h.gH,h.low,h.new⟩
 .intro t c hc;simp only[St.cut,rP];exact h.env t c hc
 .intro p x hp;simp only[St.cut] at hp |-;rcases Yg hp with ⟨rfl,rfl⟩ | ⟨_,W4⟩
  .obtain⟨B,m1,m2,m3,m4,m5⟩:=h.obj p ob ho;refine⟨B,m1,m2,λ hn=>by simp[m3 hn],?_,λ b hb=>?_⟩
   .rw[all_eq_true] at m4 |-;exact λ x hx=>m4 x (mem_of_mem_take hx)
   .obtain⟨cur,n1,n2,n3,n4,n5,n6⟩:=m5 b hb;refine⟨cur,n1,n2,n3,n4,by simp only[length_take];omega,?_⟩;simp only[rP];have:=aZ.take k _ _ n6;rw[take_take] at this
    simpa only[length_take] using this
  .obtain⟨B,m1,m2,m3,m4,m5⟩:=h.obj p x W4;refine⟨B,m1,m2,m3,m4,λ b hb=>?_⟩;obtain⟨cur,n1,n2,n3,n4,n5,n6⟩:=m5 b hb;exact⟨cur,n1,n2,n3,n4,n5,by simp only[rP];exact n6⟩
 .intro p q x y b hp hq WU Xs;obtain⟨z1,Wh⟩:=hex hp;obtain⟨z2,T1⟩:=hex hq;exact h.inj p q z1 z2 b Wh T1 WU Xs
end
end Go.Can
/- append of made zeros onto an own slice. No function of the program is mentioned here. -/
namespace Go.Can
open Go.RowKit List
section
variable {P:Program}{C:Cx}{U:Nat->Option OB}{s:St}{a:Act}{w:World}{ops:Array Oper}{av:List (Nat×TI)}
theorem Jc {m:Nat}(h:m<=9223372036854775807):IntKind.i64.wrap (m:Int)=m:=by
 simp[IntKind.wrap,IntKind.signed,IntKind.bits];omega
theorem uy (t it ty e:TypeId)(i:TypeInfo)(z:Value)(size bytes:Nat)(ht:P.underlying t=some (.slice e))(SW:P.underlying it=some (.int .i64))(hi:P.info? e=some i)(hz:i.zero=some z)
  (Yn:i.size=size) (YN:i.bytes=bytes) (Zg:z.cells.size=size) (SB:0<size) (v:Value) (n:Nat) (xs:List Value) (SR:w.ownsRow 0 e size v n xs) (m:Nat) (hm:0<m)
  (h63:n+m<=maxLen) (V1:(n+m)*bytes<=140737488355328) (hb0:0<bytes) (h1:∀ u∈(Builtin.zeroCells z.cells m).toList,u.oneCell'=true) :
  ∃ v' w',(Builtin.append_ #[t,it] ty #[v,.int .i64 m]).run P w=.ok v' w'/\w'.ownsRow 0 e size v' (n+m) (xs++(Builtin.zeroCells z.cells m).toList)/\w.grownBy w' v.ownBlock/\(v'.ownBlock=v.ownBlock\/v'.ownBlock=some w.heap.size):=by
 subst Yn;subst YN;have hsmall:n+m<=9223372036854775807:=by simp only[maxLen] at h63;omega
 have hwm:IntKind.i64.wrap (m:Int)=m:=Jc yA;have hmz:¬ ((m:Int)<0):=by omega
 have TP:m*i.size≠0:=Nat.ne_of_gt (Nat.mul_pos hm SB);have V6:m≠0:=by omega
 have Zl:i.size≠0:=by omega
 have VS:¬ ((281474976710656:Int)<(m:Int)*(i.bytes:Int)):=by
  have h2:m*i.bytes<=(n+m)*i.bytes:=Nat.mul_le_mul_right _ yA;have h3:((m*i.bytes:Nat):Int)=(m:Int)*(i.bytes:Int):=by simp
  omega
 have Ul:(Builtin.zeroCells z.cells m).toList.length=m*i.size:=by simp[size_zeroCells,Zg]
 have hlen:(xs++(Builtin.zeroCells z.cells m).toList).length=(n+m)*i.size:=by rw[length_append,SR.1,Ul,Nat.add_mul]
 have grown:∀ (gH:Nat),gH<n+m->∀ (row:Option Nat),
   (w.drew.alloc (.cells (xs.toArray++Builtin.zeroCells z.cells m++Builtin.zeroCells z.cells (grownCap w (n+m) gH e-(n+m))) e)).ownsRow 0 e i.size
    (.slice (some ⟨w.heap.size,0,none⟩) (n+m) (grownCap w (n+m) gH e)) (n+m) (xs++(Builtin.zeroCells z.cells m).toList)/\
   w.grownBy (w.drew.alloc (.cells (xs.toArray++Builtin.zeroCells z.cells m++Builtin.zeroCells z.cells (grownCap w (n+m) gH e-(n+m))) e)) row:=by
  intro gH _ row;have WD:=grownCap_ge w (n+m) gH e;have Y4:grownCap w (n+m) gH e<=maxLen:=grownCap_le_maxLen w (n+m) gH e h63;refine⟨⟨hlen,.inr ⟨w.heap.size,_,_,rfl,Nat.zero_le _,heap_alloc_new w.drew _,WD,Y4,?_,?_⟩⟩,⟨rfl,rfl,rfl,by simp,λ k hk _=>heap_alloc_old w.drew _ k hk⟩⟩
  .simp only[Array.size_append,size_toArray,size_zeroCells,Zg,SR.1,<- Nat.add_mul];congr 1;omega
  .simp only[Array.toList_append,append_assoc];rw[<- append_assoc,<- hlen];exact take_left
 rcases SR.2 with ⟨rfl,rfl⟩ | ⟨g,cap,cur,rfl,hbg,hg,hnc,Y4,S8,Xk⟩
 .have hx:xs=[]:=eq_nil_of_length_eq_zero (by simpa using SR.1);subst hx;have h48:¬ (281474976710656<Builtin.nextslicecap m 0*i.bytes):=by
   rw[nextslicecap_zero hm];have:=V1;simp only[Nat.zero_add] at this;omega
  have h63':¬ (9223372036854775807<(m:Int)):=by omega
  have hr:(Builtin.append_ #[t,it] ty #[.slice none 0 0,.int .i64 m]).run P w=.ok (.slice (some ⟨w.heap.size,0,none⟩) m (grownCap w m 0 e))
    (w.drew.alloc (.cells (Builtin.zeroCells z.cells m++Builtin.zeroCells z.cells (grownCap w m 0 e-m)) e)):=by
   simp[Builtin.append_,run_underlying ht,run_underlying SW,sizeOf,typeInfo,zeroValue,hi,hz,asInt,asIntOf,hwm,hmz,VS,V6,h48,h63',Question.forced,run_firstCells_none,newRow,grownCap];exact λ h=>absurd h TP
  have hgr:=grown 0 yA (Value.ownBlock (.slice none 0 0));simp only[Nat.zero_add] at hgr |-;have ea:([]:List Value).toArray++Builtin.zeroCells z.cells m=Builtin.zeroCells z.cells m:=by simp
  rw[ea] at hgr;exact⟨_,_,hr,hgr.1,hgr.2,.inr rfl⟩
 .by_cases Xl:n+m<=cap
  .have hfit:n*i.size+(Builtin.zeroCells z.cells m).toList.length<=cur.size:=by rw[Ul,S8,<- Nat.add_mul];exact Nat.mul_le_mul_right _ Xl
   have Sz:=run_storeCells_at P g (n*i.size) e (Builtin.zeroCells z.cells m).toList 0 cur w hg (by simpa using hfit) h1;simp only[Nat.add_zero] at Sz;have hr:(Builtin.append_ #[t,it] ty #[.slice (some ⟨g,0,none⟩) n cap,.int .i64 m]).run P w =
     .ok (.slice (some ⟨g,0,none⟩) (n+m) cap) (w.setRow g (cur.toList.take (n*i.size)++(Builtin.zeroCells z.cells m).toList++cur.toList.drop (n*i.size+(Builtin.zeroCells z.cells m).toList.length)).toArray):=by
    simp[Builtin.append_,run_underlying ht,run_underlying SW,sizeOf,typeInfo,zeroValue,hi,hz,asInt,asIntOf,hwm,hmz,VS,Xl,Addr.add_lit,Sz];exact λ h=>absurd h TP
   refine⟨_,_,hr,⟨hlen,.inr ⟨g,cap,_,rfl,hbg,setRow_heap w g cur _ e _ hg,Xl,Y4,?_,?_⟩⟩,⟨rfl,rfl,rfl,by simp,λ k _ hk=>setRow_other w g k _ (λ e=>hk (by simp[Value.ownBlock,e]))⟩,Or.inl rfl⟩
   .simp only[size_toArray,length_append,length_take,length_drop,Array.length_toList];simp only[Array.length_toList] at hfit;omega
   .rw[Xk,<- hlen];exact take_left
  .have holds:∀ j u,xs[j]? = some u->w.cell? ((⟨g,0,none⟩:Addr).add j)=some u:=SR.cells (g:=g) rfl;have hfo:=run_firstCells_some (P:=P) w.drew i.size n ⟨g,0,none⟩ n cap xs SR.1 (by simpa using holds);have h48:¬ (281474976710656<Builtin.nextslicecap (n+m) cap*i.bytes):=by
    have:=growslice_fits (show cap<n+m by omega) V1;omega
   have h63':¬ (9223372036854775807<((n:Int)+(m:Int))):=by omega
   have hr:(Builtin.append_ #[t,it] ty #[.slice (some ⟨g,0,none⟩) n cap,.int .i64 m]).run P w=.ok (.slice (some ⟨w.heap.size,0,none⟩) (n+m) (grownCap w (n+m) cap e))
     (w.drew.alloc (.cells (xs.toArray++Builtin.zeroCells z.cells m++Builtin.zeroCells z.cells (grownCap w (n+m) cap e-(n+m))) e)):=by
    simp[Builtin.append_,run_underlying ht,run_underlying SW,sizeOf,typeInfo,zeroValue,hi,hz,asInt,asIntOf,hwm,hmz,VS,Xl,h48,h63',Question.forced,hfo,newRow,grownCap];exact λ h=>absurd h TP
   have hgr:=grown cap yA (Value.ownBlock (.slice (some ⟨g,0,none⟩) n cap));exact⟨_,_,hr,hgr.1,hgr.2,Or.inr rfl⟩
def AppZ (s:St)(d:Option Tmp)(o n m:Nat)(ob:Ob)(zs:List CV):St:=
 St.put { env:=s.env,heap:=(s.nx,{ ob with cells:=ob.cells++aY zs m })::kC s.heap o,nx:=s.nx+1 } d (.a7 s.nx 0 (n+m))
def AppZS (s:St)(d:Option Tmp)(o n m:Nat)(ob:Ob)(zs:List CV)(s':St):Prop:=s'=AppZ s d o n m ob zs
theorem Oy (ht:aF P av){o:Oper}{cl:Call}{t it e:TypeId}{x y:Operand}{p n m:Nat}{ob:Ob}{ie ii:TI}{zs:List CV}(hd:bj C.nt o.dst=true)(ho:o.op=.call cl)(SA:cl.callee=.builtin .append)(Sx:cl.args=#[x,y])(TS:cl.argTypes=#[t,it])
  (h1:dO av t=some (.sl e)) (h2:assoc av e=some ie) (Tf:assoc av it=some ii) (TQ:ii.d=.int .i64) (h3:ev s x=some (.a7 p 0 n)) (h4:ev s y=some (.int .i64 m)) (h6:assoc s.heap p=some ob)
  (b1:0<ie.size) (b2:0<ie.bytes) (b4:ob.elem=e) (b5:ob.sz=ie.size) (b6:n*ie.size=ob.cells.length) (b7:(n+m)*ie.bytes<=140737488355328) (b8:0<m) (b11:ie.zero=zs) :
  ∀ a w,Rel C s a w->∃ z w' s',(execOp a.eval o).run P w=.ok (.value z) w'/\AppZS s o.dst p n m ob zs s'/\Rel C s' (a.put o.dst z) w':=by
 rintro a w ⟨U,h⟩;subst b4;subst b11;have Td:∀ t,o.dst=some t->t<a.tmps.size:=λ t e=>by
  rw[h.tm];rw[e] at hd
  simpa [bj] using hd
 obtain⟨itt,SW,Tz⟩:=Option.map_eq_some_iff.1 h1;obtain⟨f,z,g1,g2,g3,g4,g5⟩:=(ht ob.elem ie h2).info;obtain⟨k1,k2⟩:=dr (w:=w) (F:=FB C U s.heap) _ _ g5;have hzl:z.cells.size=ie.zero.length:=by simpa using bX.length _ _ k1
 have Zg:z.cells.size=ie.size:=by rw[hzl,(ht ob.elem ie h2).len]
 have hu:=dK (ht t itt SW) Tz;have U9:P.underlying it=some (.int .i64):=by
  obtain⟨d,q1,q2⟩:=(ht it ii Tf).BF;rw[TQ] at q2;cases d<;>simp only[vH] at q2<;>first | cases q2 | skip
  exact q1
 have hx:=bH h h3;have hy:=bH h h4;simp only[VR] at hx hy;have T9:∀ {v' w'},(Builtin.append_ #[t,it] o.type #[a.eval x,a.eval y]).run P w=.ok v' w'->(execOp a.eval o).run P w=.ok (.value v') w':=λ {v' w'} hr=>by
  simp[execOp,ho,resolve,SA,Sx,TS,invoke,builtin,hr]
 have hm:n+m<=maxLen:=by
  have:n+m<=(n+m)*ie.bytes:=Nat.le_mul_of_pos_right _ b2;simp only[maxLen];omega
 have hzz:Builtin.zeroCells z.cells m=madeCells z.cells (m*z.cells.size):=rfl;have Wh:aZ w (FB C U s.heap) U (aY ie.zero m) (Builtin.zeroCells z.cells m).toList:=by
  rw[hzz];exact mM (aZ.cJ _ _ k1) m
 have T1:=kM k2 m;have uo:=aZ.jB _ _ T1 Wh;have ul:=aZ.length _ _ Wh;obtain⟨B,hB,hx⟩:=hx;obtain⟨B0,e1,e2,e3,e4,e5⟩:=h.obj p ob h6;rw[hB] at e1;cases e1;have SR:∃ xs,w.ownsRow 0 ob.elem ie.size (a.eval x) n xs/\aZ w (FB C U s.heap) U ob.cells xs/\(a.eval x).ownBlock=B.kW:=by
  split at hx
  .rename_i hn;obtain⟨e,_,rfl⟩:=hx;rw[e,e3 hn,hn];exact⟨[],World.ownsRow_nil w 0 _ _,by simp[aZ],rfl⟩
  .rename_i b WV;obtain⟨cap,e,c1,c2,c3,c4⟩:=hx;obtain⟨cur,n1,n2,n3,n4,n5,n6⟩:=e5 b WV;rw[e,WV];have U6:=c4 trivial;refine⟨cur.toList.take ob.cells.length,⟨?_,.inr ⟨b,cap,cur,rfl,Nat.zero_le _,n1,c1,c2,?_,by rw[b6]⟩⟩,n6,rfl⟩
   .rw[length_take,b6];simp;omega
   .rw[n2,<- U6,e2,b5]
 obtain⟨xs,x1,x2,x3⟩:=SR;have xl:=aZ.length _ _ x2;obtain⟨v',w',r1,r2,r3,r4⟩:=uy (P:=P) t it o.type ob.elem f z ie.size ie.bytes hu U9 g1 g4 g2 g3 Zg b1 _ n xs x1 m b8 hm b7 b2 uo;rw[x3] at r3 r4;rw[<- hy] at r1;obtain⟨B',b1',b2',b3',b4'⟩:=pf r2;have Up:=h.grow (B':=B') h6 hB r3 (by rw[b1',b5]) (Uh:=ob.cells++aY ie.zero m) (λ g hg=>by
   rw[b2'] at hg;rcases r4 with r4 | r4<;>rw[r4] at hg
   .exact .inl hg
   .exact .inr (by simpa using hg.symm)) (by rw[all_append,e4,T1];rfl) (λ hn=>by
   have:=(b3' hn).2.2;obtain⟨y1,y2⟩:=append_eq_nil_iff.1 this;rw[y1] at xl;rw[y2] at ul;rw[eq_nil_of_length_eq_zero xl.symm,eq_nil_of_length_eq_zero ul.symm];rfl) λ b SS=>by
   obtain⟨cap,cur,e1,e2,e3,e4,e5,e6,e7⟩:=b4' b SS;have hlen:(ob.cells++aY ie.zero m).length=(xs++(Builtin.zeroCells z.cells m).toList).length:=by rw[length_append,length_append,xl,ul]
   refine⟨cur,e2,e5,?_,?_⟩
   .rw[e5,<- e6,length_append,<- b6,fV,(ht ob.elem ie h2).len,<- Nat.add_mul];exact Nat.mul_le_mul_right _ e3
   .rw[hlen,e7];exact aZ.append _ _ _ _ x2 Wh
 refine⟨v',w',_,T9 r1,rfl,_,Up.put Td ?_⟩;simp only[VR];refine⟨B',dP,?_⟩;split
 .rename_i hn;obtain⟨e1,e2,_⟩:=b3' hn;exact⟨e1,trivial,e2⟩
 .rename_i b SS;obtain⟨cap,cur,e1,e2,e3,e4,e5,e6,e7⟩:=b4' b SS;refine⟨cap,e1,e3,e4,?_,λ _=>?_⟩<;>rw[b1']<;>omega
end
end Go.Can
/- A region that draws, all its orders explored: after the moves and places ahead, each operation that is ready may come next. No function of the program is mentioned here. -/
namespace Go.Can
open Go.RowKit
section
variable {P:Program}{C:Cx}{s:St}{a:Act}{w:World}{ops:Array Oper}{av:List (Nat×TI)}
def Fi (Kw:Act->World->Prop)(Q':Exit->Act->World->Prop):Exit->Act->World->Prop
 | .normal=>Kw
 | e=>Q' e
theorem BN {o:Oper}{Kw:Act->World->Prop}{Q':Exit->Act->World->Prop}(h:o.wp P a w Kw (Fi Kw Q')):o.wp P a w Kw Q':=by
 unfold Oper.wp at *;generalize (execOp a.eval o).run P w=r at *
 cases r with
 | ok n w'=>
  cases n<;>simp only[Oper.upon] at h |-<;>
   first
    | exact h
    | exact Calls.mono h (λ e w'' he=>by cases e<;>exact he)
    | exact Rows.mono h (λ _ _ he=>he)
 | halt x w'=>cases x<;>simp only[Oper.upon] at h |-<;>exact h
theorem Af {i:Nat}{o:Oper}{Kw:Act->World->Prop}{Q':Exit->Act->World->Prop}(ho:ops[i]? = some o)(h:wpList P ops (Fi Kw Q') [o] a w):wpOp P ops Q' i Kw a w:=by
 unfold wpOp;simp only[ho];unfold wpList at h;have e:(wpList P ops (Fi Kw Q') []:Act->World->Prop)=Kw:=rfl;rw[e] at h;split
 .rename_i hw;rw[if_pos hw] at h;exact h.imp BN λ⟨h1,h2⟩=>⟨h1,h2⟩
 .rename_i hw;rw[if_neg hw] at h;exact h
def TX (P:Program)(C:Cx)(ops:Array Oper)(K:St->Prop):Nat->Array Bool->St->Prop
 | 0,listed,s=>Region.ready .any ops listed=[]/\K s
 | f+1,listed,s=>(Region.ready .any ops listed=[]->K s)/\∀ i∈Region.ready .any ops listed,∃ o,ops[i]? = some o/\TL P C ops [o] s λ s'=>TX P C ops K f (listed.setIfInBounds i true) s'
theorem Py {K:St->Prop}{Q':Exit->Act->World->Prop}(hK:∀ s a w,K s->Rel C s a w->Q' .normal a w):∀ (f:Nat) (listed:Array Bool) (s:St) (a:Act) (w:World),TX P C ops K f listed s->Rel C s a w->wpAny P .any ops Q' f listed a w
 | 0,_,s,a,w,h,hr=>⟨h.1,hK s a w h.2 hr⟩
 | f+1,listed,s,a,w,h,hr=>by
  refine⟨λ he=>hK s a w (h.1 he) hr,λ i hi=>?_⟩;obtain⟨o,ho,ht⟩:=h.2 i hi;exact Af ho (ht a w _ hr λ s' a' w' Wn S0=>Py hK f _ s' a' w' Wn S0)
theorem TX.go {K:St->Prop}{f:Nat}{listed:Array Bool}(r:Nat)(rs:List Nat)(hr:Region.ready .any ops listed=r::rs)(h:∀ i∈r::rs,∃ o,ops[i]? = some o/\TL P C ops [o] s λ s'=>TX P C ops K f (listed.setIfInBounds i true) s'):TX P C ops K (f+1) listed s:=
 ⟨λ he=>(by rw[hr] at he;cases he),λ i hi=>h i (by rw[hr] at hi;exact hi)⟩
theorem TX.end {K:St->Prop}{f:Nat}{listed:Array Bool}(hr:Region.ready .any ops listed=[])(h:K s):TX P C ops K f listed s:=by
 cases f with
 | zero=>exact⟨hr,h⟩
 | succ f=>exact⟨λ _=>h,λ i hi=>(by rw[hr] at hi;cases hi)⟩
theorem T.explore (ht:aF P av)(hm:P.follows .mixedOrders=true){id:Nat}{l:List Oper}{Q:Exit->St->Prop}(pre:List Nat)(hs:Region.noSelect l.toArray=true)(hp:Nc l.toArray pre (Array.replicate l.toArray.size false)=true)(hl:pre.length<=l.toArray.size)
  (h:TH P av C.nt l.toArray pre s λ s'=>TX P C l.toArray (Q .normal) (l.toArray.size-pre.length) (AV pre (Array.replicate l.toArray.size false)) s'):T P C (.region id l.toArray true) s Q:=by
 intro a w hr;refine wp_mono (Q:=λ e a' w'=>e=.normal/\∃ s',Q .normal s'/\Rel C s' a' w') (wp_region_any hm ?_) (λ e a' w' ⟨he,s',k1,k2⟩=>by subst he;exact⟨s',k1,k2⟩);have:=Gb (P:=P) (av:=av) (C:=C) (Q':=λ e a' w'=>e=.normal/\∃ s',Q .normal s'/\Rel C s' a' w') ht hs (λ c a w h=>by cases h.1) (g:=l.toArray.size-pre.length) pre (Array.replicate l.toArray.size false) s a { w with drawn:=w.drawn+1 } hp hr.drew h
  (λ s' a' Wn S0=>Py (λ UG a w hk hr=>⟨rfl,UG,hk,hr⟩) _ _ s' a' _ Wn S0)
 rwa [show pre.length+(l.toArray.size-pre.length)=l.toArray.size by omega] at this
end
section
variable {P:Program}{C:Cx}{s:St}{a:Act}{w:World}{ops:Array Oper}{av:List (Nat×TI)}{nt:Nat}
def DK (av:List (Nat×TI))(s:St):Op->Option (Ob×(Nat->CV))
 | .box e x=>match ev s x with
  | some c=>if eI c then none else some (⟨e,0,c.cells⟩,λ m=>.ax m 0)
  | none=>none
 | .buildSlice t len parts=>match dO av t with
  | some (.sl e)=>match assoc av e,jd s parts.toList with
   | some ie,some cs=>if len*ie.size<=16777216/\len<=16777216 then (oG (λ i=>some (i*ie.size,ie.size)) (aY ie.zero len) cs).map λ out=>(⟨e,ie.size,out⟩,λ m=>.a7 m 0 len) else none
   | _,_=>none
  | _=>none
 | _=>none
theorem FC {s':St}(op:Op)(h:∀ x∈op.operands,ev s x=ev s' x):DK av s op=DK av s' op:=by
 cases op<;>first | rfl | skip
 case box e x=>simp only[DK];rw[h x US]
 case buildSlice t len parts=>
  simp only[DK];rw[kD parts.toList λ x hx=>h x.2 yEa]
end
end Go.Can
/- Steps of explored draws, for walks. No function of the program is mentioned here. -/
namespace Go.Can
open Go.RowKit List
section
variable {P:Program}{C:Cx}{s:St}{ops:Array Oper}{av:List (Nat×TI)}{nt:Nat}{K:St->Prop}{f:Nat}{listed:Array Bool}
theorem TX.one {i:Nat}{o:Oper}(hr:Region.ready .any ops listed=[i])(ho:ops[i]? = some o)(h:TL P C ops [o] s λ s'=>TX P C ops K f (listed.setIfInBounds i true) s'):TX P C ops K (f+1) listed s:=
 TX.go i [] hr λ k hk=>by
  simp only[mem_singleton] at hk;subst hk;exact⟨o,ho,h⟩
theorem TX.two {i j:Nat}{o o':Oper}(hr:Region.ready .any ops listed=[i,j])(ho:ops[i]? = some o)(Tc:ops[j]? = some o')(h:TL P C ops [o] s λ s'=>TX P C ops K f (listed.setIfInBounds i true) s')(h':TL P C ops [o'] s λ s'=>TX P C ops K f (listed.setIfInBounds j true) s'):TX P C ops K (f+1) listed s:=
 TX.go i [j] hr λ k hk=>by
  simp only[mem_cons,not_mem_nil,or_false] at hk;rcases hk with rfl | rfl
  .exact⟨o,ho,h⟩
  .exact⟨o',Tc,h'⟩
end
section
variable {av:List (Nat×TI)}{s s':St}
def names (o:Nat):CV->Bool
 | .a7 p _ _=>p == o
 | .ax p _=>p == o
 | _=>false
theorem EZ {c:CV}{cs:List CV}(h:iA s c=some cs)(hh:∀ o ob,names o c=true->assoc s.heap o=some ob->assoc s'.heap o=some ob):iA s' c=some cs:=by
 cases c<;>simp only[iA] at h |-<;>first | exact h | skip
 rename_i o off
 cases ho:assoc s.heap o with
 | none=>rw[ho] at h;cases h
 | some y=>rw[hh o y (by simp[names]) ho];rw[ho] at h;exact h
theorem Dt {t:TypeId}{c r:CV}{lo hi:Option Operand}(h1:∀ y,lo=some y->ev s y=ev s' y)(h2:∀ y,hi=some y->ev s y=ev s' y)(h:mG av s t c lo hi=some r)(hh:∀ o ob,names o c=true->assoc s.heap o=some ob->assoc s'.heap o=some ob):mG av s' t c lo hi=some r:=by
 cases c<;>simp only[mG,kI h1,kI h2] at h |-<;>first | exact h | skip
 case a7 o off n=>
  cases ho:assoc s.heap o with
  | some y=>rw[hh o y (by simp[names]) ho];rw[ho] at h;exact h
  | none=>
   rw[ho] at h;exfalso;split at h
   .split at h
    .rename_i e;cases e
    .cases h
   .cases h
 case ax o f=>
  cases ho:assoc s.heap o with
  | some y=>rw[hh o y (by simp[names]) ho];rw[ho] at h;exact h
  | none=>
   rw[ho] at h;exfalso;split at h
   .split at h
    .rename_i e;cases e
    .cases h
   .cases h
theorem Bg (H:List (Nat×Ob))(x:Operand):ev { s with heap:=H } x=ev s x:=by cases x<;>rfl
theorem xY (H:List (Nat×Ob))(xs:List Operand):BK { s with heap:=H } xs=BK s xs:=kU xs λ x _=>Bg H x
theorem Dx (H:List (Nat×Ob))(xs:List (Nat×Operand)):jd { s with heap:=H } xs=jd s xs:=kD xs λ x _=>Bg H x.2
theorem yY (H:List (Nat×Ob))(b:Builtin)(xs:List Operand)(ts:List TypeId):je av { s with heap:=H } b xs ts=je av s b xs ts:=by
 unfold je;split
 .split
  .rw[Bg]
  .rfl
 .rw[xY]
 .rw[xY]
 .rfl
theorem vi (op:Op)(h:∀ x∈op.operands,ev s x=ev s' x)(n1:∀ t x,op≠.load t x)(n2:∀ t x lo hi mx,op≠.slice t x lo hi mx):fD av s op=fD av s' op:=by
 have k:=EF (av:=av) (s:=s) (s':={ s' with heap:=s.heap }) rfl op (λ x hx=>by rw[h x hx];cases x<;>rfl);rw[k];cases op<;>first | rfl | skip
 all_goals first | exact absurd rfl (n1 _ _) | exact absurd rfl (n2 _ _ _ _ _) | skip
 case makeFunc f first cap=>
  cases f<;>first | rfl | skip
  simp only[fD,xY]
 all_goals
  simp only[fD,uW,Dx,yY]
theorem HO {op:Op}(h:∀ x∈op.operands,ev s x=ev s' x){c:CV}(hq:fD av s op=some c)(hh:∀ x∈op.operands,∀ v,ev s x=some v->∀ o ob,names o v=true->assoc s.heap o=some ob->assoc s'.heap o=some ob):fD av s' op=some c:=by
 cases op
 case load t x=>
  have hx:=h x US;have hk:=hh x US;simp only[fD] at hq |-;rw[<- hx]
  cases hv:ev s x with
  | none=>rw[hv] at hq;simp at hq
  | some d=>
   rw[hv] at hq
   cases ht:assoc av t with
   | none=>rw[ht] at hq;simp at hq
   | some ii=>
    rw[ht] at hq;simp only at hq |-
    cases hy:iA s d with
    | none=>rw[hy] at hq;cases hq
    | some cs=>rw[EZ hy (hk d hv)];rw[hy] at hq;exact hq
 case slice t x lo hi mx=>
  cases mx with
  | some _=>exact hq
  | none=>
   have hx:=h x US;have hk:=hh x US;have h1:∀ y,lo=some y->ev s y=ev s' y:=λ y e=>h y (by subst e;simp[Op.operands]);have h2:∀ y,hi=some y->ev s y=ev s' y:=λ y e=>h y (by subst e;simp[Op.operands]);simp only[fD] at hq |-;rw[<- hx]
   cases hv:ev s x with
   | none=>rw[hv] at hq;simp at hq
   | some d=>rw[hv] at hq;exact Dt h1 h2 hq (hk d hv)
 all_goals exact (vi _ h (λ _ _ e=>by cases e) (λ _ _ _ _ _ e=>by cases e)).symm.trans hq
end
end Go.Can
/- A region that draws, its readings hoisted past new objects and past stores into other objects. No function of the program is mentioned here. -/
/- The exploration of a draw with readings hoisted past new objects and stores elsewhere. No function of the program is mentioned here. -/
