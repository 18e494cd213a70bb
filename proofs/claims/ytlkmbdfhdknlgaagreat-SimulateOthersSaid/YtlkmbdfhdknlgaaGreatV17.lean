/- A contract under other num -/
import Derived.Test.YtlkmbdfhdknlgaaGreatV16
namespace Go.Can
open List
mutual
/-- The objects' numbers turned. -/
def cQ (ρ:Nat->Nat):CV->CV
 | .int k n=>.int k n
 | .bool b=>.bool b
 | .str s=>.str s
 | .agg cs=>.agg (aL ρ cs)
 | .au cs n=>.au cs n
 | .ak=>.ak
 | .de cs=>.de cs
 | .bM=>.bM
 | .fn f cs=>.fn f (aL ρ cs)
 | .cH=>.cH
 | .iface t cs=>.iface t (aL ρ cs)
 | .iter k s p=>.iter (ρ k) s p
 | .mp k es=>.mp (ρ k) es
 | .bY cs=>.bY (aL ρ cs)
 | .bg o f n=>.bg (ρ o) f n
 | .ax o f=>.ax (ρ o) f
 | .any=>.any
def aL (ρ:Nat->Nat):List CV->List CV
 | []=>[]
 | c::cs=>cQ ρ c::aL ρ cs
end
theorem aY (ρ:Nat->Nat):∀ cs:List CV,aL ρ cs=cs.map (cQ ρ)
 | []=>rfl
 | c::cs=>by rw[aL,aY ρ cs,map_cons]
theorem JS (ρ:Nat->Nat)(c:CV):one (cQ ρ c)=one c:=by cases c<;>rfl
theorem gk (ρ:Nat->Nat)(cs:List CV):(aL ρ cs).all one=cs.all one:=by
 induction cs with
 | nil=>rfl
 | cons c cs ih=>simp only[aL,all_cons,JS,ih]
mutual
theorem VR.dv {w:World}{F:Nat->Prop}{σ:Nat->Option OB}(ρ:Nat->Nat):∀ (c:CV) (v:Value),VR w F σ (cQ ρ c) v↔VR w F (λ p=>σ (ρ p)) c v
 | .int _ _,v=>by simp only[cQ,VR]
 | .bool _,v=>by simp only[cQ,VR]
 | .str _,v=>by simp only[cQ,VR]
 | .agg cs,v=>by
  simp only[cQ,VR,gk];constructor
  ·rintro⟨vs,h1,h2,h3⟩;exact⟨vs,h1,(a7.dv ρ cs vs).1 h2,h3⟩
  ·rintro⟨vs,h1,h2,h3⟩;exact⟨vs,h1,(a7.dv ρ cs vs).2 h2,h3⟩
 | .au _ _,v=>by simp only[cQ,VR]
 | .ak,v=>by simp only[cQ,VR]
 | .de _,v=>by simp only[cQ,VR]
 | .bM,v=>by simp only[cQ,VR]
 | .fn _ cs,v=>by
  simp only[cQ,VR];constructor
  ·rintro⟨vs,h1,h2⟩;exact⟨vs,h1,(a7.dv ρ cs vs).1 h2⟩
  ·rintro⟨vs,h1,h2⟩;exact⟨vs,h1,(a7.dv ρ cs vs).2 h2⟩
 | .cH,v=>by simp only[cQ,VR]
 | .iface _ cs,v=>by
  simp only[cQ,VR];constructor
  ·rintro⟨vs,h1,h2⟩;exact⟨vs,h1,(a7.dv ρ cs vs).1 h2⟩
  ·rintro⟨vs,h1,h2⟩;exact⟨vs,h1,(a7.dv ρ cs vs).2 h2⟩
 | .iter _ _ _,v=>by simp only[cQ,VR]
 | .mp _ _,v=>by simp only[cQ,VR]
 | .bY cs,v=>by
  simp only[cQ,VR];constructor
  ·rintro⟨vs,h1,h2⟩;exact⟨vs,h1,(a7.dv ρ cs vs).1 h2⟩
  ·rintro⟨vs,h1,h2⟩;exact⟨vs,h1,(a7.dv ρ cs vs).2 h2⟩
 | .bg _ _ _,v=>by simp only[cQ,VR]
 | .ax _ _,v=>by simp only[cQ,VR]
 | .any,v=>by simp only[cQ,VR]
theorem a7.dv {w:World}{F:Nat->Prop}{σ:Nat->Option OB}(ρ:Nat->Nat):∀ (cs:List CV) (vs:List Value),a7 w F σ (aL ρ cs) vs↔a7 w F (λ p=>σ (ρ p)) cs vs
 | [],vs=>by simp only[aL,a7]
 | c::cs,vs=>by
  simp only[aL,a7];constructor
  ·rintro⟨v,r,h1,h2,h3⟩;exact⟨v,r,h1,(VR.dv ρ c v).1 h2,(a7.dv ρ cs r).1 h3⟩
  ·rintro⟨v,r,h1,h2,h3⟩;exact⟨v,r,h1,(VR.dv ρ c v).2 h2,(a7.dv ρ cs r).2 h3⟩
end
def bf (ρ:Nat->Nat)(ob:Ob):Ob:=⟨ob.elem,ob.sz,aL ρ ob.cells⟩
def br (ρ:Nat->Nat):List (Nat×Ob)->List (Nat×Ob)
 | []=>[]
 | (k,ob)::r=>(ρ k,bf ρ ob)::br ρ r
def cz (ρ:Nat->Nat):List (Nat×CV)->List (Nat×CV)
 | []=>[]
 | (t,c)::r=>(t,cQ ρ c)::cz ρ r
theorem fS (ρ:Nat->Nat):∀ (e:List (Nat×CV)) (t:Nat),assoc (cz ρ e) t=(assoc e t).map (cQ ρ)
 | [],t=>rfl
 | (k,c)::r,t=>by
  simp only[cz,assoc];split
  ·rfl
  ·exact fS ρ r t
theorem cD {ρ:Nat->Nat}(hi:∀ x y,ρ x=ρ y->x=y):∀ (H:List (Nat×Ob)) (o:Nat),assoc (br ρ H) (ρ o)=(assoc H o).map (bf ρ)
 | [],o=>rfl
 | (k,c)::r,o=>by
  simp only[br,assoc];by_cases h:k=o
  ·simp[h]
  ·have:¬ ρ k=ρ o:=λ e=>h (hi _ _ e);simp only[if_neg h,if_neg this];exact cD hi r o
theorem eJ {ρ:Nat->Nat}:∀ (H:List (Nat×Ob)) (q:Nat) (ob:Ob),assoc (br ρ H) q=some ob->∃ o,q=ρ o
 | [],q,ob,h=>by simp[br,assoc] at h
 | (k,c)::r,q,ob,h=>by
  simp only[br,assoc] at h;split at h
  ·rename_i e;exact⟨k,e.symm⟩
  ·exact eJ r q ob h
section
variable {P:Program}{C:Cx}{σ:Nat->Option OB}{s:St}{a:Act}{w:World}{ops:Array Oper}{av:List (Nat×TI)}
theorem EZ (ρ:Nat->Nat)(cs:List CV)(k:Nat):aL ρ (cs.drop k)=(aL ρ cs).drop k:=by rw[aY,aY,map_drop]
theorem EY (ρ:Nat->Nat)(cs:List CV)(k:Nat):aL ρ (cs.take k)=(aL ρ cs).take k:=by rw[aY,aY,map_take]
theorem gy (ρ:Nat->Nat)(cs:List CV):(aL ρ cs).length=cs.length:=by rw[aY,length_map]
theorem Fs {ρ:Nat->Nat}(hi:∀ x y,ρ x=ρ y->x=y)(e:List (Nat×CV))(H:List (Nat×Ob))(n m:Nat)(c:CV)(ht:∀ cs,c=.de cs->aL ρ cs=cs):gS ⟨cz ρ e,br ρ H,m⟩ (cQ ρ c)=(gS ⟨e,H,n⟩ c).map (aL ρ):=by
 cases c with
 | de cs=>
  simp only[cQ,gS,Option.map_some,Option.some.injEq];exact (ht cs rfl).symm
 | ax o off=>
  simp only[cQ,gS,cD hi]
  cases assoc H o with
  | none=>rfl
  | some ob=>simp[bf,EZ]
 | _=>rfl
mutual
theorem cr.tree {w:World}{F:Nat->Prop}:∀ (c:CV) (v:Value),cr w F c v->Can.tree c=true
 | .int _ _,_,_=>rfl
 | .bool _,_,_=>rfl
 | .str _,_,_=>rfl
 | .agg cs,v,h=>by
  simp only[cr] at h;obtain⟨vs,_,h2,_⟩:=h;simp only[Can.tree];exact ca.tree cs vs h2
 | .au _ _,_,_=>rfl
 | .ak,_,_=>rfl
 | .de _,_,_=>rfl
 | .bM,_,_=>rfl
 | .fn _ cs,v,h=>by
  simp only[cr] at h;obtain⟨vs,_,h2⟩:=h;simp only[Can.tree];exact ca.tree cs vs h2
 | .cH,_,_=>rfl
 | .iface _ cs,v,h=>by
  simp only[cr] at h;obtain⟨vs,_,h2⟩:=h;simp only[Can.tree];exact ca.tree cs vs h2
 | .iter _ _ _,v,h=>by simp[cr] at h
 | .mp _ _,v,h=>by simp[cr] at h
 | .bY cs,v,h=>by
  simp only[cr] at h;obtain⟨vs,_,h2⟩:=h;simp only[Can.tree];exact ca.tree cs vs h2
 | .bg _ _ _,v,h=>by simp[cr] at h
 | .ax _ _,v,h=>by simp[cr] at h
 | .any,_,_=>rfl
theorem ca.tree {w:World}{F:Nat->Prop}:∀ (cs:List CV) (vs:List Value),ca w F cs vs->trees cs=true
 | [],_,_=>rfl
 | c::cs,vs,h=>by
  simp only[ca] at h;obtain⟨v,r,_,h2,h3⟩:=h;simp only[trees,cr.tree c v h2,ca.tree cs r h3,Bool.and_self]
end
theorem fx.tree {w:World}{F:Nat->Prop}:∀ (cs:List CV) (ad:Addr),fx w F cs ad->trees cs=true
 | [],_,_=>rfl
 | c::cs,ad,h=>by
  simp only[fx] at h;obtain⟨⟨u,_,_,h3⟩,_,h5⟩:=h;simp only[trees,cr.tree c u h3,fx.tree cs _ h5,Bool.and_self]
mutual
theorem ij (ρ:Nat->Nat):∀ c:CV,Can.tree c=true->cQ ρ c=c
 | .int _ _,_=>rfl
 | .bool _,_=>rfl
 | .str _,_=>rfl
 | .agg cs,h=>by
  simp only[Can.tree] at h;rw[cQ,ae ρ cs h]
 | .au _ _,_=>rfl
 | .ak,_=>rfl
 | .de _,_=>rfl
 | .bM,_=>rfl
 | .fn _ cs,h=>by
  simp only[Can.tree] at h;rw[cQ,ae ρ cs h]
 | .cH,_=>rfl
 | .iface _ cs,h=>by
  simp only[Can.tree] at h;rw[cQ,ae ρ cs h]
 | .iter _ _ _,h=>by simp[Can.tree] at h
 | .mp _ _,h=>by simp[Can.tree] at h
 | .bY cs,h=>by
  simp only[Can.tree] at h;rw[cQ,ae ρ cs h]
 | .bg _ _ _,h=>by simp[Can.tree] at h
 | .ax _ _,h=>by simp[Can.tree] at h
 | .any,_=>rfl
theorem ae (ρ:Nat->Nat):∀ cs:List CV,trees cs=true->aL ρ cs=cs
 | [],_=>rfl
 | c::cs,h=>by
  simp only[trees,Bool.and_eq_true] at h;rw[aL,ij ρ c h.1,ae ρ cs h.2]
end
theorem FN (ρ:Nat->Nat)(i:TI)(cs:List CV):mf i (aL ρ cs)=(mf i cs).map (cQ ρ):=by
 unfold mf;rw[gy];split
 ·split
  ·simp[cQ,EY]
  ·rfl
 ·cases cs<;>rfl
theorem FM {ρ:Nat->Nat}(hi:∀ x y,ρ x=ρ y->x=y){e:List (Nat×CV)}{H:List (Nat×Ob)}{n m:Nat}(ht:∀ t cs,assoc e t=some (.de cs)->aL ρ cs=cs)(r:ResultVar):pG av ⟨cz ρ e,br ρ H,m⟩ r=(pG av ⟨e,H,n⟩ r).map (cQ ρ):=by
 cases r with
 | tmp t=>exact fS ρ e t
 | cell x t=>
  simp only[pG,fS]
  cases hx:assoc e x with
  | none=>rfl
  | some c=>
   have hm:=Fs hi e H n m c λ cs hc=>ht x cs (by rw[hx,hc])
   cases ht':assoc av t with
   | none=>rfl
   | some i=>
    simp only[Option.map_some,hm]
    cases gS ⟨e,H,n⟩ c with
    | none=>rfl
    | some cs=>exact FN ρ i cs
theorem yc {ρ:Nat->Nat}(hi:∀ x y,ρ x=ρ y->x=y){e:List (Nat×CV)}{H:List (Nat×Ob)}{n m:Nat}(ht:∀ t cs,assoc e t=some (.de cs)->aL ρ cs=cs):∀ rs:List ResultVar,kX av ⟨cz ρ e,br ρ H,m⟩ rs=(kX av ⟨e,H,n⟩ rs).map (aL ρ)
 | []=>rfl
 | r::rs=>by
  simp only[kX,FM (n:=n) (m:=m) hi ht r,yc (n:=n) (m:=m) hi ht rs]
  cases pG av ⟨e,H,n⟩ r with
  | none=>rfl
  | some c=>cases kX av ⟨e,H,n⟩ rs<;>rfl
theorem qV {ρ:Nat->Nat}(hi:∀ x y,ρ x=ρ y->x=y){e:List (Nat×CV)}{H:List (Nat×Ob)}{n m:Nat}(ht:∀ t cs,assoc e t=some (.de cs)->aL ρ cs=cs)(fn:Func):bQ av fn ⟨cz ρ e,br ρ H,m⟩=(bQ av fn ⟨e,H,n⟩).map (cQ ρ):=by
 simp only[bQ,yc (n:=n) (m:=m) hi ht]
 cases kX av ⟨e,H,n⟩ fn.results.toList with
 | none=>rfl
 | some cs=>
  match cs with
  | []=>rfl
  | [c]=>rfl
  | c::d::r=>rfl
theorem x6 (ρ:Nat->Nat)(args:List CV):(enter (aL ρ args)).env=cz ρ (enter args).env:=by
 have:∀ (args:List CV) (k:Nat),((aL ρ args).zipIdx k).map (λ x=>(x.2,x.1))=cz ρ ((args.zipIdx k).map λ x=>(x.2,x.1)):=by
  intro args
  induction args with
  | nil=>intro k;rfl
  | cons c cs ih=>intro k;simp only[aL,zipIdx_cons,map_cons,cz,ih]
 exact this args 0
theorem Body.ph {ρ:Nat->Nat}(hi:∀ x y,ρ x=ρ y->x=y){f:FuncId}{args:List CV}{H:List (Nat×Ob)}{n n':Nat}{R:CV->St->Prop}(hρ:∀ p,p<n->ρ p<n')(h:Body P av f args H n R)(ha:aX n args=true)(hH:dq n H=true)(hR:∀ r s,R r s->s.nx=n) :
  Body P av f (aL ρ args) (br ρ H) n' λ r s=>∃ r1 s1,R r1 s1/\r=cQ ρ r1/\s=⟨cz ρ s1.env,br ρ s1.heap,n'⟩:=by
 obtain⟨fn,c,hf,hb,P5,hl,hT⟩:=h;refine⟨fn,c,hf,hb,P5,by rw[gy];exact hl,λ C' hC OR a w ⟨σ,hr⟩=>?_⟩;rw[x6] at hr;have OX:∀ (t:Nat) c o,assoc (enter args).env t=some c->aP o c=false->o<n:=λ t c o hc ho=>by
  obtain⟨_,h2⟩:=gj args 0 t c hc;have hm:c∈args:=mem_of_getElem? h2;rw[aE,all_eq_true] at ha;exact lX n c o (ha c hm) ho
 obtain⟨σt,hσt⟩:∃ σt:Nat->Option OB,σt=below (λ p=>σ (ρ p)) n λ _=>none:=⟨_,rfl⟩;have t1:∀ p,p<n->σt p=σ (ρ p):=λ p hp=>by rw[hσt];exact gE hp
 have t2:∀ p,n<=p->σt p=none:=λ p hp=>by rw[hσt];exact kA hp
 have Ra:∀ (G:List (Nat×Ob)),(∀ o ob,assoc G o=some ob->o<n)->∀ b,(C'.F b\/∃ o ob,assoc G o=some ob/\a9 σt o=some b)↔FB C' σ (br ρ G) b:=λ G hG b=>by
  unfold FB;constructor
  ·rintro (h | ⟨o,ob,ho,hx⟩)
   ·exact .inl h
   ·refine .inr ⟨ρ o,bf ρ ob,by rw[cD hi,ho];rfl,?_⟩;unfold a9 at hx |-;rwa [t1 o (hG o ob ho)] at hx
  ·rintro (h | ⟨q,ob,hq,hx⟩)
   ·exact .inl h
   ·obtain⟨o,rfl⟩:=eJ G q ob hq;rw[cD hi] at hq;obtain⟨Pe,ho,_⟩:=Option.map_eq_some_iff.1 hq;refine .inr ⟨o,Pe,ho,?_⟩;unfold a9 at hx |-;rwa [t1 o (hG o Pe ho)]
 have QZ:∀ o ob,assoc H o=some ob->o<n:=λ o ob ho=>(jd hH o ob ho).1;have h0:aO ⟨C'.w0,C'.F,C'.own,C'.hF,C'.nt,σt,n⟩ σt ⟨(enter args).env,H,n⟩ a w:=by
  have hK:cY w w (FB C' σ (br ρ H)) (FB ⟨C'.w0,C'.F,C'.own,C'.hF,C'.nt,σt,n⟩ σt H):=cY.same λ b hx=>(Ra H QZ b).1 hx;refine⟨hr.oz,hr.tm,hr.os,hr.tape,hr.output,hr.size,hr.frame,?_,?_,?_,λ o ho=>t2 o ho,λ _ _=>rfl,Nat.le_refl _,λ o B b ho hB _=>by rw[t2 o ho] at hB;cases hB⟩
  ·intro t c hc;obtain⟨v,k1,k2⟩:=hr.env t (cQ ρ c) (by rw[fS,hc];rfl);refine⟨v,k1,?_⟩;exact VR.bL hK _ _ (λ o ho=>t1 o (OX t c o hc ho)) ((VR.dv ρ c v).1 k2)
  ·intro o ob ho;obtain⟨B,m1,m2,m3,m4,m5⟩:=hr.obj (ρ o) (bf ρ ob) (by rw[cD hi,ho];rfl);have OT:=QZ o ob ho;refine⟨B,by rw[t1 o OT];exact m1,m2,λ hb=>?_,by have:=m4;simp only[bf,gk] at this;exact this,λ b hb=>?_⟩
   ·have:=m3 hb;simp only[bf] at this;have hl:=gy ρ ob.cells;rw[this] at hl;exact eq_nil_of_length_eq_zero hl.symm
   ·obtain⟨cur,n1,n2,n3,n4,n5,n6⟩:=m5 b hb;simp only[bf,gy] at n5 n6;refine⟨cur,n1,n2,n3,n4,n5,?_⟩;exact a7.bL hK _ _ (λ p hp=>t1 p (fo n _ p (jd hH o ob ho).2 hp)) ((a7.dv ρ _ _).1 n6)
  ·intro o o' ob Pe b ho Pt hx QD;unfold a9 at hx QD;rw[t1 o (QZ o ob ho)] at hx;rw[t1 o' (QZ o' Pe Pt)] at QD;exact hi _ _ (hr.inj (ρ o) (ρ o') (bf ρ ob) (bf ρ Pe) b (by rw[cD hi,ho];rfl) (by rw[cD hi,Pt];rfl) hx QD)
 refine wp_mono (hT ⟨C'.w0,C'.F,C'.own,C'.hF,C'.nt,σt,n⟩ hC rfl a w ⟨_,h0⟩) λ e a' w' ⟨s1,q,σ1,Qg⟩=>?_;have fin:aa ⟨C'.w0,C'.F,C'.own,C'.hF,C'.nt,σt,n⟩ (λ s'=>∃ r,bQ av fn s'=some r/\R r s') s1 ->
   ∃ s',aa C' (λ s'=>∃ r,bQ av fn s'=some r/\∃ r1 s1,R r1 s1/\r=cQ ρ r1/\s'=⟨cz ρ s1.env,br ρ s1.heap,n'⟩) s'/\Rel C' s' a' w':=λ⟨s2,⟨r,q1,q2⟩,hle⟩=>by
  obtain⟨σ2,PL⟩:=hle _ _ ⟨σ1,Qg⟩;have SU:=hR r s2 q2;obtain⟨e2,H2,n2⟩:=s2;simp only at SU;subst SU;have hσ2:σ2=σt:=by
   funext p;rcases Nat.lt_or_ge p n2 with hp | hp
   ·exact PL.fX p hp
   ·rw[PL.nx p hp,t2 p hp]
  subst hσ2;have OT:∀ o B,σ2 o=some B->o<n2:=λ o B hB=>Nat.lt_of_not_le λ hle=>by rw[PL.nx o hle] at hB;cases hB
  have TS:∀ o ob,assoc H2 o=some ob->o<n2:=λ o ob ho=>by
   obtain⟨B,m1,_⟩:=PL.obj o ob ho;exact OT o B m1
  have hK:cY w' w' (FB ⟨C'.w0,C'.F,C'.own,C'.hF,C'.nt,σ2,n2⟩ σ2 H2) (FB C' σ (br ρ H2)):=cY.same λ b hx=>(Ra H2 TS b).2 hx;refine⟨⟨cz ρ e2,br ρ H2,n'⟩,aa.here ⟨cQ ρ r,?_,r,_,q2,rfl,rfl⟩,σ,?_⟩
  ·rw[qV (n:=n2) hi (λ t cs hc=>?_),q1]
   ·rfl
   ·obtain⟨v,_,k2⟩:=PL.env t _ hc;simp only[VR,cr] at k2;obtain⟨ad,_,h3⟩:=k2;exact ae ρ cs (fx.tree cs ad h3)
  ·refine⟨PL.oz,PL.tm,PL.os,PL.tape,PL.output,PL.size,PL.frame,?_,?_,?_,hr.nx,hr.fX,by rw[OR];exact Nat.le_refl _,hr.new⟩
   ·intro t c hc;simp only[fS] at hc;obtain⟨d,hd,rfl⟩:=Option.map_eq_some_iff.1 hc;obtain⟨v,k1,k2⟩:=PL.env t d hd;refine⟨v,k1,(VR.dv ρ d v).2 (VR.bL hK _ _ (λ o ho=>?_) k2)⟩;obtain⟨B,hB⟩:=VR.refs _ _ o k2 ho;exact (t1 o (OT o B hB)).symm
   ·intro q ob hq;obtain⟨o,rfl⟩:=eJ H2 q ob hq;simp only[cD hi] at hq;obtain⟨Pe,ho,rfl⟩:=Option.map_eq_some_iff.1 hq;obtain⟨B,m1,m2,m3,m4,m5⟩:=PL.obj o Pe ho;refine⟨B,by rw[<- t1 o (TS o Pe ho)];exact m1,m2,λ hb=>by simp only[bf,m3 hb];rfl,by simp only[bf,gk];exact m4,λ b hb=>?_⟩;obtain⟨cur,n1,YC,n3,n4,n5,n6⟩:=m5 b hb;simp only[bf,gy];refine⟨cur,n1,YC,n3,n4,n5,(a7.dv ρ _ _).2 (a7.bL hK _ _ (λ p hp=>?_) n6)⟩;obtain⟨B',Rm⟩:=a7.refs _ _ p n6 hp;exact (t1 p (OT p B' Rm)).symm
   ·intro q q' ob Pe b hq QS hx QD;obtain⟨o,rfl⟩:=eJ H2 q ob hq;obtain⟨o',rfl⟩:=eJ H2 q' Pe QS;simp only[cD hi] at hq QS;obtain⟨x,ho,_⟩:=Option.map_eq_some_iff.1 hq;obtain⟨x',Pt,_⟩:=Option.map_eq_some_iff.1 QS;unfold a9 at hx QD;rw[<- t1 o (TS o x ho)] at hx;rw[<- t1 o' (TS o' x' Pt)] at QD;rw[PL.inj o o' x x' b ho Pt hx QD]
 cases e with
 | normal=>exact fin q
 | ret=>exact fin q
 | exit _=>exact q.elim
 | goto _=>exact q.elim
 | panic _=>exact q.elim
 | outgrown=>exact q.elim
def qy (a b p:Nat):Nat:=if p=a then b else if p=b then a else p
theorem Jn (a b:Nat):∀ x y,qy a b x=qy a b y->x=y:=by
 intro x y h;unfold qy at h;split at h<;>split at h<;>(try split at h)<;>(try split at h)<;>omega
theorem L5 {a b n m:Nat}(ha:a<n)(hb:b<m)(hn:n<=m):∀ p,p<n->qy a b p<m:=by
 intro p hp;unfold qy;split
 ·exact hb
 ·split<;>omega
theorem Body.retX {f:FuncId}{args:List CV}{H H1:List (Nat×Ob)}{n m:Nat}{r0:CV}(a b:Nat)(h:Body P av f args H n (jk r0 H1 n))(ha:a<n)(hb:b<m)(hn:n<=m)(hr:aX n args=true)(hH:dq n H=true)(ht:tree r0=true) :
  Body P av f (aL (qy a b) args) (br (qy a b) H) m (jk r0 (br (qy a b) H1) m):=
 (Body.ph (Jn a b) (L5 ha hb hn) h hr hH λ r s h=>h.2.2).ret λ r s ⟨r1,s1,h1,h2,h3⟩=>by
  obtain⟨k1,k2,k3⟩:=h1;subst h3;rw[h2,k1,ij _ _ ht,k2];exact⟨rfl,rfl,rfl⟩
theorem TL.jG (RQ:aD P av){o:Oper}{l:List Oper}{c:Call}{g:FuncId}{args:List CV}{K:St->Prop}{r0:CV}{H1:List (Nat×Ob)}(a b:Nat)(ks:List Nat){H:List (Nat×Ob)}(n:Nat)(hb:Body P av g args H n (jk r0 H1 n))(hd:bl C.nt o.dst=true)(hg:bW ops s o=Option.some true)(ho:o.op=.call c)(Pc:bJ s c=Option.some (g,aL (qy a b) args))
  (hp:eK s.heap ks=Option.some (br (qy a b) H)) (han:a<n) (hbn:b<s.nx) (hn:n<=s.nx) (ha:aX n args=true) (hH:dq n H=true) (ht:tree r0=true) (ZX:aX s.nx (aL (qy a b) args)=true) (hH2:dq s.nx (br (qy a b) H)=true) (hk:mD ks (br (qy a b) H1)=true)
  (hK:TL P C ops l (St.put ⟨s.env,br (qy a b) H1++ec s.heap ks,s.nx⟩ o.dst r0) K):TL P C ops (o::l) s K:=
 TL.di RQ ks s.nx (hb.retX a b han hbn hn ha hH ht) hd hg ho Pc hp (Nat.le_refl _) ZX hH2 hk hK
variable {W:List rz}{nt N:Nat}{dyn:List (Nat×Nat)}{K:St->Prop}{i:Nat}{r:List Nat}{res:Nat->Er}
theorem RX.jG {o:Oper}{cl:Call}{g:FuncId}{args:List CV}{r0:CV}{H1:List (Nat×Ob)}(a b:Nat)(ks g8:List Nat){H:List (Nat×Ob)}(n:Nat)(hb:Body P av g args H n (jk r0 H1 n))(hi:ops[i]? = Option.some o)(hd:bl nt o.dst=true)(hg:bW ops s o=Option.some true)(hu:cB o=Option.some cl)(Pc:bJ s cl=Option.some (g,aL (qy a b) args))
  (hp:eK s.heap ks=Option.some (br (qy a b) H)) (han:a<n) (hbn:b<s.nx) (hn:n<=s.nx) (ha:aX n args=true) (hH:dq n H=true) (ht:tree r0=true) (ZX:aX s.nx (aL (qy a b) args)=true) (hH2:dq s.nx (br (qy a b) H)=true) (hk:mD ks (br (qy a b) H1)=true) (hv:zy dyn res i ks=true) (hc:(g8.all λ p=>ks.contains p)=true) (hs:∀ p∈ks,p∉g8->assoc (br (qy a b) H1) p=assoc (br (qy a b) H) p)
  (hK:um W dyn res i (qd r0 ks g8 (br (qy a b) H1))/\mr av W nt ops N dyn (Cq P av W nt ops N dyn K) r (note dyn res i (qd r0 ks g8 (br (qy a b) H1))) (St.put ⟨s.env,br (qy a b) H1++ec s.heap ks,s.nx⟩ o.dst r0)):RX P av W nt ops N dyn K (i::r) res s:=
 RX.di ks g8 s.nx (hb.retX a b han hbn hn ha hH ht) hi hd hg hu Pc hp (Nat.le_refl _) ZX hH2 hk hv hc hs hK
attribute [simp] br qy
end
open Go.RowKit
section
variable {C:Cx}{σ:Nat->Option OB}{s:St}{w:World}
theorem a7.Ab {F:Nat->Prop}{c c':CV}(hc:∀ v,VR w F σ c v->VR w F σ c' v):∀ {cs:List CV} {vs:List Value} {i:Nat},cs[i]? = some c->a7 w F σ cs vs->a7 w F σ (cs.set i c') vs
 | [],_,_,h,_=>by simp at h
 | d::cs,_,0,h,⟨v,r,e,h1,h2⟩=>by
  simp only[getElem?_cons_zero,Option.some.injEq] at h;subst h;exact⟨v,r,e,hc v h1,h2⟩
 | d::cs,_,i+1,h,⟨v,r,e,h1,h2⟩=>by
  simp only[getElem?_cons_succ] at h;exact⟨v,r,e,h1,a7.Ab hc h h2⟩
theorem tM {c:CV}(hc:one c=true):∀ (cs:List CV) (i:Nat),cs.all one=true->(cs.set i c).all one=true
 | [],_,h=>h
 | d::cs,0,h=>by
  simp only[all_cons,Bool.and_eq_true] at h;simp only[set_cons_zero,all_cons,hc,h.2,Bool.and_self]
 | d::cs,i+1,h=>by
  simp only[all_cons,Bool.and_eq_true] at h;simp only[set_cons_succ,all_cons,h.1,Bool.true_and];exact tM hc cs i h.2
theorem Le.lq (o i:Nat)(e:TypeId)(sz:Nat){ob:Ob}(ho:assoc s.heap o=some ob)(hi:ob.cells[i]? = some .ak):Le C s ⟨s.env,(s.nx,⟨e,sz,[]⟩)::sM s.heap o ⟨ob.elem,ob.sz,ob.cells.set i (.bg s.nx 0 0)⟩,s.nx+1⟩:=by
 intro a w ⟨σ,hr⟩;obtain⟨h1,h2⟩:=hr.fresh (World.grownBy.refl w none) (ob:=⟨e,sz,[]⟩) (B:=⟨none,0,sz⟩) rfl rfl (λ _=>rfl) (λ b hb=>by cases hb);have Pp:¬ s.nx=o:=λ h=>by
  obtain⟨B,m1,_⟩:=hr.obj o ob ho;rw[hr.nx o yA] at m1;cases m1
 have hG:(s.nx,(⟨e,sz,[]⟩:Ob))::sM s.heap o ⟨ob.elem,ob.sz,ob.cells.set i (.bg s.nx 0 0)⟩=sM ((s.nx,⟨e,sz,[]⟩)::s.heap) o ⟨ob.elem,ob.sz,ob.cells.set i (.bg s.nx 0 0)⟩:=by
  simp only[sM,if_neg Pp]
 have hoG:assoc ((s.nx,(⟨e,sz,[]⟩:Ob))::s.heap) o=some ob:=by simp only[assoc,if_neg Pp,ho]
 rw[hG];have Ur:=qi (C:=C) (σ:=sig σ s.nx ⟨none,0,sz⟩) ((s.nx,(⟨e,sz,[]⟩:Ob))::s.heap) o ⟨ob.elem,ob.sz,ob.cells.set i (.bg s.nx 0 0)⟩;refine⟨_,h1.oz,h1.tm,h1.os,h1.tape,h1.output,h1.size,h1.frame,?_,?_,?_,h1.nx,h1.fX,h1.low,h1.new⟩
 ·intro t c hc;obtain⟨v,k1,k2⟩:=h1.env t c hc;exact⟨v,k1,by rw[Ur];exact k2⟩
 ·intro p x hp;simp only[fF] at hp;unfold ObR;rw[Ur];split at hp
  ·rename_i eo;subst eo;rw[hoG] at hp;simp only[Option.map_some,Option.some.injEq] at hp;subst hp;obtain⟨B,m1,m2,m3,m4,m5⟩:=h1.obj o ob hoG;refine⟨B,m1,m2,λ hb=>by simp[m3 hb] at hi,tM rfl _ _ m4,λ b hb=>?_⟩;obtain⟨cur,n1,n2,n3,n4,n5,n6⟩:=m5 b hb;refine⟨cur,n1,n2,n3,n4,by simpa using n5,?_⟩;simp only[length_set];refine a7.Ab (λ v hv=>?_) hi n6;simp only[VR] at hv |-;exact⟨⟨none,0,sz⟩,dN,hv,trivial,trivial⟩
  ·exact h1.obj p x hp
 ·intro p p' x x' b hp SR hb Pf;have dom:∀ q y,assoc (sM ((s.nx,(⟨e,sz,[]⟩:Ob))::s.heap) o ⟨ob.elem,ob.sz,ob.cells.set i (.bg s.nx 0 0)⟩) q=some y->∃ z,assoc ((s.nx,(⟨e,sz,[]⟩:Ob))::s.heap) q=some z:=λ q y hq=>by
   rw[fF] at hq;split at hq
   ·rename_i eo;subst eo;exact⟨ob,hoG⟩
   ·exact⟨y,hq⟩
  obtain⟨z,hz⟩:=dom p x hp;obtain⟨z',hz'⟩:=dom p' x' SR;exact h1.inj p p' z z' b hz hz' hb Pf
theorem Le.up (n:Nat)(h:s.nx<=n):Le C s ⟨s.env,s.heap,n⟩:=by
 intro a w ⟨σ,hr⟩;exact⟨σ,hr.oz,hr.tm,hr.os,hr.tape,hr.output,hr.size,hr.frame,hr.env,hr.obj,hr.inj,λ o ho=>hr.nx o (Nat.le_trans h ho),hr.fX,Nat.le_trans hr.low h,hr.new⟩
end
section
variable {P:Program}{C:Cx}{s:St}{ops:Array Oper}{av:List (Nat×TI)}{Q:Exit->St->Prop}
def HM (o:Oper):Bool:=match o.op with
 | .convert _ _ _=>true
 | _=>false
def cvS (av:List (Nat×TI))(s:St)(o:Oper):Option St:=match o.op with
 | .convert t u x=>match q8 av s t u x with
  | some c=>some (s.put o.dst c)
  | none=>match ev s x,dM av t,dM av u with
   | some (.str b),some .str,some (.sl e)=>match dM av e with
    | some (.int .u8)=>if b.size<=1000000 then some (s.put o.dst (.au (qc b) b.size)) else none
    | _=>none
   | _,_,_=>none
 | _=>none
theorem Ng (ht:aD P av){o:Oper}{s':St}(hd:bl C.nt o.dst=true)(h:cvS av s o=some s'):qh P C o s s':=by
 refine zP ht hd ?_;unfold cvS at h;unfold Dr;split at h
 ·rename_i t u x ho;rw[ho];simp only;split at h
  ·rename_i c hc;rw[hc];exact h
  ·rename_i hc;rw[hc];simp only;split at h
   ·rename_i b e h1 h2 h3;rw[h1,h2,h3];simp only;split at h
    ·rename_i h4;rw[h4];simp only;split at h
     ·rename_i hb;rw[if_pos hb];exact h
     ·cases h
    ·cases h
   ·cases h
 ·cases h
def I6 (av:List (Nat×TI))(nt:Nat)(ops:Array Oper)(K:List Oper->St->Prop):List Oper->St->Prop
 | [],s=>K [] s
 | o::r,s=>if zf o then
   match bW ops s o with
   | some false=>xI (I6 av nt ops K r) (gB av nt ops s o)
   | _=>K (o::r) s
  else if HM o then
   match bW ops s o with
   | some true=>if bl nt o.dst=true then xI (I6 av nt ops K r) (cvS av s o) else False
   | _=>xI (I6 av nt ops K r) (gB av nt ops s o)
  else xI (I6 av nt ops K r) (gB av nt ops s o)
theorem C0 (ht:aD P av){K:St->Prop}:∀ (l:List Oper) (s:St),I6 av C.nt ops (BV P C ops K) l s->TL P C ops l s K
 | [],s,h=>TL.nil h
 | o::r,s,h=>by
  have fin:xI (I6 av C.nt ops (BV P C ops K) r) (gB av C.nt ops s o)->TL P C ops (o::r) s K:=λ h=>by
   cases hs:gB av C.nt ops s o with
   | none=>rw[hs] at h;exact h.elim
   | some s'=>rw[hs] at h;exact TL.step ht hs (C0 ht r s' h)
  unfold I6 at h;split at h
  ·split at h
   ·exact fin h
   ·exact h
  ·split at h
   ·split at h
    ·rename_i hg;split at h
     ·rename_i hd
      cases hs:cvS av s o with
      | none=>rw[hs] at h;exact h.elim
      | some s'=>rw[hs] at h;exact l9 hg (Ng ht hd hs) (C0 ht r s' h)
     ·exact h.elim
    ·exact fin h
   ·exact fin h
theorem TL.B1 (ht:aD P av){K:St->Prop}{l:List Oper}(h:I6 av C.nt ops (BV P C ops K) l s):TL P C ops l s K:=C0 ht l s h
theorem T.B1 (ht:aD P av){id:Nat}{l:List Oper}(h:I6 av C.nt l.toArray (BV P C l.toArray (Q .normal)) l s):T P C (.region id l.toArray false) s Q:=T.region (TL.B1 ht h)
attribute [simp] HM cvS I6 q8 bytesOf cells?
end
section
variable {P:Program}{C:Cx}{σ:Nat->Option OB}{s:St}{a:Act}{w:World}{ops:Array Oper}{av:List (Nat×TI)}
theorem Body.grow {ρ:Nat->Nat}(hi:∀ x y,ρ x=ρ y->x=y){f:FuncId}{args:List CV}{H:List (Nat×Ob)}{n n' d:Nat}{R:CV->St->Prop}(hρ:∀ p,p<n->ρ p<n')(hρ2:∀ p,n<=p->ρ p=p-n+n')(h:Body P av f args H n R)(ha:aX n args=true)(hH:dq n H=true)(hR:∀ r s,R r s->s.nx=n+d) :
  Body P av f (aL ρ args) (br ρ H) n' λ r s=>∃ r1 s1,R r1 s1/\r=cQ ρ r1/\s=⟨cz ρ s1.env,br ρ s1.heap,n' + d⟩:=by
 obtain⟨fn,c,hf,hb,P5,hl,hT⟩:=h;refine⟨fn,c,hf,hb,P5,by rw[gy];exact hl,λ C' hC OR a w ⟨σ,hr⟩=>?_⟩;rw[x6] at hr;have OX:∀ (t:Nat) c o,assoc (enter args).env t=some c->aP o c=false->o<n:=λ t c o hc ho=>by
  obtain⟨_,h2⟩:=gj args 0 t c hc;have hm:c∈args:=mem_of_getElem? h2;rw[aE,all_eq_true] at ha;exact lX n c o (ha c hm) ho
 obtain⟨σt,hσt⟩:∃ σt:Nat->Option OB,σt=below (λ p=>σ (ρ p)) n λ _=>none:=⟨_,rfl⟩;have t1:∀ p,p<n->σt p=σ (ρ p):=λ p hp=>by rw[hσt];exact gE hp
 have t2:∀ p,n<=p->σt p=none:=λ p hp=>by rw[hσt];exact kA hp
 have Ra:∀ (G:List (Nat×Ob)),(∀ o ob,assoc G o=some ob->o<n)->∀ b,(C'.F b\/∃ o ob,assoc G o=some ob/\a9 σt o=some b)↔FB C' σ (br ρ G) b:=λ G hG b=>by
  unfold FB;constructor
  ·rintro (h | ⟨o,ob,ho,hx⟩)
   ·exact .inl h
   ·refine .inr ⟨ρ o,bf ρ ob,by rw[cD hi,ho];rfl,?_⟩;unfold a9 at hx |-;rwa [t1 o (hG o ob ho)] at hx
  ·rintro (h | ⟨q,ob,hq,hx⟩)
   ·exact .inl h
   ·obtain⟨o,rfl⟩:=eJ G q ob hq;rw[cD hi] at hq;obtain⟨Pe,ho,_⟩:=Option.map_eq_some_iff.1 hq;refine .inr ⟨o,Pe,ho,?_⟩;unfold a9 at hx |-;rwa [t1 o (hG o Pe ho)]
 have QZ:∀ o ob,assoc H o=some ob->o<n:=λ o ob ho=>(jd hH o ob ho).1;have h0:aO ⟨C'.w0,C'.F,C'.own,C'.hF,C'.nt,σt,n⟩ σt ⟨(enter args).env,H,n⟩ a w:=by
  have hK:cY w w (FB C' σ (br ρ H)) (FB ⟨C'.w0,C'.F,C'.own,C'.hF,C'.nt,σt,n⟩ σt H):=cY.same λ b hx=>(Ra H QZ b).1 hx;refine⟨hr.oz,hr.tm,hr.os,hr.tape,hr.output,hr.size,hr.frame,?_,?_,?_,λ o ho=>t2 o ho,λ _ _=>rfl,Nat.le_refl _,λ o B b ho hB _=>by rw[t2 o ho] at hB;cases hB⟩
  ·intro t c hc;obtain⟨v,k1,k2⟩:=hr.env t (cQ ρ c) (by rw[fS,hc];rfl);refine⟨v,k1,?_⟩;exact VR.bL hK _ _ (λ o ho=>t1 o (OX t c o hc ho)) ((VR.dv ρ c v).1 k2)
  ·intro o ob ho;obtain⟨B,m1,m2,m3,m4,m5⟩:=hr.obj (ρ o) (bf ρ ob) (by rw[cD hi,ho];rfl);have OT:=QZ o ob ho;refine⟨B,by rw[t1 o OT];exact m1,m2,λ hb=>?_,by have:=m4;simp only[bf,gk] at this;exact this,λ b hb=>?_⟩
   ·have:=m3 hb;simp only[bf] at this;have hl:=gy ρ ob.cells;rw[this] at hl;exact eq_nil_of_length_eq_zero hl.symm
   ·obtain⟨cur,n1,n2,n3,n4,n5,n6⟩:=m5 b hb;simp only[bf,gy] at n5 n6;refine⟨cur,n1,n2,n3,n4,n5,?_⟩;exact a7.bL hK _ _ (λ p hp=>t1 p (fo n _ p (jd hH o ob ho).2 hp)) ((a7.dv ρ _ _).1 n6)
  ·intro o o' ob Pe b ho Pt hx QD;unfold a9 at hx QD;rw[t1 o (QZ o ob ho)] at hx;rw[t1 o' (QZ o' Pe Pt)] at QD;exact hi _ _ (hr.inj (ρ o) (ρ o') (bf ρ ob) (bf ρ Pe) b (by rw[cD hi,ho];rfl) (by rw[cD hi,Pt];rfl) hx QD)
 refine wp_mono (hT ⟨C'.w0,C'.F,C'.own,C'.hF,C'.nt,σt,n⟩ hC rfl a w ⟨_,h0⟩) λ e a' w' ⟨s1,q,σ1,Qg⟩=>?_;have fin:aa ⟨C'.w0,C'.F,C'.own,C'.hF,C'.nt,σt,n⟩ (λ s'=>∃ r,bQ av fn s'=some r/\R r s') s1 ->
   ∃ s',aa C' (λ s'=>∃ r,bQ av fn s'=some r/\∃ r1 s1,R r1 s1/\r=cQ ρ r1/\s'=⟨cz ρ s1.env,br ρ s1.heap,n' + d⟩) s'/\Rel C' s' a' w':=λ⟨s2,⟨r,q1,q2⟩,hle⟩=>by
  obtain⟨σ2,PL⟩:=hle _ _ ⟨σ1,Qg⟩;have SU:=hR r s2 q2;obtain⟨e2,H2,n2⟩:=s2;simp only at SU;subst SU;obtain⟨σn,hσn⟩:∃ σn:Nat->Option OB,σn=λ q=>if q<n' then σ q else σ2 (q-n' + n):=⟨_,rfl⟩
  have u1:∀ q,q<n'->σn q=σ q:=λ q hq=>by rw[hσn];exact if_pos hq
  have u2:∀ q,n'<=q->σn q=σ2 (q-n' + n):=λ q hq=>by rw[hσn];exact if_neg yA
  have u3:∀ o,σn (ρ o)=σ2 o:=λ o=>by
   rcases Nat.lt_or_ge o n with ho | ho
   ·rw[u1 _ (hρ o ho),<- t1 o ho];exact (PL.fX o ho).symm
   ·rw[hρ2 o ho,u2 _ yA];congr 1;omega
  have Qo:∀ o,a9 σn (ρ o)=a9 σ2 o:=λ o=>by unfold a9;rw[u3]
  have Ur:∀ b,FB C' σn (br ρ H2) b->FB ⟨C'.w0,C'.F,C'.own,C'.hF,C'.nt,σt,n⟩ σ2 H2 b:=by
   rintro b (h | ⟨q,ob,hq,hx⟩)
   ·exact .inl h
   ·obtain⟨o,rfl⟩:=eJ H2 q ob hq;rw[cD hi] at hq;obtain⟨Pe,ho,_⟩:=Option.map_eq_some_iff.1 hq;exact .inr ⟨o,Pe,ho,by rwa [Qo] at hx⟩
  have hK:cY w' w' (FB ⟨C'.w0,C'.F,C'.own,C'.hF,C'.nt,σt,n⟩ σ2 H2) (FB C' σn (br ρ H2)):=cY.same λ b hx=>Ur b hx;refine⟨⟨cz ρ e2,br ρ H2,n' + d⟩,aa.here ⟨cQ ρ r,?_,r,_,q2,rfl,rfl⟩,σn,?_⟩
  ·rw[qV (n:=n+d) hi (λ t cs hc=>?_),q1]
   ·rfl
   ·obtain⟨v,_,k2⟩:=PL.env t _ hc;simp only[VR,cr] at k2;obtain⟨ad,_,h3⟩:=k2;exact ae ρ cs (fx.tree cs ad h3)
  ·refine⟨PL.oz,PL.tm,PL.os,PL.tape,PL.output,PL.size,PL.frame,?_,?_,?_,λ q hq=>?_,λ q hq=>?_,by rw[OR];exact Nat.le_add_right _ _,λ q B b hq hB hb=>?_⟩
   ·intro t c hc;simp only[fS] at hc;obtain⟨c',hd,rfl⟩:=Option.map_eq_some_iff.1 hc;obtain⟨v,k1,k2⟩:=PL.env t c' hd;exact⟨v,k1,(VR.dv ρ c' v).2 (VR.bL hK _ _ (λ o _=>u3 o) k2)⟩
   ·intro q ob hq;obtain⟨o,rfl⟩:=eJ H2 q ob hq;simp only[cD hi] at hq;obtain⟨Pe,ho,rfl⟩:=Option.map_eq_some_iff.1 hq;obtain⟨B,m1,m2,m3,m4,m5⟩:=PL.obj o Pe ho;refine⟨B,by rw[u3];exact m1,m2,λ hb=>by simp only[bf,m3 hb];rfl,by simp only[bf,gk];exact m4,λ b hb=>?_⟩;obtain⟨cur,n1,YC,n3,n4,n5,n6⟩:=m5 b hb;simp only[bf,gy];exact⟨cur,n1,YC,n3,n4,n5,(a7.dv ρ _ _).2 (a7.bL hK _ _ (λ p _=>u3 p) n6)⟩
   ·intro q q' ob Pe b hq QS hx QD;obtain⟨o,rfl⟩:=eJ H2 q ob hq;obtain⟨o',rfl⟩:=eJ H2 q' Pe QS;simp only[cD hi] at hq QS;obtain⟨x,ho,_⟩:=Option.map_eq_some_iff.1 hq;obtain⟨x',Pt,_⟩:=Option.map_eq_some_iff.1 QS;rw[Qo] at hx QD;rw[PL.inj o o' x x' b ho Pt hx QD]
   ·simp only at hq;rw[u2 q yA];exact PL.nx _ WG
   ·rw[OR] at hq;rw[u1 q hq];exact hr.fX q (by rw[OR];exact hq)
   ·rw[OR] at hq;rw[u2 q hq] at hB;exact PL.new _ B b WG hB hb
 cases e with
 | normal=>exact fin q
 | ret=>exact fin q
 | exit _=>exact q.elim
 | goto _=>exact q.elim
 | panic _=>exact q.elim
 | outgrown=>exact q.elim
def bP (l:List Nat)(m p:Nat):Nat:=if p<l.length then l.getD p 0 else p-l.length+m
def F6 (l:List Nat)(m:Nat):Bool:=l.all (λ x=>decide (x<m)) && decide ((l.zipIdx).all λ x=>(l.zipIdx).all λ y=>x.1 != y.1 || x.2 == y.2)
theorem CM {l:List Nat}{m:Nat}(h:F6 l m=true):∀ p,p<l.length->bP l m p<m:=by
 intro p hp;simp only[F6,Bool.and_eq_true,all_eq_true,decide_eq_true_eq] at h;unfold bP;rw[if_pos hp,getD_eq_getElem?_getD,getElem?_eq_getElem hp];exact h.1 _ (getElem_mem hp)
theorem DO {l:List Nat}{m:Nat}(h:F6 l m=true):∀ x y,bP l m x=bP l m y->x=y:=by
 intro x y SB;have OT:=CM h;rcases Nat.lt_or_ge x l.length with hx | hx<;>rcases Nat.lt_or_ge y l.length with hy | hy
 ·simp only[F6,Bool.and_eq_true,decide_eq_true_eq,all_eq_true] at h;have h2:=h.2;unfold bP at SB;rw[if_pos hx,if_pos hy,getD_eq_getElem?_getD,getD_eq_getElem?_getD,getElem?_eq_getElem hx,getElem?_eq_getElem hy] at SB;have mx:(l[x],x)∈l.zipIdx:=mk_mem_zipIdx_iff_getElem?.2 (getElem?_eq_getElem hx);have my:(l[y],y)∈l.zipIdx:=mk_mem_zipIdx_iff_getElem?.2 (getElem?_eq_getElem hy);have:=h2 _ mx _ my;simp only[Option.getD_some] at SB
  simpa [SB] using this
 ·have h1:=OT x hx;have h2:bP l m y=y-l.length+m:=if_neg yA;omega
 ·have h1:=OT y hy;have h2:bP l m x=x-l.length+m:=if_neg yA;omega
 ·have h1:bP l m x=x-l.length+m:=if_neg yA;have h2:bP l m y=y-l.length+m:=if_neg yA;omega
theorem Body.retN {f:FuncId}{args:List CV}{H H1:List (Nat×Ob)}{n m d:Nat}{r0:CV}(l:List Nat)(hl:l.length=n)(h:Body P av f args H n (jk r0 H1 (n+d)))(hk:F6 l m=true)(hr:aX n args=true)(hH:dq n H=true)(ht:tree r0=true) :
  Body P av f (aL (bP l m) args) (br (bP l m) H) m (jk r0 (br (bP l m) H1) (m+d)):=by
 subst hl;refine (Body.grow (DO hk) (CM hk) (λ p hp=>if_neg yA) h hr hH λ r s h=>h.2.2).ret λ r s ⟨r1,s1,h1,h2,h3⟩=>?_;obtain⟨k1,k2,k3⟩:=h1;subst h3;rw[h2,k1,ij _ _ ht,k2];exact⟨rfl,rfl,rfl⟩
def na (ks:List Nat)(m:Nat)(H D:List (Nat×Ob)):Bool:=(H.all λ x=>ks.contains x.1 || decide (m<=x.1)) && D.all λ x=>decide (x.1<m)
theorem TL.wa (RQ:aD P av){o:Oper}{l:List Oper}{c:Call}{g:FuncId}{args:List CV}{K:St->Prop}{r0:CV}{H H1:List (Nat×Ob)}(ns ks:List Nat)(n d:Nat)(hb:Body P av g args H n (jk r0 H1 (n+d)))(hl:ns.length=n)(hk:F6 ns s.nx=true)(hd:bl C.nt o.dst=true)(hg:bW ops s o=Option.some true)(ho:o.op=.call c)(Pc:bJ s c=Option.some (g,aL (bP ns s.nx) args))
  (hp:eK s.heap ks=Option.some (br (bP ns s.nx) H)) (ha:aX n args=true) (hH:dq n H=true) (ht:tree r0=true) (hx:na ks s.nx (br (bP ns s.nx) H1) (ec s.heap ks)=true)
  (hK:TL P C ops l (St.put ⟨s.env,br (bP ns s.nx) H1++ec s.heap ks,s.nx+d⟩ o.dst r0) K):TL P C ops (o::l) s K:=by
 intro a w Q hr hQ;have hw:=eH hr hg;obtain⟨σ,hr⟩:=hr;unfold wpList;rw[if_pos hw];refine .inl ?_;have Pf:=hb.retN ns hl hk ha hH ht;have ZE:kC P g:=by
  obtain⟨fn,code,hf,Qw,P5,_⟩:=Pf;exact⟨fn,hf,P5,by simp[Qw]⟩
 simp only[na,Bool.and_eq_true,all_eq_true,Bool.or_eq_true,decide_eq_true_eq] at hx;refine q9 RQ (oE.of hp) (yn.value ho Pc ZE) Pf ?_ hr _ _ ?_
 ·rintro r s1 ⟨_,h1,_⟩ p ob Pe h2 h3;rw[h1] at h2;have m3:=hx.2 _ (bF _ _ _ h3);rw[fk] at h3;rcases hx.1 _ (bF _ _ _ h2) with hm | hm
  ·rw[if_pos (by simpa using hm)] at h3;cases h3
  ·simp only at m3 hm;omega
 ·rintro r s1 v w' σ' ⟨h1,h2,h3⟩ Pu hv _;subst h1;rw[h2,h3] at Pu;rw[h2] at hv;refine hK _ w' Q ⟨σ',Pu.put ?_ hv⟩ hQ;intro t e;rw[Pu.tm];rw[e] at hd
  simpa [bl] using hd
end
end Go.Can
