/- A contract under other num -/
import Derived.Test.YtlkmbdfhdknlgaaGreatZ15
namespace Go.Can
open List
mutual
/-- The objects' numbers turned. -/
def cN (ρ:Nat->Nat):CV->CV
 | .int k n=>.int k n
 | .bool b=>.bool b
 | .str s=>.str s
 | .agg cs=>.agg (aX ρ cs)
 | .ax cs n=>.ax cs n
 | .aj=>.aj
 | .cQ cs=>.cQ cs
 | .bJ=>.bJ
 | .fn f cs=>.fn f (aX ρ cs)
 | .cE=>.cE
 | .iface t cs=>.iface t (aX ρ cs)
 | .iter k s p=>.iter (ρ k) s p
 | .mp k es=>.mp (ρ k) es
 | .cB cs=>.cB (aX ρ cs)
 | .bb o f n=>.bb (ρ o) f n
 | .aw o f=>.aw (ρ o) f
 | .any=>.any
def aX (ρ:Nat->Nat):List CV->List CV
 | []=>[]
 | c::cs=>cN ρ c::aX ρ cs
end
theorem cc (ρ:Nat->Nat):∀ cs:List CV,aX ρ cs=cs.map (cN ρ)
 | []=>rfl
 | c::cs=>by rw[aX,cc ρ cs,map_cons]
theorem MJ (ρ:Nat->Nat)(c:CV):one (cN ρ c)=one c:=by cases c<;>rfl
theorem gE (ρ:Nat->Nat)(cs:List CV):(aX ρ cs).all one=cs.all one:=by
 induction cs with
 | nil=>rfl
 | cons c cs ih=>simp only[aX,all_cons,MJ,ih]
mutual
theorem VR.dq {w:World}{F:Nat->Prop}{σ:Nat->Option OB}(ρ:Nat->Nat):∀ (c:CV) (v:Value),VR w F σ (cN ρ c) v↔VR w F (λ p=>σ (ρ p)) c v
 | .int _ _,v=>by simp only[cN,VR]
 | .bool _,v=>by simp only[cN,VR]
 | .str _,v=>by simp only[cN,VR]
 | .agg cs,v=>by
  simp only[cN,VR,gE];constructor
  ·rintro⟨vs,h1,h2,h3⟩;exact⟨vs,h1,(a6.dq ρ cs vs).1 h2,h3⟩
  ·rintro⟨vs,h1,h2,h3⟩;exact⟨vs,h1,(a6.dq ρ cs vs).2 h2,h3⟩
 | .ax _ _,v=>by simp only[cN,VR]
 | .aj,v=>by simp only[cN,VR]
 | .cQ _,v=>by simp only[cN,VR]
 | .bJ,v=>by simp only[cN,VR]
 | .fn _ cs,v=>by
  simp only[cN,VR];constructor
  ·rintro⟨vs,h1,h2⟩;exact⟨vs,h1,(a6.dq ρ cs vs).1 h2⟩
  ·rintro⟨vs,h1,h2⟩;exact⟨vs,h1,(a6.dq ρ cs vs).2 h2⟩
 | .cE,v=>by simp only[cN,VR]
 | .iface _ cs,v=>by
  simp only[cN,VR];constructor
  ·rintro⟨vs,h1,h2⟩;exact⟨vs,h1,(a6.dq ρ cs vs).1 h2⟩
  ·rintro⟨vs,h1,h2⟩;exact⟨vs,h1,(a6.dq ρ cs vs).2 h2⟩
 | .iter _ _ _,v=>by simp only[cN,VR]
 | .mp _ _,v=>by simp only[cN,VR]
 | .cB cs,v=>by
  simp only[cN,VR];constructor
  ·rintro⟨vs,h1,h2⟩;exact⟨vs,h1,(a6.dq ρ cs vs).1 h2⟩
  ·rintro⟨vs,h1,h2⟩;exact⟨vs,h1,(a6.dq ρ cs vs).2 h2⟩
 | .bb _ _ _,v=>by simp only[cN,VR]
 | .aw _ _,v=>by simp only[cN,VR]
 | .any,v=>by simp only[cN,VR]
theorem a6.dq {w:World}{F:Nat->Prop}{σ:Nat->Option OB}(ρ:Nat->Nat):∀ (cs:List CV) (vs:List Value),a6 w F σ (aX ρ cs) vs↔a6 w F (λ p=>σ (ρ p)) cs vs
 | [],vs=>by simp only[aX,a6]
 | c::cs,vs=>by
  simp only[aX,a6];constructor
  ·rintro⟨v,r,h1,h2,h3⟩;exact⟨v,r,h1,(VR.dq ρ c v).1 h2,(a6.dq ρ cs r).1 h3⟩
  ·rintro⟨v,r,h1,h2,h3⟩;exact⟨v,r,h1,(VR.dq ρ c v).2 h2,(a6.dq ρ cs r).2 h3⟩
end
def bh (ρ:Nat->Nat)(ob:Ob):Ob:=⟨ob.elem,ob.sz,aX ρ ob.cells⟩
def bC (ρ:Nat->Nat):List (Nat×Ob)->List (Nat×Ob)
 | []=>[]
 | (k,ob)::r=>(ρ k,bh ρ ob)::bC ρ r
def cm (ρ:Nat->Nat):List (Nat×CV)->List (Nat×CV)
 | []=>[]
 | (t,c)::r=>(t,cN ρ c)::cm ρ r
theorem gm (ρ:Nat->Nat):∀ (e:List (Nat×CV)) (t:Nat),assoc (cm ρ e) t=(assoc e t).map (cN ρ)
 | [],t=>rfl
 | (k,c)::r,t=>by
  simp only[cm,assoc];split
  ·rfl
  ·exact gm ρ r t
theorem cz {ρ:Nat->Nat}(hi:∀ x y,ρ x=ρ y->x=y):∀ (H:List (Nat×Ob)) (o:Nat),assoc (bC ρ H) (ρ o)=(assoc H o).map (bh ρ)
 | [],o=>rfl
 | (k,c)::r,o=>by
  simp only[bC,assoc];by_cases h:k=o
  ·simp[h]
  ·have:¬ ρ k=ρ o:=λ e=>h (hi _ _ e);simp only[if_neg h,if_neg this];exact cz hi r o
theorem eY {ρ:Nat->Nat}:∀ (H:List (Nat×Ob)) (q:Nat) (ob:Ob),assoc (bC ρ H) q=some ob->∃ o,q=ρ o
 | [],q,ob,h=>by simp[bC,assoc] at h
 | (k,c)::r,q,ob,h=>by
  simp only[bC,assoc] at h;split at h
  ·rename_i e;exact⟨k,e.symm⟩
  ·exact eY r q ob h
section
variable {P:Program}{C:Cx}{σ:Nat->Option OB}{s:St}{a:Act}{w:World}{ops:Array Oper}{av:List (Nat×TI)}
theorem Hl (ρ:Nat->Nat)(cs:List CV)(k:Nat):aX ρ (cs.drop k)=(aX ρ cs).drop k:=by rw[cc,cc,map_drop]
theorem Hk (ρ:Nat->Nat)(cs:List CV)(k:Nat):aX ρ (cs.take k)=(aX ρ cs).take k:=by rw[cc,cc,map_take]
theorem gN (ρ:Nat->Nat)(cs:List CV):(aX ρ cs).length=cs.length:=by rw[cc,length_map]
theorem HK {ρ:Nat->Nat}(hi:∀ x y,ρ x=ρ y->x=y)(e:List (Nat×CV))(H:List (Nat×Ob))(n m:Nat)(c:CV)(ht:∀ cs,c=.cQ cs->aX ρ cs=cs):ib ⟨cm ρ e,bC ρ H,m⟩ (cN ρ c)=(ib ⟨e,H,n⟩ c).map (aX ρ):=by
 cases c with
 | cQ cs=>
  simp only[cN,ib,Option.map_some,Option.some.injEq];exact (ht cs rfl).symm
 | aw o off=>
  simp only[cN,ib,cz hi]
  cases assoc H o with
  | none=>rfl
  | some ob=>simp[bh,Hl]
 | _=>rfl
mutual
theorem cr.tree {w:World}{F:Nat->Prop}:∀ (c:CV) (v:Value),cr w F c v->Can.tree c=true
 | .int _ _,_,_=>rfl
 | .bool _,_,_=>rfl
 | .str _,_,_=>rfl
 | .agg cs,v,h=>by
  simp only[cr] at h;obtain⟨vs,_,h2,_⟩:=h;simp only[Can.tree];exact bZ.tree cs vs h2
 | .ax _ _,_,_=>rfl
 | .aj,_,_=>rfl
 | .cQ _,_,_=>rfl
 | .bJ,_,_=>rfl
 | .fn _ cs,v,h=>by
  simp only[cr] at h;obtain⟨vs,_,h2⟩:=h;simp only[Can.tree];exact bZ.tree cs vs h2
 | .cE,_,_=>rfl
 | .iface _ cs,v,h=>by
  simp only[cr] at h;obtain⟨vs,_,h2⟩:=h;simp only[Can.tree];exact bZ.tree cs vs h2
 | .iter _ _ _,v,h=>by simp[cr] at h
 | .mp _ _,v,h=>by simp[cr] at h
 | .cB cs,v,h=>by
  simp only[cr] at h;obtain⟨vs,_,h2⟩:=h;simp only[Can.tree];exact bZ.tree cs vs h2
 | .bb _ _ _,v,h=>by simp[cr] at h
 | .aw _ _,v,h=>by simp[cr] at h
 | .any,_,_=>rfl
theorem bZ.tree {w:World}{F:Nat->Prop}:∀ (cs:List CV) (vs:List Value),bZ w F cs vs->trees cs=true
 | [],_,_=>rfl
 | c::cs,vs,h=>by
  simp only[bZ] at h;obtain⟨v,r,_,h2,h3⟩:=h;simp only[trees,cr.tree c v h2,bZ.tree cs r h3,Bool.and_self]
end
theorem fF.tree {w:World}{F:Nat->Prop}:∀ (cs:List CV) (ad:Addr),fF w F cs ad->trees cs=true
 | [],_,_=>rfl
 | c::cs,ad,h=>by
  simp only[fF] at h;obtain⟨⟨u,_,_,h3⟩,_,h5⟩:=h;simp only[trees,cr.tree c u h3,fF.tree cs _ h5,Bool.and_self]
mutual
theorem iB (ρ:Nat->Nat):∀ c:CV,Can.tree c=true->cN ρ c=c
 | .int _ _,_=>rfl
 | .bool _,_=>rfl
 | .str _,_=>rfl
 | .agg cs,h=>by
  simp only[Can.tree] at h;rw[cN,af ρ cs h]
 | .ax _ _,_=>rfl
 | .aj,_=>rfl
 | .cQ _,_=>rfl
 | .bJ,_=>rfl
 | .fn _ cs,h=>by
  simp only[Can.tree] at h;rw[cN,af ρ cs h]
 | .cE,_=>rfl
 | .iface _ cs,h=>by
  simp only[Can.tree] at h;rw[cN,af ρ cs h]
 | .iter _ _ _,h=>by simp[Can.tree] at h
 | .mp _ _,h=>by simp[Can.tree] at h
 | .cB cs,h=>by
  simp only[Can.tree] at h;rw[cN,af ρ cs h]
 | .bb _ _ _,h=>by simp[Can.tree] at h
 | .aw _ _,h=>by simp[Can.tree] at h
 | .any,_=>rfl
theorem af (ρ:Nat->Nat):∀ cs:List CV,trees cs=true->aX ρ cs=cs
 | [],_=>rfl
 | c::cs,h=>by
  simp only[trees,Bool.and_eq_true] at h;rw[aX,iB ρ c h.1,af ρ cs h.2]
end
theorem H5 (ρ:Nat->Nat)(i:TI)(cs:List CV):mS i (aX ρ cs)=(mS i cs).map (cN ρ):=by
 unfold mS;rw[gN];split
 ·split
  ·simp[cN,Hk]
  ·rfl
 ·cases cs<;>rfl
theorem H0 {ρ:Nat->Nat}(hi:∀ x y,ρ x=ρ y->x=y){e:List (Nat×CV)}{H:List (Nat×Ob)}{n m:Nat}(ht:∀ t cs,assoc e t=some (.cQ cs)->aX ρ cs=cs)(r:ResultVar):ql av ⟨cm ρ e,bC ρ H,m⟩ r=(ql av ⟨e,H,n⟩ r).map (cN ρ):=by
 cases r with
 | tmp t=>exact gm ρ e t
 | cell x t=>
  simp only[ql,gm]
  cases hx:assoc e x with
  | none=>rfl
  | some c=>
   have hm:=HK hi e H n m c λ cs hc=>ht x cs (by rw[hx,hc])
   cases ht':assoc av t with
   | none=>rfl
   | some i=>
    simp only[Option.map_some,hm]
    cases ib ⟨e,H,n⟩ c with
    | none=>rfl
    | some cs=>exact H5 ρ i cs
theorem zI {ρ:Nat->Nat}(hi:∀ x y,ρ x=ρ y->x=y){e:List (Nat×CV)}{H:List (Nat×Ob)}{n m:Nat}(ht:∀ t cs,assoc e t=some (.cQ cs)->aX ρ cs=cs):∀ rs:List ResultVar,lE av ⟨cm ρ e,bC ρ H,m⟩ rs=(lE av ⟨e,H,n⟩ rs).map (aX ρ)
 | []=>rfl
 | r::rs=>by
  simp only[lE,H0 (n:=n) (m:=m) hi ht r,zI (n:=n) (m:=m) hi ht rs]
  cases ql av ⟨e,H,n⟩ r with
  | none=>rfl
  | some c=>cases lE av ⟨e,H,n⟩ rs<;>rfl
theorem sA {ρ:Nat->Nat}(hi:∀ x y,ρ x=ρ y->x=y){e:List (Nat×CV)}{H:List (Nat×Ob)}{n m:Nat}(ht:∀ t cs,assoc e t=some (.cQ cs)->aX ρ cs=cs)(fn:Func):bL av fn ⟨cm ρ e,bC ρ H,m⟩=(bL av fn ⟨e,H,n⟩).map (cN ρ):=by
 simp only[bL,zI (n:=n) (m:=m) hi ht]
 cases lE av ⟨e,H,n⟩ fn.results.toList with
 | none=>rfl
 | some cs=>
  match cs with
  | []=>rfl
  | [c]=>rfl
  | c::d::r=>rfl
theorem zD (ρ:Nat->Nat)(args:List CV):(enter (aX ρ args)).env=cm ρ (enter args).env:=by
 have:∀ (args:List CV) (k:Nat),((aX ρ args).zipIdx k).map (λ x=>(x.2,x.1))=cm ρ ((args.zipIdx k).map λ x=>(x.2,x.1)):=by
  intro args
  induction args with
  | nil=>intro k;rfl
  | cons c cs ih=>intro k;simp only[aX,zipIdx_cons,map_cons,cm,ih]
 exact this args 0
theorem Body.p7 {ρ:Nat->Nat}(hi:∀ x y,ρ x=ρ y->x=y){f:FuncId}{args:List CV}{H:List (Nat×Ob)}{n n':Nat}{R:CV->St->Prop}(hρ:∀ p,p<n->ρ p<n')(h:Body P av f args H n R)(ha:ba n args=true)(hH:dh n H=true)(hR:∀ r s,R r s->s.nx=n) :
  Body P av f (aX ρ args) (bC ρ H) n' λ r s=>∃ r1 s1,R r1 s1/\r=cN ρ r1/\s=⟨cm ρ s1.env,bC ρ s1.heap,n'⟩:=by
 obtain⟨fn,c,hf,hb,SW,hl,hT⟩:=h;refine⟨fn,c,hf,hb,SW,by rw[gN];exact hl,λ C' hC RR a w ⟨σ,hr⟩=>?_⟩;rw[zD] at hr;have RV:∀ (t:Nat) c o,assoc (enter args).env t=some c->aP o c=false->o<n:=λ t c o hc ho=>by
  obtain⟨_,h2⟩:=gD args 0 t c hc;have hm:c∈args:=mem_of_getElem? h2;rw[aT,all_eq_true] at ha;exact mw n c o (ha c hm) ho
 obtain⟨σt,hσt⟩:∃ σt:Nat->Option OB,σt=below (λ p=>σ (ρ p)) n λ _=>none:=⟨_,rfl⟩;have t1:∀ p,p<n->σt p=σ (ρ p):=λ p hp=>by rw[hσt];exact gS hp
 have t2:∀ p,n<=p->σt p=none:=λ p hp=>by rw[hσt];exact kU hp
 have SJ:∀ (G:List (Nat×Ob)),(∀ o ob,assoc G o=some ob->o<n)->∀ b,(C'.F b\/∃ o ob,assoc G o=some ob/\a7 σt o=some b)↔FB C' σ (bC ρ G) b:=λ G hG b=>by
  unfold FB;constructor
  ·rintro (h | ⟨o,ob,ho,hx⟩)
   ·exact .inl h
   ·refine .inr ⟨ρ o,bh ρ ob,by rw[cz hi,ho];rfl,?_⟩;unfold a7 at hx |-;rwa [t1 o (hG o ob ho)] at hx
  ·rintro (h | ⟨q,ob,hq,hx⟩)
   ·exact .inl h
   ·obtain⟨o,rfl⟩:=eY G q ob hq;rw[cz hi] at hq;obtain⟨R9,ho,_⟩:=Option.map_eq_some_iff.1 hq;refine .inr ⟨o,R9,ho,?_⟩;unfold a7 at hx |-;rwa [t1 o (hG o R9 ho)]
 have TY:∀ o ob,assoc H o=some ob->o<n:=λ o ob ho=>(jj hH o ob ho).1;have h0:aQ ⟨C'.w0,C'.F,C'.own,C'.hF,C'.nt,σt,n⟩ σt ⟨(enter args).env,H,n⟩ a w:=by
  have hK:cO w w (FB C' σ (bC ρ H)) (FB ⟨C'.w0,C'.F,C'.own,C'.hF,C'.nt,σt,n⟩ σt H):=cO.same λ b hx=>(SJ H TY b).1 hx;refine⟨hr.pQ,hr.tm,hr.os,hr.tape,hr.output,hr.size,hr.frame,?_,?_,?_,λ o ho=>t2 o ho,λ _ _=>rfl,Nat.le_refl _,λ o B b ho hB _=>by rw[t2 o ho] at hB;cases hB⟩
  ·intro t c hc;obtain⟨v,k1,k2⟩:=hr.env t (cN ρ c) (by rw[gm,hc];rfl);refine⟨v,k1,?_⟩;exact VR.bG hK _ _ (λ o ho=>t1 o (RV t c o hc ho)) ((VR.dq ρ c v).1 k2)
  ·intro o ob ho;obtain⟨B,m1,m2,m3,m4,m5⟩:=hr.obj (ρ o) (bh ρ ob) (by rw[cz hi,ho];rfl);have RS:=TY o ob ho;refine⟨B,by rw[t1 o RS];exact m1,m2,λ hb=>?_,by have:=m4;simp only[bh,gE] at this;exact this,λ b hb=>?_⟩
   ·have:=m3 hb;simp only[bh] at this;have hl:=gN ρ ob.cells;rw[this] at hl;exact eq_nil_of_length_eq_zero hl.symm
   ·obtain⟨cur,n1,n2,n3,n4,n5,n6⟩:=m5 b hb;simp only[bh,gN] at n5 n6;refine⟨cur,n1,n2,n3,n4,n5,?_⟩;exact a6.bG hK _ _ (λ p hp=>t1 p (fB n _ p (jj hH o ob ho).2 hp)) ((a6.dq ρ _ _).1 n6)
  ·intro o o' ob R9 b ho Sr hx TM;unfold a7 at hx TM;rw[t1 o (TY o ob ho)] at hx;rw[t1 o' (TY o' R9 Sr)] at TM;exact hi _ _ (hr.inj (ρ o) (ρ o') (bh ρ ob) (bh ρ R9) b (by rw[cz hi,ho];rfl) (by rw[cz hi,Sr];rfl) hx TM)
 refine wp_mono (hT ⟨C'.w0,C'.F,C'.own,C'.hF,C'.nt,σt,n⟩ hC rfl a w ⟨_,h0⟩) λ e a' w' ⟨s1,q,σ1,Tk⟩=>?_;have fin:aa ⟨C'.w0,C'.F,C'.own,C'.hF,C'.nt,σt,n⟩ (λ s'=>∃ r,bL av fn s'=some r/\R r s') s1 ->
   ∃ s',aa C' (λ s'=>∃ r,bL av fn s'=some r/\∃ r1 s1,R r1 s1/\r=cN ρ r1/\s'=⟨cm ρ s1.env,bC ρ s1.heap,n'⟩) s'/\Rel C' s' a' w':=λ⟨s2,⟨r,q1,q2⟩,hle⟩=>by
  obtain⟨σ2,Sx⟩:=hle _ _ ⟨σ1,Tk⟩;have VO:=hR r s2 q2;obtain⟨e2,H2,n2⟩:=s2;simp only at VO;subst VO;have hσ2:σ2=σt:=by
   funext p;rcases Nat.lt_or_ge p n2 with hp | hp
   ·exact Sx.gA p hp
   ·rw[Sx.nx p hp,t2 p hp]
  subst hσ2;have RS:∀ o B,σ2 o=some B->o<n2:=λ o B hB=>Nat.lt_of_not_le λ hle=>by rw[Sx.nx o hle] at hB;cases hB
  have WI:∀ o ob,assoc H2 o=some ob->o<n2:=λ o ob ho=>by
   obtain⟨B,m1,_⟩:=Sx.obj o ob ho;exact RS o B m1
  have hK:cO w' w' (FB ⟨C'.w0,C'.F,C'.own,C'.hF,C'.nt,σ2,n2⟩ σ2 H2) (FB C' σ (bC ρ H2)):=cO.same λ b hx=>(SJ H2 WI b).2 hx;refine⟨⟨cm ρ e2,bC ρ H2,n'⟩,aa.here ⟨cN ρ r,?_,r,_,q2,rfl,rfl⟩,σ,?_⟩
  ·rw[sA (n:=n2) hi (λ t cs hc=>?_),q1]
   ·rfl
   ·obtain⟨v,_,k2⟩:=Sx.env t _ hc;simp only[VR,cr] at k2;obtain⟨ad,_,h3⟩:=k2;exact af ρ cs (fF.tree cs ad h3)
  ·refine⟨Sx.pQ,Sx.tm,Sx.os,Sx.tape,Sx.output,Sx.size,Sx.frame,?_,?_,?_,hr.nx,hr.gA,by rw[RR];exact Nat.le_refl _,hr.new⟩
   ·intro t c hc;simp only[gm] at hc;obtain⟨d,hd,rfl⟩:=Option.map_eq_some_iff.1 hc;obtain⟨v,k1,k2⟩:=Sx.env t d hd;refine⟨v,k1,(VR.dq ρ d v).2 (VR.bG hK _ _ (λ o ho=>?_) k2)⟩;obtain⟨B,hB⟩:=VR.refs _ _ o k2 ho;exact (t1 o (RS o B hB)).symm
   ·intro q ob hq;obtain⟨o,rfl⟩:=eY H2 q ob hq;simp only[cz hi] at hq;obtain⟨R9,ho,rfl⟩:=Option.map_eq_some_iff.1 hq;obtain⟨B,m1,m2,m3,m4,m5⟩:=Sx.obj o R9 ho;refine⟨B,by rw[<- t1 o (WI o R9 ho)];exact m1,m2,λ hb=>by simp only[bh,m3 hb];rfl,by simp only[bh,gE];exact m4,λ b hb=>?_⟩;obtain⟨cur,n1,n2',n3,n4,n5,n6⟩:=m5 b hb;simp only[bh,gN];refine⟨cur,n1,n2',n3,n4,n5,(a6.dq ρ _ _).2 (a6.bG hK _ _ (λ p hp=>?_) n6)⟩;obtain⟨B',Uf⟩:=a6.refs _ _ p n6 hp;exact (t1 p (RS p B' Uf)).symm
   ·intro q q' ob R9 b hq T6 hx TM;obtain⟨o,rfl⟩:=eY H2 q ob hq;obtain⟨o',rfl⟩:=eY H2 q' R9 T6;simp only[cz hi] at hq T6;obtain⟨x,ho,_⟩:=Option.map_eq_some_iff.1 hq;obtain⟨x',Sr,_⟩:=Option.map_eq_some_iff.1 T6;unfold a7 at hx TM;rw[<- t1 o (WI o x ho)] at hx;rw[<- t1 o' (WI o' x' Sr)] at TM;rw[Sx.inj o o' x x' b ho Sr hx TM]
 cases e with
 | normal=>exact fin q
 | ret=>exact fin q
 | exit _=>exact q.elim
 | goto _=>exact q.elim
 | panic _=>exact q.elim
 | outgrown=>exact q.elim
def jE (a b p:Nat):Nat:=if p=a then b else if p=b then a else p
theorem L9 (a b:Nat):∀ x y,jE a b x=jE a b y->x=y:=by
 intro x y h;unfold jE at h;split at h<;>split at h<;>(try split at h)<;>(try split at h)<;>omega
theorem O9 {a b n m:Nat}(ha:a<n)(hb:b<m)(hn:n<=m):∀ p,p<n->jE a b p<m:=by
 intro p hp;unfold jE;split
 ·exact hb
 ·split<;>omega
theorem Body.retX {f:FuncId}{args:List CV}{H H1:List (Nat×Ob)}{n m:Nat}{r0:CV}(a b:Nat)(h:Body P av f args H n (jC r0 H1 n))(ha:a<n)(hb:b<m)(hn:n<=m)(hr:ba n args=true)(hH:dh n H=true)(ht:tree r0=true) :
  Body P av f (aX (jE a b) args) (bC (jE a b) H) m (jC r0 (bC (jE a b) H1) m):=
 (Body.p7 (L9 a b) (O9 ha hb hn) h hr hH λ r s h=>h.2.2).ret λ r s ⟨r1,s1,h1,h2,h3⟩=>by
  obtain⟨k1,k2,k3⟩:=h1;subst h3;rw[h2,k1,iB _ _ ht,k2];exact⟨rfl,rfl,rfl⟩
theorem TL.jM (Uu:aD P av){o:Oper}{l:List Oper}{c:Call}{g:FuncId}{args:List CV}{K:St->Prop}{r0:CV}{H1:List (Nat×Ob)}(a b:Nat)(ks:List Nat){H:List (Nat×Ob)}(n:Nat)(hb:Body P av g args H n (jC r0 H1 n))(hd:bm C.nt o.dst=true)(hg:bY ops s o=Option.some true)(ho:o.op=.call c)(Se:bM s c=Option.some (g,aX (jE a b) args))
  (hp:eZ s.heap ks=Option.some (bC (jE a b) H)) (han:a<n) (hbn:b<s.nx) (hn:n<=s.nx) (ha:ba n args=true) (hH:dh n H=true) (ht:tree r0=true) (ha2:ba s.nx (aX (jE a b) args)=true) (hH2:dh s.nx (bC (jE a b) H)=true) (hk:nu ks (bC (jE a b) H1)=true)
  (hK:TL P C ops l (St.put ⟨s.env,bC (jE a b) H1++ep s.heap ks,s.nx⟩ o.dst r0) K):TL P C ops (o::l) s K:=
 TL.cU Uu ks s.nx (hb.retX a b han hbn hn ha hH ht) hd hg ho Se hp (Nat.le_refl _) ha2 hH2 hk hK
variable {W:List uI}{nt N:Nat}{dyn:List (Nat×Nat)}{K:St->Prop}{i:Nat}{r:List Nat}{res:Nat->Er}
theorem RX.jM {o:Oper}{cl:Call}{g:FuncId}{args:List CV}{r0:CV}{H1:List (Nat×Ob)}(a b:Nat)(ks eT:List Nat){H:List (Nat×Ob)}(n:Nat)(hb:Body P av g args H n (jC r0 H1 n))(hi:ops[i]? = Option.some o)(hd:bm nt o.dst=true)(hg:bY ops s o=Option.some true)(hu:ct o=Option.some cl)(Se:bM s cl=Option.some (g,aX (jE a b) args))
  (hp:eZ s.heap ks=Option.some (bC (jE a b) H)) (han:a<n) (hbn:b<s.nx) (hn:n<=s.nx) (ha:ba n args=true) (hH:dh n H=true) (ht:tree r0=true) (ha2:ba s.nx (aX (jE a b) args)=true) (hH2:dh s.nx (bC (jE a b) H)=true) (hk:nu ks (bC (jE a b) H1)=true) (hv:Bi dyn res i ks=true) (hc:(eT.all λ p=>ks.contains p)=true) (hs:∀ p∈ks,p∉eT->assoc (bC (jE a b) H1) p=assoc (bC (jE a b) H) p)
  (hK:vu W dyn res i (qP r0 ks eT (bC (jE a b) H1))/\nh av W nt ops N dyn (Ec P av W nt ops N dyn K) r (note dyn res i (qP r0 ks eT (bC (jE a b) H1))) (St.put ⟨s.env,bC (jE a b) H1++ep s.heap ks,s.nx⟩ o.dst r0)):RX P av W nt ops N dyn K (i::r) res s:=
 RX.cU ks eT s.nx (hb.retX a b han hbn hn ha hH ht) hi hd hg hu Se hp (Nat.le_refl _) ha2 hH2 hk hv hc hs hK
attribute [simp] bC jE
end
open Go.RowKit
section
variable {C:Cx}{σ:Nat->Option OB}{s:St}{w:World}
theorem a6.BX {F:Nat->Prop}{c c':CV}(hc:∀ v,VR w F σ c v->VR w F σ c' v):∀ {cs:List CV} {vs:List Value} {i:Nat},cs[i]? = some c->a6 w F σ cs vs->a6 w F σ (cs.set i c') vs
 | [],_,_,h,_=>by simp at h
 | d::cs,_,0,h,⟨v,r,e,h1,h2⟩=>by
  simp only[getElem?_cons_zero,Option.some.injEq] at h;subst h;exact⟨v,r,e,hc v h1,h2⟩
 | d::cs,_,i+1,h,⟨v,r,e,h1,h2⟩=>by
  simp only[getElem?_cons_succ] at h;exact⟨v,r,e,h1,a6.BX hc h h2⟩
theorem vc {c:CV}(hc:one c=true):∀ (cs:List CV) (i:Nat),cs.all one=true->(cs.set i c).all one=true
 | [],_,h=>h
 | d::cs,0,h=>by
  simp only[all_cons,Bool.and_eq_true] at h;simp only[set_cons_zero,all_cons,hc,h.2,Bool.and_self]
 | d::cs,i+1,h=>by
  simp only[all_cons,Bool.and_eq_true] at h;simp only[set_cons_succ,all_cons,h.1,Bool.true_and];exact vc hc cs i h.2
theorem Le.nk (o i:Nat)(e:TypeId)(sz:Nat){ob:Ob}(ho:assoc s.heap o=some ob)(hi:ob.cells[i]? = some .aj):Le C s ⟨s.env,(s.nx,⟨e,sz,[]⟩)::uN s.heap o ⟨ob.elem,ob.sz,ob.cells.set i (.bb s.nx 0 0)⟩,s.nx+1⟩:=by
 intro a w ⟨σ,hr⟩;obtain⟨h1,h2⟩:=hr.fresh (World.grownBy.refl w none) (ob:=⟨e,sz,[]⟩) (B:=⟨none,0,sz⟩) rfl rfl (λ _=>rfl) (λ b hb=>by cases hb);have Sb:¬ s.nx=o:=λ h=>by
  obtain⟨B,m1,_⟩:=hr.obj o ob ho;rw[hr.nx o yA] at m1;cases m1
 have hG:(s.nx,(⟨e,sz,[]⟩:Ob))::uN s.heap o ⟨ob.elem,ob.sz,ob.cells.set i (.bb s.nx 0 0)⟩=uN ((s.nx,⟨e,sz,[]⟩)::s.heap) o ⟨ob.elem,ob.sz,ob.cells.set i (.bb s.nx 0 0)⟩:=by
  simp only[uN,if_neg Sb]
 have hoG:assoc ((s.nx,(⟨e,sz,[]⟩:Ob))::s.heap) o=some ob:=by simp only[assoc,if_neg Sb,ho]
 rw[hG];have Xm:=qV (C:=C) (σ:=sig σ s.nx ⟨none,0,sz⟩) ((s.nx,(⟨e,sz,[]⟩:Ob))::s.heap) o ⟨ob.elem,ob.sz,ob.cells.set i (.bb s.nx 0 0)⟩;refine⟨_,h1.pQ,h1.tm,h1.os,h1.tape,h1.output,h1.size,h1.frame,?_,?_,?_,h1.nx,h1.gA,h1.low,h1.new⟩
 ·intro t c hc;obtain⟨v,k1,k2⟩:=h1.env t c hc;exact⟨v,k1,by rw[Xm];exact k2⟩
 ·intro p x hp;simp only[fN] at hp;unfold ObR;rw[Xm];split at hp
  ·rename_i eo;subst eo;rw[hoG] at hp;simp only[Option.map_some,Option.some.injEq] at hp;subst hp;obtain⟨B,m1,m2,m3,m4,m5⟩:=h1.obj o ob hoG;refine⟨B,m1,m2,λ hb=>by simp[m3 hb] at hi,vc rfl _ _ m4,λ b hb=>?_⟩;obtain⟨cur,n1,n2,n3,n4,n5,n6⟩:=m5 b hb;refine⟨cur,n1,n2,n3,n4,by simpa using n5,?_⟩;simp only[length_set];refine a6.BX (λ v hv=>?_) hi n6;simp only[VR] at hv |-;exact⟨⟨none,0,sz⟩,dN,hv,trivial,trivial⟩
  ·exact h1.obj p x hp
 ·intro p p' x x' b hp Wh hb Sf;have dom:∀ q y,assoc (uN ((s.nx,(⟨e,sz,[]⟩:Ob))::s.heap) o ⟨ob.elem,ob.sz,ob.cells.set i (.bb s.nx 0 0)⟩) q=some y->∃ z,assoc ((s.nx,(⟨e,sz,[]⟩:Ob))::s.heap) q=some z:=λ q y hq=>by
   rw[fN] at hq;split at hq
   ·rename_i eo;subst eo;exact⟨ob,hoG⟩
   ·exact⟨y,hq⟩
  obtain⟨z,hz⟩:=dom p x hp;obtain⟨z',U4⟩:=dom p' x' Wh;exact h1.inj p p' z z' b hz U4 hb Sf
theorem Le.up (n:Nat)(h:s.nx<=n):Le C s ⟨s.env,s.heap,n⟩:=by
 intro a w ⟨σ,hr⟩;exact⟨σ,hr.pQ,hr.tm,hr.os,hr.tape,hr.output,hr.size,hr.frame,hr.env,hr.obj,hr.inj,λ o ho=>hr.nx o (Nat.le_trans h ho),hr.gA,Nat.le_trans hr.low h,hr.new⟩
end
section
variable {P:Program}{C:Cx}{s:St}{ops:Array Oper}{av:List (Nat×TI)}{Q:Exit->St->Prop}
def Kq (o:Oper):Bool:=match o.op with
 | .convert _ _ _=>true
 | _=>false
def cvS (av:List (Nat×TI))(s:St)(o:Oper):Option St:=match o.op with
 | .convert t u x=>match sI av s t u x with
  | some c=>some (s.put o.dst c)
  | none=>match ev s x,dM av t,dM av u with
   | some (.str b),some .str,some (.sl e)=>match dM av e with
    | some (.int .u8)=>if b.size<=1000000 then some (s.put o.dst (.ax (qO b) b.size)) else none
    | _=>none
   | _,_,_=>none
 | _=>none
theorem Ql (ht:aD P av){o:Oper}{s':St}(hd:bm C.nt o.dst=true)(h:cvS av s o=some s'):qU P C o s s':=by
 refine BB ht hd ?_;unfold cvS at h;unfold Fv;split at h
 ·rename_i t u x ho;rw[ho];simp only;split at h
  ·rename_i c hc;rw[hc];exact h
  ·rename_i hc;rw[hc];simp only;split at h
   ·rename_i b e h1 h2 h3;rw[h1,h2,h3];simp only;split at h
    ·rename_i h4;rw[h4];simp only;split at h
     ·rename_i hb;rw[if_pos hb];exact h
     ·cases h
    ·cases h
   ·cases h
 ·cases h
def LN (av:List (Nat×TI))(nt:Nat)(ops:Array Oper)(K:List Oper->St->Prop):List Oper->St->Prop
 | [],s=>K [] s
 | o::r,s=>if AP o then
   match bY ops s o with
   | some false=>zg (LN av nt ops K r) (gO av nt ops s o)
   | _=>K (o::r) s
  else if Kq o then
   match bY ops s o with
   | some true=>if bm nt o.dst=true then zg (LN av nt ops K r) (cvS av s o) else False
   | _=>zg (LN av nt ops K r) (gO av nt ops s o)
  else zg (LN av nt ops K r) (gO av nt ops s o)
theorem EP (ht:aD P av){K:St->Prop}:∀ (l:List Oper) (s:St),LN av C.nt ops (DK P C ops K) l s->TL P C ops l s K
 | [],s,h=>TL.nil h
 | o::r,s,h=>by
  have fin:zg (LN av C.nt ops (DK P C ops K) r) (gO av C.nt ops s o)->TL P C ops (o::r) s K:=λ h=>by
   cases hs:gO av C.nt ops s o with
   | none=>rw[hs] at h;exact h.elim
   | some s'=>rw[hs] at h;exact TL.step ht hs (EP ht r s' h)
  unfold LN at h;split at h
  ·split at h
   ·exact fin h
   ·exact h
  ·split at h
   ·split at h
    ·rename_i hg;split at h
     ·rename_i hd
      cases hs:cvS av s o with
      | none=>rw[hs] at h;exact h.elim
      | some s'=>rw[hs] at h;exact mK hg (Ql ht hd hs) (EP ht r s' h)
     ·exact h.elim
    ·exact fin h
   ·exact fin h
theorem TL.DN (ht:aD P av){K:St->Prop}{l:List Oper}(h:LN av C.nt ops (DK P C ops K) l s):TL P C ops l s K:=EP ht l s h
theorem T.DN (ht:aD P av){id:Nat}{l:List Oper}(h:LN av C.nt l.toArray (DK P C l.toArray (Q .normal)) l s):T P C (.region id l.toArray false) s Q:=T.region (TL.DN ht h)
attribute [simp] Kq cvS LN sI bytesOf cells?
end
section
variable {P:Program}{C:Cx}{σ:Nat->Option OB}{s:St}{a:Act}{w:World}{ops:Array Oper}{av:List (Nat×TI)}
theorem Body.grow {ρ:Nat->Nat}(hi:∀ x y,ρ x=ρ y->x=y){f:FuncId}{args:List CV}{H:List (Nat×Ob)}{n n' d:Nat}{R:CV->St->Prop}(hρ:∀ p,p<n->ρ p<n')(hρ2:∀ p,n<=p->ρ p=p-n+n')(h:Body P av f args H n R)(ha:ba n args=true)(hH:dh n H=true)(hR:∀ r s,R r s->s.nx=n+d) :
  Body P av f (aX ρ args) (bC ρ H) n' λ r s=>∃ r1 s1,R r1 s1/\r=cN ρ r1/\s=⟨cm ρ s1.env,bC ρ s1.heap,n' + d⟩:=by
 obtain⟨fn,c,hf,hb,SW,hl,hT⟩:=h;refine⟨fn,c,hf,hb,SW,by rw[gN];exact hl,λ C' hC RR a w ⟨σ,hr⟩=>?_⟩;rw[zD] at hr;have RV:∀ (t:Nat) c o,assoc (enter args).env t=some c->aP o c=false->o<n:=λ t c o hc ho=>by
  obtain⟨_,h2⟩:=gD args 0 t c hc;have hm:c∈args:=mem_of_getElem? h2;rw[aT,all_eq_true] at ha;exact mw n c o (ha c hm) ho
 obtain⟨σt,hσt⟩:∃ σt:Nat->Option OB,σt=below (λ p=>σ (ρ p)) n λ _=>none:=⟨_,rfl⟩;have t1:∀ p,p<n->σt p=σ (ρ p):=λ p hp=>by rw[hσt];exact gS hp
 have t2:∀ p,n<=p->σt p=none:=λ p hp=>by rw[hσt];exact kU hp
 have SJ:∀ (G:List (Nat×Ob)),(∀ o ob,assoc G o=some ob->o<n)->∀ b,(C'.F b\/∃ o ob,assoc G o=some ob/\a7 σt o=some b)↔FB C' σ (bC ρ G) b:=λ G hG b=>by
  unfold FB;constructor
  ·rintro (h | ⟨o,ob,ho,hx⟩)
   ·exact .inl h
   ·refine .inr ⟨ρ o,bh ρ ob,by rw[cz hi,ho];rfl,?_⟩;unfold a7 at hx |-;rwa [t1 o (hG o ob ho)] at hx
  ·rintro (h | ⟨q,ob,hq,hx⟩)
   ·exact .inl h
   ·obtain⟨o,rfl⟩:=eY G q ob hq;rw[cz hi] at hq;obtain⟨R9,ho,_⟩:=Option.map_eq_some_iff.1 hq;refine .inr ⟨o,R9,ho,?_⟩;unfold a7 at hx |-;rwa [t1 o (hG o R9 ho)]
 have TY:∀ o ob,assoc H o=some ob->o<n:=λ o ob ho=>(jj hH o ob ho).1;have h0:aQ ⟨C'.w0,C'.F,C'.own,C'.hF,C'.nt,σt,n⟩ σt ⟨(enter args).env,H,n⟩ a w:=by
  have hK:cO w w (FB C' σ (bC ρ H)) (FB ⟨C'.w0,C'.F,C'.own,C'.hF,C'.nt,σt,n⟩ σt H):=cO.same λ b hx=>(SJ H TY b).1 hx;refine⟨hr.pQ,hr.tm,hr.os,hr.tape,hr.output,hr.size,hr.frame,?_,?_,?_,λ o ho=>t2 o ho,λ _ _=>rfl,Nat.le_refl _,λ o B b ho hB _=>by rw[t2 o ho] at hB;cases hB⟩
  ·intro t c hc;obtain⟨v,k1,k2⟩:=hr.env t (cN ρ c) (by rw[gm,hc];rfl);refine⟨v,k1,?_⟩;exact VR.bG hK _ _ (λ o ho=>t1 o (RV t c o hc ho)) ((VR.dq ρ c v).1 k2)
  ·intro o ob ho;obtain⟨B,m1,m2,m3,m4,m5⟩:=hr.obj (ρ o) (bh ρ ob) (by rw[cz hi,ho];rfl);have RS:=TY o ob ho;refine⟨B,by rw[t1 o RS];exact m1,m2,λ hb=>?_,by have:=m4;simp only[bh,gE] at this;exact this,λ b hb=>?_⟩
   ·have:=m3 hb;simp only[bh] at this;have hl:=gN ρ ob.cells;rw[this] at hl;exact eq_nil_of_length_eq_zero hl.symm
   ·obtain⟨cur,n1,n2,n3,n4,n5,n6⟩:=m5 b hb;simp only[bh,gN] at n5 n6;refine⟨cur,n1,n2,n3,n4,n5,?_⟩;exact a6.bG hK _ _ (λ p hp=>t1 p (fB n _ p (jj hH o ob ho).2 hp)) ((a6.dq ρ _ _).1 n6)
  ·intro o o' ob R9 b ho Sr hx TM;unfold a7 at hx TM;rw[t1 o (TY o ob ho)] at hx;rw[t1 o' (TY o' R9 Sr)] at TM;exact hi _ _ (hr.inj (ρ o) (ρ o') (bh ρ ob) (bh ρ R9) b (by rw[cz hi,ho];rfl) (by rw[cz hi,Sr];rfl) hx TM)
 refine wp_mono (hT ⟨C'.w0,C'.F,C'.own,C'.hF,C'.nt,σt,n⟩ hC rfl a w ⟨_,h0⟩) λ e a' w' ⟨s1,q,σ1,Tk⟩=>?_;have fin:aa ⟨C'.w0,C'.F,C'.own,C'.hF,C'.nt,σt,n⟩ (λ s'=>∃ r,bL av fn s'=some r/\R r s') s1 ->
   ∃ s',aa C' (λ s'=>∃ r,bL av fn s'=some r/\∃ r1 s1,R r1 s1/\r=cN ρ r1/\s'=⟨cm ρ s1.env,bC ρ s1.heap,n' + d⟩) s'/\Rel C' s' a' w':=λ⟨s2,⟨r,q1,q2⟩,hle⟩=>by
  obtain⟨σ2,Sx⟩:=hle _ _ ⟨σ1,Tk⟩;have VO:=hR r s2 q2;obtain⟨e2,H2,n2⟩:=s2;simp only at VO;subst VO;obtain⟨σn,hσn⟩:∃ σn:Nat->Option OB,σn=λ q=>if q<n' then σ q else σ2 (q-n' + n):=⟨_,rfl⟩
  have u1:∀ q,q<n'->σn q=σ q:=λ q hq=>by rw[hσn];exact if_pos hq
  have u2:∀ q,n'<=q->σn q=σ2 (q-n' + n):=λ q hq=>by rw[hσn];exact if_neg yA
  have u3:∀ o,σn (ρ o)=σ2 o:=λ o=>by
   rcases Nat.lt_or_ge o n with ho | ho
   ·rw[u1 _ (hρ o ho),<- t1 o ho];exact (Sx.gA o ho).symm
   ·rw[hρ2 o ho,u2 _ yA];congr 1;omega
  have Td:∀ o,a7 σn (ρ o)=a7 σ2 o:=λ o=>by unfold a7;rw[u3]
  have Xm:∀ b,FB C' σn (bC ρ H2) b->FB ⟨C'.w0,C'.F,C'.own,C'.hF,C'.nt,σt,n⟩ σ2 H2 b:=by
   rintro b (h | ⟨q,ob,hq,hx⟩)
   ·exact .inl h
   ·obtain⟨o,rfl⟩:=eY H2 q ob hq;rw[cz hi] at hq;obtain⟨R9,ho,_⟩:=Option.map_eq_some_iff.1 hq;exact .inr ⟨o,R9,ho,by rwa [Td] at hx⟩
  have hK:cO w' w' (FB ⟨C'.w0,C'.F,C'.own,C'.hF,C'.nt,σt,n⟩ σ2 H2) (FB C' σn (bC ρ H2)):=cO.same λ b hx=>Xm b hx;refine⟨⟨cm ρ e2,bC ρ H2,n' + d⟩,aa.here ⟨cN ρ r,?_,r,_,q2,rfl,rfl⟩,σn,?_⟩
  ·rw[sA (n:=n+d) hi (λ t cs hc=>?_),q1]
   ·rfl
   ·obtain⟨v,_,k2⟩:=Sx.env t _ hc;simp only[VR,cr] at k2;obtain⟨ad,_,h3⟩:=k2;exact af ρ cs (fF.tree cs ad h3)
  ·refine⟨Sx.pQ,Sx.tm,Sx.os,Sx.tape,Sx.output,Sx.size,Sx.frame,?_,?_,?_,λ q hq=>?_,λ q hq=>?_,by rw[RR];exact Nat.le_add_right _ _,λ q B b hq hB hb=>?_⟩
   ·intro t c hc;simp only[gm] at hc;obtain⟨c',hd,rfl⟩:=Option.map_eq_some_iff.1 hc;obtain⟨v,k1,k2⟩:=Sx.env t c' hd;exact⟨v,k1,(VR.dq ρ c' v).2 (VR.bG hK _ _ (λ o _=>u3 o) k2)⟩
   ·intro q ob hq;obtain⟨o,rfl⟩:=eY H2 q ob hq;simp only[cz hi] at hq;obtain⟨R9,ho,rfl⟩:=Option.map_eq_some_iff.1 hq;obtain⟨B,m1,m2,m3,m4,m5⟩:=Sx.obj o R9 ho;refine⟨B,by rw[u3];exact m1,m2,λ hb=>by simp only[bh,m3 hb];rfl,by simp only[bh,gE];exact m4,λ b hb=>?_⟩;obtain⟨cur,n1,n2',n3,n4,n5,n6⟩:=m5 b hb;simp only[bh,gN];exact⟨cur,n1,n2',n3,n4,n5,(a6.dq ρ _ _).2 (a6.bG hK _ _ (λ p _=>u3 p) n6)⟩
   ·intro q q' ob R9 b hq T6 hx TM;obtain⟨o,rfl⟩:=eY H2 q ob hq;obtain⟨o',rfl⟩:=eY H2 q' R9 T6;simp only[cz hi] at hq T6;obtain⟨x,ho,_⟩:=Option.map_eq_some_iff.1 hq;obtain⟨x',Sr,_⟩:=Option.map_eq_some_iff.1 T6;rw[Td] at hx TM;rw[Sx.inj o o' x x' b ho Sr hx TM]
   ·simp only at hq;rw[u2 q yA];exact Sx.nx _ ZE
   ·rw[RR] at hq;rw[u1 q hq];exact hr.gA q (by rw[RR];exact hq)
   ·rw[RR] at hq;rw[u2 q hq] at hB;exact Sx.new _ B b ZE hB hb
 cases e with
 | normal=>exact fin q
 | ret=>exact fin q
 | exit _=>exact q.elim
 | goto _=>exact q.elim
 | panic _=>exact q.elim
 | outgrown=>exact q.elim
def bS (l:List Nat)(m p:Nat):Nat:=if p<l.length then l.getD p 0 else p-l.length+m
def Ip (l:List Nat)(m:Nat):Bool:=l.all (λ x=>decide (x<m)) && decide ((l.zipIdx).all λ x=>(l.zipIdx).all λ y=>x.1 != y.1 || x.2 == y.2)
theorem EB {l:List Nat}{m:Nat}(h:Ip l m=true):∀ p,p<l.length->bS l m p<m:=by
 intro p hp;simp only[Ip,Bool.and_eq_true,all_eq_true,decide_eq_true_eq] at h;unfold bS;rw[if_pos hp,getD_eq_getElem?_getD,getElem?_eq_getElem hp];exact h.1 _ (getElem_mem hp)
theorem F0 {l:List Nat}{m:Nat}(h:Ip l m=true):∀ x y,bS l m x=bS l m y->x=y:=by
 intro x y UN;have RS:=EB h;rcases Nat.lt_or_ge x l.length with hx | hx<;>rcases Nat.lt_or_ge y l.length with hy | hy
 ·simp only[Ip,Bool.and_eq_true,decide_eq_true_eq,all_eq_true] at h;have h2:=h.2;unfold bS at UN;rw[if_pos hx,if_pos hy,getD_eq_getElem?_getD,getD_eq_getElem?_getD,getElem?_eq_getElem hx,getElem?_eq_getElem hy] at UN;have mx:(l[x],x)∈l.zipIdx:=mk_mem_zipIdx_iff_getElem?.2 (getElem?_eq_getElem hx);have my:(l[y],y)∈l.zipIdx:=mk_mem_zipIdx_iff_getElem?.2 (getElem?_eq_getElem hy);have:=h2 _ mx _ my;simp only[Option.getD_some] at UN
  simpa [UN] using this
 ·have h1:=RS x hx;have h2:bS l m y=y-l.length+m:=if_neg yA;omega
 ·have h1:=RS y hy;have h2:bS l m x=x-l.length+m:=if_neg yA;omega
 ·have h1:bS l m x=x-l.length+m:=if_neg yA;have h2:bS l m y=y-l.length+m:=if_neg yA;omega
theorem Body.retN {f:FuncId}{args:List CV}{H H1:List (Nat×Ob)}{n m d:Nat}{r0:CV}(l:List Nat)(hl:l.length=n)(h:Body P av f args H n (jC r0 H1 (n+d)))(hk:Ip l m=true)(hr:ba n args=true)(hH:dh n H=true)(ht:tree r0=true) :
  Body P av f (aX (bS l m) args) (bC (bS l m) H) m (jC r0 (bC (bS l m) H1) (m+d)):=by
 subst hl;refine (Body.grow (F0 hk) (EB hk) (λ p hp=>if_neg yA) h hr hH λ r s h=>h.2.2).ret λ r s ⟨r1,s1,h1,h2,h3⟩=>?_;obtain⟨k1,k2,k3⟩:=h1;subst h3;rw[h2,k1,iB _ _ ht,k2];exact⟨rfl,rfl,rfl⟩
def nU (ks:List Nat)(m:Nat)(H D:List (Nat×Ob)):Bool:=(H.all λ x=>ks.contains x.1 || decide (m<=x.1)) && D.all λ x=>decide (x.1<m)
theorem TL.xW (Uu:aD P av){o:Oper}{l:List Oper}{c:Call}{g:FuncId}{args:List CV}{K:St->Prop}{r0:CV}{H H1:List (Nat×Ob)}(ns ks:List Nat)(n d:Nat)(hb:Body P av g args H n (jC r0 H1 (n+d)))(hl:ns.length=n)(hk:Ip ns s.nx=true)(hd:bm C.nt o.dst=true)(hg:bY ops s o=Option.some true)(ho:o.op=.call c)(Se:bM s c=Option.some (g,aX (bS ns s.nx) args))
  (hp:eZ s.heap ks=Option.some (bC (bS ns s.nx) H)) (ha:ba n args=true) (hH:dh n H=true) (ht:tree r0=true) (hx:nU ks s.nx (bC (bS ns s.nx) H1) (ep s.heap ks)=true)
  (hK:TL P C ops l (St.put ⟨s.env,bC (bS ns s.nx) H1++ep s.heap ks,s.nx+d⟩ o.dst r0) K):TL P C ops (o::l) s K:=by
 intro a w Q hr hQ;have hw:=eU hr hg;obtain⟨σ,hr⟩:=hr;unfold wpList;rw[if_pos hw];refine .inl ?_;have Sf:=hb.retN ns hl hk ha hH ht;have Zs:kW P g:=by
  obtain⟨fn,code,hf,Tm,SW,_⟩:=Sf;exact⟨fn,hf,SW,by simp[Tm]⟩
 simp only[nU,Bool.and_eq_true,all_eq_true,Bool.or_eq_true,decide_eq_true_eq] at hx;refine sJ Uu (pj.of hp) (qu.value ho Se Zs) Sf ?_ hr _ _ ?_
 ·rintro r s1 ⟨_,h1,_⟩ p ob R9 h2 h3;rw[h1] at h2;have m3:=hx.2 _ (bx _ _ _ h3);rw[fA] at h3;rcases hx.1 _ (bx _ _ _ h2) with hm | hm
  ·rw[if_pos (by simpa using hm)] at h3;cases h3
  ·simp only at m3 hm;omega
 ·rintro r s1 v w' σ' ⟨h1,h2,h3⟩ So hv _;subst h1;rw[h2,h3] at So;rw[h2] at hv;refine hK _ w' Q ⟨σ',So.put ?_ hv⟩ hQ;intro t e;rw[So.tm];rw[e] at hd
  simpa [bm] using hd
end
end Go.Can
