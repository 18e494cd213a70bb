/- A contract under other numbers. No function of the program i -/
import Derived.Test.YtnecpnjdonibmaaGreatZ20
namespace Go.Can
mutual
/-- The objects' numbers turned. -/
def dR (ρ:Nat→Nat):CV→CV
 | .int k n=>.int k n
 | .bool b=>.bool b
 | .str s=>.str s
 | .agg cs=>.agg (cq ρ cs)
 | .az cs n=>.az cs n
 | .ai=>.ai
 | .cA cs=>.cA cs
 | .bG=>.bG
 | .fn f cs=>.fn f (cq ρ cs)
 | .cd=>.cd
 | .iface t cs=>.iface t (cq ρ cs)
 | .iter k s p=>.iter (ρ k) s p
 | .mp k es=>.mp (ρ k) es
 | .dH cs=>.dH (cq ρ cs)
 | .bj o f n=>.bj (ρ o) f n
 | .av o f=>.av (ρ o) f
 | .any=>.any
def cq (ρ:Nat→Nat):List CV→List CV
 | []=>[]
 | c::cs=>dR ρ c::cq ρ cs
end
theorem mX (ρ:Nat→Nat):∀ cs:List CV,cq ρ cs=cs.map (dR ρ)
 | []=>rfl
 | c::cs=>by rw[cq,mX ρ cs,List.map_cons]
theorem JH (ρ:Nat→Nat)(c:CV):one (dR ρ c)=one c:=by cases c<;>rfl
theorem fv (ρ:Nat→Nat)(cs:List CV):(cq ρ cs).all one=cs.all one:=by
 induction cs with
 | nil=>rfl
 | cons c cs ih=>simp only[cq,List.all_cons,JH,ih]
mutual
theorem VR.cP {w:World}{F:Nat→Prop}{σ:Nat→Option OB}(ρ:Nat→Nat):∀ (c:CV) (v:Value),VR w F σ (dR ρ c) v↔VR w F (fun p=>σ (ρ p)) c v
 | .int _ _,v=>by simp only[dR,VR]
 | .bool _,v=>by simp only[dR,VR]
 | .str _,v=>by simp only[dR,VR]
 | .agg cs,v=>by
  simp only[dR,VR,fv];constructor
  ·rintro⟨vs,h1,h2,h3⟩;exact⟨vs,h1,(aN.cP ρ cs vs).1 h2,h3⟩
  ·rintro⟨vs,h1,h2,h3⟩;exact⟨vs,h1,(aN.cP ρ cs vs).2 h2,h3⟩
 | .az _ _,v=>by simp only[dR,VR]
 | .ai,v=>by simp only[dR,VR]
 | .cA _,v=>by simp only[dR,VR]
 | .bG,v=>by simp only[dR,VR]
 | .fn _ cs,v=>by
  simp only[dR,VR];constructor
  ·rintro⟨vs,h1,h2⟩;exact⟨vs,h1,(aN.cP ρ cs vs).1 h2⟩
  ·rintro⟨vs,h1,h2⟩;exact⟨vs,h1,(aN.cP ρ cs vs).2 h2⟩
 | .cd,v=>by simp only[dR,VR]
 | .iface _ cs,v=>by
  simp only[dR,VR];constructor
  ·rintro⟨vs,h1,h2⟩;exact⟨vs,h1,(aN.cP ρ cs vs).1 h2⟩
  ·rintro⟨vs,h1,h2⟩;exact⟨vs,h1,(aN.cP ρ cs vs).2 h2⟩
 | .iter _ _ _,v=>by simp only[dR,VR]
 | .mp _ _,v=>by simp only[dR,VR]
 | .dH cs,v=>by
  simp only[dR,VR];constructor
  ·rintro⟨vs,h1,h2⟩;exact⟨vs,h1,(aN.cP ρ cs vs).1 h2⟩
  ·rintro⟨vs,h1,h2⟩;exact⟨vs,h1,(aN.cP ρ cs vs).2 h2⟩
 | .bj _ _ _,v=>by simp only[dR,VR]
 | .av _ _,v=>by simp only[dR,VR]
 | .any,v=>by simp only[dR,VR]
theorem aN.cP {w:World}{F:Nat→Prop}{σ:Nat→Option OB}(ρ:Nat→Nat):∀ (cs:List CV) (vs:List Value),aN w F σ (cq ρ cs) vs↔aN w F (fun p=>σ (ρ p)) cs vs
 | [],vs=>by simp only[cq,aN]
 | c::cs,vs=>by
  simp only[cq,aN];constructor
  ·rintro⟨v,r,h1,h2,h3⟩;exact⟨v,r,h1,(VR.cP ρ c v).1 h2,(aN.cP ρ cs r).1 h3⟩
  ·rintro⟨v,r,h1,h2,h3⟩;exact⟨v,r,h1,(VR.cP ρ c v).2 h2,(aN.cP ρ cs r).2 h3⟩
end
def ct (ρ:Nat→Nat)(ob:Ob):Ob:=⟨ob.elem,ob.sz,cq ρ ob.cells⟩
def cb (ρ:Nat→Nat):List (Nat×Ob)→List (Nat×Ob)
 | []=>[]
 | (k,ob)::r=>(ρ k,ct ρ ob)::cb ρ r
def dC (ρ:Nat→Nat):List (Nat×CV)→List (Nat×CV)
 | []=>[]
 | (t,c)::r=>(t,dR ρ c)::dC ρ r
theorem e9 (ρ:Nat→Nat):∀ (e:List (Nat×CV)) (t:Nat),assoc (dC ρ e) t=(assoc e t).map (dR ρ)
 | [],t=>rfl
 | (k,c)::r,t=>by
  simp only[dC,assoc];split
  ·rfl
  ·exact e9 ρ r t
theorem ca {ρ:Nat→Nat}(hi:∀ x y,ρ x=ρ y→x=y):∀ (H:List (Nat×Ob)) (o:Nat),assoc (cb ρ H) (ρ o)=(assoc H o).map (ct ρ)
 | [],o=>rfl
 | (k,c)::r,o=>by
  simp only[cb,assoc];by_cases h:k=o
  ·simp[h]
  ·have:¬ ρ k=ρ o:=fun e=>h (hi _ _ e);simp only[if_neg h,if_neg this];exact ca hi r o
theorem dM {ρ:Nat→Nat}:∀ (H:List (Nat×Ob)) (q:Nat) (ob:Ob),assoc (cb ρ H) q=some ob→∃ o,q=ρ o
 | [],q,ob,h=>by simp[cb,assoc] at h
 | (k,c)::r,q,ob,h=>by
  simp only[cb,assoc] at h;split at h
  ·rename_i e;exact⟨k,e.symm⟩
  ·exact dM r q ob h
section
variable {P:Program}{C:Cx}{σ:Nat→Option OB}{s:St}{a:Act}{w:World}{ops:Array Oper}{au:List (Nat×TI)}
theorem D4 (ρ:Nat→Nat)(cs:List CV)(k:Nat):cq ρ (cs.drop k)=(cq ρ cs).drop k:=by rw[mX,mX,List.map_drop]
theorem D3 (ρ:Nat→Nat)(cs:List CV)(k:Nat):cq ρ (cs.take k)=(cq ρ cs).take k:=by rw[mX,mX,List.map_take]
theorem fI (ρ:Nat→Nat)(cs:List CV):(cq ρ cs).length=cs.length:=by rw[mX,List.length_map]
theorem Ey {ρ:Nat→Nat}(hi:∀ x y,ρ x=ρ y→x=y)(e:List (Nat×CV))(H:List (Nat×Ob))(n m:Nat)(c:CV)(ht:∀ cs,c=.cA cs→cq ρ cs=cs):gh ⟨dC ρ e,cb ρ H,m⟩ (dR ρ c)=(gh ⟨e,H,n⟩ c).map (cq ρ):=by
 cases c with
 | cA cs=>
  simp only[dR,gh,Option.map_some,Option.some.injEq];exact (ht cs rfl).symm
 | av o off=>
  simp only[dR,gh,ca hi]
  cases assoc H o with
  | none=>rfl
  | some ob=>simp[ct,D4]
 | _=>rfl
mutual
theorem ch.tree {w:World}{F:Nat→Prop}:∀ (c:CV) (v:Value),ch w F c v→Can.tree c=true
 | .int _ _,_,_=>rfl
 | .bool _,_,_=>rfl
 | .str _,_,_=>rfl
 | .agg cs,v,h=>by
  simp only[ch] at h;obtain⟨vs,_,h2,_⟩:=h;simp only[Can.tree];exact bP.tree cs vs h2
 | .az _ _,_,_=>rfl
 | .ai,_,_=>rfl
 | .cA _,_,_=>rfl
 | .bG,_,_=>rfl
 | .fn _ cs,v,h=>by
  simp only[ch] at h;obtain⟨vs,_,h2⟩:=h;simp only[Can.tree];exact bP.tree cs vs h2
 | .cd,_,_=>rfl
 | .iface _ cs,v,h=>by
  simp only[ch] at h;obtain⟨vs,_,h2⟩:=h;simp only[Can.tree];exact bP.tree cs vs h2
 | .iter _ _ _,v,h=>by simp[ch] at h
 | .mp _ _,v,h=>by simp[ch] at h
 | .dH cs,v,h=>by
  simp only[ch] at h;obtain⟨vs,_,h2⟩:=h;simp only[Can.tree];exact bP.tree cs vs h2
 | .bj _ _ _,v,h=>by simp[ch] at h
 | .av _ _,v,h=>by simp[ch] at h
 | .any,_,_=>rfl
theorem bP.tree {w:World}{F:Nat→Prop}:∀ (cs:List CV) (vs:List Value),bP w F cs vs→trees cs=true
 | [],_,_=>rfl
 | c::cs,vs,h=>by
  simp only[bP] at h;obtain⟨v,r,_,h2,h3⟩:=h;simp only[trees,ch.tree c v h2,bP.tree cs r h3,Bool.and_self]
end
theorem fN.tree {w:World}{F:Nat→Prop}:∀ (cs:List CV) (ad:Addr),fN w F cs ad→trees cs=true
 | [],_,_=>rfl
 | c::cs,ad,h=>by
  simp only[fN] at h;obtain⟨⟨u,_,_,h3⟩,_,h5⟩:=h;simp only[trees,ch.tree c u h3,fN.tree cs _ h5,Bool.and_self]
mutual
theorem gB (ρ:Nat→Nat):∀ c:CV,Can.tree c=true→dR ρ c=c
 | .int _ _,_=>rfl
 | .bool _,_=>rfl
 | .str _,_=>rfl
 | .agg cs,h=>by
  simp only[Can.tree] at h;rw[dR,ay ρ cs h]
 | .az _ _,_=>rfl
 | .ai,_=>rfl
 | .cA _,_=>rfl
 | .bG,_=>rfl
 | .fn _ cs,h=>by
  simp only[Can.tree] at h;rw[dR,ay ρ cs h]
 | .cd,_=>rfl
 | .iface _ cs,h=>by
  simp only[Can.tree] at h;rw[dR,ay ρ cs h]
 | .iter _ _ _,h=>by simp[Can.tree] at h
 | .mp _ _,h=>by simp[Can.tree] at h
 | .dH cs,h=>by
  simp only[Can.tree] at h;rw[dR,ay ρ cs h]
 | .bj _ _ _,h=>by simp[Can.tree] at h
 | .av _ _,h=>by simp[Can.tree] at h
 | .any,_=>rfl
theorem ay (ρ:Nat→Nat):∀ cs:List CV,trees cs=true→cq ρ cs=cs
 | [],_=>rfl
 | c::cs,h=>by
  simp only[trees,Bool.and_eq_true] at h;rw[cq,gB ρ c h.1,ay ρ cs h.2]
end
theorem EY (ρ:Nat→Nat)(i:TI)(cs:List CV):lj i (cq ρ cs)=(lj i cs).map (dR ρ):=by
 unfold lj;rw[fI];split
 ·split
  ·simp[dR,D3]
  ·rfl
 ·cases cs<;>rfl
theorem EV {ρ:Nat→Nat}(hi:∀ x y,ρ x=ρ y→x=y){e:List (Nat×CV)}{H:List (Nat×Ob)}{n m:Nat}(ht:∀ t cs,assoc e t=some (.cA cs)→cq ρ cs=cs)(r:ResultVar):nY au ⟨dC ρ e,cb ρ H,m⟩ r=(nY au ⟨e,H,n⟩ r).map (dR ρ):=by
 cases r with
 | tmp t=>exact e9 ρ e t
 | cell x t=>
  simp only[nY,e9]
  cases hx:assoc e x with
  | none=>rfl
  | some c=>
   have hm:=Ey hi e H n m c fun cs hc=>ht x cs (by rw[hx,hc])
   cases ht':assoc au t with
   | none=>rfl
   | some i=>
    simp only[Option.map_some,hm]
    cases gh ⟨e,H,n⟩ c with
    | none=>rfl
    | some cs=>exact EY ρ i cs
theorem wK {ρ:Nat→Nat}(hi:∀ x y,ρ x=ρ y→x=y){e:List (Nat×CV)}{H:List (Nat×Ob)}{n m:Nat}(ht:∀ t cs,assoc e t=some (.cA cs)→cq ρ cs=cs):∀ rs:List ResultVar,jY au ⟨dC ρ e,cb ρ H,m⟩ rs=(jY au ⟨e,H,n⟩ rs).map (cq ρ)
 | []=>rfl
 | r::rs=>by
  simp only[jY,EV (n:=n) (m:=m) hi ht r,wK (n:=n) (m:=m) hi ht rs]
  cases nY au ⟨e,H,n⟩ r with
  | none=>rfl
  | some c=>cases jY au ⟨e,H,n⟩ rs<;>rfl
theorem pB {ρ:Nat→Nat}(hi:∀ x y,ρ x=ρ y→x=y){e:List (Nat×CV)}{H:List (Nat×Ob)}{n m:Nat}(ht:∀ t cs,assoc e t=some (.cA cs)→cq ρ cs=cs)(fn:Func):bD au fn ⟨dC ρ e,cb ρ H,m⟩=(bD au fn ⟨e,H,n⟩).map (dR ρ):=by
 simp only[bD,wK (n:=n) (m:=m) hi ht]
 cases jY au ⟨e,H,n⟩ fn.results.toList with
 | none=>rfl
 | some cs=>
  match cs with
  | []=>rfl
  | [c]=>rfl
  | c::d::r=>rfl
theorem wF (ρ:Nat→Nat)(args:List CV):(enter (cq ρ args)).env=dC ρ (enter args).env:=by
 have:∀ (args:List CV) (k:Nat),((cq ρ args).zipIdx k).map (fun x=>(x.2,x.1))=dC ρ ((args.zipIdx k).map fun x=>(x.2,x.1)):=by
  intro args
  induction args with
  | nil=>intro k;rfl
  | cons c cs ih=>intro k;simp only[cq,List.zipIdx_cons,List.map_cons,dC,ih]
 exact this args 0
theorem Body.nB {ρ:Nat→Nat}(hi:∀ x y,ρ x=ρ y→x=y){f:FuncId}{args:List CV}{H:List (Nat×Ob)}{n n':Nat}{R:CV→St→Prop}(hρ:∀ p,p<n→ρ p<n')(h:Body P au f args H n R)(ha:aS n args=true)(hH:cT n H=true)(hR:∀ r s,R r s→s.nx=n) :
  Body P au f (cq ρ args) (cb ρ H) n' fun r s=>∃ r1 s1,R r1 s1∧r=dR ρ r1∧s=⟨dC ρ s1.env,cb ρ s1.heap,n'⟩:=by
 obtain⟨fn,c,hf,hb,QH,hl,hT⟩:=h;refine⟨fn,c,hf,hb,QH,by rw[fI];exact hl,fun C' hC PN a w ⟨σ,hr⟩=>?_⟩;rw[wF] at hr;have PT:∀ (t:Nat) c o,assoc (enter args).env t=some c→aK o c=false→o<n:=fun t c o hc ho=>by
  obtain⟨_,h2⟩:=eI args 0 t c hc;have hm:c∈args:=List.mem_of_getElem? h2;rw[cr,List.all_eq_true] at ha;exact kO n c o (ha c hm) ho
 obtain⟨σt,hσt⟩:∃ σt:Nat→Option OB,σt=below (fun p=>σ (ρ p)) n fun _=>none:=⟨_,rfl⟩;have t1:∀ p,p<n→σt p=σ (ρ p):=fun p hp=>by rw[hσt];exact fM hp
 have t2:∀ p,n≤p→σt p=none:=fun p hp=>by rw[hσt];exact jI hp
 have QB:∀ (G:List (Nat×Ob)),(∀ o ob,assoc G o=some ob→o<n)→∀ b,(C'.F b∨∃ o ob,assoc G o=some ob∧aT σt o=some b)↔FB C' σ (cb ρ G) b:=fun G hG b=>by
  unfold FB;constructor
  ·rintro (h | ⟨o,ob,ho,hx⟩)
   ·exact .inl h
   ·refine .inr ⟨ρ o,ct ρ ob,by rw[ca hi,ho];rfl,?_⟩;unfold aT at hx ⊢;rwa [t1 o (hG o ob ho)] at hx
  ·rintro (h | ⟨q,ob,hq,hx⟩)
   ·exact .inl h
   ·obtain⟨o,rfl⟩:=dM G q ob hq;rw[ca hi] at hq;obtain⟨P6,ho,_⟩:=Option.map_eq_some_iff.1 hq;refine .inr ⟨o,P6,ho,?_⟩;unfold aT at hx ⊢;rwa [t1 o (hG o P6 ho)]
 have RL:∀ o ob,assoc H o=some ob→o<n:=fun o ob ho=>(ib hH o ob ho).1;have h0:aL ⟨C'.w0,C'.F,C'.own,C'.hF,C'.nt,σt,n⟩ σt ⟨(enter args).env,H,n⟩ a w:=by
  have hK:ck w w (FB C' σ (cb ρ H)) (FB ⟨C'.w0,C'.F,C'.own,C'.hF,C'.nt,σt,n⟩ σt H):=ck.same fun b hx=>(QB H RL b).1 hx;refine⟨hr.mD,hr.tm,hr.os,hr.tape,hr.output,hr.size,hr.frame,?_,?_,?_,fun o ho=>t2 o ho,fun _ _=>rfl,Nat.le_refl _,fun o B b ho hB _=>by rw[t2 o ho] at hB;cases hB⟩
  ·intro t c hc;obtain⟨v,k1,k2⟩:=hr.env t (dR ρ c) (by rw[e9,hc];rfl);refine⟨v,k1,?_⟩;exact VR.bg hK _ _ (fun o ho=>t1 o (PT t c o hc ho)) ((VR.cP ρ c v).1 k2)
  ·intro o ob ho;obtain⟨B,m1,m2,m3,m4,m5⟩:=hr.obj (ρ o) (ct ρ ob) (by rw[ca hi,ho];rfl);have PQ:=RL o ob ho;refine⟨B,by rw[t1 o PQ];exact m1,m2,fun hb=>?_,by have:=m4;simp only[ct,fv] at this;exact this,fun b hb=>?_⟩
   ·have:=m3 hb;simp only[ct] at this;have hl:=fI ρ ob.cells;rw[this] at hl;exact List.eq_nil_of_length_eq_zero hl.symm
   ·obtain⟨cur,n1,n2,n3,n4,n5,n6⟩:=m5 b hb;simp only[ct,fI] at n5 n6;refine⟨cur,n1,n2,n3,n4,n5,?_⟩;exact aN.bg hK _ _ (fun p hp=>t1 p (ep n _ p (ib hH o ob ho).2 hp)) ((aN.cP ρ _ _).1 n6)
  ·intro o o' ob P6 b ho Qu hx RD;unfold aT at hx RD;rw[t1 o (RL o ob ho)] at hx;rw[t1 o' (RL o' P6 Qu)] at RD;exact hi _ _ (hr.inj (ρ o) (ρ o') (ct ρ ob) (ct ρ P6) b (by rw[ca hi,ho];rfl) (by rw[ca hi,Qu];rfl) hx RD)
 refine wp_mono (hT ⟨C'.w0,C'.F,C'.own,C'.hF,C'.nt,σt,n⟩ hC rfl a w ⟨_,h0⟩) fun e a' w' ⟨s1,q,σ1,QG⟩=>?_;have fin:aa ⟨C'.w0,C'.F,C'.own,C'.hF,C'.nt,σt,n⟩ (fun s'=>∃ r,bD au fn s'=some r∧R r s') s1 →
   ∃ s',aa C' (fun s'=>∃ r,bD au fn s'=some r∧∃ r1 s1,R r1 s1∧r=dR ρ r1∧s'=⟨dC ρ s1.env,cb ρ s1.heap,n'⟩) s'∧Rel C' s' a' w':=fun⟨s2,⟨r,q1,q2⟩,hle⟩=>by
  obtain⟨σ2,Qg⟩:=hle _ _ ⟨σ1,QG⟩;have Tv:=hR r s2 q2;obtain⟨e2,H2,n2⟩:=s2;simp only at Tv;subst Tv;have hσ2:σ2=σt:=by
   funext p;rcases Nat.lt_or_ge p n2 with hp | hp
   ·exact Qg.gy p hp
   ·rw[Qg.nx p hp,t2 p hp]
  subst hσ2;have PQ:∀ o B,σ2 o=some B→o<n2:=fun o B hB=>Nat.lt_of_not_le fun hle=>by rw[Qg.nx o hle] at hB;cases hB
  have Us:∀ o ob,assoc H2 o=some ob→o<n2:=fun o ob ho=>by
   obtain⟨B,m1,_⟩:=Qg.obj o ob ho;exact PQ o B m1
  have hK:ck w' w' (FB ⟨C'.w0,C'.F,C'.own,C'.hF,C'.nt,σ2,n2⟩ σ2 H2) (FB C' σ (cb ρ H2)):=ck.same fun b hx=>(QB H2 Us b).2 hx;refine⟨⟨dC ρ e2,cb ρ H2,n'⟩,aa.here ⟨dR ρ r,?_,r,_,q2,rfl,rfl⟩,σ,?_⟩
  ·rw[pB (n:=n2) hi (fun t cs hc=>?_),q1]
   ·rfl
   ·obtain⟨v,_,k2⟩:=Qg.env t _ hc;simp only[VR,ch] at k2;obtain⟨ad,_,h3⟩:=k2;exact ay ρ cs (fN.tree cs ad h3)
  ·refine⟨Qg.mD,Qg.tm,Qg.os,Qg.tape,Qg.output,Qg.size,Qg.frame,?_,?_,?_,hr.nx,hr.gy,by rw[PN];exact Nat.le_refl _,hr.new⟩
   ·intro t c hc;simp only[e9] at hc;obtain⟨d,hd,rfl⟩:=Option.map_eq_some_iff.1 hc;obtain⟨v,k1,k2⟩:=Qg.env t d hd;refine⟨v,k1,(VR.cP ρ d v).2 (VR.bg hK _ _ (fun o ho=>?_) k2)⟩;obtain⟨B,hB⟩:=VR.refs _ _ o k2 ho;exact (t1 o (PQ o B hB)).symm
   ·intro q ob hq;obtain⟨o,rfl⟩:=dM H2 q ob hq;simp only[ca hi] at hq;obtain⟨P6,ho,rfl⟩:=Option.map_eq_some_iff.1 hq;obtain⟨B,m1,m2,m3,m4,m5⟩:=Qg.obj o P6 ho;refine⟨B,by rw[← t1 o (Us o P6 ho)];exact m1,m2,fun hb=>by simp only[ct,m3 hb];rfl,by simp only[ct,fv];exact m4,fun b hb=>?_⟩;obtain⟨cur,n1,Y2,n3,n4,n5,n6⟩:=m5 b hb;simp only[ct,fI];refine⟨cur,n1,Y2,n3,n4,n5,(aN.cP ρ _ _).2 (aN.bg hK _ _ (fun p hp=>?_) n6)⟩;obtain⟨B',RM⟩:=aN.refs _ _ p n6 hp;exact (t1 p (PQ p B' RM)).symm
   ·intro q q' ob P6 b hq SO hx RD;obtain⟨o,rfl⟩:=dM H2 q ob hq;obtain⟨o',rfl⟩:=dM H2 q' P6 SO;simp only[ca hi] at hq SO;obtain⟨x,ho,_⟩:=Option.map_eq_some_iff.1 hq;obtain⟨x',Qu,_⟩:=Option.map_eq_some_iff.1 SO;unfold aT at hx RD;rw[← t1 o (Us o x ho)] at hx;rw[← t1 o' (Us o' x' Qu)] at RD;rw[Qg.inj o o' x x' b ho Qu hx RD]
 cases e with
 | normal=>exact fin q
 | ret=>exact fin q
 | exit _=>exact q.elim
 | goto _=>exact q.elim
 | panic _=>exact q.elim
 | outgrown=>exact q.elim
def swp (a b p:Nat):Nat:=if p=a then b else if p=b then a else p
theorem Jd (a b:Nat):∀ x y,swp a b x=swp a b y→x=y:=by
 intro x y h;unfold swp at h;split at h<;>split at h<;>(try split at h)<;>(try split at h)<;>omega
theorem LM {a b n m:Nat}(ha:a<n)(hb:b<m)(hn:n≤m):∀ p,p<n→swp a b p<m:=by
 intro p hp;unfold swp;split
 ·exact hb
 ·split<;>omega
theorem Body.retX {f:FuncId}{args:List CV}{H H1:List (Nat×Ob)}{n m:Nat}{r0:CV}(a b:Nat)(h:Body P au f args H n (iy r0 H1 n))(ha:a<n)(hb:b<m)(hn:n≤m)(hr:aS n args=true)(hH:cT n H=true)(ht:tree r0=true) :
  Body P au f (cq (swp a b) args) (cb (swp a b) H) m (iy r0 (cb (swp a b) H1) m):=
 (Body.nB (Jd a b) (LM ha hb hn) h hr hH fun r s h=>h.2.2).ret fun r s ⟨r1,s1,h1,h2,h3⟩=>by
  obtain⟨k1,k2,k3⟩:=h1;subst h3;rw[h2,k1,gB _ _ ht,k2];exact⟨rfl,rfl,rfl⟩
theorem TL.ja (Se:aB P au){o:Oper}{l:List Oper}{c:Call}{g:FuncId}{args:List CV}{K:St→Prop}{r0:CV}{H1:List (Nat×Ob)}(a b:Nat)(ks:List Nat){H:List (Nat×Ob)}(n:Nat)(hb:Body P au g args H n (iy r0 H1 n))(hd:aZ C.nt o.dst=true)(hg:bN ops s o=Option.some true)(ho:o.op=.call c)(Qb:bl s c=Option.some (g,cq (swp a b) args))
  (hp:dX s.heap ks=Option.some (cb (swp a b) H)) (TP:a<n) (Yk:b<s.nx) (hn:n≤s.nx) (ha:aS n args=true) (hH:cT n H=true) (ht:tree r0=true) (ha2:aS s.nx (cq (swp a b) args)=true) (hH2:cT s.nx (cb (swp a b) H)=true) (hk:lx ks (cb (swp a b) H1)=true)
  (hK:TL P C ops l (St.put ⟨s.env,cb (swp a b) H1++dy s.heap ks,s.nx⟩ o.dst r0) K):TL P C ops (o::l) s K:=
 TL.cD Se ks s.nx (hb.retX a b TP Yk hn ha hH ht) hd hg ho Qb hp (Nat.le_refl _) ha2 hH2 hk hK
variable {W:List q9}{nt N:Nat}{dyn:List (Nat×Nat)}{K:St→Prop}{i:Nat}{r:List Nat}{res:Nat→Er}
theorem RX.ja {o:Oper}{cl:Call}{g:FuncId}{args:List CV}{r0:CV}{H1:List (Nat×Ob)}(a b:Nat)(ks eP:List Nat){H:List (Nat×Ob)}(n:Nat)(hb:Body P au g args H n (iy r0 H1 n))(hi:ops[i]? = Option.some o)(hd:aZ nt o.dst=true)(hg:bN ops s o=Option.some true)(hu:cc o=Option.some cl)(Qb:bl s cl=Option.some (g,cq (swp a b) args))
  (hp:dX s.heap ks=Option.some (cb (swp a b) H)) (TP:a<n) (Yk:b<s.nx) (hn:n≤s.nx) (ha:aS n args=true) (hH:cT n H=true) (ht:tree r0=true) (ha2:aS s.nx (cq (swp a b) args)=true) (hH2:cT s.nx (cb (swp a b) H)=true) (hk:lx ks (cb (swp a b) H1)=true) (hv:Au dyn res i ks=true) (hc:(eP.all fun p=>ks.contains p)=true) (hs:∀ p∈ks,p∉eP→assoc (cb (swp a b) H1) p=assoc (cb (swp a b) H) p)
  (hK:uF W dyn res i (oE r0 ks eP (cb (swp a b) H1))∧lV au W nt ops N dyn (CE P au W nt ops N dyn K) r (note dyn res i (oE r0 ks eP (cb (swp a b) H1))) (St.put ⟨s.env,cb (swp a b) H1++dy s.heap ks,s.nx⟩ o.dst r0)):RX P au W nt ops N dyn K (i::r) res s:=
 RX.cD ks eP s.nx (hb.retX a b TP Yk hn ha hH ht) hi hd hg hu Qb hp (Nat.le_refl _) ha2 hH2 hk hv hc hs hK
attribute [simp] cb swp
end
end Go.Can
namespace Go.Proofs.YtnecpnjdonibmaaGreat
open Go.Can Go.aP
theorem xo (x n:Int)(h0:0<n)(h1:n≤4611686018427387904):(IntKind.i64.wrap (x.tmod n+n)).tmod n=x % n∧n≠0:=by
 have S8 : -n<x.tmod n:=by
  have:=Int.lt_tmod_of_pos x h0;omega
 have Re:x.tmod n<n:=Int.tmod_lt_of_pos x h0;have hw:=cE (x.tmod n+n) yA yA;refine⟨?_,by omega⟩;rw[hw,Int.tmod_eq_emod_of_nonneg yA,Int.add_emod_right,Int.tmod_def];simp
theorem vr (x n:Int)(h0:0<n)(h1:n≤4611686018427387904):ae Tryz.prog 41 [I x,I n] (I (x % n)):=by
 refine ae.aM ah Tryz.func41 rfl PH (by simp[Tryz.ntmps41]) rfl fun C hC PN=>?_;rw[Tryz.ntmps41] at hC;obtain⟨ha,hn⟩:=xo x n h0 h1;apply aj;simp[hC];apply aj;simp[hC,hn,ha];apply T.ret;apply aa.here;simp[Tryz.results41]
theorem M4 (l:List Int)(n:Nat)(_hl:l.length≤9223372036854775807):ae Tryz.prog 61 [ints l,I n] (ints (l.take n)):=by
 refine ae.aM ah Tryz.func61 rfl PH (by simp[Tryz.ntmps61]) rfl fun C hC PN=>?_;rw[Tryz.ntmps61] at hC;apply aj;simp[hC];apply aU;simp[hC,ints];refine T.bb rfl (fun h=>?_) (fun h=>?_)
 ·have hn:n<l.length:=by simpa using h
  have UD:n≤l.length:=by omega
  apply aj;simp[hC,hn,UD];apply T.ret;apply aa.here;simp[Tryz.results61]
 ·have hn:l.length≤n:=by simpa using h
  apply T.skip;simp;apply aj;simp[hC];apply T.ret;apply aa.here;simp[Tryz.results61];exact⟨(List.take_of_length_le (by simpa using hn)).symm,(Nat.min_eq_right hn).symm⟩
def aG (L:List Int)(i:Nat):Ob:=⟨110,0,[ints L,I i]⟩
def ba (l:List ByteArray):Ob:=⟨9,1,l.map .str⟩
theorem dP (l:List ByteArray):trees (l.map CV.str)=true:=by
 induction l with
 | nil=>rfl
 | cons a r ih=>simp only[List.map_cons,trees,ih,tree,Bool.and_self]
@[simp] theorem nmOb_frz (l:List ByteArray)(o:Nat)(cs:List CV)(n:Nat):(⟨(ba l).elem,(ba l).sz,(ba l).cells.map (cB o cs n)⟩:Ob)=ba l:=by simp[ba]
@[simp] theorem ND (ρ:Nat→Nat)(l:List ByteArray):ct ρ (ba l)=ba l:=by
 simp only[ct,ba,ay ρ _ (dP l)]
@[simp] theorem LW (ρ:Nat→Nat)(L:List Int)(i:Nat):ct ρ (aG L i)=aG L i:=by
 simp only[ct,aG,ay ρ [ints L,I i] rfl]
@[simp] theorem JS (l:List ByteArray)(n:Nat):(ba l).cells.all (a7 n)=true:=af (dP l) n
@[simp] theorem nmOb_lts (l:List ByteArray)(n:Nat):aS n (ba l).cells=true:=by rw[cr];exact af (dP l) n
@[simp] theorem KC (l:List ByteArray)(n:Nat):l.all (a7 n∘CV.str)=true:=List.all_eq_true.2 fun _ _=>rfl
@[simp] theorem Ln (l:List ByteArray)(o q:Nat):l.all (lY o q∘CV.str)=true:=List.all_eq_true.2 fun _ _=>rfl
@[simp] theorem Fg (l:List ByteArray)(n o q:Nat):l.all (a7 n∘cZ o q∘CV.str)=true:=List.all_eq_true.2 fun _ _=>rfl
@[simp] theorem L9 (o q:Nat):cZ o q∘CV.str=CV.str:=rfl
@[simp] theorem nmOb_ok1 (l:List ByteArray)(o q:Nat):(ba l).cells.all (lY o q)=true:=bf (dP l) o q
@[simp] theorem Ev (l:List ByteArray)(o q:Nat):(ba l).cells.map (cZ o q)=(ba l).cells:=aV (dP l) o q
@[simp] theorem nmOb_eta (l:List ByteArray):(⟨(ba l).elem,(ba l).sz,(ba l).cells⟩:Ob)=ba l:=rfl
@[simp] theorem N4 (l:List ByteArray)(n o q:Nat):(ba l).cells.all (a7 n∘cZ o q)=true:=by rw[← List.all_map,Ev];exact JS l n
@[simp] theorem Ny (L:List Int)(i o:Nat)(cs:List CV)(n:Nat):(⟨(aG L i).elem,(aG L i).sz,(aG L i).cells.map (cB o cs n)⟩:Ob)=aG L i:=by simp[aG,ints]
theorem cu (L:List Int)(i n:Nat)(_hi:i≤L.length)(hL:L.length≤1000)(hn:0<n)(SP:n≤4611686018427387904) :
  Body Tryz.prog au 62 [.av 0 0,I n] [(0,aG L i)] 1 (iy (I (bZ L i n).1) [(0,aG L (bZ L i n).2)] 1):=by
 refine Body.iV Tryz.func62 rfl PH (by simp[Tryz.ntmps62]) fun C hC PN=>?_;rw[Tryz.ntmps62] at hC;apply aj;simp[hC];refine T.seq (T.seq ?_);refine T.rx ah follows [0,1,2,3,4,5,6,7,8,9] [] PH ?_;simp[hC,aG,ints];refine T.bb rfl (fun h=>?_) (fun h=>?_)
 ·have PJ:L.length≤i:=by simpa using h
  have hx:bZ L i n=(0,i):=by
   unfold bZ;rw[List.getElem?_eq_none PJ]
  apply aj;simp[hC];apply T.ret;refine aa.trim [4] [0] 1 zX yA ⟨_,rfl,?_⟩;simp[iy,hx]
 ·have PJ:i<L.length:=by simpa using h
  obtain⟨x,Sc⟩:∃ x,L[i]? = some x:=⟨L[i],List.getElem?_eq_getElem PJ⟩;have hx:bZ L i n=((x % (n:Int)).toNat,i+1):=by
   unfold bZ;rw[Sc]
  have wi:=cE ((i:Int)+1) yA yA;have wj:((i:Int)+1)-1=(i:Int):=by omega
  have wk:=cE (i:Int) yA yA;have he:=Int.emod_nonneg x (show (n:Int)≠0 by omega);have het:(((x % (n:Int)).toNat:Nat):Int)=x % n:=Int.toNat_of_nonneg he;have hxd:(L.map vq).drop i=I x::(L.map vq).drop (i+1):=by
   rw[List.drop_eq_getElem_cons (by simpa using PJ)];have:=(List.getElem?_eq_some_iff.1 Sc).2;simp[vq,this]
  apply T.skip;simp;apply aj;simp[hC,wi];apply T.seq;refine T.rx ah follows [0,1,2,3,4,5,6,7,8,9,10,11,12,13] [] PH ?_;simp[hC,wj,wk,PJ,hxd];refine RX.call rfl zX rfl rfl rfl rfl (vr x n yA yA) ?_;simp;apply T.ret;refine aa.trim [4] [0] 1 zX yA ⟨_,rfl,?_⟩;simp[iy,hx,het]
theorem Et (L:List Int)(i:Nat)(hi:i≤L.length)(hL:L.length≤1000) :
  Body Tryz.prog au 305 [.av 0 0] [(0,aG L i)] 1 (iy (I (vg L i).1) [(0,aG L (vg L i).2)] 1):=by
 refine Body.iV Tryz.func305 rfl PH (by simp[Tryz.ntmps305]) fun C hC PN=>?_;rw[Tryz.ntmps305] at hC;apply aj;simp[hC];apply aU;simp[hC];refine TL.cD ah [0] 1 (cu L i 8 hi hL yA yA) PV rfl rfl rfl rfl zX QS QR rfl (TL.go' ah ?_);simp[hC];have Z2:=a8 L 8 hi;refine T.bb rfl (fun h=>?_) (fun h=>?_)
 ·have h1:(bZ L i 8).1=1:=by simp at h;omega
  apply aj;simp[hC];refine TL.cD ah [0] 1 (cu L _ 4611686018427387904 Z2 hL yA yA) PV rfl rfl rfl rfl zX QS QR rfl (TL.go' ah ?_);simp[hC];apply T.ret;refine aa.trim [2] [0] 1 TF yA ⟨_,rfl,?_⟩;simp[iy,vg,h1]
 ·have h1:¬ (bZ L i 8).1=1:=by simp at h;omega
  apply T.skip;simp;apply aj;simp[hC];refine TL.cD ah [0] 1 (cu L _ 4 Z2 hL yA yA) PV rfl rfl rfl rfl zX QS QR rfl (TL.go' ah ?_);simp[hC];apply T.ret;refine aa.trim [2] [0] 1 TF yA ⟨_,rfl,?_⟩;simp[iy,vg,h1]
def FA:List CV:=[.int .i64 0,.int .i64 0,.str ⟨#[]⟩,.ai]
theorem iG {ns:List ByteArray}{i:Nat}(h:i<ns.length):(ns.map CV.str).drop i=.str (ns.getD i eS)::(ns.map CV.str).drop (i+1):=by
 rw[List.drop_eq_getElem_cons Sr];simp[h]
theorem HO (L:List Int)(ns:List ByteArray)(d i:Nat)(h:d=0∨(bZ L i 10).1<2):py L ns d i=pf L ns (bZ L i 10).2:=by
 cases d with
 | zero=>rfl
 | succ d=>
  rw[py,if_pos];rcases h with h | h
  ·cases h
  ·exact h
theorem bF:∀ a b:List CV,trees (a++b)=(trees a && trees b)
 | [],b=>by simp[trees]
 | x::r,b=>by simp[trees,Bool.and_assoc]
@[simp] theorem bA (e:Ex):trees (bK e)=true:=by cases e<;>rfl
theorem drop8 (a:Ex)(x y z w:CV):List.drop 8 (bK a++[x,y,z,w])=[]:=List.drop_eq_nil_of_le (by simp[bJ])
theorem oP (e:Ex):List.take 4 (bK e)=bK e:=List.take_of_length_le (by simp[bJ])
theorem DS (a b:Ex):List.take 8 (bK a++bK b)=bK a++bK b:=List.take_of_length_le (by simp[bJ])
theorem Gz (n:Nat)(e:Ex)(x:CV)(h:x∈bK e):a7 n x=true:=by
 rw[bU] at h;simp only[List.mem_cons,List.not_mem_nil,or_false] at h;rcases h with rfl | rfl | rfl | rfl<;>rfl
theorem fT (n:Nat)(e:Ex):(bK e).all (a7 n)=true:=List.all_eq_true.2 (Gz n e)
@[simp] theorem nz_exC (e:Ex):(bK e).map nz=bK e:=by cases e<;>rfl
@[simp] theorem frz_exC (o:Nat)(cs:List CV)(n:Nat)(e:Ex):(bK e).map (cB o cs n)=bK e:=by cases e<;>rfl
attribute [simp] oP DS bJ
theorem sY (L:List Int)(hL:L.length≤1000)(ns:List ByteArray)(Sz:ns.length≤1000):∀ (d i:Nat),d≤1000→i≤L.length →
  Body Tryz.prog au 256 [.av 0 0,.bj 3 0 ns.length,I d] [(0,aG L i),(3,ba ns)] 4 (iy (.agg (bK (py L ns d i).1)) [(0,aG L (py L ns d i).2),(3,ba ns)] 4):=by
 intro d
 induction d using Nat.strongRecOn with
 | _ d ih=>
 intro i hd hi;refine Body.iV Tryz.func256 rfl PH (by simp[Tryz.ntmps256]) fun C hC PN=>?_;rw[Tryz.ntmps256] at hC;apply aj;simp[hC];apply aj;simp[hC];refine TL.cD ah [0] 1 (cu L i 10 hi hL yA yA) PV rfl rfl rfl rfl zX QS QR rfl (TL.go' ah ?_);simp[hC];have Qm:=a8 L 10 hi;have hlf:=HO L ns d i;generalize hk:bZ L i 10=k at Qm hlf;apply dZ;refine T.cut (fun s=>s=⟨[(10,.bool (decide (d=0) || decide (k.1<2))),(7,I k.1),(6,.av 4 0),(0,.av 0 0),(1,.bj 3 0 ns.length),(2,I d)],[(0,aG L k.2),(3,ba ns),(4,⟨80,0,FA⟩)],5⟩) ?_ ?_
 ·by_cases h0:d=0
  ·apply aW;simp[hC,h0];refine aa.trim [10,7,6,0,1,2] [0,3,4] 5 TF yA ?_;simp[FA]
  ·apply aW;simp[hC,h0];refine aa.trim [10,7,6,0,1,2] [0,3,4] 5 TF yA ?_;simp[FA]
 ·rintro s rfl;refine T.bb rfl (fun h=>?_) (fun h=>?_)
  ·have hl:d=0∨k.1<2:=by simpa using h
   rw[hlf hl];clear hlf ih
      /- the leaf: is there a name to be taken? -/
   refine T.seq (T.cut (fun s=>s=⟨[(24,.bool (decide (0<ns.length∧(bZ L k.2 2).1=1))),(6,.av 4 0),(0,.av 0 0),(1,.bj 3 0 ns.length)],[(0,aG L (if 0<ns.length then (bZ L k.2 2).2 else k.2)),(3,ba ns),(4,⟨80,0,FA⟩)],5⟩) ?_ ?_)
   ·by_cases ZJ:0<ns.length
    ·apply aW;simp[hC,ZJ];refine TL.cD ah [0] 1 (cu L k.2 2 Qm hL yA yA) PV rfl rfl rfl rfl zX QS QR rfl (TL.go' ah ?_);simp[hC];refine aa.trim [24,6,0,1] [0,3,4] 5 (by simp[aG,FA]) yA ?_;simp[FA]
    ·apply aW;simp[hC,ZJ];refine aa.trim [24,6,0,1] [0,3,4] 5 (by simp[aG,FA]) yA ?_;simp[FA]
   ·rintro s rfl;have Q6:=a8 L 2 Qm;refine T.bb rfl (fun h=>?_) (fun h=>?_)
    ·have hh:0<ns.length∧(bZ L k.2 2).1=1:=by simpa using h
     have PQ:=da L (bZ L k.2 2).2 hh.1;have PL:=iG PQ;apply aj;simp[hC,hh.1];refine TL.cD ah [0] 1 (cu L _ ns.length Q6 hL yA yA) PV rfl rfl rfl rfl zX QS QR rfl (TL.go' ah ?_);simp[hC,PQ,PL,ba,FA];apply T.ret;refine aa.le (Le.nz [] [4]) ?_;simp;refine aa.le (Le.dz (o:=4) rfl rfl) ?_;simp;refine aa.trim [6] [0,3] 4 TF yA ⟨_,rfl,?_⟩;simp[iy,pf,hh.1,hh.2,bK,eS,PQ]
    ·have hh:¬ (0<ns.length∧(bZ L k.2 2).1=1):=by simpa using h
     have TA:(if 0<ns.length then (bZ L k.2 2).2 else k.2)≤L.length:=by
      split
      ·exact Q6
      ·exact Qm
     apply T.skip;simp;apply aj;simp[hC];refine TL.cD ah [0] 1 (Et L _ TA hL) PV rfl rfl rfl rfl zX QS QR rfl (TL.go' ah ?_);simp[hC,FA];apply T.ret;refine aa.le (Le.nz [] [4]) ?_;simp;refine aa.le (Le.dz (o:=4) rfl rfl) ?_;simp;refine aa.trim [6] [0,3] 4 TF yA ⟨_,rfl,?_⟩;simp[iy,pf,hh,bK,eS]
  ·have hd0:¬ d=0∧¬ k.1<2:=by simpa using h
   obtain⟨e,rfl⟩:∃ e,d=e+1:=⟨d-1,by omega⟩;have he1:((e+1:Nat):Int)-1=(e:Int):=by omega
   have we:=cE (e:Int) yA yA;have ihe:=ih e yA;apply aj;simp[hC];refine T.bb rfl (fun h=>?_) (fun h=>?_)
   ·have hk4:k.1<4:=by simpa using h
    have hx:py L ns (e+1) i=(.un (k.1 % 2) (py L ns e k.2).1,(py L ns e k.2).2):=by
     rw[py,hk,if_neg hd0.2,if_pos hk4]
    have Wc:=mC L ns e Qm;have wm:=cE (3+(k.1:Int) % 2) yA yA;have htm:(k.1:Int).tmod 2=(k.1:Int) % 2:=Int.tmod_eq_emod_of_nonneg yA;apply aj;simp[hC,we,htm,wm];refine TL.cD ah [0,3] 4 (ihe k.2 yA Qm) PV rfl rfl rfl rfl zX QS QR rfl (TL.go' ah ?_);simp[hC,FA,bJ,aX];apply T.ret;refine aa.le (Le.trim [6] [0,3,4,5] 6 YS yA) ?_;simp;refine aa.le (Le.dz (o:=5) rfl (by simp only[bA])) ?_;simp;refine aa.le (Le.dz (o:=4) rfl rfl) ?_;simp;refine aa.trim [6] [0,3] 4 TF yA ⟨_,rfl,?_⟩;simp[iy,hx,bK,eS]
   ·have hk4:¬ k.1<4:=by simpa using h
    have hx:py L ns (e+1) i=(.bin (bZ L k.2 13).1 (py L ns e (bZ L k.2 13).2).1 (py L ns e (py L ns e (bZ L k.2 13).2).2).1,(py L ns e (py L ns e (bZ L k.2 13).2).2).2):=by
     rw[py,hk,if_neg hd0.2,if_neg hk4]
    have Wc:=a8 L 13 Qm;have Xb:=mC L ns e Wc;have wb:=cE (5+((bZ L k.2 13).1:Int)) yA (by have:=da L k.2 (show 0<13 by omega);omega);apply T.skip;simp;apply aj;simp[hC];refine TL.cD ah [0] 1 (cu L k.2 13 Qm hL yA yA) PV rfl rfl rfl rfl zX QS QR rfl (TL.go' ah ?_);simp[hC,wb,we];refine TL.cD ah [0,3] 4 (ihe _ yA Wc) PV rfl rfl rfl rfl zX QS QR rfl (TL.go' ah ?_);simp[hC,we];refine TL.cD ah [0,3] 4 (ihe _ yA Xb) PV rfl rfl rfl rfl zX QS QR rfl (TL.go' ah ?_);simp[hC,FA,bJ,aX,drop8];apply T.ret;refine aa.le (Le.trim [6] [0,3,4,5] 6 YS yA) ?_;simp;refine aa.le (Le.dz (o:=5) rfl (by simp only[bF,bA,Bool.and_self])) ?_;simp;refine aa.le (Le.dz (o:=4) rfl rfl) ?_;simp;refine aa.trim [6] [0,3] 4 TF yA ⟨_,rfl,?_⟩;simp[iy,hx,bK,eS]
end Go.Proofs.YtnecpnjdonibmaaGreat
namespace Go.Can
open Go.RowKit
section
variable {C:Cx}{σ:Nat→Option OB}{s:St}{w:World}
theorem aN.zb {F:Nat→Prop}{c c':CV}(hc:∀ v,VR w F σ c v→VR w F σ c' v):∀ {cs:List CV} {vs:List Value} {i:Nat},cs[i]? = some c→aN w F σ cs vs→aN w F σ (cs.set i c') vs
 | [],_,_,h,_=>by simp at h
 | d::cs,_,0,h,⟨v,r,e,h1,h2⟩=>by
  simp only[List.getElem?_cons_zero,Option.some.injEq] at h;subst h;exact⟨v,r,e,hc v h1,h2⟩
 | d::cs,_,i+1,h,⟨v,r,e,h1,h2⟩=>by
  simp only[List.getElem?_cons_succ] at h;exact⟨v,r,e,h1,aN.zb hc h h2⟩
theorem qY {c:CV}(hc:one c=true):∀ (cs:List CV) (i:Nat),cs.all one=true→(cs.set i c).all one=true
 | [],_,h=>h
 | d::cs,0,h=>by
  simp only[List.all_cons,Bool.and_eq_true] at h;simp only[List.set_cons_zero,List.all_cons,hc,h.2,Bool.and_self]
 | d::cs,i+1,h=>by
  simp only[List.all_cons,Bool.and_eq_true] at h;simp only[List.set_cons_succ,List.all_cons,h.1,Bool.true_and];exact qY hc cs i h.2
theorem Le.oo (o i:Nat)(e:TypeId)(sz:Nat){ob:Ob}(ho:assoc s.heap o=some ob)(hi:ob.cells[i]? = some .ai):Le C s ⟨s.env,(s.nx,⟨e,sz,[]⟩)::oM s.heap o ⟨ob.elem,ob.sz,ob.cells.set i (.bj s.nx 0 0)⟩,s.nx+1⟩:=by
 intro a w ⟨σ,hr⟩;obtain⟨h1,h2⟩:=hr.fresh (World.grownBy.refl w none) (ob:=⟨e,sz,[]⟩) (B:=⟨none,0,sz⟩) rfl rfl (fun _=>rfl) (fun b hb=>by cases hb);have P3:¬ s.nx=o:=fun h=>by
  obtain⟨B,m1,_⟩:=hr.obj o ob ho;rw[hr.nx o yA] at m1;cases m1
 have hG:(s.nx,(⟨e,sz,[]⟩:Ob))::oM s.heap o ⟨ob.elem,ob.sz,ob.cells.set i (.bj s.nx 0 0)⟩=oM ((s.nx,⟨e,sz,[]⟩)::s.heap) o ⟨ob.elem,ob.sz,ob.cells.set i (.bj s.nx 0 0)⟩:=by
  simp only[oM,if_neg P3]
 have hoG:assoc ((s.nx,(⟨e,sz,[]⟩:Ob))::s.heap) o=some ob:=by simp only[assoc,if_neg P3,ho]
 rw[hG];have U4:=oI (C:=C) (σ:=sig σ s.nx ⟨none,0,sz⟩) ((s.nx,(⟨e,sz,[]⟩:Ob))::s.heap) o ⟨ob.elem,ob.sz,ob.cells.set i (.bj s.nx 0 0)⟩;refine⟨_,h1.mD,h1.tm,h1.os,h1.tape,h1.output,h1.size,h1.frame,?_,?_,?_,h1.nx,h1.gy,h1.low,h1.new⟩
 ·intro t c hc;obtain⟨v,k1,k2⟩:=h1.env t c hc;exact⟨v,k1,by rw[U4];exact k2⟩
 ·intro p x hp;simp only[eJ] at hp;unfold ObR;rw[U4];split at hp
  ·rename_i eo;subst eo;rw[hoG] at hp;simp only[Option.map_some,Option.some.injEq] at hp;subst hp;obtain⟨B,m1,m2,m3,m4,m5⟩:=h1.obj o ob hoG;refine⟨B,m1,m2,fun hb=>by simp[m3 hb] at hi,qY rfl _ _ m4,fun b hb=>?_⟩;obtain⟨cur,n1,n2,n3,n4,n5,n6⟩:=m5 b hb;refine⟨cur,n1,n2,n3,n4,by simpa using n5,?_⟩;simp only[List.length_set];refine aN.zb (fun v hv=>?_) hi n6;simp only[VR] at hv ⊢;exact⟨⟨none,0,sz⟩,de,hv,trivial,trivial⟩
  ·exact h1.obj p x hp
 ·intro p p' x x' b hp T5 hb P5;have dom:∀ q y,assoc (oM ((s.nx,(⟨e,sz,[]⟩:Ob))::s.heap) o ⟨ob.elem,ob.sz,ob.cells.set i (.bj s.nx 0 0)⟩) q=some y→∃ z,assoc ((s.nx,(⟨e,sz,[]⟩:Ob))::s.heap) q=some z:=fun q y hq=>by
   rw[eJ] at hq;split at hq
   ·rename_i eo;subst eo;exact⟨ob,hoG⟩
   ·exact⟨y,hq⟩
  obtain⟨z,hz⟩:=dom p x hp;obtain⟨z',Qt⟩:=dom p' x' T5;exact h1.inj p p' z z' b hz Qt hb P5
theorem Le.up (n:Nat)(h:s.nx≤n):Le C s ⟨s.env,s.heap,n⟩:=by
 intro a w ⟨σ,hr⟩;exact⟨σ,hr.mD,hr.tm,hr.os,hr.tape,hr.output,hr.size,hr.frame,hr.env,hr.obj,hr.inj,fun o ho=>hr.nx o (Nat.le_trans h ho),hr.gy,Nat.le_trans hr.low h,hr.new⟩
end
section
variable {P:Program}{C:Cx}{s:St}{ops:Array Oper}{au:List (Nat×TI)}{Q:Exit→St→Prop}
def Hz (o:Oper):Bool:=match o.op with
 | .convert _ _ _=>true
 | _=>false
def cvS (au:List (Nat×TI))(s:St)(o:Oper):Option St:=match o.op with
 | .convert t u x=>match pE au s t u x with
  | some c=>some (s.put o.dst c)
  | none=>match ev s x,dq au t,dq au u with
   | some (.str b),some .str,some (.sl e)=>match dq au e with
    | some (.int .u8)=>if b.size≤1000000 then some (s.put o.dst (.az (oD b) b.size)) else none
    | _=>none
   | _,_,_=>none
 | _=>none
theorem M3 (ht:aB P au){o:Oper}{s':St}(hd:aZ C.nt o.dst=true)(h:cvS au s o=some s'):q8 P C o s s':=by
 refine yP ht hd ?_;unfold cvS at h;unfold Cp;split at h
 ·rename_i t u x ho;rw[ho];simp only;split at h
  ·rename_i c hc;rw[hc];exact h
  ·rename_i hc;rw[hc];simp only;split at h
   ·rename_i b e h1 h2 h3;rw[h1,h2,h3];simp only;split at h
    ·rename_i h4;rw[h4];simp only;split at h
     ·rename_i hb;rw[if_pos hb];exact h
     ·cases h
    ·cases h
   ·cases h
 ·cases h
def IW (au:List (Nat×TI))(nt:Nat)(ops:Array Oper)(K:List Oper→St→Prop):List Oper→St→Prop
 | [],s=>K [] s
 | o::r,s=>if x5 o then
   match bN ops s o with
   | some false=>CT (IW au nt ops K r) (fK au nt ops s o)
   | _=>K (o::r) s
  else if Hz o then
   match bN ops s o with
   | some true=>if aZ nt o.dst=true then CT (IW au nt ops K r) (cvS au s o) else False
   | _=>CT (IW au nt ops K r) (fK au nt ops s o)
  else CT (IW au nt ops K r) (fK au nt ops s o)
theorem BI (ht:aB P au){K:St→Prop}:∀ (l:List Oper) (s:St),IW au C.nt ops (AN P C ops K) l s→TL P C ops l s K
 | [],s,h=>TL.nil h
 | o::r,s,h=>by
  have fin:CT (IW au C.nt ops (AN P C ops K) r) (fK au C.nt ops s o)→TL P C ops (o::r) s K:=fun h=>by
   cases hs:fK au C.nt ops s o with
   | none=>rw[hs] at h;exact h.elim
   | some s'=>rw[hs] at h;exact TL.step ht hs (BI ht r s' h)
  unfold IW at h;split at h
  ·split at h
   ·exact fin h
   ·exact h
  ·split at h
   ·split at h
    ·rename_i hg;split at h
     ·rename_i hd
      cases hs:cvS au s o with
      | none=>rw[hs] at h;exact h.elim
      | some s'=>rw[hs] at h;exact kX hg (M3 ht hd hs) (BI ht r s' h)
     ·exact h.elim
    ·exact fin h
   ·exact fin h
theorem TL.AR (ht:aB P au){K:St→Prop}{l:List Oper}(h:IW au C.nt ops (AN P C ops K) l s):TL P C ops l s K:=BI ht l s h
theorem T.AR (ht:aB P au){id:Nat}{l:List Oper}(h:IW au C.nt l.toArray (AN P C l.toArray (Q .normal)) l s):T P C (.region id l.toArray false) s Q:=T.region (TL.AR ht h)
attribute [simp] Hz cvS IW pE bytesOf cells?
end
end Go.Can
