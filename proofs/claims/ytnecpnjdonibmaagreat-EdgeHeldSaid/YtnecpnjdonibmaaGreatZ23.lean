/- A contract under other numbers. No function of the program i -/
import Derived.Test.YtnecpnjdonibmaaGreatZ22
namespace Go.Can
mutual
/-- The objects' numbers turned. -/
def dR (ρ:Nat→Nat):CV→CV
 | .int k n=>.int k n
 | .bool b=>.bool b
 | .str s=>.str s
 | .agg cs=>.agg (ca ρ cs)
 | .aA cs n=>.aA cs n
 | .aa=>.aa
 | .cG cs=>.cG cs
 | .bL=>.bL
 | .fn f cs=>.fn f (ca ρ cs)
 | .cA=>.cA
 | .iface t cs=>.iface t (ca ρ cs)
 | .iter k s p=>.iter (ρ k) s p
 | .mp k es=>.mp (ρ k) es
 | .dS cs=>.dS (ca ρ cs)
 | .bl o f n=>.bl (ρ o) f n
 | .ax o f=>.ax (ρ o) f
 | .any=>.any
def ca (ρ:Nat→Nat):List CV→List CV
 | []=>[]
 | c::cs=>dR ρ c::ca ρ cs
end
theorem oI (ρ:Nat→Nat):∀ cs:List CV,ca ρ cs=cs.map (dR ρ)
 | []=>rfl
 | c::cs=>by rw[ca,oI ρ cs,List.map_cons]
theorem Kp (ρ:Nat→Nat)(c:CV):one (dR ρ c)=one c:=by cases c<;>rfl
theorem gf (ρ:Nat→Nat)(cs:List CV):(ca ρ cs).all one=cs.all one:=by
 induction cs with
 | nil=>rfl
 | cons c cs ih=>simp only[ca,List.all_cons,Kp,ih]
mutual
theorem VR.cX {w:World}{F:Nat→Prop}{σ:Nat→Option OB}(ρ:Nat→Nat):∀ (c:CV) (v:Value),VR w F σ (dR ρ c) v↔VR w F (fun p=>σ (ρ p)) c v
 | .int _ _,v=>by simp only[dR,VR]
 | .bool _,v=>by simp only[dR,VR]
 | .str _,v=>by simp only[dR,VR]
 | .agg cs,v=>by
  simp only[dR,VR,gf];constructor
  ·rintro⟨vs,h1,h2,h3⟩;exact⟨vs,h1,(aS.cX ρ cs vs).1 h2,h3⟩
  ·rintro⟨vs,h1,h2,h3⟩;exact⟨vs,h1,(aS.cX ρ cs vs).2 h2,h3⟩
 | .aA _ _,v=>by simp only[dR,VR]
 | .aa,v=>by simp only[dR,VR]
 | .cG _,v=>by simp only[dR,VR]
 | .bL,v=>by simp only[dR,VR]
 | .fn _ cs,v=>by
  simp only[dR,VR];constructor
  ·rintro⟨vs,h1,h2⟩;exact⟨vs,h1,(aS.cX ρ cs vs).1 h2⟩
  ·rintro⟨vs,h1,h2⟩;exact⟨vs,h1,(aS.cX ρ cs vs).2 h2⟩
 | .cA,v=>by simp only[dR,VR]
 | .iface _ cs,v=>by
  simp only[dR,VR];constructor
  ·rintro⟨vs,h1,h2⟩;exact⟨vs,h1,(aS.cX ρ cs vs).1 h2⟩
  ·rintro⟨vs,h1,h2⟩;exact⟨vs,h1,(aS.cX ρ cs vs).2 h2⟩
 | .iter _ _ _,v=>by simp only[dR,VR]
 | .mp _ _,v=>by simp only[dR,VR]
 | .dS cs,v=>by
  simp only[dR,VR];constructor
  ·rintro⟨vs,h1,h2⟩;exact⟨vs,h1,(aS.cX ρ cs vs).1 h2⟩
  ·rintro⟨vs,h1,h2⟩;exact⟨vs,h1,(aS.cX ρ cs vs).2 h2⟩
 | .bl _ _ _,v=>by simp only[dR,VR]
 | .ax _ _,v=>by simp only[dR,VR]
 | .any,v=>by simp only[dR,VR]
theorem aS.cX {w:World}{F:Nat→Prop}{σ:Nat→Option OB}(ρ:Nat→Nat):∀ (cs:List CV) (vs:List Value),aS w F σ (ca ρ cs) vs↔aS w F (fun p=>σ (ρ p)) cs vs
 | [],vs=>by simp only[ca,aS]
 | c::cs,vs=>by
  simp only[ca,aS];constructor
  ·rintro⟨v,r,h1,h2,h3⟩;exact⟨v,r,h1,(VR.cX ρ c v).1 h2,(aS.cX ρ cs r).1 h3⟩
  ·rintro⟨v,r,h1,h2,h3⟩;exact⟨v,r,h1,(VR.cX ρ c v).2 h2,(aS.cX ρ cs r).2 h3⟩
end
def cc (ρ:Nat→Nat)(ob:Ob):Ob:=⟨ob.elem,ob.sz,ca ρ ob.cells⟩
def cj (ρ:Nat→Nat):List (Nat×Ob)→List (Nat×Ob)
 | []=>[]
 | (k,ob)::r=>(ρ k,cc ρ ob)::cj ρ r
def dj (ρ:Nat→Nat):List (Nat×CV)→List (Nat×CV)
 | []=>[]
 | (t,c)::r=>(t,dR ρ c)::dj ρ r
theorem fN (ρ:Nat→Nat):∀ (e:List (Nat×CV)) (t:Nat),assoc (dj ρ e) t=(assoc e t).map (dR ρ)
 | [],t=>rfl
 | (k,c)::r,t=>by
  simp only[dj,assoc];split
  ·rfl
  ·exact fN ρ r t
theorem ch {ρ:Nat→Nat}(hi:∀ x y,ρ x=ρ y→x=y):∀ (H:List (Nat×Ob)) (o:Nat),assoc (cj ρ H) (ρ o)=(assoc H o).map (cc ρ)
 | [],o=>rfl
 | (k,c)::r,o=>by
  simp only[cj,assoc];by_cases h:k=o
  ·simp[h]
  ·have:¬ ρ k=ρ o:=fun e=>h (hi _ _ e);simp only[if_neg h,if_neg this];exact ch hi r o
theorem ey {ρ:Nat→Nat}:∀ (H:List (Nat×Ob)) (q:Nat) (ob:Ob),assoc (cj ρ H) q=some ob→∃ o,q=ρ o
 | [],q,ob,h=>by simp[cj,assoc] at h
 | (k,c)::r,q,ob,h=>by
  simp only[cj,assoc] at h;split at h
  ·rename_i e;exact⟨k,e.symm⟩
  ·exact ey r q ob h
section
variable {P:Program}{C:Cx}{σ:Nat→Option OB}{s:St}{a:Act}{w:World}{ops:Array Oper}{ak:List (Nat×TI)}
theorem Fk (ρ:Nat→Nat)(cs:List CV)(k:Nat):ca ρ (cs.drop k)=(ca ρ cs).drop k:=by rw[oI,oI,List.map_drop]
theorem Fj (ρ:Nat→Nat)(cs:List CV)(k:Nat):ca ρ (cs.take k)=(ca ρ cs).take k:=by rw[oI,oI,List.map_take]
theorem gy (ρ:Nat→Nat)(cs:List CV):(ca ρ cs).length=cs.length:=by rw[oI,List.length_map]
theorem FI {ρ:Nat→Nat}(hi:∀ x y,ρ x=ρ y→x=y)(e:List (Nat×CV))(H:List (Nat×Ob))(n m:Nat)(c:CV)(ht:∀ cs,c=.cG cs→ca ρ cs=cs):fJ ⟨dj ρ e,cj ρ H,m⟩ (dR ρ c)=(fJ ⟨e,H,n⟩ c).map (ca ρ):=by
 cases c with
 | cG cs=>
  simp only[dR,fJ,Option.map_some,Option.some.injEq];exact (ht cs rfl).symm
 | ax o off=>
  simp only[dR,fJ,ch hi]
  cases assoc H o with
  | none=>rfl
  | some ob=>simp[cc,Fk]
 | _=>rfl
mutual
theorem cq.tree {w:World}{F:Nat→Prop}:∀ (c:CV) (v:Value),cq w F c v→Can.tree c=true
 | .int _ _,_,_=>rfl
 | .bool _,_,_=>rfl
 | .str _,_,_=>rfl
 | .agg cs,v,h=>by
  simp only[cq] at h;obtain⟨vs,_,h2,_⟩:=h;simp only[Can.tree];exact bW.tree cs vs h2
 | .aA _ _,_,_=>rfl
 | .aa,_,_=>rfl
 | .cG _,_,_=>rfl
 | .bL,_,_=>rfl
 | .fn _ cs,v,h=>by
  simp only[cq] at h;obtain⟨vs,_,h2⟩:=h;simp only[Can.tree];exact bW.tree cs vs h2
 | .cA,_,_=>rfl
 | .iface _ cs,v,h=>by
  simp only[cq] at h;obtain⟨vs,_,h2⟩:=h;simp only[Can.tree];exact bW.tree cs vs h2
 | .iter _ _ _,v,h=>by simp[cq] at h
 | .mp _ _,v,h=>by simp[cq] at h
 | .dS cs,v,h=>by
  simp only[cq] at h;obtain⟨vs,_,h2⟩:=h;simp only[Can.tree];exact bW.tree cs vs h2
 | .bl _ _ _,v,h=>by simp[cq] at h
 | .ax _ _,v,h=>by simp[cq] at h
 | .any,_,_=>rfl
theorem bW.tree {w:World}{F:Nat→Prop}:∀ (cs:List CV) (vs:List Value),bW w F cs vs→trees cs=true
 | [],_,_=>rfl
 | c::cs,vs,h=>by
  simp only[bW] at h;obtain⟨v,r,_,h2,h3⟩:=h;simp only[trees,cq.tree c v h2,bW.tree cs r h3,Bool.and_self]
end
theorem gD.tree {w:World}{F:Nat→Prop}:∀ (cs:List CV) (ad:Addr),gD w F cs ad→trees cs=true
 | [],_,_=>rfl
 | c::cs,ad,h=>by
  simp only[gD] at h;obtain⟨⟨u,_,_,h3⟩,_,h5⟩:=h;simp only[trees,cq.tree c u h3,gD.tree cs _ h5,Bool.and_self]
mutual
theorem g7 (ρ:Nat→Nat):∀ c:CV,Can.tree c=true→dR ρ c=c
 | .int _ _,_=>rfl
 | .bool _,_=>rfl
 | .str _,_=>rfl
 | .agg cs,h=>by
  simp only[Can.tree] at h;rw[dR,av ρ cs h]
 | .aA _ _,_=>rfl
 | .aa,_=>rfl
 | .cG _,_=>rfl
 | .bL,_=>rfl
 | .fn _ cs,h=>by
  simp only[Can.tree] at h;rw[dR,av ρ cs h]
 | .cA,_=>rfl
 | .iface _ cs,h=>by
  simp only[Can.tree] at h;rw[dR,av ρ cs h]
 | .iter _ _ _,h=>by simp[Can.tree] at h
 | .mp _ _,h=>by simp[Can.tree] at h
 | .dS cs,h=>by
  simp only[Can.tree] at h;rw[dR,av ρ cs h]
 | .bl _ _ _,h=>by simp[Can.tree] at h
 | .ax _ _,h=>by simp[Can.tree] at h
 | .any,_=>rfl
theorem av (ρ:Nat→Nat):∀ cs:List CV,trees cs=true→ca ρ cs=cs
 | [],_=>rfl
 | c::cs,h=>by
  simp only[trees,Bool.and_eq_true] at h;rw[ca,g7 ρ c h.1,av ρ cs h.2]
end
theorem F5 (ρ:Nat→Nat)(i:TI)(cs:List CV):mW i (ca ρ cs)=(mW i cs).map (dR ρ):=by
 unfold mW;rw[gy];split
 ·split
  ·simp[dR,Fj]
  ·rfl
 ·cases cs<;>rfl
theorem F3 {ρ:Nat→Nat}(hi:∀ x y,ρ x=ρ y→x=y){e:List (Nat×CV)}{H:List (Nat×Ob)}{n m:Nat}(ht:∀ t cs,assoc e t=some (.cG cs)→ca ρ cs=cs)(r:ResultVar):pz ak ⟨dj ρ e,cj ρ H,m⟩ r=(pz ak ⟨e,H,n⟩ r).map (dR ρ):=by
 cases r with
 | tmp t=>exact fN ρ e t
 | cell x t=>
  simp only[pz,fN]
  cases hx:assoc e x with
  | none=>rfl
  | some c=>
   have hm:=FI hi e H n m c fun cs hc=>ht x cs (by rw[hx,hc])
   cases ht':assoc ak t with
   | none=>rfl
   | some i=>
    simp only[Option.map_some,hm]
    cases fJ ⟨e,H,n⟩ c with
    | none=>rfl
    | some cs=>exact F5 ρ i cs
theorem ye {ρ:Nat→Nat}(hi:∀ x y,ρ x=ρ y→x=y){e:List (Nat×CV)}{H:List (Nat×Ob)}{n m:Nat}(ht:∀ t cs,assoc e t=some (.cG cs)→ca ρ cs=cs):∀ rs:List ResultVar,kP ak ⟨dj ρ e,cj ρ H,m⟩ rs=(kP ak ⟨e,H,n⟩ rs).map (ca ρ)
 | []=>rfl
 | r::rs=>by
  simp only[kP,F3 (n:=n) (m:=m) hi ht r,ye (n:=n) (m:=m) hi ht rs]
  cases pz ak ⟨e,H,n⟩ r with
  | none=>rfl
  | some c=>cases kP ak ⟨e,H,n⟩ rs<;>rfl
theorem qN {ρ:Nat→Nat}(hi:∀ x y,ρ x=ρ y→x=y){e:List (Nat×CV)}{H:List (Nat×Ob)}{n m:Nat}(ht:∀ t cs,assoc e t=some (.cG cs)→ca ρ cs=cs)(fn:Func):bG ak fn ⟨dj ρ e,cj ρ H,m⟩=(bG ak fn ⟨e,H,n⟩).map (dR ρ):=by
 simp only[bG,ye (n:=n) (m:=m) hi ht]
 cases kP ak ⟨e,H,n⟩ fn.results.toList with
 | none=>rfl
 | some cs=>
  match cs with
  | []=>rfl
  | [c]=>rfl
  | c::d::r=>rfl
theorem ya (ρ:Nat→Nat)(args:List CV):(enter (ca ρ args)).env=dj ρ (enter args).env:=by
 have:∀ (args:List CV) (k:Nat),((ca ρ args).zipIdx k).map (fun x=>(x.2,x.1))=dj ρ ((args.zipIdx k).map fun x=>(x.2,x.1)):=by
  intro args
  induction args with
  | nil=>intro k;rfl
  | cons c cs ih=>intro k;simp only[ca,List.zipIdx_cons,List.map_cons,dj,ih]
 exact this args 0
theorem Body.oX {ρ:Nat→Nat}(hi:∀ x y,ρ x=ρ y→x=y){f:FuncId}{args:List CV}{H:List (Nat×Ob)}{n n':Nat}{R:CV→St→Prop}(hρ:∀ p,p<n→ρ p<n')(h:Body P ak f args H n R)(ha:aX n args=true)(hH:dc n H=true)(hR:∀ r s,R r s→s.nx=n) :
  Body P ak f (ca ρ args) (cj ρ H) n' fun r s=>∃ r1 s1,R r1 s1∧r=dR ρ r1∧s=⟨dj ρ s1.env,cj ρ s1.heap,n'⟩:=by
 obtain⟨fn,c,hf,hb,P2,hl,hT⟩:=h;refine⟨fn,c,hf,hb,P2,by rw[gy];exact hl,fun C' hC O0 a w ⟨σ,hr⟩=>?_⟩;rw[ya] at hr;have O4:∀ (t:Nat) c o,assoc (enter args).env t=some c→aL o c=false→o<n:=fun t c o hc ho=>by
  obtain⟨_,h2⟩:=fw args 0 t c hc;have hm:c∈args:=List.mem_of_getElem? h2;rw[cB,List.all_eq_true] at ha;exact lM n c o (ha c hm) ho
 obtain⟨σt,hσt⟩:∃ σt:Nat→Option OB,σt=below (fun p=>σ (ρ p)) n fun _=>none:=⟨_,rfl⟩;have t1:∀ p,p<n→σt p=σ (ρ p):=fun p hp=>by rw[hσt];exact gC hp
 have t2:∀ p,n≤p→σt p=none:=fun p hp=>by rw[hσt];exact km hp
 have PT:∀ (G:List (Nat×Ob)),(∀ o ob,assoc G o=some ob→o<n)→∀ b,(C'.F b∨∃ o ob,assoc G o=some ob∧aY σt o=some b)↔FB C' σ (cj ρ G) b:=fun G hG b=>by
  unfold FB;constructor
  ·rintro (h | ⟨o,ob,ho,hx⟩)
   ·exact .inl h
   ·refine .inr ⟨ρ o,cc ρ ob,by rw[ch hi,ho];rfl,?_⟩;unfold aY at hx ⊢;rwa [t1 o (hG o ob ho)] at hx
  ·rintro (h | ⟨q,ob,hq,hx⟩)
   ·exact .inl h
   ·obtain⟨o,rfl⟩:=ey G q ob hq;rw[ch hi] at hq;obtain⟨Pk,ho,_⟩:=Option.map_eq_some_iff.1 hq;refine .inr ⟨o,Pk,ho,?_⟩;unfold aY at hx ⊢;rwa [t1 o (hG o Pk ho)]
 have Q1:∀ o ob,assoc H o=some ob→o<n:=fun o ob ho=>(iL hH o ob ho).1;have h0:aM ⟨C'.w0,C'.F,C'.own,C'.hF,C'.nt,σt,n⟩ σt ⟨(enter args).env,H,n⟩ a w:=by
  have hK:cw w w (FB C' σ (cj ρ H)) (FB ⟨C'.w0,C'.F,C'.own,C'.hF,C'.nt,σt,n⟩ σt H):=cw.same fun b hx=>(PT H Q1 b).1 hx;refine⟨hr.nk,hr.tm,hr.os,hr.tape,hr.output,hr.size,hr.frame,?_,?_,?_,fun o ho=>t2 o ho,fun _ _=>rfl,Nat.le_refl _,fun o B b ho hB _=>by rw[t2 o ho] at hB;cases hB⟩
  ·intro t c hc;obtain⟨v,k1,k2⟩:=hr.env t (dR ρ c) (by rw[fN,hc];rfl);refine⟨v,k1,?_⟩;exact VR.bk hK _ _ (fun o ho=>t1 o (O4 t c o hc ho)) ((VR.cX ρ c v).1 k2)
  ·intro o ob ho;obtain⟨B,m1,m2,m3,m4,m5⟩:=hr.obj (ρ o) (cc ρ ob) (by rw[ch hi,ho];rfl);have O1:=Q1 o ob ho;refine⟨B,by rw[t1 o O1];exact m1,m2,fun hb=>?_,by have:=m4;simp only[cc,gf] at this;exact this,fun b hb=>?_⟩
   ·have:=m3 hb;simp only[cc] at this;have hl:=gy ρ ob.cells;rw[this] at hl;exact List.eq_nil_of_length_eq_zero hl.symm
   ·obtain⟨cur,n1,n2,n3,n4,n5,n6⟩:=m5 b hb;simp only[cc,gy] at n5 n6;refine⟨cur,n1,n2,n3,n4,n5,?_⟩;exact aS.bk hK _ _ (fun p hp=>t1 p (eX n _ p (iL hH o ob ho).2 hp)) ((aS.cX ρ _ _).1 n6)
  ·intro o o' ob Pk b ho Py hx QG;unfold aY at hx QG;rw[t1 o (Q1 o ob ho)] at hx;rw[t1 o' (Q1 o' Pk Py)] at QG;exact hi _ _ (hr.inj (ρ o) (ρ o') (cc ρ ob) (cc ρ Pk) b (by rw[ch hi,ho];rfl) (by rw[ch hi,Py];rfl) hx QG)
 refine wp_mono (hT ⟨C'.w0,C'.F,C'.own,C'.hF,C'.nt,σt,n⟩ hC rfl a w ⟨_,h0⟩) fun e a' w' ⟨s1,q,σ1,PQ⟩=>?_;have fin:ae ⟨C'.w0,C'.F,C'.own,C'.hF,C'.nt,σt,n⟩ (fun s'=>∃ r,bG ak fn s'=some r∧R r s') s1 →
   ∃ s',ae C' (fun s'=>∃ r,bG ak fn s'=some r∧∃ r1 s1,R r1 s1∧r=dR ρ r1∧s'=⟨dj ρ s1.env,cj ρ s1.heap,n'⟩) s'∧Rel C' s' a' w':=fun⟨s2,⟨r,q1,q2⟩,hle⟩=>by
  obtain⟨σ2,Px⟩:=hle _ _ ⟨σ1,PQ⟩;have SD:=hR r s2 q2;obtain⟨e2,H2,n2⟩:=s2;simp only at SD;subst SD;have hσ2:σ2=σt:=by
   funext p;rcases Nat.lt_or_ge p n2 with hp | hp
   ·exact Px.fh p hp
   ·rw[Px.nx p hp,t2 p hp]
  subst hσ2;have O1:∀ o B,σ2 o=some B→o<n2:=fun o B hB=>Nat.lt_of_not_le fun hle=>by rw[Px.nx o hle] at hB;cases hB
  have TA:∀ o ob,assoc H2 o=some ob→o<n2:=fun o ob ho=>by
   obtain⟨B,m1,_⟩:=Px.obj o ob ho;exact O1 o B m1
  have hK:cw w' w' (FB ⟨C'.w0,C'.F,C'.own,C'.hF,C'.nt,σ2,n2⟩ σ2 H2) (FB C' σ (cj ρ H2)):=cw.same fun b hx=>(PT H2 TA b).2 hx;refine⟨⟨dj ρ e2,cj ρ H2,n'⟩,ae.here ⟨dR ρ r,?_,r,_,q2,rfl,rfl⟩,σ,?_⟩
  ·rw[qN (n:=n2) hi (fun t cs hc=>?_),q1]
   ·rfl
   ·obtain⟨v,_,k2⟩:=Px.env t _ hc;simp only[VR,cq] at k2;obtain⟨ad,_,h3⟩:=k2;exact av ρ cs (gD.tree cs ad h3)
  ·refine⟨Px.nk,Px.tm,Px.os,Px.tape,Px.output,Px.size,Px.frame,?_,?_,?_,hr.nx,hr.fh,by rw[O0];exact Nat.le_refl _,hr.new⟩
   ·intro t c hc;simp only[fN] at hc;obtain⟨d,hd,rfl⟩:=Option.map_eq_some_iff.1 hc;obtain⟨v,k1,k2⟩:=Px.env t d hd;refine⟨v,k1,(VR.cX ρ d v).2 (VR.bk hK _ _ (fun o ho=>?_) k2)⟩;obtain⟨B,hB⟩:=VR.refs _ _ o k2 ho;exact (t1 o (O1 o B hB)).symm
   ·intro q ob hq;obtain⟨o,rfl⟩:=ey H2 q ob hq;simp only[ch hi] at hq;obtain⟨Pk,ho,rfl⟩:=Option.map_eq_some_iff.1 hq;obtain⟨B,m1,m2,m3,m4,m5⟩:=Px.obj o Pk ho;refine⟨B,by rw[← t1 o (TA o Pk ho)];exact m1,m2,fun hb=>by simp only[cc,m3 hb];rfl,by simp only[cc,gf];exact m4,fun b hb=>?_⟩;obtain⟨cur,n1,Yn,n3,n4,n5,n6⟩:=m5 b hb;simp only[cc,gy];refine⟨cur,n1,Yn,n3,n4,n5,(aS.cX ρ _ _).2 (aS.bk hK _ _ (fun p hp=>?_) n6)⟩;obtain⟨B',Q3⟩:=aS.refs _ _ p n6 hp;exact (t1 p (O1 p B' Q3)).symm
   ·intro q q' ob Pk b hq RQ hx QG;obtain⟨o,rfl⟩:=ey H2 q ob hq;obtain⟨o',rfl⟩:=ey H2 q' Pk RQ;simp only[ch hi] at hq RQ;obtain⟨x,ho,_⟩:=Option.map_eq_some_iff.1 hq;obtain⟨x',Py,_⟩:=Option.map_eq_some_iff.1 RQ;unfold aY at hx QG;rw[← t1 o (TA o x ho)] at hx;rw[← t1 o' (TA o' x' Py)] at QG;rw[Px.inj o o' x x' b ho Py hx QG]
 cases e with
 | normal=>exact fin q
 | ret=>exact fin q
 | exit _=>exact q.elim
 | goto _=>exact q.elim
 | panic _=>exact q.elim
 | outgrown=>exact q.elim
def jx (a b p:Nat):Nat:=if p=a then b else if p=b then a else p
theorem JX (a b:Nat):∀ x y,jx a b x=jx a b y→x=y:=by
 intro x y h;unfold jx at h;split at h<;>split at h<;>(try split at h)<;>(try split at h)<;>omega
theorem Mn {a b n m:Nat}(ha:a<n)(hb:b<m)(hn:n≤m):∀ p,p<n→jx a b p<m:=by
 intro p hp;unfold jx;split
 ·exact hb
 ·split<;>omega
theorem Body.retX {f:FuncId}{args:List CV}{H H1:List (Nat×Ob)}{n m:Nat}{r0:CV}(a b:Nat)(h:Body P ak f args H n (jb r0 H1 n))(ha:a<n)(hb:b<m)(hn:n≤m)(hr:aX n args=true)(hH:dc n H=true)(ht:tree r0=true) :
  Body P ak f (ca (jx a b) args) (cj (jx a b) H) m (jb r0 (cj (jx a b) H1) m):=
 (Body.oX (JX a b) (Mn ha hb hn) h hr hH fun r s h=>h.2.2).ret fun r s ⟨r1,s1,h1,h2,h3⟩=>by
  obtain⟨k1,k2,k3⟩:=h1;subst h3;rw[h2,k1,g7 _ _ ht,k2];exact⟨rfl,rfl,rfl⟩
theorem TL.ju (Rp:aG P ak){o:Oper}{l:List Oper}{c:Call}{g:FuncId}{args:List CV}{K:St→Prop}{r0:CV}{H1:List (Nat×Ob)}(a b:Nat)(ks:List Nat){H:List (Nat×Ob)}(n:Nat)(hb:Body P ak g args H n (jb r0 H1 n))(hd:a6 C.nt o.dst=true)(hg:bZ ops s o=Option.some true)(ho:o.op=.call c)(Ps:bm s c=Option.some (g,ca (jx a b) args))
  (hp:eg s.heap ks=Option.some (cj (jx a b) H)) (T2:a<n) (Xx:b<s.nx) (hn:n≤s.nx) (ha:aX n args=true) (hH:dc n H=true) (ht:tree r0=true) (ZK:aX s.nx (ca (jx a b) args)=true) (hH2:dc s.nx (cj (jx a b) H)=true) (hk:j8 ks (cj (jx a b) H1)=true)
  (hK:TL P C ops l (St.put ⟨s.env,cj (jx a b) H1++dx s.heap ks,s.nx⟩ o.dst r0) K):TL P C ops (o::l) s K:=
 TL.cK Rp ks s.nx (hb.retX a b T2 Xx hn ha hH ht) hd hg ho Ps hp (Nat.le_refl _) ZK hH2 hk hK
variable {nt N:Nat}{dyn:List (Nat×Nat)}{K:St→Prop}{i:Nat}{r:List Nat}{res:Nat→Er}
theorem RX.ju {o:Oper}{cl:Call}{g:FuncId}{args:List CV}{r0:CV}{H1:List (Nat×Ob)}(a b:Nat)(ks du:List Nat){H:List (Nat×Ob)}(n:Nat)(hb:Body P ak g args H n (jb r0 H1 n))(hi:ops[i]? = Option.some o)(hd:a6 nt o.dst=true)(hg:bZ ops s o=Option.some true)(hu:ck o=Option.some cl)(Ps:bm s cl=Option.some (g,ca (jx a b) args))
  (hp:eg s.heap ks=Option.some (cj (jx a b) H)) (T2:a<n) (Xx:b<s.nx) (hn:n≤s.nx) (ha:aX n args=true) (hH:dc n H=true) (ht:tree r0=true) (ZK:aX s.nx (ca (jx a b) args)=true) (hH2:dc s.nx (cj (jx a b) H)=true) (hk:j8 ks (cj (jx a b) H1)=true) (hv:zP dyn res i ks=true) (hc:(du.all fun p=>ks.contains p)=true) (hs:∀ p∈ks,p∉du→assoc (cj (jx a b) H1) p=assoc (cj (jx a b) H) p)
  (hK:Gx dyn res i (iO r0 ks du (cj (jx a b) H1))=true∧pJ ak nt ops N dyn (Hv P ak nt ops N dyn K) r (note dyn res i (iO r0 ks du (cj (jx a b) H1))) (St.put ⟨s.env,cj (jx a b) H1++dx s.heap ks,s.nx⟩ o.dst r0)):RX P ak nt ops N dyn K (i::r) res s:=
 RX.cK ks du s.nx (hb.retX a b T2 Xx hn ha hH ht) hi hd hg hu Ps hp (Nat.le_refl _) ZK hH2 hk hv hc hs hK
attribute [simp] cj jx
end
end Go.Can
namespace Go.Proofs.YtnecpnjdonibmaaGreat
open Go.Can Go.aP
theorem yL (x n:Int)(h0:0<n)(h1:n≤4611686018427387904):(IntKind.i64.wrap (x.tmod n+n)).tmod n=x % n∧n≠0:=by
 have Si : -n<x.tmod n:=by
  have:=Int.lt_tmod_of_pos x h0;omega
 have Qz:x.tmod n<n:=Int.tmod_lt_of_pos x h0;have hw:=cC (x.tmod n+n) yA yA;refine⟨?_,by omega⟩;rw[hw,Int.tmod_eq_emod_of_nonneg yA,Int.add_emod_right,Int.tmod_def];simp
theorem rz (x n:Int)(h0:0<n)(h1:n≤4611686018427387904):af Tryz.prog 41 [I x,I n] (I (x % n)):=by
 refine af.aK ai Tryz.func41 rfl OV (by simp[Tryz.ntmps41]) rfl fun C hC O0=>?_;rw[Tryz.ntmps41] at hC;obtain⟨ha,hn⟩:=yL x n h0 h1;apply aq;simp[hC];apply aq;simp[hC,hn,ha];apply T.ret;apply ae.here;simp[Tryz.results41]
theorem Nv (l:List Int)(n:Nat)(_hl:l.length≤9223372036854775807):af Tryz.prog 61 [ints l,I n] (ints (l.take n)):=by
 refine af.aK ai Tryz.func61 rfl OV (by simp[Tryz.ntmps61]) rfl fun C hC O0=>?_;rw[Tryz.ntmps61] at hC;apply aq;simp[hC];apply aO;simp[hC,ints];refine T.bh rfl (fun h=>?_) (fun h=>?_)
 ·have hn:n<l.length:=by simpa using h
  have TS:n≤l.length:=by omega
  apply aq;simp[hC,hn,TS];apply T.ret;apply ae.here;simp[Tryz.results61]
 ·have hn:l.length≤n:=by simpa using h
  apply T.skip;simp;apply aq;simp[hC];apply T.ret;apply ae.here;simp[Tryz.results61];exact⟨(List.take_of_length_le (by simpa using hn)).symm,(Nat.min_eq_right hn).symm⟩
def aI (L:List Int)(i:Nat):Ob:=⟨110,0,[ints L,I i]⟩
def bg (l:List ByteArray):Ob:=⟨9,1,l.map .str⟩
theorem eC (l:List ByteArray):trees (l.map CV.str)=true:=by
 induction l with
 | nil=>rfl
 | cons a r ih=>simp only[List.map_cons,trees,ih,tree,Bool.and_self]
@[simp] theorem nmOb_frz (l:List ByteArray)(o:Nat)(cs:List CV)(n:Nat):(⟨(bg l).elem,(bg l).sz,(bg l).cells.map (cH o cs n)⟩:Ob)=bg l:=by simp[bg]
@[simp] theorem N6 (ρ:Nat→Nat)(l:List ByteArray):cc ρ (bg l)=bg l:=by
 simp only[cc,bg,av ρ _ (eC l)]
@[simp] theorem Mu (ρ:Nat→Nat)(L:List Int)(i:Nat):cc ρ (aI L i)=aI L i:=by
 simp only[cc,aI,av ρ [ints L,I i] rfl]
@[simp] theorem KB (l:List ByteArray)(n:Nat):(bg l).cells.all (a9 n)=true:=ah (eC l) n
@[simp] theorem nmOb_lts (l:List ByteArray)(n:Nat):aX n (bg l).cells=true:=by rw[cB];exact ah (eC l) n
@[simp] theorem Lg (l:List ByteArray)(n:Nat):l.all (a9 n∘CV.str)=true:=List.all_eq_true.2 fun _ _=>rfl
@[simp] theorem LZ (l:List ByteArray)(o q:Nat):l.all (nc o q∘CV.str)=true:=List.all_eq_true.2 fun _ _=>rfl
@[simp] theorem Gi (l:List ByteArray)(n o q:Nat):l.all (a9 n∘dk o q∘CV.str)=true:=List.all_eq_true.2 fun _ _=>rfl
@[simp] theorem MH (o q:Nat):dk o q∘CV.str=CV.str:=rfl
@[simp] theorem nmOb_ok1 (l:List ByteArray)(o q:Nat):(bg l).cells.all (nc o q)=true:=bj (eC l) o q
@[simp] theorem FF (l:List ByteArray)(o q:Nat):(bg l).cells.map (dk o q)=(bg l).cells:=aZ (eC l) o q
@[simp] theorem nmOb_eta (l:List ByteArray):(⟨(bg l).elem,(bg l).sz,(bg l).cells⟩:Ob)=bg l:=rfl
@[simp] theorem Ov (l:List ByteArray)(n o q:Nat):(bg l).cells.all (a9 n∘dk o q)=true:=by rw[← List.all_map,FF];exact KB l n
@[simp] theorem N1 (L:List Int)(i o:Nat)(cs:List CV)(n:Nat):(⟨(aI L i).elem,(aI L i).sz,(aI L i).cells.map (cH o cs n)⟩:Ob)=aI L i:=by simp[aI,ints]
theorem cE (L:List Int)(i n:Nat)(_hi:i≤L.length)(hL:L.length≤1000)(hn:0<n)(R6:n≤4611686018427387904) :
  Body Tryz.prog ak 62 [.ax 0 0,I n] [(0,aI L i)] 1 (jb (I (cd L i n).1) [(0,aI L (cd L i n).2)] 1):=by
 refine Body.jA Tryz.func62 rfl OV (by simp[Tryz.ntmps62]) fun C hC O0=>?_;rw[Tryz.ntmps62] at hC;apply aq;simp[hC];refine T.seq (T.seq ?_);refine T.rx ai follows [0,1,2,3,4,5,6,7,8,9] [] OV ?_;simp[hC,aI,ints];refine T.bh rfl (fun h=>?_) (fun h=>?_)
 ·have OX:L.length≤i:=by simpa using h
  have hx:cd L i n=(0,i):=by
   unfold cd;rw[List.getElem?_eq_none OX]
  apply aq;simp[hC];apply T.ret;refine ae.trim [4] [0] 1 OU yA ⟨_,rfl,?_⟩;simp[jb,hx]
 ·have OX:i<L.length:=by simpa using h
  obtain⟨x,S0⟩:∃ x,L[i]? = some x:=⟨L[i],List.getElem?_eq_getElem OX⟩;have hx:cd L i n=((x % (n:Int)).toNat,i+1):=by
   unfold cd;rw[S0]
  have wi:=cC ((i:Int)+1) yA yA;have wj:((i:Int)+1)-1=(i:Int):=by omega
  have wk:=cC (i:Int) yA yA;have he:=Int.emod_nonneg x (show (n:Int)≠0 by omega);have het:(((x % (n:Int)).toNat:Nat):Int)=x % n:=Int.toNat_of_nonneg he;have hxd:(L.map wE).drop i=I x::(L.map wE).drop (i+1):=by
   rw[List.drop_eq_getElem_cons (by simpa using OX)];have:=(List.getElem?_eq_some_iff.1 S0).2;simp[wE,this]
  apply T.skip;simp;apply aq;simp[hC,wi];apply T.seq;refine T.rx ai follows [0,1,2,3,4,5,6,7,8,9,10,11,12,13] [] OV ?_;simp[hC,wj,wk,OX,hxd];refine RX.call rfl OU rfl rfl rfl rfl (rz x n yA yA) ?_;simp;apply T.ret;refine ae.trim [4] [0] 1 OU yA ⟨_,rfl,?_⟩;simp[jb,hx,het]
theorem FD (L:List Int)(i:Nat)(hi:i≤L.length)(hL:L.length≤1000) :
  Body Tryz.prog ak 305 [.ax 0 0] [(0,aI L i)] 1 (jb (I (wW L i).1) [(0,aI L (wW L i).2)] 1):=by
 refine Body.jA Tryz.func305 rfl OV (by simp[Tryz.ntmps305]) fun C hC O0=>?_;rw[Tryz.ntmps305] at hC;apply aq;simp[hC];apply aO;simp[hC];refine TL.cK ai [0] 1 (cE L i 8 hi hL yA yA) O5 rfl rfl rfl rfl OU Qc Qb rfl (TL.go' ai ?_);simp[hC];have Zn:=ba L 8 hi;refine T.bh rfl (fun h=>?_) (fun h=>?_)
 ·have h1:(cd L i 8).1=1:=by simp at h;omega
  apply aq;simp[hC];refine TL.cK ai [0] 1 (cE L _ 4611686018427387904 Zn hL yA yA) O5 rfl rfl rfl rfl OU Qc Qb rfl (TL.go' ai ?_);simp[hC];apply T.ret;refine ae.trim [2] [0] 1 SN yA ⟨_,rfl,?_⟩;simp[jb,wW,h1]
 ·have h1:¬ (cd L i 8).1=1:=by simp at h;omega
  apply T.skip;simp;apply aq;simp[hC];refine TL.cK ai [0] 1 (cE L _ 4 Zn hL yA yA) O5 rfl rfl rfl rfl OU Qc Qb rfl (TL.go' ai ?_);simp[hC];apply T.ret;refine ae.trim [2] [0] 1 SN yA ⟨_,rfl,?_⟩;simp[jb,wW,h1]
def Gw:List CV:=[.int .i64 0,.int .i64 0,.str ⟨#[]⟩,.aa]
theorem ji {ns:List ByteArray}{i:Nat}(h:i<ns.length):(ns.map CV.str).drop i=.str (ns.getD i eS)::(ns.map CV.str).drop (i+1):=by
 rw[List.drop_eq_getElem_cons RC];simp[h]
theorem IM (L:List Int)(ns:List ByteArray)(d i:Nat)(h:d=0∨(cd L i 10).1<2):qK L ns d i=qA L ns (cd L i 10).2:=by
 cases d with
 | zero=>rfl
 | succ d=>
  rw[qK,if_pos];rcases h with h | h
  ·cases h
  ·exact h
theorem bC:∀ a b:List CV,trees (a++b)=(trees a && trees b)
 | [],b=>by simp[trees]
 | x::r,b=>by simp[trees,Bool.and_assoc]
@[simp] theorem bz (e:Ex):trees (bR e)=true:=by cases e<;>rfl
theorem drop8 (a:Ex)(x y z w:CV):List.drop 8 (bR a++[x,y,z,w])=[]:=List.drop_eq_nil_of_le (by simp[bP])
theorem qf (e:Ex):List.take 4 (bR e)=bR e:=List.take_of_length_le (by simp[bP])
theorem E6 (a b:Ex):List.take 8 (bR a++bR b)=bR a++bR b:=List.take_of_length_le (by simp[bP])
theorem HC (n:Nat)(e:Ex)(x:CV)(h:x∈bR e):a9 n x=true:=by
 rw[b9] at h;simp only[List.mem_cons,List.not_mem_nil,or_false] at h;rcases h with rfl | rfl | rfl | rfl<;>rfl
theorem gG (n:Nat)(e:Ex):(bR e).all (a9 n)=true:=List.all_eq_true.2 (HC n e)
@[simp] theorem nz_exC (e:Ex):(bR e).map nz=bR e:=by cases e<;>rfl
@[simp] theorem frz_exC (o:Nat)(cs:List CV)(n:Nat)(e:Ex):(bR e).map (cH o cs n)=bR e:=by cases e<;>rfl
attribute [simp] qf E6 bP
theorem uV (L:List Int)(hL:L.length≤1000)(ns:List ByteArray)(RL:ns.length≤1000):∀ (d i:Nat),d≤1000→i≤L.length →
  Body Tryz.prog ak 256 [.ax 0 0,.bl 3 0 ns.length,I d] [(0,aI L i),(3,bg ns)] 4 (jb (.agg (bR (qK L ns d i).1)) [(0,aI L (qK L ns d i).2),(3,bg ns)] 4):=by
 intro d
 induction d using Nat.strongRecOn with
 | _ d ih=>
 intro i hd hi;refine Body.jA Tryz.func256 rfl OV (by simp[Tryz.ntmps256]) fun C hC O0=>?_;rw[Tryz.ntmps256] at hC;apply aq;simp[hC];apply aq;simp[hC];refine TL.cK ai [0] 1 (cE L i 10 hi hL yA yA) O5 rfl rfl rfl rfl OU Qc Qb rfl (TL.go' ai ?_);simp[hC];have PI:=ba L 10 hi;have hlf:=IM L ns d i;generalize hk:cd L i 10=k at PI hlf;apply ed;refine T.cut (fun s=>s=⟨[(10,.bool (decide (d=0) || decide (k.1<2))),(7,I k.1),(6,.ax 4 0),(0,.ax 0 0),(1,.bl 3 0 ns.length),(2,I d)],[(0,aI L k.2),(3,bg ns),(4,⟨80,0,Gw⟩)],5⟩) ?_ ?_
 ·by_cases h0:d=0
  ·apply aV;simp[hC,h0];refine ae.trim [10,7,6,0,1,2] [0,3,4] 5 SN yA ?_;simp[Gw]
  ·apply aV;simp[hC,h0];refine ae.trim [10,7,6,0,1,2] [0,3,4] 5 SN yA ?_;simp[Gw]
 ·rintro s rfl;refine T.bh rfl (fun h=>?_) (fun h=>?_)
  ·have hl:d=0∨k.1<2:=by simpa using h
   rw[hlf hl];clear hlf ih
      /- the leaf: is there a name to be taken? -/
   refine T.seq (T.cut (fun s=>s=⟨[(24,.bool (decide (0<ns.length∧(cd L k.2 2).1=1))),(6,.ax 4 0),(0,.ax 0 0),(1,.bl 3 0 ns.length)],[(0,aI L (if 0<ns.length then (cd L k.2 2).2 else k.2)),(3,bg ns),(4,⟨80,0,Gw⟩)],5⟩) ?_ ?_)
   ·by_cases Y2:0<ns.length
    ·apply aV;simp[hC,Y2];refine TL.cK ai [0] 1 (cE L k.2 2 PI hL yA yA) O5 rfl rfl rfl rfl OU Qc Qb rfl (TL.go' ai ?_);simp[hC];refine ae.trim [24,6,0,1] [0,3,4] 5 (by simp[aI,Gw]) yA ?_;simp[Gw]
    ·apply aV;simp[hC,Y2];refine ae.trim [24,6,0,1] [0,3,4] 5 (by simp[aI,Gw]) yA ?_;simp[Gw]
   ·rintro s rfl;have Qs:=ba L 2 PI;refine T.bh rfl (fun h=>?_) (fun h=>?_)
    ·have hh:0<ns.length∧(cd L k.2 2).1=1:=by simpa using h
     have O1:=dm L (cd L k.2 2).2 hh.1;have OZ:=ji O1;apply aq;simp[hC,hh.1];refine TL.cK ai [0] 1 (cE L _ ns.length Qs hL yA yA) O5 rfl rfl rfl rfl OU Qc Qb rfl (TL.go' ai ?_);simp[hC,O1,OZ,bg,Gw];apply T.ret;refine ae.le (Le.nz [] [4]) ?_;simp;refine ae.le (Le.dp (o:=4) rfl rfl) ?_;simp;refine ae.trim [6] [0,3] 4 SN yA ⟨_,rfl,?_⟩;simp[jb,qA,hh.1,hh.2,bR,eS,O1]
    ·have hh:¬ (0<ns.length∧(cd L k.2 2).1=1):=by simpa using h
     have SH:(if 0<ns.length then (cd L k.2 2).2 else k.2)≤L.length:=by
      split
      ·exact Qs
      ·exact PI
     apply T.skip;simp;apply aq;simp[hC];refine TL.cK ai [0] 1 (FD L _ SH hL) O5 rfl rfl rfl rfl OU Qc Qb rfl (TL.go' ai ?_);simp[hC,Gw];apply T.ret;refine ae.le (Le.nz [] [4]) ?_;simp;refine ae.le (Le.dp (o:=4) rfl rfl) ?_;simp;refine ae.trim [6] [0,3] 4 SN yA ⟨_,rfl,?_⟩;simp[jb,qA,hh,bR,eS]
  ·have hd0:¬ d=0∧¬ k.1<2:=by simpa using h
   obtain⟨e,rfl⟩:∃ e,d=e+1:=⟨d-1,by omega⟩;have he1:((e+1:Nat):Int)-1=(e:Int):=by omega
   have we:=cC (e:Int) yA yA;have ihe:=ih e yA;apply aq;simp[hC];refine T.bh rfl (fun h=>?_) (fun h=>?_)
   ·have hk4:k.1<4:=by simpa using h
    have hx:qK L ns (e+1) i=(.un (k.1 % 2) (qK L ns e k.2).1,(qK L ns e k.2).2):=by
     rw[qK,hk,if_neg hd0.2,if_pos hk4]
    have Vt:=nZ L ns e PI;have wm:=cC (3+(k.1:Int) % 2) yA yA;have htm:(k.1:Int).tmod 2=(k.1:Int) % 2:=Int.tmod_eq_emod_of_nonneg yA;apply aq;simp[hC,we,htm,wm];refine TL.cK ai [0,3] 4 (ihe k.2 yA PI) O5 rfl rfl rfl rfl OU Qc Qb rfl (TL.go' ai ?_);simp[hC,Gw,bP,bb];apply T.ret;refine ae.le (Le.trim [6] [0,3,4,5] 6 Yc yA) ?_;simp;refine ae.le (Le.dp (o:=5) rfl (by simp only[bz])) ?_;simp;refine ae.le (Le.dp (o:=4) rfl rfl) ?_;simp;refine ae.trim [6] [0,3] 4 SN yA ⟨_,rfl,?_⟩;simp[jb,hx,bR,eS]
   ·have hk4:¬ k.1<4:=by simpa using h
    have hx:qK L ns (e+1) i=(.bin (cd L k.2 13).1 (qK L ns e (cd L k.2 13).2).1 (qK L ns e (qK L ns e (cd L k.2 13).2).2).1,(qK L ns e (qK L ns e (cd L k.2 13).2).2).2):=by
     rw[qK,hk,if_neg hd0.2,if_neg hk4]
    have Vt:=ba L 13 PI;have Wo:=nZ L ns e Vt;have wb:=cC (5+((cd L k.2 13).1:Int)) yA (by have:=dm L k.2 (show 0<13 by omega);omega);apply T.skip;simp;apply aq;simp[hC];refine TL.cK ai [0] 1 (cE L k.2 13 PI hL yA yA) O5 rfl rfl rfl rfl OU Qc Qb rfl (TL.go' ai ?_);simp[hC,wb,we];refine TL.cK ai [0,3] 4 (ihe _ yA Vt) O5 rfl rfl rfl rfl OU Qc Qb rfl (TL.go' ai ?_);simp[hC,we];refine TL.cK ai [0,3] 4 (ihe _ yA Wo) O5 rfl rfl rfl rfl OU Qc Qb rfl (TL.go' ai ?_);simp[hC,Gw,bP,bb,drop8];apply T.ret;refine ae.le (Le.trim [6] [0,3,4,5] 6 Yc yA) ?_;simp;refine ae.le (Le.dp (o:=5) rfl (by simp only[bC,bz,Bool.and_self])) ?_;simp;refine ae.le (Le.dp (o:=4) rfl rfl) ?_;simp;refine ae.trim [6] [0,3] 4 SN yA ⟨_,rfl,?_⟩;simp[jb,hx,bR,eS]
end Go.Proofs.YtnecpnjdonibmaaGreat
namespace Go.Can
open Go.RowKit
section
variable {C:Cx}{σ:Nat→Option OB}{s:St}{w:World}
theorem aS.Av {F:Nat→Prop}{c c':CV}(hc:∀ v,VR w F σ c v→VR w F σ c' v):∀ {cs:List CV} {vs:List Value} {i:Nat},cs[i]? = some c→aS w F σ cs vs→aS w F σ (cs.set i c') vs
 | [],_,_,h,_=>by simp at h
 | d::cs,_,0,h,⟨v,r,e,h1,h2⟩=>by
  simp only[List.getElem?_cons_zero,Option.some.injEq] at h;subst h;exact⟨v,r,e,hc v h1,h2⟩
 | d::cs,_,i+1,h,⟨v,r,e,h1,h2⟩=>by
  simp only[List.getElem?_cons_succ] at h;exact⟨v,r,e,h1,aS.Av hc h h2⟩
theorem tg {c:CV}(hc:one c=true):∀ (cs:List CV) (i:Nat),cs.all one=true→(cs.set i c).all one=true
 | [],_,h=>h
 | d::cs,0,h=>by
  simp only[List.all_cons,Bool.and_eq_true] at h;simp only[List.set_cons_zero,List.all_cons,hc,h.2,Bool.and_self]
 | d::cs,i+1,h=>by
  simp only[List.all_cons,Bool.and_eq_true] at h;simp only[List.set_cons_succ,List.all_cons,h.1,Bool.true_and];exact tg hc cs i h.2
theorem Le.pO (o i:Nat)(e:TypeId)(sz:Nat){ob:Ob}(ho:assoc s.heap o=some ob)(hi:ob.cells[i]? = some .aa):Le C s ⟨s.env,(s.nx,⟨e,sz,[]⟩)::rF s.heap o ⟨ob.elem,ob.sz,ob.cells.set i (.bl s.nx 0 0)⟩,s.nx+1⟩:=by
 intro a w ⟨σ,hr⟩;obtain⟨h1,h2⟩:=hr.fresh (World.grownBy.refl w none) (ob:=⟨e,sz,[]⟩) (B:=⟨none,0,sz⟩) rfl rfl (fun _=>rfl) (fun b hb=>by cases hb);have Pf:¬ s.nx=o:=fun h=>by
  obtain⟨B,m1,_⟩:=hr.obj o ob ho;rw[hr.nx o yA] at m1;cases m1
 have hG:(s.nx,(⟨e,sz,[]⟩:Ob))::rF s.heap o ⟨ob.elem,ob.sz,ob.cells.set i (.bl s.nx 0 0)⟩=rF ((s.nx,⟨e,sz,[]⟩)::s.heap) o ⟨ob.elem,ob.sz,ob.cells.set i (.bl s.nx 0 0)⟩:=by
  simp only[rF,if_neg Pf]
 have hoG:assoc ((s.nx,(⟨e,sz,[]⟩:Ob))::s.heap) o=some ob:=by simp only[assoc,if_neg Pf,ho]
 rw[hG];have Um:=p9 (C:=C) (σ:=sig σ s.nx ⟨none,0,sz⟩) ((s.nx,(⟨e,sz,[]⟩:Ob))::s.heap) o ⟨ob.elem,ob.sz,ob.cells.set i (.bl s.nx 0 0)⟩;refine⟨_,h1.nk,h1.tm,h1.os,h1.tape,h1.output,h1.size,h1.frame,?_,?_,?_,h1.nx,h1.fh,h1.low,h1.new⟩
 ·intro t c hc;obtain⟨v,k1,k2⟩:=h1.env t c hc;exact⟨v,k1,by rw[Um];exact k2⟩
 ·intro p x hp;simp only[eP] at hp;unfold ObR;rw[Um];split at hp
  ·rename_i eo;subst eo;rw[hoG] at hp;simp only[Option.map_some,Option.some.injEq] at hp;subst hp;obtain⟨B,m1,m2,m3,m4,m5⟩:=h1.obj o ob hoG;refine⟨B,m1,m2,fun hb=>by simp[m3 hb] at hi,tg rfl _ _ m4,fun b hb=>?_⟩;obtain⟨cur,n1,n2,n3,n4,n5,n6⟩:=m5 b hb;refine⟨cur,n1,n2,n3,n4,by simpa using n5,?_⟩;simp only[List.length_set];refine aS.Av (fun v hv=>?_) hi n6;simp only[VR] at hv ⊢;exact⟨⟨none,0,sz⟩,dv,hv,trivial,trivial⟩
  ·exact h1.obj p x hp
 ·intro p p' x x' b hp Td hb Po;have dom:∀ q y,assoc (rF ((s.nx,(⟨e,sz,[]⟩:Ob))::s.heap) o ⟨ob.elem,ob.sz,ob.cells.set i (.bl s.nx 0 0)⟩) q=some y→∃ z,assoc ((s.nx,(⟨e,sz,[]⟩:Ob))::s.heap) q=some z:=fun q y hq=>by
   rw[eP] at hq;split at hq
   ·rename_i eo;subst eo;exact⟨ob,hoG⟩
   ·exact⟨y,hq⟩
  obtain⟨z,hz⟩:=dom p x hp;obtain⟨z',PZ⟩:=dom p' x' Td;exact h1.inj p p' z z' b hz PZ hb Po
theorem Le.up (n:Nat)(h:s.nx≤n):Le C s ⟨s.env,s.heap,n⟩:=by
 intro a w ⟨σ,hr⟩;exact⟨σ,hr.nk,hr.tm,hr.os,hr.tape,hr.output,hr.size,hr.frame,hr.env,hr.obj,hr.inj,fun o ho=>hr.nx o (Nat.le_trans h ho),hr.fh,Nat.le_trans hr.low h,hr.new⟩
end
section
variable {P:Program}{C:Cx}{s:St}{ops:Array Oper}{ak:List (Nat×TI)}{Q:Exit→St→Prop}
def Ir (o:Oper):Bool:=match o.op with
 | .convert _ _ _=>true
 | _=>false
def cvS (ak:List (Nat×TI))(s:St)(o:Oper):Option St:=match o.op with
 | .convert t u x=>match qQ ak s t u x with
  | some c=>some (s.put o.dst c)
  | none=>match ev s x,dE ak t,dE ak u with
   | some (.str b),some .str,some (.sl e)=>match dE ak e with
    | some (.int .u8)=>if b.size≤1000000 then some (s.put o.dst (.aA (p4 b) b.size)) else none
    | _=>none
   | _,_,_=>none
 | _=>none
theorem Nu (ht:aG P ak){o:Oper}{s':St}(hd:a6 C.nt o.dst=true)(h:cvS ak s o=some s'):tu P C o s s':=by
 refine Aa ht hd ?_;unfold cvS at h;unfold Dx;split at h
 ·rename_i t u x ho;rw[ho];simp only;split at h
  ·rename_i c hc;rw[hc];exact h
  ·rename_i hc;rw[hc];simp only;split at h
   ·rename_i b e h1 h2 h3;rw[h1,h2,h3];simp only;split at h
    ·rename_i h4;rw[h4];simp only;split at h
     ·rename_i hb;rw[if_pos hb];exact h
     ·cases h
    ·cases h
   ·cases h
 ·cases h
def JL (ak:List (Nat×TI))(nt:Nat)(ops:Array Oper)(K:List Oper→St→Prop):List Oper→St→Prop
 | [],s=>K [] s
 | o::r,s=>if zt o then
   match bZ ops s o with
   | some false=>xM (JL ak nt ops K r) (fk ak nt ops s o)
   | _=>K (o::r) s
  else if Ir o then
   match bZ ops s o with
   | some true=>if a6 nt o.dst=true then xM (JL ak nt ops K r) (cvS ak s o) else False
   | _=>xM (JL ak nt ops K r) (fk ak nt ops s o)
  else xM (JL ak nt ops K r) (fk ak nt ops s o)
theorem CP (ht:aG P ak){K:St→Prop}:∀ (l:List Oper) (s:St),JL ak C.nt ops (BW P C ops K) l s→TL P C ops l s K
 | [],s,h=>TL.nil h
 | o::r,s,h=>by
  have fin:xM (JL ak C.nt ops (BW P C ops K) r) (fk ak C.nt ops s o)→TL P C ops (o::r) s K:=fun h=>by
   cases hs:fk ak C.nt ops s o with
   | none=>rw[hs] at h;exact h.elim
   | some s'=>rw[hs] at h;exact TL.step ht hs (CP ht r s' h)
  unfold JL at h;split at h
  ·split at h
   ·exact fin h
   ·exact h
  ·split at h
   ·split at h
    ·rename_i hg;split at h
     ·rename_i hd
      cases hs:cvS ak s o with
      | none=>rw[hs] at h;exact h.elim
      | some s'=>rw[hs] at h;exact lW hg (Nu ht hd hs) (CP ht r s' h)
     ·exact h.elim
    ·exact fin h
   ·exact fin h
theorem TL.BZ (ht:aG P ak){K:St→Prop}{l:List Oper}(h:JL ak C.nt ops (BW P C ops K) l s):TL P C ops l s K:=CP ht l s h
theorem T.BZ (ht:aG P ak){id:Nat}{l:List Oper}(h:JL ak C.nt l.toArray (BW P C l.toArray (Q .normal)) l s):T P C (.region id l.toArray false) s Q:=T.region (TL.BZ ht h)
attribute [simp] Ir cvS JL qQ bytesOf cells?
end
end Go.Can
