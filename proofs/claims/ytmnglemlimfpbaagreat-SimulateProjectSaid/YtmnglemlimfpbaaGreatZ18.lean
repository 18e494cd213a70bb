/- A contract under other numbers. No function of the program i -/
import Derived.Test.YtmnglemlimfpbaaGreatZ17
namespace Go.Can
mutual
/-- The objects' numbers turned. -/
def dU (ρ:Nat→Nat):CV→CV
 | .int k n=>.int k n
 | .bool b=>.bool b
 | .str s=>.str s
 | .agg cs=>.agg (bu ρ cs)
 | .av cs n=>.av cs n
 | .ah=>.ah
 | .cM cs=>.cM cs
 | .bm=>.bm
 | .fn f cs=>.fn f (bu ρ cs)
 | .cw=>.cw
 | .iface t cs=>.iface t (bu ρ cs)
 | .iter k s p=>.iter (ρ k) s p
 | .mp k es=>.mp (ρ k) es
 | .cr cs=>.cr (bu ρ cs)
 | .bx o f n=>.bx (ρ o) f n
 | .aw o f=>.aw (ρ o) f
 | .any=>.any
def bu (ρ:Nat→Nat):List CV→List CV
 | []=>[]
 | c::cs=>dU ρ c::bu ρ cs
end
theorem b9 (ρ:Nat→Nat):∀ cs:List CV,bu ρ cs=cs.map (dU ρ)
 | []=>rfl
 | c::cs=>by rw[bu,b9 ρ cs,List.map_cons]
theorem Iu (ρ:Nat→Nat)(c:CV):one (dU ρ c)=one c:=by cases c<;>rfl
theorem fU (ρ:Nat→Nat)(cs:List CV):(bu ρ cs).all one=cs.all one:=by
 induction cs with
 | nil=>rfl
 | cons c cs ih=>simp only[bu,List.all_cons,Iu,ih]
mutual
theorem VR.cZ {w:World}{F:Nat→Prop}{σ:Nat→Option OB}(ρ:Nat→Nat):∀ (c:CV) (v:Value),VR w F σ (dU ρ c) v↔VR w F (fun p=>σ (ρ p)) c v
 | .int _ _,v=>by simp only[dU,VR]
 | .bool _,v=>by simp only[dU,VR]
 | .str _,v=>by simp only[dU,VR]
 | .agg cs,v=>by
  simp only[dU,VR,fU]
  constructor
  ·rintro⟨vs,h1,h2,h3⟩
   exact⟨vs,h1,(aS.cZ ρ cs vs).1 h2,h3⟩
  ·rintro⟨vs,h1,h2,h3⟩
   exact⟨vs,h1,(aS.cZ ρ cs vs).2 h2,h3⟩
 | .av _ _,v=>by simp only[dU,VR]
 | .ah,v=>by simp only[dU,VR]
 | .cM _,v=>by simp only[dU,VR]
 | .bm,v=>by simp only[dU,VR]
 | .fn _ cs,v=>by
  simp only[dU,VR]
  constructor
  ·rintro⟨vs,h1,h2⟩
   exact⟨vs,h1,(aS.cZ ρ cs vs).1 h2⟩
  ·rintro⟨vs,h1,h2⟩
   exact⟨vs,h1,(aS.cZ ρ cs vs).2 h2⟩
 | .cw,v=>by simp only[dU,VR]
 | .iface _ cs,v=>by
  simp only[dU,VR]
  constructor
  ·rintro⟨vs,h1,h2⟩
   exact⟨vs,h1,(aS.cZ ρ cs vs).1 h2⟩
  ·rintro⟨vs,h1,h2⟩
   exact⟨vs,h1,(aS.cZ ρ cs vs).2 h2⟩
 | .iter _ _ _,v=>by simp only[dU,VR]
 | .mp _ _,v=>by simp only[dU,VR]
 | .cr cs,v=>by
  simp only[dU,VR]
  constructor
  ·rintro⟨vs,h1,h2⟩
   exact⟨vs,h1,(aS.cZ ρ cs vs).1 h2⟩
  ·rintro⟨vs,h1,h2⟩
   exact⟨vs,h1,(aS.cZ ρ cs vs).2 h2⟩
 | .bx _ _ _,v=>by simp only[dU,VR]
 | .aw _ _,v=>by simp only[dU,VR]
 | .any,v=>by simp only[dU,VR]
theorem aS.cZ {w:World}{F:Nat→Prop}{σ:Nat→Option OB}(ρ:Nat→Nat):∀ (cs:List CV) (vs:List Value),aS w F σ (bu ρ cs) vs↔aS w F (fun p=>σ (ρ p)) cs vs
 | [],vs=>by simp only[bu,aS]
 | c::cs,vs=>by
  simp only[bu,aS]
  constructor
  ·rintro⟨v,r,h1,h2,h3⟩
   exact⟨v,r,h1,(VR.cZ ρ c v).1 h2,(aS.cZ ρ cs r).1 h3⟩
  ·rintro⟨v,r,h1,h2,h3⟩
   exact⟨v,r,h1,(VR.cZ ρ c v).2 h2,(aS.cZ ρ cs r).2 h3⟩
end
def ca (ρ:Nat→Nat)(ob:Ob):Ob:=⟨ob.elem,ob.sz,bu ρ ob.cells⟩
def bT (ρ:Nat→Nat):List (Nat×Ob)→List (Nat×Ob)
 | []=>[]
 | (k,ob)::r=>(ρ k,ca ρ ob)::bT ρ r
def dF (ρ:Nat→Nat):List (Nat×CV)→List (Nat×CV)
 | []=>[]
 | (t,c)::r=>(t,dU ρ c)::dF ρ r
theorem fJ (ρ:Nat→Nat):∀ (e:List (Nat×CV)) (t:Nat),assoc (dF ρ e) t=(assoc e t).map (dU ρ)
 | [],t=>rfl
 | (k,c)::r,t=>by
  simp only[dF,assoc]
  split
  ·rfl
  ·exact fJ ρ r t
theorem cd {ρ:Nat→Nat}(hi:∀ x y,ρ x=ρ y→x=y):∀ (H:List (Nat×Ob)) (o:Nat),assoc (bT ρ H) (ρ o)=(assoc H o).map (ca ρ)
 | [],o=>rfl
 | (k,c)::r,o=>by
  simp only[bT,assoc]
  by_cases h:k=o
  ·simp[h]
  ·have:¬ ρ k=ρ o:=fun e=>h (hi _ _ e)
   simp only[if_neg h,if_neg this]
   exact cd hi r o
theorem en {ρ:Nat→Nat}:∀ (H:List (Nat×Ob)) (q:Nat) (ob:Ob),assoc (bT ρ H) q=some ob→∃ o,q=ρ o
 | [],q,ob,h=>by simp[bT,assoc] at h
 | (k,c)::r,q,ob,h=>by
  simp only[bT,assoc] at h
  split at h
  ·rename_i e
   exact⟨k,e.symm⟩
  ·exact en r q ob h
section
variable {P:Program}{C:Cx}{σ:Nat→Option OB}{s:St}{a:Act}{w:World}{ops:Array Oper}{aq:List (Nat×TI)}
theorem DR (ρ:Nat→Nat)(cs:List CV)(k:Nat):bu ρ (cs.drop k)=(bu ρ cs).drop k:=by rw[b9,b9,List.map_drop]
theorem DQ (ρ:Nat→Nat)(cs:List CV)(k:Nat):bu ρ (cs.take k)=(bu ρ cs).take k:=by rw[b9,b9,List.map_take]
theorem gk (ρ:Nat→Nat)(cs:List CV):(bu ρ cs).length=cs.length:=by rw[b9,List.length_map]
theorem Ea {ρ:Nat→Nat}(hi:∀ x y,ρ x=ρ y→x=y)(e:List (Nat×CV))(H:List (Nat×Ob))(n m:Nat)(c:CV)(ht:∀ cs,c=.cM cs→bu ρ cs=cs):fF ⟨dF ρ e,bT ρ H,m⟩ (dU ρ c)=(fF ⟨e,H,n⟩ c).map (bu ρ):=by
 cases c with
 | cM cs=>
  simp only[dU,fF,Option.map_some,Option.some.injEq]
  exact (ht cs rfl).symm
 | aw o off=>
  simp only[dU,fF,cd hi]
  cases assoc H o with
  | none=>rfl
  | some ob=>simp[ca,DR]
 | _=>rfl
mutual
theorem bY.tree {w:World}{F:Nat→Prop}:∀ (c:CV) (v:Value),bY w F c v→Can.tree c=true
 | .int _ _,_,_=>rfl
 | .bool _,_,_=>rfl
 | .str _,_,_=>rfl
 | .agg cs,v,h=>by
  simp only[bY] at h
  obtain⟨vs,_,h2,_⟩:=h
  simp only[Can.tree]
  exact bJ.tree cs vs h2
 | .av _ _,_,_=>rfl
 | .ah,_,_=>rfl
 | .cM _,_,_=>rfl
 | .bm,_,_=>rfl
 | .fn _ cs,v,h=>by
  simp only[bY] at h
  obtain⟨vs,_,h2⟩:=h
  simp only[Can.tree]
  exact bJ.tree cs vs h2
 | .cw,_,_=>rfl
 | .iface _ cs,v,h=>by
  simp only[bY] at h
  obtain⟨vs,_,h2⟩:=h
  simp only[Can.tree]
  exact bJ.tree cs vs h2
 | .iter _ _ _,v,h=>by simp[bY] at h
 | .mp _ _,v,h=>by simp[bY] at h
 | .cr cs,v,h=>by
  simp only[bY] at h
  obtain⟨vs,_,h2⟩:=h
  simp only[Can.tree]
  exact bJ.tree cs vs h2
 | .bx _ _ _,v,h=>by simp[bY] at h
 | .aw _ _,v,h=>by simp[bY] at h
 | .any,_,_=>rfl
theorem bJ.tree {w:World}{F:Nat→Prop}:∀ (cs:List CV) (vs:List Value),bJ w F cs vs→trees cs=true
 | [],_,_=>rfl
 | c::cs,vs,h=>by
  simp only[bJ] at h
  obtain⟨v,r,_,h2,h3⟩:=h
  simp only[trees,bY.tree c v h2,bJ.tree cs r h3,Bool.and_self]
end
theorem fw.tree {w:World}{F:Nat→Prop}:∀ (cs:List CV) (ad:Addr),fw w F cs ad→trees cs=true
 | [],_,_=>rfl
 | c::cs,ad,h=>by
  simp only[fw] at h
  obtain⟨⟨u,_,_,h3⟩,_,h5⟩:=h
  simp only[trees,bY.tree c u h3,fw.tree cs _ h5,Bool.and_self]
mutual
theorem g8 (ρ:Nat→Nat):∀ c:CV,Can.tree c=true→dU ρ c=c
 | .int _ _,_=>rfl
 | .bool _,_=>rfl
 | .str _,_=>rfl
 | .agg cs,h=>by
  simp only[Can.tree] at h
  rw[dU,af ρ cs h]
 | .av _ _,_=>rfl
 | .ah,_=>rfl
 | .cM _,_=>rfl
 | .bm,_=>rfl
 | .fn _ cs,h=>by
  simp only[Can.tree] at h
  rw[dU,af ρ cs h]
 | .cw,_=>rfl
 | .iface _ cs,h=>by
  simp only[Can.tree] at h
  rw[dU,af ρ cs h]
 | .iter _ _ _,h=>by simp[Can.tree] at h
 | .mp _ _,h=>by simp[Can.tree] at h
 | .cr cs,h=>by
  simp only[Can.tree] at h
  rw[dU,af ρ cs h]
 | .bx _ _ _,h=>by simp[Can.tree] at h
 | .aw _ _,h=>by simp[Can.tree] at h
 | .any,_=>rfl
theorem af (ρ:Nat→Nat):∀ cs:List CV,trees cs=true→bu ρ cs=cs
 | [],_=>rfl
 | c::cs,h=>by
  simp only[trees,Bool.and_eq_true] at h
  rw[bu,g8 ρ c h.1,af ρ cs h.2]
end
theorem Ey (ρ:Nat→Nat)(i:TI)(cs:List CV):mT i (bu ρ cs)=(mT i cs).map (dU ρ):=by
 unfold mT
 rw[gk]
 split
 ·split
  ·simp[dU,DQ]
  ·rfl
 ·cases cs<;>rfl
theorem Ew {ρ:Nat→Nat}(hi:∀ x y,ρ x=ρ y→x=y){e:List (Nat×CV)}{H:List (Nat×Ob)}{n m:Nat}(ht:∀ t cs,assoc e t=some (.cM cs)→bu ρ cs=cs)(r:ResultVar):pe aq ⟨dF ρ e,bT ρ H,m⟩ r=(pe aq ⟨e,H,n⟩ r).map (dU ρ):=by
 cases r with
 | tmp t=>exact fJ ρ e t
 | cell x t=>
  simp only[pe,fJ]
  cases hx:assoc e x with
  | none=>rfl
  | some c=>
   have hm:=Ea hi e H n m c fun cs hc=>ht x cs (by rw[hx,hc])
   cases ht':assoc aq t with
   | none=>rfl
   | some i=>
    simp only[Option.map_some,hm]
    cases fF ⟨e,H,n⟩ c with
    | none=>rfl
    | some cs=>exact Ey ρ i cs
theorem xD {ρ:Nat→Nat}(hi:∀ x y,ρ x=ρ y→x=y){e:List (Nat×CV)}{H:List (Nat×Ob)}{n m:Nat}(ht:∀ t cs,assoc e t=some (.cM cs)→bu ρ cs=cs):∀ rs:List ResultVar,kR aq ⟨dF ρ e,bT ρ H,m⟩ rs=(kR aq ⟨e,H,n⟩ rs).map (bu ρ)
 | []=>rfl
 | r::rs=>by
  simp only[kR,Ew (n:=n) (m:=m) hi ht r,xD (n:=n) (m:=m) hi ht rs]
  cases pe aq ⟨e,H,n⟩ r with
  | none=>rfl
  | some c=>cases kR aq ⟨e,H,n⟩ rs<;>rfl
theorem qy {ρ:Nat→Nat}(hi:∀ x y,ρ x=ρ y→x=y){e:List (Nat×CV)}{H:List (Nat×Ob)}{n m:Nat}(ht:∀ t cs,assoc e t=some (.cM cs)→bu ρ cs=cs)(fn:Func):bw aq fn ⟨dF ρ e,bT ρ H,m⟩=(bw aq fn ⟨e,H,n⟩).map (dU ρ):=by
 simp only[bw,xD (n:=n) (m:=m) hi ht]
 cases kR aq ⟨e,H,n⟩ fn.results.toList with
 | none=>rfl
 | some cs=>
  match cs with
  | []=>rfl
  | [c]=>rfl
  | c::d::r=>rfl
theorem xv (ρ:Nat→Nat)(args:List CV):(enter (bu ρ args)).env=dF ρ (enter args).env:=by
 have:∀ (args:List CV) (k:Nat),((bu ρ args).zipIdx k).map (fun x=>(x.2,x.1))=dF ρ ((args.zipIdx k).map fun x=>(x.2,x.1)):=by
  intro args
  induction args with
  | nil=>intro k;rfl
  | cons c cs ih=>intro k;simp only[bu,List.zipIdx_cons,List.map_cons,dF,ih]
 exact this args 0
theorem Body.oP {ρ:Nat→Nat}(hi:∀ x y,ρ x=ρ y→x=y){f:FuncId}{args:List CV}{H:List (Nat×Ob)}{n n':Nat}{R:CV→St→Prop}(hρ:∀ p,p<n→ρ p<n')(h:Body P aq f args H n R)(ha:aQ n args=true)(hH:de n H=true)(hR:∀ r s,R r s→s.nx=n) :
  Body P aq f (bu ρ args) (bT ρ H) n' fun r s=>∃ r1 s1,R r1 s1∧r=dU ρ r1∧s=⟨dF ρ s1.env,bT ρ s1.heap,n'⟩:=by
 obtain⟨fn,c,hf,hb,hnm,hl,hT⟩:=h
 refine⟨fn,c,hf,hb,hnm,by rw[gk];exact hl,fun C' hC hC0 a w ⟨σ,hr⟩=>?_⟩
 rw[xv] at hr
 have hargs:∀ (t:Nat) c o,assoc (enter args).env t=some c→aF o c=false→o<n:=fun t c o hc ho=>by
  obtain⟨_,h2⟩:=fS args 0 t c hc
  have hm:c∈args:=List.mem_of_getElem? h2
  rw[a7,List.all_eq_true] at ha
  exact lN n c o (ha c hm) ho
 obtain⟨σt,hσt⟩:∃ σt:Nat→Option OB,σt=below (fun p=>σ (ρ p)) n fun _=>none:=⟨_,rfl⟩
 have t1:∀ p,p<n→σt p=σ (ρ p):=fun p hp=>by rw[hσt];exact gu hp
 have t2:∀ p,n≤p→σt p=none:=fun p hp=>by rw[hσt];exact kj hp
 have hsame:∀ (G:List (Nat×Ob)),(∀ o ob,assoc G o=some ob→o<n)→∀ b,(C'.F b∨∃ o ob,assoc G o=some ob∧aV σt o=some b)↔FB C' σ (bT ρ G) b:=fun G hG b=>by
  unfold FB
  constructor
  ·rintro (h | ⟨o,ob,ho,hx⟩)
   ·exact .inl h
   ·refine .inr ⟨ρ o,ca ρ ob,by rw[cd hi,ho];rfl,?_⟩
    unfold aV at hx ⊢
    rwa [t1 o (hG o ob ho)] at hx
  ·rintro (h | ⟨q,ob,hq,hx⟩)
   ·exact .inl h
   ·obtain⟨o,rfl⟩:=en G q ob hq
    rw[cd hi] at hq
    obtain⟨ob',ho,_⟩:=Option.map_eq_some_iff.1 hq
    refine .inr ⟨o,ob',ho,?_⟩
    unfold aV at hx ⊢
    rwa [t1 o (hG o ob' ho)]
 have hdomH:∀ o ob,assoc H o=some ob→o<n:=fun o ob ho=>(iN hH o ob ho).1
 have h0:aG ⟨C'.w0,C'.F,C'.own,C'.hF,C'.nt,σt,n⟩ σt ⟨(enter args).env,H,n⟩ a w:=by
  have hK:cF w w (FB C' σ (bT ρ H)) (FB ⟨C'.w0,C'.F,C'.own,C'.hF,C'.nt,σt,n⟩ σt H):=cF.same fun b hx=>(hsame H hdomH b).1 hx
  refine⟨hr.nq,hr.tm,hr.os,hr.tape,hr.output,hr.size,hr.frame,?_,?_,?_,fun o ho=>t2 o ho,fun _ _=>rfl,Nat.le_refl _,fun o B b ho hB _=>by rw[t2 o ho] at hB;cases hB⟩
  ·intro t c hc
   obtain⟨v,k1,k2⟩:=hr.env t (dU ρ c) (by rw[fJ,hc];rfl)
   refine⟨v,k1,?_⟩
   exact VR.bp hK _ _ (fun o ho=>t1 o (hargs t c o hc ho)) ((VR.cZ ρ c v).1 k2)
  ·intro o ob ho
   obtain⟨B,m1,m2,m3,m4,m5⟩:=hr.obj (ρ o) (ca ρ ob) (by rw[cd hi,ho];rfl)
   have hlt:=hdomH o ob ho
   refine⟨B,by rw[t1 o hlt];exact m1,m2,fun hb=>?_,by have:=m4;simp only[ca,fU] at this;exact this,fun b hb=>?_⟩
   ·have:=m3 hb
    simp only[ca] at this
    have hl:=gk ρ ob.cells
    rw[this] at hl
    exact List.eq_nil_of_length_eq_zero hl.symm
   ·obtain⟨cur,n1,n2,n3,n4,n5,n6⟩:=m5 b hb
    simp only[ca,gk] at n5 n6
    refine⟨cur,n1,n2,n3,n4,n5,?_⟩
    exact aS.bp hK _ _ (fun p hp=>t1 p (eW n _ p (iN hH o ob ho).2 hp)) ((aS.cZ ρ _ _).1 n6)
  ·intro o o' ob ob' b ho ho' hx hx'
   unfold aV at hx hx'
   rw[t1 o (hdomH o ob ho)] at hx
   rw[t1 o' (hdomH o' ob' ho')] at hx'
   exact hi _ _ (hr.inj (ρ o) (ρ o') (ca ρ ob) (ca ρ ob') b (by rw[cd hi,ho];rfl) (by rw[cd hi,ho'];rfl) hx hx')
 refine wp_mono (hT ⟨C'.w0,C'.F,C'.own,C'.hF,C'.nt,σt,n⟩ hC rfl a w ⟨_,h0⟩) fun e a' w' ⟨s1,q,σ1,hr1⟩=>?_
 have fin:aa ⟨C'.w0,C'.F,C'.own,C'.hF,C'.nt,σt,n⟩ (fun s'=>∃ r,bw aq fn s'=some r∧R r s') s1 →
   ∃ s',aa C' (fun s'=>∃ r,bw aq fn s'=some r∧∃ r1 s1,R r1 s1∧r=dU ρ r1∧s'=⟨dF ρ s1.env,bT ρ s1.heap,n'⟩) s'∧Rel C' s' a' w':=fun⟨s2,⟨r,q1,q2⟩,hle⟩=>by
  obtain⟨σ2,hr2⟩:=hle _ _ ⟨σ1,hr1⟩
  have hnx2:=hR r s2 q2
  obtain⟨e2,H2,n2⟩:=s2
  simp only at hnx2
  subst hnx2
  have hσ2:σ2=σt:=by
   funext p
   rcases Nat.lt_or_ge p n2 with hp | hp
   ·exact hr2.fj p hp
   ·rw[hr2.nx p hp,t2 p hp]
  subst hσ2
  have hlt:∀ o B,σ2 o=some B→o<n2:=fun o B hB=>Nat.lt_of_not_le fun hle=>by rw[hr2.nx o hle] at hB;cases hB
  have hdom2:∀ o ob,assoc H2 o=some ob→o<n2:=fun o ob ho=>by
   obtain⟨B,m1,_⟩:=hr2.obj o ob ho
   exact hlt o B m1
  have hK:cF w' w' (FB ⟨C'.w0,C'.F,C'.own,C'.hF,C'.nt,σ2,n2⟩ σ2 H2) (FB C' σ (bT ρ H2)):=cF.same fun b hx=>(hsame H2 hdom2 b).2 hx
  refine⟨⟨dF ρ e2,bT ρ H2,n'⟩,aa.here ⟨dU ρ r,?_,r,_,q2,rfl,rfl⟩,σ,?_⟩
  ·rw[qy (n:=n2) hi (fun t cs hc=>?_),q1]
   ·rfl
   ·obtain⟨v,_,k2⟩:=hr2.env t _ hc
    simp only[VR,bY] at k2
    obtain⟨ad,_,h3⟩:=k2
    exact af ρ cs (fw.tree cs ad h3)
  ·refine⟨hr2.nq,hr2.tm,hr2.os,hr2.tape,hr2.output,hr2.size,hr2.frame,?_,?_,?_,hr.nx,hr.fj,by rw[hC0];exact Nat.le_refl _,hr.new⟩
   ·intro t c hc
    simp only[fJ] at hc
    obtain⟨d,hd,rfl⟩:=Option.map_eq_some_iff.1 hc
    obtain⟨v,k1,k2⟩:=hr2.env t d hd
    refine⟨v,k1,(VR.cZ ρ d v).2 (VR.bp hK _ _ (fun o ho=>?_) k2)⟩
    obtain⟨B,hB⟩:=VR.refs _ _ o k2 ho
    exact (t1 o (hlt o B hB)).symm
   ·intro q ob hq
    obtain⟨o,rfl⟩:=en H2 q ob hq
    simp only[cd hi] at hq
    obtain⟨ob',ho,rfl⟩:=Option.map_eq_some_iff.1 hq
    obtain⟨B,m1,m2,m3,m4,m5⟩:=hr2.obj o ob' ho
    refine⟨B,by rw[← t1 o (hdom2 o ob' ho)];exact m1,m2,fun hb=>by simp only[ca,m3 hb];rfl,by simp only[ca,fU];exact m4,fun b hb=>?_⟩
    obtain⟨cur,n1,n2',n3,n4,n5,n6⟩:=m5 b hb
    simp only[ca,gk]
    refine⟨cur,n1,n2',n3,n4,n5,(aS.cZ ρ _ _).2 (aS.bp hK _ _ (fun p hp=>?_) n6)⟩
    obtain⟨B',hB'⟩:=aS.refs _ _ p n6 hp
    exact (t1 p (hlt p B' hB')).symm
   ·intro q q' ob ob' b hq hq' hx hx'
    obtain⟨o,rfl⟩:=en H2 q ob hq
    obtain⟨o',rfl⟩:=en H2 q' ob' hq'
    simp only[cd hi] at hq hq'
    obtain⟨x,ho,_⟩:=Option.map_eq_some_iff.1 hq
    obtain⟨x',ho',_⟩:=Option.map_eq_some_iff.1 hq'
    unfold aV at hx hx'
    rw[← t1 o (hdom2 o x ho)] at hx
    rw[← t1 o' (hdom2 o' x' ho')] at hx'
    rw[hr2.inj o o' x x' b ho ho' hx hx']
 cases e with
 | normal=>exact fin q
 | ret=>exact fin q
 | exit _=>exact q.elim
 | goto _=>exact q.elim
 | panic _=>exact q.elim
 | outgrown=>exact q.elim
def sE (a b p:Nat):Nat:=if p=a then b else if p=b then a else p
theorem H3 (a b:Nat):∀ x y,sE a b x=sE a b y→x=y:=by
 intro x y h
 unfold sE at h
 split at h<;>split at h<;>(try split at h)<;>(try split at h)<;>omega
theorem Kc {a b n m:Nat}(ha:a<n)(hb:b<m)(hn:n≤m):∀ p,p<n→sE a b p<m:=by
 intro p hp
 unfold sE
 split
 ·exact hb
 ·split<;>omega
theorem Body.retX {f:FuncId}{args:List CV}{H H1:List (Nat×Ob)}{n m:Nat}{r0:CV}(a b:Nat)(h:Body P aq f args H n (kk r0 H1 n))(ha:a<n)(hb:b<m)(hn:n≤m)(hr:aQ n args=true)(hH:de n H=true)(ht:tree r0=true) :
  Body P aq f (bu (sE a b) args) (bT (sE a b) H) m (kk r0 (bT (sE a b) H1) m):=
 (Body.oP (H3 a b) (Kc ha hb hn) h hr hH fun r s h=>h.2.2).ret fun r s ⟨r1,s1,h1,h2,h3⟩=>by
  obtain⟨k1,k2,k3⟩:=h1
  subst h3
  rw[h2,k1,g8 _ _ ht,k2]
  exact⟨rfl,rfl,rfl⟩
theorem TL.jq (ht0:ay P aq){o:Oper}{l:List Oper}{c:Call}{g:FuncId}{args:List CV}{K:St→Prop}{r0:CV}{H1:List (Nat×Ob)}(a b:Nat)(ks:List Nat){H:List (Nat×Ob)}(n:Nat)(hb:Body P aq g args H n (kk r0 H1 n))(hd:aU C.nt o.dst=true)(hg:bU ops s o=Option.some true)(ho:o.op=.call c)(hca:bl s c=Option.some (g,bu (sE a b) args))
  (hp:dZ s.heap ks=Option.some (bT (sE a b) H)) (han:a<n) (hbn:b<s.nx) (hn:n≤s.nx) (ha:aQ n args=true) (hH:de n H=true) (ht:tree r0=true) (ha2:aQ s.nx (bu (sE a b) args)=true) (hH2:de s.nx (bT (sE a b) H)=true) (hk:j6 ks (bT (sE a b) H1)=true)
  (hK:TL P C ops l (St.put ⟨s.env,bT (sE a b) H1++dx s.heap ks,s.nx⟩ o.dst r0) K):TL P C ops (o::l) s K:=
 TL.cO ht0 ks s.nx (hb.retX a b han hbn hn ha hH ht) hd hg ho hca hp (Nat.le_refl _) ha2 hH2 hk hK
variable {nt N:Nat}{dyn:List (Nat×Nat)}{K:St→Prop}{i:Nat}{r:List Nat}{res:Nat→Er}
theorem RX.jq {o:Oper}{cl:Call}{g:FuncId}{args:List CV}{r0:CV}{H1:List (Nat×Ob)}(a b:Nat)(ks chg:List Nat){H:List (Nat×Ob)}(n:Nat)(hb:Body P aq g args H n (kk r0 H1 n))(hi:ops[i]? = Option.some o)(hd:aU nt o.dst=true)(hg:bU ops s o=Option.some true)(hu:cg o=Option.some cl)(hca:bl s cl=Option.some (g,bu (sE a b) args))
  (hp:dZ s.heap ks=Option.some (bT (sE a b) H)) (han:a<n) (hbn:b<s.nx) (hn:n≤s.nx) (ha:aQ n args=true) (hH:de n H=true) (ht:tree r0=true) (ha2:aQ s.nx (bu (sE a b) args)=true) (hH2:de s.nx (bT (sE a b) H)=true) (hk:j6 ks (bT (sE a b) H1)=true) (hv:yU dyn res i ks=true) (hc:(chg.all fun p=>ks.contains p)=true) (hs:∀ p∈ks,p∉chg→assoc (bT (sE a b) H1) p=assoc (bT (sE a b) H) p)
  (hK:EV dyn res i (iR r0 ks chg (bT (sE a b) H1))=true∧px aq nt ops N dyn (FH P aq nt ops N dyn K) r (note dyn res i (iR r0 ks chg (bT (sE a b) H1))) (St.put ⟨s.env,bT (sE a b) H1++dx s.heap ks,s.nx⟩ o.dst r0)):RX P aq nt ops N dyn K (i::r) res s:=
 RX.cO ks chg s.nx (hb.retX a b han hbn hn ha hH ht) hi hd hg hu hca hp (Nat.le_refl _) ha2 hH2 hk hv hc hs hK
attribute [simp] bT sE
end
open Go.RowKit
section
variable {C:Cx}{σ:Nat→Option OB}{s:St}{w:World}
theorem aS.zD {F:Nat→Prop}{c c':CV}(hc:∀ v,VR w F σ c v→VR w F σ c' v):∀ {cs:List CV} {vs:List Value} {i:Nat},cs[i]? = some c→aS w F σ cs vs→aS w F σ (cs.set i c') vs
 | [],_,_,h,_=>by simp at h
 | d::cs,_,0,h,⟨v,r,e,h1,h2⟩=>by
  simp only[List.getElem?_cons_zero,Option.some.injEq] at h
  subst h
  exact⟨v,r,e,hc v h1,h2⟩
 | d::cs,_,i+1,h,⟨v,r,e,h1,h2⟩=>by
  simp only[List.getElem?_cons_succ] at h
  exact⟨v,r,e,h1,aS.zD hc h h2⟩
theorem sw {c:CV}(hc:one c=true):∀ (cs:List CV) (i:Nat),cs.all one=true→(cs.set i c).all one=true
 | [],_,h=>h
 | d::cs,0,h=>by
  simp only[List.all_cons,Bool.and_eq_true] at h
  simp only[List.set_cons_zero,List.all_cons,hc,h.2,Bool.and_self]
 | d::cs,i+1,h=>by
  simp only[List.all_cons,Bool.and_eq_true] at h
  simp only[List.set_cons_succ,List.all_cons,h.1,Bool.true_and]
  exact sw hc cs i h.2
theorem Le.kz (o i:Nat)(e:TypeId)(sz:Nat){ob:Ob}(ho:assoc s.heap o=some ob)(hi:ob.cells[i]? = some .ah):Le C s ⟨s.env,(s.nx,⟨e,sz,[]⟩)::qQ s.heap o ⟨ob.elem,ob.sz,ob.cells.set i (.bx s.nx 0 0)⟩,s.nx+1⟩:=by
 intro a w ⟨σ,hr⟩
 obtain⟨h1,h2⟩:=hr.fresh (World.grownBy.refl w none) (ob:=⟨e,sz,[]⟩) (B:=⟨none,0,sz⟩) rfl rfl (fun _=>rfl) (fun b hb=>by cases hb)
 have hne:¬ s.nx=o:=fun h=>by
  obtain⟨B,m1,_⟩:=hr.obj o ob ho
  rw[hr.nx o yA] at m1
  cases m1
 have hG:(s.nx,(⟨e,sz,[]⟩:Ob))::qQ s.heap o ⟨ob.elem,ob.sz,ob.cells.set i (.bx s.nx 0 0)⟩=qQ ((s.nx,⟨e,sz,[]⟩)::s.heap) o ⟨ob.elem,ob.sz,ob.cells.set i (.bx s.nx 0 0)⟩:=by
  simp only[qQ,if_neg hne]
 have hoG:assoc ((s.nx,(⟨e,sz,[]⟩:Ob))::s.heap) o=some ob:=by simp only[assoc,if_neg hne,ho]
 rw[hG]
 have hFB:=pT (C:=C) (σ:=sig σ s.nx ⟨none,0,sz⟩) ((s.nx,(⟨e,sz,[]⟩:Ob))::s.heap) o ⟨ob.elem,ob.sz,ob.cells.set i (.bx s.nx 0 0)⟩
 refine⟨_,h1.nq,h1.tm,h1.os,h1.tape,h1.output,h1.size,h1.frame,?_,?_,?_,h1.nx,h1.fj,h1.low,h1.new⟩
 ·intro t c hc
  obtain⟨v,k1,k2⟩:=h1.env t c hc
  exact⟨v,k1,by rw[hFB];exact k2⟩
 ·intro p x hp
  simp only[eP] at hp
  unfold ObR
  rw[hFB]
  split at hp
  ·rename_i eo
   subst eo
   rw[hoG] at hp
   simp only[Option.map_some,Option.some.injEq] at hp
   subst hp
   obtain⟨B,m1,m2,m3,m4,m5⟩:=h1.obj o ob hoG
   refine⟨B,m1,m2,fun hb=>by simp[m3 hb] at hi,sw rfl _ _ m4,fun b hb=>?_⟩
   obtain⟨cur,n1,n2,n3,n4,n5,n6⟩:=m5 b hb
   refine⟨cur,n1,n2,n3,n4,by simpa using n5,?_⟩
   simp only[List.length_set]
   refine aS.zD (fun v hv=>?_) hi n6
   simp only[VR] at hv ⊢
   exact⟨⟨none,0,sz⟩,dw,hv,trivial,trivial⟩
  ·exact h1.obj p x hp
 ·intro p p' x x' b hp hp' hb hb'
  have dom:∀ q y,assoc (qQ ((s.nx,(⟨e,sz,[]⟩:Ob))::s.heap) o ⟨ob.elem,ob.sz,ob.cells.set i (.bx s.nx 0 0)⟩) q=some y→∃ z,assoc ((s.nx,(⟨e,sz,[]⟩:Ob))::s.heap) q=some z:=fun q y hq=>by
   rw[eP] at hq
   split at hq
   ·rename_i eo
    subst eo
    exact⟨ob,hoG⟩
   ·exact⟨y,hq⟩
  obtain⟨z,hz⟩:=dom p x hp
  obtain⟨z',hz'⟩:=dom p' x' hp'
  exact h1.inj p p' z z' b hz hz' hb hb'
theorem Le.up (n:Nat)(h:s.nx≤n):Le C s ⟨s.env,s.heap,n⟩:=by
 intro a w ⟨σ,hr⟩
 exact⟨σ,hr.nq,hr.tm,hr.os,hr.tape,hr.output,hr.size,hr.frame,hr.env,hr.obj,hr.inj,fun o ho=>hr.nx o (Nat.le_trans h ho),hr.fj,Nat.le_trans hr.low h,hr.new⟩
end
section
variable {P:Program}{C:Cx}{s:St}{ops:Array Oper}{aq:List (Nat×TI)}{Q:Exit→St→Prop}
def Gz (o:Oper):Bool:=match o.op with
 | .convert _ _ _=>true
 | _=>false
def cvS (aq:List (Nat×TI))(s:St)(o:Oper):Option St:=match o.op with
 | .convert t u x=>match qC aq s t u x with
  | some c=>some (s.put o.dst c)
  | none=>match ev s x,dz aq t,dz aq u with
   | some (.str b),some .str,some (.sl e)=>match dz aq e with
    | some (.int .u8)=>if b.size≤1000000 then some (s.put o.dst (.av (pM b) b.size)) else none
    | _=>none
   | _,_,_=>none
 | _=>none
theorem Lc (ht:ay P aq){o:Oper}{s':St}(hd:aU C.nt o.dst=true)(h:cvS aq s o=some s'):pQ P C o s s':=by
 refine zb ht hd ?_
 unfold cvS at h
 unfold Cs
 split at h
 ·rename_i t u x ho
  rw[ho]
  simp only
  split at h
  ·rename_i c hc
   rw[hc]
   exact h
  ·rename_i hc
   rw[hc]
   simp only
   split at h
   ·rename_i b e h1 h2 h3
    rw[h1,h2,h3]
    simp only
    split at h
    ·rename_i h4
     rw[h4]
     simp only
     split at h
     ·rename_i hb
      rw[if_pos hb]
      exact h
     ·cases h
    ·cases h
   ·cases h
 ·cases h
def HQ (aq:List (Nat×TI))(nt:Nat)(ops:Array Oper)(K:List Oper→St→Prop):List Oper→St→Prop
 | [],s=>K [] s
 | o::r,s=>if yF o then
   match bU ops s o with
   | some false=>uH (HQ aq nt ops K r) (fe aq nt ops s o)
   | _=>K (o::r) s
  else if Gz o then
   match bU ops s o with
   | some true=>if aU nt o.dst=true then uH (HQ aq nt ops K r) (cvS aq s o) else False
   | _=>uH (HQ aq nt ops K r) (fe aq nt ops s o)
  else uH (HQ aq nt ops K r) (fe aq nt ops s o)
theorem B4 (ht:ay P aq){K:St→Prop}:∀ (l:List Oper) (s:St),HQ aq C.nt ops (Bh P C ops K) l s→TL P C ops l s K
 | [],s,h=>TL.nil h
 | o::r,s,h=>by
  have fin:uH (HQ aq C.nt ops (Bh P C ops K) r) (fe aq C.nt ops s o)→TL P C ops (o::r) s K:=fun h=>by
   cases hs:fe aq C.nt ops s o with
   | none=>rw[hs] at h;exact h.elim
   | some s'=>rw[hs] at h;exact TL.step ht hs (B4 ht r s' h)
  unfold HQ at h
  split at h
  ·split at h
   ·exact fin h
   ·exact h
  ·split at h
   ·split at h
    ·rename_i hg
     split at h
     ·rename_i hd
      cases hs:cvS aq s o with
      | none=>rw[hs] at h;exact h.elim
      | some s'=>rw[hs] at h;exact lU hg (Lc ht hd hs) (B4 ht r s' h)
     ·exact h.elim
    ·exact fin h
   ·exact fin h
theorem TL.Bl (ht:ay P aq){K:St→Prop}{l:List Oper}(h:HQ aq C.nt ops (Bh P C ops K) l s):TL P C ops l s K:=B4 ht l s h
theorem T.Bl (ht:ay P aq){id:Nat}{l:List Oper}(h:HQ aq C.nt l.toArray (Bh P C l.toArray (Q .normal)) l s):T P C (.region id l.toArray false) s Q:=T.region (TL.Bl ht h)
attribute [simp] Gz cvS HQ qC bytesOf cells?
end
section
variable {P:Program}{C:Cx}{s:St}{ops:Array Oper}{aq:List (Nat×TI)}
def GL (o:Oper):Bool:=match o.op with | .store _ _ _=>false | .box _ _=>false | .buildSlice _ _ _=>false | op=>!m9 op
def XZ (P:Program)(C:Cx)(aq:List (Nat×TI))(ops:Array Oper)(K:St→Prop):Nat→Array Bool→St→Prop
 | 0,listed,s=>Region.ready .any ops listed=[]∧K s
 | f+1,listed,s=>(Region.ready .any ops listed=[]→K s)∧∀ i∈Region.ready .any ops listed,∃ o,ops[i]? = some o∧
   ((∃ s',dT aq C.nt s o=some s'∧XZ P C aq ops K f (listed.setIfInBounds i true) s')∨(GL o=true∧TL P C ops [o] s fun s'=>XZ P C aq ops K f (listed.setIfInBounds i true) s'))
@[congr] theorem XZ_congr {s s':St}{K:St→Prop}{f:Nat}{l:Array Bool}(h:s=s'):XZ P C aq ops K f l s=XZ P C aq ops K f l s':=by rw[h]
def Bd (P:Program)(C:Cx)(aq:List (Nat×TI))(ops:Array Oper)(K:St→Prop)(f:Nat)(listed:Array Bool)(s:St)(i:Nat):Prop:=
 ∃ o,ops[i]? = some o∧((∃ s',dT aq C.nt s o=some s'∧XZ P C aq ops K f (listed.setIfInBounds i true) s')∨(GL o=true∧TL P C ops [o] s fun s'=>XZ P C aq ops K f (listed.setIfInBounds i true) s'))
theorem TL.Fz {l:List Oper}{K:St→Prop}{s s':St}(h:mV s s')(hx:TL P C ops l s K):TL P C ops l s' K:=fun a w Q hr hQ=>hx a w Q (hr.congr (fun t=>(h.1 t).symm) h.2.1.symm h.2.2.symm) hQ
theorem XZ.Fz {K:St→Prop}(hK:∀ s s',mV s s'→K s→K s'):∀ (f:Nat) (listed:Array Bool) (s s':St),mV s s'→XZ P C aq ops K f listed s→XZ P C aq ops K f listed s'
 | 0,_,s,s',h,hx=>⟨hx.1,hK s s' h hx.2⟩
 | f+1,listed,s,s',h,hx=>by
  refine⟨fun he=>hK s s' h (hx.1 he),fun i hi=>?_⟩
  obtain⟨o,ho,⟨s1,hs,hk⟩ | ⟨hu,hk⟩⟩:=hx.2 i hi
  ·obtain⟨s2,h2,h3⟩:=DL h hs
   exact⟨o,ho,.inl ⟨s2,h2,XZ.Fz hK f _ s1 s2 h3 hk⟩⟩
  ·exact⟨o,ho,.inr ⟨hu,TL.Fz h hk⟩⟩
def pS (ops:Array Oper)(i:Nat)(oi:Oper)(listed:Array Bool)(s:St):Prop:=
 (∀ x∈oi.op.operands,∀ u,ev s x=some u→∀ o,names o u=true→o<s.nx)∧
  ∀ j oj,ops[j]? = some oj→j≠i→listed.getD j true=false→Dv ops j i∨(GL oj=false∧oi.apart ops oj=true∧Safe ops listed s oi oj)
theorem pS.clear {i:Nat}{oi oj:Oper}{listed:Array Bool}(h:pS ops i oi listed s)(hs:Safe ops listed s oi oj):Clear s oi oj:=by
 intro x hx v hv o hn
 refine⟨h.1 x hx v hv o hn,?_⟩
 rintro⟨t,y,u,off,e1,e2⟩
 rcases hs with hs | ⟨t',y',u',o',off',k1,k2,k3,_⟩
 ·exact hs t y u e1
 ·rw[e1] at k1
  cases k1
  rw[e2] at k2
  cases k2
  have:=k3 x hx v hv
  rw[hn] at this
  cases this
theorem pS.next {i j:Nat}{oi oj:Oper}{listed:Array Bool}{s2:St}(h:pS ops i oi listed s)(hj:ops[j]? = some oj)(hl:listed.getD j true=false)(h1:∀ x∈oi.op.operands,ev s2 x=ev s x)(h2:∀ t,oj.dst≠some t→assoc s2.env t=assoc s.env t)(h3:s.nx≤s2.nx):pS ops i oi (listed.setIfInBounds j true) s2:=by
 refine⟨fun x hx u hu o hn=>?_,fun m om hm hne hml=>?_⟩
 ·rw[h1 x hx] at hu
  have:=h.1 x hx u hu o hn
  omega
 ·rcases h.2 m om hm hne (mq hml) with k0 | ⟨k0,k1,k2⟩
  ·exact .inl k0
  refine .inr ⟨k0,k1,?_⟩
  rcases k2 with k2 | ⟨t,y,v,o,off,e1,e2,e3,e4⟩
  ·exact .inl k2
  ·refine .inr ⟨t,y,v,o,off,e1,?_,fun x hx u hu=>e3 x hx u (by rw[← h1 x hx];exact hu),fun m' om' hm' hl'=>e4 m' om' hm' (mq hl')⟩
   rw[← e2]
   cases y with
   | tmp tt=>exact h2 tt (e4 j oj hj hl tt rfl)
   | _=>rfl
theorem iU.set {listed:Array Bool}(hc:iU ops listed){j:Nat}(hj:j∈Region.ready .any ops listed):iU ops (listed.setIfInBounds j true):=by
 obtain⟨_,oi,hoi,hready⟩:=mem_ready.1 hj
 intro k ok hk hl e he hb
 by_cases hij:j=k
 ·subst hij
  have:ok=oi:=Option.some.inj (hk.symm.trans hoi)
  subst this
  exact getD_set_true (hready e he hb)
 ·rw[getD_set_ne false hij] at hl
  exact getD_set_true (hc k ok hk hl e he hb)
theorem XZ.hoist {K:St→Prop}(hK:∀ s s',mV s s'→K s→K s'){i:Nat}{oi:Oper}(hi:ops[i]? = some oi){c:CV}:∀ (f:Nat) (listed:Array Bool) (s:St),iU ops listed →
  i∈Region.ready .any ops listed→pS ops i oi listed s→da aq s oi.op=some c→(∀ s,da aq s oi.op=some c→dT aq C.nt s oi=some (s.put oi.dst c)) →
  XZ P C aq ops K f (listed.setIfInBounds i true) (s.put oi.dst c)→XZ P C aq ops K (f+1) listed s:=by
 intro f
 induction f with
 | zero=>
  intro listed s _ hm _ hq hst hx
  refine⟨fun he=>by rw[he] at hm;simp at hm,fun j hj=>?_⟩
  by_cases e:i=j
  ·subst e
   exact⟨oi,hi,.inl ⟨_,hst s hq,hx⟩⟩
  ·have:=jT hj e
   rw[hx.1] at this
   simp at this
 | succ f ih=>
  intro listed s hcl hm hap hq hst hx
  refine⟨fun he=>by rw[he] at hm;simp at hm,fun j hj=>?_⟩
  by_cases e:i=j
  ·subst e
   exact⟨oi,hi,.inl ⟨_,hst s hq,hx⟩⟩
  ·obtain⟨oj,ho,hk0⟩:=hx.2 j (jT hj e)
   obtain⟨j1,oj',hoj',j2⟩:=mem_ready.1 hj
   have:oj'=oj:=Option.some.inj (hoj'.symm.trans ho)
   subst this
   obtain⟨i1,oi',hoi',i2⟩:=mem_ready.1 hm
   have hun:=getD_both i1
   rcases hap.2 j oj' ho (Ne.symm e) j1 with hb | ⟨hnc,hij,hsf⟩
   ·have:=hb listed hcl fun ok hok e' he' hb'=>by
     rw[ho] at hok;cases hok
     exact j2 e' he' hb'
    rw[hun] at this;cases this
   ·rcases hk0 with ⟨s1,hs,hk⟩ | ⟨hu,_⟩
    ·obtain⟨s2,k1,k2,k3,k4,k5,k6⟩:=BA hij (hap.clear hsf) hq hs
     refine⟨oj',ho,.inl ⟨s2,k1,ih _ s2 (hcl.set hj) (jT hm (Ne.symm e)) (hap.next ho j1 k4 k5 k6) k2 hst ?_⟩⟩
     rw[Array.setIfInBounds_comm _ _ (Ne.symm e)]
     exact XZ.Fz hK f _ s1 _ k3 hk
    ·rw[hnc] at hu;cases hu
def Dn (ops:Array Oper)(listed:Array Bool):Bool:=(List.range ops.size).all fun j=>!listed.getD j false || match ops[j]? with
 | some o=>o.after.all fun e=>!Region.binds .any e || listed.getD e.on false
 | none=>true
theorem Cf {listed:Array Bool}(h:Dn ops listed=true):iU ops listed:=by
 intro j oj hj hl e he hb
 have hlt:=(Array.getElem?_eq_some_iff.1 hj).1
 have:=List.all_eq_true.1 h j (List.mem_range.2 hlt)
 simp only[hl,hj,Bool.not_true,Bool.false_or] at this
 have h2:=(Array.all_eq_true'.1 this) e he
 simpa [hb] using h2
def yH (ops:Array Oper)(listed:Array Bool)(s:St)(i:Nat):Bool:=
 Dn ops listed && (Region.ready .any ops listed).contains i && match ops[i]? with
  | none=>false
  | some oi=>m9 oi.op && lowB s oi && (List.range ops.size).all fun j=>j == i || listed.getD j true || match ops[j]? with
   | some oj=>nu ops ops.size j i || (!GL oj && oi.apart ops oj && FG ops listed s oi oj)
   | none=>true
theorem yG {i:Nat}{listed:Array Bool}{oi:Oper}(hi:ops[i]? = some oi)(h:yH ops listed s i=true):iU ops listed∧i∈Region.ready .any ops listed∧m9 oi.op=true∧pS ops i oi listed s:=by
 unfold yH at h
 rw[hi] at h
 simp only[Bool.and_eq_true] at h
 obtain⟨⟨h0,h1⟩,⟨h2,h3⟩,h4⟩:=h
 refine⟨Cf h0,by simpa using h1,h2,fun x hx u hu o hn=>?_,fun j oj hj hne hl=>?_⟩
 ·have:=List.all_eq_true.1 h3 x yBo
  rw[hu] at this
  cases u<;>simp only[names,Bool.false_eq_true] at hn
  ·simp only[decide_eq_true_eq] at this;simp only[beq_iff_eq] at hn;omega
  ·simp only[decide_eq_true_eq] at this;simp only[beq_iff_eq] at hn;omega
 ·have:=List.all_eq_true.1 h4 j (List.mem_range.2 (Array.getElem?_eq_some_iff.1 hj).1)
  simp only[hj,Bool.or_eq_true,beq_iff_eq,hne,false_or,hl,Bool.false_eq_true,Bool.and_eq_true] at this
  rcases this with h5 | ⟨⟨h5,h6⟩,h7⟩
  ·exact .inl (gw _ _ _ h5)
  ·exact .inr ⟨by simpa using h5,h6,BF h7⟩
theorem XZ.read {K:St→Prop}{f:Nat}{listed:Array Bool}{i:Nat}{o:Oper}(hb:yH ops listed s i=true)(ho:ops[i]? = some o)(h:uH (fun s'=>XZ P C aq ops (KS K) f (listed.setIfInBounds i true) s') (dT aq C.nt s o)):XZ P C aq ops (KS K) (f+1) listed s:=by
 obtain⟨h0,h1,h2,h3⟩:=yG ho hb
 cases hs:dT aq C.nt s o with
 | none=>rw[hs] at h;exact h.elim
 | some s'=>
  rw[hs] at h
  obtain⟨c,k1,rfl⟩:=Fs h2 hs
  refine XZ.hoist KS.Fz ho f listed s h0 h1 h3 k1 (fun u hu=>?_) h
  have hc:aU C.nt o.dst=true∧o.guard=none:=by
   unfold dT at hs
   split at hs
   ·assumption
   ·cases hs
  unfold dT
  rw[if_pos hc]
  have:rF aq u o.op=(da aq u o.op).map fun c=>(u.heap,u.nx,some c):=by
   cases hop:o.op<;>rw[hop] at h2<;>simp only[rF]
   all_goals first
    | (simp only[m9,Bool.false_eq_true] at h2;done)
    | rw[if_pos h2]
  rw[this,hu]
  rfl
theorem XZ.one {K:St→Prop}{f:Nat}{listed:Array Bool}{i:Nat}(hr:Region.ready .any ops listed=[i])(h:Bd P C aq ops K f listed s i):XZ P C aq ops K (f+1) listed s:=by
 refine⟨fun he=>(by rw[hr] at he;cases he),fun k hk=>?_⟩
 rw[hr] at hk
 simp only[List.mem_singleton] at hk
 subst hk
 exact h
theorem XZ.two {K:St→Prop}{f:Nat}{listed:Array Bool}{i j:Nat}(hr:Region.ready .any ops listed=[i,j])(h:Bd P C aq ops K f listed s i)(h':Bd P C aq ops K f listed s j):XZ P C aq ops K (f+1) listed s:=by
 refine⟨fun he=>(by rw[hr] at he;cases he),fun k hk=>?_⟩
 rw[hr] at hk
 simp only[List.mem_cons,List.not_mem_nil,or_false] at hk
 rcases hk with rfl | rfl
 ·exact h
 ·exact h'
theorem Bd.op {K:St→Prop}{f:Nat}{listed:Array Bool}{i:Nat}{o:Oper}(ho:ops[i]? = some o)(h:uH (fun s'=>XZ P C aq ops K f (listed.setIfInBounds i true) s') (dT aq C.nt s o)):Bd P C aq ops K f listed s i:=by
 cases hs:dT aq C.nt s o with
 | none=>rw[hs] at h;exact h.elim
 | some s'=>rw[hs] at h;exact⟨o,ho,.inl ⟨s',hs,h⟩⟩
theorem Bd.call {K:St→Prop}{f:Nat}{listed:Array Bool}{i:Nat}{o:Oper}(ho:ops[i]? = some o)(hu:GL o=true)(h:TL P C ops [o] s fun s'=>XZ P C aq ops K f (listed.setIfInBounds i true) s'):Bd P C aq ops K f listed s i:=⟨o,ho,.inr ⟨hu,h⟩⟩
theorem XZ.end {K:St→Prop}{f:Nat}{listed:Array Bool}(hr:Region.ready .any ops listed=[])(h:K s):XZ P C aq ops (KS K) f listed s:=by
 cases f with
 | zero=>exact⟨hr,s,mV.refl s,h⟩
 | succ f=>exact⟨fun _=>⟨s,mV.refl s,h⟩,fun i hi=>(by rw[hr] at hi;cases hi)⟩
theorem TL.mono {l:List Oper}{K K':St→Prop}(h:∀ s,K s→K' s)(hx:TL P C ops l s K):TL P C ops l s K':=fun a w Q hr hQ=>hx a w Q hr fun s' a' w' hk hr'=>hQ s' a' w' (h s' hk) hr'
theorem XZ.tx (ht:ay P aq){K:St→Prop}:∀ (f:Nat) (listed:Array Bool) (s:St),XZ P C aq ops K f listed s→TX P C ops K f listed s
 | 0,_,_,h=>h
 | f+1,listed,s,h=>⟨h.1,fun i hi=>by
  obtain⟨o,ho,⟨s',hs,hk⟩ | ⟨_,hk⟩⟩:=h.2 i hi
  ·exact⟨o,ho,TL.step ht (zy hs) (TL.nil (XZ.tx ht f _ s' hk))⟩
  ·exact⟨o,ho,TL.mono (fun s' h'=>XZ.tx ht f _ s' h') hk⟩⟩
end
end Go.Can
namespace Go.Can
section
variable {P:Program}{C:Cx}{s:St}{aq:List (Nat×TI)}
theorem Le.Fz {s s':St}(h:mV s' s):Le C s s':=fun _a _w hr=>hr.congr (fun t=>(h.1 t).symm) h.2.1.symm h.2.2.symm
theorem TH.imp {nt:Nat}{ops:Array Oper}{K K':St→Prop}(hk:∀ s,K s→K' s):∀ {ord:List Nat} {s:St},TH P aq nt ops ord s K→TH P aq nt ops ord s K'
 | [],_,h=>hk _ h
 | _::_,_,⟨o,r,h1,h2,h3⟩=>⟨o,r,h1,h2,TH.imp hk h3⟩
theorem T.GX (ht:ay P aq)(hm:P.follows .mixedOrders=true){id:Nat}{l:List Oper}{Q:Exit→St→Prop}(pre:List Nat)(n:Nat)(hs:Region.noSelect l.toArray=true)(hp:zP l.toArray pre (Array.replicate l.toArray.size false)=true)(hl:pre.length≤l.toArray.size)(hn:l.toArray.size-pre.length=n)
  (h:C6 aq C.nt l.toArray (LC P aq C.nt l.toArray (fun s'=>XZ P C aq l.toArray (KS (Q .normal)) n (cA pre (Array.replicate l.toArray.size false)) s')) pre s):T P C (.region id l.toArray true) s Q:=by
 subst hn
 have h2:TH P aq C.nt l.toArray pre s fun s'=>TX P C l.toArray (KS (Q .normal)) (l.toArray.size-pre.length) (cA pre (Array.replicate l.toArray.size false)) s':=TH.imp (fun s' hx=>XZ.tx ht _ _ s' hx) (TH.go' h)
 refine T.post (Q':=eR (KS (Q .normal)) Q) (T.explore (C:=C) (Q:=eR (KS (Q .normal)) Q) ht hm pre hs hp hl h2) fun e s' q=>?_
 cases e with
 | normal=>
  obtain⟨s0,h1,h2⟩:=q
  exact⟨s0,h2,Le.Fz h1⟩
 | _=>exact⟨s',q,Le.refl _⟩
end
end Go.Can
