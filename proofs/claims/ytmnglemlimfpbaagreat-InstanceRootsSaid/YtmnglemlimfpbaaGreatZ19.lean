/- A contract under other numbers. No function of the program is mentioned here. | Within, Cut, Next, number. | Source.Expr. | A nil slice in a cell becomes an object of one's own, without cells. No function of the program is mentioned here. -/
import Derived.Test.YtmnglemlimfpbaaGreatZ18
namespace Go.Can
mutual
/-- The objects' numbers turned. -/
def dr (ρ:Nat→Nat):CV→CV
 | .int k n=>.int k n
 | .bool b=>.bool b
 | .str s=>.str s
 | .agg cs=>.agg (bJ ρ cs)
 | .ax cs n=>.ax cs n
 | .ai=>.ai
 | .cq cs=>.cq cs
 | .br=>.br
 | .fn f cs=>.fn f (bJ ρ cs)
 | .b9=>.b9
 | .iface t cs=>.iface t (bJ ρ cs)
 | .iter k s p=>.iter (ρ k) s p
 | .mp k es=>.mp (ρ k) es
 | .df cs=>.df (bJ ρ cs)
 | .bw o f n=>.bw (ρ o) f n
 | .aq o f=>.aq (ρ o) f
 | .any=>.any
def bJ (ρ:Nat→Nat):List CV→List CV
 | []=>[]
 | c::cs=>dr ρ c::bJ ρ cs
end
theorem iW (ρ:Nat→Nat):∀ cs:List CV,bJ ρ cs=cs.map (dr ρ)
 | []=>rfl
 | c::cs=>by rw[bJ,iW ρ cs,List.map_cons]
theorem F7 (ρ:Nat→Nat)(c:CV):one (dr ρ c)=one c:=by cases c<;>rfl
theorem dS (ρ:Nat→Nat)(cs:List CV):(bJ ρ cs).all one=cs.all one:=by
 induction cs with
 | nil=>rfl
 | cons c cs ih=>simp only[bJ,List.all_cons,F7,ih]
mutual
theorem VR.ck {w:World}{F:Nat→Prop}{σ:Nat→Option OB}(ρ:Nat→Nat):∀ (c:CV) (v:Value),VR w F σ (dr ρ c) v↔VR w F (fun p=>σ (ρ p)) c v
 | .int _ _,v=>by simp only[dr,VR]
 | .bool _,v=>by simp only[dr,VR]
 | .str _,v=>by simp only[dr,VR]
 | .agg cs,v=>by
  simp only[dr,VR,dS]
  constructor
  ·rintro⟨vs,h1,h2,h3⟩
   exact⟨vs,h1,(aQ.ck ρ cs vs).1 h2,h3⟩
  ·rintro⟨vs,h1,h2,h3⟩
   exact⟨vs,h1,(aQ.ck ρ cs vs).2 h2,h3⟩
 | .ax _ _,v=>by simp only[dr,VR]
 | .ai,v=>by simp only[dr,VR]
 | .cq _,v=>by simp only[dr,VR]
 | .br,v=>by simp only[dr,VR]
 | .fn _ cs,v=>by
  simp only[dr,VR]
  constructor
  ·rintro⟨vs,h1,h2⟩
   exact⟨vs,h1,(aQ.ck ρ cs vs).1 h2⟩
  ·rintro⟨vs,h1,h2⟩
   exact⟨vs,h1,(aQ.ck ρ cs vs).2 h2⟩
 | .b9,v=>by simp only[dr,VR]
 | .iface _ cs,v=>by
  simp only[dr,VR]
  constructor
  ·rintro⟨vs,h1,h2⟩
   exact⟨vs,h1,(aQ.ck ρ cs vs).1 h2⟩
  ·rintro⟨vs,h1,h2⟩
   exact⟨vs,h1,(aQ.ck ρ cs vs).2 h2⟩
 | .iter _ _ _,v=>by simp only[dr,VR]
 | .mp _ _,v=>by simp only[dr,VR]
 | .df cs,v=>by
  simp only[dr,VR]
  constructor
  ·rintro⟨vs,h1,h2⟩
   exact⟨vs,h1,(aQ.ck ρ cs vs).1 h2⟩
  ·rintro⟨vs,h1,h2⟩
   exact⟨vs,h1,(aQ.ck ρ cs vs).2 h2⟩
 | .bw _ _ _,v=>by simp only[dr,VR]
 | .aq _ _,v=>by simp only[dr,VR]
 | .any,v=>by simp only[dr,VR]
theorem aQ.ck {w:World}{F:Nat→Prop}{σ:Nat→Option OB}(ρ:Nat→Nat):∀ (cs:List CV) (vs:List Value),aQ w F σ (bJ ρ cs) vs↔aQ w F (fun p=>σ (ρ p)) cs vs
 | [],vs=>by simp only[bJ,aQ]
 | c::cs,vs=>by
  simp only[bJ,aQ]
  constructor
  ·rintro⟨v,r,h1,h2,h3⟩
   exact⟨v,r,h1,(VR.ck ρ c v).1 h2,(aQ.ck ρ cs r).1 h3⟩
  ·rintro⟨v,r,h1,h2,h3⟩
   exact⟨v,r,h1,(VR.ck ρ c v).2 h2,(aQ.ck ρ cs r).2 h3⟩
end
def bD (ρ:Nat→Nat)(ob:Ob):Ob:=⟨ob.elem,ob.sz,bJ ρ ob.cells⟩
def bF (ρ:Nat→Nat):List (Nat×Ob)→List (Nat×Ob)
 | []=>[]
 | (k,ob)::r=>(ρ k,bD ρ ob)::bF ρ r
def cW (ρ:Nat→Nat):List (Nat×CV)→List (Nat×CV)
 | []=>[]
 | (t,c)::r=>(t,dr ρ c)::cW ρ r
theorem dX (ρ:Nat→Nat):∀ (e:List (Nat×CV)) (t:Nat),assoc (cW ρ e) t=(assoc e t).map (dr ρ)
 | [],t=>rfl
 | (k,c)::r,t=>by
  simp only[cW,assoc]
  split
  ·rfl
  ·exact dX ρ r t
theorem bm {ρ:Nat→Nat}(hi:∀ x y,ρ x=ρ y→x=y):∀ (H:List (Nat×Ob)) (o:Nat),assoc (bF ρ H) (ρ o)=(assoc H o).map (bD ρ)
 | [],o=>rfl
 | (k,c)::r,o=>by
  simp only[bF,assoc]
  by_cases h:k=o
  ·simp[h]
  ·have:¬ ρ k=ρ o:=fun e=>h (hi _ _ e)
   simp only[if_neg h,if_neg this]
   exact bm hi r o
theorem cP {ρ:Nat→Nat}:∀ (H:List (Nat×Ob)) (q:Nat) (ob:Ob),assoc (bF ρ H) q=some ob→∃ o,q=ρ o
 | [],q,ob,h=>by simp[bF,assoc] at h
 | (k,c)::r,q,ob,h=>by
  simp only[bF,assoc] at h
  split at h
  ·rename_i e
   exact⟨k,e.symm⟩
  ·exact cP r q ob h
section
variable {P:Program}{C:Cx}{σ:Nat→Option OB}{s:St}{a:Act}{w:World}{ops:Array Oper}{aj:List (Nat×TI)}
theorem BK (ρ:Nat→Nat)(cs:List CV)(k:Nat):bJ ρ (cs.drop k)=(bJ ρ cs).drop k:=by rw[iW,iW,List.map_drop]
theorem BJ (ρ:Nat→Nat)(cs:List CV)(k:Nat):bJ ρ (cs.take k)=(bJ ρ cs).take k:=by rw[iW,iW,List.map_take]
theorem dO (ρ:Nat→Nat)(cs:List CV):(bJ ρ cs).length=cs.length:=by rw[iW,List.length_map]
theorem B4 {ρ:Nat→Nat}(hi:∀ x y,ρ x=ρ y→x=y)(e:List (Nat×CV))(H:List (Nat×Ob))(n m:Nat)(c:CV)(ht:∀ cs,c=.cq cs→bJ ρ cs=cs):fa ⟨cW ρ e,bF ρ H,m⟩ (dr ρ c)=(fa ⟨e,H,n⟩ c).map (bJ ρ):=by
 cases c with
 | cq cs=>
  simp only[dr,fa,Option.map_some,Option.some.injEq]
  exact (ht cs rfl).symm
 | aq o off=>
  simp only[dr,fa,bm hi]
  cases assoc H o with
  | none=>rfl
  | some ob=>simp[bD,BK]
 | _=>rfl
mutual
theorem bM.tree {w:World}{F:Nat→Prop}:∀ (c:CV) (v:Value),bM w F c v→Can.tree c=true
 | .int _ _,_,_=>rfl
 | .bool _,_,_=>rfl
 | .str _,_,_=>rfl
 | .agg cs,v,h=>by
  simp only[bM] at h
  obtain⟨vs,_,h2,_⟩:=h
  simp only[Can.tree]
  exact bx.tree cs vs h2
 | .ax _ _,_,_=>rfl
 | .ai,_,_=>rfl
 | .cq _,_,_=>rfl
 | .br,_,_=>rfl
 | .fn _ cs,v,h=>by
  simp only[bM] at h
  obtain⟨vs,_,h2⟩:=h
  simp only[Can.tree]
  exact bx.tree cs vs h2
 | .b9,_,_=>rfl
 | .iface _ cs,v,h=>by
  simp only[bM] at h
  obtain⟨vs,_,h2⟩:=h
  simp only[Can.tree]
  exact bx.tree cs vs h2
 | .iter _ _ _,v,h=>by simp[bM] at h
 | .mp _ _,v,h=>by simp[bM] at h
 | .df cs,v,h=>by
  simp only[bM] at h
  obtain⟨vs,_,h2⟩:=h
  simp only[Can.tree]
  exact bx.tree cs vs h2
 | .bw _ _ _,v,h=>by simp[bM] at h
 | .aq _ _,v,h=>by simp[bM] at h
 | .any,_,_=>rfl
theorem bx.tree {w:World}{F:Nat→Prop}:∀ (cs:List CV) (vs:List Value),bx w F cs vs→trees cs=true
 | [],_,_=>rfl
 | c::cs,vs,h=>by
  simp only[bx] at h
  obtain⟨v,r,_,h2,h3⟩:=h
  simp only[trees,bM.tree c v h2,bx.tree cs r h3,Bool.and_self]
end
theorem eX.tree {w:World}{F:Nat→Prop}:∀ (cs:List CV) (ad:Addr),eX w F cs ad→trees cs=true
 | [],_,_=>rfl
 | c::cs,ad,h=>by
  simp only[eX] at h
  obtain⟨⟨u,_,_,h3⟩,_,h5⟩:=h
  simp only[trees,bM.tree c u h3,eX.tree cs _ h5,Bool.and_self]
mutual
theorem fH (ρ:Nat→Nat):∀ c:CV,Can.tree c=true→dr ρ c=c
 | .int _ _,_=>rfl
 | .bool _,_=>rfl
 | .str _,_=>rfl
 | .agg cs,h=>by
  simp only[Can.tree] at h
  rw[dr,az ρ cs h]
 | .ax _ _,_=>rfl
 | .ai,_=>rfl
 | .cq _,_=>rfl
 | .br,_=>rfl
 | .fn _ cs,h=>by
  simp only[Can.tree] at h
  rw[dr,az ρ cs h]
 | .b9,_=>rfl
 | .iface _ cs,h=>by
  simp only[Can.tree] at h
  rw[dr,az ρ cs h]
 | .iter _ _ _,h=>by simp[Can.tree] at h
 | .mp _ _,h=>by simp[Can.tree] at h
 | .df cs,h=>by
  simp only[Can.tree] at h
  rw[dr,az ρ cs h]
 | .bw _ _ _,h=>by simp[Can.tree] at h
 | .aq _ _,h=>by simp[Can.tree] at h
 | .any,_=>rfl
theorem az (ρ:Nat→Nat):∀ cs:List CV,trees cs=true→bJ ρ cs=cs
 | [],_=>rfl
 | c::cs,h=>by
  simp only[trees,Bool.and_eq_true] at h
  rw[bJ,fH ρ c h.1,az ρ cs h.2]
end
theorem Cm (ρ:Nat→Nat)(i:TI)(cs:List CV):lG i (bJ ρ cs)=(lG i cs).map (dr ρ):=by
 unfold lG
 rw[dO]
 split
 ·split
  ·simp[dr,BJ]
  ·rfl
 ·cases cs<;>rfl
theorem Ck {ρ:Nat→Nat}(hi:∀ x y,ρ x=ρ y→x=y){e:List (Nat×CV)}{H:List (Nat×Ob)}{n m:Nat}(ht:∀ t cs,assoc e t=some (.cq cs)→bJ ρ cs=cs)(r:ResultVar):nA aj ⟨cW ρ e,bF ρ H,m⟩ r=(nA aj ⟨e,H,n⟩ r).map (dr ρ):=by
 cases r with
 | tmp t=>exact dX ρ e t
 | cell x t=>
  simp only[nA,dX]
  cases hx:assoc e x with
  | none=>rfl
  | some c=>
   have hm:=B4 hi e H n m c fun cs hc=>ht x cs (by rw[hx,hc])
   cases ht':assoc aj t with
   | none=>rfl
   | some i=>
    simp only[Option.map_some,hm]
    cases fa ⟨e,H,n⟩ c with
    | none=>rfl
    | some cs=>exact Cm ρ i cs
theorem vh {ρ:Nat→Nat}(hi:∀ x y,ρ x=ρ y→x=y){e:List (Nat×CV)}{H:List (Nat×Ob)}{n m:Nat}(ht:∀ t cs,assoc e t=some (.cq cs)→bJ ρ cs=cs):∀ rs:List ResultVar,jT aj ⟨cW ρ e,bF ρ H,m⟩ rs=(jT aj ⟨e,H,n⟩ rs).map (bJ ρ)
 | []=>rfl
 | r::rs=>by
  simp only[jT,Ck (n:=n) (m:=m) hi ht r,vh (n:=n) (m:=m) hi ht rs]
  cases nA aj ⟨e,H,n⟩ r with
  | none=>rfl
  | some c=>cases jT aj ⟨e,H,n⟩ rs<;>rfl
theorem ln {ρ:Nat→Nat}(hi:∀ x y,ρ x=ρ y→x=y){e:List (Nat×CV)}{H:List (Nat×Ob)}{n m:Nat}(ht:∀ t cs,assoc e t=some (.cq cs)→bJ ρ cs=cs)(fn:Func):bb aj fn ⟨cW ρ e,bF ρ H,m⟩=(bb aj fn ⟨e,H,n⟩).map (dr ρ):=by
 simp only[bb,vh (n:=n) (m:=m) hi ht]
 cases jT aj ⟨e,H,n⟩ fn.results.toList with
 | none=>rfl
 | some cs=>
  match cs with
  | []=>rfl
  | [c]=>rfl
  | c::d::r=>rfl
theorem p8 (ρ:Nat→Nat)(args:List CV):(enter (bJ ρ args)).env=cW ρ (enter args).env:=by
 have:∀ (args:List CV) (k:Nat),((bJ ρ args).zipIdx k).map (fun x=>(x.2,x.1))=cW ρ ((args.zipIdx k).map fun x=>(x.2,x.1)):=by
  intro args
  induction args with
  | nil=>intro k;rfl
  | cons c cs ih=>intro k;simp only[bJ,List.zipIdx_cons,List.map_cons,cW,ih]
 exact this args 0
theorem Body.na {ρ:Nat→Nat}(hi:∀ x y,ρ x=ρ y→x=y){f:FuncId}{args:List CV}{H:List (Nat×Ob)}{n n':Nat}{R:CV→St→Prop}(hρ:∀ p,p<n→ρ p<n')(h:Body P aj f args H n R)(ha:aC n args=true)(hH:cF n H=true)(hR:∀ r s,R r s→s.nx=n) :
  Body P aj f (bJ ρ args) (bF ρ H) n' fun r s=>∃ r1 s1,R r1 s1∧r=dr ρ r1∧s=⟨cW ρ s1.env,bF ρ s1.heap,n'⟩:=by
 obtain⟨fn,c,hf,hb,hnm,hl,hT⟩:=h
 refine⟨fn,c,hf,hb,hnm,by rw[dO];exact hl,fun C' hC hC0 a w ⟨σ,hr⟩=>?_⟩
 rw[p8] at hr
 have hargs:∀ (t:Nat) c o,assoc (enter args).env t=some c→aL o c=false→o<n:=fun t c o hc ho=>by
  obtain⟨_,h2⟩:=eC args 0 t c hc
  have hm:c∈args:=List.mem_of_getElem? h2
  rw[aD,List.all_eq_true] at ha
  exact jj n c o (ha c hm) ho
 obtain⟨σt,hσt⟩:∃ σt:Nat→Option OB,σt=below (fun p=>σ (ρ p)) n fun _=>none:=⟨_,rfl⟩
 have t1:∀ p,p<n→σt p=σ (ρ p):=fun p hp=>by rw[hσt];exact fh hp
 have t2:∀ p,n≤p→σt p=none:=fun p hp=>by rw[hσt];exact iG hp
 have hsame:∀ (G:List (Nat×Ob)),(∀ o ob,assoc G o=some ob→o<n)→∀ b,(C'.F b∨∃ o ob,assoc G o=some ob∧aJ σt o=some b)↔FB C' σ (bF ρ G) b:=fun G hG b=>by
  unfold FB
  constructor
  ·rintro (h | ⟨o,ob,ho,hx⟩)
   ·exact .inl h
   ·refine .inr ⟨ρ o,bD ρ ob,by rw[bm hi,ho];rfl,?_⟩
    unfold aJ at hx ⊢
    rwa [t1 o (hG o ob ho)] at hx
  ·rintro (h | ⟨q,ob,hq,hx⟩)
   ·exact .inl h
   ·obtain⟨o,rfl⟩:=cP G q ob hq
    rw[bm hi] at hq
    obtain⟨ob',ho,_⟩:=Option.map_eq_some_iff.1 hq
    refine .inr ⟨o,ob',ho,?_⟩
    unfold aJ at hx ⊢
    rwa [t1 o (hG o ob' ho)]
 have hdomH:∀ o ob,assoc H o=some ob→o<n:=fun o ob ho=>(fy hH o ob ho).1
 have h0:aH ⟨C'.w0,C'.F,C'.own,C'.hF,C'.nt,σt,n⟩ σt ⟨(enter args).env,H,n⟩ a w:=by
  have hK:bO w w (FB C' σ (bF ρ H)) (FB ⟨C'.w0,C'.F,C'.own,C'.hF,C'.nt,σt,n⟩ σt H):=bO.same fun b hx=>(hsame H hdomH b).1 hx
  refine⟨hr.kO,hr.tm,hr.os,hr.tape,hr.output,hr.size,hr.frame,?_,?_,?_,fun o ho=>t2 o ho,fun _ _=>rfl,Nat.le_refl _,fun o B b ho hB _=>by rw[t2 o ho] at hB;cases hB⟩
  ·intro t c hc
   obtain⟨v,k1,k2⟩:=hr.env t (dr ρ c) (by rw[dX,hc];rfl)
   refine⟨v,k1,?_⟩
   exact VR.keep hK _ _ (fun o ho=>t1 o (hargs t c o hc ho)) ((VR.ck ρ c v).1 k2)
  ·intro o ob ho
   obtain⟨B,m1,m2,m3,m4,m5⟩:=hr.obj (ρ o) (bD ρ ob) (by rw[bm hi,ho];rfl)
   have hlt:=hdomH o ob ho
   refine⟨B,by rw[t1 o hlt];exact m1,m2,fun hb=>?_,by have:=m4;simp only[bD,dS] at this;exact this,fun b hb=>?_⟩
   ·have:=m3 hb
    simp only[bD] at this
    have hl:=dO ρ ob.cells
    rw[this] at hl
    exact List.eq_nil_of_length_eq_zero hl.symm
   ·obtain⟨cur,n1,n2,n3,n4,n5,n6⟩:=m5 b hb
    simp only[bD,dO] at n5 n6
    refine⟨cur,n1,n2,n3,n4,n5,?_⟩
    exact aQ.keep hK _ _ (fun p hp=>t1 p (dV n _ p (fy hH o ob ho).2 hp)) ((aQ.ck ρ _ _).1 n6)
  ·intro o o' ob ob' b ho ho' hx hx'
   unfold aJ at hx hx'
   rw[t1 o (hdomH o ob ho)] at hx
   rw[t1 o' (hdomH o' ob' ho')] at hx'
   exact hi _ _ (hr.inj (ρ o) (ρ o') (bD ρ ob) (bD ρ ob') b (by rw[bm hi,ho];rfl) (by rw[bm hi,ho'];rfl) hx hx')
 refine wp_mono (hT ⟨C'.w0,C'.F,C'.own,C'.hF,C'.nt,σt,n⟩ hC rfl a w ⟨_,h0⟩) fun e a' w' ⟨s1,q,σ1,hr1⟩=>?_
 have fin:ae ⟨C'.w0,C'.F,C'.own,C'.hF,C'.nt,σt,n⟩ (fun s'=>∃ r,bb aj fn s'=some r∧R r s') s1 →
   ∃ s',ae C' (fun s'=>∃ r,bb aj fn s'=some r∧∃ r1 s1,R r1 s1∧r=dr ρ r1∧s'=⟨cW ρ s1.env,bF ρ s1.heap,n'⟩) s'∧Rel C' s' a' w':=fun⟨s2,⟨r,q1,q2⟩,hle⟩=>by
  obtain⟨σ2,hr2⟩:=hle _ _ ⟨σ1,hr1⟩
  have hnx2:=hR r s2 q2
  obtain⟨e2,H2,n2⟩:=s2
  simp only at hnx2
  subst hnx2
  have hσ2:σ2=σt:=by
   funext p
   rcases Nat.lt_or_ge p n2 with hp | hp
   ·exact hr2.ek p hp
   ·rw[hr2.nx p hp,t2 p hp]
  subst hσ2
  have hlt:∀ o B,σ2 o=some B→o<n2:=fun o B hB=>Nat.lt_of_not_le fun hle=>by rw[hr2.nx o hle] at hB;cases hB
  have hdom2:∀ o ob,assoc H2 o=some ob→o<n2:=fun o ob ho=>by
   obtain⟨B,m1,_⟩:=hr2.obj o ob ho
   exact hlt o B m1
  have hK:bO w' w' (FB ⟨C'.w0,C'.F,C'.own,C'.hF,C'.nt,σ2,n2⟩ σ2 H2) (FB C' σ (bF ρ H2)):=bO.same fun b hx=>(hsame H2 hdom2 b).2 hx
  refine⟨⟨cW ρ e2,bF ρ H2,n'⟩,ae.here ⟨dr ρ r,?_,r,_,q2,rfl,rfl⟩,σ,?_⟩
  ·rw[ln (n:=n2) hi (fun t cs hc=>?_),q1]
   ·rfl
   ·obtain⟨v,_,k2⟩:=hr2.env t _ hc
    simp only[VR,bM] at k2
    obtain⟨ad,_,h3⟩:=k2
    exact az ρ cs (eX.tree cs ad h3)
  ·refine⟨hr2.kO,hr2.tm,hr2.os,hr2.tape,hr2.output,hr2.size,hr2.frame,?_,?_,?_,hr.nx,hr.ek,by rw[hC0];exact Nat.le_refl _,hr.new⟩
   ·intro t c hc
    simp only[dX] at hc
    obtain⟨d,hd,rfl⟩:=Option.map_eq_some_iff.1 hc
    obtain⟨v,k1,k2⟩:=hr2.env t d hd
    refine⟨v,k1,(VR.ck ρ d v).2 (VR.keep hK _ _ (fun o ho=>?_) k2)⟩
    obtain⟨B,hB⟩:=VR.refs _ _ o k2 ho
    exact (t1 o (hlt o B hB)).symm
   ·intro q ob hq
    obtain⟨o,rfl⟩:=cP H2 q ob hq
    simp only[bm hi] at hq
    obtain⟨ob',ho,rfl⟩:=Option.map_eq_some_iff.1 hq
    obtain⟨B,m1,m2,m3,m4,m5⟩:=hr2.obj o ob' ho
    refine⟨B,by rw[← t1 o (hdom2 o ob' ho)];exact m1,m2,fun hb=>by simp only[bD,m3 hb];rfl,by simp only[bD,dS];exact m4,fun b hb=>?_⟩
    obtain⟨cur,n1,n2',n3,n4,n5,n6⟩:=m5 b hb
    simp only[bD,dO]
    refine⟨cur,n1,n2',n3,n4,n5,(aQ.ck ρ _ _).2 (aQ.keep hK _ _ (fun p hp=>?_) n6)⟩
    obtain⟨B',hB'⟩:=aQ.refs _ _ p n6 hp
    exact (t1 p (hlt p B' hB')).symm
   ·intro q q' ob ob' b hq hq' hx hx'
    obtain⟨o,rfl⟩:=cP H2 q ob hq
    obtain⟨o',rfl⟩:=cP H2 q' ob' hq'
    simp only[bm hi] at hq hq'
    obtain⟨x,ho,_⟩:=Option.map_eq_some_iff.1 hq
    obtain⟨x',ho',_⟩:=Option.map_eq_some_iff.1 hq'
    unfold aJ at hx hx'
    rw[← t1 o (hdom2 o x ho)] at hx
    rw[← t1 o' (hdom2 o' x' ho')] at hx'
    rw[hr2.inj o o' x x' b ho ho' hx hx']
 cases e with
 | normal=>exact fin q
 | ret=>exact fin q
 | exit _=>exact q.elim
 | goto _=>exact q.elim
 | panic _=>exact q.elim
 | outgrown=>exact q.elim
def swp (a b p:Nat):Nat:=if p=a then b else if p=b then a else p
theorem FN (a b:Nat):∀ x y,swp a b x=swp a b y→x=y:=by
 intro x y h
 unfold swp at h
 split at h<;>split at h<;>(try split at h)<;>(try split at h)<;>omega
theorem HM {a b n m:Nat}(ha:a<n)(hb:b<m)(hn:n≤m):∀ p,p<n→swp a b p<m:=by
 intro p hp
 unfold swp
 split
 ·exact hb
 ·split<;>omega
theorem Body.retX {f:FuncId}{args:List CV}{H H1:List (Nat×Ob)}{n m:Nat}{r0:CV}(a b:Nat)(h:Body P aj f args H n (iR r0 H1 n))(ha:a<n)(hb:b<m)(hn:n≤m)(hr:aC n args=true)(hH:cF n H=true)(ht:tree r0=true) :
  Body P aj f (bJ (swp a b) args) (bF (swp a b) H) m (iR r0 (bF (swp a b) H1) m):=
 (Body.na (FN a b) (HM ha hb hn) h hr hH fun r s h=>h.2.2).ret fun r s ⟨r1,s1,h1,h2,h3⟩=>by
  obtain⟨k1,k2,k3⟩:=h1
  subst h3
  rw[h2,k1,fH _ _ ht,k2]
  exact⟨rfl,rfl,rfl⟩
theorem TL.iF (ht0:aF P aj){o:Oper}{l:List Oper}{c:Call}{g:FuncId}{args:List CV}{K:St→Prop}{r0:CV}{H1:List (Nat×Ob)}(a b:Nat)(ks:List Nat){H:List (Nat×Ob)}(n:Nat)(hb:Body P aj g args H n (iR r0 H1 n))(hd:aW C.nt o.dst=true)(hg:bK ops s o=Option.some true)(ho:o.op=.call c)(hca:aK s c=Option.some (g,bJ (swp a b) args))
  (hp:dE s.heap ks=Option.some (bF (swp a b) H)) (han:a<n) (hbn:b<s.nx) (hn:n≤s.nx) (ha:aC n args=true) (hH:cF n H=true) (ht:tree r0=true) (ha2:aC s.nx (bJ (swp a b) args)=true) (hH2:cF s.nx (bF (swp a b) H)=true) (hk:jr ks (bF (swp a b) H1)=true)
  (hK:TL P C ops l (St.put ⟨s.env,bF (swp a b) H1++cN s.heap ks,s.nx⟩ o.dst r0) K):TL P C ops (o::l) s K:=
 TL.cr ht0 ks s.nx (hb.retX a b han hbn hn ha hH ht) hd hg ho hca hp (Nat.le_refl _) ha2 hH2 hk hK
variable {nt N:Nat}{dyn:List (Nat×Nat)}{K:St→Prop}{i:Nat}{r:List Nat}{res:Nat→Er}
theorem RX.iF {o:Oper}{cl:Call}{g:FuncId}{args:List CV}{r0:CV}{H1:List (Nat×Ob)}(a b:Nat)(ks chg:List Nat){H:List (Nat×Ob)}(n:Nat)(hb:Body P aj g args H n (iR r0 H1 n))(hi:ops[i]? = Option.some o)(hd:aW nt o.dst=true)(hg:bK ops s o=Option.some true)(hu:bV o=Option.some cl)(hca:aK s cl=Option.some (g,bJ (swp a b) args))
  (hp:dE s.heap ks=Option.some (bF (swp a b) H)) (han:a<n) (hbn:b<s.nx) (hn:n≤s.nx) (ha:aC n args=true) (hH:cF n H=true) (ht:tree r0=true) (ha2:aC s.nx (bJ (swp a b) args)=true) (hH2:cF s.nx (bF (swp a b) H)=true) (hk:jr ks (bF (swp a b) H1)=true) (hv:wN dyn res i ks=true) (hc:(chg.all fun p=>ks.contains p)=true) (hs:∀ p∈ks,p∉chg→assoc (bF (swp a b) H1) p=assoc (bF (swp a b) H) p)
  (hK:CK dyn res i (hD r0 ks chg (bF (swp a b) H1))=true∧nJ aj nt ops N dyn (Dt P aj nt ops N dyn K) r (note dyn res i (hD r0 ks chg (bF (swp a b) H1))) (St.put ⟨s.env,bF (swp a b) H1++cN s.heap ks,s.nx⟩ o.dst r0)):RX P aj nt ops N dyn K (i::r) res s:=
 RX.cr ks chg s.nx (hb.retX a b han hbn hn ha hH ht) hi hd hg hu hca hp (Nat.le_refl _) ha2 hH2 hk hv hc hs hK
attribute [simp] bF swp
end
end Go.Can
namespace Go.Proofs.YtmnglemlimfpbaaGreat
open Go.Can Go.bg
theorem vp (x n:Int)(h0:0<n)(h1:n≤4611686018427387904):(IntKind.i64.wrap (x.tmod n+n)).tmod n=x % n∧n≠0:=by
 have hb1 : -n<x.tmod n:=by
  have:=Int.lt_tmod_of_pos x h0
  omega
 have hb2:x.tmod n<n:=Int.tmod_lt_of_pos x h0
 have hw:=db (x.tmod n+n) (by omega) (by omega)
 refine⟨?_,by omega⟩
 rw[hw,Int.tmod_eq_emod_of_nonneg (by omega),Int.add_emod_right,Int.tmod_def]
 simp
theorem kA (x n:Int)(h0:0<n)(h1:n≤4611686018427387904):ah Tryz.prog 32 [I x,I n] (I (x % n)):=by
 refine ah.bl aa Tryz.func32 rfl (by kernel_rfl) (by simp[Tryz.ntmps32]) rfl fun C hC hC0=>?_
 rw[Tryz.ntmps32] at hC
 obtain⟨ha,hn⟩:=vp x n h0 h1
 refine T.seq (T.go' aa ?_)
 simp[hC]
 refine T.seq (T.go' aa ?_)
 simp[hC,hn,ha]
 refine T.ret ?_
 refine ae.here ?_
 simp[Tryz.results32]
theorem IN (l:List Int)(n:Nat)(_hl:l.length≤9223372036854775807):ah Tryz.prog 54 [ints l,I n] (ints (l.take n)):=by
 refine ah.bl aa Tryz.func54 rfl (by kernel_rfl) (by simp[Tryz.ntmps54]) rfl fun C hC hC0=>?_
 rw[Tryz.ntmps54] at hC
 refine T.seq (T.go' aa ?_)
 simp[hC]
 refine T.seq (T.seq (T.go' aa ?_))
 simp[hC,ints]
 refine T.bf rfl (fun h=>?_) (fun h=>?_)
 ·have hn:n<l.length:=by simpa using h
  have hn':n≤l.length:=by omega
  refine T.seq (T.go' aa ?_)
  simp[hC,hn,hn']
  refine T.ret ?_
  refine ae.here ?_
  simp[Tryz.results54]
 ·have hn:l.length≤n:=by simpa using h
  refine T.skip ?_
  simp
  refine T.seq (T.go' aa ?_)
  simp[hC]
  refine T.ret ?_
  refine ae.here ?_
  simp[Tryz.results54]
  exact⟨(List.take_of_length_le (by simpa using hn)).symm,(Nat.min_eq_right hn).symm⟩
def au (L:List Int)(i:Nat):Ob:=⟨127,0,[ints L,I i]⟩
def ba (l:List ByteArray):Ob:=⟨9,1,l.map .str⟩
theorem dU (l:List ByteArray):trees (l.map CV.str)=true:=by
 induction l with
 | nil=>rfl
 | cons a r ih=>simp only[List.map_cons,trees,ih,tree,Bool.and_self]
@[simp] theorem nmOb_frz (l:List ByteArray)(o:Nat)(cs:List CV)(n:Nat):(⟨(ba l).elem,(ba l).sz,(ba l).cells.map (cm o cs n)⟩:Ob)=ba l:=by simp[ba]
@[simp] theorem Jk (ρ:Nat→Nat)(l:List ByteArray):bD ρ (ba l)=ba l:=by
 simp only[bD,ba,az ρ _ (dU l)]
@[simp] theorem HT (ρ:Nat→Nat)(L:List Int)(i:Nat):bD ρ (au L i)=au L i:=by
 simp only[bD,au,az ρ [ints L,I i] rfl]
@[simp] theorem Gf (l:List ByteArray)(n:Nat):(ba l).cells.all (aG n)=true:=af (dU l) n
@[simp] theorem nmOb_lts (l:List ByteArray)(n:Nat):aC n (ba l).cells=true:=by rw[aD];exact af (dU l) n
@[simp] theorem GV (l:List ByteArray)(n:Nat):l.all (aG n∘CV.str)=true:=List.all_eq_true.2 fun _ _=>rfl
@[simp] theorem Hy (l:List ByteArray)(o q:Nat):l.all (lL o q∘CV.str)=true:=List.all_eq_true.2 fun _ _=>rfl
@[simp] theorem Cy (l:List ByteArray)(n o q:Nat):l.all (aG n∘cH o q∘CV.str)=true:=List.all_eq_true.2 fun _ _=>rfl
@[simp] theorem H5 (o q:Nat):cH o q∘CV.str=CV.str:=rfl
@[simp] theorem nmOb_ok1 (l:List ByteArray)(o q:Nat):(ba l).cells.all (lL o q)=true:=a6 (dU l) o q
@[simp] theorem BZ (l:List ByteArray)(o q:Nat):(ba l).cells.map (cH o q)=(ba l).cells:=aY (dU l) o q
@[simp] theorem nmOb_eta (l:List ByteArray):(⟨(ba l).elem,(ba l).sz,(ba l).cells⟩:Ob)=ba l:=rfl
@[simp] theorem JG (l:List ByteArray)(n o q:Nat):(ba l).cells.all (aG n∘cH o q)=true:=by rw[← List.all_map,BZ];exact Gf l n
@[simp] theorem Jg (L:List Int)(i o:Nat)(cs:List CV)(n:Nat):(⟨(au L i).elem,(au L i).sz,(au L i).cells.map (cm o cs n)⟩:Ob)=au L i:=by simp[au,ints]
theorem cc (L:List Int)(i n:Nat)(_hi:i≤L.length)(hL:L.length≤1000)(hn:0<n)(hn2:n≤4611686018427387904) :
  Body Tryz.prog aj 55 [.aq 0 0,I n] [(0,au L i)] 1 (iR (I (bS L i n).1) [(0,au L (bS L i n).2)] 1):=by
 refine Body.iN Tryz.func55 rfl (by kernel_rfl) (by simp[Tryz.ntmps55]) fun C hC hC0=>?_
 rw[Tryz.ntmps55] at hC
 refine T.seq (T.go' aa ?_)
 simp[hC]
 refine T.seq (T.seq ?_)
 refine T.rx aa follows [0,1,2,3,4,5,6,7,8,9] [] (by kernel_rfl) ?_
 simp[hC,au,ints]
 refine T.bf rfl (fun h=>?_) (fun h=>?_)
 ·have hil:L.length≤i:=by simpa using h
  have hx:bS L i n=(0,i):=by
   unfold bS
   rw[List.getElem?_eq_none hil]
  refine T.seq (T.go' aa ?_)
  simp[hC]
  refine T.ret ?_
  refine ae.trim [4] [0] 1 (by simp) (by omega) ⟨_,rfl,?_⟩
  simp[iR,hx]
 ·have hil:i<L.length:=by simpa using h
  obtain⟨x,hxl⟩:∃ x,L[i]? = some x:=⟨L[i],List.getElem?_eq_getElem hil⟩
  have hx:bS L i n=((x % (n:Int)).toNat,i+1):=by
   unfold bS
   rw[hxl]
  have wi:=db ((i:Int)+1) (by omega) (by omega)
  have wj:((i:Int)+1)-1=(i:Int):=by omega
  have wk:=db (i:Int) (by omega) (by omega)
  have he:=Int.emod_nonneg x (show (n:Int)≠0 by omega)
  have het:(((x % (n:Int)).toNat:Nat):Int)=x % n:=Int.toNat_of_nonneg he
  have hxd:(L.map qP).drop i=I x::(L.map qP).drop (i+1):=by
   rw[List.drop_eq_getElem_cons (by simpa using hil)]
   have:=(List.getElem?_eq_some_iff.1 hxl).2
   simp[qP,this]
  refine T.skip ?_
  simp
  refine T.seq (T.go' aa ?_)
  simp[hC,wi]
  refine T.seq ?_
  refine T.rx aa follows [0,1,2,3,4,5,6,7,8,9,10,11,12,13] [] (by kernel_rfl) ?_
  simp[hC,wj,wk,hil,hxd]
  refine RX.call rfl (by simp) rfl rfl rfl rfl (kA x n (by omega) (by omega)) ?_
  simp
  refine T.ret ?_
  refine ae.trim [4] [0] 1 (by simp) (by omega) ⟨_,rfl,?_⟩
  simp[iR,hx,het]
theorem BX (L:List Int)(i:Nat)(hi:i≤L.length)(hL:L.length≤1000) :
  Body Tryz.prog aj 150 [.aq 0 0] [(0,au L i)] 1 (iR (I (ug L i).1) [(0,au L (ug L i).2)] 1):=by
 refine Body.iN Tryz.func150 rfl (by kernel_rfl) (by simp[Tryz.ntmps150]) fun C hC hC0=>?_
 rw[Tryz.ntmps150] at hC
 refine T.seq (T.go' aa ?_)
 simp[hC]
 refine T.seq (T.seq (T.go' aa ?_))
 simp[hC]
 refine TL.cr aa [0] 1 (cc L i 8 hi hL (by omega) (by omega)) (by simp[hC]) rfl rfl rfl rfl (by simp) (by first | rfl | simp[aC,aG,aD,aT,-List.all_eq_true]) (by first | rfl | simp[au,ints]) rfl (TL.go' aa ?_)
 simp[hC]
 have hi8:=a8 L 8 hi
 refine T.bf rfl (fun h=>?_) (fun h=>?_)
 ·have h1:(bS L i 8).1=1:=by simp at h;omega
  refine T.seq (T.go' aa ?_)
  simp[hC]
  refine TL.cr aa [0] 1 (cc L _ 4611686018427387904 hi8 hL (by omega) (by omega)) (by simp[hC]) rfl rfl rfl rfl (by simp) (by first | rfl | simp[aC,aG,aD,aT,-List.all_eq_true]) (by first | rfl | simp[au,ints]) rfl (TL.go' aa ?_)
  simp[hC]
  refine T.ret ?_
  refine ae.trim [2] [0] 1 (by simp[au]) (by omega) ⟨_,rfl,?_⟩
  simp[iR,ug,h1]
 ·have h1:¬ (bS L i 8).1=1:=by simp at h;omega
  refine T.skip ?_
  simp
  refine T.seq (T.go' aa ?_)
  simp[hC]
  refine TL.cr aa [0] 1 (cc L _ 4 hi8 hL (by omega) (by omega)) (by simp[hC]) rfl rfl rfl rfl (by simp) (by first | rfl | simp[aC,aG,aD,aT,-List.all_eq_true]) (by first | rfl | simp[au,ints]) rfl (TL.go' aa ?_)
  simp[hC]
  refine T.ret ?_
  refine ae.trim [2] [0] 1 (by simp[au]) (by omega) ⟨_,rfl,?_⟩
  simp[iR,ug,h1]
end Go.Proofs.YtmnglemlimfpbaaGreat
namespace Go.Proofs.YtmnglemlimfpbaaGreat
open Go.Can Go.bg
def CJ:List CV:=[.int .i64 0,.int .i64 0,.str ⟨#[]⟩,.ai]
theorem iw {ns:List ByteArray}{i:Nat}(h:i<ns.length):(ns.map CV.str).drop i=.str (ns.getD i eS)::(ns.map CV.str).drop (i+1):=by
 rw[List.drop_eq_getElem_cons (by simpa using h)]
 simp[h]
theorem EF (L:List Int)(ns:List ByteArray)(d i:Nat)(h:d=0∨(bS L i 10).1<2):pd L ns d i=oT L ns (bS L i 10).2:=by
 cases d with
 | zero=>rfl
 | succ d=>
  rw[pd,if_pos]
  rcases h with h | h
  ·cases h
  ·exact h
theorem bh:∀ a b:List CV,trees (a++b)=(trees a && trees b)
 | [],b=>by simp[trees]
 | x::r,b=>by simp[trees,Bool.and_assoc]
@[simp] theorem ag (e:Ex):trees (bB e)=true:=by cases e<;>rfl
theorem drop8 (a:Ex)(x y z w:CV):List.drop 8 (bB a++[x,y,z,w])=[]:=List.drop_eq_nil_of_le (by simp[bA])
theorem oC (e:Ex):List.take 4 (bB e)=bB e:=List.take_of_length_le (by simp[bA])
theorem By (a b:Ex):List.take 8 (bB a++bB b)=bB a++bB b:=List.take_of_length_le (by simp[bA])
theorem Dx (n:Nat)(e:Ex)(x:CV)(h:x∈bB e):aG n x=true:=by
 rw[bP] at h
 simp only[List.mem_cons,List.not_mem_nil,or_false] at h
 rcases h with rfl | rfl | rfl | rfl<;>rfl
theorem aT (n:Nat)(e:Ex):(bB e).all (aG n)=true:=List.all_eq_true.2 (Dx n e)
@[simp] theorem nz_exC (e:Ex):(bB e).map nz=bB e:=by cases e<;>rfl
@[simp] theorem frz_exC (o:Nat)(cs:List CV)(n:Nat)(e:Ex):(bB e).map (cm o cs n)=bB e:=by cases e<;>rfl
attribute [simp] oC By bA
theorem rP (L:List Int)(hL:L.length≤1000)(ns:List ByteArray)(hns:ns.length≤1000):∀ (d i:Nat),d≤1000→i≤L.length →
  Body Tryz.prog aj 123 [.aq 0 0,.bw 3 0 ns.length,I d] [(0,au L i),(3,ba ns)] 4 (iR (.agg (bB (pd L ns d i).1)) [(0,au L (pd L ns d i).2),(3,ba ns)] 4):=by
 intro d
 induction d using Nat.strongRecOn with
 | _ d ih=>
 intro i hd hi
 refine Body.iN Tryz.func123 rfl (by kernel_rfl) (by simp[Tryz.ntmps123]) fun C hC hC0=>?_
 rw[Tryz.ntmps123] at hC
 refine T.seq (T.go' aa ?_)
 simp[hC]
 refine T.seq (T.go' aa ?_)
 simp[hC]
 refine TL.cr aa [0] 1 (cc L i 10 hi hL (by omega) (by omega)) (by simp[hC]) rfl rfl rfl rfl (by simp) (by first | rfl | simp[aC,aG,aD,aT,-List.all_eq_true]) (by first | rfl | simp[au,ints]) rfl (TL.go' aa ?_)
 simp[hC]
 have hi1:=a8 L 10 hi
 have hlf:=EF L ns d i
 generalize hk:bS L i 10=k at hi1 hlf
 refine T.seq (T.block ?_)
 refine T.cut (fun s=>s=⟨[(10,.bool (decide (d=0) || decide (k.1<2))),(7,I k.1),(6,.aq 4 0),(0,.aq 0 0),(1,.bw 3 0 ns.length),(2,I d)],[(0,au L k.2),(3,ba ns),(4,⟨64,0,CJ⟩)],5⟩) ?_ ?_
 ·by_cases h0:d=0
  ·refine T.go' aa ?_
   simp[hC,h0]
   refine ae.trim [10,7,6,0,1,2] [0,3,4] 5 (by simp[au]) (by omega) ?_
   simp[CJ]
  ·refine T.go' aa ?_
   simp[hC,h0]
   refine ae.trim [10,7,6,0,1,2] [0,3,4] 5 (by simp[au]) (by omega) ?_
   simp[CJ]
 ·rintro s rfl
  refine T.bf rfl (fun h=>?_) (fun h=>?_)
  ·have hl:d=0∨k.1<2:=by simpa using h
   rw[hlf hl]
   clear hlf ih
      /- the leaf: is there a name to be taken? -/
   refine T.seq (T.cut (fun s=>s=⟨[(24,.bool (decide (0<ns.length∧(bS L k.2 2).1=1))),(6,.aq 4 0),(0,.aq 0 0),(1,.bw 3 0 ns.length)],[(0,au L (if 0<ns.length then (bS L k.2 2).2 else k.2)),(3,ba ns),(4,⟨64,0,CJ⟩)],5⟩) ?_ ?_)
   ·by_cases hns0:0<ns.length
    ·refine T.go' aa ?_
     simp[hC,hns0]
     refine TL.cr aa [0] 1 (cc L k.2 2 hi1 hL (by omega) (by omega)) (by simp[hC]) rfl rfl rfl rfl (by simp) (by first | rfl | simp[aC,aG,aD,aT,-List.all_eq_true]) (by first | rfl | simp[au,ints]) rfl (TL.go' aa ?_)
     simp[hC]
     refine ae.trim [24,6,0,1] [0,3,4] 5 (by simp[au,CJ]) (by omega) ?_
     simp[CJ]
    ·refine T.go' aa ?_
     simp[hC,hns0]
     refine ae.trim [24,6,0,1] [0,3,4] 5 (by simp[au,CJ]) (by omega) ?_
     simp[CJ]
   ·rintro s rfl
    have hi2:=a8 L 2 hi1
    refine T.bf rfl (fun h=>?_) (fun h=>?_)
    ·have hh:0<ns.length∧(bS L k.2 2).1=1:=by simpa using h
     have hlt:=cX L (bS L k.2 2).2 hh.1
     have hdr:=iw hlt
     refine T.seq (T.go' aa ?_)
     simp[hC,hh.1]
     refine TL.cr aa [0] 1 (cc L _ ns.length hi2 hL (by omega) (by omega)) (by simp[hC]) rfl rfl rfl rfl (by simp) (by first | rfl | simp[aC,aG,aD,aT,-List.all_eq_true]) (by first | rfl | simp[au,ints]) rfl (TL.go' aa ?_)
     simp[hC,hlt,hdr,ba,CJ]
     refine T.ret ?_
     refine ae.le (Le.nz [] [4]) ?_
     simp
     refine ae.le (Le.eM (o:=4) rfl rfl) ?_
     simp
     refine ae.trim [6] [0,3] 4 (by simp[au]) (by omega) ⟨_,rfl,?_⟩
     simp[iR,oT,hh.1,hh.2,bB,eS,hlt]
    ·have hh:¬ (0<ns.length∧(bS L k.2 2).1=1):=by simpa using h
     have hi3:(if 0<ns.length then (bS L k.2 2).2 else k.2)≤L.length:=by
      split
      ·exact hi2
      ·exact hi1
     refine T.skip ?_
     simp
     refine T.seq (T.go' aa ?_)
     simp[hC]
     refine TL.cr aa [0] 1 (BX L _ hi3 hL) (by simp[hC]) rfl rfl rfl rfl (by simp) (by first | rfl | simp[aC,aG,aD,aT,-List.all_eq_true]) (by first | rfl | simp[au,ints]) rfl (TL.go' aa ?_)
     simp[hC,CJ]
     refine T.ret ?_
     refine ae.le (Le.nz [] [4]) ?_
     simp
     refine ae.le (Le.eM (o:=4) rfl rfl) ?_
     simp
     refine ae.trim [6] [0,3] 4 (by simp[au]) (by omega) ⟨_,rfl,?_⟩
     simp[iR,oT,hh,bB,eS]
  ·have hd0:¬ d=0∧¬ k.1<2:=by simpa using h
   obtain⟨e,rfl⟩:∃ e,d=e+1:=⟨d-1,by omega⟩
   have he1:((e+1:Nat):Int)-1=(e:Int):=by omega
   have we:=db (e:Int) (by omega) (by omega)
   have ihe:=ih e (by omega)
   refine T.seq (T.go' aa ?_)
   simp[hC]
   refine T.bf rfl (fun h=>?_) (fun h=>?_)
   ·have hk4:k.1<4:=by simpa using h
    have hx:pd L ns (e+1) i=(.un (k.1 % 2) (pd L ns e k.2).1,(pd L ns e k.2).2):=by
     rw[pd,hk,if_neg hd0.2,if_pos hk4]
    have hi4:=mr L ns e hi1
    have wm:=db (3+(k.1:Int) % 2) (by omega) (by omega)
    have htm:(k.1:Int).tmod 2=(k.1:Int) % 2:=Int.tmod_eq_emod_of_nonneg (by omega)
    refine T.seq (T.go' aa ?_)
    simp[hC,we,htm,wm]
    refine TL.cr aa [0,3] 4 (ihe k.2 (by omega) hi1) (by simp[hC]) rfl rfl rfl rfl (by simp) (by first | rfl | simp[aC,aG,aD,aT,-List.all_eq_true]) (by first | rfl | simp[au,ints]) rfl (TL.go' aa ?_)
    simp[hC,CJ,bA,aX]
    refine T.ret ?_
    refine ae.le (Le.trim [6] [0,3,4,5] 6 (by simp[au,-List.all_eq_true,aT]) (by omega)) ?_
    simp
    refine ae.le (Le.eM (o:=5) rfl (by simp only[ag])) ?_
    simp
    refine ae.le (Le.eM (o:=4) rfl rfl) ?_
    simp
    refine ae.trim [6] [0,3] 4 (by simp[au]) (by omega) ⟨_,rfl,?_⟩
    simp[iR,hx,bB,eS]
   ·have hk4:¬ k.1<4:=by simpa using h
    have hx:pd L ns (e+1) i=(.bin (bS L k.2 13).1 (pd L ns e (bS L k.2 13).2).1 (pd L ns e (pd L ns e (bS L k.2 13).2).2).1,(pd L ns e (pd L ns e (bS L k.2 13).2).2).2):=by
     rw[pd,hk,if_neg hd0.2,if_neg hk4]
    have hi4:=a8 L 13 hi1
    have hi5:=mr L ns e hi4
    have wb:=db (5+((bS L k.2 13).1:Int)) (by omega) (by have:=cX L k.2 (show 0<13 by omega);omega)
    refine T.skip ?_
    simp
    refine T.seq (T.go' aa ?_)
    simp[hC]
    refine TL.cr aa [0] 1 (cc L k.2 13 hi1 hL (by omega) (by omega)) (by simp[hC]) rfl rfl rfl rfl (by simp) (by first | rfl | simp[aC,aG,aD,aT,-List.all_eq_true]) (by first | rfl | simp[au,ints]) rfl (TL.go' aa ?_)
    simp[hC,wb,we]
    refine TL.cr aa [0,3] 4 (ihe _ (by omega) hi4) (by simp[hC]) rfl rfl rfl rfl (by simp) (by first | rfl | simp[aC,aG,aD,aT,-List.all_eq_true]) (by first | rfl | simp[au,ints]) rfl (TL.go' aa ?_)
    simp[hC,we]
    refine TL.cr aa [0,3] 4 (ihe _ (by omega) hi5) (by simp[hC]) rfl rfl rfl rfl (by simp) (by first | rfl | simp[aC,aG,aD,aT,-List.all_eq_true]) (by first | rfl | simp[au,ints]) rfl (TL.go' aa ?_)
    simp[hC,CJ,bA,aX,drop8]
    refine T.ret ?_
    refine ae.le (Le.trim [6] [0,3,4,5] 6 (by simp[au,-List.all_eq_true,aT]) (by omega)) ?_
    simp
    refine ae.le (Le.eM (o:=5) rfl (by simp only[bh,ag,Bool.and_self])) ?_
    simp
    refine ae.le (Le.eM (o:=4) rfl rfl) ?_
    simp
    refine ae.trim [6] [0,3] 4 (by simp[au]) (by omega) ⟨_,rfl,?_⟩
    simp[iR,hx,bB,eS]
end Go.Proofs.YtmnglemlimfpbaaGreat
namespace Go.Can
open Go.RowKit
section
variable {C:Cx}{σ:Nat→Option OB}{s:St}{w:World}
theorem aQ.xB {F:Nat→Prop}{c c':CV}(hc:∀ v,VR w F σ c v→VR w F σ c' v):∀ {cs:List CV} {vs:List Value} {i:Nat},cs[i]? = some c→aQ w F σ cs vs→aQ w F σ (cs.set i c') vs
 | [],_,_,h,_=>by simp at h
 | d::cs,_,0,h,⟨v,r,e,h1,h2⟩=>by
  simp only[List.getElem?_cons_zero,Option.some.injEq] at h
  subst h
  exact⟨v,r,e,hc v h1,h2⟩
 | d::cs,_,i+1,h,⟨v,r,e,h1,h2⟩=>by
  simp only[List.getElem?_cons_succ] at h
  exact⟨v,r,e,h1,aQ.xB hc h h2⟩
theorem qD {c:CV}(hc:one c=true):∀ (cs:List CV) (i:Nat),cs.all one=true→(cs.set i c).all one=true
 | [],_,h=>h
 | d::cs,0,h=>by
  simp only[List.all_cons,Bool.and_eq_true] at h
  simp only[List.set_cons_zero,List.all_cons,hc,h.2,Bool.and_self]
 | d::cs,i+1,h=>by
  simp only[List.all_cons,Bool.and_eq_true] at h
  simp only[List.set_cons_succ,List.all_cons,h.1,Bool.true_and]
  exact qD hc cs i h.2
theorem Le.lK (o i:Nat)(e:TypeId)(sz:Nat){ob:Ob}(ho:assoc s.heap o=some ob)(hi:ob.cells[i]? = some .ai):Le C s ⟨s.env,(s.nx,⟨e,sz,[]⟩)::ou s.heap o ⟨ob.elem,ob.sz,ob.cells.set i (.bw s.nx 0 0)⟩,s.nx+1⟩:=by
 intro a w ⟨σ,hr⟩
 obtain⟨h1,h2⟩:=hr.fresh (World.grownBy.refl w none) (ob:=⟨e,sz,[]⟩) (B:=⟨none,0,sz⟩) rfl rfl (fun _=>rfl) (fun b hb=>by cases hb)
 have hne:¬ s.nx=o:=fun h=>by
  obtain⟨B,m1,_⟩:=hr.obj o ob ho
  rw[hr.nx o (by omega)] at m1
  cases m1
 have hG:(s.nx,(⟨e,sz,[]⟩:Ob))::ou s.heap o ⟨ob.elem,ob.sz,ob.cells.set i (.bw s.nx 0 0)⟩=ou ((s.nx,⟨e,sz,[]⟩)::s.heap) o ⟨ob.elem,ob.sz,ob.cells.set i (.bw s.nx 0 0)⟩:=by
  simp only[ou,if_neg hne]
 have hoG:assoc ((s.nx,(⟨e,sz,[]⟩:Ob))::s.heap) o=some ob:=by simp only[assoc,if_neg hne,ho]
 rw[hG]
 have hFB:=oo (C:=C) (σ:=sig σ s.nx ⟨none,0,sz⟩) ((s.nx,(⟨e,sz,[]⟩:Ob))::s.heap) o ⟨ob.elem,ob.sz,ob.cells.set i (.bw s.nx 0 0)⟩
 refine⟨_,h1.kO,h1.tm,h1.os,h1.tape,h1.output,h1.size,h1.frame,?_,?_,?_,h1.nx,h1.ek,h1.low,h1.new⟩
 ·intro t c hc
  obtain⟨v,k1,k2⟩:=h1.env t c hc
  exact⟨v,k1,by rw[hFB];exact k2⟩
 ·intro p x hp
  simp only[eD] at hp
  unfold ObR
  rw[hFB]
  split at hp
  ·rename_i eo
   subst eo
   rw[hoG] at hp
   simp only[Option.map_some,Option.some.injEq] at hp
   subst hp
   obtain⟨B,m1,m2,m3,m4,m5⟩:=h1.obj o ob hoG
   refine⟨B,m1,m2,fun hb=>by simp[m3 hb] at hi,qD rfl _ _ m4,fun b hb=>?_⟩
   obtain⟨cur,n1,n2,n3,n4,n5,n6⟩:=m5 b hb
   refine⟨cur,n1,n2,n3,n4,by simpa using n5,?_⟩
   simp only[List.length_set]
   refine aQ.xB (fun v hv=>?_) hi n6
   simp only[VR] at hv ⊢
   exact⟨⟨none,0,sz⟩,dc,hv,trivial,trivial⟩
  ·exact h1.obj p x hp
 ·intro p p' x x' b hp hp' hb hb'
  have dom:∀ q y,assoc (ou ((s.nx,(⟨e,sz,[]⟩:Ob))::s.heap) o ⟨ob.elem,ob.sz,ob.cells.set i (.bw s.nx 0 0)⟩) q=some y→∃ z,assoc ((s.nx,(⟨e,sz,[]⟩:Ob))::s.heap) q=some z:=fun q y hq=>by
   rw[eD] at hq
   split at hq
   ·rename_i eo
    subst eo
    exact⟨ob,hoG⟩
   ·exact⟨y,hq⟩
  obtain⟨z,hz⟩:=dom p x hp
  obtain⟨z',hz'⟩:=dom p' x' hp'
  exact h1.inj p p' z z' b hz hz' hb hb'
theorem Le.up (n:Nat)(h:s.nx≤n):Le C s ⟨s.env,s.heap,n⟩:=by
 intro a w ⟨σ,hr⟩
 exact⟨σ,hr.kO,hr.tm,hr.os,hr.tape,hr.output,hr.size,hr.frame,hr.env,hr.obj,hr.inj,fun o ho=>hr.nx o (Nat.le_trans h ho),hr.ek,Nat.le_trans hr.low h,hr.new⟩
end
end Go.Can
