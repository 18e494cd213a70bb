/- What may be said anew of a state: entries forgotten, objects -/
import Derived.Test.YtmnglemlimfpbaaGreatZ06
namespace Go.Can
open Go.RowKit
def Le (C:Cx)(s s':St):Prop:=∀ (a:Act) (w:World),Rel C s a w→Rel C s' a w
section
variable {C:Cx}
theorem Le.refl (s:St):Le C s s:=fun _ _ h=>h
theorem Le.trans {s s' s'':St}(h:Le C s s')(k:Le C s' s''):Le C s s'':=fun a w hr=>k a w (h a w hr)
def pick {α:Type}(l:List (Nat×α)):List Nat→List (Nat×α)
 | []=>[]
 | t::r=>match assoc l t with
  | some c=>(t,c)::pick l r
  | none=>pick l r
theorem eD {α:Type}(l:List (Nat×α)):∀ (ks:List Nat) (t:Nat) (c:α),assoc (pick l ks) t=some c→assoc l t=some c
 | [],_,_,h=>by simp[pick,assoc] at h
 | k::r,t,c,h=>by
  simp only[pick] at h
  split at h
  ·rename_i x hx
   simp only[assoc] at h
   split at h
   ·rename_i e;subst e;cases h;exact hx
   ·exact eD l r t c h
  ·exact eD l r t c h
mutual
def a8 (n:Nat):CV→Bool
 | .iter o _ _=>decide (o<n)
 | .mp o _=>decide (o<n)
 | .bx o _ _=>decide (o<n)
 | .aw o _=>decide (o<n)
 | .agg cs=>aQ n cs
 | .fn _ cs=>aQ n cs
 | .iface _ cs=>aQ n cs
 | .cr cs=>aQ n cs
 | _=>true
def aQ (n:Nat):List CV→Bool
 | []=>true
 | c::cs=>a8 n c && aQ n cs
end
mutual
theorem lN (n:Nat):∀ (c:CV) (o:Nat),a8 n c=true→aF o c=false→o<n
 | .bx p _ _,o,h,hr=>by
  have:p=o:=by simpa [aF] using hr
  subst this;simpa [a8] using h
 | .aw p _,o,h,hr=>by
  have:p=o:=by simpa [aF] using hr
  subst this;simpa [a8] using h
 | .agg cs,o,h,hr=>eW n cs o (by simpa [a8] using h) (by simpa [aF] using hr)
 | .fn _ cs,o,h,hr=>eW n cs o (by simpa [a8] using h) (by simpa [aF] using hr)
 | .iface _ cs,o,h,hr=>eW n cs o (by simpa [a8] using h) (by simpa [aF] using hr)
 | .cr cs,o,h,hr=>eW n cs o (by simpa [a8] using h) (by simpa [aF] using hr)
 | .int _ _,_,_,hr=>by simp[aF] at hr
 | .bool _,_,_,hr=>by simp[aF] at hr
 | .str _,_,_,hr=>by simp[aF] at hr
 | .av _ _,_,_,hr=>by simp[aF] at hr
 | .ah,_,_,hr=>by simp[aF] at hr
 | .cM _,_,_,hr=>by simp[aF] at hr
 | .bm,_,_,hr=>by simp[aF] at hr
 | .cw,_,_,hr=>by simp[aF] at hr
 | .iter p _ _,o,h,hr=>by
  simp only[aF,bne_eq_false_iff_eq] at hr
  subst hr
  simpa [a8] using h
 | .mp p _,o,h,hr=>by
  simp only[aF,bne_eq_false_iff_eq] at hr
  subst hr
  simpa [a8] using h
theorem eW (n:Nat):∀ (cs:List CV) (o:Nat),aQ n cs=true→dJ o cs=false→o<n
 | [],_,_,hr=>by simp[dJ] at hr
 | c::cs,o,h,hr=>by
  simp only[aQ,Bool.and_eq_true] at h
  simp only[dJ,Bool.and_eq_false_iff] at hr
  rcases hr with hr | hr
  ·exact lN n c o h.1 hr
  ·exact eW n cs o h.2 hr
end
def St.trim (s:St)(ks os:List Nat)(n:Nat):St:=⟨pick s.env ks,pick s.heap os,n⟩
def tz (s:St)(ks os:List Nat)(n:Nat):Bool:=
 (pick s.env ks).all (fun x=>a8 n x.2) && (pick s.heap os).all fun x=>decide (x.1<n) && aQ n x.2.cells
theorem Le.trim {s:St}(ks os:List Nat)(n:Nat)(h:tz s ks os n=true)(hn0:C.n0≤n):Le C s (s.trim ks os n):=by
 intro a w ⟨σ,hr⟩
 simp only[tz,Bool.and_eq_true] at h
 obtain⟨h1,h2⟩:=h
 rw[List.all_eq_true] at h1 h2
 have hs:∀ {o},o<n→(if o<n then σ o else none)=σ o:=fun {o} ho=>by rw[if_pos ho]
 have hF:∀ b,FB C (fun o=>if o<n then σ o else none) (pick s.heap os) b→FB C σ s.heap b:=by
  rintro b (hb | ⟨o,ob,ho,hb⟩)
  ·exact .inl hb
  ·have:=h2 _ (bB _ _ _ ho)
   simp only[Bool.and_eq_true,decide_eq_true_eq] at this
   simp only[aV,hs this.1] at hb
   exact .inr ⟨o,ob,eD _ _ _ _ ho,hb⟩
 have hk:cF w w (FB C σ s.heap) (FB C (fun o=>if o<n then σ o else none) (pick s.heap os)):=⟨fun ad u hf hu=>⟨hu,fun h=>hf (hF _ h)⟩,fun r _ hf hu _=>⟨hu,fun h=>hf (hF _ h)⟩⟩
 refine⟨fun o=>if o<n then σ o else none,hr.nq,hr.tm,hr.os,hr.tape,hr.output,hr.size,hr.frame,?_,?_,?_,?_,fun o ho=>by rw[hs (Nat.lt_of_lt_of_le ho hn0)];exact hr.fj o ho,hn0,fun o B b ho hB hb=>?_⟩
 ·intro t c hc
  have hm:=h1 _ (bB _ _ _ hc)
  obtain⟨v,k1,k2⟩:=hr.env t c (eD _ _ _ _ hc)
  exact⟨v,k1,VR.bp hk c v (fun o ho=>hs (lN n c o hm ho)) k2⟩
 ·intro o ob ho
  have hm:=h2 _ (bB _ _ _ ho)
  simp only[Bool.and_eq_true,decide_eq_true_eq] at hm
  obtain⟨B,m1,m2,m3,m4,m5⟩:=hr.obj o ob (eD _ _ _ _ ho)
  refine⟨B,by simp only[hs hm.1];exact m1,m2,m3,m4,fun b hb=>?_⟩
  obtain⟨cur,n1,n2,n3,n4,n5,n6⟩:=m5 b hb
  exact⟨cur,n1,n2,n3,n4,n5,aS.bp hk _ _ (fun p hp=>hs (eW n _ p hm.2 hp)) n6⟩
 ·intro o o' ob ob' b ho ho' hb hb'
  have hm:=h2 _ (bB _ _ _ ho)
  have hm':=h2 _ (bB _ _ _ ho')
  simp only[Bool.and_eq_true,decide_eq_true_eq] at hm hm'
  simp only[aV,hs hm.1] at hb
  simp only[aV,hs hm'.1] at hb'
  exact hr.inj o o' ob ob' b (eD _ _ _ _ ho) (eD _ _ _ _ ho') hb hb'
 ·intro o ho
  simp only[St.trim] at ho
  rw[if_neg yA]
 ·split at hB
  ·exact hr.new o B b ho hB hb
  ·cases hB
theorem Le.env {s:St}(ks:List Nat):Le C s { s with env:=pick s.env ks }:=by
 intro a w ⟨σ,hr⟩
 exact⟨σ,hr.nq,hr.tm,hr.os,hr.tape,hr.output,hr.size,hr.frame,fun t c hc=>hr.env t c (eD _ _ _ _ hc),hr.obj,hr.inj,hr.nx,hr.fj,hr.low,hr.new⟩
mutual
def cL (o:Nat)(cells:List CV)(sz:Nat):CV→CV
 | .bx p off n=>if p=o then .av ((cells.drop off).take (n*sz)) n else .bx p off n
 | .aw p off=>if p=o then .cM (cells.drop off) else .aw p off
 | .agg cs=>.agg (iy o cells sz cs)
 | .fn f cs=>.fn f (iy o cells sz cs)
 | .iface f cs=>.iface f (iy o cells sz cs)
 | .cr cs=>.cr (iy o cells sz cs)
 | .int k n=>.int k n
 | .bool b=>.bool b
 | .str b=>.str b
 | .av cs n=>.av cs n
 | .ah=>.ah
 | .cM cs=>.cM cs
 | .bm=>.bm
 | .cw=>.cw
 | .iter k s p=>.iter k s p
 | .mp k es=>.mp k es
 | .any=>.any
def iy (o:Nat)(cells:List CV)(sz:Nat):List CV→List CV
 | []=>[]
 | c::cs=>cL o cells sz c::iy o cells sz cs
end
theorem IZ {o:Nat}{cells:List CV}{sz:Nat}:∀ c,one (cL o cells sz c)=one c
 | .bx p off n=>by simp only[cL];split<;>rfl
 | .aw p off=>by simp only[cL];split<;>rfl
 | .agg _=>rfl
 | .fn _ _=>rfl
 | .iface _ _=>rfl
 | .cr _=>rfl
 | .int _ _=>rfl
 | .bool _=>rfl
 | .str _=>rfl
 | .av _ _=>rfl
 | .ah=>rfl
 | .any=>rfl
 | .cM _=>rfl
 | .bm=>rfl
 | .cw=>rfl
 | .iter _ _ _=>rfl
 | .mp _ _=>rfl
theorem u7 {o:Nat}{cells:List CV}{sz:Nat}:∀ cs:List CV,(iy o cells sz cs).all one=cs.all one
 | []=>rfl
 | c::cs=>by simp only[iy,List.all_cons,IZ,u7 cs]
theorem pH {o:Nat}{cells:List CV}{sz:Nat}:∀ cs:List CV,(iy o cells sz cs).length=cs.length
 | []=>rfl
 | c::cs=>by simp only[iy,List.length_cons,pH cs]
def vY (o:Nat)(cells:List CV)(sz:Nat):List (Nat×CV)→List (Nat×CV)
 | []=>[]
 | (t,c)::r=>(t,cL o cells sz c)::vY o cells sz r
def sL (o:Nat)(cells:List CV)(sz:Nat):List (Nat×Ob)→List (Nat×Ob)
 | []=>[]
 | (p,x)::r=>if p=o then sL o cells sz r else (p,{ x with cells:=iy o cells sz x.cells })::sL o cells sz r
def St.cG (s:St)(o:Nat)(ob:Ob):St:=⟨vY o ob.cells ob.sz s.env,sL o ob.cells ob.sz s.heap,s.nx⟩
theorem vz {o:Nat}{cells:List CV}{sz:Nat}:∀ (l:List (Nat×CV)) (t:Nat) (c:CV),assoc (vY o cells sz l) t=some c→∃ d,assoc l t=some d∧c=cL o cells sz d
 | [],_,_,h=>by simp[vY,assoc] at h
 | (k,x)::r,t,c,h=>by
  simp only[vY,assoc] at h ⊢
  split at h
  ·rename_i e;rw[if_pos e];cases h;exact⟨x,rfl,rfl⟩
  ·rename_i e;rw[if_neg e];exact vz r t c h
theorem fL {o:Nat}{cells:List CV}{sz:Nat}:∀ (l:List (Nat×Ob)) (p:Nat) (x:Ob),assoc (sL o cells sz l) p=some x→p≠o∧∃ y,assoc l p=some y∧x={ y with cells:=iy o cells sz y.cells }
 | [],_,_,h=>by simp[sL,assoc] at h
 | (k,y)::r,p,x,h=>by
  simp only[sL] at h
  split at h
  ·rename_i hk
   obtain⟨h1,z,h2,h3⟩:=fL r p x h
   refine⟨h1,z,?_,h3⟩
   simp only[assoc]
   rw[if_neg (fun e=>h1 (by rw[← e,hk]))];exact h2
  ·rename_i hk
   simp only[assoc] at h
   split at h
   ·rename_i e
    cases h
    subst e
    exact⟨hk,y,by simp[assoc],rfl⟩
   ·rename_i e
    obtain⟨h1,z,h2,h3⟩:=fL r p x h
    exact⟨h1,z,by simp only[assoc];rw[if_neg e];exact h2,h3⟩
section
variable {w:World}{F F':Nat→Prop}{σ:Nat→Option OB}{o sz:Nat}{cells:List CV}{B:OB}
mutual
theorem C8 (hk:cF w w F F')(hB:σ o=some B)(hsz:B.sz=sz)(hm:∀ b,B.jX=some b→∀ k,fw w F' (cells.drop k) ⟨b,k,none⟩):∀ (c:CV) (v:Value),VR w F σ c v→VR w F' σ (cL o cells sz c) v
 | .bx p off n,v,hv=>by
  simp only[cL]
  split
  ·rename_i e;subst e
   simp only[VR] at hv
   obtain⟨B',hB',hv⟩:=hv
   rw[hB] at hB';cases hB'
   split at hv
   ·obtain⟨rfl,rfl,rfl⟩:=hv
    simp only[VR,bY]
    exact⟨none,0,rfl,Nat.le_refl _,Nat.zero_le _,.inl ⟨trivial,by simp⟩⟩
   ·rename_i b hb
    obtain⟨cap,rfl,h1,h2,_⟩:=hv
    simp only[VR,bY]
    exact⟨_,cap,rfl,h1,h2,.inr ⟨_,rfl,fw.take _ _ _ (hm b hb off)⟩⟩
  ·exact VR.bp hk _ _ (fun _ _=>rfl) hv
 | .aw p off,v,hv=>by
  simp only[cL]
  split
  ·rename_i e;subst e
   simp only[VR] at hv
   obtain⟨B',b,hB',hb,rfl⟩:=hv
   rw[hB] at hB';cases hB'
   simp only[VR,bY]
   exact⟨_,rfl,hm b hb off⟩
  ·exact VR.bp hk _ _ (fun _ _=>rfl) hv
 | .agg cs,v,hv=>by
  simp only[cL,VR] at hv ⊢
  obtain⟨vs,e,r,h1⟩:=hv
  exact⟨vs,e,lS hk hB hsz hm cs vs r,by rw[u7];exact h1⟩
 | .fn f cs,v,hv=>by
  simp only[cL,VR] at hv ⊢
  obtain⟨vs,e,r⟩:=hv
  exact⟨vs,e,lS hk hB hsz hm cs vs r⟩
 | .iface f cs,v,hv=>by
  simp only[cL,VR] at hv ⊢
  obtain⟨vs,e,r⟩:=hv
  exact⟨vs,e,lS hk hB hsz hm cs vs r⟩
 | .cr cs,v,hv=>by
  simp only[cL,VR] at hv ⊢
  obtain⟨vs,e,r⟩:=hv
  exact⟨vs,e,lS hk hB hsz hm cs vs r⟩
 | .int k n,v,hv=>by simp only[cL];exact VR.bp hk _ _ (fun _ _=>rfl) hv
 | .bool b,v,hv=>by simp only[cL];exact VR.bp hk _ _ (fun _ _=>rfl) hv
 | .str b,v,hv=>by simp only[cL];exact VR.bp hk _ _ (fun _ _=>rfl) hv
 | .av cs n,v,hv=>by simp only[cL];exact VR.bp hk _ _ (fun _ _=>rfl) hv
 | .ah,v,hv=>by simp only[cL];exact VR.bp hk _ _ (fun _ _=>rfl) hv
 | .cM cs,v,hv=>by simp only[cL];exact VR.bp hk _ _ (fun _ _=>rfl) hv
 | .bm,v,hv=>by simp only[cL];exact VR.bp hk _ _ (fun _ _=>rfl) hv
 | .cw,v,hv=>by simp only[cL];exact VR.bp hk _ _ (fun _ _=>rfl) hv
 | .iter _ _ _,v,hv=>by simp only[cL];exact VR.bp hk _ _ (fun _ _=>rfl) hv
 | .mp _ _,v,hv=>by simp only[cL];exact VR.bp hk _ _ (fun _ _=>rfl) hv
 | .any,v,hv=>by simpa [cL,VR] using hv
theorem lS (hk:cF w w F F')(hB:σ o=some B)(hsz:B.sz=sz)(hm:∀ b,B.jX=some b→∀ k,fw w F' (cells.drop k) ⟨b,k,none⟩):∀ (cs:List CV) (vs:List Value),aS w F σ cs vs→aS w F' σ (iy o cells sz cs) vs
 | [],_,hv=>by simpa [iy,aS] using hv
 | c::cs,vs,hv=>by
  simp only[iy,aS] at hv ⊢
  obtain⟨v,r,e,h1,h2⟩:=hv
  exact⟨v,r,e,C8 hk hB hsz hm c v h1,lS hk hB hsz hm cs r h2⟩
end
end
theorem aG.cG {C:Cx}{σ:Nat→Option OB}{a:Act}{w:World}{s:St}(hr:aG C σ s a w){o:Nat}{ob:Ob}(ho:assoc s.heap o=some ob)(ht:trees ob.cells=true):aG C σ (s.cG o ob) a w:=by
 obtain⟨B,hB,hsz,hn,h1,h5⟩:=hr.obj o ob ho
 have hF:∀ b,FB C σ (sL o ob.cells ob.sz s.heap) b→FB C σ s.heap b:=by
  rintro b (hb | ⟨p,x,hp,hb⟩)
  ·exact .inl hb
  ·obtain⟨_,y,hy,_⟩:=fL _ _ _ hp
   exact .inr ⟨p,y,hy,hb⟩
 have hk:cF w w (FB C σ s.heap) (FB C σ (sL o ob.cells ob.sz s.heap)):=⟨fun ad u hf hu=>⟨hu,fun h=>hf (hF _ h)⟩,fun r _ hf hu _=>⟨hu,fun h=>hf (hF _ h)⟩⟩
 have hm:∀ b,B.jX=some b→∀ k,fw w (FB C σ (sL o ob.cells ob.sz s.heap)) (ob.cells.drop k) ⟨b,k,none⟩:=fun b hb k=>by
  obtain⟨cur,k1,k2,k3,k4,k5,k6⟩:=h5 b hb
  have hnb:¬ FB C σ (sL o ob.cells ob.sz s.heap) b:=by
   rintro (hf | ⟨p,x,hp,hbp⟩)
   ·exact k3 hf
   ·obtain⟨hne,y,hy,_⟩:=fL _ _ _ hp
    exact hne (hr.inj p o y ob b hy ho hbp (by simp[aV,hB,hb]))
  have h2:fw w (FB C σ (sL o ob.cells ob.sz s.heap)) ob.cells ⟨b,0,none⟩:=iq _ _ _ (bJ.bp hk.1 _ _ (aS.ek _ _ ht k6)) h1 hnb fun j u hu=>by
   rw[add_lit,Nat.zero_add,cell_of_row w b j cur _ _ k1]
   rw[List.getElem?_take] at hu
   split at hu
   ·simpa using hu
   ·cases hu
  have:=h2.drop k
  rwa [add_lit,Nat.zero_add] at this
 refine⟨hr.nq,hr.tm,hr.os,hr.tape,hr.output,hr.size,hr.frame,?_,?_,?_,hr.nx,hr.fj,hr.low,hr.new⟩
 ·intro t c hc
  obtain⟨d,hd,rfl⟩:=vz _ _ _ hc
  obtain⟨v,k1,k2⟩:=hr.env t d hd
  exact⟨v,k1,C8 hk hB hsz hm d v k2⟩
 ·intro p x hp
  obtain⟨hne,y,hy,rfl⟩:=fL _ _ _ hp
  obtain⟨B',m1,m2,m3,m4,m5⟩:=hr.obj p y hy
  refine⟨B',m1,m2,fun hn=>?_,by rw[u7];exact m4,fun b hb=>?_⟩
  ·rw[m3 hn];rfl
  ·obtain⟨cur,n1,n2,n3,n4,n5,n6⟩:=m5 b hb
   refine⟨cur,n1,n2,n3,n4,by rw[pH];exact n5,?_⟩
   rw[pH]
   exact lS hk hB hsz hm _ _ n6
 ·intro p q x y b hp hq hb hb'
  obtain⟨_,x',hx,_⟩:=fL _ _ _ hp
  obtain⟨_,y',hy,_⟩:=fL _ _ _ hq
  exact hr.inj p q x' y' b hx hy hb hb'
theorem Le.cG {s:St}{o:Nat}{ob:Ob}(ho:assoc s.heap o=some ob)(ht:trees ob.cells=true):Le C s (s.cG o ob):=fun _ _ ⟨σ,hr⟩=>⟨σ,hr.cG ho ht⟩
def St.own (s:St)(t:Nat)(e:TypeId)(sz:Nat):St:={ env:=qQ s.env t (.bx s.nx 0 0),heap:=(s.nx,⟨e,sz,[]⟩)::s.heap,nx:=s.nx+1 }
theorem Le.own {s:St}(t:Nat)(e:TypeId)(sz:Nat)(ht:assoc s.env t=some .ah):Le C s (s.own t e sz):=by
 intro a w ⟨σ,hr⟩
 obtain⟨h1,h2⟩:=hr.fresh (World.grownBy.refl w none) (ob:=⟨e,sz,[]⟩) (B:=⟨none,0,sz⟩) rfl rfl (fun _=>rfl) (fun b hb=>by cases hb)
 refine⟨_,h1.nq,h1.tm,h1.os,h1.tape,h1.output,h1.size,h1.frame,?_,h1.obj,h1.inj,h1.nx,h1.fj,h1.low,h1.new⟩
 intro u c hc
 simp only[St.own] at hc
 rw[eP] at hc
 split at hc
 ·rename_i eu;subst eu
  rw[ht] at hc
  simp only[Option.map_some,Option.some.injEq] at hc
  subst hc
  obtain⟨v,k1,k2⟩:=hr.env t _ ht
  simp only[VR] at k2
  subst k2
  refine⟨_,k1,?_⟩
  simp only[VR]
  exact⟨_,dw,by simp⟩
 ·exact h1.env u c hc
section
variable {P:Program}{C:Cx}{s:St}{ops:Array Oper}{aq:List (Nat×TI)}
theorem T.le {s':St}{c:Code}{Q:Exit→St→Prop}(h:Le C s s')(ht:T P C c s' Q):T P C c s Q:=fun a w hr=>ht a w (h a w hr)
theorem T.post {c:Code}{Q Q':Exit→St→Prop}(h:T P C c s Q')(hq:∀ e s',Q' e s'→∃ s'',Q e s''∧Le C s' s''):T P C c s Q:=fun a w hr=>
 wp_mono (h a w hr) fun e a' w' ⟨s',q,r⟩=>by
  obtain⟨s'',q',l⟩:=hq e s' q
  exact⟨s'',q',l a' w' r⟩
theorem TL.le {s':St}{l:List Oper}{K:St→Prop}(h:Le C s s')(ht:TL P C ops l s' K):TL P C ops l s K:=fun a w Q hr hQ=>ht a w Q (h a w hr) hQ
def aa (C:Cx)(I:St→Prop)(s:St):Prop:=∃ s',I s'∧Le C s s'
theorem T.aL {c:Code}{Q:Exit→St→Prop}(I:Nat→St→Prop){n:Nat}(h₀:aa C (I n) s)(round:∀ n s,I n s→T P C c s (eR (fun s'=>∃ m,m<n∧aa C (I m) s') Q)):T P C (.loop c) s Q:=by
 obtain⟨s',h0,l0⟩:=h₀
 refine T.le l0 (T.loop I h0 fun n s hi=>T.post (round n s hi) fun e s' q=>?_)
 cases e with
 | normal=>
  obtain⟨m,hm,s'',hi,hl⟩:=q
  exact⟨s'',⟨m,hm,hi⟩,hl⟩
 | _=>exact⟨s',q,Le.refl _⟩
def K7 (C:Cx)(aq:List (Nat×TI))(f:Func)(r:CV):Exit→St→Prop
 | .normal,s=>aa C (fun s=>bw aq f s=some r) s
 | .ret,s=>aa C (fun s=>bw aq f s=some r) s
 | _,_=>False
theorem ae.aB (ht0 : ay P aq) {f : FuncId} {fn : Func} {c : Code} {args : List CV} {r : CV} (hf : P.funcs[f]? = some fn) (hb : fn.body = some c) (hn : (fn.name == "runtime.NumGoroutine") = false)
  (ha:args.length≤fn.ntmps) (ht:tree r=true) (h:∀ C:Cx,C.nt=fn.ntmps→C.n0=0→T P C c (enter args) (K7 C aq fn r)):ae P f args r:=
 ae.j5 ht0 hf hb hn ha ht fun C hC hC0=>T.post (h C hC hC0) fun e s' q=>by
  cases e with
  | normal=>exact q
  | ret=>exact q
  | _=>exact q.elim
def yF (o:Oper):Bool:=match o.op with
 | .call c=>match c.callee with
  | .builtin _=>false
  | _=>true
 | _=>false
def bU (ops:Array Oper)(s:St)(o:Oper):Option Bool:=match o.guard with
 | none=>some true
 | some (j,want)=>match (ops[j]?).bind (·.dst) with
  | none=>none
  | some t=>mo (assoc s.env t) want
def za (aq:List (Nat×TI))(nt:Nat)(ops:Array Oper)(K:List Oper→St→Prop):List Oper→St→Prop
 | [],s=>K [] s
 | o::r,s=>if yF o then
   match bU ops s o with
   | some false=>uH (za aq nt ops K r) (fe aq nt ops s o)
   | _=>K (o::r) s
  else uH (za aq nt ops K r) (fe aq nt ops s o)
theorem GN (ht:ay P aq){K:St→Prop}:∀ (l:List Oper) (s:St),za aq C.nt ops (fun r s'=>TL P C ops r s' K) l s→TL P C ops l s K
 | [],_,h=>h
 | o::r,s,h=>by
  have fin:uH (za aq C.nt ops (fun r s'=>TL P C ops r s' K) r) (fe aq C.nt ops s o)→TL P C ops (o::r) s K:=fun h=>by
   cases hs:fe aq C.nt ops s o with
   | none=>rw[hs] at h;exact h.elim
   | some s'=>rw[hs] at h;exact TL.step ht hs (GN ht r s' h)
  unfold za at h
  split at h
  ·split at h
   ·exact fin h
   ·exact h
  ·exact fin h
theorem sj {e:Option CV}{want:Bool}(h:mo e want=some true):e=some (.bool want):=by
 unfold mo at h
 split at h
 ·rename_i b
  simp only[Option.some.injEq,beq_iff_eq] at h;subst h;rfl
 ·cases h
 ·cases h
def gq (aq:List (Nat×TI))(nt:Nat)(ops:Array Oper)(s:St)(o:Oper):Option St:=
 if aU nt o.dst then
  match o.guard with
  | none=>(da aq s o.op).map (s.put o.dst)
  | some (j,want)=>match (ops[j]?).bind (·.dst) with
   | none=>none
   | some t=>match mo (assoc s.env t) want with
    | some true=>(da aq s o.op).map (s.put o.dst)
    | some false=>some (s.put o.dst (.cr []))
    | none=>none
 else none
theorem Al {nt:Nat}{o:Oper}{s':St}(h:gq aq nt ops s o=some s'):∃ r,sB P aq nt ops s o r∧eX s o.dst r=s':=by
 unfold gq at h
 split at h
 ·rename_i hd
  split at h
  ·rename_i hg
   obtain⟨c,hc,rfl⟩:=Option.map_eq_some_iff.1 h
   exact⟨some c,⟨hd,.inr ⟨.inl hg,c,rfl,.inl hc⟩⟩,rfl⟩
  ·rename_i j want hg
   split at h
   ·cases h
   rename_i t hj
   split at h
   ·rename_i hb
    obtain⟨c,hc,rfl⟩:=Option.map_eq_some_iff.1 h
    exact⟨some c,⟨hd,.inr ⟨.inr ⟨j,want,t,hg,hj,sj hb⟩,c,rfl,.inl hc⟩⟩,rfl⟩
   ·rename_i hb
    cases h
    exact⟨some (.cr []),⟨hd,.inl ⟨j,want,t,hg,hj,hb,rfl⟩⟩,rfl⟩
   ·cases h
 ·cases h
def C6 (aq:List (Nat×TI))(nt:Nat)(ops:Array Oper)(K:List Nat→St→Prop):List Nat→St→Prop
 | [],s=>K [] s
 | i::r,s=>match ops[i]? with
  | none=>False
  | some o=>if yF o then
    match bU ops s o with
    | some false=>uH (C6 aq nt ops K r) (gq aq nt ops s o)
    | _=>K (i::r) s
   else uH (C6 aq nt ops K r) (gq aq nt ops s o)
theorem GO {nt:Nat}{K:St→Prop}:∀ (l:List Nat) (s:St),C6 aq nt ops (fun r s'=>TH P aq nt ops r s' K) l s→TH P aq nt ops l s K
 | [],_,h=>h
 | i::r,s,h=>by
  unfold C6 at h
  split at h
  ·exact h.elim
  rename_i o ho
  have fin:uH (C6 aq nt ops (fun r s'=>TH P aq nt ops r s' K) r) (gq aq nt ops s o)→TH P aq nt ops (i::r) s K:=fun h=>by
   cases hs:gq aq nt ops s o with
   | none=>rw[hs] at h;exact h.elim
   | some s'=>
    rw[hs] at h
    obtain⟨x,k1,k2⟩:=Al (P:=P) hs
    exact⟨o,x,ho,k1,by rw[k2];exact GO r s' h⟩
  split at h
  ·split at h
   ·exact fin h
   ·exact h
  ·exact fin h
theorem TH.call {nt:Nat}{K:St→Prop}{i:Nat}{r:List Nat}{o:Oper}{c:Call}{x:CV}(hi:ops[i]? = some o)(hd:aU nt o.dst=true)(hg:bU ops s o=some true)(ho:o.op=.call c)(hc:bF P s c x)(h:TH P aq nt ops r (s.put o.dst x) K) :
  TH P aq nt ops (i::r) s K:=by
 refine⟨o,some x,hi,⟨hd,.inr ⟨?_,x,rfl,.inr ⟨c,ho,hc⟩⟩⟩,h⟩
 unfold bU at hg
 split at hg
 ·rename_i e;exact .inl e
 ·rename_i j want e
  split at hg
  ·cases hg
  rename_i t hj
  exact .inr ⟨j,want,t,e,hj,sj hg⟩
end
end
section
variable {P:Program}{C:Cx}{s:St}{ops:Array Oper}{aq:List (Nat×TI)}{Q:Exit→St→Prop}{x y z:Code}
theorem T.cond_true {c:Operand}(hc:ev s c=some (.bool true))(h:T P C x s Q):T P C (.cond c x y) s Q:=T.cond hc yAy
theorem T.cond_false {c:Operand}(hc:ev s c=some (.bool false))(h:T P C y s Q):T P C (.cond c x y) s Q:=T.cond hc yAy
theorem T.bg {c:Operand}{b:Bool}(hc:ev s c=some (.bool b))(h1:b=true→T P C x s Q)(h2:b=false→T P C y s Q):T P C (.cond c x y) s Q:=by
 cases b
 ·exact T.cond_false hc (h2 rfl)
 ·exact T.cond_true hc (h1 rfl)
theorem aa.trim {I:St→Prop}(ks os:List Nat)(n:Nat)(h:tz s ks os n=true)(hn0:C.n0≤n)(hi:I (s.trim ks os n)):aa C I s:=⟨_,hi,Le.trim ks os n h hn0⟩
theorem Le.to {s':St}(ks os:List Nat)(n:Nat)(h:tz s ks os n=true)(hn0:C.n0≤n)(e:s.trim ks os n=s'):Le C s s':=e ▸ Le.trim ks os n h hn0
theorem aa.here {I:St→Prop}(hi:I s):aa C I s:=⟨s,hi,Le.refl s⟩
theorem aa.le {I:St→Prop}{s':St}(h:Le C s s')(hi:aa C I s'):aa C I s:=by
 obtain⟨s'',h1,h2⟩:=hi
 exact⟨s'',h1,h.trans h2⟩
theorem bF.of {c:Call}{g:FuncId}{cs:List CV}{r:CV}(h1:bl s c=some (g,cs))(h2:trees cs=true)(h3:ae P g cs r):bF P s c r:=⟨g,cs,h1,.inl ⟨h2,h3⟩⟩
theorem bF.lent {c:Call}{g:FuncId}{cs ds:List CV}{r:CV}(h1:bl s c=some (g,cs))(h2:mS s cs=some ds)(h3:ae P g ds r)(h4:scalar r=true):bF P s c r:=⟨g,cs,h1,.inr ⟨ds,h2,h3,h4⟩⟩
end
abbrev bM (n:Int):CV:=.int .i64 n
def ints (l:List Int):CV:=.av (l.map bM) l.length
theorem D6 (o:Nat)(cs:List CV):dJ o cs=cs.all (aF o):=by
 induction cs with
 | nil=>rfl
 | cons c cs ih=>simp[dJ,ih]
theorem a7 (n:Nat)(cs:List CV):aQ n cs=cs.all (a8 n):=by
 induction cs with
 | nil=>rfl
 | cons c cs ih=>simp[aQ,ih]
theorem Ff (cs:List CV):trees cs=cs.all tree:=by
 induction cs with
 | nil=>rfl
 | cons c cs ih=>simp[trees,ih]
theorem GU (o:Nat)(cells:List CV)(sz:Nat)(cs:List CV):iy o cells sz cs=cs.map (cL o cells sz):=by
 induction cs with
 | nil=>rfl
 | cons c cs ih=>simp[iy,ih]
theorem BD (cs:List CV):mc cs=cs.all scalar:=by
 induction cs with
 | nil=>rfl
 | cons c cs ih=>simp[mc,ih]
theorem GS (o:Nat)(c:List CV)(z:Nat)(l:List Int):cL o c z (ints l)=ints l:=rfl
theorem B6 (o:Nat)(c:List CV)(z:Nat):cL o c z∘ints=ints:=rfl
theorem Es (o:Nat)(c:List CV)(z:Nat):cL o c z∘bM=bM:=rfl
theorem B7 (o:Nat)(c:List CV)(z:Nat):cL o c z∘CV.bool=CV.bool:=rfl
theorem BU (o:Nat)(l:List Int):aF o (ints l)=true:=rfl
theorem zH (o:Nat)(l:List Int):a8 o (ints l)=true:=rfl
theorem bQ (l:List Int):tree (ints l)=true:=rfl
theorem yu (o:Nat):aF o∘ints=fun _=>true:=rfl
theorem zY (o:Nat):aF o∘bM=fun _=>true:=rfl
theorem yv (o:Nat):aF o∘CV.bool=fun _=>true:=rfl
theorem vM (o:Nat):a8 o∘ints=fun _=>true:=rfl
theorem yf (o:Nat):a8 o∘bM=fun _=>true:=rfl
theorem vN (o:Nat):a8 o∘CV.bool=fun _=>true:=rfl
theorem zn:tree∘ints=fun _=>true:=rfl
theorem Bw:tree∘bM=fun _=>true:=rfl
theorem zo:tree∘CV.bool=fun _=>true:=rfl
theorem B1 (l:List Int):dV (ints l)=false:=rfl
theorem Ch (l:List Int):(ints l).cells=[ints l]:=rfl
theorem At {α:Type}(o:Nat)(c:List CV)(z:Nat)(f:α→List Int):cL o c z∘ints∘f=ints∘f:=rfl
theorem vT {α:Type}(o:Nat)(f:α→List Int):aF o∘ints∘f=fun _=>true:=rfl
theorem ur {α:Type}(o:Nat)(f:α→List Int):a8 o∘ints∘f=fun _=>true:=rfl
theorem xU {α:Type}(f:α→List Int):tree∘ints∘f=fun _=>true:=rfl
theorem B5 {α:Type}(o:Nat)(c:List CV)(z:Nat)(f:α→Int):cL o c z∘bM∘f=bM∘f:=rfl
theorem yr {α:Type}(o:Nat)(f:α→Int):aF o∘bM∘f=fun _=>true:=rfl
theorem vL {α:Type}(o:Nat)(f:α→Int):a8 o∘bM∘f=fun _=>true:=rfl
theorem zm {α:Type}(f:α→Int):tree∘bM∘f=fun _=>true:=rfl
theorem vX {α:Type}(o:Nat)(c:List CV)(z:Nat)(f:α→Bool):cL o c z∘CV.bool∘f=CV.bool∘f:=rfl
theorem sJ {α:Type}(o:Nat)(f:α→Bool):aF o∘CV.bool∘f=fun _=>true:=rfl
theorem rh {α:Type}(o:Nat)(f:α→Bool):a8 o∘CV.bool∘f=fun _=>true:=rfl
theorem tR {α:Type}(f:α→Bool):tree∘CV.bool∘f=fun _=>true:=rfl
attribute [simp] At vT ur xU B5 yr vL zm vX sJ rh tR
attribute [simp] GS B6 Es B7 BU zH
attribute [simp] bQ yu zY yv vM yf vN zn Bw zo
attribute [simp] B1 Ch
@[simp] theorem JF (k:IntKind)(n:Int):dV (.int k n:CV)=false:=rfl
@[simp] theorem JR (k:IntKind)(n:Int):CV.cells (.int k n:CV)=[(.int k n:CV)]:=rfl
@[simp] theorem IS (b:Bool):dV (.bool b:CV)=false:=rfl
@[simp] theorem Jf (b:Bool):CV.cells (.bool b:CV)=[(.bool b:CV)]:=rfl
@[simp] theorem JD (b:ByteArray):dV (.str b:CV)=false:=rfl
@[simp] theorem JP (b:ByteArray):CV.cells (.str b:CV)=[(.str b:CV)]:=rfl
@[simp] theorem JC (cs:List CV)(n:Nat):dV (.av cs n:CV)=false:=rfl
@[simp] theorem JO (cs:List CV)(n:Nat):CV.cells (.av cs n:CV)=[(.av cs n:CV)]:=rfl
@[simp] theorem HN  : dV (.ah:CV)=false:=rfl
@[simp] theorem HS  : CV.cells (.ah:CV)=[(.ah:CV)]:=rfl
@[simp] theorem IN (cs:List CV):dV (.cM cs:CV)=false:=rfl
@[simp] theorem Jd (cs:List CV):CV.cells (.cM cs:CV)=[(.cM cs:CV)]:=rfl
@[simp] theorem Gu  : dV (.bm:CV)=false:=rfl
@[simp] theorem Hm  : CV.cells (.bm:CV)=[(.bm:CV)]:=rfl
@[simp] theorem KV (f:FuncId)(cs:List CV):dV (.fn f cs:CV)=false:=rfl
@[simp] theorem Lm (f:FuncId)(cs:List CV):CV.cells (.fn f cs:CV)=[(.fn f cs:CV)]:=rfl
@[simp] theorem HO  : dV (.cw:CV)=false:=rfl
@[simp] theorem HT  : CV.cells (.cw:CV)=[(.cw:CV)]:=rfl
@[simp] theorem JE (o f n:Nat):dV (.bx o f n:CV)=false:=rfl
@[simp] theorem JQ (o f n:Nat):CV.cells (.bx o f n:CV)=[(.bx o f n:CV)]:=rfl
@[simp] theorem IQ (o f:Nat):dV (.aw o f:CV)=false:=rfl
@[simp] theorem Je (o f:Nat):CV.cells (.aw o f:CV)=[(.aw o f:CV)]:=rfl
@[simp] theorem KU (k:Nat)(es:List (Value×Value)):dV (.mp k es:CV)=false:=rfl
@[simp] theorem JG (cs:List CV):dV (.agg cs)=false:=rfl
@[simp] theorem JS (cs:List CV):CV.cells (.agg cs)=cs:=rfl
@[simp] theorem JA (cs:List CV):dV (.cr cs)=true:=rfl
@[simp] theorem JN (cs:List CV):CV.cells (.cr cs)=[.cr cs]:=rfl
attribute [simp] D6 a7 Ff GU BD
attribute [simp] aF a8 tree cL scalar one
attribute [simp] assoc jy qQ St.put St.del ev Aw qA gr jm
attribute [simp] mo fe kW Ft da aU gq yF bU za C6 uH DM ua
attribute [simp] Dr Ci arith cun ij Jc dz lv KX imax vl
attribute [simp] yT ti fF mT TI.agg nX St.new Dm yY Hp jo gH mG yV lu du rJ oE
attribute [simp] oG cells? Dq Cc
attribute [simp] bl yz mS enter bw kR pe nN pick St.trim tz St.cG vY sL St.own
attribute [simp] eO lZ yX
attribute [simp] List.head?_drop
section
variable {P:Program}{C:Cx}{s:St}{ops:Array Oper}{aq:List (Nat×TI)}{Q:Exit→St→Prop}{x y z:Code}
/- simp looks at the state alone, never at the code. -/
@[congr] theorem T_congr {s s':St}{c:Code}(h:s=s'):T P C c s Q=T P C c s' Q:=by rw[h]
@[congr] theorem TL_congr {s s':St}{l:List Oper}{K:St→Prop}(h:s=s'):TL P C ops l s K=TL P C ops l s' K:=by rw[h]
@[congr] theorem TH_congr {nt:Nat}{s s':St}{l:List Nat}{K:St→Prop}(h:s=s'):TH P aq nt ops l s K=TH P aq nt ops l s' K:=by rw[h]
attribute [simp] eR oa
def Bh (P:Program)(C:Cx)(ops:Array Oper)(K:St→Prop):List Oper→St→Prop
 | [],s=>K s
 | o::r,s=>TL P C ops (o::r) s K
def LC (P:Program)(aq:List (Nat×TI))(nt:Nat)(ops:Array Oper)(K:St→Prop):List Nat→St→Prop
 | [],s=>K s
 | i::r,s=>TH P aq nt ops (i::r) s K
attribute [simp] Bh LC
theorem TL.go' (ht:ay P aq){K:St→Prop}{l:List Oper}(h:za aq C.nt ops (Bh P C ops K) l s):TL P C ops l s K:=by
 refine GN ht l s ?_
 have e:Bh P C ops K=Bh P C ops K:=rfl
 revert h
 have:∀ (l:List Oper) (s:St),za aq C.nt ops (Bh P C ops K) l s→za aq C.nt ops (fun r s'=>TL P C ops r s' K) l s:=by
  intro l
  induction l with
  | nil=>intro s h;exact TL.nil h
  | cons o r ih=>
   intro s h
   have fin:uH (za aq C.nt ops (Bh P C ops K) r) (fe aq C.nt ops s o)→uH (za aq C.nt ops (fun r s'=>TL P C ops r s' K) r) (fe aq C.nt ops s o):=fun h=>by
    cases hs:fe aq C.nt ops s o with
    | none=>rw[hs] at h;exact h.elim
    | some s'=>rw[hs] at h;exact ih s' h
   unfold za at h ⊢
   split
   ·rename_i hc
    rw[if_pos hc] at h
    split
    ·rename_i hg
     rw[hg] at h
     exact fin h
    ·rename_i hg
     split at h
     ·rename_i hg';exact absurd hg' hg
     ·exact h
   ·rename_i hc
    rw[if_neg hc] at h
    exact fin h
 exact this l s
theorem TH.go' {nt:Nat}{K:St→Prop}{l:List Nat}(h:C6 aq nt ops (LC P aq nt ops K) l s):TH P aq nt ops l s K:=by
 refine GO l s ?_
 revert h
 have:∀ (l:List Nat) (s:St),C6 aq nt ops (LC P aq nt ops K) l s→C6 aq nt ops (fun r s'=>TH P aq nt ops r s' K) l s:=by
  intro l
  induction l with
  | nil=>intro s h;exact h
  | cons i r ih=>
   intro s h
   unfold C6 at h ⊢
   split
   ·rename_i hi;rw[hi] at h;exact h
   ·rename_i o hi
    rw[hi] at h
    have fin:uH (C6 aq nt ops (LC P aq nt ops K) r) (gq aq nt ops s o)→uH (C6 aq nt ops (fun r s'=>TH P aq nt ops r s' K) r) (gq aq nt ops s o):=fun h=>by
     cases hs:gq aq nt ops s o with
     | none=>rw[hs] at h;exact h.elim
     | some s'=>rw[hs] at h;exact ih s' h
    simp only at h
    split
    ·rename_i hc
     rw[if_pos hc] at h
     split
     ·rename_i hg
      rw[hg] at h
      exact fin h
     ·rename_i hg
      split at h
      ·rename_i hg';exact absurd hg' hg
      ·exact h
    ·rename_i hc
     rw[if_neg hc] at h
     exact fin h
 exact this l s
theorem T.go' (ht:ay P aq){id:Nat}{l:List Oper}(h:za aq C.nt l.toArray (Bh P C l.toArray (Q .normal)) l s):T P C (.region id l.toArray false) s Q:=T.region (TL.go' ht h)
def Fi (P:Program)(C:Cx)(aq:List (Nat×TI))(l:List Oper)(tail:List Nat)(K:St→Prop)(s:St):Prop:=za aq C.nt l.toArray (Bh P C l.toArray K) (tail.map (l.toArray.getD · default)) s
theorem T.G3 (ht:ay P aq)(hm:P.follows .mixedOrders=true){id:Nat}{l:List Oper}(pre ord tail:List Nat)(hB:AE l.toArray pre ord tail=true)
  (h:C6 aq C.nt l.toArray (LC P aq C.nt l.toArray (Fi P C aq l tail (Q .normal))) (pre++ord) s):T P C (.region id l.toArray true) s Q:=
 T.draw ht hm pre ord tail hB (TH.Jw (TH.go' h))
where TH.Jw {nt:Nat} {l:List Oper} {tail:List Nat}:∀ {ord:List Nat} {s:St},TH P aq nt l.toArray ord s (Fi P C aq l tail (Q .normal))→TH P aq nt l.toArray ord s (fun s'=>TL P C l.toArray (tail.map (l.toArray.getD · default)) s' (Q .normal))
 | [],_,h=>TL.go' ht h
 | _::_,_,⟨o,r,h1,h2,h3⟩=>⟨o,r,h1,h2,TH.Jw h3⟩
theorem T.cut (J:St→Prop)(h:T P C x s (eR (aa C J) Q))(k:∀ s',J s'→T P C y s' Q):T P C (.seq x y) s Q:=
 T.seq (T.post h fun e s' q=>by
  cases e with
  | normal=>obtain⟨s'',hj,hl⟩:=q;exact⟨s'',k s'' hj,hl⟩
  | _=>exact⟨s',q,Le.refl _⟩)
end
attribute [simp] Fi
section
variable {P:Program}{C:Cx}{s:St}
def xj (l:Nat)(J:St→Prop)(Q:Exit→St→Prop):Exit→St→Prop
 | .goto m,s=>m=l∧J s
 | e,s=>Q e s
@[simp] theorem KR (l m:Nat)(J:St→Prop)(Q:Exit→St→Prop)(s:St):xj l J Q (.goto m) s=(m=l∧J s):=rfl
@[simp] theorem IL (l:Nat)(J:St→Prop)(Q:Exit→St→Prop)(s:St):xj l J Q .normal s=Q .normal s:=rfl
@[simp] theorem Mn (l:Nat)(J:St→Prop)(Q:Exit→St→Prop)(s:St):xj l J Q .ret s=Q .ret s:=rfl
@[simp] theorem KT (l m:Nat)(J:St→Prop)(Q:Exit→St→Prop)(s:St):xj l J Q (.exit m) s=Q (.exit m) s:=rfl
theorem T.Ib {c rest:Code}{Q:Exit→St→Prop}(l:Nat)(I:Nat→St→Prop)(hf:findLabel c l=some rest)(first:T P C c s (xj l (fun s'=>∃ m,aa C (I m) s') Q))
  (pass:∀ n s,I n s→T P C rest s (xj l (fun s'=>∃ m,m<n∧aa C (I m) s') Q)):T P C (.scope c) s Q:=fun a w hr=>by
 classical
 let J:Nat→Act→World→Prop:=fun n a w=>∃ s,I n s∧Rel C s a w
 have hx:∀ a w,(∃ n,J n a w)→∃ n,J n a w∧∀ m,J m a w→n≤m:=fun a w ⟨n,hn⟩=>by
  induction n using Nat.strongRecOn with
  | _ n ih=>
   by_cases h:∃ m,m<n∧J m a w
   ·obtain⟨m,hm,hi⟩:=h;exact ih m hm hi
   ·exact⟨n,hn,fun m hm=>Nat.le_of_not_lt fun hlt=>h ⟨m,hlt,hm⟩⟩
 let μ:Act→World→Nat:=fun a w=>if h:∃ n,J n a w then (hx a w h).choose else 0
 have hμ:∀ a w (h:∃ n,J n a w),J (μ a w) a w∧∀ m,J m a w→μ a w≤m:=fun a w h=>by
  simp only[μ,dif_pos h];exact (hx a w h).choose_spec
 have up:∀ {n s' a' w'},aa C (I n) s'→Rel C s' a' w'→J n a' w':=fun⟨s'',hi,hl⟩ hr=>⟨s'',hi,hl _ _ hr⟩
 refine wp_scope_jumps l (fun a w=>∃ n,J n a w) μ hf (wp_mono (first a w hr) fun e a' w' q=>?_) fun a w hJ=>?_
 ·obtain⟨s',q,hr'⟩:=q
  cases e with
  | goto m=>obtain⟨e,m,hm⟩:=q;exact⟨e,m,up hm hr'⟩
  | _=>exact⟨s',q,hr'⟩
 ·obtain⟨s1,hi,hr1⟩:=(hμ a w hJ).1
  refine wp_mono (pass (μ a w) s1 hi a w hr1) fun e a' w' q=>?_
  obtain⟨s',q,hr'⟩:=q
  cases e with
  | goto m=>
   obtain⟨e,m,hm,hi⟩:=q
   exact⟨e,⟨m,up hi hr'⟩,Nat.lt_of_le_of_lt ((hμ a' w' ⟨m,up hi hr'⟩).2 m (up hi hr')) hm⟩
  | _=>exact⟨s',q,hr'⟩
end
def G4 (C:Cx)(aq:List (Nat×TI))(f:Func)(R:CV→St→Prop):Exit→St→Prop
 | .normal,s=>aa C (fun s'=>∃ r,bw aq f s'=some r∧R r s') s
 | .ret,s=>aa C (fun s'=>∃ r,bw aq f s'=some r∧R r s') s
 | _,_=>False
def Body (P:Program)(aq:List (Nat×TI))(f:FuncId)(args:List CV)(H:List (Nat×Ob))(n:Nat)(R:CV→St→Prop):Prop:=
 ∃ fn c, P.funcs[f]? = some fn ∧ fn.body = some c ∧ (fn.name == "runtime.NumGoroutine") = false ∧ args.length ≤ fn.ntmps ∧
  ∀ C:Cx,C.nt=fn.ntmps→C.n0=n→T P C c ⟨(enter args).env,H,n⟩ (G4 C aq fn R)
theorem Body.j5 {P : Program} {aq : List (Nat × TI)} {f : FuncId} {fn : Func} {c : Code} {args : List CV} {H : List (Nat × Ob)} {n : Nat} {R : CV → St → Prop} (hf : P.funcs[f]? = some fn) (hb : fn.body = some c) (hn : (fn.name == "runtime.NumGoroutine") = false)
  (ha:args.length≤fn.ntmps) (h:∀ C:Cx,C.nt=fn.ntmps→C.n0=n→T P C c ⟨(enter args).env,H,n⟩ (G4 C aq fn R)):Body P aq f args H n R:=⟨fn,c,hf,hb,hn,ha,h⟩
section
variable {P:Program}{C:Cx}{σ σ':Nat→Option OB}{s s':St}{a a':Act}{w w':World}{ops:Array Oper}{aq:List (Nat×TI)}
def Cx.inner (C:Cx)(w:World)(σ:Nat→Option OB)(H:List (Nat×Ob))(nt:Nat)(hF:∀ b,C.F b→b<w.heap.size)(n:Nat):Cx:=
 ⟨w,C.F,fun b=>∃ o ob,assoc H o=some ob∧aV σ o=some b,hF,nt,σ,n⟩
theorem rk (h:aG C σ s a w){b:Nat}(hb:∃ o ob,assoc s.heap o=some ob∧aV σ o=some b):b<w.heap.size∧¬ C.F b∧(C.own b∨C.w0.heap.size≤b):=by
 obtain⟨o,ob,ho,hb⟩:=hb
 obtain⟨B,m1,_,_,_,m5⟩:=h.obj o ob ho
 obtain⟨cur,n1,_,n3,n4,_⟩:=m5 b yBt
 exact⟨(Array.getElem?_eq_some_iff.1 n1).1,n3,n4⟩
theorem aG.inner (h:aG C σ s a w)(hF:∀ b,C.F b→b<w.heap.size)(nt:Nat){args:List CV}{vs:List Value}(hv:aS w (FB C σ s.heap) σ args vs)(ha:args.length≤nt) :
  aG (C.inner w σ s.heap nt hF s.nx) σ ⟨(enter args).env,s.heap,s.nx⟩ { tmps:=vs.toArray++Array.replicate (nt-vs.toArray.size) undef,defers:=[] } w:=by
 have hl:=aS.length _ _ hv
 refine⟨rfl,by simp[Cx.inner];omega,rfl,rfl,rfl,Nat.le_refl _,fun _ _ _=>rfl,?_,?_,h.inj,h.nx,fun _ _=>rfl,Nat.le_refl _,fun o B b ho hB _=>(by rw[h.nx o ho] at hB;cases hB)⟩
 ·intro t c hc
  obtain⟨_,h2⟩:=fS args 0 t c hc
  obtain⟨v,h3,h4⟩:=aS.get _ _ hv t c (by simpa using h2)
  refine⟨v,?_,h4⟩
  have hlt:=(List.getElem?_eq_some_iff.1 h3).1
  simp only
  rw[Array.getElem?_append_left (by simpa using hlt)]
  simpa using h3
 ·intro o ob ho
  obtain⟨B,m1,m2,m3,m4,m5⟩:=h.obj o ob ho
  refine⟨B,m1,m2,m3,m4,fun b hb=>?_⟩
  obtain⟨cur,n1,n2,n3,n4,n5,n6⟩:=m5 b hb
  exact⟨cur,n1,n2,n3,.inl ⟨o,ob,ho,by simp[aV,m1,hb]⟩,n5,n6⟩
theorem aG.back (h:aG C σ s a w){hF:∀ b,C.F b→b<w.heap.size}{nt:Nat}(h':aG (C.inner w σ s.heap nt hF s.nx) σ' s' a' w'):aG C σ' ⟨s.env,s'.heap,s'.nx⟩ a w':=by
 have hown:∀ b,b<w.heap.size→(¬ ∃ o ob,assoc s.heap o=some ob∧aV σ o=some b)→w'.heap[b]? = w.heap[b]?:=fun b hb hn=>h'.frame b hb hn
 have hobj:∀ o ob b,assoc s'.heap o=some ob→aV σ' o=some b→(∃ o ob,assoc s.heap o=some ob∧aV σ o=some b)∨w.heap.size≤b:=fun o ob b ho hb=>by
  obtain⟨B,m1,_,_,_,m5⟩:=h'.obj o ob ho
  obtain⟨cur,_,_,_,n4,_⟩:=m5 b yBt
  exact n4
 refine⟨h.nq,h.tm,h'.os.trans h.os,h'.tape.trans h.tape,h'.output.trans h.output,Nat.le_trans h.size h'.size,?_,?_,?_,h'.inj,h'.nx,fun o ho=>(h'.fj o (Nat.lt_of_lt_of_le ho h.low)).trans (h.fj o ho),Nat.le_trans h.low h'.low,fun o B b ho hB hb=>?_⟩
 ·intro b hb hno
  rw[hown b (Nat.lt_of_lt_of_le hb h.size) fun hx=>?_]
  ·exact h.frame b hb hno
  ·rcases (rk h hx).2.2 with h1 | h1
   ·exact hno h1
   ·omega
 ·intro t c hc
  obtain⟨v,k1,k2⟩:=h.env t c hc
  refine⟨v,k1,VR.bp ⟨fun ad u hf hu=>?_,fun r _ hf hu _=>?_⟩ _ _ (fun o ho=>?_) k2⟩
  case refine_3=>
   refine h'.fj o (Nat.lt_of_not_le fun hle=>?_)
   obtain⟨B,hB⟩:=VR.refs _ _ o k2 ho
   rw[h.nx o hle] at hB;cases hB
  ·have hlt:=World.block_lt_of_cell? w ad hu
   have hno:¬ ∃ o ob,assoc s.heap o=some ob∧aV σ o=some ad.block:=fun hx=>hf (.inr hx)
   refine⟨by rw[World.cell?_of_block (w:=w) (hown ad.block hlt hno)];exact hu,?_⟩
   rintro (hx | ⟨o,ob,ho,hb⟩)
   ·exact hf (.inl hx)
   ·rcases hobj o ob _ ho hb with h1 | h1
    ·exact hno h1
    ·omega
  ·have hlt:=(Array.getElem?_eq_some_iff.1 hu).1
   have hno:¬ ∃ o ob,assoc s.heap o=some ob∧aV σ o=some r:=fun hx=>hf (.inr hx)
   refine⟨by rw[hown r hlt hno];exact hu,?_⟩
   rintro (hx | ⟨o,ob,ho,hb⟩)
   ·exact hf (.inl hx)
   ·rcases hobj o ob _ ho hb with h1 | h1
    ·exact hno h1
    ·omega
 ·intro o ob ho
  obtain⟨B,m1,m2,m3,m4,m5⟩:=h'.obj o ob ho
  refine⟨B,m1,m2,m3,m4,fun b hb=>?_⟩
  obtain⟨cur,n1,n2,n3,n4,n5,n6⟩:=m5 b hb
  refine⟨cur,n1,n2,n3,?_,n5,n6⟩
  rcases n4 with n4 | n4
  ·exact (rk h n4).2.2
  ·exact .inr (Nat.le_trans h.size n4)
 ·rcases Nat.lt_or_ge o s.nx with hlt | hge
  ·rw[h'.fj o hlt] at hB;exact h.new o B b ho hB hb
  ·rcases h'.new o B b hge hB hb with n4 | n4
   ·exact (rk h n4).2.2
   ·exact .inr (Nat.le_trans h.size n4)
end
end Go.Can
