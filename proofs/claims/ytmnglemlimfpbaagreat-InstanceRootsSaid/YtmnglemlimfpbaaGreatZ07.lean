/- What may be said anew of a state: entries forgotten, objects become immutable, a nil slice becomes an object of one's own; the rules by which walks are typed. No function of the program is mentioned here. | The forms in which walks are typed: rules at the head of a sequence, encoders of lists, what simp may open. No function of the program is mentioned here. | Rules whose premises simp alone carri -/
import Derived.Test.YtmnglemlimfpbaaGreatZ06
namespace Go.Can
open Go.RowKit
def Le (C:Cx)(s s':St):Prop:=∀ (a:Act) (w:World),Rel C s a w→Rel C s' a w
section
variable {C:Cx}
theorem Le.refl (s:St):Le C s s:=fun _ _ h=>h
theorem Le.trans {s s' s'':St}(h:Le C s s')(k:Le C s' s''):Le C s s'':=fun a w hr=>k a w (h a w hr)
def pick {α:Type}(l:List (Nat×α)):List Nat→List (Nat×α)
 | []=>[]
 | t::r=>match assoc l t with
  | some c=>(t,c)::pick l r
  | none=>pick l r
theorem dY {α:Type}(l:List (Nat×α)):∀ (ks:List Nat) (t:Nat) (c:α),assoc (pick l ks) t=some c→assoc l t=some c
 | [],_,_,h=>by simp[pick,assoc] at h
 | k::r,t,c,h=>by
  simp only[pick] at h
  split at h
  ·rename_i x hx
   simp only[assoc] at h
   split at h
   ·rename_i e;subst e;cases h;exact hx
   ·exact dY l r t c h
  ·exact dY l r t c h
mutual
def aG (n:Nat):CV→Bool
 | .iter o _ _=>decide (o<n)
 | .mp o _=>decide (o<n)
 | .bw o _ _=>decide (o<n)
 | .aq o _=>decide (o<n)
 | .agg cs=>aC n cs
 | .fn _ cs=>aC n cs
 | .iface _ cs=>aC n cs
 | .df cs=>aC n cs
 | _=>true
def aC (n:Nat):List CV→Bool
 | []=>true
 | c::cs=>aG n c && aC n cs
end
mutual
theorem jj (n:Nat):∀ (c:CV) (o:Nat),aG n c=true→aL o c=false→o<n
 | .bw p _ _,o,h,hr=>by
  have:p=o:=by simpa [aL] using hr
  subst this;simpa [aG] using h
 | .aq p _,o,h,hr=>by
  have:p=o:=by simpa [aL] using hr
  subst this;simpa [aG] using h
 | .agg cs,o,h,hr=>dV n cs o (by simpa [aG] using h) (by simpa [aL] using hr)
 | .fn _ cs,o,h,hr=>dV n cs o (by simpa [aG] using h) (by simpa [aL] using hr)
 | .iface _ cs,o,h,hr=>dV n cs o (by simpa [aG] using h) (by simpa [aL] using hr)
 | .df cs,o,h,hr=>dV n cs o (by simpa [aG] using h) (by simpa [aL] using hr)
 | .int _ _,_,_,hr=>by simp[aL] at hr
 | .bool _,_,_,hr=>by simp[aL] at hr
 | .str _,_,_,hr=>by simp[aL] at hr
 | .ax _ _,_,_,hr=>by simp[aL] at hr
 | .ai,_,_,hr=>by simp[aL] at hr
 | .cq _,_,_,hr=>by simp[aL] at hr
 | .br,_,_,hr=>by simp[aL] at hr
 | .b9,_,_,hr=>by simp[aL] at hr
 | .iter p _ _,o,h,hr=>by
  simp only[aL,bne_eq_false_iff_eq] at hr
  subst hr
  simpa [aG] using h
 | .mp p _,o,h,hr=>by
  simp only[aL,bne_eq_false_iff_eq] at hr
  subst hr
  simpa [aG] using h
theorem dV (n:Nat):∀ (cs:List CV) (o:Nat),aC n cs=true→dw o cs=false→o<n
 | [],_,_,hr=>by simp[dw] at hr
 | c::cs,o,h,hr=>by
  simp only[aC,Bool.and_eq_true] at h
  simp only[dw,Bool.and_eq_false_iff] at hr
  rcases hr with hr | hr
  ·exact jj n c o h.1 hr
  ·exact dV n cs o h.2 hr
end
def St.trim (s:St)(ks os:List Nat)(n:Nat):St:=⟨pick s.env ks,pick s.heap os,n⟩
def rC (s:St)(ks os:List Nat)(n:Nat):Bool:=
 (pick s.env ks).all (fun x=>aG n x.2) && (pick s.heap os).all fun x=>decide (x.1<n) && aC n x.2.cells
theorem Le.trim {s:St}(ks os:List Nat)(n:Nat)(h:rC s ks os n=true)(hn0:C.n0≤n):Le C s (s.trim ks os n):=by
 intro a w ⟨σ,hr⟩
 simp only[rC,Bool.and_eq_true] at h
 obtain⟨h1,h2⟩:=h
 rw[List.all_eq_true] at h1 h2
 have hs:∀ {o},o<n→(if o<n then σ o else none)=σ o:=fun {o} ho=>by rw[if_pos ho]
 have hF:∀ b,FB C (fun o=>if o<n then σ o else none) (pick s.heap os) b→FB C σ s.heap b:=by
  rintro b (hb | ⟨o,ob,ho,hb⟩)
  ·exact .inl hb
  ·have:=h2 _ (a7 _ _ _ ho)
   simp only[Bool.and_eq_true,decide_eq_true_eq] at this
   simp only[aJ,hs this.1] at hb
   exact .inr ⟨o,ob,dY _ _ _ _ ho,hb⟩
 have hk:bO w w (FB C σ s.heap) (FB C (fun o=>if o<n then σ o else none) (pick s.heap os)):=⟨fun ad u hf hu=>⟨hu,fun h=>hf (hF _ h)⟩,fun r _ hf hu _=>⟨hu,fun h=>hf (hF _ h)⟩⟩
 refine⟨fun o=>if o<n then σ o else none,hr.kO,hr.tm,hr.os,hr.tape,hr.output,hr.size,hr.frame,?_,?_,?_,?_,fun o ho=>by rw[hs (Nat.lt_of_lt_of_le ho hn0)];exact hr.ek o ho,hn0,fun o B b ho hB hb=>?_⟩
 ·intro t c hc
  have hm:=h1 _ (a7 _ _ _ hc)
  obtain⟨v,k1,k2⟩:=hr.env t c (dY _ _ _ _ hc)
  exact⟨v,k1,VR.keep hk c v (fun o ho=>hs (jj n c o hm ho)) k2⟩
 ·intro o ob ho
  have hm:=h2 _ (a7 _ _ _ ho)
  simp only[Bool.and_eq_true,decide_eq_true_eq] at hm
  obtain⟨B,m1,m2,m3,m4,m5⟩:=hr.obj o ob (dY _ _ _ _ ho)
  refine⟨B,by simp only[hs hm.1];exact m1,m2,m3,m4,fun b hb=>?_⟩
  obtain⟨cur,n1,n2,n3,n4,n5,n6⟩:=m5 b hb
  exact⟨cur,n1,n2,n3,n4,n5,aQ.keep hk _ _ (fun p hp=>hs (dV n _ p hm.2 hp)) n6⟩
 ·intro o o' ob ob' b ho ho' hb hb'
  have hm:=h2 _ (a7 _ _ _ ho)
  have hm':=h2 _ (a7 _ _ _ ho')
  simp only[Bool.and_eq_true,decide_eq_true_eq] at hm hm'
  simp only[aJ,hs hm.1] at hb
  simp only[aJ,hs hm'.1] at hb'
  exact hr.inj o o' ob ob' b (dY _ _ _ _ ho) (dY _ _ _ _ ho') hb hb'
 ·intro o ho
  simp only[St.trim] at ho
  rw[if_neg (by omega)]
 ·split at hB
  ·exact hr.new o B b ho hB hb
  ·cases hB
theorem Le.env {s:St}(ks:List Nat):Le C s { s with env:=pick s.env ks }:=by
 intro a w ⟨σ,hr⟩
 exact⟨σ,hr.kO,hr.tm,hr.os,hr.tape,hr.output,hr.size,hr.frame,fun t c hc=>hr.env t c (dY _ _ _ _ hc),hr.obj,hr.inj,hr.nx,hr.ek,hr.low,hr.new⟩
mutual
def cm (o:Nat)(cells:List CV)(sz:Nat):CV→CV
 | .bw p off n=>if p=o then .ax ((cells.drop off).take (n*sz)) n else .bw p off n
 | .aq p off=>if p=o then .cq (cells.drop off) else .aq p off
 | .agg cs=>.agg (gP o cells sz cs)
 | .fn f cs=>.fn f (gP o cells sz cs)
 | .iface f cs=>.iface f (gP o cells sz cs)
 | .df cs=>.df (gP o cells sz cs)
 | .int k n=>.int k n
 | .bool b=>.bool b
 | .str b=>.str b
 | .ax cs n=>.ax cs n
 | .ai=>.ai
 | .cq cs=>.cq cs
 | .br=>.br
 | .b9=>.b9
 | .iter k s p=>.iter k s p
 | .mp k es=>.mp k es
 | .any=>.any
def gP (o:Nat)(cells:List CV)(sz:Nat):List CV→List CV
 | []=>[]
 | c::cs=>cm o cells sz c::gP o cells sz cs
end
theorem Gz {o:Nat}{cells:List CV}{sz:Nat}:∀ c,one (cm o cells sz c)=one c
 | .bw p off n=>by simp only[cm];split<;>rfl
 | .aq p off=>by simp only[cm];split<;>rfl
 | .agg _=>rfl
 | .fn _ _=>rfl
 | .iface _ _=>rfl
 | .df _=>rfl
 | .int _ _=>rfl
 | .bool _=>rfl
 | .str _=>rfl
 | .ax _ _=>rfl
 | .ai=>rfl
 | .any=>rfl
 | .cq _=>rfl
 | .br=>rfl
 | .b9=>rfl
 | .iter _ _ _=>rfl
 | .mp _ _=>rfl
theorem sQ {o:Nat}{cells:List CV}{sz:Nat}:∀ cs:List CV,(gP o cells sz cs).all one=cs.all one
 | []=>rfl
 | c::cs=>by simp only[gP,List.all_cons,Gz,sQ cs]
theorem nY {o:Nat}{cells:List CV}{sz:Nat}:∀ cs:List CV,(gP o cells sz cs).length=cs.length
 | []=>rfl
 | c::cs=>by simp only[gP,List.length_cons,nY cs]
def um (o:Nat)(cells:List CV)(sz:Nat):List (Nat×CV)→List (Nat×CV)
 | []=>[]
 | (t,c)::r=>(t,cm o cells sz c)::um o cells sz r
def qM (o:Nat)(cells:List CV)(sz:Nat):List (Nat×Ob)→List (Nat×Ob)
 | []=>[]
 | (p,x)::r=>if p=o then qM o cells sz r else (p,{ x with cells:=gP o cells sz x.cells })::qM o cells sz r
def St.eM (s:St)(o:Nat)(ob:Ob):St:=⟨um o ob.cells ob.sz s.env,qM o ob.cells ob.sz s.heap,s.nx⟩
theorem tg {o:Nat}{cells:List CV}{sz:Nat}:∀ (l:List (Nat×CV)) (t:Nat) (c:CV),assoc (um o cells sz l) t=some c→∃ d,assoc l t=some d∧c=cm o cells sz d
 | [],_,_,h=>by simp[um,assoc] at h
 | (k,x)::r,t,c,h=>by
  simp only[um,assoc] at h ⊢
  split at h
  ·rename_i e;rw[if_pos e];cases h;exact⟨x,rfl,rfl⟩
  ·rename_i e;rw[if_neg e];exact tg r t c h
theorem fo {o:Nat}{cells:List CV}{sz:Nat}:∀ (l:List (Nat×Ob)) (p:Nat) (x:Ob),assoc (qM o cells sz l) p=some x→p≠o∧∃ y,assoc l p=some y∧x={ y with cells:=gP o cells sz y.cells }
 | [],_,_,h=>by simp[qM,assoc] at h
 | (k,y)::r,p,x,h=>by
  simp only[qM] at h
  split at h
  ·rename_i hk
   obtain⟨h1,z,h2,h3⟩:=fo r p x h
   refine⟨h1,z,?_,h3⟩
   simp only[assoc]
   rw[if_neg (fun e=>h1 (by rw[← e,hk]))];exact h2
  ·rename_i hk
   simp only[assoc] at h
   split at h
   ·rename_i e
    cases h
    subst e
    exact⟨hk,y,by simp[assoc],rfl⟩
   ·rename_i e
    obtain⟨h1,z,h2,h3⟩:=fo r p x h
    exact⟨h1,z,by simp only[assoc];rw[if_neg e];exact h2,h3⟩
section
variable {w:World}{F F':Nat→Prop}{σ:Nat→Option OB}{o sz:Nat}{cells:List CV}{B:OB}
mutual
theorem AP (hk:bO w w F F')(hB:σ o=some B)(hsz:B.sz=sz)(hm:∀ b,B.gK=some b→∀ k,eX w F' (cells.drop k) ⟨b,k,none⟩):∀ (c:CV) (v:Value),VR w F σ c v→VR w F' σ (cm o cells sz c) v
 | .bw p off n,v,hv=>by
  simp only[cm]
  split
  ·rename_i e;subst e
   simp only[VR] at hv
   obtain⟨B',hB',hv⟩:=hv
   rw[hB] at hB';cases hB'
   split at hv
   ·obtain⟨rfl,rfl,rfl⟩:=hv
    simp only[VR,bM]
    exact⟨none,0,rfl,Nat.le_refl _,Nat.zero_le _,.inl ⟨trivial,by simp⟩⟩
   ·rename_i b hb
    obtain⟨cap,rfl,h1,h2,_⟩:=hv
    simp only[VR,bM]
    exact⟨_,cap,rfl,h1,h2,.inr ⟨_,rfl,eX.take _ _ _ (hm b hb off)⟩⟩
  ·exact VR.keep hk _ _ (fun _ _=>rfl) hv
 | .aq p off,v,hv=>by
  simp only[cm]
  split
  ·rename_i e;subst e
   simp only[VR] at hv
   obtain⟨B',b,hB',hb,rfl⟩:=hv
   rw[hB] at hB';cases hB'
   simp only[VR,bM]
   exact⟨_,rfl,hm b hb off⟩
  ·exact VR.keep hk _ _ (fun _ _=>rfl) hv
 | .agg cs,v,hv=>by
  simp only[cm,VR] at hv ⊢
  obtain⟨vs,e,r,h1⟩:=hv
  exact⟨vs,e,kJ hk hB hsz hm cs vs r,by rw[sQ];exact h1⟩
 | .fn f cs,v,hv=>by
  simp only[cm,VR] at hv ⊢
  obtain⟨vs,e,r⟩:=hv
  exact⟨vs,e,kJ hk hB hsz hm cs vs r⟩
 | .iface f cs,v,hv=>by
  simp only[cm,VR] at hv ⊢
  obtain⟨vs,e,r⟩:=hv
  exact⟨vs,e,kJ hk hB hsz hm cs vs r⟩
 | .df cs,v,hv=>by
  simp only[cm,VR] at hv ⊢
  obtain⟨vs,e,r⟩:=hv
  exact⟨vs,e,kJ hk hB hsz hm cs vs r⟩
 | .int k n,v,hv=>by simp only[cm];exact VR.keep hk _ _ (fun _ _=>rfl) hv
 | .bool b,v,hv=>by simp only[cm];exact VR.keep hk _ _ (fun _ _=>rfl) hv
 | .str b,v,hv=>by simp only[cm];exact VR.keep hk _ _ (fun _ _=>rfl) hv
 | .ax cs n,v,hv=>by simp only[cm];exact VR.keep hk _ _ (fun _ _=>rfl) hv
 | .ai,v,hv=>by simp only[cm];exact VR.keep hk _ _ (fun _ _=>rfl) hv
 | .cq cs,v,hv=>by simp only[cm];exact VR.keep hk _ _ (fun _ _=>rfl) hv
 | .br,v,hv=>by simp only[cm];exact VR.keep hk _ _ (fun _ _=>rfl) hv
 | .b9,v,hv=>by simp only[cm];exact VR.keep hk _ _ (fun _ _=>rfl) hv
 | .iter _ _ _,v,hv=>by simp only[cm];exact VR.keep hk _ _ (fun _ _=>rfl) hv
 | .mp _ _,v,hv=>by simp only[cm];exact VR.keep hk _ _ (fun _ _=>rfl) hv
 | .any,v,hv=>by simpa [cm,VR] using hv
theorem kJ (hk:bO w w F F')(hB:σ o=some B)(hsz:B.sz=sz)(hm:∀ b,B.gK=some b→∀ k,eX w F' (cells.drop k) ⟨b,k,none⟩):∀ (cs:List CV) (vs:List Value),aQ w F σ cs vs→aQ w F' σ (gP o cells sz cs) vs
 | [],_,hv=>by simpa [gP,aQ] using hv
 | c::cs,vs,hv=>by
  simp only[gP,aQ] at hv ⊢
  obtain⟨v,r,e,h1,h2⟩:=hv
  exact⟨v,r,e,AP hk hB hsz hm c v h1,kJ hk hB hsz hm cs r h2⟩
end
end
theorem aH.eM {C:Cx}{σ:Nat→Option OB}{a:Act}{w:World}{s:St}(hr:aH C σ s a w){o:Nat}{ob:Ob}(ho:assoc s.heap o=some ob)(ht:trees ob.cells=true):aH C σ (s.eM o ob) a w:=by
 obtain⟨B,hB,hsz,hn,h1,h5⟩:=hr.obj o ob ho
 have hF:∀ b,FB C σ (qM o ob.cells ob.sz s.heap) b→FB C σ s.heap b:=by
  rintro b (hb | ⟨p,x,hp,hb⟩)
  ·exact .inl hb
  ·obtain⟨_,y,hy,_⟩:=fo _ _ _ hp
   exact .inr ⟨p,y,hy,hb⟩
 have hk:bO w w (FB C σ s.heap) (FB C σ (qM o ob.cells ob.sz s.heap)):=⟨fun ad u hf hu=>⟨hu,fun h=>hf (hF _ h)⟩,fun r _ hf hu _=>⟨hu,fun h=>hf (hF _ h)⟩⟩
 have hm:∀ b,B.gK=some b→∀ k,eX w (FB C σ (qM o ob.cells ob.sz s.heap)) (ob.cells.drop k) ⟨b,k,none⟩:=fun b hb k=>by
  obtain⟨cur,k1,k2,k3,k4,k5,k6⟩:=h5 b hb
  have hnb:¬ FB C σ (qM o ob.cells ob.sz s.heap) b:=by
   rintro (hf | ⟨p,x,hp,hbp⟩)
   ·exact k3 hf
   ·obtain⟨hne,y,hy,_⟩:=fo _ _ _ hp
    exact hne (hr.inj p o y ob b hy ho hbp (by simp[aJ,hB,hb]))
  have h2:eX w (FB C σ (qM o ob.cells ob.sz s.heap)) ob.cells ⟨b,0,none⟩:=gH _ _ _ (bx.keep hk.1 _ _ (aQ.dN _ _ ht k6)) h1 hnb fun j u hu=>by
   rw[add_lit,Nat.zero_add,cell_of_row w b j cur _ _ k1]
   rw[List.getElem?_take] at hu
   split at hu
   ·simpa using hu
   ·cases hu
  have:=h2.drop k
  rwa [add_lit,Nat.zero_add] at this
 refine⟨hr.kO,hr.tm,hr.os,hr.tape,hr.output,hr.size,hr.frame,?_,?_,?_,hr.nx,hr.ek,hr.low,hr.new⟩
 ·intro t c hc
  obtain⟨d,hd,rfl⟩:=tg _ _ _ hc
  obtain⟨v,k1,k2⟩:=hr.env t d hd
  exact⟨v,k1,AP hk hB hsz hm d v k2⟩
 ·intro p x hp
  obtain⟨hne,y,hy,rfl⟩:=fo _ _ _ hp
  obtain⟨B',m1,m2,m3,m4,m5⟩:=hr.obj p y hy
  refine⟨B',m1,m2,fun hn=>?_,by rw[sQ];exact m4,fun b hb=>?_⟩
  ·rw[m3 hn];rfl
  ·obtain⟨cur,n1,n2,n3,n4,n5,n6⟩:=m5 b hb
   refine⟨cur,n1,n2,n3,n4,by rw[nY];exact n5,?_⟩
   rw[nY]
   exact kJ hk hB hsz hm _ _ n6
 ·intro p q x y b hp hq hb hb'
  obtain⟨_,x',hx,_⟩:=fo _ _ _ hp
  obtain⟨_,y',hy,_⟩:=fo _ _ _ hq
  exact hr.inj p q x' y' b hx hy hb hb'
theorem Le.eM {s:St}{o:Nat}{ob:Ob}(ho:assoc s.heap o=some ob)(ht:trees ob.cells=true):Le C s (s.eM o ob):=fun _ _ ⟨σ,hr⟩=>⟨σ,hr.eM ho ht⟩
def St.own (s:St)(t:Nat)(e:TypeId)(sz:Nat):St:={ env:=ou s.env t (.bw s.nx 0 0),heap:=(s.nx,⟨e,sz,[]⟩)::s.heap,nx:=s.nx+1 }
theorem Le.own {s:St}(t:Nat)(e:TypeId)(sz:Nat)(ht:assoc s.env t=some .ai):Le C s (s.own t e sz):=by
 intro a w ⟨σ,hr⟩
 obtain⟨h1,h2⟩:=hr.fresh (World.grownBy.refl w none) (ob:=⟨e,sz,[]⟩) (B:=⟨none,0,sz⟩) rfl rfl (fun _=>rfl) (fun b hb=>by cases hb)
 refine⟨_,h1.kO,h1.tm,h1.os,h1.tape,h1.output,h1.size,h1.frame,?_,h1.obj,h1.inj,h1.nx,h1.ek,h1.low,h1.new⟩
 intro u c hc
 simp only[St.own] at hc
 rw[eD] at hc
 split at hc
 ·rename_i eu;subst eu
  rw[ht] at hc
  simp only[Option.map_some,Option.some.injEq] at hc
  subst hc
  obtain⟨v,k1,k2⟩:=hr.env t _ ht
  simp only[VR] at k2
  subst k2
  refine⟨_,k1,?_⟩
  simp only[VR]
  exact⟨_,dc,by simp⟩
 ·exact h1.env u c hc
section
variable {P:Program}{C:Cx}{s:St}{ops:Array Oper}{aj:List (Nat×TI)}
theorem T.le {s':St}{c:Code}{Q:Exit→St→Prop}(h:Le C s s')(ht:T P C c s' Q):T P C c s Q:=fun a w hr=>ht a w (h a w hr)
theorem T.post {c:Code}{Q Q':Exit→St→Prop}(h:T P C c s Q')(hq:∀ e s',Q' e s'→∃ s'',Q e s''∧Le C s' s''):T P C c s Q:=fun a w hr=>
 wp_mono (h a w hr) fun e a' w' ⟨s',q,r⟩=>by
  obtain⟨s'',q',l⟩:=hq e s' q
  exact⟨s'',q',l a' w' r⟩
theorem TL.le {s':St}{l:List Oper}{K:St→Prop}(h:Le C s s')(ht:TL P C ops l s' K):TL P C ops l s K:=fun a w Q hr hQ=>ht a w Q (h a w hr) hQ
def ae (C:Cx)(I:St→Prop)(s:St):Prop:=∃ s',I s'∧Le C s s'
theorem T.aS {c:Code}{Q:Exit→St→Prop}(I:Nat→St→Prop){n:Nat}(h₀:ae C (I n) s)(round:∀ n s,I n s→T P C c s (thenS (fun s'=>∃ m,m<n∧ae C (I m) s') Q)):T P C (.loop c) s Q:=by
 obtain⟨s',h0,l0⟩:=h₀
 refine T.le l0 (T.loop I h0 fun n s hi=>T.post (round n s hi) fun e s' q=>?_)
 cases e with
 | normal=>
  obtain⟨m,hm,s'',hi,hl⟩:=q
  exact⟨s'',⟨m,hm,hi⟩,hl⟩
 | _=>exact⟨s',q,Le.refl _⟩
def IH (C:Cx)(aj:List (Nat×TI))(f:Func)(r:CV):Exit→St→Prop
 | .normal,s=>ae C (fun s=>bb aj f s=some r) s
 | .ret,s=>ae C (fun s=>bb aj f s=some r) s
 | _,_=>False
theorem ah.bl (ht0 : aF P aj) {f : FuncId} {fn : Func} {c : Code} {args : List CV} {r : CV} (hf : P.funcs[f]? = some fn) (hb : fn.body = some c) (hn : (fn.name == "runtime.NumGoroutine") = false)
  (ha:args.length≤fn.ntmps) (ht:tree r=true) (h:∀ C:Cx,C.nt=fn.ntmps→C.n0=0→T P C c (enter args) (IH C aj fn r)):ah P f args r:=
 ah.iN ht0 hf hb hn ha ht fun C hC hC0=>T.post (h C hC hC0) fun e s' q=>by
  cases e with
  | normal=>exact q
  | ret=>exact q
  | _=>exact q.elim
def wc (o:Oper):Bool:=match o.op with
 | .call c=>match c.callee with
  | .builtin _=>false
  | _=>true
 | _=>false
def bK (ops:Array Oper)(s:St)(o:Oper):Option Bool:=match o.guard with
 | none=>some true
 | some (j,want)=>match (ops[j]?).bind (·.dst) with
  | none=>none
  | some t=>lb (assoc s.env t) want
def AM (aj:List (Nat×TI))(nt:Nat)(ops:Array Oper)(K:List Oper→St→Prop):List Oper→St→Prop
 | [],s=>K [] s
 | o::r,s=>if wc o then
   match bK ops s o with
   | some false=>sj (AM aj nt ops K r) (eL aj nt ops s o)
   | _=>K (o::r) s
  else sj (AM aj nt ops K r) (eL aj nt ops s o)
theorem Ev (ht:aF P aj){K:St→Prop}:∀ (l:List Oper) (s:St),AM aj C.nt ops (fun r s'=>TL P C ops r s' K) l s→TL P C ops l s K
 | [],_,h=>h
 | o::r,s,h=>by
  have fin:sj (AM aj C.nt ops (fun r s'=>TL P C ops r s' K) r) (eL aj C.nt ops s o)→TL P C ops (o::r) s K:=fun h=>by
   cases hs:eL aj C.nt ops s o with
   | none=>rw[hs] at h;exact h.elim
   | some s'=>rw[hs] at h;exact TL.step ht hs (Ev ht r s' h)
  unfold AM at h
  split at h
  ·split at h
   ·exact fin h
   ·exact h
  ·exact fin h
theorem qv {e:Option CV}{want:Bool}(h:lb e want=some true):e=some (.bool want):=by
 unfold lb at h
 split at h
 ·rename_i b
  simp only[Option.some.injEq,beq_iff_eq] at h;subst h;rfl
 ·cases h
 ·cases h
def fz (aj:List (Nat×TI))(nt:Nat)(ops:Array Oper)(s:St)(o:Oper):Option St:=
 if aW nt o.dst then
  match o.guard with
  | none=>(cQ aj s o.op).map (s.put o.dst)
  | some (j,want)=>match (ops[j]?).bind (·.dst) with
   | none=>none
   | some t=>match lb (assoc s.env t) want with
    | some true=>(cQ aj s o.op).map (s.put o.dst)
    | some false=>some (s.put o.dst (.df []))
    | none=>none
 else none
theorem yd {nt:Nat}{o:Oper}{s':St}(h:fz aj nt ops s o=some s'):∃ r,qG P aj nt ops s o r∧cA s o.dst r=s':=by
 unfold fz at h
 split at h
 ·rename_i hd
  split at h
  ·rename_i hg
   obtain⟨c,hc,rfl⟩:=Option.map_eq_some_iff.1 h
   exact⟨some c,⟨hd,.inr ⟨.inl hg,c,rfl,.inl hc⟩⟩,rfl⟩
  ·rename_i j want hg
   split at h
   ·cases h
   rename_i t hj
   split at h
   ·rename_i hb
    obtain⟨c,hc,rfl⟩:=Option.map_eq_some_iff.1 h
    exact⟨some c,⟨hd,.inr ⟨.inr ⟨j,want,t,hg,hj,qv hb⟩,c,rfl,.inl hc⟩⟩,rfl⟩
   ·rename_i hb
    cases h
    exact⟨some (.df []),⟨hd,.inl ⟨j,want,t,hg,hj,hb,rfl⟩⟩,rfl⟩
   ·cases h
 ·cases h
def AN (aj:List (Nat×TI))(nt:Nat)(ops:Array Oper)(K:List Nat→St→Prop):List Nat→St→Prop
 | [],s=>K [] s
 | i::r,s=>match ops[i]? with
  | none=>False
  | some o=>if wc o then
    match bK ops s o with
    | some false=>sj (AN aj nt ops K r) (fz aj nt ops s o)
    | _=>K (i::r) s
   else sj (AN aj nt ops K r) (fz aj nt ops s o)
theorem Ew {nt:Nat}{K:St→Prop}:∀ (l:List Nat) (s:St),AN aj nt ops (fun r s'=>TH P aj nt ops r s' K) l s→TH P aj nt ops l s K
 | [],_,h=>h
 | i::r,s,h=>by
  unfold AN at h
  split at h
  ·exact h.elim
  rename_i o ho
  have fin:sj (AN aj nt ops (fun r s'=>TH P aj nt ops r s' K) r) (fz aj nt ops s o)→TH P aj nt ops (i::r) s K:=fun h=>by
   cases hs:fz aj nt ops s o with
   | none=>rw[hs] at h;exact h.elim
   | some s'=>
    rw[hs] at h
    obtain⟨x,k1,k2⟩:=yd (P:=P) hs
    exact⟨o,x,ho,k1,by rw[k2];exact Ew r s' h⟩
  split at h
  ·split at h
   ·exact fin h
   ·exact h
  ·exact fin h
theorem TH.call {nt:Nat}{K:St→Prop}{i:Nat}{r:List Nat}{o:Oper}{c:Call}{x:CV}(hi:ops[i]? = some o)(hd:aW nt o.dst=true)(hg:bK ops s o=some true)(ho:o.op=.call c)(hc:aI P s c x)(h:TH P aj nt ops r (s.put o.dst x) K) :
  TH P aj nt ops (i::r) s K:=by
 refine⟨o,some x,hi,⟨hd,.inr ⟨?_,x,rfl,.inr ⟨c,ho,hc⟩⟩⟩,h⟩
 unfold bK at hg
 split at hg
 ·rename_i e;exact .inl e
 ·rename_i j want e
  split at hg
  ·cases hg
  rename_i t hj
  exact .inr ⟨j,want,t,e,hj,qv hg⟩
end
end
end Go.Can
namespace Go.Can
open Go.RowKit
section
variable {P:Program}{C:Cx}{s:St}{ops:Array Oper}{aj:List (Nat×TI)}{Q:Exit→St→Prop}{x y z:Code}
theorem T.cond_true {c:Operand}(hc:ev s c=some (.bool true))(h:T P C x s Q):T P C (.cond c x y) s Q:=T.cond hc (by simpa using h)
theorem T.cond_false {c:Operand}(hc:ev s c=some (.bool false))(h:T P C y s Q):T P C (.cond c x y) s Q:=T.cond hc (by simpa using h)
theorem T.bf {c:Operand}{b:Bool}(hc:ev s c=some (.bool b))(h1:b=true→T P C x s Q)(h2:b=false→T P C y s Q):T P C (.cond c x y) s Q:=by
 cases b
 ·exact T.cond_false hc (h2 rfl)
 ·exact T.cond_true hc (h1 rfl)
theorem ae.trim {I:St→Prop}(ks os:List Nat)(n:Nat)(h:rC s ks os n=true)(hn0:C.n0≤n)(hi:I (s.trim ks os n)):ae C I s:=⟨_,hi,Le.trim ks os n h hn0⟩
theorem Le.to {s':St}(ks os:List Nat)(n:Nat)(h:rC s ks os n=true)(hn0:C.n0≤n)(e:s.trim ks os n=s'):Le C s s':=e ▸ Le.trim ks os n h hn0
theorem ae.here {I:St→Prop}(hi:I s):ae C I s:=⟨s,hi,Le.refl s⟩
theorem ae.le {I:St→Prop}{s':St}(h:Le C s s')(hi:ae C I s'):ae C I s:=by
 obtain⟨s'',h1,h2⟩:=hi
 exact⟨s'',h1,h.trans h2⟩
theorem aI.of {c:Call}{g:FuncId}{cs:List CV}{r:CV}(h1:aK s c=some (g,cs))(h2:trees cs=true)(h3:ah P g cs r):aI P s c r:=⟨g,cs,h1,.inl ⟨h2,h3⟩⟩
end
abbrev qP (n:Int):CV:=.int .i64 n
def ints (l:List Int):CV:=.ax (l.map qP) l.length
theorem BY (o:Nat)(cs:List CV):dw o cs=cs.all (aL o):=by
 induction cs with
 | nil=>rfl
 | cons c cs ih=>simp[dw,ih]
theorem aD (n:Nat)(cs:List CV):aC n cs=cs.all (aG n):=by
 induction cs with
 | nil=>rfl
 | cons c cs ih=>simp[aC,ih]
theorem C6 (cs:List CV):trees cs=cs.all tree:=by
 induction cs with
 | nil=>rfl
 | cons c cs ih=>simp[trees,ih]
theorem EC (o:Nat)(cells:List CV)(sz:Nat)(cs:List CV):gP o cells sz cs=cs.map (cm o cells sz):=by
 induction cs with
 | nil=>rfl
 | cons c cs ih=>simp[gP,ih]
theorem zk (cs:List CV):kW cs=cs.all scalar:=by
 induction cs with
 | nil=>rfl
 | cons c cs ih=>simp[kW,ih]
theorem EB (o:Nat)(c:List CV)(z:Nat)(l:List Int):cm o c z (ints l)=ints l:=rfl
theorem zL (o:Nat)(c:List CV)(z:Nat):cm o c z∘ints=ints:=rfl
theorem Cg (o:Nat)(c:List CV)(z:Nat):cm o c z∘qP=qP:=rfl
theorem zM (o:Nat)(c:List CV)(z:Nat):cm o c z∘CV.bool=CV.bool:=rfl
theorem zA (o:Nat)(l:List Int):aL o (ints l)=true:=rfl
theorem xE (o:Nat)(l:List Int):aG o (ints l)=true:=rfl
theorem fv (l:List Int):tree (ints l)=true:=rfl
theorem vU (o:Nat):aL o∘ints=fun _=>true:=rfl
theorem xR (o:Nat):aL o∘qP=fun _=>true:=rfl
theorem vV (o:Nat):aL o∘CV.bool=fun _=>true:=rfl
theorem tU (o:Nat):aG o∘ints=fun _=>true:=rfl
theorem vH (o:Nat):aG o∘qP=fun _=>true:=rfl
theorem tV (o:Nat):aG o∘CV.bool=fun _=>true:=rfl
theorem xm:tree∘ints=fun _=>true:=rfl
theorem zd:tree∘qP=fun _=>true:=rfl
theorem xn:tree∘CV.bool=fun _=>true:=rfl
theorem zH (l:List Int):dF (ints l)=false:=rfl
theorem zY (l:List Int):(ints l).cells=[ints l]:=rfl
theorem yj {α:Type}(o:Nat)(c:List CV)(z:Nat)(f:α→List Int):cm o c z∘ints∘f=ints∘f:=rfl
theorem uh {α:Type}(o:Nat)(f:α→List Int):aL o∘ints∘f=fun _=>true:=rfl
theorem rW {α:Type}(o:Nat)(f:α→List Int):aG o∘ints∘f=fun _=>true:=rfl
theorem vq {α:Type}(f:α→List Int):tree∘ints∘f=fun _=>true:=rfl
theorem zK {α:Type}(o:Nat)(c:List CV)(z:Nat)(f:α→Int):cm o c z∘qP∘f=qP∘f:=rfl
theorem vT {α:Type}(o:Nat)(f:α→Int):aL o∘qP∘f=fun _=>true:=rfl
theorem tT {α:Type}(o:Nat)(f:α→Int):aG o∘qP∘f=fun _=>true:=rfl
theorem xk {α:Type}(f:α→Int):tree∘qP∘f=fun _=>true:=rfl
theorem uk {α:Type}(o:Nat)(c:List CV)(z:Nat)(f:α→Bool):cm o c z∘CV.bool∘f=CV.bool∘f:=rfl
theorem qL {α:Type}(o:Nat)(f:α→Bool):aL o∘CV.bool∘f=fun _=>true:=rfl
theorem pQ {α:Type}(o:Nat)(f:α→Bool):aG o∘CV.bool∘f=fun _=>true:=rfl
theorem rF {α:Type}(f:α→Bool):tree∘CV.bool∘f=fun _=>true:=rfl
attribute [simp] yj uh rW vq zK vT tT xk uk qL pQ rF
attribute [simp] EB zL Cg zM zA xE
attribute [simp] fv vU xR vV tU vH tV xm zd xn
attribute [simp] zH zY
@[simp] theorem He (k:IntKind)(n:Int):dF (.int k n:CV)=false:=rfl
@[simp] theorem Ht (k:IntKind)(n:Int):CV.cells (.int k n:CV)=[(.int k n:CV)]:=rfl
@[simp] theorem Gu (b:Bool):dF (.bool b:CV)=false:=rfl
@[simp] theorem GM (b:Bool):CV.cells (.bool b:CV)=[(.bool b:CV)]:=rfl
@[simp] theorem Hb (b:ByteArray):dF (.str b:CV)=false:=rfl
@[simp] theorem Hq (b:ByteArray):CV.cells (.str b:CV)=[(.str b:CV)]:=rfl
@[simp] theorem Ha (cs:List CV)(n:Nat):dF (.ax cs n:CV)=false:=rfl
@[simp] theorem Hp (cs:List CV)(n:Nat):CV.cells (.ax cs n:CV)=[(.ax cs n:CV)]:=rfl
@[simp] theorem Fx  : dF (.ai:CV)=false:=rfl
@[simp] theorem FG  : CV.cells (.ai:CV)=[(.ai:CV)]:=rfl
@[simp] theorem Gr (cs:List CV):dF (.cq cs:CV)=false:=rfl
@[simp] theorem GK (cs:List CV):CV.cells (.cq cs:CV)=[(.cq cs:CV)]:=rfl
@[simp] theorem D8  : dF (.br:CV)=false:=rfl
@[simp] theorem E3  : CV.cells (.br:CV)=[(.br:CV)]:=rfl
@[simp] theorem Iw (f:FuncId)(cs:List CV):dF (.fn f cs:CV)=false:=rfl
@[simp] theorem IY (f:FuncId)(cs:List CV):CV.cells (.fn f cs:CV)=[(.fn f cs:CV)]:=rfl
@[simp] theorem Fy  : dF (.b9:CV)=false:=rfl
@[simp] theorem FH  : CV.cells (.b9:CV)=[(.b9:CV)]:=rfl
@[simp] theorem Hc (o f n:Nat):dF (.bw o f n:CV)=false:=rfl
@[simp] theorem Hr (o f n:Nat):CV.cells (.bw o f n:CV)=[(.bw o f n:CV)]:=rfl
@[simp] theorem Gt (o f:Nat):dF (.aq o f:CV)=false:=rfl
@[simp] theorem GL (o f:Nat):CV.cells (.aq o f:CV)=[(.aq o f:CV)]:=rfl
@[simp] theorem Iv (k:Nat)(es:List (Value×Value)):dF (.mp k es:CV)=false:=rfl
@[simp] theorem Hf (cs:List CV):dF (.agg cs)=false:=rfl
@[simp] theorem Hu (cs:List CV):CV.cells (.agg cs)=cs:=rfl
@[simp] theorem G9 (cs:List CV):dF (.df cs)=true:=rfl
@[simp] theorem Ho (cs:List CV):CV.cells (.df cs)=[.df cs]:=rfl
attribute [simp] BY aD C6 EC zk
attribute [simp] aL aG tree cm scalar one
attribute [simp] assoc gD ou St.put St.del ev ym rq eB iC
attribute [simp] lb eL jX Df cQ aW fz wc bK AM AN sj BC rI
attribute [simp] Bl zZ arith cun gF GJ dm ko Iz imax sW
attribute [simp] wM rv fa lG TI.agg mu St.new Bf wR E5 iD fQ lu wO kk fE qd mV
attribute [simp] mX cells? Bk zS
attribute [simp] aK zF oS enter bb jT nA mg pick St.trim rC St.eM um qM St.own
attribute [simp] eA kS wQ
attribute [simp] List.head?_drop
end Go.Can
namespace Go.Can
open Go.RowKit
section
variable {P:Program}{C:Cx}{s:St}{ops:Array Oper}{aj:List (Nat×TI)}{Q:Exit→St→Prop}{x y z:Code}
/- simp looks at the state alone, never at the code. -/
@[congr] theorem T_congr {s s':St}{c:Code}(h:s=s'):T P C c s Q=T P C c s' Q:=by rw[h]
@[congr] theorem TL_congr {s s':St}{l:List Oper}{K:St→Prop}(h:s=s'):TL P C ops l s K=TL P C ops l s' K:=by rw[h]
@[congr] theorem TH_congr {nt:Nat}{s s':St}{l:List Nat}{K:St→Prop}(h:s=s'):TH P aj nt ops l s K=TH P aj nt ops l s' K:=by rw[h]
attribute [simp] thenS oc
def CD (P:Program)(C:Cx)(ops:Array Oper)(K:St→Prop):List Oper→St→Prop
 | [],s=>K s
 | o::r,s=>TL P C ops (o::r) s K
def Jc (P:Program)(aj:List (Nat×TI))(nt:Nat)(ops:Array Oper)(K:St→Prop):List Nat→St→Prop
 | [],s=>K s
 | i::r,s=>TH P aj nt ops (i::r) s K
attribute [simp] CD Jc
theorem TL.go' (ht:aF P aj){K:St→Prop}{l:List Oper}(h:AM aj C.nt ops (CD P C ops K) l s):TL P C ops l s K:=by
 refine Ev ht l s ?_
 have e:CD P C ops K=CD P C ops K:=rfl
 revert h
 have:∀ (l:List Oper) (s:St),AM aj C.nt ops (CD P C ops K) l s→AM aj C.nt ops (fun r s'=>TL P C ops r s' K) l s:=by
  intro l
  induction l with
  | nil=>intro s h;exact TL.nil h
  | cons o r ih=>
   intro s h
   have fin:sj (AM aj C.nt ops (CD P C ops K) r) (eL aj C.nt ops s o)→sj (AM aj C.nt ops (fun r s'=>TL P C ops r s' K) r) (eL aj C.nt ops s o):=fun h=>by
    cases hs:eL aj C.nt ops s o with
    | none=>rw[hs] at h;exact h.elim
    | some s'=>rw[hs] at h;exact ih s' h
   unfold AM at h ⊢
   split
   ·rename_i hc
    rw[if_pos hc] at h
    split
    ·rename_i hg
     rw[hg] at h
     exact fin h
    ·rename_i hg
     split at h
     ·rename_i hg';exact absurd hg' hg
     ·exact h
   ·rename_i hc
    rw[if_neg hc] at h
    exact fin h
 exact this l s
theorem TH.go' {nt:Nat}{K:St→Prop}{l:List Nat}(h:AN aj nt ops (Jc P aj nt ops K) l s):TH P aj nt ops l s K:=by
 refine Ew l s ?_
 revert h
 have:∀ (l:List Nat) (s:St),AN aj nt ops (Jc P aj nt ops K) l s→AN aj nt ops (fun r s'=>TH P aj nt ops r s' K) l s:=by
  intro l
  induction l with
  | nil=>intro s h;exact h
  | cons i r ih=>
   intro s h
   unfold AN at h ⊢
   split
   ·rename_i hi;rw[hi] at h;exact h
   ·rename_i o hi
    rw[hi] at h
    have fin:sj (AN aj nt ops (Jc P aj nt ops K) r) (fz aj nt ops s o)→sj (AN aj nt ops (fun r s'=>TH P aj nt ops r s' K) r) (fz aj nt ops s o):=fun h=>by
     cases hs:fz aj nt ops s o with
     | none=>rw[hs] at h;exact h.elim
     | some s'=>rw[hs] at h;exact ih s' h
    simp only at h
    split
    ·rename_i hc
     rw[if_pos hc] at h
     split
     ·rename_i hg
      rw[hg] at h
      exact fin h
     ·rename_i hg
      split at h
      ·rename_i hg';exact absurd hg' hg
      ·exact h
    ·rename_i hc
     rw[if_neg hc] at h
     exact fin h
 exact this l s
theorem T.go' (ht:aF P aj){id:Nat}{l:List Oper}(h:AM aj C.nt l.toArray (CD P C l.toArray (Q .normal)) l s):T P C (.region id l.toArray false) s Q:=T.region (TL.go' ht h)
def C8 (P:Program)(C:Cx)(aj:List (Nat×TI))(l:List Oper)(tail:List Nat)(K:St→Prop)(s:St):Prop:=AM aj C.nt l.toArray (CD P C l.toArray K) (tail.map (l.toArray.getD · default)) s
theorem T.Hn (ht:aF P aj)(hm:P.follows .mixedOrders=true){id:Nat}{l:List Oper}(pre ord tail:List Nat)(hB:yq l.toArray pre ord tail=true)
  (h:AN aj C.nt l.toArray (Jc P aj C.nt l.toArray (C8 P C aj l tail (Q .normal))) (pre++ord) s):T P C (.region id l.toArray true) s Q:=
 T.draw ht hm pre ord tail hB (TH.G4 (TH.go' h))
where TH.G4 {nt:Nat} {l:List Oper} {tail:List Nat}:∀ {ord:List Nat} {s:St},TH P aj nt l.toArray ord s (C8 P C aj l tail (Q .normal))→TH P aj nt l.toArray ord s (fun s'=>TL P C l.toArray (tail.map (l.toArray.getD · default)) s' (Q .normal))
 | [],_,h=>TL.go' ht h
 | _::_,_,⟨o,r,h1,h2,h3⟩=>⟨o,r,h1,h2,TH.G4 h3⟩
theorem T.cut (J:St→Prop)(h:T P C x s (thenS (ae C J) Q))(k:∀ s',J s'→T P C y s' Q):T P C (.seq x y) s Q:=
 T.seq (T.post h fun e s' q=>by
  cases e with
  | normal=>obtain⟨s'',hj,hl⟩:=q;exact⟨s'',k s'' hj,hl⟩
  | _=>exact⟨s',q,Le.refl _⟩)
end
attribute [simp] C8
end Go.Can
namespace Go.Can
open Go.RowKit
section
variable {P:Program}{C:Cx}{s:St}
def uZ (l:Nat)(J:St→Prop)(Q:Exit→St→Prop):Exit→St→Prop
 | .goto m,s=>m=l∧J s
 | e,s=>Q e s
@[simp] theorem It (l m:Nat)(J:St→Prop)(Q:Exit→St→Prop)(s:St):uZ l J Q (.goto m) s=(m=l∧J s):=rfl
@[simp] theorem Gq (l:Nat)(J:St→Prop)(Q:Exit→St→Prop)(s:St):uZ l J Q .normal s=Q .normal s:=rfl
@[simp] theorem JT (l:Nat)(J:St→Prop)(Q:Exit→St→Prop)(s:St):uZ l J Q .ret s=Q .ret s:=rfl
@[simp] theorem Iu (l m:Nat)(J:St→Prop)(Q:Exit→St→Prop)(s:St):uZ l J Q (.exit m) s=Q (.exit m) s:=rfl
theorem T.FV {c rest:Code}{Q:Exit→St→Prop}(l:Nat)(I:Nat→St→Prop)(hf:findLabel c l=some rest)(first:T P C c s (uZ l (fun s'=>∃ m,ae C (I m) s') Q))
  (pass:∀ n s,I n s→T P C rest s (uZ l (fun s'=>∃ m,m<n∧ae C (I m) s') Q)):T P C (.scope c) s Q:=fun a w hr=>by
 classical
 let J:Nat→Act→World→Prop:=fun n a w=>∃ s,I n s∧Rel C s a w
 have hx:∀ a w,(∃ n,J n a w)→∃ n,J n a w∧∀ m,J m a w→n≤m:=fun a w ⟨n,hn⟩=>by
  induction n using Nat.strongRecOn with
  | _ n ih=>
   by_cases h:∃ m,m<n∧J m a w
   ·obtain⟨m,hm,hi⟩:=h;exact ih m hm hi
   ·exact⟨n,hn,fun m hm=>Nat.le_of_not_lt fun hlt=>h ⟨m,hlt,hm⟩⟩
 let μ:Act→World→Nat:=fun a w=>if h:∃ n,J n a w then (hx a w h).choose else 0
 have hμ:∀ a w (h:∃ n,J n a w),J (μ a w) a w∧∀ m,J m a w→μ a w≤m:=fun a w h=>by
  simp only[μ,dif_pos h];exact (hx a w h).choose_spec
 have up:∀ {n s' a' w'},ae C (I n) s'→Rel C s' a' w'→J n a' w':=fun⟨s'',hi,hl⟩ hr=>⟨s'',hi,hl _ _ hr⟩
 refine wp_scope_jumps l (fun a w=>∃ n,J n a w) μ hf (wp_mono (first a w hr) fun e a' w' q=>?_) fun a w hJ=>?_
 ·obtain⟨s',q,hr'⟩:=q
  cases e with
  | goto m=>obtain⟨e,m,hm⟩:=q;exact⟨e,m,up hm hr'⟩
  | _=>exact⟨s',q,hr'⟩
 ·obtain⟨s1,hi,hr1⟩:=(hμ a w hJ).1
  refine wp_mono (pass (μ a w) s1 hi a w hr1) fun e a' w' q=>?_
  obtain⟨s',q,hr'⟩:=q
  cases e with
  | goto m=>
   obtain⟨e,m,hm,hi⟩:=q
   exact⟨e,⟨m,up hi hr'⟩,Nat.lt_of_le_of_lt ((hμ a' w' ⟨m,up hi hr'⟩).2 m (up hi hr')) hm⟩
  | _=>exact⟨s',q,hr'⟩
end
end Go.Can
namespace Go.Can
open Go.RowKit
def AZ (C:Cx)(aj:List (Nat×TI))(f:Func)(R:CV→St→Prop):Exit→St→Prop
 | .normal,s=>ae C (fun s'=>∃ r,bb aj f s'=some r∧R r s') s
 | .ret,s=>ae C (fun s'=>∃ r,bb aj f s'=some r∧R r s') s
 | _,_=>False
def Body (P:Program)(aj:List (Nat×TI))(f:FuncId)(args:List CV)(H:List (Nat×Ob))(n:Nat)(R:CV→St→Prop):Prop:=
 ∃ fn c, P.funcs[f]? = some fn ∧ fn.body = some c ∧ (fn.name == "runtime.NumGoroutine") = false ∧ args.length ≤ fn.ntmps ∧
  ∀ C:Cx,C.nt=fn.ntmps→C.n0=n→T P C c ⟨(enter args).env,H,n⟩ (AZ C aj fn R)
theorem Body.iN {P : Program} {aj : List (Nat × TI)} {f : FuncId} {fn : Func} {c : Code} {args : List CV} {H : List (Nat × Ob)} {n : Nat} {R : CV → St → Prop} (hf : P.funcs[f]? = some fn) (hb : fn.body = some c) (hn : (fn.name == "runtime.NumGoroutine") = false)
  (ha:args.length≤fn.ntmps) (h:∀ C:Cx,C.nt=fn.ntmps→C.n0=n→T P C c ⟨(enter args).env,H,n⟩ (AZ C aj fn R)):Body P aj f args H n R:=⟨fn,c,hf,hb,hn,ha,h⟩
section
variable {P:Program}{C:Cx}{σ σ':Nat→Option OB}{s s':St}{a a':Act}{w w':World}{ops:Array Oper}{aj:List (Nat×TI)}
def Cx.inner (C:Cx)(w:World)(σ:Nat→Option OB)(H:List (Nat×Ob))(nt:Nat)(hF:∀ b,C.F b→b<w.heap.size)(n:Nat):Cx:=
 ⟨w,C.F,fun b=>∃ o ob,assoc H o=some ob∧aJ σ o=some b,hF,nt,σ,n⟩
theorem pT (h:aH C σ s a w){b:Nat}(hb:∃ o ob,assoc s.heap o=some ob∧aJ σ o=some b):b<w.heap.size∧¬ C.F b∧(C.own b∨C.w0.heap.size≤b):=by
 obtain⟨o,ob,ho,hb⟩:=hb
 obtain⟨B,m1,_,_,_,m5⟩:=h.obj o ob ho
 obtain⟨cur,n1,_,n3,n4,_⟩:=m5 b (by simpa [aJ,m1] using hb)
 exact⟨(Array.getElem?_eq_some_iff.1 n1).1,n3,n4⟩
theorem aH.inner (h:aH C σ s a w)(hF:∀ b,C.F b→b<w.heap.size)(nt:Nat){args:List CV}{vs:List Value}(hv:aQ w (FB C σ s.heap) σ args vs)(ha:args.length≤nt) :
  aH (C.inner w σ s.heap nt hF s.nx) σ ⟨(enter args).env,s.heap,s.nx⟩ { tmps:=vs.toArray++Array.replicate (nt-vs.toArray.size) undef,defers:=[] } w:=by
 have hl:=aQ.length _ _ hv
 refine⟨rfl,by simp[Cx.inner];omega,rfl,rfl,rfl,Nat.le_refl _,fun _ _ _=>rfl,?_,?_,h.inj,h.nx,fun _ _=>rfl,Nat.le_refl _,fun o B b ho hB _=>(by rw[h.nx o ho] at hB;cases hB)⟩
 ·intro t c hc
  obtain⟨_,h2⟩:=eC args 0 t c hc
  obtain⟨v,h3,h4⟩:=aQ.get _ _ hv t c (by simpa using h2)
  refine⟨v,?_,h4⟩
  have hlt:=(List.getElem?_eq_some_iff.1 h3).1
  simp only
  rw[Array.getElem?_append_left (by simpa using hlt)]
  simpa using h3
 ·intro o ob ho
  obtain⟨B,m1,m2,m3,m4,m5⟩:=h.obj o ob ho
  refine⟨B,m1,m2,m3,m4,fun b hb=>?_⟩
  obtain⟨cur,n1,n2,n3,n4,n5,n6⟩:=m5 b hb
  exact⟨cur,n1,n2,n3,.inl ⟨o,ob,ho,by simp[aJ,m1,hb]⟩,n5,n6⟩
theorem aH.back (h:aH C σ s a w){hF:∀ b,C.F b→b<w.heap.size}{nt:Nat}(h':aH (C.inner w σ s.heap nt hF s.nx) σ' s' a' w'):aH C σ' ⟨s.env,s'.heap,s'.nx⟩ a w':=by
 have hown:∀ b,b<w.heap.size→(¬ ∃ o ob,assoc s.heap o=some ob∧aJ σ o=some b)→w'.heap[b]? = w.heap[b]?:=fun b hb hn=>h'.frame b hb hn
 have hobj:∀ o ob b,assoc s'.heap o=some ob→aJ σ' o=some b→(∃ o ob,assoc s.heap o=some ob∧aJ σ o=some b)∨w.heap.size≤b:=fun o ob b ho hb=>by
  obtain⟨B,m1,_,_,_,m5⟩:=h'.obj o ob ho
  obtain⟨cur,_,_,_,n4,_⟩:=m5 b (by simpa [aJ,m1] using hb)
  exact n4
 refine⟨h.kO,h.tm,h'.os.trans h.os,h'.tape.trans h.tape,h'.output.trans h.output,Nat.le_trans h.size h'.size,?_,?_,?_,h'.inj,h'.nx,fun o ho=>(h'.ek o (Nat.lt_of_lt_of_le ho h.low)).trans (h.ek o ho),Nat.le_trans h.low h'.low,fun o B b ho hB hb=>?_⟩
 ·intro b hb hno
  rw[hown b (Nat.lt_of_lt_of_le hb h.size) fun hx=>?_]
  ·exact h.frame b hb hno
  ·rcases (pT h hx).2.2 with h1 | h1
   ·exact hno h1
   ·omega
 ·intro t c hc
  obtain⟨v,k1,k2⟩:=h.env t c hc
  refine⟨v,k1,VR.keep ⟨fun ad u hf hu=>?_,fun r _ hf hu _=>?_⟩ _ _ (fun o ho=>?_) k2⟩
  case refine_3=>
   refine h'.ek o (Nat.lt_of_not_le fun hle=>?_)
   obtain⟨B,hB⟩:=VR.refs _ _ o k2 ho
   rw[h.nx o hle] at hB;cases hB
  ·have hlt:=World.block_lt_of_cell? w ad hu
   have hno:¬ ∃ o ob,assoc s.heap o=some ob∧aJ σ o=some ad.block:=fun hx=>hf (.inr hx)
   refine⟨by rw[World.cell?_of_block (w:=w) (hown ad.block hlt hno)];exact hu,?_⟩
   rintro (hx | ⟨o,ob,ho,hb⟩)
   ·exact hf (.inl hx)
   ·rcases hobj o ob _ ho hb with h1 | h1
    ·exact hno h1
    ·omega
  ·have hlt:=(Array.getElem?_eq_some_iff.1 hu).1
   have hno:¬ ∃ o ob,assoc s.heap o=some ob∧aJ σ o=some r:=fun hx=>hf (.inr hx)
   refine⟨by rw[hown r hlt hno];exact hu,?_⟩
   rintro (hx | ⟨o,ob,ho,hb⟩)
   ·exact hf (.inl hx)
   ·rcases hobj o ob _ ho hb with h1 | h1
    ·exact hno h1
    ·omega
 ·intro o ob ho
  obtain⟨B,m1,m2,m3,m4,m5⟩:=h'.obj o ob ho
  refine⟨B,m1,m2,m3,m4,fun b hb=>?_⟩
  obtain⟨cur,n1,n2,n3,n4,n5,n6⟩:=m5 b hb
  refine⟨cur,n1,n2,n3,?_,n5,n6⟩
  rcases n4 with n4 | n4
  ·exact (pT h n4).2.2
  ·exact .inr (Nat.le_trans h.size n4)
 ·rcases Nat.lt_or_ge o s.nx with hlt | hge
  ·rw[h'.ek o hlt] at hB;exact h.new o B b ho hB hb
  ·rcases h'.new o B b hge hB hb with n4 | n4
   ·exact (pT h n4).2.2
   ·exact .inr (Nat.le_trans h.size n4)
end
end Go.Can
