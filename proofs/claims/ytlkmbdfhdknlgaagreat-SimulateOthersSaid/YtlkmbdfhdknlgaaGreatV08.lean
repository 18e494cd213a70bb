/- What may be said anew of a -/
import Derived.Test.YtlkmbdfhdknlgaaGreatV07
namespace Go.Can
open Go.RowKit List
def Le (C:Cx)(s s':St):Prop:=∀ (a:Act) (w:World),Rel C s a w->Rel C s' a w
section
variable {C:Cx}
theorem Le.refl (s:St):Le C s s:=λ _ _ h=>h
theorem Le.trans {s s' Q5:St}(h:Le C s s')(k:Le C s' Q5):Le C s Q5:=λ a w hr=>k a w (h a w hr)
def pick {α:Type}(l:List (Nat×α)):List Nat->List (Nat×α)
 | []=>[]
 | t::r=>match assoc l t with
  | some c=>(t,c)::pick l r
  | none=>pick l r
theorem eR {α:Type}(l:List (Nat×α)):∀ (ks:List Nat) (t:Nat) (c:α),assoc (pick l ks) t=some c->assoc l t=some c
 | [],_,_,h=>by simp[pick,assoc] at h
 | k::r,t,c,h=>by
  simp only[pick] at h;split at h
  ·rename_i x hx;simp only[assoc] at h;split at h
   ·rename_i e;subst e;cases h;exact hx
   ·exact eR l r t c h
  ·exact eR l r t c h
mutual
def aU (n:Nat):CV->Bool
 | .iter o _ _=>decide (o<n)
 | .mp o _=>decide (o<n)
 | .bg o _ _=>decide (o<n)
 | .ax o _=>decide (o<n)
 | .agg cs=>aX n cs
 | .fn _ cs=>aX n cs
 | .iface _ cs=>aX n cs
 | .bY cs=>aX n cs
 | _=>true
def aX (n:Nat):List CV->Bool
 | []=>true
 | c::cs=>aU n c && aX n cs
end
mutual
theorem lX (n:Nat):∀ (c:CV) (o:Nat),aU n c=true->aP o c=false->o<n
 | .bg p _ _,o,h,hr=>by
  have:p=o:=by simpa [aP] using hr
  subst this;simpa [aU] using h
 | .ax p _,o,h,hr=>by
  have:p=o:=by simpa [aP] using hr
  subst this;simpa [aU] using h
 | .agg cs,o,h,hr=>fo n cs o (by simpa [aU] using h) (by simpa [aP] using hr)
 | .fn _ cs,o,h,hr=>fo n cs o (by simpa [aU] using h) (by simpa [aP] using hr)
 | .iface _ cs,o,h,hr=>fo n cs o (by simpa [aU] using h) (by simpa [aP] using hr)
 | .bY cs,o,h,hr=>fo n cs o (by simpa [aU] using h) (by simpa [aP] using hr)
 | .int _ _,_,_,hr=>by simp[aP] at hr
 | .bool _,_,_,hr=>by simp[aP] at hr
 | .str _,_,_,hr=>by simp[aP] at hr
 | .au _ _,_,_,hr=>by simp[aP] at hr
 | .ak,_,_,hr=>by simp[aP] at hr
 | .de _,_,_,hr=>by simp[aP] at hr
 | .bM,_,_,hr=>by simp[aP] at hr
 | .cH,_,_,hr=>by simp[aP] at hr
 | .iter p _ _,o,h,hr=>by
  simp only[aP,bne_eq_false_iff_eq] at hr;subst hr
  simpa [aU] using h
 | .mp p _,o,h,hr=>by
  simp only[aP,bne_eq_false_iff_eq] at hr;subst hr
  simpa [aU] using h
theorem fo (n:Nat):∀ (cs:List CV) (o:Nat),aX n cs=true->dY o cs=false->o<n
 | [],_,_,hr=>by simp[dY] at hr
 | c::cs,o,h,hr=>by
  simp only[aX,Bool.and_eq_true] at h;simp only[dY,Bool.and_eq_false_iff] at hr;rcases hr with hr | hr
  ·exact lX n c o h.1 hr
  ·exact fo n cs o h.2 hr
end
def St.trim (s:St)(ks os:List Nat)(n:Nat):St:=⟨pick s.env ks,pick s.heap os,n⟩
def uM (s:St)(ks os:List Nat)(n:Nat):Bool:=
 (pick s.env ks).all (λ x=>aU n x.2) && (pick s.heap os).all λ x=>decide (x.1<n) && aX n x.2.cells
theorem Le.trim {s:St}(ks os:List Nat)(n:Nat)(h:uM s ks os n=true)(Rc:C.n0<=n):Le C s (s.trim ks os n):=by
 intro a w ⟨σ,hr⟩;simp only[uM,Bool.and_eq_true] at h;obtain⟨h1,h2⟩:=h;rw[all_eq_true] at h1 h2;have hs:∀ {o},o<n->(if o<n then σ o else none)=σ o:=λ {o} ho=>by rw[if_pos ho]
 have hF:∀ b,FB C (λ o=>if o<n then σ o else none) (pick s.heap os) b->FB C σ s.heap b:=by
  rintro b (hb | ⟨o,ob,ho,hb⟩)
  ·exact .inl hb
  ·have:=h2 _ (bF _ _ _ ho);simp only[Bool.and_eq_true,decide_eq_true_eq] at this;simp only[a9,hs this.1] at hb;exact .inr ⟨o,ob,eR _ _ _ _ ho,hb⟩
 have hk:cY w w (FB C σ s.heap) (FB C (λ o=>if o<n then σ o else none) (pick s.heap os)):=⟨λ ad u hf hu=>⟨hu,λ h=>hf (hF _ h)⟩,λ r _ hf hu _=>⟨hu,λ h=>hf (hF _ h)⟩⟩;refine⟨λ o=>if o<n then σ o else none,hr.oz,hr.tm,hr.os,hr.tape,hr.output,hr.size,hr.frame,?_,?_,?_,?_,λ o ho=>by rw[hs (Nat.lt_of_lt_of_le ho Rc)];exact hr.fX o ho,Rc,λ o B b ho hB hb=>?_⟩
 ·intro t c hc;have hm:=h1 _ (bF _ _ _ hc);obtain⟨v,k1,k2⟩:=hr.env t c (eR _ _ _ _ hc);exact⟨v,k1,VR.bL hk c v (λ o ho=>hs (lX n c o hm ho)) k2⟩
 ·intro o ob ho;have hm:=h2 _ (bF _ _ _ ho);simp only[Bool.and_eq_true,decide_eq_true_eq] at hm;obtain⟨B,m1,m2,m3,m4,m5⟩:=hr.obj o ob (eR _ _ _ _ ho);refine⟨B,by simp only[hs hm.1];exact m1,m2,m3,m4,λ b hb=>?_⟩;obtain⟨cur,n1,n2,n3,n4,n5,n6⟩:=m5 b hb;exact⟨cur,n1,n2,n3,n4,n5,a7.bL hk _ _ (λ p hp=>hs (fo n _ p hm.2 hp)) n6⟩
 ·intro o o' ob Pe b ho Pt hb Pf;have hm:=h2 _ (bF _ _ _ ho);have Xb:=h2 _ (bF _ _ _ Pt);simp only[Bool.and_eq_true,decide_eq_true_eq] at hm Xb;simp only[a9,hs hm.1] at hb;simp only[a9,hs Xb.1] at Pf;exact hr.inj o o' ob Pe b (eR _ _ _ _ ho) (eR _ _ _ _ Pt) hb Pf
 ·intro o ho;simp only[St.trim] at ho;rw[if_neg yA]
 ·split at hB
  ·exact hr.new o B b ho hB hb
  ·cases hB
theorem Le.env {s:St}(ks:List Nat):Le C s { s with env:=pick s.env ks }:=by
 intro a w ⟨σ,hr⟩;exact⟨σ,hr.oz,hr.tm,hr.os,hr.tape,hr.output,hr.size,hr.frame,λ t c hc=>hr.env t c (eR _ _ _ _ hc),hr.obj,hr.inj,hr.nx,hr.fX,hr.low,hr.new⟩
mutual
def cK (o:Nat)(cells:List CV)(sz:Nat):CV->CV
 | .bg p off n=>if p=o then .au ((cells.drop off).take (n*sz)) n else .bg p off n
 | .ax p off=>if p=o then .de (cells.drop off) else .ax p off
 | .agg cs=>.agg (iN o cells sz cs)
 | .fn f cs=>.fn f (iN o cells sz cs)
 | .iface f cs=>.iface f (iN o cells sz cs)
 | .bY cs=>.bY (iN o cells sz cs)
 | .int k n=>.int k n
 | .bool b=>.bool b
 | .str b=>.str b
 | .au cs n=>.au cs n
 | .ak=>.ak
 | .de cs=>.de cs
 | .bM=>.bM
 | .cH=>.cH
 | .iter k s p=>.iter k s p
 | .mp k es=>.mp k es
 | .any=>.any
def iN (o:Nat)(cells:List CV)(sz:Nat):List CV->List CV
 | []=>[]
 | c::cs=>cK o cells sz c::iN o cells sz cs
end
theorem Kq {o:Nat}{cells:List CV}{sz:Nat}:∀ c,one (cK o cells sz c)=one c
 | .bg p off n=>by simp only[cK];split<;>rfl
 | .ax p off=>by simp only[cK];split<;>rfl
 | .agg _=>rfl
 | .fn _ _=>rfl
 | .iface _ _=>rfl
 | .bY _=>rfl
 | .int _ _=>rfl
 | .bool _=>rfl
 | .str _=>rfl
 | .au _ _=>rfl
 | .ak=>rfl
 | .any=>rfl
 | .de _=>rfl
 | .bM=>rfl
 | .cH=>rfl
 | .iter _ _ _=>rfl
 | .mp _ _=>rfl
theorem vO {o:Nat}{cells:List CV}{sz:Nat}:∀ cs:List CV,(iN o cells sz cs).all one=cs.all one
 | []=>rfl
 | c::cs=>by simp only[iN,all_cons,Kq,vO cs]
theorem p6 {o:Nat}{cells:List CV}{sz:Nat}:∀ cs:List CV,(iN o cells sz cs).length=cs.length
 | []=>rfl
 | c::cs=>by simp only[iN,length_cons,p6 cs]
def wU (o:Nat)(cells:List CV)(sz:Nat):List (Nat×CV)->List (Nat×CV)
 | []=>[]
 | (t,c)::r=>(t,cK o cells sz c)::wU o cells sz r
def uk (o:Nat)(cells:List CV)(sz:Nat):List (Nat×Ob)->List (Nat×Ob)
 | []=>[]
 | (p,x)::r=>if p=o then uk o cells sz r else (p,{ x with cells:=iN o cells sz x.cells })::uk o cells sz r
def St.cF (s:St)(o:Nat)(ob:Ob):St:=⟨wU o ob.cells ob.sz s.env,uk o ob.cells ob.sz s.heap,s.nx⟩
theorem wy {o:Nat}{cells:List CV}{sz:Nat}:∀ (l:List (Nat×CV)) (t:Nat) (c:CV),assoc (wU o cells sz l) t=some c->∃ d,assoc l t=some d/\c=cK o cells sz d
 | [],_,_,h=>by simp[wU,assoc] at h
 | (k,x)::r,t,c,h=>by
  simp only[wU,assoc] at h |-;split at h
  ·rename_i e;rw[if_pos e];cases h;exact⟨x,rfl,rfl⟩
  ·rename_i e;rw[if_neg e];exact wy r t c h
theorem fU {o:Nat}{cells:List CV}{sz:Nat}:∀ (l:List (Nat×Ob)) (p:Nat) (x:Ob),assoc (uk o cells sz l) p=some x->p≠o/\∃ y,assoc l p=some y/\x={ y with cells:=iN o cells sz y.cells }
 | [],_,_,h=>by simp[uk,assoc] at h
 | (k,y)::r,p,x,h=>by
  simp only[uk] at h;split at h
  ·rename_i hk;obtain⟨h1,z,h2,h3⟩:=fU r p x h;refine⟨h1,z,?_,h3⟩;simp only[assoc];rw[if_neg (λ e=>h1 (by rw[<- e,hk]))];exact h2
  ·rename_i hk;simp only[assoc] at h;split at h
   ·rename_i e;cases h;subst e;exact⟨hk,y,by simp[assoc],rfl⟩
   ·rename_i e;obtain⟨h1,z,h2,h3⟩:=fU r p x h;exact⟨h1,z,by simp only[assoc];rw[if_neg e];exact h2,h3⟩
section
variable {w:World}{F F':Nat->Prop}{σ:Nat->Option OB}{o sz:Nat}{cells:List CV}{B:OB}
mutual
theorem D4 (hk:cY w w F F')(hB:σ o=some B)(O0:B.sz=sz)(hm:∀ b,B.j7=some b->∀ k,fx w F' (cells.drop k) ⟨b,k,none⟩):∀ (c:CV) (v:Value),VR w F σ c v->VR w F' σ (cK o cells sz c) v
 | .bg p off n,v,hv=>by
  simp only[cK];split
  ·rename_i e;subst e;simp only[VR] at hv;obtain⟨B',Rm,hv⟩:=hv;rw[hB] at Rm;cases Rm;split at hv
   ·obtain⟨rfl,rfl,rfl⟩:=hv;simp only[VR,cr];exact⟨none,0,rfl,Nat.le_refl _,Nat.zero_le _,.inl ⟨trivial,by simp⟩⟩
   ·rename_i b hb;obtain⟨cap,rfl,h1,h2,_⟩:=hv;simp only[VR,cr];exact⟨_,cap,rfl,h1,h2,.inr ⟨_,rfl,fx.take _ _ _ (hm b hb off)⟩⟩
  ·exact VR.bL hk _ _ (λ _ _=>rfl) hv
 | .ax p off,v,hv=>by
  simp only[cK];split
  ·rename_i e;subst e;simp only[VR] at hv;obtain⟨B',b,Rm,hb,rfl⟩:=hv;rw[hB] at Rm;cases Rm;simp only[VR,cr];exact⟨_,rfl,hm b hb off⟩
  ·exact VR.bL hk _ _ (λ _ _=>rfl) hv
 | .agg cs,v,hv=>by
  simp only[cK,VR] at hv |-;obtain⟨vs,e,r,h1⟩:=hv;exact⟨vs,e,l7 hk hB O0 hm cs vs r,by rw[vO];exact h1⟩
 | .fn f cs,v,hv=>by
  simp only[cK,VR] at hv |-;obtain⟨vs,e,r⟩:=hv;exact⟨vs,e,l7 hk hB O0 hm cs vs r⟩
 | .iface f cs,v,hv=>by
  simp only[cK,VR] at hv |-;obtain⟨vs,e,r⟩:=hv;exact⟨vs,e,l7 hk hB O0 hm cs vs r⟩
 | .bY cs,v,hv=>by
  simp only[cK,VR] at hv |-;obtain⟨vs,e,r⟩:=hv;exact⟨vs,e,l7 hk hB O0 hm cs vs r⟩
 | .int k n,v,hv=>by simp only[cK];exact VR.bL hk _ _ (λ _ _=>rfl) hv
 | .bool b,v,hv=>by simp only[cK];exact VR.bL hk _ _ (λ _ _=>rfl) hv
 | .str b,v,hv=>by simp only[cK];exact VR.bL hk _ _ (λ _ _=>rfl) hv
 | .au cs n,v,hv=>by simp only[cK];exact VR.bL hk _ _ (λ _ _=>rfl) hv
 | .ak,v,hv=>by simp only[cK];exact VR.bL hk _ _ (λ _ _=>rfl) hv
 | .de cs,v,hv=>by simp only[cK];exact VR.bL hk _ _ (λ _ _=>rfl) hv
 | .bM,v,hv=>by simp only[cK];exact VR.bL hk _ _ (λ _ _=>rfl) hv
 | .cH,v,hv=>by simp only[cK];exact VR.bL hk _ _ (λ _ _=>rfl) hv
 | .iter _ _ _,v,hv=>by simp only[cK];exact VR.bL hk _ _ (λ _ _=>rfl) hv
 | .mp _ _,v,hv=>by simp only[cK];exact VR.bL hk _ _ (λ _ _=>rfl) hv
 | .any,v,hv=>by simpa [cK,VR] using hv
theorem l7 (hk:cY w w F F')(hB:σ o=some B)(O0:B.sz=sz)(hm:∀ b,B.j7=some b->∀ k,fx w F' (cells.drop k) ⟨b,k,none⟩):∀ (cs:List CV) (vs:List Value),a7 w F σ cs vs->a7 w F' σ (iN o cells sz cs) vs
 | [],_,hv=>by simpa [iN,a7] using hv
 | c::cs,vs,hv=>by
  simp only[iN,a7] at hv |-;obtain⟨v,r,e,h1,h2⟩:=hv;exact⟨v,r,e,D4 hk hB O0 hm c v h1,l7 hk hB O0 hm cs r h2⟩
end
end
theorem aO.cF {C:Cx}{σ:Nat->Option OB}{a:Act}{w:World}{s:St}(hr:aO C σ s a w){o:Nat}{ob:Ob}(ho:assoc s.heap o=some ob)(ht:trees ob.cells=true):aO C σ (s.cF o ob) a w:=by
 obtain⟨B,hB,O0,hn,h1,h5⟩:=hr.obj o ob ho;have hF:∀ b,FB C σ (uk o ob.cells ob.sz s.heap) b->FB C σ s.heap b:=by
  rintro b (hb | ⟨p,x,hp,hb⟩)
  ·exact .inl hb
  ·obtain⟨_,y,hy,_⟩:=fU _ _ _ hp;exact .inr ⟨p,y,hy,hb⟩
 have hk:cY w w (FB C σ s.heap) (FB C σ (uk o ob.cells ob.sz s.heap)):=⟨λ ad u hf hu=>⟨hu,λ h=>hf (hF _ h)⟩,λ r _ hf hu _=>⟨hu,λ h=>hf (hF _ h)⟩⟩;have hm:∀ b,B.j7=some b->∀ k,fx w (FB C σ (uk o ob.cells ob.sz s.heap)) (ob.cells.drop k) ⟨b,k,none⟩:=λ b hb k=>by
  obtain⟨cur,k1,k2,k3,k4,k5,k6⟩:=h5 b hb;have Ze:¬ FB C σ (uk o ob.cells ob.sz s.heap) b:=by
   rintro (hf | ⟨p,x,hp,Te⟩)
   ·exact k3 hf
   ·obtain⟨Pp,y,hy,_⟩:=fU _ _ _ hp;exact Pp (hr.inj p o y ob b hy ho Te (by simp[a9,hB,hb]))
  have h2:fx w (FB C σ (uk o ob.cells ob.sz s.heap)) ob.cells ⟨b,0,none⟩:=iC _ _ _ (ca.bL hk.1 _ _ (a7.eI _ _ ht k6)) h1 Ze λ j u hu=>by
   rw[add_lit,Nat.zero_add,cell_of_row w b j cur _ _ k1];rw[getElem?_take] at hu;split at hu
   ·simpa using hu
   ·cases hu
  have:=h2.drop k;rwa [add_lit,Nat.zero_add] at this
 refine⟨hr.oz,hr.tm,hr.os,hr.tape,hr.output,hr.size,hr.frame,?_,?_,?_,hr.nx,hr.fX,hr.low,hr.new⟩
 ·intro t c hc;obtain⟨d,hd,rfl⟩:=wy _ _ _ hc;obtain⟨v,k1,k2⟩:=hr.env t d hd;exact⟨v,k1,D4 hk hB O0 hm d v k2⟩
 ·intro p x hp;obtain⟨Pp,y,hy,rfl⟩:=fU _ _ _ hp;obtain⟨B',m1,m2,m3,m4,m5⟩:=hr.obj p y hy;refine⟨B',m1,m2,λ hn=>?_,by rw[vO];exact m4,λ b hb=>?_⟩
  ·rw[m3 hn];rfl
  ·obtain⟨cur,n1,n2,n3,n4,n5,n6⟩:=m5 b hb;refine⟨cur,n1,n2,n3,n4,by rw[p6];exact n5,?_⟩;rw[p6];exact l7 hk hB O0 hm _ _ n6
 ·intro p q x y b hp hq hb Pf;obtain⟨_,x',hx,_⟩:=fU _ _ _ hp;obtain⟨_,y',hy,_⟩:=fU _ _ _ hq;exact hr.inj p q x' y' b hx hy hb Pf
theorem Le.cF {s:St}{o:Nat}{ob:Ob}(ho:assoc s.heap o=some ob)(ht:trees ob.cells=true):Le C s (s.cF o ob):=λ _ _ ⟨σ,hr⟩=>⟨σ,hr.cF ho ht⟩
def St.own (s:St)(t:Nat)(e:TypeId)(sz:Nat):St:={ env:=sM s.env t (.bg s.nx 0 0),heap:=(s.nx,⟨e,sz,[]⟩)::s.heap,nx:=s.nx+1 }
theorem Le.own {s:St}(t:Nat)(e:TypeId)(sz:Nat)(ht:assoc s.env t=some .ak):Le C s (s.own t e sz):=by
 intro a w ⟨σ,hr⟩;obtain⟨h1,h2⟩:=hr.fresh (World.grownBy.refl w none) (ob:=⟨e,sz,[]⟩) (B:=⟨none,0,sz⟩) rfl rfl (λ _=>rfl) (λ b hb=>by cases hb);refine⟨_,h1.oz,h1.tm,h1.os,h1.tape,h1.output,h1.size,h1.frame,?_,h1.obj,h1.inj,h1.nx,h1.fX,h1.low,h1.new⟩;intro u c hc;simp only[St.own] at hc;rw[fF] at hc;split at hc
 ·rename_i eu;subst eu;rw[ht] at hc;simp only[Option.map_some,Option.some.injEq] at hc;subst hc;obtain⟨v,k1,k2⟩:=hr.env t _ ht;simp only[VR] at k2;subst k2;refine⟨_,k1,?_⟩;simp only[VR];exact⟨_,dN,by simp⟩
 ·exact h1.env u c hc
section
variable {P:Program}{C:Cx}{s:St}{ops:Array Oper}{av:List (Nat×TI)}
theorem T.le {s':St}{c:Code}{Q:Exit->St->Prop}(h:Le C s s')(ht:T P C c s' Q):T P C c s Q:=λ a w hr=>ht a w (h a w hr)
theorem T.post {c:Code}{Q Q':Exit->St->Prop}(h:T P C c s Q')(hq:∀ e s',Q' e s'->∃ Q5,Q e Q5/\Le C s' Q5):T P C c s Q:=λ a w hr=>
 wp_mono (h a w hr) λ e a' w' ⟨s',q,r⟩=>by
  obtain⟨Q5,q',l⟩:=hq e s' q;exact⟨Q5,q',l a' w' r⟩
theorem TL.le {s':St}{l:List Oper}{K:St->Prop}(h:Le C s s')(ht:TL P C ops l s' K):TL P C ops l s K:=λ a w Q hr hQ=>ht a w Q (h a w hr) hQ
def aa (C:Cx)(I:St->Prop)(s:St):Prop:=∃ s',I s'/\Le C s s'
theorem T.aQ {c:Code}{Q:Exit->St->Prop}(I:Nat->St->Prop){n:Nat}(h₀:aa C (I n) s)(round:∀ n s,I n s->T P C c s (fj (λ s'=>∃ m,m<n/\aa C (I m) s') Q)):T P C (.loop c) s Q:=by
 obtain⟨s',h0,l0⟩:=h₀;refine T.le l0 (T.loop I h0 λ n s hi=>T.post (round n s hi) λ e s' q=>?_)
 cases e with
 | normal=>
  obtain⟨m,hm,Q5,hi,hl⟩:=q;exact⟨Q5,⟨m,hm,hi⟩,hl⟩
 | _=>exact⟨s',q,Le.refl _⟩
def Na (C:Cx)(av:List (Nat×TI))(f:Func)(r:CV):Exit->St->Prop
 | .normal,s=>aa C (λ s=>bQ av f s=some r) s
 | .ret,s=>aa C (λ s=>bQ av f s=some r) s
 | _,_=>False
theorem af.aC (RQ : aD P av) {f : FuncId} {fn : Func} {c : Code} {args : List CV} {r : CV} (hf : P.funcs[f]? = some fn) (hb : fn.body = some c) (hn : (fn.name == "runtime.NumGoroutine") = false)
  (ha:args.length<=fn.ntmps) (ht:tree r=true) (h:∀ C:Cx,C.nt=fn.ntmps->C.n0=0->T P C c (enter args) (Na C av fn r)):af P f args r:=
 af.jb RQ hf hb hn ha ht λ C hC OR=>T.post (h C hC OR) λ e s' q=>by
  cases e with
  | normal=>exact q
  | ret=>exact q
  | _=>exact q.elim
def zf (o:Oper):Bool:=match o.op with
 | .call c=>match c.callee with
  | .builtin _=>false
  | _=>true
 | _=>false
def bW (ops:Array Oper)(s:St)(o:Oper):Option Bool:=match o.guard with
 | none=>some true
 | some (j,want)=>match (ops[j]?).bind (·.dst) with
  | none=>none
  | some t=>mI (assoc s.env t) want
def zN (av:List (Nat×TI))(nt:Nat)(ops:Array Oper)(K:List Oper->St->Prop):List Oper->St->Prop
 | [],s=>K [] s
 | o::r,s=>if zf o then
   match bW ops s o with
   | some false=>xI (zN av nt ops K r) (gB av nt ops s o)
   | _=>K (o::r) s
  else xI (zN av nt ops K r) (gB av nt ops s o)
theorem HY (ht:aD P av){K:St->Prop}:∀ (l:List Oper) (s:St),zN av C.nt ops (λ r s'=>TL P C ops r s' K) l s->TL P C ops l s K
 | [],_,h=>h
 | o::r,s,h=>by
  have fin:xI (zN av C.nt ops (λ r s'=>TL P C ops r s' K) r) (gB av C.nt ops s o)->TL P C ops (o::r) s K:=λ h=>by
   cases hs:gB av C.nt ops s o with
   | none=>rw[hs] at h;exact h.elim
   | some s'=>rw[hs] at h;exact TL.step ht hs (HY ht r s' h)
  unfold zN at h;split at h
  ·split at h
   ·exact fin h
   ·exact h
  ·exact fin h
theorem s8 {e:Option CV}{want:Bool}(h:mI e want=some true):e=some (.bool want):=by
 unfold mI at h;split at h
 ·rename_i b;simp only[Option.some.injEq,beq_iff_eq] at h;subst h;rfl
 ·cases h
 ·cases h
def jF (av:List (Nat×TI))(nt:Nat)(ops:Array Oper)(s:St)(o:Oper):Option St:=
 if bl nt o.dst then
  match o.guard with
  | none=>(fp av s o.op).map (s.put o.dst)
  | some (j,want)=>match (ops[j]?).bind (·.dst) with
   | none=>none
   | some t=>match mI (assoc s.env t) want with
    | some true=>(fp av s o.op).map (s.put o.dst)
    | some false=>some (s.put o.dst (.bY []))
    | none=>none
 else none
theorem HS {nt:Nat}{o:Oper}{s':St}(h:jF av nt ops s o=some s'):∃ r,tY P av nt ops s o r/\nA s o.dst r=s':=by
 unfold jF at h;split at h
 ·rename_i hd;split at h
  ·rename_i hg;obtain⟨c,hc,rfl⟩:=Option.map_eq_some_iff.1 h;exact⟨some c,⟨hd,.inr ⟨.inl hg,c,rfl,.inl hc⟩⟩,rfl⟩
  ·rename_i j want hg;split at h
   ·cases h
   rename_i t hj;split at h
   ·rename_i hb;obtain⟨c,hc,rfl⟩:=Option.map_eq_some_iff.1 h;exact⟨some c,⟨hd,.inr ⟨.inr ⟨j,want,t,hg,hj,s8 hb⟩,c,rfl,.inl hc⟩⟩,rfl⟩
   ·rename_i hb;cases h;exact⟨some (.bY []),⟨hd,.inl ⟨j,want,t,hg,hj,hb,rfl⟩⟩,rfl⟩
   ·cases h
 ·cases h
def FE (av:List (Nat×TI))(nt:Nat)(ops:Array Oper)(K:List Nat->St->Prop):List Nat->St->Prop
 | [],s=>K [] s
 | i::r,s=>match ops[i]? with
  | none=>False
  | some o=>if zf o then
    match bW ops s o with
    | some false=>xI (FE av nt ops K r) (jF av nt ops s o)
    | _=>K (i::r) s
   else xI (FE av nt ops K r) (jF av nt ops s o)
theorem HZ {nt:Nat}{K:St->Prop}:∀ (l:List Nat) (s:St),FE av nt ops (λ r s'=>TH P av nt ops r s' K) l s->TH P av nt ops l s K
 | [],_,h=>h
 | i::r,s,h=>by
  unfold FE at h;split at h
  ·exact h.elim
  rename_i o ho;have fin:xI (FE av nt ops (λ r s'=>TH P av nt ops r s' K) r) (jF av nt ops s o)->TH P av nt ops (i::r) s K:=λ h=>by
   cases hs:jF av nt ops s o with
   | none=>rw[hs] at h;exact h.elim
   | some s'=>
    rw[hs] at h;obtain⟨x,k1,k2⟩:=HS (P:=P) hs;exact⟨o,x,ho,k1,by rw[k2];exact HZ r s' h⟩
  split at h
  ·split at h
   ·exact fin h
   ·exact h
  ·exact fin h
theorem TH.call {nt:Nat}{K:St->Prop}{i:Nat}{r:List Nat}{o:Oper}{c:Call}{x:CV}(hi:ops[i]? = some o)(hd:bl nt o.dst=true)(hg:bW ops s o=some true)(ho:o.op=.call c)(hc:bR P s c x)(h:TH P av nt ops r (s.put o.dst x) K) :
  TH P av nt ops (i::r) s K:=by
 refine⟨o,some x,hi,⟨hd,.inr ⟨?_,x,rfl,.inr ⟨c,ho,hc⟩⟩⟩,h⟩;unfold bW at hg;split at hg
 ·rename_i e;exact .inl e
 ·rename_i j want e;split at hg
  ·cases hg
  rename_i t hj;exact .inr ⟨j,want,t,e,hj,s8 hg⟩
end
end
section
variable {P:Program}{C:Cx}{s:St}{ops:Array Oper}{av:List (Nat×TI)}{Q:Exit->St->Prop}{x y z:Code}
theorem T.cond_true {c:Operand}(hc:ev s c=some (.bool true))(h:T P C x s Q):T P C (.cond c x y) s Q:=T.cond hc Sa
theorem T.cond_false {c:Operand}(hc:ev s c=some (.bool false))(h:T P C y s Q):T P C (.cond c x y) s Q:=T.cond hc Sa
theorem T.bB {c:Operand}{b:Bool}(hc:ev s c=some (.bool b))(h1:b=true->T P C x s Q)(h2:b=false->T P C y s Q):T P C (.cond c x y) s Q:=by
 cases b
 ·exact T.cond_false hc (h2 rfl)
 ·exact T.cond_true hc (h1 rfl)
theorem aa.trim {I:St->Prop}(ks os:List Nat)(n:Nat)(h:uM s ks os n=true)(Rc:C.n0<=n)(hi:I (s.trim ks os n)):aa C I s:=⟨_,hi,Le.trim ks os n h Rc⟩
theorem Le.to {s':St}(ks os:List Nat)(n:Nat)(h:uM s ks os n=true)(Rc:C.n0<=n)(e:s.trim ks os n=s'):Le C s s':=e ▸ Le.trim ks os n h Rc
theorem aa.here {I:St->Prop}(hi:I s):aa C I s:=⟨s,hi,Le.refl s⟩
theorem aa.le {I:St->Prop}{s':St}(h:Le C s s')(hi:aa C I s'):aa C I s:=by
 obtain⟨Q5,h1,h2⟩:=hi;exact⟨Q5,h1,h.trans h2⟩
theorem bR.of {c:Call}{g:FuncId}{cs:List CV}{r:CV}(h1:bJ s c=some (g,cs))(h2:trees cs=true)(h3:af P g cs r):bR P s c r:=⟨g,cs,h1,.inl ⟨h2,h3⟩⟩
theorem bR.lent {c:Call}{g:FuncId}{cs ds:List CV}{r:CV}(h1:bJ s c=some (g,cs))(h2:nr s cs=some ds)(h3:af P g ds r)(h4:scalar r=true):bR P s c r:=⟨g,cs,h1,.inr ⟨ds,h2,h3,h4⟩⟩
end
abbrev bj (n:Int):CV:=.int .i64 n
def ints (l:List Int):CV:=.au (l.map bj) l.length
theorem Fm (o:Nat)(cs:List CV):dY o cs=cs.all (aP o):=by
 induction cs with
 | nil=>rfl
 | cons c cs ih=>simp[dY,ih]
theorem aE (n:Nat)(cs:List CV):aX n cs=cs.all (aU n):=by
 induction cs with
 | nil=>rfl
 | cons c cs ih=>simp[aX,ih]
theorem Gw (cs:List CV):trees cs=cs.all tree:=by
 induction cs with
 | nil=>rfl
 | cons c cs ih=>simp[trees,ih]
theorem H7 (o:Nat)(cells:List CV)(sz:Nat)(cs:List CV):iN o cells sz cs=cs.map (cK o cells sz):=by
 induction cs with
 | nil=>rfl
 | cons c cs ih=>simp[iN,ih]
theorem Co (cs:List CV):mq cs=cs.all scalar:=by
 induction cs with
 | nil=>rfl
 | cons c cs ih=>simp[mq,ih]
theorem H6 (o:Nat)(c:List CV)(z:Nat)(l:List Int):cK o c z (ints l)=ints l:=rfl
theorem C2 (o:Nat)(c:List CV)(z:Nat):cK o c z∘ints=ints:=rfl
theorem FI (o:Nat)(c:List CV)(z:Nat):cK o c z∘bj=bj:=rfl
theorem C3 (o:Nat)(c:List CV)(z:Nat):cK o c z∘CV.bool=CV.bool:=rfl
theorem CO (o:Nat)(l:List Int):aP o (ints l)=true:=rfl
theorem Af (o:Nat)(l:List Int):aU o (ints l)=true:=rfl
theorem bD (l:List Int):tree (ints l)=true:=rfl
theorem y6 (o:Nat):aP o∘ints=λ _=>true:=rfl
theorem AD (o:Nat):aP o∘bj=λ _=>true:=rfl
theorem y7 (o:Nat):aP o∘CV.bool=λ _=>true:=rfl
theorem wL (o:Nat):aU o∘ints=λ _=>true:=rfl
theorem yR (o:Nat):aU o∘bj=λ _=>true:=rfl
theorem wM (o:Nat):aU o∘CV.bool=λ _=>true:=rfl
theorem zY:tree∘ints=λ _=>true:=rfl
theorem Cg:tree∘bj=λ _=>true:=rfl
theorem zZ:tree∘CV.bool=λ _=>true:=rfl
theorem CX (l:List Int):ez (ints l)=false:=rfl
theorem Dc (l:List Int):(ints l).cells=[ints l]:=rfl
theorem Bh {α:Type}(o:Nat)(c:List CV)(z:Nat)(f:α->List Int):cK o c z∘ints∘f=ints∘f:=rfl
theorem wQ {α:Type}(o:Nat)(f:α->List Int):aP o∘ints∘f=λ _=>true:=rfl
theorem u7 {α:Type}(o:Nat)(f:α->List Int):aU o∘ints∘f=λ _=>true:=rfl
theorem yy {α:Type}(f:α->List Int):tree∘ints∘f=λ _=>true:=rfl
theorem C1 {α:Type}(o:Nat)(c:List CV)(z:Nat)(f:α->Int):cK o c z∘bj∘f=bj∘f:=rfl
theorem y5 {α:Type}(o:Nat)(f:α->Int):aP o∘bj∘f=λ _=>true:=rfl
theorem wK {α:Type}(o:Nat)(f:α->Int):aU o∘bj∘f=λ _=>true:=rfl
theorem zX {α:Type}(f:α->Int):tree∘bj∘f=λ _=>true:=rfl
theorem wT {α:Type}(o:Nat)(c:List CV)(z:Nat)(f:α->Bool):cK o c z∘CV.bool∘f=CV.bool∘f:=rfl
theorem ui {α:Type}(o:Nat)(f:α->Bool):aP o∘CV.bool∘f=λ _=>true:=rfl
theorem r9 {α:Type}(o:Nat)(f:α->Bool):aU o∘CV.bool∘f=λ _=>true:=rfl
theorem uP {α:Type}(f:α->Bool):tree∘CV.bool∘f=λ _=>true:=rfl
attribute [simp] Bh wQ u7 yy C1 y5 wK zX wT ui r9 uP
attribute [simp] H6 C2 FI C3 CO Af
attribute [simp] bD y6 AD y7 wL yR wM zY Cg zZ
attribute [simp] CX Dc
@[simp] theorem Lk (k:IntKind)(n:Int):ez (.int k n:CV)=false:=rfl
@[simp] theorem LB (k:IntKind)(n:Int):CV.cells (.int k n:CV)=[(.int k n:CV)]:=rfl
@[simp] theorem Ki (b:Bool):ez (.bool b:CV)=false:=rfl
@[simp] theorem KJ (b:Bool):CV.cells (.bool b:CV)=[(.bool b:CV)]:=rfl
@[simp] theorem Li (b:ByteArray):ez (.str b:CV)=false:=rfl
@[simp] theorem Lz (b:ByteArray):CV.cells (.str b:CV)=[(.str b:CV)]:=rfl
@[simp] theorem Lh (cs:List CV)(n:Nat):ez (.au cs n:CV)=false:=rfl
@[simp] theorem Ly (cs:List CV)(n:Nat):CV.cells (.au cs n:CV)=[(.au cs n:CV)]:=rfl
@[simp] theorem I2  : ez (.ak:CV)=false:=rfl
@[simp] theorem Ja  : CV.cells (.ak:CV)=[(.ak:CV)]:=rfl
@[simp] theorem Kg (cs:List CV):ez (.de cs:CV)=false:=rfl
@[simp] theorem KH (cs:List CV):CV.cells (.de cs:CV)=[(.de cs:CV)]:=rfl
@[simp] theorem HH  : ez (.bM:CV)=false:=rfl
@[simp] theorem Iw  : CV.cells (.bM:CV)=[(.bM:CV)]:=rfl
@[simp] theorem MV (f:FuncId)(cs:List CV):ez (.fn f cs:CV)=false:=rfl
@[simp] theorem Nq (f:FuncId)(cs:List CV):CV.cells (.fn f cs:CV)=[(.fn f cs:CV)]:=rfl
@[simp] theorem I3  : ez (.cH:CV)=false:=rfl
@[simp] theorem Jb  : CV.cells (.cH:CV)=[(.cH:CV)]:=rfl
@[simp] theorem Lj (o f n:Nat):ez (.bg o f n:CV)=false:=rfl
@[simp] theorem LA (o f n:Nat):CV.cells (.bg o f n:CV)=[(.bg o f n:CV)]:=rfl
@[simp] theorem Kh (o f:Nat):ez (.ax o f:CV)=false:=rfl
@[simp] theorem KI (o f:Nat):CV.cells (.ax o f:CV)=[(.ax o f:CV)]:=rfl
@[simp] theorem MU (k:Nat)(es:List (Value×Value)):ez (.mp k es:CV)=false:=rfl
@[simp] theorem Ll (cs:List CV):ez (.agg cs)=false:=rfl
@[simp] theorem LC (cs:List CV):CV.cells (.agg cs)=cs:=rfl
@[simp] theorem Lg (cs:List CV):ez (.bY cs)=true:=rfl
@[simp] theorem Lw (cs:List CV):CV.cells (.bY cs)=[.bY cs]:=rfl
attribute [simp] Fm aE Gw H7 Co
attribute [simp] aP aU tree cK scalar one
attribute [simp] assoc jU sM St.put St.del ev Bk qX gD fA
attribute [simp] mI gB nR GJ fp bl jF zf bW zN FE xI ET uS
attribute [simp] Em Dd arith cun iz KG dM lK MY imax vX
attribute [simp] zx uJ gS mf TI.agg sC St.new Eg zD KL kZ iy mV zA lJ dJ sF oV
attribute [simp] pa cells? El C8
attribute [simp] bJ zb nr enter bQ kX pG oe pick St.trim uM St.cF wU uk St.own
attribute [simp] gC nw zC
attribute [simp] head?_drop
section
variable {P:Program}{C:Cx}{s:St}{ops:Array Oper}{av:List (Nat×TI)}{Q:Exit->St->Prop}{x y z:Code}
/- simp looks at the state alone, never at the code. -/
@[congr] theorem T_congr {s s':St}{c:Code}(h:s=s'):T P C c s Q=T P C c s' Q:=by rw[h]
@[congr] theorem TL_congr {s s':St}{l:List Oper}{K:St->Prop}(h:s=s'):TL P C ops l s K=TL P C ops l s' K:=by rw[h]
@[congr] theorem TH_congr {nt:Nat}{s s':St}{l:List Nat}{K:St->Prop}(h:s=s'):TH P av nt ops l s K=TH P av nt ops l s' K:=by rw[h]
attribute [simp] fj qe
def BV (P:Program)(C:Cx)(ops:Array Oper)(K:St->Prop):List Oper->St->Prop
 | [],s=>K s
 | o::r,s=>TL P C ops (o::r) s K
def thK (P:Program)(av:List (Nat×TI))(nt:Nat)(ops:Array Oper)(K:St->Prop):List Nat->St->Prop
 | [],s=>K s
 | i::r,s=>TH P av nt ops (i::r) s K
attribute [simp] BV thK
theorem TL.go' (ht:aD P av){K:St->Prop}{l:List Oper}(h:zN av C.nt ops (BV P C ops K) l s):TL P C ops l s K:=by
 refine HY ht l s ?_;have e:BV P C ops K=BV P C ops K:=rfl;revert h;have:∀ (l:List Oper) (s:St),zN av C.nt ops (BV P C ops K) l s->zN av C.nt ops (λ r s'=>TL P C ops r s' K) l s:=by
  intro l
  induction l with
  | nil=>intro s h;exact TL.nil h
  | cons o r ih=>
   intro s h;have fin:xI (zN av C.nt ops (BV P C ops K) r) (gB av C.nt ops s o)->xI (zN av C.nt ops (λ r s'=>TL P C ops r s' K) r) (gB av C.nt ops s o):=λ h=>by
    cases hs:gB av C.nt ops s o with
    | none=>rw[hs] at h;exact h.elim
    | some s'=>rw[hs] at h;exact ih s' h
   unfold zN at h |-;split
   ·rename_i hc;rw[if_pos hc] at h;split
    ·rename_i hg;rw[hg] at h;exact fin h
    ·rename_i hg;split at h
     ·rename_i V1;exact absurd V1 hg
     ·exact h
   ·rename_i hc;rw[if_neg hc] at h;exact fin h
 exact this l s
theorem TH.go' {nt:Nat}{K:St->Prop}{l:List Nat}(h:FE av nt ops (thK P av nt ops K) l s):TH P av nt ops l s K:=by
 refine HZ l s ?_;revert h;have:∀ (l:List Nat) (s:St),FE av nt ops (thK P av nt ops K) l s->FE av nt ops (λ r s'=>TH P av nt ops r s' K) l s:=by
  intro l
  induction l with
  | nil=>intro s h;exact h
  | cons i r ih=>
   intro s h;unfold FE at h |-;split
   ·rename_i hi;rw[hi] at h;exact h
   ·rename_i o hi;rw[hi] at h;have fin:xI (FE av nt ops (thK P av nt ops K) r) (jF av nt ops s o)->xI (FE av nt ops (λ r s'=>TH P av nt ops r s' K) r) (jF av nt ops s o):=λ h=>by
     cases hs:jF av nt ops s o with
     | none=>rw[hs] at h;exact h.elim
     | some s'=>rw[hs] at h;exact ih s' h
    simp only at h;split
    ·rename_i hc;rw[if_pos hc] at h;split
     ·rename_i hg;rw[hg] at h;exact fin h
     ·rename_i hg;split at h
      ·rename_i V1;exact absurd V1 hg
      ·exact h
    ·rename_i hc;rw[if_neg hc] at h;exact fin h
 exact this l s
theorem T.go' (ht:aD P av){id:Nat}{l:List Oper}(h:zN av C.nt l.toArray (BV P C l.toArray (Q .normal)) l s):T P C (.region id l.toArray false) s Q:=T.region (TL.go' ht h)
def GA (P:Program)(C:Cx)(av:List (Nat×TI))(l:List Oper)(tail:List Nat)(K:St->Prop)(s:St):Prop:=zN av C.nt l.toArray (BV P C l.toArray K) (tail.map (l.toArray.getD · default)) s
theorem T.Ls (ht:aD P av)(hm:P.follows .mixedOrders=true){id:Nat}{l:List Oper}(pre ord tail:List Nat)(hB:Ih l.toArray pre ord tail=true)
  (h:FE av C.nt l.toArray (thK P av C.nt l.toArray (GA P C av l tail (Q .normal))) (pre++ord) s):T P C (.region id l.toArray true) s Q:=
 T.draw ht hm pre ord tail hB (TH.La (TH.go' h))
where TH.La {nt:Nat} {l:List Oper} {tail:List Nat}:∀ {ord:List Nat} {s:St},TH P av nt l.toArray ord s (GA P C av l tail (Q .normal))->TH P av nt l.toArray ord s (λ s'=>TL P C l.toArray (tail.map (l.toArray.getD · default)) s' (Q .normal))
 | [],_,h=>TL.go' ht h
 | _::_,_,⟨o,r,h1,h2,h3⟩=>⟨o,r,h1,h2,TH.La h3⟩
theorem T.cut (J:St->Prop)(h:T P C x s (fj (aa C J) Q))(k:∀ s',J s'->T P C y s' Q):T P C (.seq x y) s Q:=
 T.seq (T.post h λ e s' q=>by
  cases e with
  | normal=>obtain⟨Q5,hj,hl⟩:=q;exact⟨Q5,k Q5 hj,hl⟩
  | _=>exact⟨s',q,Le.refl _⟩)
end
attribute [simp] GA
section
variable {P:Program}{C:Cx}{s:St}
def xT (l:Nat)(J:St->Prop)(Q:Exit->St->Prop):Exit->St->Prop
 | .goto m,s=>m=l/\J s
 | e,s=>Q e s
@[simp] theorem MR (l m:Nat)(J:St->Prop)(Q:Exit->St->Prop)(s:St):xT l J Q (.goto m) s=(m=l/\J s):=rfl
@[simp] theorem Ke (l:Nat)(J:St->Prop)(Q:Exit->St->Prop)(s:St):xT l J Q .normal s=Q .normal s:=rfl
@[simp] theorem Ox (l:Nat)(J:St->Prop)(Q:Exit->St->Prop)(s:St):xT l J Q .ret s=Q .ret s:=rfl
@[simp] theorem MT (l m:Nat)(J:St->Prop)(Q:Exit->St->Prop)(s:St):xT l J Q (.exit m) s=Q (.exit m) s:=rfl
theorem T.Jw {c rest:Code}{Q:Exit->St->Prop}(l:Nat)(I:Nat->St->Prop)(hf:findLabel c l=some rest)(first:T P C c s (xT l (λ s'=>∃ m,aa C (I m) s') Q))
  (pass:∀ n s,I n s->T P C rest s (xT l (λ s'=>∃ m,m<n/\aa C (I m) s') Q)):T P C (.scope c) s Q:=λ a w hr=>by
 classical
 let J:Nat->Act->World->Prop:=λ n a w=>∃ s,I n s/\Rel C s a w
 have hx:∀ a w,(∃ n,J n a w)->∃ n,J n a w/\∀ m,J m a w->n<=m:=λ a w ⟨n,hn⟩=>by
  induction n using Nat.strongRecOn with
  | _ n ih=>
   by_cases h:∃ m,m<n/\J m a w
   ·obtain⟨m,hm,hi⟩:=h;exact ih m hm hi
   ·exact⟨n,hn,λ m hm=>Nat.le_of_not_lt λ OT=>h ⟨m,OT,hm⟩⟩
 let μ:Act->World->Nat:=λ a w=>if h:∃ n,J n a w then (hx a w h).choose else 0
 have hμ:∀ a w (h:∃ n,J n a w),J (μ a w) a w/\∀ m,J m a w->μ a w<=m:=λ a w h=>by
  simp only[μ,dif_pos h];exact (hx a w h).choose_spec
 have up:∀ {n s' a' w'},aa C (I n) s'->Rel C s' a' w'->J n a' w':=λ⟨Q5,hi,hl⟩ hr=>⟨Q5,hi,hl _ _ hr⟩;refine wp_scope_jumps l (λ a w=>∃ n,J n a w) μ hf (wp_mono (first a w hr) λ e a' w' q=>?_) λ a w hJ=>?_
 ·obtain⟨s',q,Pu⟩:=q
  cases e with
  | goto m=>obtain⟨e,m,hm⟩:=q;exact⟨e,m,up hm Pu⟩
  | _=>exact⟨s',q,Pu⟩
 ·obtain⟨s1,hi,Qg⟩:=(hμ a w hJ).1;refine wp_mono (pass (μ a w) s1 hi a w Qg) λ e a' w' q=>?_;obtain⟨s',q,Pu⟩:=q
  cases e with
  | goto m=>
   obtain⟨e,m,hm,hi⟩:=q;exact⟨e,⟨m,up hi Pu⟩,Nat.lt_of_le_of_lt ((hμ a' w' ⟨m,up hi Pu⟩).2 m (up hi Pu)) hm⟩
  | _=>exact⟨s',q,Pu⟩
end
def Ii (C:Cx)(av:List (Nat×TI))(f:Func)(R:CV->St->Prop):Exit->St->Prop
 | .normal,s=>aa C (λ s'=>∃ r,bQ av f s'=some r/\R r s') s
 | .ret,s=>aa C (λ s'=>∃ r,bQ av f s'=some r/\R r s') s
 | _,_=>False
def Body (P:Program)(av:List (Nat×TI))(f:FuncId)(args:List CV)(H:List (Nat×Ob))(n:Nat)(R:CV->St->Prop):Prop:=
 ∃ fn c, P.funcs[f]? = some fn /\ fn.body = some c /\ (fn.name == "runtime.NumGoroutine") = false /\ args.length <= fn.ntmps /\
  ∀ C:Cx,C.nt=fn.ntmps->C.n0=n->T P C c ⟨(enter args).env,H,n⟩ (Ii C av fn R)
theorem Body.jb {P : Program} {av : List (Nat × TI)} {f : FuncId} {fn : Func} {c : Code} {args : List CV} {H : List (Nat × Ob)} {n : Nat} {R : CV -> St -> Prop} (hf : P.funcs[f]? = some fn) (hb : fn.body = some c) (hn : (fn.name == "runtime.NumGoroutine") = false)
  (ha:args.length<=fn.ntmps) (h:∀ C:Cx,C.nt=fn.ntmps->C.n0=n->T P C c ⟨(enter args).env,H,n⟩ (Ii C av fn R)):Body P av f args H n R:=⟨fn,c,hf,hb,hn,ha,h⟩
section
variable {P:Program}{C:Cx}{σ σ':Nat->Option OB}{s s':St}{a a':Act}{w w':World}{ops:Array Oper}{av:List (Nat×TI)}
def Cx.inner (C:Cx)(w:World)(σ:Nat->Option OB)(H:List (Nat×Ob))(nt:Nat)(hF:Je w C.F (λ b=>∃ o ob,assoc H o=some ob/\a9 σ o=some b))(n:Nat):Cx:=
 ⟨w,C.F,λ b=>∃ o ob,assoc H o=some ob/\a9 σ o=some b,hF,nt,σ,n⟩
theorem sd (h:aO C σ s a w){b:Nat}(hb:∃ o ob,assoc s.heap o=some ob/\a9 σ o=some b):b<w.heap.size/\¬ C.F b/\(C.own b\/C.w0.heap.size<=b):=by
 obtain⟨o,ob,ho,hb⟩:=hb;obtain⟨B,m1,_,_,_,m5⟩:=h.obj o ob ho;obtain⟨cur,n1,_,n3,n4,_⟩:=m5 b WH;exact⟨(Array.getElem?_eq_some_iff.1 n1).1,n3,n4⟩
theorem aO.inner (h:aO C σ s a w)(hF:Je w C.F (λ b=>∃ o ob,assoc s.heap o=some ob/\a9 σ o=some b))(nt:Nat){args:List CV}{vs:List Value}(hv:a7 w (FB C σ s.heap) σ args vs)(ha:args.length<=nt) :
  aO (C.inner w σ s.heap nt hF s.nx) σ ⟨(enter args).env,s.heap,s.nx⟩ { tmps:=vs.toArray++Array.replicate (nt-vs.toArray.size) undef,defers:=[] } w:=by
 have hl:=a7.length _ _ hv;refine⟨rfl,by simp[Cx.inner];omega,rfl,rfl,rfl,Nat.le_refl _,λ _ _ _=>rfl,?_,?_,h.inj,h.nx,λ _ _=>rfl,Nat.le_refl _,λ o B b ho hB _=>(by rw[h.nx o ho] at hB;cases hB)⟩
 ·intro t c hc;obtain⟨_,h2⟩:=gj args 0 t c hc;obtain⟨v,h3,h4⟩:=a7.get _ _ hv t c yC;refine⟨v,?_,h4⟩;have OT:=(List.getElem?_eq_some_iff.1 h3).1;simp only;rw[Array.getElem?_append_left (by simpa using OT)]
  simpa using h3
 ·intro o ob ho;obtain⟨B,m1,m2,m3,m4,m5⟩:=h.obj o ob ho;refine⟨B,m1,m2,m3,m4,λ b hb=>?_⟩;obtain⟨cur,n1,n2,n3,n4,n5,n6⟩:=m5 b hb;exact⟨cur,n1,n2,n3,.inl ⟨o,ob,ho,by simp[a9,m1,hb]⟩,n5,n6⟩
theorem aO.back (h:aO C σ s a w){hF:Je w C.F (λ b=>∃ o ob,assoc s.heap o=some ob/\a9 σ o=some b)}{nt:Nat}(h':aO (C.inner w σ s.heap nt hF s.nx) σ' s' a' w'):aO C σ' ⟨s.env,s'.heap,s'.nx⟩ a w':=by
 have Po:∀ b,b<w.heap.size->(¬ ∃ o ob,assoc s.heap o=some ob/\a9 σ o=some b)->w'.heap[b]? = w.heap[b]?:=λ b hb hn=>h'.frame b hb hn;have RB:∀ o ob b,assoc s'.heap o=some ob->a9 σ' o=some b->(∃ o ob,assoc s.heap o=some ob/\a9 σ o=some b)\/w.heap.size<=b:=λ o ob b ho hb=>by
  obtain⟨B,m1,_,_,_,m5⟩:=h'.obj o ob ho;obtain⟨cur,_,_,_,n4,_⟩:=m5 b WH;exact n4
 refine⟨h.oz,h.tm,h'.os.trans h.os,h'.tape.trans h.tape,h'.output.trans h.output,Nat.le_trans h.size h'.size,?_,?_,?_,h'.inj,h'.nx,λ o ho=>(h'.fX o (Nat.lt_of_lt_of_le ho h.low)).trans (h.fX o ho),Nat.le_trans h.low h'.low,λ o B b ho hB hb=>?_⟩
 ·intro b hb Qc;rw[Po b (Nat.lt_of_lt_of_le hb h.size) λ hx=>?_]
  ·exact h.frame b hb Qc
  ·rcases (sd h hx).2.2 with h1 | h1
   ·exact Qc h1
   ·omega
 ·intro t c hc;obtain⟨v,k1,k2⟩:=h.env t c hc;refine⟨v,k1,VR.bL ⟨λ ad u hf hu=>?_,λ r _ hf hu _=>?_⟩ _ _ (λ o ho=>?_) k2⟩
  case refine_3=>
   refine h'.fX o (Nat.lt_of_not_le λ hle=>?_);obtain⟨B,hB⟩:=VR.refs _ _ o k2 ho;rw[h.nx o hle] at hB;cases hB
  ·have OT:=World.block_lt_of_cell? w ad hu;have Qc:¬ ∃ o ob,assoc s.heap o=some ob/\a9 σ o=some ad.block:=λ hx=>hf (.inr hx);refine⟨by rw[World.cell?_of_block (w:=w) (Po ad.block OT Qc)];exact hu,?_⟩;rintro (hx | ⟨o,ob,ho,hb⟩)
   ·exact hf (.inl hx)
   ·rcases RB o ob _ ho hb with h1 | h1
    ·exact Qc h1
    ·omega
  ·have OT:=(Array.getElem?_eq_some_iff.1 hu).1;have Qc:¬ ∃ o ob,assoc s.heap o=some ob/\a9 σ o=some r:=λ hx=>hf (.inr hx);refine⟨by rw[Po r OT Qc];exact hu,?_⟩;rintro (hx | ⟨o,ob,ho,hb⟩)
   ·exact hf (.inl hx)
   ·rcases RB o ob _ ho hb with h1 | h1
    ·exact Qc h1
    ·omega
 ·intro o ob ho;obtain⟨B,m1,m2,m3,m4,m5⟩:=h'.obj o ob ho;refine⟨B,m1,m2,m3,m4,λ b hb=>?_⟩;obtain⟨cur,n1,n2,n3,n4,n5,n6⟩:=m5 b hb;refine⟨cur,n1,n2,n3,?_,n5,n6⟩;rcases n4 with n4 | n4
  ·exact (sd h n4).2.2
  ·exact .inr (Nat.le_trans h.size n4)
 ·rcases Nat.lt_or_ge o s.nx with OT | SD
  ·rw[h'.fX o OT] at hB;exact h.new o B b ho hB hb
  ·rcases h'.new o B b SD hB hb with n4 | n4
   ·exact (sd h n4).2.2
   ·exact .inr (Nat.le_trans h.size n4)
end
end Go.Can
