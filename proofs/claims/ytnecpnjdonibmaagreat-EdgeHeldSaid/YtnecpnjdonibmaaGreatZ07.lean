/- What may be said anew of a state: entries forgotten, objects -/
import Derived.Test.YtnecpnjdonibmaaGreatZ06
namespace Go.Can
open Go.RowKit
def Le (C:Cx)(s s':St):Prop:=∀ (a:Act) (w:World),Rel C s a w→Rel C s' a w
section
variable {C:Cx}
theorem Le.refl (s:St):Le C s s:=fun _ _ h=>h
theorem Le.trans {s s' QA:St}(h:Le C s s')(k:Le C s' QA):Le C s QA:=fun a w hr=>k a w (h a w hr)
def pick {α:Type}(l:List (Nat×α)):List Nat→List (Nat×α)
 | []=>[]
 | t::r=>match assoc l t with
  | some c=>(t,c)::pick l r
  | none=>pick l r
theorem eD {α:Type}(l:List (Nat×α)):∀ (ks:List Nat) (t:Nat) (c:α),assoc (pick l ks) t=some c→assoc l t=some c
 | [],_,_,h=>by simp[pick,assoc] at h
 | k::r,t,c,h=>by
  simp only[pick] at h;split at h
  ·rename_i x hx;simp only[assoc] at h;split at h
   ·rename_i e;subst e;cases h;exact hx
   ·exact eD l r t c h
  ·exact eD l r t c h
mutual
def a9 (n:Nat):CV→Bool
 | .iter o _ _=>decide (o<n)
 | .mp o _=>decide (o<n)
 | .bl o _ _=>decide (o<n)
 | .ax o _=>decide (o<n)
 | .agg cs=>aX n cs
 | .fn _ cs=>aX n cs
 | .iface _ cs=>aX n cs
 | .dS cs=>aX n cs
 | _=>true
def aX (n:Nat):List CV→Bool
 | []=>true
 | c::cs=>a9 n c && aX n cs
end
mutual
theorem lM (n:Nat):∀ (c:CV) (o:Nat),a9 n c=true→aL o c=false→o<n
 | .bl p _ _,o,h,hr=>by
  have:p=o:=by simpa [aL] using hr
  subst this;simpa [a9] using h
 | .ax p _,o,h,hr=>by
  have:p=o:=by simpa [aL] using hr
  subst this;simpa [a9] using h
 | .agg cs,o,h,hr=>eX n cs o (by simpa [a9] using h) (by simpa [aL] using hr)
 | .fn _ cs,o,h,hr=>eX n cs o (by simpa [a9] using h) (by simpa [aL] using hr)
 | .iface _ cs,o,h,hr=>eX n cs o (by simpa [a9] using h) (by simpa [aL] using hr)
 | .dS cs,o,h,hr=>eX n cs o (by simpa [a9] using h) (by simpa [aL] using hr)
 | .int _ _,_,_,hr=>by simp[aL] at hr
 | .bool _,_,_,hr=>by simp[aL] at hr
 | .str _,_,_,hr=>by simp[aL] at hr
 | .aA _ _,_,_,hr=>by simp[aL] at hr
 | .aa,_,_,hr=>by simp[aL] at hr
 | .cG _,_,_,hr=>by simp[aL] at hr
 | .bL,_,_,hr=>by simp[aL] at hr
 | .cA,_,_,hr=>by simp[aL] at hr
 | .iter p _ _,o,h,hr=>by
  simp only[aL,bne_eq_false_iff_eq] at hr;subst hr
  simpa [a9] using h
 | .mp p _,o,h,hr=>by
  simp only[aL,bne_eq_false_iff_eq] at hr;subst hr
  simpa [a9] using h
theorem eX (n:Nat):∀ (cs:List CV) (o:Nat),aX n cs=true→dK o cs=false→o<n
 | [],_,_,hr=>by simp[dK] at hr
 | c::cs,o,h,hr=>by
  simp only[aX,Bool.and_eq_true] at h;simp only[dK,Bool.and_eq_false_iff] at hr;rcases hr with hr | hr
  ·exact lM n c o h.1 hr
  ·exact eX n cs o h.2 hr
end
def St.trim (s:St)(ks os:List Nat)(n:Nat):St:=⟨pick s.env ks,pick s.heap os,n⟩
def uJ (s:St)(ks os:List Nat)(n:Nat):Bool:=
 (pick s.env ks).all (fun x=>a9 n x.2) && (pick s.heap os).all fun x=>decide (x.1<n) && aX n x.2.cells
theorem Le.trim {s:St}(ks os:List Nat)(n:Nat)(h:uJ s ks os n=true)(Sl:C.n0≤n):Le C s (s.trim ks os n):=by
 intro a w ⟨σ,hr⟩;simp only[uJ,Bool.and_eq_true] at h;obtain⟨h1,h2⟩:=h;rw[List.all_eq_true] at h1 h2;have hs:∀ {o},o<n→(if o<n then σ o else none)=σ o:=fun {o} ho=>by rw[if_pos ho]
 have hF:∀ b,FB C (fun o=>if o<n then σ o else none) (pick s.heap os) b→FB C σ s.heap b:=by
  rintro b (hb | ⟨o,ob,ho,hb⟩)
  ·exact .inl hb
  ·have:=h2 _ (bD _ _ _ ho);simp only[Bool.and_eq_true,decide_eq_true_eq] at this;simp only[aY,hs this.1] at hb;exact .inr ⟨o,ob,eD _ _ _ _ ho,hb⟩
 have hk:cw w w (FB C σ s.heap) (FB C (fun o=>if o<n then σ o else none) (pick s.heap os)):=⟨fun ad u hf hu=>⟨hu,fun h=>hf (hF _ h)⟩,fun r _ hf hu _=>⟨hu,fun h=>hf (hF _ h)⟩⟩;refine⟨fun o=>if o<n then σ o else none,hr.nk,hr.tm,hr.os,hr.tape,hr.output,hr.size,hr.frame,?_,?_,?_,?_,fun o ho=>by rw[hs (Nat.lt_of_lt_of_le ho Sl)];exact hr.fh o ho,Sl,fun o B b ho hB hb=>?_⟩
 ·intro t c hc;have hm:=h1 _ (bD _ _ _ hc);obtain⟨v,k1,k2⟩:=hr.env t c (eD _ _ _ _ hc);exact⟨v,k1,VR.bk hk c v (fun o ho=>hs (lM n c o hm ho)) k2⟩
 ·intro o ob ho;have hm:=h2 _ (bD _ _ _ ho);simp only[Bool.and_eq_true,decide_eq_true_eq] at hm;obtain⟨B,m1,m2,m3,m4,m5⟩:=hr.obj o ob (eD _ _ _ _ ho);refine⟨B,by simp only[hs hm.1];exact m1,m2,m3,m4,fun b hb=>?_⟩;obtain⟨cur,n1,n2,n3,n4,n5,n6⟩:=m5 b hb;exact⟨cur,n1,n2,n3,n4,n5,aS.bk hk _ _ (fun p hp=>hs (eX n _ p hm.2 hp)) n6⟩
 ·intro o o' ob Pk b ho Py hb Po;have hm:=h2 _ (bD _ _ _ ho);have UQ:=h2 _ (bD _ _ _ Py);simp only[Bool.and_eq_true,decide_eq_true_eq] at hm UQ;simp only[aY,hs hm.1] at hb;simp only[aY,hs UQ.1] at Po;exact hr.inj o o' ob Pk b (eD _ _ _ _ ho) (eD _ _ _ _ Py) hb Po
 ·intro o ho;simp only[St.trim] at ho;rw[if_neg yA]
 ·split at hB
  ·exact hr.new o B b ho hB hb
  ·cases hB
theorem Le.env {s:St}(ks:List Nat):Le C s { s with env:=pick s.env ks }:=by
 intro a w ⟨σ,hr⟩;exact⟨σ,hr.nk,hr.tm,hr.os,hr.tape,hr.output,hr.size,hr.frame,fun t c hc=>hr.env t c (eD _ _ _ _ hc),hr.obj,hr.inj,hr.nx,hr.fh,hr.low,hr.new⟩
mutual
def cH (o:Nat)(cells:List CV)(sz:Nat):CV→CV
 | .bl p off n=>if p=o then .aA ((cells.drop off).take (n*sz)) n else .bl p off n
 | .ax p off=>if p=o then .cG (cells.drop off) else .ax p off
 | .agg cs=>.agg (iv o cells sz cs)
 | .fn f cs=>.fn f (iv o cells sz cs)
 | .iface f cs=>.iface f (iv o cells sz cs)
 | .dS cs=>.dS (iv o cells sz cs)
 | .int k n=>.int k n
 | .bool b=>.bool b
 | .str b=>.str b
 | .aA cs n=>.aA cs n
 | .aa=>.aa
 | .cG cs=>.cG cs
 | .bL=>.bL
 | .cA=>.cA
 | .iter k s p=>.iter k s p
 | .mp k es=>.mp k es
 | .any=>.any
def iv (o:Nat)(cells:List CV)(sz:Nat):List CV→List CV
 | []=>[]
 | c::cs=>cH o cells sz c::iv o cells sz cs
end
theorem KR {o:Nat}{cells:List CV}{sz:Nat}:∀ c,one (cH o cells sz c)=one c
 | .bl p off n=>by simp only[cH];split<;>rfl
 | .ax p off=>by simp only[cH];split<;>rfl
 | .agg _=>rfl
 | .fn _ _=>rfl
 | .iface _ _=>rfl
 | .dS _=>rfl
 | .int _ _=>rfl
 | .bool _=>rfl
 | .str _=>rfl
 | .aA _ _=>rfl
 | .aa=>rfl
 | .any=>rfl
 | .cG _=>rfl
 | .bL=>rfl
 | .cA=>rfl
 | .iter _ _ _=>rfl
 | .mp _ _=>rfl
theorem vK {o:Nat}{cells:List CV}{sz:Nat}:∀ cs:List CV,(iv o cells sz cs).all one=cs.all one
 | []=>rfl
 | c::cs=>by simp only[iv,List.all_cons,KR,vK cs]
theorem pV {o:Nat}{cells:List CV}{sz:Nat}:∀ cs:List CV,(iv o cells sz cs).length=cs.length
 | []=>rfl
 | c::cs=>by simp only[iv,List.length_cons,pV cs]
def xa (o:Nat)(cells:List CV)(sz:Nat):List (Nat×CV)→List (Nat×CV)
 | []=>[]
 | (t,c)::r=>(t,cH o cells sz c)::xa o cells sz r
def tK (o:Nat)(cells:List CV)(sz:Nat):List (Nat×Ob)→List (Nat×Ob)
 | []=>[]
 | (p,x)::r=>if p=o then tK o cells sz r else (p,{ x with cells:=iv o cells sz x.cells })::tK o cells sz r
def St.dp (s:St)(o:Nat)(ob:Ob):St:=⟨xa o ob.cells ob.sz s.env,tK o ob.cells ob.sz s.heap,s.nx⟩
theorem wu {o:Nat}{cells:List CV}{sz:Nat}:∀ (l:List (Nat×CV)) (t:Nat) (c:CV),assoc (xa o cells sz l) t=some c→∃ d,assoc l t=some d∧c=cH o cells sz d
 | [],_,_,h=>by simp[xa,assoc] at h
 | (k,x)::r,t,c,h=>by
  simp only[xa,assoc] at h ⊢;split at h
  ·rename_i e;rw[if_pos e];cases h;exact⟨x,rfl,rfl⟩
  ·rename_i e;rw[if_neg e];exact wu r t c h
theorem fQ {o:Nat}{cells:List CV}{sz:Nat}:∀ (l:List (Nat×Ob)) (p:Nat) (x:Ob),assoc (tK o cells sz l) p=some x→p≠o∧∃ y,assoc l p=some y∧x={ y with cells:=iv o cells sz y.cells }
 | [],_,_,h=>by simp[tK,assoc] at h
 | (k,y)::r,p,x,h=>by
  simp only[tK] at h;split at h
  ·rename_i hk;obtain⟨h1,z,h2,h3⟩:=fQ r p x h;refine⟨h1,z,?_,h3⟩;simp only[assoc];rw[if_neg (fun e=>h1 (by rw[← e,hk]))];exact h2
  ·rename_i hk;simp only[assoc] at h;split at h
   ·rename_i e;cases h;subst e;exact⟨hk,y,by simp[assoc],rfl⟩
   ·rename_i e;obtain⟨h1,z,h2,h3⟩:=fQ r p x h;exact⟨h1,z,by simp only[assoc];rw[if_neg e];exact h2,h3⟩
section
variable {w:World}{F F':Nat→Prop}{σ:Nat→Option OB}{o sz:Nat}{cells:List CV}{B:OB}
mutual
theorem Eh (hk:cw w w F F')(hB:σ o=some B)(O9:B.sz=sz)(hm:∀ b,B.kj=some b→∀ k,gD w F' (cells.drop k) ⟨b,k,none⟩):∀ (c:CV) (v:Value),VR w F σ c v→VR w F' σ (cH o cells sz c) v
 | .bl p off n,v,hv=>by
  simp only[cH];split
  ·rename_i e;subst e;simp only[VR] at hv;obtain⟨B',Q3,hv⟩:=hv;rw[hB] at Q3;cases Q3;split at hv
   ·obtain⟨rfl,rfl,rfl⟩:=hv;simp only[VR,cq];exact⟨none,0,rfl,Nat.le_refl _,Nat.zero_le _,.inl ⟨trivial,by simp⟩⟩
   ·rename_i b hb;obtain⟨cap,rfl,h1,h2,_⟩:=hv;simp only[VR,cq];exact⟨_,cap,rfl,h1,h2,.inr ⟨_,rfl,gD.take _ _ _ (hm b hb off)⟩⟩
  ·exact VR.bk hk _ _ (fun _ _=>rfl) hv
 | .ax p off,v,hv=>by
  simp only[cH];split
  ·rename_i e;subst e;simp only[VR] at hv;obtain⟨B',b,Q3,hb,rfl⟩:=hv;rw[hB] at Q3;cases Q3;simp only[VR,cq];exact⟨_,rfl,hm b hb off⟩
  ·exact VR.bk hk _ _ (fun _ _=>rfl) hv
 | .agg cs,v,hv=>by
  simp only[cH,VR] at hv ⊢;obtain⟨vs,e,r,h1⟩:=hv;exact⟨vs,e,lU hk hB O9 hm cs vs r,by rw[vK];exact h1⟩
 | .fn f cs,v,hv=>by
  simp only[cH,VR] at hv ⊢;obtain⟨vs,e,r⟩:=hv;exact⟨vs,e,lU hk hB O9 hm cs vs r⟩
 | .iface f cs,v,hv=>by
  simp only[cH,VR] at hv ⊢;obtain⟨vs,e,r⟩:=hv;exact⟨vs,e,lU hk hB O9 hm cs vs r⟩
 | .dS cs,v,hv=>by
  simp only[cH,VR] at hv ⊢;obtain⟨vs,e,r⟩:=hv;exact⟨vs,e,lU hk hB O9 hm cs vs r⟩
 | .int k n,v,hv=>by simp only[cH];exact VR.bk hk _ _ (fun _ _=>rfl) hv
 | .bool b,v,hv=>by simp only[cH];exact VR.bk hk _ _ (fun _ _=>rfl) hv
 | .str b,v,hv=>by simp only[cH];exact VR.bk hk _ _ (fun _ _=>rfl) hv
 | .aA cs n,v,hv=>by simp only[cH];exact VR.bk hk _ _ (fun _ _=>rfl) hv
 | .aa,v,hv=>by simp only[cH];exact VR.bk hk _ _ (fun _ _=>rfl) hv
 | .cG cs,v,hv=>by simp only[cH];exact VR.bk hk _ _ (fun _ _=>rfl) hv
 | .bL,v,hv=>by simp only[cH];exact VR.bk hk _ _ (fun _ _=>rfl) hv
 | .cA,v,hv=>by simp only[cH];exact VR.bk hk _ _ (fun _ _=>rfl) hv
 | .iter _ _ _,v,hv=>by simp only[cH];exact VR.bk hk _ _ (fun _ _=>rfl) hv
 | .mp _ _,v,hv=>by simp only[cH];exact VR.bk hk _ _ (fun _ _=>rfl) hv
 | .any,v,hv=>by simpa [cH,VR] using hv
theorem lU (hk:cw w w F F')(hB:σ o=some B)(O9:B.sz=sz)(hm:∀ b,B.kj=some b→∀ k,gD w F' (cells.drop k) ⟨b,k,none⟩):∀ (cs:List CV) (vs:List Value),aS w F σ cs vs→aS w F' σ (iv o cells sz cs) vs
 | [],_,hv=>by simpa [iv,aS] using hv
 | c::cs,vs,hv=>by
  simp only[iv,aS] at hv ⊢;obtain⟨v,r,e,h1,h2⟩:=hv;exact⟨v,r,e,Eh hk hB O9 hm c v h1,lU hk hB O9 hm cs r h2⟩
end
end
theorem aM.dp {C:Cx}{σ:Nat→Option OB}{a:Act}{w:World}{s:St}(hr:aM C σ s a w){o:Nat}{ob:Ob}(ho:assoc s.heap o=some ob)(ht:trees ob.cells=true):aM C σ (s.dp o ob) a w:=by
 obtain⟨B,hB,O9,hn,h1,h5⟩:=hr.obj o ob ho;have hF:∀ b,FB C σ (tK o ob.cells ob.sz s.heap) b→FB C σ s.heap b:=by
  rintro b (hb | ⟨p,x,hp,hb⟩)
  ·exact .inl hb
  ·obtain⟨_,y,hy,_⟩:=fQ _ _ _ hp;exact .inr ⟨p,y,hy,hb⟩
 have hk:cw w w (FB C σ s.heap) (FB C σ (tK o ob.cells ob.sz s.heap)):=⟨fun ad u hf hu=>⟨hu,fun h=>hf (hF _ h)⟩,fun r _ hf hu _=>⟨hu,fun h=>hf (hF _ h)⟩⟩;have hm:∀ b,B.kj=some b→∀ k,gD w (FB C σ (tK o ob.cells ob.sz s.heap)) (ob.cells.drop k) ⟨b,k,none⟩:=fun b hb k=>by
  obtain⟨cur,k1,k2,k3,k4,k5,k6⟩:=h5 b hb;have VN:¬ FB C σ (tK o ob.cells ob.sz s.heap) b:=by
   rintro (hf | ⟨p,x,hp,SW⟩)
   ·exact k3 hf
   ·obtain⟨Pf,y,hy,_⟩:=fQ _ _ _ hp;exact Pf (hr.inj p o y ob b hy ho SW (by simp[aY,hB,hb]))
  have h2:gD w (FB C σ (tK o ob.cells ob.sz s.heap)) ob.cells ⟨b,0,none⟩:=gg _ _ _ (bW.bk hk.1 _ _ (aS.ec _ _ ht k6)) h1 VN fun j u hu=>by
   rw[add_lit,Nat.zero_add,cell_of_row w b j cur _ _ k1];rw[List.getElem?_take] at hu;split at hu
   ·simpa using hu
   ·cases hu
  have:=h2.drop k;rwa [add_lit,Nat.zero_add] at this
 refine⟨hr.nk,hr.tm,hr.os,hr.tape,hr.output,hr.size,hr.frame,?_,?_,?_,hr.nx,hr.fh,hr.low,hr.new⟩
 ·intro t c hc;obtain⟨d,hd,rfl⟩:=wu _ _ _ hc;obtain⟨v,k1,k2⟩:=hr.env t d hd;exact⟨v,k1,Eh hk hB O9 hm d v k2⟩
 ·intro p x hp;obtain⟨Pf,y,hy,rfl⟩:=fQ _ _ _ hp;obtain⟨B',m1,m2,m3,m4,m5⟩:=hr.obj p y hy;refine⟨B',m1,m2,fun hn=>?_,by rw[vK];exact m4,fun b hb=>?_⟩
  ·rw[m3 hn];rfl
  ·obtain⟨cur,n1,n2,n3,n4,n5,n6⟩:=m5 b hb;refine⟨cur,n1,n2,n3,n4,by rw[pV];exact n5,?_⟩;rw[pV];exact lU hk hB O9 hm _ _ n6
 ·intro p q x y b hp hq hb Po;obtain⟨_,x',hx,_⟩:=fQ _ _ _ hp;obtain⟨_,y',hy,_⟩:=fQ _ _ _ hq;exact hr.inj p q x' y' b hx hy hb Po
theorem Le.dp {s:St}{o:Nat}{ob:Ob}(ho:assoc s.heap o=some ob)(ht:trees ob.cells=true):Le C s (s.dp o ob):=fun _ _ ⟨σ,hr⟩=>⟨σ,hr.dp ho ht⟩
def St.own (s:St)(t:Nat)(e:TypeId)(sz:Nat):St:={ env:=rF s.env t (.bl s.nx 0 0),heap:=(s.nx,⟨e,sz,[]⟩)::s.heap,nx:=s.nx+1 }
theorem Le.own {s:St}(t:Nat)(e:TypeId)(sz:Nat)(ht:assoc s.env t=some .aa):Le C s (s.own t e sz):=by
 intro a w ⟨σ,hr⟩;obtain⟨h1,h2⟩:=hr.fresh (World.grownBy.refl w none) (ob:=⟨e,sz,[]⟩) (B:=⟨none,0,sz⟩) rfl rfl (fun _=>rfl) (fun b hb=>by cases hb);refine⟨_,h1.nk,h1.tm,h1.os,h1.tape,h1.output,h1.size,h1.frame,?_,h1.obj,h1.inj,h1.nx,h1.fh,h1.low,h1.new⟩;intro u c hc;simp only[St.own] at hc;rw[eP] at hc;split at hc
 ·rename_i eu;subst eu;rw[ht] at hc;simp only[Option.map_some,Option.some.injEq] at hc;subst hc;obtain⟨v,k1,k2⟩:=hr.env t _ ht;simp only[VR] at k2;subst k2;refine⟨_,k1,?_⟩;simp only[VR];exact⟨_,dv,by simp⟩
 ·exact h1.env u c hc
section
variable {P:Program}{C:Cx}{s:St}{ops:Array Oper}{ak:List (Nat×TI)}
theorem T.le {s':St}{c:Code}{Q:Exit→St→Prop}(h:Le C s s')(ht:T P C c s' Q):T P C c s Q:=fun a w hr=>ht a w (h a w hr)
theorem T.post {c:Code}{Q Q':Exit→St→Prop}(h:T P C c s Q')(hq:∀ e s',Q' e s'→∃ QA,Q e QA∧Le C s' QA):T P C c s Q:=fun a w hr=>
 wp_mono (h a w hr) fun e a' w' ⟨s',q,r⟩=>by
  obtain⟨QA,q',l⟩:=hq e s' q;exact⟨QA,q',l a' w' r⟩
theorem TL.le {s':St}{l:List Oper}{K:St→Prop}(h:Le C s s')(ht:TL P C ops l s' K):TL P C ops l s K:=fun a w Q hr hQ=>ht a w Q (h a w hr) hQ
def ae (C:Cx)(I:St→Prop)(s:St):Prop:=∃ s',I s'∧Le C s s'
theorem T.aH {c:Code}{Q:Exit→St→Prop}(I:Nat→St→Prop){n:Nat}(h₀:ae C (I n) s)(round:∀ n s,I n s→T P C c s (eU (fun s'=>∃ m,m<n∧ae C (I m) s') Q)):T P C (.loop c) s Q:=by
 obtain⟨s',h0,l0⟩:=h₀;refine T.le l0 (T.loop I h0 fun n s hi=>T.post (round n s hi) fun e s' q=>?_)
 cases e with
 | normal=>
  obtain⟨m,hm,QA,hi,hl⟩:=q;exact⟨QA,⟨m,hm,hi⟩,hl⟩
 | _=>exact⟨s',q,Le.refl _⟩
def Nq (C:Cx)(ak:List (Nat×TI))(f:Func)(r:CV):Exit→St→Prop
 | .normal,s=>ae C (fun s=>bG ak f s=some r) s
 | .ret,s=>ae C (fun s=>bG ak f s=some r) s
 | _,_=>False
theorem af.aK (Rp : aG P ak) {f : FuncId} {fn : Func} {c : Code} {args : List CV} {r : CV} (hf : P.funcs[f]? = some fn) (hb : fn.body = some c) (hn : (fn.name == "runtime.NumGoroutine") = false)
  (ha:args.length≤fn.ntmps) (ht:tree r=true) (h:∀ C:Cx,C.nt=fn.ntmps→C.n0=0→T P C c (enter args) (Nq C ak fn r)):af P f args r:=
 af.jA Rp hf hb hn ha ht fun C hC O0=>T.post (h C hC O0) fun e s' q=>by
  cases e with
  | normal=>exact q
  | ret=>exact q
  | _=>exact q.elim
def zt (o:Oper):Bool:=match o.op with
 | .call c=>match c.callee with
  | .builtin _=>false
  | _=>true
 | _=>false
def bZ (ops:Array Oper)(s:St)(o:Oper):Option Bool:=match o.guard with
 | none=>some true
 | some (j,want)=>match (ops[j]?).bind (·.dst) with
  | none=>none
  | some t=>mo (assoc s.env t) want
def z7 (ak:List (Nat×TI))(nt:Nat)(ops:Array Oper)(K:List Oper→St→Prop):List Oper→St→Prop
 | [],s=>K [] s
 | o::r,s=>if zt o then
   match bZ ops s o with
   | some false=>xM (z7 ak nt ops K r) (fk ak nt ops s o)
   | _=>K (o::r) s
  else xM (z7 ak nt ops K r) (fk ak nt ops s o)
theorem ID (ht:aG P ak){K:St→Prop}:∀ (l:List Oper) (s:St),z7 ak C.nt ops (fun r s'=>TL P C ops r s' K) l s→TL P C ops l s K
 | [],_,h=>h
 | o::r,s,h=>by
  have fin:xM (z7 ak C.nt ops (fun r s'=>TL P C ops r s' K) r) (fk ak C.nt ops s o)→TL P C ops (o::r) s K:=fun h=>by
   cases hs:fk ak C.nt ops s o with
   | none=>rw[hs] at h;exact h.elim
   | some s'=>rw[hs] at h;exact TL.step ht hs (ID ht r s' h)
  unfold z7 at h;split at h
  ·split at h
   ·exact fin h
   ·exact h
  ·exact fin h
theorem sW {e:Option CV}{want:Bool}(h:mo e want=some true):e=some (.bool want):=by
 unfold mo at h;split at h
 ·rename_i b;simp only[Option.some.injEq,beq_iff_eq] at h;subst h;rfl
 ·cases h
 ·cases h
def bq (ak:List (Nat×TI))(nt:Nat)(ops:Array Oper)(s:St)(o:Oper):Option St:=
 if a6 nt o.dst then
  match o.guard with
  | none=>(cY ak s o.op).map (s.put o.dst)
  | some (j,want)=>match (ops[j]?).bind (·.dst) with
   | none=>none
   | some t=>match mo (assoc s.env t) want with
    | some true=>(cY ak s o.op).map (s.put o.dst)
    | some false=>some (s.put o.dst (.dS []))
    | none=>none
 else none
theorem Bg {nt:Nat}{o:Oper}{s':St}(h:bq ak nt ops s o=some s'):∃ r,tv P ak nt ops s o r∧eY s o.dst r=s':=by
 unfold bq at h;split at h
 ·rename_i hd;split at h
  ·rename_i hg;obtain⟨c,hc,rfl⟩:=Option.map_eq_some_iff.1 h;exact⟨some c,⟨hd,.inr ⟨.inl hg,c,rfl,.inl hc⟩⟩,rfl⟩
  ·rename_i j want hg;split at h
   ·cases h
   rename_i t hj;split at h
   ·rename_i hb;obtain⟨c,hc,rfl⟩:=Option.map_eq_some_iff.1 h;exact⟨some c,⟨hd,.inr ⟨.inr ⟨j,want,t,hg,hj,sW hb⟩,c,rfl,.inl hc⟩⟩,rfl⟩
   ·rename_i hb;cases h;exact⟨some (.dS []),⟨hd,.inl ⟨j,want,t,hg,hj,hb,rfl⟩⟩,rfl⟩
   ·cases h
 ·cases h
def Ee (ak:List (Nat×TI))(nt:Nat)(ops:Array Oper)(K:List Nat→St→Prop):List Nat→St→Prop
 | [],s=>K [] s
 | i::r,s=>match ops[i]? with
  | none=>False
  | some o=>if zt o then
    match bZ ops s o with
    | some false=>xM (Ee ak nt ops K r) (bq ak nt ops s o)
    | _=>K (i::r) s
   else xM (Ee ak nt ops K r) (bq ak nt ops s o)
theorem IE {nt:Nat}{K:St→Prop}:∀ (l:List Nat) (s:St),Ee ak nt ops (fun r s'=>TH P ak nt ops r s' K) l s→TH P ak nt ops l s K
 | [],_,h=>h
 | i::r,s,h=>by
  unfold Ee at h;split at h
  ·exact h.elim
  rename_i o ho;have fin:xM (Ee ak nt ops (fun r s'=>TH P ak nt ops r s' K) r) (bq ak nt ops s o)→TH P ak nt ops (i::r) s K:=fun h=>by
   cases hs:bq ak nt ops s o with
   | none=>rw[hs] at h;exact h.elim
   | some s'=>
    rw[hs] at h;obtain⟨x,k1,k2⟩:=Bg (P:=P) hs;exact⟨o,x,ho,k1,by rw[k2];exact IE r s' h⟩
  split at h
  ·split at h
   ·exact fin h
   ·exact h
  ·exact fin h
theorem TH.call {nt:Nat}{K:St→Prop}{i:Nat}{r:List Nat}{o:Oper}{c:Call}{x:CV}(hi:ops[i]? = some o)(hd:a6 nt o.dst=true)(hg:bZ ops s o=some true)(ho:o.op=.call c)(hc:bN P s c x)(h:TH P ak nt ops r (s.put o.dst x) K) :
  TH P ak nt ops (i::r) s K:=by
 refine⟨o,some x,hi,⟨hd,.inr ⟨?_,x,rfl,.inr ⟨c,ho,hc⟩⟩⟩,h⟩;unfold bZ at hg;split at hg
 ·rename_i e;exact .inl e
 ·rename_i j want e;split at hg
  ·cases hg
  rename_i t hj;exact .inr ⟨j,want,t,e,hj,sW hg⟩
end
end
section
variable {P:Program}{C:Cx}{s:St}{ops:Array Oper}{ak:List (Nat×TI)}{Q:Exit→St→Prop}{x y z:Code}
theorem T.cond_true {c:Operand}(hc:ev s c=some (.bool true))(h:T P C x s Q):T P C (.cond c x y) s Q:=T.cond hc RC
theorem T.cond_false {c:Operand}(hc:ev s c=some (.bool false))(h:T P C y s Q):T P C (.cond c x y) s Q:=T.cond hc RC
theorem T.bh {c:Operand}{b:Bool}(hc:ev s c=some (.bool b))(h1:b=true→T P C x s Q)(h2:b=false→T P C y s Q):T P C (.cond c x y) s Q:=by
 cases b
 ·exact T.cond_false hc (h2 rfl)
 ·exact T.cond_true hc (h1 rfl)
theorem ae.trim {I:St→Prop}(ks os:List Nat)(n:Nat)(h:uJ s ks os n=true)(Sl:C.n0≤n)(hi:I (s.trim ks os n)):ae C I s:=⟨_,hi,Le.trim ks os n h Sl⟩
theorem Le.to {s':St}(ks os:List Nat)(n:Nat)(h:uJ s ks os n=true)(Sl:C.n0≤n)(e:s.trim ks os n=s'):Le C s s':=e ▸ Le.trim ks os n h Sl
theorem ae.here {I:St→Prop}(hi:I s):ae C I s:=⟨s,hi,Le.refl s⟩
theorem ae.le {I:St→Prop}{s':St}(h:Le C s s')(hi:ae C I s'):ae C I s:=by
 obtain⟨QA,h1,h2⟩:=hi;exact⟨QA,h1,h.trans h2⟩
theorem bN.of {c:Call}{g:FuncId}{cs:List CV}{r:CV}(h1:bm s c=some (g,cs))(h2:trees cs=true)(h3:af P g cs r):bN P s c r:=⟨g,cs,h1,.inl ⟨h2,h3⟩⟩
end
abbrev wE (n:Int):CV:=.int .i64 n
def ints (l:List Int):CV:=.aA (l.map wE) l.length
theorem FE (o:Nat)(cs:List CV):dK o cs=cs.all (aL o):=by
 induction cs with
 | nil=>rfl
 | cons c cs ih=>simp[dK,ih]
theorem cB (n:Nat)(cs:List CV):aX n cs=cs.all (a9 n):=by
 induction cs with
 | nil=>rfl
 | cons c cs ih=>simp[aX,ih]
theorem G4 (cs:List CV):trees cs=cs.all tree:=by
 induction cs with
 | nil=>rfl
 | cons c cs ih=>simp[trees,ih]
theorem IJ (o:Nat)(cells:List CV)(sz:Nat)(cs:List CV):iv o cells sz cs=cs.map (cH o cells sz):=by
 induction cs with
 | nil=>rfl
 | cons c cs ih=>simp[iv,ih]
theorem Cj (cs:List CV):iW cs=cs.all scalar:=by
 induction cs with
 | nil=>rfl
 | cons c cs ih=>simp[iW,ih]
theorem II (o:Nat)(c:List CV)(z:Nat)(l:List Int):cH o c z (ints l)=ints l:=rfl
theorem CR (o:Nat)(c:List CV)(z:Nat):cH o c z∘ints=ints:=rfl
theorem FW (o:Nat)(c:List CV)(z:Nat):cH o c z∘wE=wE:=rfl
theorem CS (o:Nat)(c:List CV)(z:Nat):cH o c z∘CV.bool=CV.bool:=rfl
theorem CH (o:Nat)(l:List Int):aL o (ints l)=true:=rfl
theorem AF (o:Nat)(l:List Int):a9 o (ints l)=true:=rfl
theorem lI (l:List Int):tree (ints l)=true:=rfl
theorem zm (o:Nat):aL o∘ints=fun _=>true:=rfl
theorem AS (o:Nat):aL o∘wE=fun _=>true:=rfl
theorem zn (o:Nat):aL o∘CV.bool=fun _=>true:=rfl
theorem wO (o:Nat):a9 o∘ints=fun _=>true:=rfl
theorem za (o:Nat):a9 o∘wE=fun _=>true:=rfl
theorem wP (o:Nat):a9 o∘CV.bool=fun _=>true:=rfl
theorem Ak:tree∘ints=fun _=>true:=rfl
theorem Cc:tree∘wE=fun _=>true:=rfl
theorem Al:tree∘CV.bool=fun _=>true:=rfl
theorem CM (l:List Int):dP (ints l)=false:=rfl
theorem C6 (l:List Int):(ints l).cells=[ints l]:=rfl
theorem Bn {α:Type}(o:Nat)(c:List CV)(z:Nat)(f:α→List Int):cH o c z∘ints∘f=ints∘f:=rfl
theorem wX {α:Type}(o:Nat)(f:α→List Int):aL o∘ints∘f=fun _=>true:=rfl
theorem u6 {α:Type}(o:Nat)(f:α→List Int):a9 o∘ints∘f=fun _=>true:=rfl
theorem yP {α:Type}(f:α→List Int):tree∘ints∘f=fun _=>true:=rfl
theorem CQ {α:Type}(o:Nat)(c:List CV)(z:Nat)(f:α→Int):cH o c z∘wE∘f=wE∘f:=rfl
theorem zl {α:Type}(o:Nat)(f:α→Int):aL o∘wE∘f=fun _=>true:=rfl
theorem wN {α:Type}(o:Nat)(f:α→Int):a9 o∘wE∘f=fun _=>true:=rfl
theorem Aj {α:Type}(f:α→Int):tree∘wE∘f=fun _=>true:=rfl
theorem w9 {α:Type}(o:Nat)(c:List CV)(z:Nat)(f:α→Bool):cH o c z∘CV.bool∘f=CV.bool∘f:=rfl
theorem tJ {α:Type}(o:Nat)(f:α→Bool):aL o∘CV.bool∘f=fun _=>true:=rfl
theorem rW {α:Type}(o:Nat)(f:α→Bool):a9 o∘CV.bool∘f=fun _=>true:=rfl
theorem uM {α:Type}(f:α→Bool):tree∘CV.bool∘f=fun _=>true:=rfl
attribute [simp] Bn wX u6 yP CQ zl wN Aj w9 tJ rW uM
attribute [simp] II CR FW CS CH AF
attribute [simp] lI zm AS zn wO za wP Ak Cc Al
attribute [simp] CM C6
@[simp] theorem LD (k:IntKind)(n:Int):dP (.int k n:CV)=false:=rfl
@[simp] theorem LR (k:IntKind)(n:Int):CV.cells (.int k n:CV)=[(.int k n:CV)]:=rfl
@[simp] theorem KM (b:Bool):dP (.bool b:CV)=false:=rfl
@[simp] theorem K7 (b:Bool):CV.cells (.bool b:CV)=[(.bool b:CV)]:=rfl
@[simp] theorem LB (b:ByteArray):dP (.str b:CV)=false:=rfl
@[simp] theorem LP (b:ByteArray):CV.cells (.str b:CV)=[(.str b:CV)]:=rfl
@[simp] theorem LA (cs:List CV)(n:Nat):dP (.aA cs n:CV)=false:=rfl
@[simp] theorem LO (cs:List CV)(n:Nat):CV.cells (.aA cs n:CV)=[(.aA cs n:CV)]:=rfl
@[simp] theorem JJ  : dP (.aa:CV)=false:=rfl
@[simp] theorem JM  : CV.cells (.aa:CV)=[(.aa:CV)]:=rfl
@[simp] theorem KK (cs:List CV):dP (.cG cs:CV)=false:=rfl
@[simp] theorem K5 (cs:List CV):CV.cells (.cG cs:CV)=[(.cG cs:CV)]:=rfl
@[simp] theorem Il  : dP (.bL:CV)=false:=rfl
@[simp] theorem Ji  : CV.cells (.bL:CV)=[(.bL:CV)]:=rfl
@[simp] theorem Nf (f:FuncId)(cs:List CV):dP (.fn f cs:CV)=false:=rfl
@[simp] theorem NF (f:FuncId)(cs:List CV):CV.cells (.fn f cs:CV)=[(.fn f cs:CV)]:=rfl
@[simp] theorem JK  : dP (.cA:CV)=false:=rfl
@[simp] theorem JN  : CV.cells (.cA:CV)=[(.cA:CV)]:=rfl
@[simp] theorem LC (o f n:Nat):dP (.bl o f n:CV)=false:=rfl
@[simp] theorem LQ (o f n:Nat):CV.cells (.bl o f n:CV)=[(.bl o f n:CV)]:=rfl
@[simp] theorem KL (o f:Nat):dP (.ax o f:CV)=false:=rfl
@[simp] theorem K6 (o f:Nat):CV.cells (.ax o f:CV)=[(.ax o f:CV)]:=rfl
@[simp] theorem Nd (k:Nat)(es:List (Value×Value)):dP (.mp k es:CV)=false:=rfl
@[simp] theorem LF (cs:List CV):dP (.agg cs)=false:=rfl
@[simp] theorem LS (cs:List CV):CV.cells (.agg cs)=cs:=rfl
@[simp] theorem Lz (cs:List CV):dP (.dS cs)=true:=rfl
@[simp] theorem LN (cs:List CV):CV.cells (.dS cs)=[.dS cs]:=rfl
attribute [simp] FE cB G4 IJ Cj
attribute [simp] aL a9 tree cH scalar one
attribute [simp] assoc jD rF St.put St.del ev z8 uB gB jr
attribute [simp] mo fk kV Hg cY a6 bq zt bZ z7 Ee xM Fa uP
attribute [simp] EM C7 arith cun ig K4 dE lA Nh imax vU
attribute [simp] zO uC fJ mW TI.agg n8 St.new ED zU Jk jt gL mF zR lz gu sC oP
attribute [simp] oS cells? EL C0
attribute [simp] bm AZ nV enter bG kP pz nR pick St.trim uJ St.dp xa tK St.own
attribute [simp] fD l7 zT
attribute [simp] List.head?_drop
section
variable {P:Program}{C:Cx}{s:St}{ops:Array Oper}{ak:List (Nat×TI)}{Q:Exit→St→Prop}{x y z:Code}
/- simp looks at the state alone, never at the code. -/
@[congr] theorem T_congr {s s':St}{c:Code}(h:s=s'):T P C c s Q=T P C c s' Q:=by rw[h]
@[congr] theorem TL_congr {s s':St}{l:List Oper}{K:St→Prop}(h:s=s'):TL P C ops l s K=TL P C ops l s' K:=by rw[h]
@[congr] theorem TH_congr {nt:Nat}{s s':St}{l:List Nat}{K:St→Prop}(h:s=s'):TH P ak nt ops l s K=TH P ak nt ops l s' K:=by rw[h]
attribute [simp] eU og
def BW (P:Program)(C:Cx)(ops:Array Oper)(K:St→Prop):List Oper→St→Prop
 | [],s=>K s
 | o::r,s=>TL P C ops (o::r) s K
def NX (P:Program)(ak:List (Nat×TI))(nt:Nat)(ops:Array Oper)(K:St→Prop):List Nat→St→Prop
 | [],s=>K s
 | i::r,s=>TH P ak nt ops (i::r) s K
attribute [simp] BW NX
theorem TL.go' (ht:aG P ak){K:St→Prop}{l:List Oper}(h:z7 ak C.nt ops (BW P C ops K) l s):TL P C ops l s K:=by
 refine ID ht l s ?_;have e:BW P C ops K=BW P C ops K:=rfl;revert h;have:∀ (l:List Oper) (s:St),z7 ak C.nt ops (BW P C ops K) l s→z7 ak C.nt ops (fun r s'=>TL P C ops r s' K) l s:=by
  intro l
  induction l with
  | nil=>intro s h;exact TL.nil h
  | cons o r ih=>
   intro s h;have fin:xM (z7 ak C.nt ops (BW P C ops K) r) (fk ak C.nt ops s o)→xM (z7 ak C.nt ops (fun r s'=>TL P C ops r s' K) r) (fk ak C.nt ops s o):=fun h=>by
    cases hs:fk ak C.nt ops s o with
    | none=>rw[hs] at h;exact h.elim
    | some s'=>rw[hs] at h;exact ih s' h
   unfold z7 at h ⊢;split
   ·rename_i hc;rw[if_pos hc] at h;split
    ·rename_i hg;rw[hg] at h;exact fin h
    ·rename_i hg;split at h
     ·rename_i hg';exact absurd hg' hg
     ·exact h
   ·rename_i hc;rw[if_neg hc] at h;exact fin h
 exact this l s
theorem TH.go' {nt:Nat}{K:St→Prop}{l:List Nat}(h:Ee ak nt ops (NX P ak nt ops K) l s):TH P ak nt ops l s K:=by
 refine IE l s ?_;revert h;have:∀ (l:List Nat) (s:St),Ee ak nt ops (NX P ak nt ops K) l s→Ee ak nt ops (fun r s'=>TH P ak nt ops r s' K) l s:=by
  intro l
  induction l with
  | nil=>intro s h;exact h
  | cons i r ih=>
   intro s h;unfold Ee at h ⊢;split
   ·rename_i hi;rw[hi] at h;exact h
   ·rename_i o hi;rw[hi] at h;have fin:xM (Ee ak nt ops (NX P ak nt ops K) r) (bq ak nt ops s o)→xM (Ee ak nt ops (fun r s'=>TH P ak nt ops r s' K) r) (bq ak nt ops s o):=fun h=>by
     cases hs:bq ak nt ops s o with
     | none=>rw[hs] at h;exact h.elim
     | some s'=>rw[hs] at h;exact ih s' h
    simp only at h;split
    ·rename_i hc;rw[if_pos hc] at h;split
     ·rename_i hg;rw[hg] at h;exact fin h
     ·rename_i hg;split at h
      ·rename_i hg';exact absurd hg' hg
      ·exact h
    ·rename_i hc;rw[if_neg hc] at h;exact fin h
 exact this l s
theorem T.go' (ht:aG P ak){id:Nat}{l:List Oper}(h:z7 ak C.nt l.toArray (BW P C l.toArray (Q .normal)) l s):T P C (.region id l.toArray false) s Q:=T.region (TL.go' ht h)
def G7 (P:Program)(C:Cx)(ak:List (Nat×TI))(l:List Oper)(tail:List Nat)(K:St→Prop)(s:St):Prop:=z7 ak C.nt l.toArray (BW P C l.toArray K) (tail.map (l.toArray.getD · default)) s
theorem T.draw' (ht:aG P ak)(hm:P.follows .mixedOrders=true){id:Nat}{l:List Oper}(pre ord tail:List Nat)(hB:Bs l.toArray pre ord tail=true)
  (h:Ee ak C.nt l.toArray (NX P ak C.nt l.toArray (G7 P C ak l tail (Q .normal))) (pre++ord) s):T P C (.region id l.toArray true) s Q:=
 T.draw ht hm pre ord tail hB (TH.Lu (TH.go' h))
where TH.Lu {nt:Nat} {l:List Oper} {tail:List Nat}:∀ {ord:List Nat} {s:St},TH P ak nt l.toArray ord s (G7 P C ak l tail (Q .normal))→TH P ak nt l.toArray ord s (fun s'=>TL P C l.toArray (tail.map (l.toArray.getD · default)) s' (Q .normal))
 | [],_,h=>TL.go' ht h
 | _::_,_,⟨o,r,h1,h2,h3⟩=>⟨o,r,h1,h2,TH.Lu h3⟩
theorem T.cut (J:St→Prop)(h:T P C x s (eU (ae C J) Q))(k:∀ s',J s'→T P C y s' Q):T P C (.seq x y) s Q:=
 T.seq (T.post h fun e s' q=>by
  cases e with
  | normal=>obtain⟨QA,hj,hl⟩:=q;exact⟨QA,k QA hj,hl⟩
  | _=>exact⟨s',q,Le.refl _⟩)
end
attribute [simp] G7
section
variable {P:Program}{C:Cx}{s:St}
def xZ (l:Nat)(J:St→Prop)(Q:Exit→St→Prop):Exit→St→Prop
 | .goto m,s=>m=l∧J s
 | e,s=>Q e s
@[simp] theorem Nb (l m:Nat)(J:St→Prop)(Q:Exit→St→Prop)(s:St):xZ l J Q (.goto m) s=(m=l∧J s):=rfl
@[simp] theorem KJ (l:Nat)(J:St→Prop)(Q:Exit→St→Prop)(s:St):xZ l J Q .normal s=Q .normal s:=rfl
@[simp] theorem OJ (l:Nat)(J:St→Prop)(Q:Exit→St→Prop)(s:St):xZ l J Q .ret s=Q .ret s:=rfl
@[simp] theorem Nc (l m:Nat)(J:St→Prop)(Q:Exit→St→Prop)(s:St):xZ l J Q (.exit m) s=Q (.exit m) s:=rfl
theorem T.J8 {c rest:Code}{Q:Exit→St→Prop}(l:Nat)(I:Nat→St→Prop)(hf:findLabel c l=some rest)(first:T P C c s (xZ l (fun s'=>∃ m,ae C (I m) s') Q))
  (pass:∀ n s,I n s→T P C rest s (xZ l (fun s'=>∃ m,m<n∧ae C (I m) s') Q)):T P C (.scope c) s Q:=fun a w hr=>by
 classical
 let J:Nat→Act→World→Prop:=fun n a w=>∃ s,I n s∧Rel C s a w
 have hx:∀ a w,(∃ n,J n a w)→∃ n,J n a w∧∀ m,J m a w→n≤m:=fun a w ⟨n,hn⟩=>by
  induction n using Nat.strongRecOn with
  | _ n ih=>
   by_cases h:∃ m,m<n∧J m a w
   ·obtain⟨m,hm,hi⟩:=h;exact ih m hm hi
   ·exact⟨n,hn,fun m hm=>Nat.le_of_not_lt fun O1=>h ⟨m,O1,hm⟩⟩
 let μ:Act→World→Nat:=fun a w=>if h:∃ n,J n a w then (hx a w h).choose else 0
 have hμ:∀ a w (h:∃ n,J n a w),J (μ a w) a w∧∀ m,J m a w→μ a w≤m:=fun a w h=>by
  simp only[μ,dif_pos h];exact (hx a w h).choose_spec
 have up:∀ {n s' a' w'},ae C (I n) s'→Rel C s' a' w'→J n a' w':=fun⟨QA,hi,hl⟩ hr=>⟨QA,hi,hl _ _ hr⟩;refine wp_scope_jumps l (fun a w=>∃ n,J n a w) μ hf (wp_mono (first a w hr) fun e a' w' q=>?_) fun a w hJ=>?_
 ·obtain⟨s',q,Pp⟩:=q
  cases e with
  | goto m=>obtain⟨e,m,hm⟩:=q;exact⟨e,m,up hm Pp⟩
  | _=>exact⟨s',q,Pp⟩
 ·obtain⟨s1,hi,PQ⟩:=(hμ a w hJ).1;refine wp_mono (pass (μ a w) s1 hi a w PQ) fun e a' w' q=>?_;obtain⟨s',q,Pp⟩:=q
  cases e with
  | goto m=>
   obtain⟨e,m,hm,hi⟩:=q;exact⟨e,⟨m,up hi Pp⟩,Nat.lt_of_le_of_lt ((hμ a' w' ⟨m,up hi Pp⟩).2 m (up hi Pp)) hm⟩
  | _=>exact⟨s',q,Pp⟩
end
def LL (C:Cx)(ak:List (Nat×TI))(f:Func)(R:CV→St→Prop):Exit→St→Prop
 | .normal,s=>ae C (fun s'=>∃ r,bG ak f s'=some r∧R r s') s
 | .ret,s=>ae C (fun s'=>∃ r,bG ak f s'=some r∧R r s') s
 | _,_=>False
def Body (P:Program)(ak:List (Nat×TI))(f:FuncId)(args:List CV)(H:List (Nat×Ob))(n:Nat)(R:CV→St→Prop):Prop:=
 ∃ fn c, P.funcs[f]? = some fn ∧ fn.body = some c ∧ (fn.name == "runtime.NumGoroutine") = false ∧ args.length ≤ fn.ntmps ∧
  ∀ C:Cx,C.nt=fn.ntmps→C.n0=n→T P C c ⟨(enter args).env,H,n⟩ (LL C ak fn R)
theorem Body.jA {P : Program} {ak : List (Nat × TI)} {f : FuncId} {fn : Func} {c : Code} {args : List CV} {H : List (Nat × Ob)} {n : Nat} {R : CV → St → Prop} (hf : P.funcs[f]? = some fn) (hb : fn.body = some c) (hn : (fn.name == "runtime.NumGoroutine") = false)
  (ha:args.length≤fn.ntmps) (h:∀ C:Cx,C.nt=fn.ntmps→C.n0=n→T P C c ⟨(enter args).env,H,n⟩ (LL C ak fn R)):Body P ak f args H n R:=⟨fn,c,hf,hb,hn,ha,h⟩
section
variable {P:Program}{C:Cx}{σ σ':Nat→Option OB}{s s':St}{a a':Act}{w w':World}{ops:Array Oper}{ak:List (Nat×TI)}
def Cx.inner (C:Cx)(w:World)(σ:Nat→Option OB)(H:List (Nat×Ob))(nt:Nat)(hF:∀ b,C.F b→b<w.heap.size)(n:Nat):Cx:=
 ⟨w,C.F,fun b=>∃ o ob,assoc H o=some ob∧aY σ o=some b,hF,nt,σ,n⟩
theorem sa (h:aM C σ s a w){b:Nat}(hb:∃ o ob,assoc s.heap o=some ob∧aY σ o=some b):b<w.heap.size∧¬ C.F b∧(C.own b∨C.w0.heap.size≤b):=by
 obtain⟨o,ob,ho,hb⟩:=hb;obtain⟨B,m1,_,_,_,m5⟩:=h.obj o ob ho;obtain⟨cur,n1,_,n3,n4,_⟩:=m5 b XH;exact⟨(Array.getElem?_eq_some_iff.1 n1).1,n3,n4⟩
theorem aM.inner (h:aM C σ s a w)(hF:∀ b,C.F b→b<w.heap.size)(nt:Nat){args:List CV}{vs:List Value}(hv:aS w (FB C σ s.heap) σ args vs)(ha:args.length≤nt) :
  aM (C.inner w σ s.heap nt hF s.nx) σ ⟨(enter args).env,s.heap,s.nx⟩ { tmps:=vs.toArray++Array.replicate (nt-vs.toArray.size) undef,defers:=[] } w:=by
 have hl:=aS.length _ _ hv;refine⟨rfl,by simp[Cx.inner];omega,rfl,rfl,rfl,Nat.le_refl _,fun _ _ _=>rfl,?_,?_,h.inj,h.nx,fun _ _=>rfl,Nat.le_refl _,fun o B b ho hB _=>(by rw[h.nx o ho] at hB;cases hB)⟩
 ·intro t c hc;obtain⟨_,h2⟩:=fw args 0 t c hc;obtain⟨v,h3,h4⟩:=aS.get _ _ hv t c (by simpa using h2);refine⟨v,?_,h4⟩;have O1:=(List.getElem?_eq_some_iff.1 h3).1;simp only;rw[Array.getElem?_append_left (by simpa using O1)]
  simpa using h3
 ·intro o ob ho;obtain⟨B,m1,m2,m3,m4,m5⟩:=h.obj o ob ho;refine⟨B,m1,m2,m3,m4,fun b hb=>?_⟩;obtain⟨cur,n1,n2,n3,n4,n5,n6⟩:=m5 b hb;exact⟨cur,n1,n2,n3,.inl ⟨o,ob,ho,by simp[aY,m1,hb]⟩,n5,n6⟩
theorem aM.back (h:aM C σ s a w){hF:∀ b,C.F b→b<w.heap.size}{nt:Nat}(h':aM (C.inner w σ s.heap nt hF s.nx) σ' s' a' w'):aM C σ' ⟨s.env,s'.heap,s'.nx⟩ a w':=by
 have Pv:∀ b,b<w.heap.size→(¬ ∃ o ob,assoc s.heap o=some ob∧aY σ o=some b)→w'.heap[b]? = w.heap[b]?:=fun b hb hn=>h'.frame b hb hn;have Rx:∀ o ob b,assoc s'.heap o=some ob→aY σ' o=some b→(∃ o ob,assoc s.heap o=some ob∧aY σ o=some b)∨w.heap.size≤b:=fun o ob b ho hb=>by
  obtain⟨B,m1,_,_,_,m5⟩:=h'.obj o ob ho;obtain⟨cur,_,_,_,n4,_⟩:=m5 b XH;exact n4
 refine⟨h.nk,h.tm,h'.os.trans h.os,h'.tape.trans h.tape,h'.output.trans h.output,Nat.le_trans h.size h'.size,?_,?_,?_,h'.inj,h'.nx,fun o ho=>(h'.fh o (Nat.lt_of_lt_of_le ho h.low)).trans (h.fh o ho),Nat.le_trans h.low h'.low,fun o B b ho hB hb=>?_⟩
 ·intro b hb PW;rw[Pv b (Nat.lt_of_lt_of_le hb h.size) fun hx=>?_]
  ·exact h.frame b hb PW
  ·rcases (sa h hx).2.2 with h1 | h1
   ·exact PW h1
   ·omega
 ·intro t c hc;obtain⟨v,k1,k2⟩:=h.env t c hc;refine⟨v,k1,VR.bk ⟨fun ad u hf hu=>?_,fun r _ hf hu _=>?_⟩ _ _ (fun o ho=>?_) k2⟩
  case refine_3=>
   refine h'.fh o (Nat.lt_of_not_le fun hle=>?_);obtain⟨B,hB⟩:=VR.refs _ _ o k2 ho;rw[h.nx o hle] at hB;cases hB
  ·have O1:=World.block_lt_of_cell? w ad hu;have PW:¬ ∃ o ob,assoc s.heap o=some ob∧aY σ o=some ad.block:=fun hx=>hf (.inr hx);refine⟨by rw[World.cell?_of_block (w:=w) (Pv ad.block O1 PW)];exact hu,?_⟩;rintro (hx | ⟨o,ob,ho,hb⟩)
   ·exact hf (.inl hx)
   ·rcases Rx o ob _ ho hb with h1 | h1
    ·exact PW h1
    ·omega
  ·have O1:=(Array.getElem?_eq_some_iff.1 hu).1;have PW:¬ ∃ o ob,assoc s.heap o=some ob∧aY σ o=some r:=fun hx=>hf (.inr hx);refine⟨by rw[Pv r O1 PW];exact hu,?_⟩;rintro (hx | ⟨o,ob,ho,hb⟩)
   ·exact hf (.inl hx)
   ·rcases Rx o ob _ ho hb with h1 | h1
    ·exact PW h1
    ·omega
 ·intro o ob ho;obtain⟨B,m1,m2,m3,m4,m5⟩:=h'.obj o ob ho;refine⟨B,m1,m2,m3,m4,fun b hb=>?_⟩;obtain⟨cur,n1,n2,n3,n4,n5,n6⟩:=m5 b hb;refine⟨cur,n1,n2,n3,?_,n5,n6⟩;rcases n4 with n4 | n4
  ·exact (sa h n4).2.2
  ·exact .inr (Nat.le_trans h.size n4)
 ·rcases Nat.lt_or_ge o s.nx with O1 | RW
  ·rw[h'.fh o O1] at hB;exact h.new o B b ho hB hb
  ·rcases h'.new o B b RW hB hb with n4 | n4
   ·exact (sa h n4).2.2
   ·exact .inr (Nat.le_trans h.size n4)
end
end Go.Can
