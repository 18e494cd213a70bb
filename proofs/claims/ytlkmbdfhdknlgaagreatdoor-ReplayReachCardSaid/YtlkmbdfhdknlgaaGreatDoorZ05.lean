/- What may be said anew of a state: entries forgotten, objects -/
import Derived.Test.YtlkmbdfhdknlgaaGreatDoorZ04
namespace Go.Can
open Go.RowKit
def Le (C:Cx)(s s':St):Prop:=∀ (a:Act) (w:World),Rel C s a w→Rel C s' a w
section
variable {C:Cx}
theorem Le.refl (s:St):Le C s s:=fun _ _ h=>h
theorem Le.trans {s s' Qu:St}(h:Le C s s')(k:Le C s' Qu):Le C s Qu:=fun a w hr=>k a w (h a w hr)
def pick {α:Type}(l:List (Nat×α)):List Nat→List (Nat×α)
 | []=>[]
 | t::r=>match assoc l t with
  | some c=>(t,c)::pick l r
  | none=>pick l r
theorem ez {α:Type}(l:List (Nat×α)):∀ (ks:List Nat) (t:Nat) (c:α),assoc (pick l ks) t=some c→assoc l t=some c
 | [],_,_,h=>by simp[pick,assoc] at h
 | k::r,t,c,h=>by
  simp only[pick] at h;split at h
  ·rename_i x hx;simp only[assoc] at h;split at h
   ·rename_i e;subst e;cases h;exact hx
   ·exact ez l r t c h
  ·exact ez l r t c h
mutual
def ba (n:Nat):CV→Bool
 | .iter o _ _=>decide (o<n)
 | .mp o _=>decide (o<n)
 | .bp o _ _=>decide (o<n)
 | .aq o _=>decide (o<n)
 | .agg cs=>a6 n cs
 | .fn _ cs=>a6 n cs
 | .iface _ cs=>a6 n cs
 | .dI cs=>a6 n cs
 | _=>true
def a6 (n:Nat):List CV→Bool
 | []=>true
 | c::cs=>ba n c && a6 n cs
end
mutual
theorem lG (n:Nat):∀ (c:CV) (o:Nat),ba n c=true→aJ o c=false→o<n
 | .bp p _ _,o,h,hr=>by
  have:p=o:=by simpa [aJ] using hr
  subst this;simpa [ba] using h
 | .aq p _,o,h,hr=>by
  have:p=o:=by simpa [aJ] using hr
  subst this;simpa [ba] using h
 | .agg cs,o,h,hr=>eQ n cs o (by simpa [ba] using h) (by simpa [aJ] using hr)
 | .fn _ cs,o,h,hr=>eQ n cs o (by simpa [ba] using h) (by simpa [aJ] using hr)
 | .iface _ cs,o,h,hr=>eQ n cs o (by simpa [ba] using h) (by simpa [aJ] using hr)
 | .dI cs,o,h,hr=>eQ n cs o (by simpa [ba] using h) (by simpa [aJ] using hr)
 | .int _ _,_,_,hr=>by simp[aJ] at hr
 | .bool _,_,_,hr=>by simp[aJ] at hr
 | .str _,_,_,hr=>by simp[aJ] at hr
 | .az _ _,_,_,hr=>by simp[aJ] at hr
 | .aj,_,_,hr=>by simp[aJ] at hr
 | .cF _,_,_,hr=>by simp[aJ] at hr
 | .bw,_,_,hr=>by simp[aJ] at hr
 | .cr,_,_,hr=>by simp[aJ] at hr
 | .iter p _ _,o,h,hr=>by
  simp only[aJ,bne_eq_false_iff_eq] at hr;subst hr
  simpa [ba] using h
 | .mp p _,o,h,hr=>by
  simp only[aJ,bne_eq_false_iff_eq] at hr;subst hr
  simpa [ba] using h
theorem eQ (n:Nat):∀ (cs:List CV) (o:Nat),a6 n cs=true→dL o cs=false→o<n
 | [],_,_,hr=>by simp[dL] at hr
 | c::cs,o,h,hr=>by
  simp only[a6,Bool.and_eq_true] at h;simp only[dL,Bool.and_eq_false_iff] at hr;rcases hr with hr | hr
  ·exact lG n c o h.1 hr
  ·exact eQ n cs o h.2 hr
end
def St.trim (s:St)(ks os:List Nat)(n:Nat):St:=⟨pick s.env ks,pick s.heap os,n⟩
def um (s:St)(ks os:List Nat)(n:Nat):Bool:=
 (pick s.env ks).all (fun x=>ba n x.2) && (pick s.heap os).all fun x=>decide (x.1<n) && a6 n x.2.cells
theorem Le.trim {s:St}(ks os:List Nat)(n:Nat)(h:um s ks os n=true)(Rl:C.n0≤n):Le C s (s.trim ks os n):=by
 intro a w ⟨σ,hr⟩;simp only[um,Bool.and_eq_true] at h;obtain⟨h1,h2⟩:=h;rw[List.all_eq_true] at h1 h2;have hs:∀ {o},o<n→(if o<n then σ o else none)=σ o:=fun {o} ho=>by rw[if_pos ho]
 have hF:∀ b,FB C (fun o=>if o<n then σ o else none) (pick s.heap os) b→FB C σ s.heap b:=by
  rintro b (hb | ⟨o,ob,ho,hb⟩)
  ·exact .inl hb
  ·have:=h2 _ (bG _ _ _ ho);simp only[Bool.and_eq_true,decide_eq_true_eq] at this;simp only[aU,hs this.1] at hb;exact .inr ⟨o,ob,ez _ _ _ _ ho,hb⟩
 have hk:cz w w (FB C σ s.heap) (FB C (fun o=>if o<n then σ o else none) (pick s.heap os)):=⟨fun ad u hf hu=>⟨hu,fun h=>hf (hF _ h)⟩,fun r _ hf hu _=>⟨hu,fun h=>hf (hF _ h)⟩⟩;refine⟨fun o=>if o<n then σ o else none,hr.oA,hr.tm,hr.os,hr.tape,hr.output,hr.size,hr.frame,?_,?_,?_,?_,fun o ho=>by rw[hs (Nat.lt_of_lt_of_le ho Rl)];exact hr.gO o ho,Rl,fun o B b ho hB hb=>?_⟩
 ·intro t c hc;have hm:=h1 _ (bG _ _ _ hc);obtain⟨v,k1,k2⟩:=hr.env t c (ez _ _ _ _ hc);exact⟨v,k1,VR.bl hk c v (fun o ho=>hs (lG n c o hm ho)) k2⟩
 ·intro o ob ho;have hm:=h2 _ (bG _ _ _ ho);simp only[Bool.and_eq_true,decide_eq_true_eq] at hm;obtain⟨B,m1,m2,m3,m4,m5⟩:=hr.obj o ob (ez _ _ _ _ ho);refine⟨B,by simp only[hs hm.1];exact m1,m2,m3,m4,fun b hb=>?_⟩;obtain⟨cur,n1,n2,n3,n4,n5,n6⟩:=m5 b hb;exact⟨cur,n1,n2,n3,n4,n5,aT.bl hk _ _ (fun p hp=>hs (eQ n _ p hm.2 hp)) n6⟩
 ·intro o o' ob Ov b ho OI hb Oy;have hm:=h2 _ (bG _ _ _ ho);have WH:=h2 _ (bG _ _ _ OI);simp only[Bool.and_eq_true,decide_eq_true_eq] at hm WH;simp only[aU,hs hm.1] at hb;simp only[aU,hs WH.1] at Oy;exact hr.inj o o' ob Ov b (ez _ _ _ _ ho) (ez _ _ _ _ OI) hb Oy
 ·intro o ho;simp only[St.trim] at ho;rw[if_neg yA]
 ·split at hB
  ·exact hr.new o B b ho hB hb
  ·cases hB
theorem Le.env {s:St}(ks:List Nat):Le C s { s with env:=pick s.env ks }:=by
 intro a w ⟨σ,hr⟩;exact⟨σ,hr.oA,hr.tm,hr.os,hr.tape,hr.output,hr.size,hr.frame,fun t c hc=>hr.env t c (ez _ _ _ _ hc),hr.obj,hr.inj,hr.nx,hr.gO,hr.low,hr.new⟩
mutual
def bQ (o:Nat)(cells:List CV)(sz:Nat):CV→CV
 | .bp p off n=>if p=o then .az ((cells.drop off).take (n*sz)) n else .bp p off n
 | .aq p off=>if p=o then .cF (cells.drop off) else .aq p off
 | .agg cs=>.agg (ik o cells sz cs)
 | .fn f cs=>.fn f (ik o cells sz cs)
 | .iface f cs=>.iface f (ik o cells sz cs)
 | .dI cs=>.dI (ik o cells sz cs)
 | .int k n=>.int k n
 | .bool b=>.bool b
 | .str b=>.str b
 | .az cs n=>.az cs n
 | .aj=>.aj
 | .cF cs=>.cF cs
 | .bw=>.bw
 | .cr=>.cr
 | .iter k s p=>.iter k s p
 | .mp k es=>.mp k es
 | .any=>.any
def ik (o:Nat)(cells:List CV)(sz:Nat):List CV→List CV
 | []=>[]
 | c::cs=>bQ o cells sz c::ik o cells sz cs
end
theorem J0 {o:Nat}{cells:List CV}{sz:Nat}:∀ c,one (bQ o cells sz c)=one c
 | .bp p off n=>by simp only[bQ];split<;>rfl
 | .aq p off=>by simp only[bQ];split<;>rfl
 | .agg _=>rfl
 | .fn _ _=>rfl
 | .iface _ _=>rfl
 | .dI _=>rfl
 | .int _ _=>rfl
 | .bool _=>rfl
 | .str _=>rfl
 | .az _ _=>rfl
 | .aj=>rfl
 | .any=>rfl
 | .cF _=>rfl
 | .bw=>rfl
 | .cr=>rfl
 | .iter _ _ _=>rfl
 | .mp _ _=>rfl
theorem vg {o:Nat}{cells:List CV}{sz:Nat}:∀ cs:List CV,(ik o cells sz cs).all one=cs.all one
 | []=>rfl
 | c::cs=>by simp only[ik,List.all_cons,J0,vg cs]
theorem pD {o:Nat}{cells:List CV}{sz:Nat}:∀ cs:List CV,(ik o cells sz cs).length=cs.length
 | []=>rfl
 | c::cs=>by simp only[ik,List.length_cons,pD cs]
def wu (o:Nat)(cells:List CV)(sz:Nat):List (Nat×CV)→List (Nat×CV)
 | []=>[]
 | (t,c)::r=>(t,bQ o cells sz c)::wu o cells sz r
def s8 (o:Nat)(cells:List CV)(sz:Nat):List (Nat×Ob)→List (Nat×Ob)
 | []=>[]
 | (p,x)::r=>if p=o then s8 o cells sz r else (p,{ x with cells:=ik o cells sz x.cells })::s8 o cells sz r
def St.cV (s:St)(o:Nat)(ob:Ob):St:=⟨wu o ob.cells ob.sz s.env,s8 o ob.cells ob.sz s.heap,s.nx⟩
theorem vF {o:Nat}{cells:List CV}{sz:Nat}:∀ (l:List (Nat×CV)) (t:Nat) (c:CV),assoc (wu o cells sz l) t=some c→∃ d,assoc l t=some d∧c=bQ o cells sz d
 | [],_,_,h=>by simp[wu,assoc] at h
 | (k,x)::r,t,c,h=>by
  simp only[wu,assoc] at h ⊢;split at h
  ·rename_i e;rw[if_pos e];cases h;exact⟨x,rfl,rfl⟩
  ·rename_i e;rw[if_neg e];exact vF r t c h
theorem fJ {o:Nat}{cells:List CV}{sz:Nat}:∀ (l:List (Nat×Ob)) (p:Nat) (x:Ob),assoc (s8 o cells sz l) p=some x→p≠o∧∃ y,assoc l p=some y∧x={ y with cells:=ik o cells sz y.cells }
 | [],_,_,h=>by simp[s8,assoc] at h
 | (k,y)::r,p,x,h=>by
  simp only[s8] at h;split at h
  ·rename_i hk;obtain⟨h1,z,h2,h3⟩:=fJ r p x h;refine⟨h1,z,?_,h3⟩;simp only[assoc];rw[if_neg (fun e=>h1 (by rw[← e,hk]))];exact h2
  ·rename_i hk;simp only[assoc] at h;split at h
   ·rename_i e;cases h;subst e;exact⟨hk,y,by simp[assoc],rfl⟩
   ·rename_i e;obtain⟨h1,z,h2,h3⟩:=fJ r p x h;exact⟨h1,z,by simp only[assoc];rw[if_neg e];exact h2,h3⟩
section
variable {w:World}{F F':Nat→Prop}{σ:Nat→Option OB}{o sz:Nat}{cells:List CV}{B:OB}
mutual
theorem DI (hk:cz w w F F')(hB:σ o=some B)(Oh:B.sz=sz)(hm:∀ b,B.jI=some b→∀ k,fa w F' (cells.drop k) ⟨b,k,none⟩):∀ (c:CV) (v:Value),VR w F σ c v→VR w F' σ (bQ o cells sz c) v
 | .bp p off n,v,hv=>by
  simp only[bQ];split
  ·rename_i e;subst e;simp only[VR] at hv;obtain⟨B',Qr,hv⟩:=hv;rw[hB] at Qr;cases Qr;split at hv
   ·obtain⟨rfl,rfl,rfl⟩:=hv;simp only[VR,bZ];exact⟨none,0,rfl,Nat.le_refl _,Nat.zero_le _,.inl ⟨trivial,by simp⟩⟩
   ·rename_i b hb;obtain⟨cap,rfl,h1,h2,_⟩:=hv;simp only[VR,bZ];exact⟨_,cap,rfl,h1,h2,.inr ⟨_,rfl,fa.take _ _ _ (hm b hb off)⟩⟩
  ·exact VR.bl hk _ _ (fun _ _=>rfl) hv
 | .aq p off,v,hv=>by
  simp only[bQ];split
  ·rename_i e;subst e;simp only[VR] at hv;obtain⟨B',b,Qr,hb,rfl⟩:=hv;rw[hB] at Qr;cases Qr;simp only[VR,bZ];exact⟨_,rfl,hm b hb off⟩
  ·exact VR.bl hk _ _ (fun _ _=>rfl) hv
 | .agg cs,v,hv=>by
  simp only[bQ,VR] at hv ⊢;obtain⟨vs,e,r,h1⟩:=hv;exact⟨vs,e,lO hk hB Oh hm cs vs r,by rw[vg];exact h1⟩
 | .fn f cs,v,hv=>by
  simp only[bQ,VR] at hv ⊢;obtain⟨vs,e,r⟩:=hv;exact⟨vs,e,lO hk hB Oh hm cs vs r⟩
 | .iface f cs,v,hv=>by
  simp only[bQ,VR] at hv ⊢;obtain⟨vs,e,r⟩:=hv;exact⟨vs,e,lO hk hB Oh hm cs vs r⟩
 | .dI cs,v,hv=>by
  simp only[bQ,VR] at hv ⊢;obtain⟨vs,e,r⟩:=hv;exact⟨vs,e,lO hk hB Oh hm cs vs r⟩
 | .int k n,v,hv=>by simp only[bQ];exact VR.bl hk _ _ (fun _ _=>rfl) hv
 | .bool b,v,hv=>by simp only[bQ];exact VR.bl hk _ _ (fun _ _=>rfl) hv
 | .str b,v,hv=>by simp only[bQ];exact VR.bl hk _ _ (fun _ _=>rfl) hv
 | .az cs n,v,hv=>by simp only[bQ];exact VR.bl hk _ _ (fun _ _=>rfl) hv
 | .aj,v,hv=>by simp only[bQ];exact VR.bl hk _ _ (fun _ _=>rfl) hv
 | .cF cs,v,hv=>by simp only[bQ];exact VR.bl hk _ _ (fun _ _=>rfl) hv
 | .bw,v,hv=>by simp only[bQ];exact VR.bl hk _ _ (fun _ _=>rfl) hv
 | .cr,v,hv=>by simp only[bQ];exact VR.bl hk _ _ (fun _ _=>rfl) hv
 | .iter _ _ _,v,hv=>by simp only[bQ];exact VR.bl hk _ _ (fun _ _=>rfl) hv
 | .mp _ _,v,hv=>by simp only[bQ];exact VR.bl hk _ _ (fun _ _=>rfl) hv
 | .any,v,hv=>by simpa [bQ,VR] using hv
theorem lO (hk:cz w w F F')(hB:σ o=some B)(Oh:B.sz=sz)(hm:∀ b,B.jI=some b→∀ k,fa w F' (cells.drop k) ⟨b,k,none⟩):∀ (cs:List CV) (vs:List Value),aT w F σ cs vs→aT w F' σ (ik o cells sz cs) vs
 | [],_,hv=>by simpa [ik,aT] using hv
 | c::cs,vs,hv=>by
  simp only[ik,aT] at hv ⊢;obtain⟨v,r,e,h1,h2⟩:=hv;exact⟨v,r,e,DI hk hB Oh hm c v h1,lO hk hB Oh hm cs r h2⟩
end
end
theorem aK.cV {C:Cx}{σ:Nat→Option OB}{a:Act}{w:World}{s:St}(hr:aK C σ s a w){o:Nat}{ob:Ob}(ho:assoc s.heap o=some ob)(ht:trees ob.cells=true):aK C σ (s.cV o ob) a w:=by
 obtain⟨B,hB,Oh,hn,h1,h5⟩:=hr.obj o ob ho;have hF:∀ b,FB C σ (s8 o ob.cells ob.sz s.heap) b→FB C σ s.heap b:=by
  rintro b (hb | ⟨p,x,hp,hb⟩)
  ·exact .inl hb
  ·obtain⟨_,y,hy,_⟩:=fJ _ _ _ hp;exact .inr ⟨p,y,hy,hb⟩
 have hk:cz w w (FB C σ s.heap) (FB C σ (s8 o ob.cells ob.sz s.heap)):=⟨fun ad u hf hu=>⟨hu,fun h=>hf (hF _ h)⟩,fun r _ hf hu _=>⟨hu,fun h=>hf (hF _ h)⟩⟩;have hm:∀ b,B.jI=some b→∀ k,fa w (FB C σ (s8 o ob.cells ob.sz s.heap)) (ob.cells.drop k) ⟨b,k,none⟩:=fun b hb k=>by
  obtain⟨cur,k1,k2,k3,k4,k5,k6⟩:=h5 b hb;have Y3:¬ FB C σ (s8 o ob.cells ob.sz s.heap) b:=by
   rintro (hf | ⟨p,x,hp,Sp⟩)
   ·exact k3 hf
   ·obtain⟨Ok,y,hy,_⟩:=fJ _ _ _ hp;exact Ok (hr.inj p o y ob b hy ho Sp (by simp[aU,hB,hb]))
  have h2:fa w (FB C σ (s8 o ob.cells ob.sz s.heap)) ob.cells ⟨b,0,none⟩:=ia _ _ _ (bP.bl hk.1 _ _ (aT.ec _ _ ht k6)) h1 Y3 fun j u hu=>by
   rw[add_lit,Nat.zero_add,cell_of_row w b j cur _ _ k1];rw[List.getElem?_take] at hu;split at hu
   ·simpa using hu
   ·cases hu
  have:=h2.drop k;rwa [add_lit,Nat.zero_add] at this
 refine⟨hr.oA,hr.tm,hr.os,hr.tape,hr.output,hr.size,hr.frame,?_,?_,?_,hr.nx,hr.gO,hr.low,hr.new⟩
 ·intro t c hc;obtain⟨d,hd,rfl⟩:=vF _ _ _ hc;obtain⟨v,k1,k2⟩:=hr.env t d hd;exact⟨v,k1,DI hk hB Oh hm d v k2⟩
 ·intro p x hp;obtain⟨Ok,y,hy,rfl⟩:=fJ _ _ _ hp;obtain⟨B',m1,m2,m3,m4,m5⟩:=hr.obj p y hy;refine⟨B',m1,m2,fun hn=>?_,by rw[vg];exact m4,fun b hb=>?_⟩
  ·rw[m3 hn];rfl
  ·obtain⟨cur,n1,n2,n3,n4,n5,n6⟩:=m5 b hb;refine⟨cur,n1,n2,n3,n4,by rw[pD];exact n5,?_⟩;rw[pD];exact lO hk hB Oh hm _ _ n6
 ·intro p q x y b hp hq hb Oy;obtain⟨_,x',hx,_⟩:=fJ _ _ _ hp;obtain⟨_,y',hy,_⟩:=fJ _ _ _ hq;exact hr.inj p q x' y' b hx hy hb Oy
theorem Le.cV {s:St}{o:Nat}{ob:Ob}(ho:assoc s.heap o=some ob)(ht:trees ob.cells=true):Le C s (s.cV o ob):=fun _ _ ⟨σ,hr⟩=>⟨σ,hr.cV ho ht⟩
def St.own (s:St)(t:Nat)(e:TypeId)(sz:Nat):St:={ env:=sy s.env t (.bp s.nx 0 0),heap:=(s.nx,⟨e,sz,[]⟩)::s.heap,nx:=s.nx+1 }
theorem Le.own {s:St}(t:Nat)(e:TypeId)(sz:Nat)(ht:assoc s.env t=some .aj):Le C s (s.own t e sz):=by
 intro a w ⟨σ,hr⟩;obtain⟨h1,h2⟩:=hr.fresh (World.grownBy.refl w none) (ob:=⟨e,sz,[]⟩) (B:=⟨none,0,sz⟩) rfl rfl (fun _=>rfl) (fun b hb=>by cases hb);refine⟨_,h1.oA,h1.tm,h1.os,h1.tape,h1.output,h1.size,h1.frame,?_,h1.obj,h1.inj,h1.nx,h1.gO,h1.low,h1.new⟩;intro u c hc;simp only[St.own] at hc;rw[e9] at hc;split at hc
 ·rename_i eu;subst eu;rw[ht] at hc;simp only[Option.map_some,Option.some.injEq] at hc;subst hc;obtain⟨v,k1,k2⟩:=hr.env t _ ht;simp only[VR] at k2;subst k2;refine⟨_,k1,?_⟩;simp only[VR];exact⟨_,dr,by simp⟩
 ·exact h1.env u c hc
section
variable {P:Program}{C:Cx}{s:St}{ops:Array Oper}{av:List (Nat×TI)}
theorem T.le {s':St}{c:Code}{Q:Exit→St→Prop}(h:Le C s s')(ht:T P C c s' Q):T P C c s Q:=fun a w hr=>ht a w (h a w hr)
theorem T.post {c:Code}{Q Q':Exit→St→Prop}(h:T P C c s Q')(hq:∀ e s',Q' e s'→∃ Qu,Q e Qu∧Le C s' Qu):T P C c s Q:=fun a w hr=>
 wp_mono (h a w hr) fun e a' w' ⟨s',q,r⟩=>by
  obtain⟨Qu,q',l⟩:=hq e s' q;exact⟨Qu,q',l a' w' r⟩
theorem TL.le {s':St}{l:List Oper}{K:St→Prop}(h:Le C s s')(ht:TL P C ops l s' K):TL P C ops l s K:=fun a w Q hr hQ=>ht a w Q (h a w hr) hQ
def aa (C:Cx)(I:St→Prop)(s:St):Prop:=∃ s',I s'∧Le C s s'
theorem T.aI {c:Code}{Q:Exit→St→Prop}(I:Nat→St→Prop){n:Nat}(h₀:aa C (I n) s)(round:∀ n s,I n s→T P C c s (fw (fun s'=>∃ m,m<n∧aa C (I m) s') Q)):T P C (.loop c) s Q:=by
 obtain⟨s',h0,l0⟩:=h₀;refine T.le l0 (T.loop I h0 fun n s hi=>T.post (round n s hi) fun e s' q=>?_)
 cases e with
 | normal=>
  obtain⟨m,hm,Qu,hi,hl⟩:=q;exact⟨Qu,⟨m,hm,hi⟩,hl⟩
 | _=>exact⟨s',q,Le.refl _⟩
def Mr (C:Cx)(av:List (Nat×TI))(f:Func)(r:CV):Exit→St→Prop
 | .normal,s=>aa C (fun s=>bm av f s=some r) s
 | .ret,s=>aa C (fun s=>bm av f s=some r) s
 | _,_=>False
theorem ae.aH (Q8 : aF P av) {f : FuncId} {fn : Func} {c : Code} {args : List CV} {r : CV} (hf : P.funcs[f]? = some fn) (hb : fn.body = some c) (hn : (fn.name == "runtime.NumGoroutine") = false)
  (ha:args.length≤fn.ntmps) (ht:tree r=true) (h:∀ C:Cx,C.nt=fn.ntmps→C.n0=0→T P C c (enter args) (Mr C av fn r)):ae P f args r:=
 ae.iV Q8 hf hb hn ha ht fun C hC N8=>T.post (h C hC N8) fun e s' q=>by
  cases e with
  | normal=>exact q
  | ret=>exact q
  | _=>exact q.elim
def yH (o:Oper):Bool:=match o.op with
 | .call c=>match c.callee with
  | .builtin _=>false
  | _=>true
 | _=>false
def b9 (ops:Array Oper)(s:St)(o:Oper):Option Bool:=match o.guard with
 | none=>some true
 | some (j,want)=>match (ops[j]?).bind (·.dst) with
  | none=>none
  | some t=>r6 (assoc s.env t) want
def zj (av:List (Nat×TI))(nt:Nat)(ops:Array Oper)(K:List Oper→St→Prop):List Oper→St→Prop
 | [],s=>K [] s
 | o::r,s=>if yH o then
   match b9 ops s o with
   | some false=>Dl (zj av nt ops K r) (gv av nt ops s o)
   | _=>K (o::r) s
  else Dl (zj av nt ops K r) (gv av nt ops s o)
theorem HG (ht:aF P av){K:St→Prop}:∀ (l:List Oper) (s:St),zj av C.nt ops (fun r s'=>TL P C ops r s' K) l s→TL P C ops l s K
 | [],_,h=>h
 | o::r,s,h=>by
  have fin:Dl (zj av C.nt ops (fun r s'=>TL P C ops r s' K) r) (gv av C.nt ops s o)→TL P C ops (o::r) s K:=fun h=>by
   cases hs:gv av C.nt ops s o with
   | none=>rw[hs] at h;exact h.elim
   | some s'=>rw[hs] at h;exact TL.step ht hs (HG ht r s' h)
  unfold zj at h;split at h
  ·split at h
   ·exact fin h
   ·exact h
  ·exact fin h
def dt (av:List (Nat×TI))(nt:Nat)(ops:Array Oper)(s:St)(o:Oper):Option St:=
 if bt nt o.dst then
  match o.guard with
  | none=>(fz av s o.op).map (s.put o.dst)
  | some (j,want)=>match (ops[j]?).bind (·.dst) with
   | none=>none
   | some t=>match r6 (assoc s.env t) want with
    | some true=>(fz av s o.op).map (s.put o.dst)
    | some false=>some (s.put o.dst (.dI []))
    | none=>none
 else none
def goH (av:List (Nat×TI))(nt:Nat)(ops:Array Oper)(K:List Nat→St→Prop):List Nat→St→Prop
 | [],s=>K [] s
 | i::r,s=>match ops[i]? with
  | none=>False
  | some o=>if yH o then
    match b9 ops s o with
    | some false=>Dl (goH av nt ops K r) (dt av nt ops s o)
    | _=>K (i::r) s
   else Dl (goH av nt ops K r) (dt av nt ops s o)
end
end
section
variable {P:Program}{C:Cx}{s:St}{ops:Array Oper}{av:List (Nat×TI)}{Q:Exit→St→Prop}{x y z:Code}
theorem T.cond_true {c:Operand}(hc:ev s c=some (.bool true))(h:T P C x s Q):T P C (.cond c x y) s Q:=T.cond hc QW
theorem T.cond_false {c:Operand}(hc:ev s c=some (.bool false))(h:T P C y s Q):T P C (.cond c x y) s Q:=T.cond hc QW
theorem T.bg {c:Operand}{b:Bool}(hc:ev s c=some (.bool b))(h1:b=true→T P C x s Q)(h2:b=false→T P C y s Q):T P C (.cond c x y) s Q:=by
 cases b
 ·exact T.cond_false hc (h2 rfl)
 ·exact T.cond_true hc (h1 rfl)
theorem aa.trim {I:St→Prop}(ks os:List Nat)(n:Nat)(h:um s ks os n=true)(Rl:C.n0≤n)(hi:I (s.trim ks os n)):aa C I s:=⟨_,hi,Le.trim ks os n h Rl⟩
theorem Le.to {s':St}(ks os:List Nat)(n:Nat)(h:um s ks os n=true)(Rl:C.n0≤n)(e:s.trim ks os n=s'):Le C s s':=e ▸ Le.trim ks os n h Rl
theorem aa.here {I:St→Prop}(hi:I s):aa C I s:=⟨s,hi,Le.refl s⟩
theorem aa.le {I:St→Prop}{s':St}(h:Le C s s')(hi:aa C I s'):aa C I s:=by
 obtain⟨Qu,h1,h2⟩:=hi;exact⟨Qu,h1,h.trans h2⟩
theorem bH.of {c:Call}{g:FuncId}{cs:List CV}{r:CV}(h1:bB s c=some (g,cs))(h2:trees cs=true)(h3:ae P g cs r):bH P s c r:=⟨g,cs,h1,.inl ⟨h2,h3⟩⟩
theorem bH.lent {c:Call}{g:FuncId}{cs ds:List CV}{r:CV}(h1:bB s c=some (g,cs))(h2:sK s cs=some ds)(h3:ae P g ds r)(h4:scalar r=true):bH P s c r:=⟨g,cs,h1,.inr ⟨ds,h2,h3,h4⟩⟩
end
abbrev vL (n:Int):CV:=.int .i64 n
def ints (l:List Int):CV:=.az (l.map vL) l.length
theorem E1 (o:Nat)(cs:List CV):dL o cs=cs.all (aJ o):=by
 induction cs with
 | nil=>rfl
 | cons c cs ih=>simp[dL,ih]
theorem ch (n:Nat)(cs:List CV):a6 n cs=cs.all (ba n):=by
 induction cs with
 | nil=>rfl
 | cons c cs ih=>simp[a6,ih]
theorem Ge (cs:List CV):trees cs=cs.all tree:=by
 induction cs with
 | nil=>rfl
 | cons c cs ih=>simp[trees,ih]
theorem HM (o:Nat)(cells:List CV)(sz:Nat)(cs:List CV):ik o cells sz cs=cs.map (bQ o cells sz):=by
 induction cs with
 | nil=>rfl
 | cons c cs ih=>simp[ik,ih]
theorem BY (cs:List CV):scalars cs=cs.all scalar:=by
 induction cs with
 | nil=>rfl
 | cons c cs ih=>simp[scalars,ih]
theorem HL (o:Nat)(c:List CV)(z:Nat)(l:List Int):bQ o c z (ints l)=ints l:=rfl
theorem Cu (o:Nat)(c:List CV)(z:Nat):bQ o c z∘ints=ints:=rfl
theorem Fi (o:Nat)(c:List CV)(z:Nat):bQ o c z∘vL=vL:=rfl
theorem Cv (o:Nat)(c:List CV)(z:Nat):bQ o c z∘CV.bool=CV.bool:=rfl
theorem Cn (o:Nat)(l:List Int):aJ o (ints l)=true:=rfl
theorem zS (o:Nat)(l:List Int):ba o (ints l)=true:=rfl
theorem lC (l:List Int):tree (ints l)=true:=rfl
theorem yx (o:Nat):aJ o∘ints=fun _=>true:=rfl
theorem Ag (o:Nat):aJ o∘vL=fun _=>true:=rfl
theorem yy (o:Nat):aJ o∘CV.bool=fun _=>true:=rfl
theorem vQ (o:Nat):ba o∘ints=fun _=>true:=rfl
theorem yj (o:Nat):ba o∘vL=fun _=>true:=rfl
theorem vS (o:Nat):ba o∘CV.bool=fun _=>true:=rfl
theorem zA:tree∘ints=fun _=>true:=rfl
theorem BT:tree∘vL=fun _=>true:=rfl
theorem zB:tree∘CV.bool=fun _=>true:=rfl
theorem Cq (l:List Int):dR (ints l)=false:=rfl
theorem CJ (l:List Int):(ints l).cells=[ints l]:=rfl
theorem AG {α:Type}(o:Nat)(c:List CV)(z:Nat)(f:α→List Int):bQ o c z∘ints∘f=ints∘f:=rfl
theorem vX {α:Type}(o:Nat)(f:α→List Int):aJ o∘ints∘f=fun _=>true:=rfl
theorem uI {α:Type}(o:Nat)(f:α→List Int):ba o∘ints∘f=fun _=>true:=rfl
theorem xW {α:Type}(f:α→List Int):tree∘ints∘f=fun _=>true:=rfl
theorem Ct {α:Type}(o:Nat)(c:List CV)(z:Nat)(f:α→Int):bQ o c z∘vL∘f=vL∘f:=rfl
theorem yw {α:Type}(o:Nat)(f:α→Int):aJ o∘vL∘f=fun _=>true:=rfl
theorem vP {α:Type}(o:Nat)(f:α→Int):ba o∘vL∘f=fun _=>true:=rfl
theorem zy {α:Type}(f:α→Int):tree∘vL∘f=fun _=>true:=rfl
theorem wg {α:Type}(o:Nat)(c:List CV)(z:Nat)(f:α→Bool):bQ o c z∘CV.bool∘f=CV.bool∘f:=rfl
theorem sZ {α:Type}(o:Nat)(f:α→Bool):aJ o∘CV.bool∘f=fun _=>true:=rfl
theorem rJ {α:Type}(o:Nat)(f:α→Bool):ba o∘CV.bool∘f=fun _=>true:=rfl
theorem uq {α:Type}(f:α→Bool):tree∘CV.bool∘f=fun _=>true:=rfl
attribute [simp] AG vX uI xW Ct yw vP zy wg sZ rJ uq
attribute [simp] HL Cu Fi Cv Cn zS
attribute [simp] lC yx Ag yy vQ yj vS zA BT zB
attribute [simp] Cq CJ
@[simp] theorem KN (k:IntKind)(n:Int):dR (.int k n:CV)=false:=rfl
@[simp] theorem K0 (k:IntKind)(n:Int):CV.cells (.int k n:CV)=[(.int k n:CV)]:=rfl
@[simp] theorem JR (b:Bool):dR (.bool b:CV)=false:=rfl
@[simp] theorem Kf (b:Bool):CV.cells (.bool b:CV)=[(.bool b:CV)]:=rfl
@[simp] theorem KL (b:ByteArray):dR (.str b:CV)=false:=rfl
@[simp] theorem KY (b:ByteArray):CV.cells (.str b:CV)=[(.str b:CV)]:=rfl
@[simp] theorem KK (cs:List CV)(n:Nat):dR (.az cs n:CV)=false:=rfl
@[simp] theorem KX (cs:List CV)(n:Nat):CV.cells (.az cs n:CV)=[(.az cs n:CV)]:=rfl
@[simp] theorem IS  : dR (.aj:CV)=false:=rfl
@[simp] theorem IV  : CV.cells (.aj:CV)=[(.aj:CV)]:=rfl
@[simp] theorem JP (cs:List CV):dR (.cF cs:CV)=false:=rfl
@[simp] theorem Kd (cs:List CV):CV.cells (.cF cs:CV)=[(.cF cs:CV)]:=rfl
@[simp] theorem Hq  : dR (.bw:CV)=false:=rfl
@[simp] theorem Io  : CV.cells (.bw:CV)=[(.bw:CV)]:=rfl
@[simp] theorem Mf (f:FuncId)(cs:List CV):dR (.fn f cs:CV)=false:=rfl
@[simp] theorem MH (f:FuncId)(cs:List CV):CV.cells (.fn f cs:CV)=[(.fn f cs:CV)]:=rfl
@[simp] theorem IT  : dR (.cr:CV)=false:=rfl
@[simp] theorem IW  : CV.cells (.cr:CV)=[(.cr:CV)]:=rfl
@[simp] theorem KM (o f n:Nat):dR (.bp o f n:CV)=false:=rfl
@[simp] theorem KZ (o f n:Nat):CV.cells (.bp o f n:CV)=[(.bp o f n:CV)]:=rfl
@[simp] theorem JQ (o f:Nat):dR (.aq o f:CV)=false:=rfl
@[simp] theorem Ke (o f:Nat):CV.cells (.aq o f:CV)=[(.aq o f:CV)]:=rfl
@[simp] theorem Me (k:Nat)(es:List (Value×Value)):dR (.mp k es:CV)=false:=rfl
@[simp] theorem KO (cs:List CV):dR (.agg cs)=false:=rfl
@[simp] theorem K1 (cs:List CV):CV.cells (.agg cs)=cs:=rfl
@[simp] theorem KJ (cs:List CV):dR (.dI cs)=true:=rfl
@[simp] theorem KW (cs:List CV):CV.cells (.dI cs)=[.dI cs]:=rfl
attribute [simp] E1 ch Ge HM BY
attribute [simp] aJ ba tree bQ scalar one
attribute [simp] assoc j5 sy St.put St.del ev zk ub fF eJ
attribute [simp] r6 gv mX Gp fz bt dt yH b9 zj goH Dl Ey uv
attribute [simp] D3 CK arith cun g9 Kb dG ll Mj imax vt
attribute [simp] y4 ue gF lW TI.agg r9 St.new DY y8 Kh kI gZ mr y5 lj gf sf oB
attribute [simp] oE cells? D2 CD
attribute [simp] bB Hj sK enter bm kE pa nr pick St.trim um St.cV wu s8 St.own
attribute [simp] gA mI y7
attribute [simp] List.head?_drop
section
variable {P:Program}{C:Cx}{s:St}{ops:Array Oper}{av:List (Nat×TI)}{Q:Exit→St→Prop}{x y z:Code}
/- simp looks at the state alone, never at the code. -/
@[congr] theorem T_congr {s s':St}{c:Code}(h:s=s'):T P C c s Q=T P C c s' Q:=by rw[h]
@[congr] theorem TL_congr {s s':St}{l:List Oper}{K:St→Prop}(h:s=s'):TL P C ops l s K=TL P C ops l s' K:=by rw[h]
attribute [simp] fw pQ
def Bx (P:Program)(C:Cx)(ops:Array Oper)(K:St→Prop):List Oper→St→Prop
 | [],s=>K s
 | o::r,s=>TL P C ops (o::r) s K
attribute [simp] Bx
theorem TL.go' (ht:aF P av){K:St→Prop}{l:List Oper}(h:zj av C.nt ops (Bx P C ops K) l s):TL P C ops l s K:=by
 refine HG ht l s ?_;have e:Bx P C ops K=Bx P C ops K:=rfl;revert h;have:∀ (l:List Oper) (s:St),zj av C.nt ops (Bx P C ops K) l s→zj av C.nt ops (fun r s'=>TL P C ops r s' K) l s:=by
  intro l
  induction l with
  | nil=>intro s h;exact TL.nil h
  | cons o r ih=>
   intro s h;have fin:Dl (zj av C.nt ops (Bx P C ops K) r) (gv av C.nt ops s o)→Dl (zj av C.nt ops (fun r s'=>TL P C ops r s' K) r) (gv av C.nt ops s o):=fun h=>by
    cases hs:gv av C.nt ops s o with
    | none=>rw[hs] at h;exact h.elim
    | some s'=>rw[hs] at h;exact ih s' h
   unfold zj at h ⊢;split
   ·rename_i hc;rw[if_pos hc] at h;split
    ·rename_i hg;rw[hg] at h;exact fin h
    ·rename_i hg;split at h
     ·rename_i hg';exact absurd hg' hg
     ·exact h
   ·rename_i hc;rw[if_neg hc] at h;exact fin h
 exact this l s
theorem T.go' (ht:aF P av){id:Nat}{l:List Oper}(h:zj av C.nt l.toArray (Bx P C l.toArray (Q .normal)) l s):T P C (.region id l.toArray false) s Q:=T.region (TL.go' ht h)
def tailK (P:Program)(C:Cx)(av:List (Nat×TI))(l:List Oper)(tail:List Nat)(K:St→Prop)(s:St):Prop:=zj av C.nt l.toArray (Bx P C l.toArray K) (tail.map (l.toArray.getD · default)) s
theorem T.cut (J:St→Prop)(h:T P C x s (fw (aa C J) Q))(k:∀ s',J s'→T P C y s' Q):T P C (.seq x y) s Q:=
 T.seq (T.post h fun e s' q=>by
  cases e with
  | normal=>obtain⟨Qu,hj,hl⟩:=q;exact⟨Qu,k Qu hj,hl⟩
  | _=>exact⟨s',q,Le.refl _⟩)
end
attribute [simp] tailK
section
variable {P:Program}{C:Cx}{s:St}
def xu (l:Nat)(J:St→Prop)(Q:Exit→St→Prop):Exit→St→Prop
 | .goto m,s=>m=l∧J s
 | e,s=>Q e s
@[simp] theorem Mc (l m:Nat)(J:St→Prop)(Q:Exit→St→Prop)(s:St):xu l J Q (.goto m) s=(m=l∧J s):=rfl
@[simp] theorem JO (l:Nat)(J:St→Prop)(Q:Exit→St→Prop)(s:St):xu l J Q .normal s=Q .normal s:=rfl
@[simp] theorem NM (l:Nat)(J:St→Prop)(Q:Exit→St→Prop)(s:St):xu l J Q .ret s=Q .ret s:=rfl
@[simp] theorem Md (l m:Nat)(J:St→Prop)(Q:Exit→St→Prop)(s:St):xu l J Q (.exit m) s=Q (.exit m) s:=rfl
theorem T.Je {c rest:Code}{Q:Exit→St→Prop}(l:Nat)(I:Nat→St→Prop)(hf:findLabel c l=some rest)(first:T P C c s (xu l (fun s'=>∃ m,aa C (I m) s') Q))
  (pass:∀ n s,I n s→T P C rest s (xu l (fun s'=>∃ m,m<n∧aa C (I m) s') Q)):T P C (.scope c) s Q:=fun a w hr=>by
 classical
 let J:Nat→Act→World→Prop:=fun n a w=>∃ s,I n s∧Rel C s a w
 have hx:∀ a w,(∃ n,J n a w)→∃ n,J n a w∧∀ m,J m a w→n≤m:=fun a w ⟨n,hn⟩=>by
  induction n using Nat.strongRecOn with
  | _ n ih=>
   by_cases h:∃ m,m<n∧J m a w
   ·obtain⟨m,hm,hi⟩:=h;exact ih m hm hi
   ·exact⟨n,hn,fun m hm=>Nat.le_of_not_lt fun Oa=>h ⟨m,Oa,hm⟩⟩
 let μ:Act→World→Nat:=fun a w=>if h:∃ n,J n a w then (hx a w h).choose else 0
 have hμ:∀ a w (h:∃ n,J n a w),J (μ a w) a w∧∀ m,J m a w→μ a w≤m:=fun a w h=>by
  simp only[μ,dif_pos h];exact (hx a w h).choose_spec
 have up:∀ {n s' a' w'},aa C (I n) s'→Rel C s' a' w'→J n a' w':=fun⟨Qu,hi,hl⟩ hr=>⟨Qu,hi,hl _ _ hr⟩;refine wp_scope_jumps l (fun a w=>∃ n,J n a w) μ hf (wp_mono (first a w hr) fun e a' w' q=>?_) fun a w hJ=>?_
 ·obtain⟨s',q,OS⟩:=q
  cases e with
  | goto m=>obtain⟨e,m,hm⟩:=q;exact⟨e,m,up hm OS⟩
  | _=>exact⟨s',q,OS⟩
 ·obtain⟨s1,hi,OX⟩:=(hμ a w hJ).1;refine wp_mono (pass (μ a w) s1 hi a w OX) fun e a' w' q=>?_;obtain⟨s',q,OS⟩:=q
  cases e with
  | goto m=>
   obtain⟨e,m,hm,hi⟩:=q;exact⟨e,⟨m,up hi OS⟩,Nat.lt_of_le_of_lt ((hμ a' w' ⟨m,up hi OS⟩).2 m (up hi OS)) hm⟩
  | _=>exact⟨s',q,OS⟩
end
def H0 (C:Cx)(av:List (Nat×TI))(f:Func)(R:CV→St→Prop):Exit→St→Prop
 | .normal,s=>aa C (fun s'=>∃ r,bm av f s'=some r∧R r s') s
 | .ret,s=>aa C (fun s'=>∃ r,bm av f s'=some r∧R r s') s
 | _,_=>False
def Body (P:Program)(av:List (Nat×TI))(f:FuncId)(args:List CV)(H:List (Nat×Ob))(n:Nat)(R:CV→St→Prop):Prop:=
 ∃ fn c, P.funcs[f]? = some fn ∧ fn.body = some c ∧ (fn.name == "runtime.NumGoroutine") = false ∧ args.length ≤ fn.ntmps ∧
  ∀ C:Cx,C.nt=fn.ntmps→C.n0=n→T P C c ⟨(enter args).env,H,n⟩ (H0 C av fn R)
theorem Body.iV {P : Program} {av : List (Nat × TI)} {f : FuncId} {fn : Func} {c : Code} {args : List CV} {H : List (Nat × Ob)} {n : Nat} {R : CV → St → Prop} (hf : P.funcs[f]? = some fn) (hb : fn.body = some c) (hn : (fn.name == "runtime.NumGoroutine") = false)
  (ha:args.length≤fn.ntmps) (h:∀ C:Cx,C.nt=fn.ntmps→C.n0=n→T P C c ⟨(enter args).env,H,n⟩ (H0 C av fn R)):Body P av f args H n R:=⟨fn,c,hf,hb,hn,ha,h⟩
section
variable {P:Program}{C:Cx}{σ σ':Nat→Option OB}{s s':St}{a a':Act}{w w':World}{ops:Array Oper}{av:List (Nat×TI)}
def Cx.inner (C:Cx)(w:World)(σ:Nat→Option OB)(H:List (Nat×Ob))(nt:Nat)(hF:IX w C.F (fun b=>∃ o ob,assoc H o=some ob∧aU σ o=some b))(n:Nat):Cx:=
 ⟨w,C.F,fun b=>∃ o ob,assoc H o=some ob∧aU σ o=some b,hF,nt,σ,n⟩
theorem rP (h:aK C σ s a w){b:Nat}(hb:∃ o ob,assoc s.heap o=some ob∧aU σ o=some b):b<w.heap.size∧¬ C.F b∧(C.own b∨C.w0.heap.size≤b):=by
 obtain⟨o,ob,ho,hb⟩:=hb;obtain⟨B,m1,_,_,_,m5⟩:=h.obj o ob ho;obtain⟨cur,n1,_,n3,n4,_⟩:=m5 b Wb;exact⟨(Array.getElem?_eq_some_iff.1 n1).1,n3,n4⟩
theorem aK.inner (h:aK C σ s a w)(hF:IX w C.F (fun b=>∃ o ob,assoc s.heap o=some ob∧aU σ o=some b))(nt:Nat){args:List CV}{vs:List Value}(hv:aT w (FB C σ s.heap) σ args vs)(ha:args.length≤nt) :
  aK (C.inner w σ s.heap nt hF s.nx) σ ⟨(enter args).env,s.heap,s.nx⟩ { tmps:=vs.toArray++Array.replicate (nt-vs.toArray.size) undef,defers:=[] } w:=by
 have hl:=aT.length _ _ hv;refine⟨rfl,by simp[Cx.inner];omega,rfl,rfl,rfl,Nat.le_refl _,fun _ _ _=>rfl,?_,?_,h.inj,h.nx,fun _ _=>rfl,Nat.le_refl _,fun o B b ho hB _=>(by rw[h.nx o ho] at hB;cases hB)⟩
 ·intro t c hc;obtain⟨_,h2⟩:=fS args 0 t c hc;obtain⟨v,h3,h4⟩:=aT.get _ _ hv t c (by simpa using h2);refine⟨v,?_,h4⟩;have Oa:=(List.getElem?_eq_some_iff.1 h3).1;simp only;rw[Array.getElem?_append_left (by simpa using Oa)]
  simpa using h3
 ·intro o ob ho;obtain⟨B,m1,m2,m3,m4,m5⟩:=h.obj o ob ho;refine⟨B,m1,m2,m3,m4,fun b hb=>?_⟩;obtain⟨cur,n1,n2,n3,n4,n5,n6⟩:=m5 b hb;exact⟨cur,n1,n2,n3,.inl ⟨o,ob,ho,by simp[aU,m1,hb]⟩,n5,n6⟩
theorem aK.back (h:aK C σ s a w){hF:IX w C.F (fun b=>∃ o ob,assoc s.heap o=some ob∧aU σ o=some b)}{nt:Nat}(h':aK (C.inner w σ s.heap nt hF s.nx) σ' s' a' w'):aK C σ' ⟨s.env,s'.heap,s'.nx⟩ a w':=by
 have OC:∀ b,b<w.heap.size→(¬ ∃ o ob,assoc s.heap o=some ob∧aU σ o=some b)→w'.heap[b]? = w.heap[b]?:=fun b hb hn=>h'.frame b hb hn;have QN:∀ o ob b,assoc s'.heap o=some ob→aU σ' o=some b→(∃ o ob,assoc s.heap o=some ob∧aU σ o=some b)∨w.heap.size≤b:=fun o ob b ho hb=>by
  obtain⟨B,m1,_,_,_,m5⟩:=h'.obj o ob ho;obtain⟨cur,_,_,_,n4,_⟩:=m5 b Wb;exact n4
 refine⟨h.oA,h.tm,h'.os.trans h.os,h'.tape.trans h.tape,h'.output.trans h.output,Nat.le_trans h.size h'.size,?_,?_,?_,h'.inj,h'.nx,fun o ho=>(h'.gO o (Nat.lt_of_lt_of_le ho h.low)).trans (h.gO o ho),Nat.le_trans h.low h'.low,fun o B b ho hB hb=>?_⟩
 ·intro b hb OY;rw[OC b (Nat.lt_of_lt_of_le hb h.size) fun hx=>?_]
  ·exact h.frame b hb OY
  ·rcases (rP h hx).2.2 with h1 | h1
   ·exact OY h1
   ·omega
 ·intro t c hc;obtain⟨v,k1,k2⟩:=h.env t c hc;refine⟨v,k1,VR.bl ⟨fun ad u hf hu=>?_,fun r _ hf hu _=>?_⟩ _ _ (fun o ho=>?_) k2⟩
  case refine_3=>
   refine h'.gO o (Nat.lt_of_not_le fun hle=>?_);obtain⟨B,hB⟩:=VR.refs _ _ o k2 ho;rw[h.nx o hle] at hB;cases hB
  ·have Oa:=World.block_lt_of_cell? w ad hu;have OY:¬ ∃ o ob,assoc s.heap o=some ob∧aU σ o=some ad.block:=fun hx=>hf (.inr hx);refine⟨by rw[World.cell?_of_block (w:=w) (OC ad.block Oa OY)];exact hu,?_⟩;rintro (hx | ⟨o,ob,ho,hb⟩)
   ·exact hf (.inl hx)
   ·rcases QN o ob _ ho hb with h1 | h1
    ·exact OY h1
    ·omega
  ·have Oa:=(Array.getElem?_eq_some_iff.1 hu).1;have OY:¬ ∃ o ob,assoc s.heap o=some ob∧aU σ o=some r:=fun hx=>hf (.inr hx);refine⟨by rw[OC r Oa OY];exact hu,?_⟩;rintro (hx | ⟨o,ob,ho,hb⟩)
   ·exact hf (.inl hx)
   ·rcases QN o ob _ ho hb with h1 | h1
    ·exact OY h1
    ·omega
 ·intro o ob ho;obtain⟨B,m1,m2,m3,m4,m5⟩:=h'.obj o ob ho;refine⟨B,m1,m2,m3,m4,fun b hb=>?_⟩;obtain⟨cur,n1,n2,n3,n4,n5,n6⟩:=m5 b hb;refine⟨cur,n1,n2,n3,?_,n5,n6⟩;rcases n4 with n4 | n4
  ·exact (rP h n4).2.2
  ·exact .inr (Nat.le_trans h.size n4)
 ·rcases Nat.lt_or_ge o s.nx with Oa | Rn
  ·rw[h'.gO o Oa] at hB;exact h.new o B b ho hB hb
  ·rcases h'.new o B b Rn hB hb with n4 | n4
   ·exact (rP h n4).2.2
   ·exact .inr (Nat.le_trans h.size n4)
end
end Go.Can
