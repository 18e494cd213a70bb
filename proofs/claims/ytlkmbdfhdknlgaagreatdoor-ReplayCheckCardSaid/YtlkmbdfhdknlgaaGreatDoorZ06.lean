/- What may be said anew of a state: entries forgotten, objects -/
import Derived.Test.YtlkmbdfhdknlgaaGreatDoorZ05
namespace Go.Can
open Go.RowKit
def Le (C:Cx)(s s':St):Prop:=∀ (a:Act) (w:World),Rel C s a w→Rel C s' a w
section
variable {C:Cx}
theorem Le.refl (s:St):Le C s s:=fun _ _ h=>h
theorem Le.trans {s s' L3:St}(h:Le C s s')(k:Le C s' L3):Le C s L3:=fun a w hr=>k a w (h a w hr)
def pick {α:Type}(l:List (Nat×α)):List Nat→List (Nat×α)
 | []=>[]
 | t::r=>match assoc l t with
  | some c=>(t,c)::pick l r
  | none=>pick l r
theorem dF {α:Type}(l:List (Nat×α)):∀ (ks:List Nat) (t:Nat) (c:α),assoc (pick l ks) t=some c→assoc l t=some c
 | [],_,_,h=>by simp[pick,assoc] at h
 | k::r,t,c,h=>by
  simp only[pick] at h;split at h
  ·rename_i x hx;simp only[assoc] at h;split at h
   ·rename_i e;subst e;cases h;exact hx
   ·exact dF l r t c h
  ·exact dF l r t c h
mutual
def aZ (n:Nat):CV→Bool
 | .iter o _ _=>decide (o<n)
 | .mp o _=>decide (o<n)
 | .bw o _ _=>decide (o<n)
 | .ai o _=>decide (o<n)
 | .agg cs=>aO n cs
 | .fn _ cs=>aO n cs
 | .iface _ cs=>aO n cs
 | .db cs=>aO n cs
 | _=>true
def aO (n:Nat):List CV→Bool
 | []=>true
 | c::cs=>aZ n c && aO n cs
end
mutual
theorem j0 (n:Nat):∀ (c:CV) (o:Nat),aZ n c=true→aA o c=false→o<n
 | .bw p _ _,o,h,hr=>by
  have:p=o:=by simpa [aA] using hr
  subst this;simpa [aZ] using h
 | .ai p _,o,h,hr=>by
  have:p=o:=by simpa [aA] using hr
  subst this;simpa [aZ] using h
 | .agg cs,o,h,hr=>dS n cs o (by simpa [aZ] using h) (by simpa [aA] using hr)
 | .fn _ cs,o,h,hr=>dS n cs o (by simpa [aZ] using h) (by simpa [aA] using hr)
 | .iface _ cs,o,h,hr=>dS n cs o (by simpa [aZ] using h) (by simpa [aA] using hr)
 | .db cs,o,h,hr=>dS n cs o (by simpa [aZ] using h) (by simpa [aA] using hr)
 | .int _ _,_,_,hr=>by simp[aA] at hr
 | .bool _,_,_,hr=>by simp[aA] at hr
 | .str _,_,_,hr=>by simp[aA] at hr
 | .au _ _,_,_,hr=>by simp[aA] at hr
 | .ag,_,_,hr=>by simp[aA] at hr
 | .cc _,_,_,hr=>by simp[aA] at hr
 | .bg,_,_,hr=>by simp[aA] at hr
 | .bT,_,_,hr=>by simp[aA] at hr
 | .iter p _ _,o,h,hr=>by
  simp only[aA,bne_eq_false_iff_eq] at hr;subst hr
  simpa [aZ] using h
 | .mp p _,o,h,hr=>by
  simp only[aA,bne_eq_false_iff_eq] at hr;subst hr
  simpa [aZ] using h
theorem dS (n:Nat):∀ (cs:List CV) (o:Nat),aO n cs=true→dc o cs=false→o<n
 | [],_,_,hr=>by simp[dc] at hr
 | c::cs,o,h,hr=>by
  simp only[aO,Bool.and_eq_true] at h;simp only[dc,Bool.and_eq_false_iff] at hr;rcases hr with hr | hr
  ·exact j0 n c o h.1 hr
  ·exact dS n cs o h.2 hr
end
def St.trim (s:St)(ks os:List Nat)(n:Nat):St:=⟨pick s.env ks,pick s.heap os,n⟩
def qE (s:St)(ks os:List Nat)(n:Nat):Bool:=
 (pick s.env ks).all (fun x=>aZ n x.2) && (pick s.heap os).all fun x=>decide (x.1<n) && aO n x.2.cells
theorem Le.trim {s:St}(ks os:List Nat)(n:Nat)(h:qE s ks os n=true)(ML:C.n0≤n):Le C s (s.trim ks os n):=by
 intro a w ⟨σ,hr⟩;simp only[qE,Bool.and_eq_true] at h;obtain⟨h1,h2⟩:=h;rw[List.all_eq_true] at h1 h2;have hs:∀ {o},o<n→(if o<n then σ o else none)=σ o:=fun {o} ho=>by rw[if_pos ho]
 have hF:∀ b,FB C (fun o=>if o<n then σ o else none) (pick s.heap os) b→FB C σ s.heap b:=by
  rintro b (hb | ⟨o,ob,ho,hb⟩)
  ·exact .inl hb
  ·have:=h2 _ (br _ _ _ ho);simp only[Bool.and_eq_true,decide_eq_true_eq] at this;simp only[aH,hs this.1] at hb;exact .inr ⟨o,ob,dF _ _ _ _ ho,hb⟩
 have hk:b9 w w (FB C σ s.heap) (FB C (fun o=>if o<n then σ o else none) (pick s.heap os)):=⟨fun ad u hf hu=>⟨hu,fun h=>hf (hF _ h)⟩,fun r _ hf hu _=>⟨hu,fun h=>hf (hF _ h)⟩⟩;refine⟨fun o=>if o<n then σ o else none,hr.me,hr.tm,hr.os,hr.tape,hr.output,hr.size,hr.frame,?_,?_,?_,?_,fun o ho=>by rw[hs (Nat.lt_of_lt_of_le ho ML)];exact hr.fM o ho,ML,fun o B b ho hB hb=>?_⟩
 ·intro t c hc;have hm:=h1 _ (br _ _ _ hc);obtain⟨v,k1,k2⟩:=hr.env t c (dF _ _ _ _ hc);exact⟨v,k1,VR.a7 hk c v (fun o ho=>hs (j0 n c o hm ho)) k2⟩
 ·intro o ob ho;have hm:=h2 _ (br _ _ _ ho);simp only[Bool.and_eq_true,decide_eq_true_eq] at hm;obtain⟨B,m1,m2,m3,m4,m5⟩:=hr.obj o ob (dF _ _ _ _ ho);refine⟨B,by simp only[hs hm.1];exact m1,m2,m3,m4,fun b hb=>?_⟩;obtain⟨cur,n1,n2,n3,n4,n5,n6⟩:=m5 b hb;exact⟨cur,n1,n2,n3,n4,n5,aG.a7 hk _ _ (fun p hp=>hs (dS n _ p hm.2 hp)) n6⟩
 ·intro o o' ob Ka b ho Kv hb Kc;have hm:=h2 _ (br _ _ _ ho);have Rg:=h2 _ (br _ _ _ Kv);simp only[Bool.and_eq_true,decide_eq_true_eq] at hm Rg;simp only[aH,hs hm.1] at hb;simp only[aH,hs Rg.1] at Kc;exact hr.inj o o' ob Ka b (dF _ _ _ _ ho) (dF _ _ _ _ Kv) hb Kc
 ·intro o ho;simp only[St.trim] at ho;rw[if_neg yA]
 ·split at hB
  ·exact hr.new o B b ho hB hb
  ·cases hB
theorem Le.env {s:St}(ks:List Nat):Le C s { s with env:=pick s.env ks }:=by
 intro a w ⟨σ,hr⟩;exact⟨σ,hr.me,hr.tm,hr.os,hr.tape,hr.output,hr.size,hr.frame,fun t c hc=>hr.env t c (dF _ _ _ _ hc),hr.obj,hr.inj,hr.nx,hr.fM,hr.low,hr.new⟩
mutual
def bZ (o:Nat)(cells:List CV)(sz:Nat):CV→CV
 | .bw p off n=>if p=o then .au ((cells.drop off).take (n*sz)) n else .bw p off n
 | .ai p off=>if p=o then .cc (cells.drop off) else .ai p off
 | .agg cs=>.agg (gu o cells sz cs)
 | .fn f cs=>.fn f (gu o cells sz cs)
 | .iface f cs=>.iface f (gu o cells sz cs)
 | .db cs=>.db (gu o cells sz cs)
 | .int k n=>.int k n
 | .bool b=>.bool b
 | .str b=>.str b
 | .au cs n=>.au cs n
 | .ag=>.ag
 | .cc cs=>.cc cs
 | .bg=>.bg
 | .bT=>.bT
 | .iter k s p=>.iter k s p
 | .mp k es=>.mp k es
 | .any=>.any
def gu (o:Nat)(cells:List CV)(sz:Nat):List CV→List CV
 | []=>[]
 | c::cs=>bZ o cells sz c::gu o cells sz cs
end
theorem FU {o:Nat}{cells:List CV}{sz:Nat}:∀ c,one (bZ o cells sz c)=one c
 | .bw p off n=>by simp only[bZ];split<;>rfl
 | .ai p off=>by simp only[bZ];split<;>rfl
 | .agg _=>rfl
 | .fn _ _=>rfl
 | .iface _ _=>rfl
 | .db _=>rfl
 | .int _ _=>rfl
 | .bool _=>rfl
 | .str _=>rfl
 | .au _ _=>rfl
 | .ag=>rfl
 | .any=>rfl
 | .cc _=>rfl
 | .bg=>rfl
 | .bT=>rfl
 | .iter _ _ _=>rfl
 | .mp _ _=>rfl
theorem rK {o:Nat}{cells:List CV}{sz:Nat}:∀ cs:List CV,(gu o cells sz cs).all one=cs.all one
 | []=>rfl
 | c::cs=>by simp only[gu,List.all_cons,FU,rK cs]
theorem ni {o:Nat}{cells:List CV}{sz:Nat}:∀ cs:List CV,(gu o cells sz cs).length=cs.length
 | []=>rfl
 | c::cs=>by simp only[gu,List.length_cons,ni cs]
def sL (o:Nat)(cells:List CV)(sz:Nat):List (Nat×CV)→List (Nat×CV)
 | []=>[]
 | (t,c)::r=>(t,bZ o cells sz c)::sL o cells sz r
def qc (o:Nat)(cells:List CV)(sz:Nat):List (Nat×Ob)→List (Nat×Ob)
 | []=>[]
 | (p,x)::r=>if p=o then qc o cells sz r else (p,{ x with cells:=gu o cells sz x.cells })::qc o cells sz r
def St.dC (s:St)(o:Nat)(ob:Ob):St:=⟨sL o ob.cells ob.sz s.env,qc o ob.cells ob.sz s.heap,s.nx⟩
theorem r9 {o:Nat}{cells:List CV}{sz:Nat}:∀ (l:List (Nat×CV)) (t:Nat) (c:CV),assoc (sL o cells sz l) t=some c→∃ d,assoc l t=some d∧c=bZ o cells sz d
 | [],_,_,h=>by simp[sL,assoc] at h
 | (k,x)::r,t,c,h=>by
  simp only[sL,assoc] at h ⊢;split at h
  ·rename_i e;rw[if_pos e];cases h;exact⟨x,rfl,rfl⟩
  ·rename_i e;rw[if_neg e];exact r9 r t c h
theorem eN {o:Nat}{cells:List CV}{sz:Nat}:∀ (l:List (Nat×Ob)) (p:Nat) (x:Ob),assoc (qc o cells sz l) p=some x→p≠o∧∃ y,assoc l p=some y∧x={ y with cells:=gu o cells sz y.cells }
 | [],_,_,h=>by simp[qc,assoc] at h
 | (k,y)::r,p,x,h=>by
  simp only[qc] at h;split at h
  ·rename_i hk;obtain⟨h1,z,h2,h3⟩:=eN r p x h;refine⟨h1,z,?_,h3⟩;simp only[assoc];rw[if_neg (fun e=>h1 (by rw[← e,hk]))];exact h2
  ·rename_i hk;simp only[assoc] at h;split at h
   ·rename_i e;cases h;subst e;exact⟨hk,y,by simp[assoc],rfl⟩
   ·rename_i e;obtain⟨h1,z,h2,h3⟩:=eN r p x h;exact⟨h1,z,by simp only[assoc];rw[if_neg e];exact h2,h3⟩
section
variable {w:World}{F F':Nat→Prop}{σ:Nat→Option OB}{o sz:Nat}{cells:List CV}{B:OB}
mutual
theorem z8 (hk:b9 w w F F')(hB:σ o=some B)(CX:B.sz=sz)(hm:∀ b,B.iI=some b→∀ k,ej w F' (cells.drop k) ⟨b,k,none⟩):∀ (c:CV) (v:Value),VR w F σ c v→VR w F' σ (bZ o cells sz c) v
 | .bw p off n,v,hv=>by
  simp only[bZ];split
  ·rename_i e;subst e;simp only[VR] at hv;obtain⟨B',L0,hv⟩:=hv;rw[hB] at L0;cases L0;split at hv
   ·obtain⟨rfl,rfl,rfl⟩:=hv;simp only[VR,bK];exact⟨none,0,rfl,Nat.le_refl _,Nat.zero_le _,.inl ⟨trivial,by simp⟩⟩
   ·rename_i b hb;obtain⟨cap,rfl,h1,h2,_⟩:=hv;simp only[VR,bK];exact⟨_,cap,rfl,h1,h2,.inr ⟨_,rfl,ej.take _ _ _ (hm b hb off)⟩⟩
  ·exact VR.a7 hk _ _ (fun _ _=>rfl) hv
 | .ai p off,v,hv=>by
  simp only[bZ];split
  ·rename_i e;subst e;simp only[VR] at hv;obtain⟨B',b,L0,hb,rfl⟩:=hv;rw[hB] at L0;cases L0;simp only[VR,bK];exact⟨_,rfl,hm b hb off⟩
  ·exact VR.a7 hk _ _ (fun _ _=>rfl) hv
 | .agg cs,v,hv=>by
  simp only[bZ,VR] at hv ⊢;obtain⟨vs,e,r,h1⟩:=hv;exact⟨vs,e,j8 hk hB CX hm cs vs r,by rw[rK];exact h1⟩
 | .fn f cs,v,hv=>by
  simp only[bZ,VR] at hv ⊢;obtain⟨vs,e,r⟩:=hv;exact⟨vs,e,j8 hk hB CX hm cs vs r⟩
 | .iface f cs,v,hv=>by
  simp only[bZ,VR] at hv ⊢;obtain⟨vs,e,r⟩:=hv;exact⟨vs,e,j8 hk hB CX hm cs vs r⟩
 | .db cs,v,hv=>by
  simp only[bZ,VR] at hv ⊢;obtain⟨vs,e,r⟩:=hv;exact⟨vs,e,j8 hk hB CX hm cs vs r⟩
 | .int k n,v,hv=>by simp only[bZ];exact VR.a7 hk _ _ (fun _ _=>rfl) hv
 | .bool b,v,hv=>by simp only[bZ];exact VR.a7 hk _ _ (fun _ _=>rfl) hv
 | .str b,v,hv=>by simp only[bZ];exact VR.a7 hk _ _ (fun _ _=>rfl) hv
 | .au cs n,v,hv=>by simp only[bZ];exact VR.a7 hk _ _ (fun _ _=>rfl) hv
 | .ag,v,hv=>by simp only[bZ];exact VR.a7 hk _ _ (fun _ _=>rfl) hv
 | .cc cs,v,hv=>by simp only[bZ];exact VR.a7 hk _ _ (fun _ _=>rfl) hv
 | .bg,v,hv=>by simp only[bZ];exact VR.a7 hk _ _ (fun _ _=>rfl) hv
 | .bT,v,hv=>by simp only[bZ];exact VR.a7 hk _ _ (fun _ _=>rfl) hv
 | .iter _ _ _,v,hv=>by simp only[bZ];exact VR.a7 hk _ _ (fun _ _=>rfl) hv
 | .mp _ _,v,hv=>by simp only[bZ];exact VR.a7 hk _ _ (fun _ _=>rfl) hv
 | .any,v,hv=>by simpa [bZ,VR] using hv
theorem j8 (hk:b9 w w F F')(hB:σ o=some B)(CX:B.sz=sz)(hm:∀ b,B.iI=some b→∀ k,ej w F' (cells.drop k) ⟨b,k,none⟩):∀ (cs:List CV) (vs:List Value),aG w F σ cs vs→aG w F' σ (gu o cells sz cs) vs
 | [],_,hv=>by simpa [gu,aG] using hv
 | c::cs,vs,hv=>by
  simp only[gu,aG] at hv ⊢;obtain⟨v,r,e,h1,h2⟩:=hv;exact⟨v,r,e,z8 hk hB CX hm c v h1,j8 hk hB CX hm cs r h2⟩
end
end
theorem aB.dC {C:Cx}{σ:Nat→Option OB}{a:Act}{w:World}{s:St}(hr:aB C σ s a w){o:Nat}{ob:Ob}(ho:assoc s.heap o=some ob)(ht:trees ob.cells=true):aB C σ (s.dC o ob) a w:=by
 obtain⟨B,hB,CX,hn,h1,h5⟩:=hr.obj o ob ho;have hF:∀ b,FB C σ (qc o ob.cells ob.sz s.heap) b→FB C σ s.heap b:=by
  rintro b (hb | ⟨p,x,hp,hb⟩)
  ·exact .inl hb
  ·obtain⟨_,y,hy,_⟩:=eN _ _ _ hp;exact .inr ⟨p,y,hy,hb⟩
 have hk:b9 w w (FB C σ s.heap) (FB C σ (qc o ob.cells ob.sz s.heap)):=⟨fun ad u hf hu=>⟨hu,fun h=>hf (hF _ h)⟩,fun r _ hf hu _=>⟨hu,fun h=>hf (hF _ h)⟩⟩;have hm:∀ b,B.iI=some b→∀ k,ej w (FB C σ (qc o ob.cells ob.sz s.heap)) (ob.cells.drop k) ⟨b,k,none⟩:=fun b hb k=>by
  obtain⟨cur,k1,k2,k3,k4,k5,k6⟩:=h5 b hb;have Tl:¬ FB C σ (qc o ob.cells ob.sz s.heap) b:=by
   rintro (hf | ⟨p,x,hp,NU⟩)
   ·exact k3 hf
   ·obtain⟨F0,y,hy,_⟩:=eN _ _ _ hp;exact F0 (hr.inj p o y ob b hy ho NU (by simp[aH,hB,hb]))
  have h2:ej w (FB C σ (qc o ob.cells ob.sz s.heap)) ob.cells ⟨b,0,none⟩:=gj _ _ _ (bt.a7 hk.1 _ _ (aG.dx _ _ ht k6)) h1 Tl fun j u hu=>by
   rw[add_lit,Nat.zero_add,cell_of_row w b j cur _ _ k1];rw[List.getElem?_take] at hu;split at hu
   ·simpa using hu
   ·cases hu
  have:=h2.drop k;rwa [add_lit,Nat.zero_add] at this
 refine⟨hr.me,hr.tm,hr.os,hr.tape,hr.output,hr.size,hr.frame,?_,?_,?_,hr.nx,hr.fM,hr.low,hr.new⟩
 ·intro t c hc;obtain⟨d,hd,rfl⟩:=r9 _ _ _ hc;obtain⟨v,k1,k2⟩:=hr.env t d hd;exact⟨v,k1,z8 hk hB CX hm d v k2⟩
 ·intro p x hp;obtain⟨F0,y,hy,rfl⟩:=eN _ _ _ hp;obtain⟨B',m1,m2,m3,m4,m5⟩:=hr.obj p y hy;refine⟨B',m1,m2,fun hn=>?_,by rw[rK];exact m4,fun b hb=>?_⟩
  ·rw[m3 hn];rfl
  ·obtain⟨cur,n1,n2,n3,n4,n5,n6⟩:=m5 b hb;refine⟨cur,n1,n2,n3,n4,by rw[ni];exact n5,?_⟩;rw[ni];exact j8 hk hB CX hm _ _ n6
 ·intro p q x y b hp hq hb Kc;obtain⟨_,x',hx,_⟩:=eN _ _ _ hp;obtain⟨_,y',hy,_⟩:=eN _ _ _ hq;exact hr.inj p q x' y' b hx hy hb Kc
theorem Le.dC {s:St}{o:Nat}{ob:Ob}(ho:assoc s.heap o=some ob)(ht:trees ob.cells=true):Le C s (s.dC o ob):=fun _ _ ⟨σ,hr⟩=>⟨σ,hr.dC ho ht⟩
def St.own (s:St)(t:Nat)(e:TypeId)(sz:Nat):St:={ env:=pH s.env t (.bw s.nx 0 0),heap:=(s.nx,⟨e,sz,[]⟩)::s.heap,nx:=s.nx+1 }
theorem Le.own {s:St}(t:Nat)(e:TypeId)(sz:Nat)(ht:assoc s.env t=some .ag):Le C s (s.own t e sz):=by
 intro a w ⟨σ,hr⟩;obtain⟨h1,h2⟩:=hr.fresh (World.grownBy.refl w none) (ob:=⟨e,sz,[]⟩) (B:=⟨none,0,sz⟩) rfl rfl (fun _=>rfl) (fun b hb=>by cases hb);refine⟨_,h1.me,h1.tm,h1.os,h1.tape,h1.output,h1.size,h1.frame,?_,h1.obj,h1.inj,h1.nx,h1.fM,h1.low,h1.new⟩;intro u c hc;simp only[St.own] at hc;rw[eg] at hc;split at hc
 ·rename_i eu;subst eu;rw[ht] at hc;simp only[Option.map_some,Option.some.injEq] at hc;subst hc;obtain⟨v,k1,k2⟩:=hr.env t _ ht;simp only[VR] at k2;subst k2;refine⟨_,k1,?_⟩;simp only[VR];exact⟨_,cN,by simp⟩
 ·exact h1.env u c hc
section
variable {P:Program}{C:Cx}{s:St}{ops:Array Oper}{ak:List (Nat×TI)}
theorem T.le {s':St}{c:Code}{Q:Exit→St→Prop}(h:Le C s s')(ht:T P C c s' Q):T P C c s Q:=fun a w hr=>ht a w (h a w hr)
theorem T.post {c:Code}{Q Q':Exit→St→Prop}(h:T P C c s Q')(hq:∀ e s',Q' e s'→∃ L3,Q e L3∧Le C s' L3):T P C c s Q:=fun a w hr=>
 wp_mono (h a w hr) fun e a' w' ⟨s',q,r⟩=>by
  obtain⟨L3,q',l⟩:=hq e s' q;exact⟨L3,q',l a' w' r⟩
theorem TL.le {s':St}{l:List Oper}{K:St→Prop}(h:Le C s s')(ht:TL P C ops l s' K):TL P C ops l s K:=fun a w Q hr hQ=>ht a w Q (h a w hr) hQ
def aa (C:Cx)(I:St→Prop)(s:St):Prop:=∃ s',I s'∧Le C s s'
theorem T.aI {c:Code}{Q:Exit→St→Prop}(I:Nat→St→Prop){n:Nat}(h₀:aa C (I n) s)(round:∀ n s,I n s→T P C c s (eC (fun s'=>∃ m,m<n∧aa C (I m) s') Q)):T P C (.loop c) s Q:=by
 obtain⟨s',h0,l0⟩:=h₀;refine T.le l0 (T.loop I h0 fun n s hi=>T.post (round n s hi) fun e s' q=>?_)
 cases e with
 | normal=>
  obtain⟨m,hm,L3,hi,hl⟩:=q;exact⟨L3,⟨m,hm,hi⟩,hl⟩
 | _=>exact⟨s',q,Le.refl _⟩
def Ie (C:Cx)(ak:List (Nat×TI))(f:Func)(r:CV):Exit→St→Prop
 | .normal,s=>aa C (fun s=>bf ak f s=some r) s
 | .ret,s=>aa C (fun s=>bf ak f s=some r) s
 | _,_=>False
theorem ae.aD (Mw : ay P ak) {f : FuncId} {fn : Func} {c : Code} {args : List CV} {r : CV} (hf : P.funcs[f]? = some fn) (hb : fn.body = some c) (hn : (fn.name == "runtime.NumGoroutine") = false)
  (ha:args.length≤fn.ntmps) (ht:tree r=true) (h:∀ C:Cx,C.nt=fn.ntmps→C.n0=0→T P C c (enter args) (Ie C ak fn r)):ae P f args r:=
 ae.je Mw hf hb hn ha ht fun C hC xJ=>T.post (h C hC xJ) fun e s' q=>by
  cases e with
  | normal=>exact q
  | ret=>exact q
  | _=>exact q.elim
def u9 (o:Oper):Bool:=match o.op with
 | .call c=>match c.callee with
  | .builtin _=>false
  | _=>true
 | _=>false
def bM (ops:Array Oper)(s:St)(o:Oper):Option Bool:=match o.guard with
 | none=>some true
 | some (j,want)=>match (ops[j]?).bind (·.dst) with
  | none=>none
  | some t=>pv (assoc s.env t) want
def vE (ak:List (Nat×TI))(nt:Nat)(ops:Array Oper)(K:List Oper→St→Prop):List Oper→St→Prop
 | [],s=>K [] s
 | o::r,s=>if u9 o then
   match bM ops s o with
   | some false=>zP (vE ak nt ops K r) (fp ak nt ops s o)
   | _=>K (o::r) s
  else zP (vE ak nt ops K r) (fp ak nt ops s o)
theorem DG (ht:ay P ak){K:St→Prop}:∀ (l:List Oper) (s:St),vE ak C.nt ops (fun r s'=>TL P C ops r s' K) l s→TL P C ops l s K
 | [],_,h=>h
 | o::r,s,h=>by
  have fin:zP (vE ak C.nt ops (fun r s'=>TL P C ops r s' K) r) (fp ak C.nt ops s o)→TL P C ops (o::r) s K:=fun h=>by
   cases hs:fp ak C.nt ops s o with
   | none=>rw[hs] at h;exact h.elim
   | some s'=>rw[hs] at h;exact TL.step ht hs (DG ht r s' h)
  unfold vE at h;split at h
  ·split at h
   ·exact fin h
   ·exact h
  ·exact fin h
def oe (ak:List (Nat×TI))(nt:Nat)(ops:Array Oper)(s:St)(o:Oper):Option St:=
 if a9 nt o.dst then
  match o.guard with
  | none=>(eE ak s o.op).map (s.put o.dst)
  | some (j,want)=>match (ops[j]?).bind (·.dst) with
   | none=>none
   | some t=>match pv (assoc s.env t) want with
    | some true=>(eE ak s o.op).map (s.put o.dst)
    | some false=>some (s.put o.dst (.db []))
    | none=>none
 else none
def goH (ak:List (Nat×TI))(nt:Nat)(ops:Array Oper)(K:List Nat→St→Prop):List Nat→St→Prop
 | [],s=>K [] s
 | i::r,s=>match ops[i]? with
  | none=>False
  | some o=>if u9 o then
    match bM ops s o with
    | some false=>zP (goH ak nt ops K r) (oe ak nt ops s o)
    | _=>K (i::r) s
   else zP (goH ak nt ops K r) (oe ak nt ops s o)
end
end
section
variable {P:Program}{C:Cx}{s:St}{ops:Array Oper}{ak:List (Nat×TI)}{Q:Exit→St→Prop}{x y z:Code}
theorem T.cond_true {c:Operand}(hc:ev s c=some (.bool true))(h:T P C x s Q):T P C (.cond c x y) s Q:=T.cond hc ON
theorem T.cond_false {c:Operand}(hc:ev s c=some (.bool false))(h:T P C y s Q):T P C (.cond c x y) s Q:=T.cond hc ON
theorem T.aX {c:Operand}{b:Bool}(hc:ev s c=some (.bool b))(h1:b=true→T P C x s Q)(h2:b=false→T P C y s Q):T P C (.cond c x y) s Q:=by
 cases b
 ·exact T.cond_false hc (h2 rfl)
 ·exact T.cond_true hc (h1 rfl)
theorem aa.trim {I:St→Prop}(ks os:List Nat)(n:Nat)(h:qE s ks os n=true)(ML:C.n0≤n)(hi:I (s.trim ks os n)):aa C I s:=⟨_,hi,Le.trim ks os n h ML⟩
theorem Le.to {s':St}(ks os:List Nat)(n:Nat)(h:qE s ks os n=true)(ML:C.n0≤n)(e:s.trim ks os n=s'):Le C s s':=e ▸ Le.trim ks os n h ML
theorem aa.here {I:St→Prop}(hi:I s):aa C I s:=⟨s,hi,Le.refl s⟩
theorem aa.le {I:St→Prop}{s':St}(h:Le C s s')(hi:aa C I s'):aa C I s:=by
 obtain⟨L3,h1,h2⟩:=hi;exact⟨L3,h1,h.trans h2⟩
theorem bm.of {c:Call}{g:FuncId}{cs:List CV}{r:CV}(h1:bl s c=some (g,cs))(h2:trees cs=true)(h3:ae P g cs r):bm P s c r:=⟨g,cs,h1,.inl ⟨h2,h3⟩⟩
theorem bm.lent {c:Call}{g:FuncId}{cs ds:List CV}{r:CV}(h1:bl s c=some (g,cs))(h2:pU s cs=some ds)(h3:ae P g ds r)(h4:scalar r=true):bm P s c r:=⟨g,cs,h1,.inr ⟨ds,h2,h3,h4⟩⟩
end
abbrev um (n:Int):CV:=.int .i64 n
def ints (l:List Int):CV:=.au (l.map um) l.length
theorem Bi (o:Nat)(cs:List CV):dc o cs=cs.all (aA o):=by
 induction cs with
 | nil=>rfl
 | cons c cs ih=>simp[dc,ih]
theorem bU (n:Nat)(cs:List CV):aO n cs=cs.all (aZ n):=by
 induction cs with
 | nil=>rfl
 | cons c cs ih=>simp[aO,ih]
theorem Cm (cs:List CV):trees cs=cs.all tree:=by
 induction cs with
 | nil=>rfl
 | cons c cs ih=>simp[trees,ih]
theorem DM (o:Nat)(cells:List CV)(sz:Nat)(cs:List CV):gu o cells sz cs=cs.map (bZ o cells sz):=by
 induction cs with
 | nil=>rfl
 | cons c cs ih=>simp[gu,ih]
theorem yF (cs:List CV):scalars cs=cs.all scalar:=by
 induction cs with
 | nil=>rfl
 | cons c cs ih=>simp[scalars,ih]
theorem DL (o:Nat)(c:List CV)(z:Nat)(l:List Int):bZ o c z (ints l)=ints l:=rfl
theorem y9 (o:Nat)(c:List CV)(z:Nat):bZ o c z∘ints=ints:=rfl
theorem Bu (o:Nat)(c:List CV)(z:Nat):bZ o c z∘um=um:=rfl
theorem za (o:Nat)(c:List CV)(z:Nat):bZ o c z∘CV.bool=CV.bool:=rfl
theorem yZ (o:Nat)(l:List Int):aA o (ints l)=true:=rfl
theorem wy (o:Nat)(l:List Int):aZ o (ints l)=true:=rfl
theorem iD (l:List Int):tree (ints l)=true:=rfl
theorem uZ (o:Nat):aA o∘ints=fun _=>true:=rfl
theorem wT (o:Nat):aA o∘um=fun _=>true:=rfl
theorem u0 (o:Nat):aA o∘CV.bool=fun _=>true:=rfl
theorem sv (o:Nat):aZ o∘ints=fun _=>true:=rfl
theorem uM (o:Nat):aZ o∘um=fun _=>true:=rfl
theorem sw (o:Nat):aZ o∘CV.bool=fun _=>true:=rfl
theorem vP:tree∘ints=fun _=>true:=rfl
theorem yx:tree∘um=fun _=>true:=rfl
theorem vQ:tree∘CV.bool=fun _=>true:=rfl
theorem y5 (l:List Int):dn (ints l)=false:=rfl
theorem zi (l:List Int):(ints l).cells=[ints l]:=rfl
theorem xy {α:Type}(o:Nat)(c:List CV)(z:Nat)(f:α→List Int):bZ o c z∘ints∘f=ints∘f:=rfl
theorem sF {α:Type}(o:Nat)(f:α→List Int):aA o∘ints∘f=fun _=>true:=rfl
theorem qW {α:Type}(o:Nat)(f:α→List Int):aZ o∘ints∘f=fun _=>true:=rfl
theorem ux {α:Type}(f:α→List Int):tree∘ints∘f=fun _=>true:=rfl
theorem y8 {α:Type}(o:Nat)(c:List CV)(z:Nat)(f:α→Int):bZ o c z∘um∘f=um∘f:=rfl
theorem uY {α:Type}(o:Nat)(f:α→Int):aA o∘um∘f=fun _=>true:=rfl
theorem su {α:Type}(o:Nat)(f:α→Int):aZ o∘um∘f=fun _=>true:=rfl
theorem vO {α:Type}(f:α→Int):tree∘um∘f=fun _=>true:=rfl
theorem sK {α:Type}(o:Nat)(c:List CV)(z:Nat)(f:α→Bool):bZ o c z∘CV.bool∘f=CV.bool∘f:=rfl
theorem qb {α:Type}(o:Nat)(f:α→Bool):aA o∘CV.bool∘f=fun _=>true:=rfl
theorem pb {α:Type}(o:Nat)(f:α→Bool):aZ o∘CV.bool∘f=fun _=>true:=rfl
theorem qF {α:Type}(f:α→Bool):tree∘CV.bool∘f=fun _=>true:=rfl
attribute [simp] xy sF qW ux y8 uY su vO sK qb pb qF
attribute [simp] DL y9 Bu za yZ wy
attribute [simp] iD uZ wT u0 sv uM sw vP yx vQ
attribute [simp] y5 zi
@[simp] theorem GF (k:IntKind)(n:Int):dn (.int k n:CV)=false:=rfl
@[simp] theorem GR (k:IntKind)(n:Int):CV.cells (.int k n:CV)=[(.int k n:CV)]:=rfl
@[simp] theorem FM (b:Bool):dn (.bool b:CV)=false:=rfl
@[simp] theorem F9 (b:Bool):CV.cells (.bool b:CV)=[(.bool b:CV)]:=rfl
@[simp] theorem GC (b:ByteArray):dn (.str b:CV)=false:=rfl
@[simp] theorem GP (b:ByteArray):CV.cells (.str b:CV)=[(.str b:CV)]:=rfl
@[simp] theorem GB (cs:List CV)(n:Nat):dn (.au cs n:CV)=false:=rfl
@[simp] theorem GO (cs:List CV)(n:Nat):CV.cells (.au cs n:CV)=[(.au cs n:CV)]:=rfl
@[simp] theorem EK  : dn (.ag:CV)=false:=rfl
@[simp] theorem EP  : CV.cells (.ag:CV)=[(.ag:CV)]:=rfl
@[simp] theorem FK (cs:List CV):dn (.cc cs:CV)=false:=rfl
@[simp] theorem F7 (cs:List CV):CV.cells (.cc cs:CV)=[(.cc cs:CV)]:=rfl
@[simp] theorem Dt  : dn (.bg:CV)=false:=rfl
@[simp] theorem Ed  : CV.cells (.bg:CV)=[(.bg:CV)]:=rfl
@[simp] theorem H0 (f:FuncId)(cs:List CV):dn (.fn f cs:CV)=false:=rfl
@[simp] theorem Ix (f:FuncId)(cs:List CV):CV.cells (.fn f cs:CV)=[(.fn f cs:CV)]:=rfl
@[simp] theorem EL  : dn (.bT:CV)=false:=rfl
@[simp] theorem ER  : CV.cells (.bT:CV)=[(.bT:CV)]:=rfl
@[simp] theorem GD (o f n:Nat):dn (.bw o f n:CV)=false:=rfl
@[simp] theorem GQ (o f n:Nat):CV.cells (.bw o f n:CV)=[(.bw o f n:CV)]:=rfl
@[simp] theorem FL (o f:Nat):dn (.ai o f:CV)=false:=rfl
@[simp] theorem F8 (o f:Nat):CV.cells (.ai o f:CV)=[(.ai o f:CV)]:=rfl
@[simp] theorem HZ (k:Nat)(es:List (Value×Value)):dn (.mp k es:CV)=false:=rfl
@[simp] theorem GG (cs:List CV):dn (.agg cs)=false:=rfl
@[simp] theorem GS (cs:List CV):CV.cells (.agg cs)=cs:=rfl
@[simp] theorem GA (cs:List CV):dn (.db cs)=true:=rfl
@[simp] theorem GN (cs:List CV):CV.cells (.db cs)=[.db cs]:=rfl
attribute [simp] Bi bU Cm DM yF
attribute [simp] aA aZ tree bZ scalar one
attribute [simp] assoc iY pH St.put St.del ev vF qw eJ dN
attribute [simp] pv fp lj Cu eE a9 oe u9 bM vE goH zP AM qI
attribute [simp] As zj arith cun gf F6 cY jM H5 imax rR
attribute [simp] vp qx fD kj TI.agg py St.new Am vu Gb jr fZ kI vq jL fc pA mf
attribute [simp] mh cells? Aq ze
attribute [simp] bl Dm pU enter bf jo mM lC pick St.trim qE St.dC sL qc St.own
attribute [simp] fL kT vt
attribute [simp] List.head?_drop
section
variable {P:Program}{C:Cx}{s:St}{ops:Array Oper}{ak:List (Nat×TI)}{Q:Exit→St→Prop}{x y z:Code}
/- simp looks at the state alone, never at the code. -/
@[congr] theorem T_congr {s s':St}{c:Code}(h:s=s'):T P C c s Q=T P C c s' Q:=by rw[h]
@[congr] theorem TL_congr {s s':St}{l:List Oper}{K:St→Prop}(h:s=s'):TL P C ops l s K=TL P C ops l s' K:=by rw[h]
attribute [simp] eC nA
def ye (P:Program)(C:Cx)(ops:Array Oper)(K:St→Prop):List Oper→St→Prop
 | [],s=>K s
 | o::r,s=>TL P C ops (o::r) s K
attribute [simp] ye
theorem TL.go' (ht:ay P ak){K:St→Prop}{l:List Oper}(h:vE ak C.nt ops (ye P C ops K) l s):TL P C ops l s K:=by
 refine DG ht l s ?_;have e:ye P C ops K=ye P C ops K:=rfl;revert h;have:∀ (l:List Oper) (s:St),vE ak C.nt ops (ye P C ops K) l s→vE ak C.nt ops (fun r s'=>TL P C ops r s' K) l s:=by
  intro l
  induction l with
  | nil=>intro s h;exact TL.nil h
  | cons o r ih=>
   intro s h;have fin:zP (vE ak C.nt ops (ye P C ops K) r) (fp ak C.nt ops s o)→zP (vE ak C.nt ops (fun r s'=>TL P C ops r s' K) r) (fp ak C.nt ops s o):=fun h=>by
    cases hs:fp ak C.nt ops s o with
    | none=>rw[hs] at h;exact h.elim
    | some s'=>rw[hs] at h;exact ih s' h
   unfold vE at h ⊢;split
   ·rename_i hc;rw[if_pos hc] at h;split
    ·rename_i hg;rw[hg] at h;exact fin h
    ·rename_i hg;split at h
     ·rename_i ZT;exact absurd ZT hg
     ·exact h
   ·rename_i hc;rw[if_neg hc] at h;exact fin h
 exact this l s
theorem T.go' (ht:ay P ak){id:Nat}{l:List Oper}(h:vE ak C.nt l.toArray (ye P C l.toArray (Q .normal)) l s):T P C (.region id l.toArray false) s Q:=T.region (TL.go' ht h)
def tailK (P:Program)(C:Cx)(ak:List (Nat×TI))(l:List Oper)(tail:List Nat)(K:St→Prop)(s:St):Prop:=vE ak C.nt l.toArray (ye P C l.toArray K) (tail.map (l.toArray.getD · default)) s
theorem T.cut (J:St→Prop)(h:T P C x s (eC (aa C J) Q))(k:∀ s',J s'→T P C y s' Q):T P C (.seq x y) s Q:=
 T.seq (T.post h fun e s' q=>by
  cases e with
  | normal=>obtain⟨L3,hj,hl⟩:=q;exact⟨L3,k L3 hj,hl⟩
  | _=>exact⟨s',q,Le.refl _⟩)
end
attribute [simp] tailK
section
variable {P:Program}{C:Cx}{s:St}
def tM (l:Nat)(J:St→Prop)(Q:Exit→St→Prop):Exit→St→Prop
 | .goto m,s=>m=l∧J s
 | e,s=>Q e s
@[simp] theorem HX (l m:Nat)(J:St→Prop)(Q:Exit→St→Prop)(s:St):tM l J Q (.goto m) s=(m=l∧J s):=rfl
@[simp] theorem FJ (l:Nat)(J:St→Prop)(Q:Exit→St→Prop)(s:St):tM l J Q .normal s=Q .normal s:=rfl
@[simp] theorem Jy (l:Nat)(J:St→Prop)(Q:Exit→St→Prop)(s:St):tM l J Q .ret s=Q .ret s:=rfl
@[simp] theorem HY (l m:Nat)(J:St→Prop)(Q:Exit→St→Prop)(s:St):tM l J Q (.exit m) s=Q (.exit m) s:=rfl
theorem T.E6 {c rest:Code}{Q:Exit→St→Prop}(l:Nat)(I:Nat→St→Prop)(hf:findLabel c l=some rest)(first:T P C c s (tM l (fun s'=>∃ m,aa C (I m) s') Q))
  (pass:∀ n s,I n s→T P C rest s (tM l (fun s'=>∃ m,m<n∧aa C (I m) s') Q)):T P C (.scope c) s Q:=fun a w hr=>by
 classical
 let J:Nat→Act→World→Prop:=fun n a w=>∃ s,I n s∧Rel C s a w
 have hx:∀ a w,(∃ n,J n a w)→∃ n,J n a w∧∀ m,J m a w→n≤m:=fun a w ⟨n,hn⟩=>by
  induction n using Nat.strongRecOn with
  | _ n ih=>
   by_cases h:∃ m,m<n∧J m a w
   ·obtain⟨m,hm,hi⟩:=h;exact ih m hm hi
   ·exact⟨n,hn,fun m hm=>Nat.le_of_not_lt fun yN=>h ⟨m,yN,hm⟩⟩
 let μ:Act→World→Nat:=fun a w=>if h:∃ n,J n a w then (hx a w h).choose else 0
 have hμ:∀ a w (h:∃ n,J n a w),J (μ a w) a w∧∀ m,J m a w→μ a w≤m:=fun a w h=>by
  simp only[μ,dif_pos h];exact (hx a w h).choose_spec
 have up:∀ {n s' a' w'},aa C (I n) s'→Rel C s' a' w'→J n a' w':=fun⟨L3,hi,hl⟩ hr=>⟨L3,hi,hl _ _ hr⟩;refine wp_scope_jumps l (fun a w=>∃ n,J n a w) μ hf (wp_mono (first a w hr) fun e a' w' q=>?_) fun a w hJ=>?_
 ·obtain⟨s',q,KF⟩:=q
  cases e with
  | goto m=>obtain⟨e,m,hm⟩:=q;exact⟨e,m,up hm KF⟩
  | _=>exact⟨s',q,KF⟩
 ·obtain⟨s1,hi,KL⟩:=(hμ a w hJ).1;refine wp_mono (pass (μ a w) s1 hi a w KL) fun e a' w' q=>?_;obtain⟨s',q,KF⟩:=q
  cases e with
  | goto m=>
   obtain⟨e,m,hm,hi⟩:=q;exact⟨e,⟨m,up hi KF⟩,Nat.lt_of_le_of_lt ((hμ a' w' ⟨m,up hi KF⟩).2 m (up hi KF)) hm⟩
  | _=>exact⟨s',q,KF⟩
end
def DY (C:Cx)(ak:List (Nat×TI))(f:Func)(R:CV→St→Prop):Exit→St→Prop
 | .normal,s=>aa C (fun s'=>∃ r,bf ak f s'=some r∧R r s') s
 | .ret,s=>aa C (fun s'=>∃ r,bf ak f s'=some r∧R r s') s
 | _,_=>False
def Body (P:Program)(ak:List (Nat×TI))(f:FuncId)(args:List CV)(H:List (Nat×Ob))(n:Nat)(R:CV→St→Prop):Prop:=
 ∃ fn c, P.funcs[f]? = some fn ∧ fn.body = some c ∧ (fn.name == "runtime.NumGoroutine") = false ∧ args.length ≤ fn.ntmps ∧
  ∀ C:Cx,C.nt=fn.ntmps→C.n0=n→T P C c ⟨(enter args).env,H,n⟩ (DY C ak fn R)
theorem Body.je {P : Program} {ak : List (Nat × TI)} {f : FuncId} {fn : Func} {c : Code} {args : List CV} {H : List (Nat × Ob)} {n : Nat} {R : CV → St → Prop} (hf : P.funcs[f]? = some fn) (hb : fn.body = some c) (hn : (fn.name == "runtime.NumGoroutine") = false)
  (ha:args.length≤fn.ntmps) (h:∀ C:Cx,C.nt=fn.ntmps→C.n0=n→T P C c ⟨(enter args).env,H,n⟩ (DY C ak fn R)):Body P ak f args H n R:=⟨fn,c,hf,hb,hn,ha,h⟩
section
variable {P:Program}{C:Cx}{σ σ':Nat→Option OB}{s s':St}{a a':Act}{w w':World}{ops:Array Oper}{ak:List (Nat×TI)}
def Cx.inner (C:Cx)(w:World)(σ:Nat→Option OB)(H:List (Nat×Ob))(nt:Nat)(hF:ES w C.F (fun b=>∃ o ob,assoc H o=some ob∧aH σ o=some b))(n:Nat):Cx:=
 ⟨w,C.F,fun b=>∃ o ob,assoc H o=some ob∧aH σ o=some b,hF,nt,σ,n⟩
theorem pe (h:aB C σ s a w){b:Nat}(hb:∃ o ob,assoc s.heap o=some ob∧aH σ o=some b):b<w.heap.size∧¬ C.F b∧(C.own b∨C.w0.heap.size≤b):=by
 obtain⟨o,ob,ho,hb⟩:=hb;obtain⟨B,m1,_,_,_,m5⟩:=h.obj o ob ho;obtain⟨cur,n1,_,n3,n4,_⟩:=m5 b QQ;exact⟨(Array.getElem?_eq_some_iff.1 n1).1,n3,n4⟩
theorem aB.inner (h:aB C σ s a w)(hF:ES w C.F (fun b=>∃ o ob,assoc s.heap o=some ob∧aH σ o=some b))(nt:Nat){args:List CV}{vs:List Value}(hv:aG w (FB C σ s.heap) σ args vs)(ha:args.length≤nt) :
  aB (C.inner w σ s.heap nt hF s.nx) σ ⟨(enter args).env,s.heap,s.nx⟩ { tmps:=vs.toArray++Array.replicate (nt-vs.toArray.size) undef,defers:=[] } w:=by
 have hl:=aG.length _ _ hv;refine⟨rfl,by simp[Cx.inner];omega,rfl,rfl,rfl,Nat.le_refl _,fun _ _ _=>rfl,?_,?_,h.inj,h.nx,fun _ _=>rfl,Nat.le_refl _,fun o B b ho hB _=>(by rw[h.nx o ho] at hB;cases hB)⟩
 ·intro t c hc;obtain⟨_,h2⟩:=eW args 0 t c hc;obtain⟨v,h3,h4⟩:=aG.get _ _ hv t c (by simpa using h2);refine⟨v,?_,h4⟩;have yN:=(List.getElem?_eq_some_iff.1 h3).1;simp only;rw[Array.getElem?_append_left (by simpa using yN)]
  simpa using h3
 ·intro o ob ho;obtain⟨B,m1,m2,m3,m4,m5⟩:=h.obj o ob ho;refine⟨B,m1,m2,m3,m4,fun b hb=>?_⟩;obtain⟨cur,n1,n2,n3,n4,n5,n6⟩:=m5 b hb;exact⟨cur,n1,n2,n3,.inl ⟨o,ob,ho,by simp[aH,m1,hb]⟩,n5,n6⟩
theorem aB.back (h:aB C σ s a w){hF:ES w C.F (fun b=>∃ o ob,assoc s.heap o=some ob∧aH σ o=some b)}{nt:Nat}(h':aB (C.inner w σ s.heap nt hF s.nx) σ' s' a' w'):aB C σ' ⟨s.env,s'.heap,s'.nx⟩ a w':=by
 have Kg:∀ b,b<w.heap.size→(¬ ∃ o ob,assoc s.heap o=some ob∧aH σ o=some b)→w'.heap[b]? = w.heap[b]?:=fun b hb hn=>h'.frame b hb hn;have Mg:∀ o ob b,assoc s'.heap o=some ob→aH σ' o=some b→(∃ o ob,assoc s.heap o=some ob∧aH σ o=some b)∨w.heap.size≤b:=fun o ob b ho hb=>by
  obtain⟨B,m1,_,_,_,m5⟩:=h'.obj o ob ho;obtain⟨cur,_,_,_,n4,_⟩:=m5 b QQ;exact n4
 refine⟨h.me,h.tm,h'.os.trans h.os,h'.tape.trans h.tape,h'.output.trans h.output,Nat.le_trans h.size h'.size,?_,?_,?_,h'.inj,h'.nx,fun o ho=>(h'.fM o (Nat.lt_of_lt_of_le ho h.low)).trans (h.fM o ho),Nat.le_trans h.low h'.low,fun o B b ho hB hb=>?_⟩
 ·intro b hb KD;rw[Kg b (Nat.lt_of_lt_of_le hb h.size) fun hx=>?_]
  ·exact h.frame b hb KD
  ·rcases (pe h hx).2.2 with h1 | h1
   ·exact KD h1
   ·omega
 ·intro t c hc;obtain⟨v,k1,k2⟩:=h.env t c hc;refine⟨v,k1,VR.a7 ⟨fun ad u hf hu=>?_,fun r _ hf hu _=>?_⟩ _ _ (fun o ho=>?_) k2⟩
  case refine_3=>
   refine h'.fM o (Nat.lt_of_not_le fun hle=>?_);obtain⟨B,hB⟩:=VR.refs _ _ o k2 ho;rw[h.nx o hle] at hB;cases hB
  ·have yN:=World.block_lt_of_cell? w ad hu;have KD:¬ ∃ o ob,assoc s.heap o=some ob∧aH σ o=some ad.block:=fun hx=>hf (.inr hx);refine⟨by rw[World.cell?_of_block (w:=w) (Kg ad.block yN KD)];exact hu,?_⟩;rintro (hx | ⟨o,ob,ho,hb⟩)
   ·exact hf (.inl hx)
   ·rcases Mg o ob _ ho hb with h1 | h1
    ·exact KD h1
    ·omega
  ·have yN:=(Array.getElem?_eq_some_iff.1 hu).1;have KD:¬ ∃ o ob,assoc s.heap o=some ob∧aH σ o=some r:=fun hx=>hf (.inr hx);refine⟨by rw[Kg r yN KD];exact hu,?_⟩;rintro (hx | ⟨o,ob,ho,hb⟩)
   ·exact hf (.inl hx)
   ·rcases Mg o ob _ ho hb with h1 | h1
    ·exact KD h1
    ·omega
 ·intro o ob ho;obtain⟨B,m1,m2,m3,m4,m5⟩:=h'.obj o ob ho;refine⟨B,m1,m2,m3,m4,fun b hb=>?_⟩;obtain⟨cur,n1,n2,n3,n4,n5,n6⟩:=m5 b hb;refine⟨cur,n1,n2,n3,?_,n5,n6⟩;rcases n4 with n4 | n4
  ·exact (pe h n4).2.2
  ·exact .inr (Nat.le_trans h.size n4)
 ·rcases Nat.lt_or_ge o s.nx with yN | MN
  ·rw[h'.fM o yN] at hB;exact h.new o B b ho hB hb
  ·rcases h'.new o B b MN hB hb with n4 | n4
   ·exact (pe h n4).2.2
   ·exact .inr (Nat.le_trans h.size n4)
end
end Go.Can
