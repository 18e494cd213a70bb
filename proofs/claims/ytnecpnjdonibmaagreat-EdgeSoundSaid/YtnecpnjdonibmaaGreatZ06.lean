/- What may be said anew of a state: entries forgotten, objects -/
import Derived.Test.YtnecpnjdonibmaaGreatZ05
namespace Go.Can
open Go.RowKit
def Le (C:Cx)(s s':St):Prop:=∀ (a:Act) (w:World),Rel C s a w→Rel C s' a w
section
variable {C:Cx}
theorem Le.refl (s:St):Le C s s:=fun _ _ h=>h
theorem Le.trans {s s' R1:St}(h:Le C s s')(k:Le C s' R1):Le C s R1:=fun a w hr=>k a w (h a w hr)
def pick {α:Type}(l:List (Nat×α)):List Nat→List (Nat×α)
 | []=>[]
 | t::r=>match assoc l t with
  | some c=>(t,c)::pick l r
  | none=>pick l r
theorem dS {α:Type}(l:List (Nat×α)):∀ (ks:List Nat) (t:Nat) (c:α),assoc (pick l ks) t=some c→assoc l t=some c
 | [],_,_,h=>by simp[pick,assoc] at h
 | k::r,t,c,h=>by
  simp only[pick] at h;split at h
  ·rename_i x hx;simp only[assoc] at h;split at h
   ·rename_i e;subst e;cases h;exact hx
   ·exact dS l r t c h
  ·exact dS l r t c h
mutual
def a7 (n:Nat):CV→Bool
 | .iter o _ _=>decide (o<n)
 | .mp o _=>decide (o<n)
 | .bj o _ _=>decide (o<n)
 | .av o _=>decide (o<n)
 | .agg cs=>aS n cs
 | .fn _ cs=>aS n cs
 | .iface _ cs=>aS n cs
 | .dH cs=>aS n cs
 | _=>true
def aS (n:Nat):List CV→Bool
 | []=>true
 | c::cs=>a7 n c && aS n cs
end
mutual
theorem kO (n:Nat):∀ (c:CV) (o:Nat),a7 n c=true→aK o c=false→o<n
 | .bj p _ _,o,h,hr=>by
  have:p=o:=by simpa [aK] using hr
  subst this;simpa [a7] using h
 | .av p _,o,h,hr=>by
  have:p=o:=by simpa [aK] using hr
  subst this;simpa [a7] using h
 | .agg cs,o,h,hr=>ep n cs o (by simpa [a7] using h) (by simpa [aK] using hr)
 | .fn _ cs,o,h,hr=>ep n cs o (by simpa [a7] using h) (by simpa [aK] using hr)
 | .iface _ cs,o,h,hr=>ep n cs o (by simpa [a7] using h) (by simpa [aK] using hr)
 | .dH cs,o,h,hr=>ep n cs o (by simpa [a7] using h) (by simpa [aK] using hr)
 | .int _ _,_,_,hr=>by simp[aK] at hr
 | .bool _,_,_,hr=>by simp[aK] at hr
 | .str _,_,_,hr=>by simp[aK] at hr
 | .az _ _,_,_,hr=>by simp[aK] at hr
 | .ai,_,_,hr=>by simp[aK] at hr
 | .cA _,_,_,hr=>by simp[aK] at hr
 | .bG,_,_,hr=>by simp[aK] at hr
 | .cd,_,_,hr=>by simp[aK] at hr
 | .iter p _ _,o,h,hr=>by
  simp only[aK,bne_eq_false_iff_eq] at hr;subst hr
  simpa [a7] using h
 | .mp p _,o,h,hr=>by
  simp only[aK,bne_eq_false_iff_eq] at hr;subst hr
  simpa [a7] using h
theorem ep (n:Nat):∀ (cs:List CV) (o:Nat),aS n cs=true→dt o cs=false→o<n
 | [],_,_,hr=>by simp[dt] at hr
 | c::cs,o,h,hr=>by
  simp only[aS,Bool.and_eq_true] at h;simp only[dt,Bool.and_eq_false_iff] at hr;rcases hr with hr | hr
  ·exact kO n c o h.1 hr
  ·exact ep n cs o h.2 hr
end
def St.trim (s:St)(ks os:List Nat)(n:Nat):St:=⟨pick s.env ks,pick s.heap os,n⟩
def sN (s:St)(ks os:List Nat)(n:Nat):Bool:=
 (pick s.env ks).all (fun x=>a7 n x.2) && (pick s.heap os).all fun x=>decide (x.1<n) && aS n x.2.cells
theorem Le.trim {s:St}(ks os:List Nat)(n:Nat)(h:sN s ks os n=true)(Ta:C.n0≤n):Le C s (s.trim ks os n):=by
 intro a w ⟨σ,hr⟩;simp only[sN,Bool.and_eq_true] at h;obtain⟨h1,h2⟩:=h;rw[List.all_eq_true] at h1 h2;have hs:∀ {o},o<n→(if o<n then σ o else none)=σ o:=fun {o} ho=>by rw[if_pos ho]
 have hF:∀ b,FB C (fun o=>if o<n then σ o else none) (pick s.heap os) b→FB C σ s.heap b:=by
  rintro b (hb | ⟨o,ob,ho,hb⟩)
  ·exact .inl hb
  ·have:=h2 _ (bp _ _ _ ho);simp only[Bool.and_eq_true,decide_eq_true_eq] at this;simp only[aT,hs this.1] at hb;exact .inr ⟨o,ob,dS _ _ _ _ ho,hb⟩
 have hk:ck w w (FB C σ s.heap) (FB C (fun o=>if o<n then σ o else none) (pick s.heap os)):=⟨fun ad u hf hu=>⟨hu,fun h=>hf (hF _ h)⟩,fun r _ hf hu _=>⟨hu,fun h=>hf (hF _ h)⟩⟩;refine⟨fun o=>if o<n then σ o else none,hr.mD,hr.tm,hr.os,hr.tape,hr.output,hr.size,hr.frame,?_,?_,?_,?_,fun o ho=>by rw[hs (Nat.lt_of_lt_of_le ho Ta)];exact hr.gy o ho,Ta,fun o B b ho hB hb=>?_⟩
 ·intro t c hc;have hm:=h1 _ (bp _ _ _ hc);obtain⟨v,k1,k2⟩:=hr.env t c (dS _ _ _ _ hc);exact⟨v,k1,VR.bg hk c v (fun o ho=>hs (kO n c o hm ho)) k2⟩
 ·intro o ob ho;have hm:=h2 _ (bp _ _ _ ho);simp only[Bool.and_eq_true,decide_eq_true_eq] at hm;obtain⟨B,m1,m2,m3,m4,m5⟩:=hr.obj o ob (dS _ _ _ _ ho);refine⟨B,by simp only[hs hm.1];exact m1,m2,m3,m4,fun b hb=>?_⟩;obtain⟨cur,n1,n2,n3,n4,n5,n6⟩:=m5 b hb;exact⟨cur,n1,n2,n3,n4,n5,aN.bg hk _ _ (fun p hp=>hs (ep n _ p hm.2 hp)) n6⟩
 ·intro o o' ob P6 b ho Qu hb P5;have hm:=h2 _ (bp _ _ _ ho);have XU:=h2 _ (bp _ _ _ Qu);simp only[Bool.and_eq_true,decide_eq_true_eq] at hm XU;simp only[aT,hs hm.1] at hb;simp only[aT,hs XU.1] at P5;exact hr.inj o o' ob P6 b (dS _ _ _ _ ho) (dS _ _ _ _ Qu) hb P5
 ·intro o ho;simp only[St.trim] at ho;rw[if_neg yA]
 ·split at hB
  ·exact hr.new o B b ho hB hb
  ·cases hB
theorem Le.env {s:St}(ks:List Nat):Le C s { s with env:=pick s.env ks }:=by
 intro a w ⟨σ,hr⟩;exact⟨σ,hr.mD,hr.tm,hr.os,hr.tape,hr.output,hr.size,hr.frame,fun t c hc=>hr.env t c (dS _ _ _ _ hc),hr.obj,hr.inj,hr.nx,hr.gy,hr.low,hr.new⟩
mutual
def cB (o:Nat)(cells:List CV)(sz:Nat):CV→CV
 | .bj p off n=>if p=o then .az ((cells.drop off).take (n*sz)) n else .bj p off n
 | .av p off=>if p=o then .cA (cells.drop off) else .av p off
 | .agg cs=>.agg (gT o cells sz cs)
 | .fn f cs=>.fn f (gT o cells sz cs)
 | .iface f cs=>.iface f (gT o cells sz cs)
 | .dH cs=>.dH (gT o cells sz cs)
 | .int k n=>.int k n
 | .bool b=>.bool b
 | .str b=>.str b
 | .az cs n=>.az cs n
 | .ai=>.ai
 | .cA cs=>.cA cs
 | .bG=>.bG
 | .cd=>.cd
 | .iter k s p=>.iter k s p
 | .mp k es=>.mp k es
 | .any=>.any
def gT (o:Nat)(cells:List CV)(sz:Nat):List CV→List CV
 | []=>[]
 | c::cs=>cB o cells sz c::gT o cells sz cs
end
theorem J8 {o:Nat}{cells:List CV}{sz:Nat}:∀ c,one (cB o cells sz c)=one c
 | .bj p off n=>by simp only[cB];split<;>rfl
 | .av p off=>by simp only[cB];split<;>rfl
 | .agg _=>rfl
 | .fn _ _=>rfl
 | .iface _ _=>rfl
 | .dH _=>rfl
 | .int _ _=>rfl
 | .bool _=>rfl
 | .str _=>rfl
 | .az _ _=>rfl
 | .ai=>rfl
 | .any=>rfl
 | .cA _=>rfl
 | .bG=>rfl
 | .cd=>rfl
 | .iter _ _ _=>rfl
 | .mp _ _=>rfl
theorem uv {o:Nat}{cells:List CV}{sz:Nat}:∀ cs:List CV,(gT o cells sz cs).all one=cs.all one
 | []=>rfl
 | c::cs=>by simp only[gT,List.all_cons,J8,uv cs]
theorem oz {o:Nat}{cells:List CV}{sz:Nat}:∀ cs:List CV,(gT o cells sz cs).length=cs.length
 | []=>rfl
 | c::cs=>by simp only[gT,List.length_cons,oz cs]
def vl (o:Nat)(cells:List CV)(sz:Nat):List (Nat×CV)→List (Nat×CV)
 | []=>[]
 | (t,c)::r=>(t,cB o cells sz c)::vl o cells sz r
def rF (o:Nat)(cells:List CV)(sz:Nat):List (Nat×Ob)→List (Nat×Ob)
 | []=>[]
 | (p,x)::r=>if p=o then rF o cells sz r else (p,{ x with cells:=gT o cells sz x.cells })::rF o cells sz r
def St.dz (s:St)(o:Nat)(ob:Ob):St:=⟨vl o ob.cells ob.sz s.env,rF o ob.cells ob.sz s.heap,s.nx⟩
theorem uO {o:Nat}{cells:List CV}{sz:Nat}:∀ (l:List (Nat×CV)) (t:Nat) (c:CV),assoc (vl o cells sz l) t=some c→∃ d,assoc l t=some d∧c=cB o cells sz d
 | [],_,_,h=>by simp[vl,assoc] at h
 | (k,x)::r,t,c,h=>by
  simp only[vl,assoc] at h ⊢;split at h
  ·rename_i e;rw[if_pos e];cases h;exact⟨x,rfl,rfl⟩
  ·rename_i e;rw[if_neg e];exact uO r t c h
theorem fb {o:Nat}{cells:List CV}{sz:Nat}:∀ (l:List (Nat×Ob)) (p:Nat) (x:Ob),assoc (rF o cells sz l) p=some x→p≠o∧∃ y,assoc l p=some y∧x={ y with cells:=gT o cells sz y.cells }
 | [],_,_,h=>by simp[rF,assoc] at h
 | (k,y)::r,p,x,h=>by
  simp only[rF] at h;split at h
  ·rename_i hk;obtain⟨h1,z,h2,h3⟩:=fb r p x h;refine⟨h1,z,?_,h3⟩;simp only[assoc];rw[if_neg (fun e=>h1 (by rw[← e,hk]))];exact h2
  ·rename_i hk;simp only[assoc] at h;split at h
   ·rename_i e;cases h;subst e;exact⟨hk,y,by simp[assoc],rfl⟩
   ·rename_i e;obtain⟨h1,z,h2,h3⟩:=fb r p x h;exact⟨h1,z,by simp only[assoc];rw[if_neg e];exact h2,h3⟩
section
variable {w:World}{F F':Nat→Prop}{σ:Nat→Option OB}{o sz:Nat}{cells:List CV}{B:OB}
mutual
theorem Di (hk:ck w w F F')(hB:σ o=some B)(PZ:B.sz=sz)(hm:∀ b,B.iQ=some b→∀ k,fN w F' (cells.drop k) ⟨b,k,none⟩):∀ (c:CV) (v:Value),VR w F σ c v→VR w F' σ (cB o cells sz c) v
 | .bj p off n,v,hv=>by
  simp only[cB];split
  ·rename_i e;subst e;simp only[VR] at hv;obtain⟨B',RM,hv⟩:=hv;rw[hB] at RM;cases RM;split at hv
   ·obtain⟨rfl,rfl,rfl⟩:=hv;simp only[VR,ch];exact⟨none,0,rfl,Nat.le_refl _,Nat.zero_le _,.inl ⟨trivial,by simp⟩⟩
   ·rename_i b hb;obtain⟨cap,rfl,h1,h2,_⟩:=hv;simp only[VR,ch];exact⟨_,cap,rfl,h1,h2,.inr ⟨_,rfl,fN.take _ _ _ (hm b hb off)⟩⟩
  ·exact VR.bg hk _ _ (fun _ _=>rfl) hv
 | .av p off,v,hv=>by
  simp only[cB];split
  ·rename_i e;subst e;simp only[VR] at hv;obtain⟨B',b,RM,hb,rfl⟩:=hv;rw[hB] at RM;cases RM;simp only[VR,ch];exact⟨_,rfl,hm b hb off⟩
  ·exact VR.bg hk _ _ (fun _ _=>rfl) hv
 | .agg cs,v,hv=>by
  simp only[cB,VR] at hv ⊢;obtain⟨vs,e,r,h1⟩:=hv;exact⟨vs,e,kV hk hB PZ hm cs vs r,by rw[uv];exact h1⟩
 | .fn f cs,v,hv=>by
  simp only[cB,VR] at hv ⊢;obtain⟨vs,e,r⟩:=hv;exact⟨vs,e,kV hk hB PZ hm cs vs r⟩
 | .iface f cs,v,hv=>by
  simp only[cB,VR] at hv ⊢;obtain⟨vs,e,r⟩:=hv;exact⟨vs,e,kV hk hB PZ hm cs vs r⟩
 | .dH cs,v,hv=>by
  simp only[cB,VR] at hv ⊢;obtain⟨vs,e,r⟩:=hv;exact⟨vs,e,kV hk hB PZ hm cs vs r⟩
 | .int k n,v,hv=>by simp only[cB];exact VR.bg hk _ _ (fun _ _=>rfl) hv
 | .bool b,v,hv=>by simp only[cB];exact VR.bg hk _ _ (fun _ _=>rfl) hv
 | .str b,v,hv=>by simp only[cB];exact VR.bg hk _ _ (fun _ _=>rfl) hv
 | .az cs n,v,hv=>by simp only[cB];exact VR.bg hk _ _ (fun _ _=>rfl) hv
 | .ai,v,hv=>by simp only[cB];exact VR.bg hk _ _ (fun _ _=>rfl) hv
 | .cA cs,v,hv=>by simp only[cB];exact VR.bg hk _ _ (fun _ _=>rfl) hv
 | .bG,v,hv=>by simp only[cB];exact VR.bg hk _ _ (fun _ _=>rfl) hv
 | .cd,v,hv=>by simp only[cB];exact VR.bg hk _ _ (fun _ _=>rfl) hv
 | .iter _ _ _,v,hv=>by simp only[cB];exact VR.bg hk _ _ (fun _ _=>rfl) hv
 | .mp _ _,v,hv=>by simp only[cB];exact VR.bg hk _ _ (fun _ _=>rfl) hv
 | .any,v,hv=>by simpa [cB,VR] using hv
theorem kV (hk:ck w w F F')(hB:σ o=some B)(PZ:B.sz=sz)(hm:∀ b,B.iQ=some b→∀ k,fN w F' (cells.drop k) ⟨b,k,none⟩):∀ (cs:List CV) (vs:List Value),aN w F σ cs vs→aN w F' σ (gT o cells sz cs) vs
 | [],_,hv=>by simpa [gT,aN] using hv
 | c::cs,vs,hv=>by
  simp only[gT,aN] at hv ⊢;obtain⟨v,r,e,h1,h2⟩:=hv;exact⟨v,r,e,Di hk hB PZ hm c v h1,kV hk hB PZ hm cs r h2⟩
end
end
theorem aL.dz {C:Cx}{σ:Nat→Option OB}{a:Act}{w:World}{s:St}(hr:aL C σ s a w){o:Nat}{ob:Ob}(ho:assoc s.heap o=some ob)(ht:trees ob.cells=true):aL C σ (s.dz o ob) a w:=by
 obtain⟨B,hB,PZ,hn,h1,h5⟩:=hr.obj o ob ho;have hF:∀ b,FB C σ (rF o ob.cells ob.sz s.heap) b→FB C σ s.heap b:=by
  rintro b (hb | ⟨p,x,hp,hb⟩)
  ·exact .inl hb
  ·obtain⟨_,y,hy,_⟩:=fb _ _ _ hp;exact .inr ⟨p,y,hy,hb⟩
 have hk:ck w w (FB C σ s.heap) (FB C σ (rF o ob.cells ob.sz s.heap)):=⟨fun ad u hf hu=>⟨hu,fun h=>hf (hF _ h)⟩,fun r _ hf hu _=>⟨hu,fun h=>hf (hF _ h)⟩⟩;have hm:∀ b,B.iQ=some b→∀ k,fN w (FB C σ (rF o ob.cells ob.sz s.heap)) (ob.cells.drop k) ⟨b,k,none⟩:=fun b hb k=>by
  obtain⟨cur,k1,k2,k3,k4,k5,k6⟩:=h5 b hb;have Wz:¬ FB C σ (rF o ob.cells ob.sz s.heap) b:=by
   rintro (hf | ⟨p,x,hp,TO⟩)
   ·exact k3 hf
   ·obtain⟨P3,y,hy,_⟩:=fb _ _ _ hp;exact P3 (hr.inj p o y ob b hy ho TO (by simp[aT,hB,hb]))
  have h2:fN w (FB C σ (rF o ob.cells ob.sz s.heap)) ob.cells ⟨b,0,none⟩:=fw _ _ _ (bP.bg hk.1 _ _ (aN.dG _ _ ht k6)) h1 Wz fun j u hu=>by
   rw[add_lit,Nat.zero_add,cell_of_row w b j cur _ _ k1];rw[List.getElem?_take] at hu;split at hu
   ·simpa using hu
   ·cases hu
  have:=h2.drop k;rwa [add_lit,Nat.zero_add] at this
 refine⟨hr.mD,hr.tm,hr.os,hr.tape,hr.output,hr.size,hr.frame,?_,?_,?_,hr.nx,hr.gy,hr.low,hr.new⟩
 ·intro t c hc;obtain⟨d,hd,rfl⟩:=uO _ _ _ hc;obtain⟨v,k1,k2⟩:=hr.env t d hd;exact⟨v,k1,Di hk hB PZ hm d v k2⟩
 ·intro p x hp;obtain⟨P3,y,hy,rfl⟩:=fb _ _ _ hp;obtain⟨B',m1,m2,m3,m4,m5⟩:=hr.obj p y hy;refine⟨B',m1,m2,fun hn=>?_,by rw[uv];exact m4,fun b hb=>?_⟩
  ·rw[m3 hn];rfl
  ·obtain⟨cur,n1,n2,n3,n4,n5,n6⟩:=m5 b hb;refine⟨cur,n1,n2,n3,n4,by rw[oz];exact n5,?_⟩;rw[oz];exact kV hk hB PZ hm _ _ n6
 ·intro p q x y b hp hq hb P5;obtain⟨_,x',hx,_⟩:=fb _ _ _ hp;obtain⟨_,y',hy,_⟩:=fb _ _ _ hq;exact hr.inj p q x' y' b hx hy hb P5
theorem Le.dz {s:St}{o:Nat}{ob:Ob}(ho:assoc s.heap o=some ob)(ht:trees ob.cells=true):Le C s (s.dz o ob):=fun _ _ ⟨σ,hr⟩=>⟨σ,hr.dz ho ht⟩
def St.own (s:St)(t:Nat)(e:TypeId)(sz:Nat):St:={ env:=oM s.env t (.bj s.nx 0 0),heap:=(s.nx,⟨e,sz,[]⟩)::s.heap,nx:=s.nx+1 }
theorem Le.own {s:St}(t:Nat)(e:TypeId)(sz:Nat)(ht:assoc s.env t=some .ai):Le C s (s.own t e sz):=by
 intro a w ⟨σ,hr⟩;obtain⟨h1,h2⟩:=hr.fresh (World.grownBy.refl w none) (ob:=⟨e,sz,[]⟩) (B:=⟨none,0,sz⟩) rfl rfl (fun _=>rfl) (fun b hb=>by cases hb);refine⟨_,h1.mD,h1.tm,h1.os,h1.tape,h1.output,h1.size,h1.frame,?_,h1.obj,h1.inj,h1.nx,h1.gy,h1.low,h1.new⟩;intro u c hc;simp only[St.own] at hc;rw[eJ] at hc;split at hc
 ·rename_i eu;subst eu;rw[ht] at hc;simp only[Option.map_some,Option.some.injEq] at hc;subst hc;obtain⟨v,k1,k2⟩:=hr.env t _ ht;simp only[VR] at k2;subst k2;refine⟨_,k1,?_⟩;simp only[VR];exact⟨_,de,by simp⟩
 ·exact h1.env u c hc
section
variable {P:Program}{C:Cx}{s:St}{ops:Array Oper}{au:List (Nat×TI)}
theorem T.le {s':St}{c:Code}{Q:Exit→St→Prop}(h:Le C s s')(ht:T P C c s' Q):T P C c s Q:=fun a w hr=>ht a w (h a w hr)
theorem T.post {c:Code}{Q Q':Exit→St→Prop}(h:T P C c s Q')(hq:∀ e s',Q' e s'→∃ R1,Q e R1∧Le C s' R1):T P C c s Q:=fun a w hr=>
 wp_mono (h a w hr) fun e a' w' ⟨s',q,r⟩=>by
  obtain⟨R1,q',l⟩:=hq e s' q;exact⟨R1,q',l a' w' r⟩
theorem TL.le {s':St}{l:List Oper}{K:St→Prop}(h:Le C s s')(ht:TL P C ops l s' K):TL P C ops l s K:=fun a w Q hr hQ=>ht a w Q (h a w hr) hQ
def aa (C:Cx)(I:St→Prop)(s:St):Prop:=∃ s',I s'∧Le C s s'
theorem T.aJ {c:Code}{Q:Exit→St→Prop}(I:Nat→St→Prop){n:Nat}(h₀:aa C (I n) s)(round:∀ n s,I n s→T P C c s (thenS (fun s'=>∃ m,m<n∧aa C (I m) s') Q)):T P C (.loop c) s Q:=by
 obtain⟨s',h0,l0⟩:=h₀;refine T.le l0 (T.loop I h0 fun n s hi=>T.post (round n s hi) fun e s' q=>?_)
 cases e with
 | normal=>
  obtain⟨m,hm,R1,hi,hl⟩:=q;exact⟨R1,⟨m,hm,hi⟩,hl⟩
 | _=>exact⟨s',q,Le.refl _⟩
def MW (C:Cx)(au:List (Nat×TI))(f:Func)(r:CV):Exit→St→Prop
 | .normal,s=>aa C (fun s=>bD au f s=some r) s
 | .ret,s=>aa C (fun s=>bD au f s=some r) s
 | _,_=>False
theorem ae.aM (Se : aB P au) {f : FuncId} {fn : Func} {c : Code} {args : List CV} {r : CV} (hf : P.funcs[f]? = some fn) (hb : fn.body = some c) (hn : (fn.name == "runtime.NumGoroutine") = false)
  (ha:args.length≤fn.ntmps) (ht:tree r=true) (h:∀ C:Cx,C.nt=fn.ntmps→C.n0=0→T P C c (enter args) (MW C au fn r)):ae P f args r:=
 ae.iV Se hf hb hn ha ht fun C hC PN=>T.post (h C hC PN) fun e s' q=>by
  cases e with
  | normal=>exact q
  | ret=>exact q
  | _=>exact q.elim
def x5 (o:Oper):Bool:=match o.op with
 | .call c=>match c.callee with
  | .builtin _=>false
  | _=>true
 | _=>false
def bN (ops:Array Oper)(s:St)(o:Oper):Option Bool:=match o.guard with
 | none=>some true
 | some (j,want)=>match (ops[j]?).bind (·.dst) with
  | none=>none
  | some t=>mw (assoc s.env t) want
def yM (au:List (Nat×TI))(nt:Nat)(ops:Array Oper)(K:List Oper→St→Prop):List Oper→St→Prop
 | [],s=>K [] s
 | o::r,s=>if x5 o then
   match bN ops s o with
   | some false=>CT (yM au nt ops K r) (fK au nt ops s o)
   | _=>K (o::r) s
  else CT (yM au nt ops K r) (fK au nt ops s o)
theorem HG (ht:aB P au){K:St→Prop}:∀ (l:List Oper) (s:St),yM au C.nt ops (fun r s'=>TL P C ops r s' K) l s→TL P C ops l s K
 | [],_,h=>h
 | o::r,s,h=>by
  have fin:CT (yM au C.nt ops (fun r s'=>TL P C ops r s' K) r) (fK au C.nt ops s o)→TL P C ops (o::r) s K:=fun h=>by
   cases hs:fK au C.nt ops s o with
   | none=>rw[hs] at h;exact h.elim
   | some s'=>rw[hs] at h;exact TL.step ht hs (HG ht r s' h)
  unfold yM at h;split at h
  ·split at h
   ·exact fin h
   ·exact h
  ·exact fin h
def cS (au:List (Nat×TI))(nt:Nat)(ops:Array Oper)(s:St)(o:Oper):Option St:=
 if aZ nt o.dst then
  match o.guard with
  | none=>(eV au s o.op).map (s.put o.dst)
  | some (j,want)=>match (ops[j]?).bind (·.dst) with
   | none=>none
   | some t=>match mw (assoc s.env t) want with
    | some true=>(eV au s o.op).map (s.put o.dst)
    | some false=>some (s.put o.dst (.dH []))
    | none=>none
 else none
def goH (au:List (Nat×TI))(nt:Nat)(ops:Array Oper)(K:List Nat→St→Prop):List Nat→St→Prop
 | [],s=>K [] s
 | i::r,s=>match ops[i]? with
  | none=>False
  | some o=>if x5 o then
    match bN ops s o with
    | some false=>CT (goH au nt ops K r) (cS au nt ops s o)
    | _=>K (i::r) s
   else CT (goH au nt ops K r) (cS au nt ops s o)
end
end
section
variable {P:Program}{C:Cx}{s:St}{ops:Array Oper}{au:List (Nat×TI)}{Q:Exit→St→Prop}{x y z:Code}
theorem T.cond_true {c:Operand}(hc:ev s c=some (.bool true))(h:T P C x s Q):T P C (.cond c x y) s Q:=T.cond hc Sr
theorem T.cond_false {c:Operand}(hc:ev s c=some (.bool false))(h:T P C y s Q):T P C (.cond c x y) s Q:=T.cond hc Sr
theorem T.bb {c:Operand}{b:Bool}(hc:ev s c=some (.bool b))(h1:b=true→T P C x s Q)(h2:b=false→T P C y s Q):T P C (.cond c x y) s Q:=by
 cases b
 ·exact T.cond_false hc (h2 rfl)
 ·exact T.cond_true hc (h1 rfl)
theorem aa.trim {I:St→Prop}(ks os:List Nat)(n:Nat)(h:sN s ks os n=true)(Ta:C.n0≤n)(hi:I (s.trim ks os n)):aa C I s:=⟨_,hi,Le.trim ks os n h Ta⟩
theorem Le.to {s':St}(ks os:List Nat)(n:Nat)(h:sN s ks os n=true)(Ta:C.n0≤n)(e:s.trim ks os n=s'):Le C s s':=e ▸ Le.trim ks os n h Ta
theorem aa.here {I:St→Prop}(hi:I s):aa C I s:=⟨s,hi,Le.refl s⟩
theorem aa.le {I:St→Prop}{s':St}(h:Le C s s')(hi:aa C I s'):aa C I s:=by
 obtain⟨R1,h1,h2⟩:=hi;exact⟨R1,h1,h.trans h2⟩
theorem bT.of {c:Call}{g:FuncId}{cs:List CV}{r:CV}(h1:bl s c=some (g,cs))(h2:trees cs=true)(h3:ae P g cs r):bT P s c r:=⟨g,cs,h1,.inl ⟨h2,h3⟩⟩
end
abbrev vq (n:Int):CV:=.int .i64 n
def ints (l:List Int):CV:=.az (l.map vq) l.length
theorem Eu (o:Nat)(cs:List CV):dt o cs=cs.all (aK o):=by
 induction cs with
 | nil=>rfl
 | cons c cs ih=>simp[dt,ih]
theorem cr (n:Nat)(cs:List CV):aS n cs=cs.all (a7 n):=by
 induction cs with
 | nil=>rfl
 | cons c cs ih=>simp[aS,ih]
theorem F6 (cs:List CV):trees cs=cs.all tree:=by
 induction cs with
 | nil=>rfl
 | cons c cs ih=>simp[trees,ih]
theorem HM (o:Nat)(cells:List CV)(sz:Nat)(cs:List CV):gT o cells sz cs=cs.map (cB o cells sz):=by
 induction cs with
 | nil=>rfl
 | cons c cs ih=>simp[gT,ih]
theorem Bk (cs:List CV):iq cs=cs.all scalar:=by
 induction cs with
 | nil=>rfl
 | cons c cs ih=>simp[iq,ih]
theorem HL (o:Nat)(c:List CV)(z:Nat)(l:List Int):cB o c z (ints l)=ints l:=rfl
theorem BK (o:Nat)(c:List CV)(z:Nat):cB o c z∘ints=ints:=rfl
theorem EL (o:Nat)(c:List CV)(z:Nat):cB o c z∘vq=vq:=rfl
theorem BL (o:Nat)(c:List CV)(z:Nat):cB o c z∘CV.bool=CV.bool:=rfl
theorem BD (o:Nat)(l:List Int):aK o (ints l)=true:=rfl
theorem zh (o:Nat)(l:List Int):a7 o (ints l)=true:=rfl
theorem kK (l:List Int):tree (ints l)=true:=rfl
theorem xU (o:Nat):aK o∘ints=fun _=>true:=rfl
theorem zy (o:Nat):aK o∘vq=fun _=>true:=rfl
theorem xV (o:Nat):aK o∘CV.bool=fun _=>true:=rfl
theorem u7 (o:Nat):a7 o∘ints=fun _=>true:=rfl
theorem xI (o:Nat):a7 o∘vq=fun _=>true:=rfl
theorem u9 (o:Nat):a7 o∘CV.bool=fun _=>true:=rfl
theorem yY:tree∘ints=fun _=>true:=rfl
theorem Bc:tree∘vq=fun _=>true:=rfl
theorem yZ:tree∘CV.bool=fun _=>true:=rfl
theorem BG (l:List Int):dx (ints l)=false:=rfl
theorem BW (l:List Int):(ints l).cells=[ints l]:=rfl
theorem Aa {α:Type}(o:Nat)(c:List CV)(z:Nat)(f:α→List Int):cB o c z∘ints∘f=ints∘f:=rfl
theorem vh {α:Type}(o:Nat)(f:α→List Int):aK o∘ints∘f=fun _=>true:=rfl
theorem tv {α:Type}(o:Nat)(f:α→List Int):a7 o∘ints∘f=fun _=>true:=rfl
theorem xu {α:Type}(f:α→List Int):tree∘ints∘f=fun _=>true:=rfl
theorem BJ {α:Type}(o:Nat)(c:List CV)(z:Nat)(f:α→Int):cB o c z∘vq∘f=vq∘f:=rfl
theorem xT {α:Type}(o:Nat)(f:α→Int):aK o∘vq∘f=fun _=>true:=rfl
theorem u6 {α:Type}(o:Nat)(f:α→Int):a7 o∘vq∘f=fun _=>true:=rfl
theorem yX {α:Type}(f:α→Int):tree∘vq∘f=fun _=>true:=rfl
theorem vk {α:Type}(o:Nat)(c:List CV)(z:Nat)(f:α→Bool):cB o c z∘CV.bool∘f=CV.bool∘f:=rfl
theorem rA {α:Type}(o:Nat)(f:α→Bool):aK o∘CV.bool∘f=fun _=>true:=rfl
theorem qf {α:Type}(o:Nat)(f:α→Bool):a7 o∘CV.bool∘f=fun _=>true:=rfl
theorem sQ {α:Type}(f:α→Bool):tree∘CV.bool∘f=fun _=>true:=rfl
attribute [simp] Aa vh tv xu BJ xT u6 yX vk rA qf sQ
attribute [simp] HL BK EL BL BD zh
attribute [simp] kK xU zy xV u7 xI u9 yY Bc yZ
attribute [simp] BG BW
@[simp] theorem K1 (k:IntKind)(n:Int):dx (.int k n:CV)=false:=rfl
@[simp] theorem Lf (k:IntKind)(n:Int):CV.cells (.int k n:CV)=[(.int k n:CV)]:=rfl
@[simp] theorem J2 (b:Bool):dx (.bool b:CV)=false:=rfl
@[simp] theorem Ks (b:Bool):CV.cells (.bool b:CV)=[(.bool b:CV)]:=rfl
@[simp] theorem KZ (b:ByteArray):dx (.str b:CV)=false:=rfl
@[simp] theorem Lc (b:ByteArray):CV.cells (.str b:CV)=[(.str b:CV)]:=rfl
@[simp] theorem KY (cs:List CV)(n:Nat):dx (.az cs n:CV)=false:=rfl
@[simp] theorem Lb (cs:List CV)(n:Nat):CV.cells (.az cs n:CV)=[(.az cs n:CV)]:=rfl
@[simp] theorem IS  : dx (.ai:CV)=false:=rfl
@[simp] theorem IY  : CV.cells (.ai:CV)=[(.ai:CV)]:=rfl
@[simp] theorem J0 (cs:List CV):dx (.cA cs:CV)=false:=rfl
@[simp] theorem Kq (cs:List CV):CV.cells (.cA cs:CV)=[(.cA cs:CV)]:=rfl
@[simp] theorem Hu  : dx (.bG:CV)=false:=rfl
@[simp] theorem Io  : CV.cells (.bG:CV)=[(.bG:CV)]:=rfl
@[simp] theorem MF (f:FuncId)(cs:List CV):dx (.fn f cs:CV)=false:=rfl
@[simp] theorem Nf (f:FuncId)(cs:List CV):CV.cells (.fn f cs:CV)=[(.fn f cs:CV)]:=rfl
@[simp] theorem IT  : dx (.cd:CV)=false:=rfl
@[simp] theorem IZ  : CV.cells (.cd:CV)=[(.cd:CV)]:=rfl
@[simp] theorem K0 (o f n:Nat):dx (.bj o f n:CV)=false:=rfl
@[simp] theorem Ld (o f n:Nat):CV.cells (.bj o f n:CV)=[(.bj o f n:CV)]:=rfl
@[simp] theorem J1 (o f:Nat):dx (.av o f:CV)=false:=rfl
@[simp] theorem Kr (o f:Nat):CV.cells (.av o f:CV)=[(.av o f:CV)]:=rfl
@[simp] theorem ME (k:Nat)(es:List (Value×Value)):dx (.mp k es:CV)=false:=rfl
@[simp] theorem K2 (cs:List CV):dx (.agg cs)=false:=rfl
@[simp] theorem Lg (cs:List CV):CV.cells (.agg cs)=cs:=rfl
@[simp] theorem KX (cs:List CV):dx (.dH cs)=true:=rfl
@[simp] theorem La (cs:List CV):CV.cells (.dH cs)=[.dH cs]:=rfl
attribute [simp] Eu cr F6 HM Bk
attribute [simp] aK a7 tree cB scalar one
attribute [simp] assoc iY oM St.put St.del ev yN sA fL iO
attribute [simp] mw fK me Ge eV aZ cS x5 bN yM goH CT DV sT
attribute [simp] DB BX arith cun gJ Ko dq kC MK imax uD
attribute [simp] yq sD gh lj TI.agg qw St.new Dw yw Ku j3 gI lG yr kB fF qy nk
attribute [simp] nr cells? DA BS
attribute [simp] bl Hn qQ enter bD jY nY mu pick St.trim sN St.dz vl rF St.own
attribute [simp] ic lT yv
attribute [simp] List.head?_drop
section
variable {P:Program}{C:Cx}{s:St}{ops:Array Oper}{au:List (Nat×TI)}{Q:Exit→St→Prop}{x y z:Code}
/- simp looks at the state alone, never at the code. -/
@[congr] theorem T_congr {s s':St}{c:Code}(h:s=s'):T P C c s Q=T P C c s' Q:=by rw[h]
@[congr] theorem TL_congr {s s':St}{l:List Oper}{K:St→Prop}(h:s=s'):TL P C ops l s K=TL P C ops l s' K:=by rw[h]
attribute [simp] thenS oF
def AN (P:Program)(C:Cx)(ops:Array Oper)(K:St→Prop):List Oper→St→Prop
 | [],s=>K s
 | o::r,s=>TL P C ops (o::r) s K
attribute [simp] AN
theorem TL.go' (ht:aB P au){K:St→Prop}{l:List Oper}(h:yM au C.nt ops (AN P C ops K) l s):TL P C ops l s K:=by
 refine HG ht l s ?_;have e:AN P C ops K=AN P C ops K:=rfl;revert h;have:∀ (l:List Oper) (s:St),yM au C.nt ops (AN P C ops K) l s→yM au C.nt ops (fun r s'=>TL P C ops r s' K) l s:=by
  intro l
  induction l with
  | nil=>intro s h;exact TL.nil h
  | cons o r ih=>
   intro s h;have fin:CT (yM au C.nt ops (AN P C ops K) r) (fK au C.nt ops s o)→CT (yM au C.nt ops (fun r s'=>TL P C ops r s' K) r) (fK au C.nt ops s o):=fun h=>by
    cases hs:fK au C.nt ops s o with
    | none=>rw[hs] at h;exact h.elim
    | some s'=>rw[hs] at h;exact ih s' h
   unfold yM at h ⊢;split
   ·rename_i hc;rw[if_pos hc] at h;split
    ·rename_i hg;rw[hg] at h;exact fin h
    ·rename_i hg;split at h
     ·rename_i hg';exact absurd hg' hg
     ·exact h
   ·rename_i hc;rw[if_neg hc] at h;exact fin h
 exact this l s
theorem T.go' (ht:aB P au){id:Nat}{l:List Oper}(h:yM au C.nt l.toArray (AN P C l.toArray (Q .normal)) l s):T P C (.region id l.toArray false) s Q:=T.region (TL.go' ht h)
def tailK (P:Program)(C:Cx)(au:List (Nat×TI))(l:List Oper)(tail:List Nat)(K:St→Prop)(s:St):Prop:=yM au C.nt l.toArray (AN P C l.toArray K) (tail.map (l.toArray.getD · default)) s
theorem T.cut (J:St→Prop)(h:T P C x s (thenS (aa C J) Q))(k:∀ s',J s'→T P C y s' Q):T P C (.seq x y) s Q:=
 T.seq (T.post h fun e s' q=>by
  cases e with
  | normal=>obtain⟨R1,hj,hl⟩:=q;exact⟨R1,k R1 hj,hl⟩
  | _=>exact⟨s',q,Le.refl _⟩)
end
attribute [simp] tailK
section
variable {P:Program}{C:Cx}{s:St}
def wz (l:Nat)(J:St→Prop)(Q:Exit→St→Prop):Exit→St→Prop
 | .goto m,s=>m=l∧J s
 | e,s=>Q e s
@[simp] theorem MC (l m:Nat)(J:St→Prop)(Q:Exit→St→Prop)(s:St):wz l J Q (.goto m) s=(m=l∧J s):=rfl
@[simp] theorem JZ (l:Nat)(J:St→Prop)(Q:Exit→St→Prop)(s:St):wz l J Q .normal s=Q .normal s:=rfl
@[simp] theorem Oi (l:Nat)(J:St→Prop)(Q:Exit→St→Prop)(s:St):wz l J Q .ret s=Q .ret s:=rfl
@[simp] theorem MD (l m:Nat)(J:St→Prop)(Q:Exit→St→Prop)(s:St):wz l J Q (.exit m) s=Q (.exit m) s:=rfl
theorem T.Jl {c rest:Code}{Q:Exit→St→Prop}(l:Nat)(I:Nat→St→Prop)(hf:findLabel c l=some rest)(first:T P C c s (wz l (fun s'=>∃ m,aa C (I m) s') Q))
  (pass:∀ n s,I n s→T P C rest s (wz l (fun s'=>∃ m,m<n∧aa C (I m) s') Q)):T P C (.scope c) s Q:=fun a w hr=>by
 classical
 let J:Nat→Act→World→Prop:=fun n a w=>∃ s,I n s∧Rel C s a w
 have hx:∀ a w,(∃ n,J n a w)→∃ n,J n a w∧∀ m,J m a w→n≤m:=fun a w ⟨n,hn⟩=>by
  induction n using Nat.strongRecOn with
  | _ n ih=>
   by_cases h:∃ m,m<n∧J m a w
   ·obtain⟨m,hm,hi⟩:=h;exact ih m hm hi
   ·exact⟨n,hn,fun m hm=>Nat.le_of_not_lt fun PQ=>h ⟨m,PQ,hm⟩⟩
 let μ:Act→World→Nat:=fun a w=>if h:∃ n,J n a w then (hx a w h).choose else 0
 have hμ:∀ a w (h:∃ n,J n a w),J (μ a w) a w∧∀ m,J m a w→μ a w≤m:=fun a w h=>by
  simp only[μ,dif_pos h];exact (hx a w h).choose_spec
 have up:∀ {n s' a' w'},aa C (I n) s'→Rel C s' a' w'→J n a' w':=fun⟨R1,hi,hl⟩ hr=>⟨R1,hi,hl _ _ hr⟩;refine wp_scope_jumps l (fun a w=>∃ n,J n a w) μ hf (wp_mono (first a w hr) fun e a' w' q=>?_) fun a w hJ=>?_
 ·obtain⟨s',q,Qo⟩:=q
  cases e with
  | goto m=>obtain⟨e,m,hm⟩:=q;exact⟨e,m,up hm Qo⟩
  | _=>exact⟨s',q,Qo⟩
 ·obtain⟨s1,hi,QG⟩:=(hμ a w hJ).1;refine wp_mono (pass (μ a w) s1 hi a w QG) fun e a' w' q=>?_;obtain⟨s',q,Qo⟩:=q
  cases e with
  | goto m=>
   obtain⟨e,m,hm,hi⟩:=q;exact⟨e,⟨m,up hi Qo⟩,Nat.lt_of_le_of_lt ((hμ a' w' ⟨m,up hi Qo⟩).2 m (up hi Qo)) hm⟩
  | _=>exact⟨s',q,Qo⟩
end
def K8 (C:Cx)(au:List (Nat×TI))(f:Func)(R:CV→St→Prop):Exit→St→Prop
 | .normal,s=>aa C (fun s'=>∃ r,bD au f s'=some r∧R r s') s
 | .ret,s=>aa C (fun s'=>∃ r,bD au f s'=some r∧R r s') s
 | _,_=>False
def Body (P:Program)(au:List (Nat×TI))(f:FuncId)(args:List CV)(H:List (Nat×Ob))(n:Nat)(R:CV→St→Prop):Prop:=
 ∃ fn c, P.funcs[f]? = some fn ∧ fn.body = some c ∧ (fn.name == "runtime.NumGoroutine") = false ∧ args.length ≤ fn.ntmps ∧
  ∀ C:Cx,C.nt=fn.ntmps→C.n0=n→T P C c ⟨(enter args).env,H,n⟩ (K8 C au fn R)
theorem Body.iV {P : Program} {au : List (Nat × TI)} {f : FuncId} {fn : Func} {c : Code} {args : List CV} {H : List (Nat × Ob)} {n : Nat} {R : CV → St → Prop} (hf : P.funcs[f]? = some fn) (hb : fn.body = some c) (hn : (fn.name == "runtime.NumGoroutine") = false)
  (ha:args.length≤fn.ntmps) (h:∀ C:Cx,C.nt=fn.ntmps→C.n0=n→T P C c ⟨(enter args).env,H,n⟩ (K8 C au fn R)):Body P au f args H n R:=⟨fn,c,hf,hb,hn,ha,h⟩
section
variable {P:Program}{C:Cx}{σ σ':Nat→Option OB}{s s':St}{a a':Act}{w w':World}{ops:Array Oper}{au:List (Nat×TI)}
def Cx.inner (C:Cx)(w:World)(σ:Nat→Option OB)(H:List (Nat×Ob))(nt:Nat)(hF:∀ b,C.F b→b<w.heap.size)(n:Nat):Cx:=
 ⟨w,C.F,fun b=>∃ o ob,assoc H o=some ob∧aT σ o=some b,hF,nt,σ,n⟩
theorem qi (h:aL C σ s a w){b:Nat}(hb:∃ o ob,assoc s.heap o=some ob∧aT σ o=some b):b<w.heap.size∧¬ C.F b∧(C.own b∨C.w0.heap.size≤b):=by
 obtain⟨o,ob,ho,hb⟩:=hb;obtain⟨B,m1,_,_,_,m5⟩:=h.obj o ob ho;obtain⟨cur,n1,_,n3,n4,_⟩:=m5 b Ys;exact⟨(Array.getElem?_eq_some_iff.1 n1).1,n3,n4⟩
theorem aL.inner (h:aL C σ s a w)(hF:∀ b,C.F b→b<w.heap.size)(nt:Nat){args:List CV}{vs:List Value}(hv:aN w (FB C σ s.heap) σ args vs)(ha:args.length≤nt) :
  aL (C.inner w σ s.heap nt hF s.nx) σ ⟨(enter args).env,s.heap,s.nx⟩ { tmps:=vs.toArray++Array.replicate (nt-vs.toArray.size) undef,defers:=[] } w:=by
 have hl:=aN.length _ _ hv;refine⟨rfl,by simp[Cx.inner];omega,rfl,rfl,rfl,Nat.le_refl _,fun _ _ _=>rfl,?_,?_,h.inj,h.nx,fun _ _=>rfl,Nat.le_refl _,fun o B b ho hB _=>(by rw[h.nx o ho] at hB;cases hB)⟩
 ·intro t c hc;obtain⟨_,h2⟩:=eI args 0 t c hc;obtain⟨v,h3,h4⟩:=aN.get _ _ hv t c (by simpa using h2);refine⟨v,?_,h4⟩;have PQ:=(List.getElem?_eq_some_iff.1 h3).1;simp only;rw[Array.getElem?_append_left (by simpa using PQ)]
  simpa using h3
 ·intro o ob ho;obtain⟨B,m1,m2,m3,m4,m5⟩:=h.obj o ob ho;refine⟨B,m1,m2,m3,m4,fun b hb=>?_⟩;obtain⟨cur,n1,n2,n3,n4,n5,n6⟩:=m5 b hb;exact⟨cur,n1,n2,n3,.inl ⟨o,ob,ho,by simp[aT,m1,hb]⟩,n5,n6⟩
theorem aL.back (h:aL C σ s a w){hF:∀ b,C.F b→b<w.heap.size}{nt:Nat}(h':aL (C.inner w σ s.heap nt hF s.nx) σ' s' a' w'):aL C σ' ⟨s.env,s'.heap,s'.nx⟩ a w':=by
 have Qd:∀ b,b<w.heap.size→(¬ ∃ o ob,assoc s.heap o=some ob∧aT σ o=some b)→w'.heap[b]? = w.heap[b]?:=fun b hb hn=>h'.frame b hb hn;have Sj:∀ o ob b,assoc s'.heap o=some ob→aT σ' o=some b→(∃ o ob,assoc s.heap o=some ob∧aT σ o=some b)∨w.heap.size≤b:=fun o ob b ho hb=>by
  obtain⟨B,m1,_,_,_,m5⟩:=h'.obj o ob ho;obtain⟨cur,_,_,_,n4,_⟩:=m5 b Ys;exact n4
 refine⟨h.mD,h.tm,h'.os.trans h.os,h'.tape.trans h.tape,h'.output.trans h.output,Nat.le_trans h.size h'.size,?_,?_,?_,h'.inj,h'.nx,fun o ho=>(h'.gy o (Nat.lt_of_lt_of_le ho h.low)).trans (h.gy o ho),Nat.le_trans h.low h'.low,fun o B b ho hB hb=>?_⟩
 ·intro b hb QN;rw[Qd b (Nat.lt_of_lt_of_le hb h.size) fun hx=>?_]
  ·exact h.frame b hb QN
  ·rcases (qi h hx).2.2 with h1 | h1
   ·exact QN h1
   ·omega
 ·intro t c hc;obtain⟨v,k1,k2⟩:=h.env t c hc;refine⟨v,k1,VR.bg ⟨fun ad u hf hu=>?_,fun r _ hf hu _=>?_⟩ _ _ (fun o ho=>?_) k2⟩
  case refine_3=>
   refine h'.gy o (Nat.lt_of_not_le fun hle=>?_);obtain⟨B,hB⟩:=VR.refs _ _ o k2 ho;rw[h.nx o hle] at hB;cases hB
  ·have PQ:=World.block_lt_of_cell? w ad hu;have QN:¬ ∃ o ob,assoc s.heap o=some ob∧aT σ o=some ad.block:=fun hx=>hf (.inr hx);refine⟨by rw[World.cell?_of_block (w:=w) (Qd ad.block PQ QN)];exact hu,?_⟩;rintro (hx | ⟨o,ob,ho,hb⟩)
   ·exact hf (.inl hx)
   ·rcases Sj o ob _ ho hb with h1 | h1
    ·exact QN h1
    ·omega
  ·have PQ:=(Array.getElem?_eq_some_iff.1 hu).1;have QN:¬ ∃ o ob,assoc s.heap o=some ob∧aT σ o=some r:=fun hx=>hf (.inr hx);refine⟨by rw[Qd r PQ QN];exact hu,?_⟩;rintro (hx | ⟨o,ob,ho,hb⟩)
   ·exact hf (.inl hx)
   ·rcases Sj o ob _ ho hb with h1 | h1
    ·exact QN h1
    ·omega
 ·intro o ob ho;obtain⟨B,m1,m2,m3,m4,m5⟩:=h'.obj o ob ho;refine⟨B,m1,m2,m3,m4,fun b hb=>?_⟩;obtain⟨cur,n1,n2,n3,n4,n5,n6⟩:=m5 b hb;refine⟨cur,n1,n2,n3,?_,n5,n6⟩;rcases n4 with n4 | n4
  ·exact (qi h n4).2.2
  ·exact .inr (Nat.le_trans h.size n4)
 ·rcases Nat.lt_or_ge o s.nx with PQ | SE
  ·rw[h'.gy o PQ] at hB;exact h.new o B b ho hB hb
  ·rcases h'.new o B b SE hB hb with n4 | n4
   ·exact (qi h n4).2.2
   ·exact .inr (Nat.le_trans h.size n4)
end
end Go.Can
