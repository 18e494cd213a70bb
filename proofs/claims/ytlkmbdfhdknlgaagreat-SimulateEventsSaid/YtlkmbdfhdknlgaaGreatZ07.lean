/- Regions that draw their or -/
import Derived.Test.YtlkmbdfhdknlgaaGreatZ06
namespace Go.Can
open Go.RowKit List
section
variable {P:Program}{C:Cx}{s:St}{a:Act}{w:World}{ops:Array Oper}{av:List (Nat×TI)}
theorem count_set:∀ (ord:List Nat) (i:Nat) (listed:Array Bool),ord.Nodup->i∈ord->i<listed.size->listed.getD i false=false ->
  (ord.countP λ j=>!(listed.setIfInBounds i true).getD j false)+1=ord.countP λ j=>!listed.getD j false
 | [],_,_,_,h,_,_=>by cases h
 | k::r,i,listed,hn,hi,RS,hu=>by
  rw[nodup_cons] at hn;simp only[countP_cons];by_cases hk:k=i
  ·subst hk;have h1:((listed.setIfInBounds k true).getD k false)=true:=by simp[RS]
   have h2:(r.countP λ j=>!(listed.setIfInBounds k true).getD j false)=r.countP λ j=>!listed.getD j false:=by
    refine countP_congr λ j hj=>?_;rw[getD_set_ne false (λ e=>hn.1 (by subst e;exact hj))]
   rw[h1,h2,hu];simp
  ·have hir:i∈r:=by
    rcases mem_cons.1 hi with e | e
    ·exact absurd e.symm hk
    ·exact e
   have:=count_set r i listed hn.2 hir RS hu;rw[getD_set_ne false (Ne.symm hk)];omega
theorem xy (m j:Nat):(Array.replicate m false).getD j false=false:=getD_replicate_false m j
theorem qe {listed:Array Bool}{j:Nat}(hs:j<listed.size)(h:listed.getD j false=false):listed.getD j true=false:=getD_in hs h
def Mv (ops:Array Oper):List Nat->Array Bool->Bool
 | [],_=>true
 | i::r,listed=>(Region.ready .any ops listed).contains i && Region.free .any ops listed i && (match ops[i]? with
   | some o=>o.guard.isNone && (match o.op with | .move _=>true | .indexAddr _ _ _=>true | .fieldAddr _ _ _=>true | .nilCheck _=>true | _=>false)
   | none=>false) && Mv ops r (listed.setIfInBounds i true)
theorem FR (ht:aD P av)(hsel:Region.noSelect ops=true){Q':Exit->Act->World->Prop}(hQ:∀ c a w,¬ Q' (.panic c) a w){g:Nat}{K:St->Prop}:∀ (pre:List Nat) (L0:Array Bool) (s:St) (a:Act) (w:World),Mv ops pre L0=true->Rel C s a w ->
  TH P av C.nt ops pre s K->(∀ s' a',K s'->Rel C s' a' w->wpAny P .any ops Q' g (AL pre L0) a' w)->wpAny P .any ops Q' (pre.length+g) L0 a w
 | [],L0,s,a,w,_,hr,hk,VW=>by rw[length_nil,Nat.zero_add];exact VW s a hk hr
 | i::r,L0,s,a,w,hp,hr,hk,VW=>by
  simp only[Mv,Bool.and_eq_true] at hp;obtain⟨⟨⟨h1,h2⟩,h3⟩,h4⟩:=hp;obtain⟨o,res,ho,hq,hk'⟩:=hk;rw[ho] at h3;simp only[Bool.and_eq_true] at h3;have hg:o.guard=none:=by simpa using h3.1
  obtain⟨hd,hq⟩:=hq;rcases hq with ⟨j,want,t,e1,_⟩ | ⟨_,c,rfl,hc⟩
  ·rw[hg] at e1;cases e1
  ·obtain⟨σ,hr⟩:=hr;have hv:∃ v,(∀ w,(execOp a.eval o).run P w=.ok (.value v) w)/\VR w (FB C σ s.heap) σ c v:=by
    rcases hc with hc | ⟨cl,e,_⟩
    ·cases R5:o.op<;>rw[R5] at h3<;>simp at h3
     case move x=>
      rw[R5] at hc;exact⟨a.eval x,λ w=>by simp[execOp,R5],bF hr hc⟩
     case indexAddr t x i=>
      rw[R5] at hc;simp only[fC] at hc;split at hc
      ·rename_i c' k n hx hi;have hn:=bF hr hi;simp only[VR] at hn;obtain⟨z,k1,k2⟩:=zL (P:=P) (k:=k) ht (bF hr hx) hc;exact⟨z,λ w=>by simp[execOp,R5,hn,k1],k2⟩
      ·cases hc
     case fieldAddr t x f=>
      rw[R5] at hc;simp only[fC] at hc;split at hc
      ·rename_i c' hx;obtain⟨z,k1,k2⟩:=qo (P:=P) ht (bF hr hx) hc;exact⟨z,λ w=>by simp[execOp,R5,k1],k2⟩
      ·cases hc
     case nilCheck x=>
      rw[R5] at hc;simp only[fC] at hc;split at hc
      ·rename_i o' p hx;cases hc;have hv:=bF hr hx;have UH:=hv;simp only[VR] at UH;obtain⟨B,b,_,_,e⟩:=UH;exact⟨_,λ w=>by simp only[execOp,R5,e];rfl,by rw[<- e];exact hv⟩
      ·rename_i cs hx;cases hc;have hv:=bF hr hx;have UH:=hv;simp only[VR,cr] at UH;obtain⟨ad,e,_⟩:=UH;exact⟨_,λ w=>by simp only[execOp,R5,e];rfl,by rw[<- e];exact hv⟩
      ·rename_i f cs hx;cases hc;have hv:=bF hr hx;have UH:=hv;simp only[VR] at UH;obtain⟨vs,e,_⟩:=UH;exact⟨_,λ w=>by simp only[execOp,R5,e];rfl,by rw[<- e];exact hv⟩
      ·cases hc
    ·rw[e] at h3;simp at h3
   obtain⟨v,Yz,hv2⟩:=hv;have hy:Yields P ops o v a:=.inl ⟨by simp[Region.wanted,hg],Yz⟩;rw[show (i::r).length+g=(r.length+g)+1 by simp;omega];refine wpAny_take ho hsel h2 h1 (λ c a w h=>absurd h (hQ c _ w)) hy ?_;refine FR ht hsel hQ r (L0.setIfInBounds i true) _ _ w h4 ⟨σ,hr.put ?_ hv2⟩ hk' (λ s' a' VI So=>VW s' a' VI So);intro t e;rw[hr.tm];rw[e] at hd
   simpa [bm] using hd
end
def Le (C:Cx)(s s':St):Prop:=∀ (a:Act) (w:World),Rel C s a w->Rel C s' a w
section
variable {C:Cx}
theorem Le.refl (s:St):Le C s s:=λ _ _ h=>h
theorem Le.trans {s s' T2:St}(h:Le C s s')(k:Le C s' T2):Le C s T2:=λ a w hr=>k a w (h a w hr)
def pick {α:Type}(l:List (Nat×α)):List Nat->List (Nat×α)
 | []=>[]
 | t::r=>match assoc l t with
  | some c=>(t,c)::pick l r
  | none=>pick l r
theorem fj {α:Type}(l:List (Nat×α)):∀ (ks:List Nat) (t:Nat) (c:α),assoc (pick l ks) t=some c->assoc l t=some c
 | [],_,_,h=>by simp[pick,assoc] at h
 | k::r,t,c,h=>by
  simp only[pick] at h;split at h
  ·rename_i x hx;simp only[assoc] at h;split at h
   ·rename_i e;subst e;cases h;exact hx
   ·exact fj l r t c h
  ·exact fj l r t c h
mutual
def aU (n:Nat):CV->Bool
 | .iter o _ _=>decide (o<n)
 | .mp o _=>decide (o<n)
 | .bb o _ _=>decide (o<n)
 | .aw o _=>decide (o<n)
 | .agg cs=>ba n cs
 | .fn _ cs=>ba n cs
 | .iface _ cs=>ba n cs
 | .cB cs=>ba n cs
 | _=>true
def ba (n:Nat):List CV->Bool
 | []=>true
 | c::cs=>aU n c && ba n cs
end
mutual
theorem mw (n:Nat):∀ (c:CV) (o:Nat),aU n c=true->aP o c=false->o<n
 | .bb p _ _,o,h,hr=>by
  have:p=o:=by simpa [aP] using hr
  subst this;simpa [aU] using h
 | .aw p _,o,h,hr=>by
  have:p=o:=by simpa [aP] using hr
  subst this;simpa [aU] using h
 | .agg cs,o,h,hr=>fB n cs o (by simpa [aU] using h) (by simpa [aP] using hr)
 | .fn _ cs,o,h,hr=>fB n cs o (by simpa [aU] using h) (by simpa [aP] using hr)
 | .iface _ cs,o,h,hr=>fB n cs o (by simpa [aU] using h) (by simpa [aP] using hr)
 | .cB cs,o,h,hr=>fB n cs o (by simpa [aU] using h) (by simpa [aP] using hr)
 | .int _ _,_,_,hr=>by simp[aP] at hr
 | .bool _,_,_,hr=>by simp[aP] at hr
 | .str _,_,_,hr=>by simp[aP] at hr
 | .ax _ _,_,_,hr=>by simp[aP] at hr
 | .aj,_,_,hr=>by simp[aP] at hr
 | .cQ _,_,_,hr=>by simp[aP] at hr
 | .bJ,_,_,hr=>by simp[aP] at hr
 | .cE,_,_,hr=>by simp[aP] at hr
 | .iter p _ _,o,h,hr=>by
  simp only[aP,bne_eq_false_iff_eq] at hr;subst hr
  simpa [aU] using h
 | .mp p _,o,h,hr=>by
  simp only[aP,bne_eq_false_iff_eq] at hr;subst hr
  simpa [aU] using h
theorem fB (n:Nat):∀ (cs:List CV) (o:Nat),ba n cs=true->ed o cs=false->o<n
 | [],_,_,hr=>by simp[ed] at hr
 | c::cs,o,h,hr=>by
  simp only[ba,Bool.and_eq_true] at h;simp only[ed,Bool.and_eq_false_iff] at hr;rcases hr with hr | hr
  ·exact mw n c o h.1 hr
  ·exact fB n cs o h.2 hr
end
def St.trim (s:St)(ks os:List Nat)(n:Nat):St:=⟨pick s.env ks,pick s.heap os,n⟩
def vZ (s:St)(ks os:List Nat)(n:Nat):Bool:=
 (pick s.env ks).all (λ x=>aU n x.2) && (pick s.heap os).all λ x=>decide (x.1<n) && ba n x.2.cells
theorem Le.trim {s:St}(ks os:List Nat)(n:Nat)(h:vZ s ks os n=true)(Uj:C.n0<=n):Le C s (s.trim ks os n):=by
 intro a w ⟨σ,hr⟩;simp only[vZ,Bool.and_eq_true] at h;obtain⟨h1,h2⟩:=h;rw[all_eq_true] at h1 h2;have hs:∀ {o},o<n->(if o<n then σ o else none)=σ o:=λ {o} ho=>by rw[if_pos ho]
 have hF:∀ b,FB C (λ o=>if o<n then σ o else none) (pick s.heap os) b->FB C σ s.heap b:=by
  rintro b (hb | ⟨o,ob,ho,hb⟩)
  ·exact .inl hb
  ·have:=h2 _ (bx _ _ _ ho);simp only[Bool.and_eq_true,decide_eq_true_eq] at this;simp only[a7,hs this.1] at hb;exact .inr ⟨o,ob,fj _ _ _ _ ho,hb⟩
 have hk:cO w w (FB C σ s.heap) (FB C (λ o=>if o<n then σ o else none) (pick s.heap os)):=⟨λ ad u hf hu=>⟨hu,λ h=>hf (hF _ h)⟩,λ r _ hf hu _=>⟨hu,λ h=>hf (hF _ h)⟩⟩;refine⟨λ o=>if o<n then σ o else none,hr.pQ,hr.tm,hr.os,hr.tape,hr.output,hr.size,hr.frame,?_,?_,?_,?_,λ o ho=>by rw[hs (Nat.lt_of_lt_of_le ho Uj)];exact hr.gA o ho,Uj,λ o B b ho hB hb=>?_⟩
 ·intro t c hc;have hm:=h1 _ (bx _ _ _ hc);obtain⟨v,k1,k2⟩:=hr.env t c (fj _ _ _ _ hc);exact⟨v,k1,VR.bG hk c v (λ o ho=>hs (mw n c o hm ho)) k2⟩
 ·intro o ob ho;have hm:=h2 _ (bx _ _ _ ho);simp only[Bool.and_eq_true,decide_eq_true_eq] at hm;obtain⟨B,m1,m2,m3,m4,m5⟩:=hr.obj o ob (fj _ _ _ _ ho);refine⟨B,by simp only[hs hm.1];exact m1,m2,m3,m4,λ b hb=>?_⟩;obtain⟨cur,n1,n2,n3,n4,n5,n6⟩:=m5 b hb;exact⟨cur,n1,n2,n3,n4,n5,a6.bG hk _ _ (λ p hp=>hs (fB n _ p hm.2 hp)) n6⟩
 ·intro o o' ob R9 b ho Sr hb Sf;have hm:=h2 _ (bx _ _ _ ho);have Z9:=h2 _ (bx _ _ _ Sr);simp only[Bool.and_eq_true,decide_eq_true_eq] at hm Z9;simp only[a7,hs hm.1] at hb;simp only[a7,hs Z9.1] at Sf;exact hr.inj o o' ob R9 b (fj _ _ _ _ ho) (fj _ _ _ _ Sr) hb Sf
 ·intro o ho;simp only[St.trim] at ho;rw[if_neg yA]
 ·split at hB
  ·exact hr.new o B b ho hB hb
  ·cases hB
theorem Le.env {s:St}(ks:List Nat):Le C s { s with env:=pick s.env ks }:=by
 intro a w ⟨σ,hr⟩;exact⟨σ,hr.pQ,hr.tm,hr.os,hr.tape,hr.output,hr.size,hr.frame,λ t c hc=>hr.env t c (fj _ _ _ _ hc),hr.obj,hr.inj,hr.nx,hr.gA,hr.low,hr.new⟩
mutual
def cw (o:Nat)(cells:List CV)(sz:Nat):CV->CV
 | .bb p off n=>if p=o then .ax ((cells.drop off).take (n*sz)) n else .bb p off n
 | .aw p off=>if p=o then .cQ (cells.drop off) else .aw p off
 | .agg cs=>.agg (iW o cells sz cs)
 | .fn f cs=>.fn f (iW o cells sz cs)
 | .iface f cs=>.iface f (iW o cells sz cs)
 | .cB cs=>.cB (iW o cells sz cs)
 | .int k n=>.int k n
 | .bool b=>.bool b
 | .str b=>.str b
 | .ax cs n=>.ax cs n
 | .aj=>.aj
 | .cQ cs=>.cQ cs
 | .bJ=>.bJ
 | .cE=>.cE
 | .iter k s p=>.iter k s p
 | .mp k es=>.mp k es
 | .any=>.any
def iW (o:Nat)(cells:List CV)(sz:Nat):List CV->List CV
 | []=>[]
 | c::cs=>cw o cells sz c::iW o cells sz cs
end
theorem Ni {o:Nat}{cells:List CV}{sz:Nat}:∀ c,one (cw o cells sz c)=one c
 | .bb p off n=>by simp only[cw];split<;>rfl
 | .aw p off=>by simp only[cw];split<;>rfl
 | .agg _=>rfl
 | .fn _ _=>rfl
 | .iface _ _=>rfl
 | .cB _=>rfl
 | .int _ _=>rfl
 | .bool _=>rfl
 | .str _=>rfl
 | .ax _ _=>rfl
 | .aj=>rfl
 | .any=>rfl
 | .cQ _=>rfl
 | .bJ=>rfl
 | .cE=>rfl
 | .iter _ _ _=>rfl
 | .mp _ _=>rfl
theorem xA {o:Nat}{cells:List CV}{sz:Nat}:∀ cs:List CV,(iW o cells sz cs).all one=cs.all one
 | []=>rfl
 | c::cs=>by simp only[iW,all_cons,Ni,xA cs]
theorem qG {o:Nat}{cells:List CV}{sz:Nat}:∀ cs:List CV,(iW o cells sz cs).length=cs.length
 | []=>rfl
 | c::cs=>by simp only[iW,length_cons,qG cs]
def yw (o:Nat)(cells:List CV)(sz:Nat):List (Nat×CV)->List (Nat×CV)
 | []=>[]
 | (t,c)::r=>(t,cw o cells sz c)::yw o cells sz r
def vt (o:Nat)(cells:List CV)(sz:Nat):List (Nat×Ob)->List (Nat×Ob)
 | []=>[]
 | (p,x)::r=>if p=o then vt o cells sz r else (p,{ x with cells:=iW o cells sz x.cells })::vt o cells sz r
def St.dn (s:St)(o:Nat)(ob:Ob):St:=⟨yw o ob.cells ob.sz s.env,vt o ob.cells ob.sz s.heap,s.nx⟩
theorem ya {o:Nat}{cells:List CV}{sz:Nat}:∀ (l:List (Nat×CV)) (t:Nat) (c:CV),assoc (yw o cells sz l) t=some c->∃ d,assoc l t=some d/\c=cw o cells sz d
 | [],_,_,h=>by simp[yw,assoc] at h
 | (k,x)::r,t,c,h=>by
  simp only[yw,assoc] at h |-;split at h
  ·rename_i e;rw[if_pos e];cases h;exact⟨x,rfl,rfl⟩
  ·rename_i e;rw[if_neg e];exact ya r t c h
theorem gr {o:Nat}{cells:List CV}{sz:Nat}:∀ (l:List (Nat×Ob)) (p:Nat) (x:Ob),assoc (vt o cells sz l) p=some x->p≠o/\∃ y,assoc l p=some y/\x={ y with cells:=iW o cells sz y.cells }
 | [],_,_,h=>by simp[vt,assoc] at h
 | (k,y)::r,p,x,h=>by
  simp only[vt] at h;split at h
  ·rename_i hk;obtain⟨h1,z,h2,h3⟩:=gr r p x h;refine⟨h1,z,?_,h3⟩;simp only[assoc];rw[if_neg (λ e=>h1 (by rw[<- e,hk]))];exact h2
  ·rename_i hk;simp only[assoc] at h;split at h
   ·rename_i e;cases h;subst e;exact⟨hk,y,by simp[assoc],rfl⟩
   ·rename_i e;obtain⟨h1,z,h2,h3⟩:=gr r p x h;exact⟨h1,z,by simp only[assoc];rw[if_neg e];exact h2,h3⟩
section
variable {w:World}{F F':Nat->Prop}{σ:Nat->Option OB}{o sz:Nat}{cells:List CV}{B:OB}
mutual
theorem Gq (hk:cO w w F F')(hB:σ o=some B)(R0:B.sz=sz)(hm:∀ b,B.kf=some b->∀ k,fF w F' (cells.drop k) ⟨b,k,none⟩):∀ (c:CV) (v:Value),VR w F σ c v->VR w F' σ (cw o cells sz c) v
 | .bb p off n,v,hv=>by
  simp only[cw];split
  ·rename_i e;subst e;simp only[VR] at hv;obtain⟨B',Uf,hv⟩:=hv;rw[hB] at Uf;cases Uf;split at hv
   ·obtain⟨rfl,rfl,rfl⟩:=hv;simp only[VR,cr];exact⟨none,0,rfl,Nat.le_refl _,Nat.zero_le _,.inl ⟨trivial,by simp⟩⟩
   ·rename_i b hb;obtain⟨cap,rfl,h1,h2,_⟩:=hv;simp only[VR,cr];exact⟨_,cap,rfl,h1,h2,.inr ⟨_,rfl,fF.take _ _ _ (hm b hb off)⟩⟩
  ·exact VR.bG hk _ _ (λ _ _=>rfl) hv
 | .aw p off,v,hv=>by
  simp only[cw];split
  ·rename_i e;subst e;simp only[VR] at hv;obtain⟨B',b,Uf,hb,rfl⟩:=hv;rw[hB] at Uf;cases Uf;simp only[VR,cr];exact⟨_,rfl,hm b hb off⟩
  ·exact VR.bG hk _ _ (λ _ _=>rfl) hv
 | .agg cs,v,hv=>by
  simp only[cw,VR] at hv |-;obtain⟨vs,e,r,h1⟩:=hv;exact⟨vs,e,mI hk hB R0 hm cs vs r,by rw[xA];exact h1⟩
 | .fn f cs,v,hv=>by
  simp only[cw,VR] at hv |-;obtain⟨vs,e,r⟩:=hv;exact⟨vs,e,mI hk hB R0 hm cs vs r⟩
 | .iface f cs,v,hv=>by
  simp only[cw,VR] at hv |-;obtain⟨vs,e,r⟩:=hv;exact⟨vs,e,mI hk hB R0 hm cs vs r⟩
 | .cB cs,v,hv=>by
  simp only[cw,VR] at hv |-;obtain⟨vs,e,r⟩:=hv;exact⟨vs,e,mI hk hB R0 hm cs vs r⟩
 | .int k n,v,hv=>by simp only[cw];exact VR.bG hk _ _ (λ _ _=>rfl) hv
 | .bool b,v,hv=>by simp only[cw];exact VR.bG hk _ _ (λ _ _=>rfl) hv
 | .str b,v,hv=>by simp only[cw];exact VR.bG hk _ _ (λ _ _=>rfl) hv
 | .ax cs n,v,hv=>by simp only[cw];exact VR.bG hk _ _ (λ _ _=>rfl) hv
 | .aj,v,hv=>by simp only[cw];exact VR.bG hk _ _ (λ _ _=>rfl) hv
 | .cQ cs,v,hv=>by simp only[cw];exact VR.bG hk _ _ (λ _ _=>rfl) hv
 | .bJ,v,hv=>by simp only[cw];exact VR.bG hk _ _ (λ _ _=>rfl) hv
 | .cE,v,hv=>by simp only[cw];exact VR.bG hk _ _ (λ _ _=>rfl) hv
 | .iter _ _ _,v,hv=>by simp only[cw];exact VR.bG hk _ _ (λ _ _=>rfl) hv
 | .mp _ _,v,hv=>by simp only[cw];exact VR.bG hk _ _ (λ _ _=>rfl) hv
 | .any,v,hv=>by simpa [cw,VR] using hv
theorem mI (hk:cO w w F F')(hB:σ o=some B)(R0:B.sz=sz)(hm:∀ b,B.kf=some b->∀ k,fF w F' (cells.drop k) ⟨b,k,none⟩):∀ (cs:List CV) (vs:List Value),a6 w F σ cs vs->a6 w F' σ (iW o cells sz cs) vs
 | [],_,hv=>by simpa [iW,a6] using hv
 | c::cs,vs,hv=>by
  simp only[iW,a6] at hv |-;obtain⟨v,r,e,h1,h2⟩:=hv;exact⟨v,r,e,Gq hk hB R0 hm c v h1,mI hk hB R0 hm cs r h2⟩
end
end
theorem aQ.dn {C:Cx}{σ:Nat->Option OB}{a:Act}{w:World}{s:St}(hr:aQ C σ s a w){o:Nat}{ob:Ob}(ho:assoc s.heap o=some ob)(ht:trees ob.cells=true):aQ C σ (s.dn o ob) a w:=by
 obtain⟨B,hB,R0,hn,h1,h5⟩:=hr.obj o ob ho;have hF:∀ b,FB C σ (vt o ob.cells ob.sz s.heap) b->FB C σ s.heap b:=by
  rintro b (hb | ⟨p,x,hp,hb⟩)
  ·exact .inl hb
  ·obtain⟨_,y,hy,_⟩:=gr _ _ _ hp;exact .inr ⟨p,y,hy,hb⟩
 have hk:cO w w (FB C σ s.heap) (FB C σ (vt o ob.cells ob.sz s.heap)):=⟨λ ad u hf hu=>⟨hu,λ h=>hf (hF _ h)⟩,λ r _ hf hu _=>⟨hu,λ h=>hf (hF _ h)⟩⟩;have hm:∀ b,B.kf=some b->∀ k,fF w (FB C σ (vt o ob.cells ob.sz s.heap)) (ob.cells.drop k) ⟨b,k,none⟩:=λ b hb k=>by
  obtain⟨cur,k1,k2,k3,k4,k5,k6⟩:=h5 b hb;have hnb:¬ FB C σ (vt o ob.cells ob.sz s.heap) b:=by
   rintro (hf | ⟨p,x,hp,V8⟩)
   ·exact k3 hf
   ·obtain⟨Sb,y,hy,_⟩:=gr _ _ _ hp;exact Sb (hr.inj p o y ob b hy ho V8 (by simp[a7,hB,hb]))
  have h2:fF w (FB C σ (vt o ob.cells ob.sz s.heap)) ob.cells ⟨b,0,none⟩:=iO _ _ _ (bZ.bG hk.1 _ _ (a6.eX _ _ ht k6)) h1 hnb λ j u hu=>by
   rw[add_lit,Nat.zero_add,cell_of_row w b j cur _ _ k1];rw[getElem?_take] at hu;split at hu
   ·simpa using hu
   ·cases hu
  have:=h2.drop k;rwa [add_lit,Nat.zero_add] at this
 refine⟨hr.pQ,hr.tm,hr.os,hr.tape,hr.output,hr.size,hr.frame,?_,?_,?_,hr.nx,hr.gA,hr.low,hr.new⟩
 ·intro t c hc;obtain⟨d,hd,rfl⟩:=ya _ _ _ hc;obtain⟨v,k1,k2⟩:=hr.env t d hd;exact⟨v,k1,Gq hk hB R0 hm d v k2⟩
 ·intro p x hp;obtain⟨Sb,y,hy,rfl⟩:=gr _ _ _ hp;obtain⟨B',m1,m2,m3,m4,m5⟩:=hr.obj p y hy;refine⟨B',m1,m2,λ hn=>?_,by rw[xA];exact m4,λ b hb=>?_⟩
  ·rw[m3 hn];rfl
  ·obtain⟨cur,n1,n2,n3,n4,n5,n6⟩:=m5 b hb;refine⟨cur,n1,n2,n3,n4,by rw[qG];exact n5,?_⟩;rw[qG];exact mI hk hB R0 hm _ _ n6
 ·intro p q x y b hp hq hb Sf;obtain⟨_,x',hx,_⟩:=gr _ _ _ hp;obtain⟨_,y',hy,_⟩:=gr _ _ _ hq;exact hr.inj p q x' y' b hx hy hb Sf
theorem Le.dn {s:St}{o:Nat}{ob:Ob}(ho:assoc s.heap o=some ob)(ht:trees ob.cells=true):Le C s (s.dn o ob):=λ _ _ ⟨σ,hr⟩=>⟨σ,hr.dn ho ht⟩
def St.own (s:St)(t:Nat)(e:TypeId)(sz:Nat):St:={ env:=uN s.env t (.bb s.nx 0 0),heap:=(s.nx,⟨e,sz,[]⟩)::s.heap,nx:=s.nx+1 }
theorem Le.own {s:St}(t:Nat)(e:TypeId)(sz:Nat)(ht:assoc s.env t=some .aj):Le C s (s.own t e sz):=by
 intro a w ⟨σ,hr⟩;obtain⟨h1,h2⟩:=hr.fresh (World.grownBy.refl w none) (ob:=⟨e,sz,[]⟩) (B:=⟨none,0,sz⟩) rfl rfl (λ _=>rfl) (λ b hb=>by cases hb);refine⟨_,h1.pQ,h1.tm,h1.os,h1.tape,h1.output,h1.size,h1.frame,?_,h1.obj,h1.inj,h1.nx,h1.gA,h1.low,h1.new⟩;intro u c hc;simp only[St.own] at hc;rw[fN] at hc;split at hc
 ·rename_i eu;subst eu;rw[ht] at hc;simp only[Option.map_some,Option.some.injEq] at hc;subst hc;obtain⟨v,k1,k2⟩:=hr.env t _ ht;simp only[VR] at k2;subst k2;refine⟨_,k1,?_⟩;simp only[VR];exact⟨_,dN,by simp⟩
 ·exact h1.env u c hc
section
variable {P:Program}{C:Cx}{s:St}{ops:Array Oper}{av:List (Nat×TI)}
theorem T.le {s':St}{c:Code}{Q:Exit->St->Prop}(h:Le C s s')(ht:T P C c s' Q):T P C c s Q:=λ a w hr=>ht a w (h a w hr)
theorem T.post {c:Code}{Q Q':Exit->St->Prop}(h:T P C c s Q')(hq:∀ e s',Q' e s'->∃ T2,Q e T2/\Le C s' T2):T P C c s Q:=λ a w hr=>
 wp_mono (h a w hr) λ e a' w' ⟨s',q,r⟩=>by
  obtain⟨T2,q',l⟩:=hq e s' q;exact⟨T2,q',l a' w' r⟩
theorem TL.le {s':St}{l:List Oper}{K:St->Prop}(h:Le C s s')(ht:TL P C ops l s' K):TL P C ops l s K:=λ a w Q hr hQ=>ht a w Q (h a w hr) hQ
def aa (C:Cx)(I:St->Prop)(s:St):Prop:=∃ s',I s'/\Le C s s'
theorem T.aH {c:Code}{Q:Exit->St->Prop}(I:Nat->St->Prop){n:Nat}(h₀:aa C (I n) s)(round:∀ n s,I n s->T P C c s (fy (λ s'=>∃ m,m<n/\aa C (I m) s') Q)):T P C (.loop c) s Q:=by
 obtain⟨s',h0,l0⟩:=h₀;refine T.le l0 (T.loop I h0 λ n s hi=>T.post (round n s hi) λ e s' q=>?_)
 cases e with
 | normal=>
  obtain⟨m,hm,T2,hi,hl⟩:=q;exact⟨T2,⟨m,hm,hi⟩,hl⟩
 | _=>exact⟨s',q,Le.refl _⟩
def Qg (C:Cx)(av:List (Nat×TI))(f:Func)(r:CV):Exit->St->Prop
 | .normal,s=>aa C (λ s=>bL av f s=some r) s
 | .ret,s=>aa C (λ s=>bL av f s=some r) s
 | _,_=>False
theorem ae.aE (Uu : aD P av) {f : FuncId} {fn : Func} {c : Code} {args : List CV} {r : CV} (hf : P.funcs[f]? = some fn) (hb : fn.body = some c) (hn : (fn.name == "runtime.NumGoroutine") = false)
  (ha:args.length<=fn.ntmps) (ht:tree r=true) (h:∀ C:Cx,C.nt=fn.ntmps->C.n0=0->T P C c (enter args) (Qg C av fn r)):ae P f args r:=
 ae.jv Uu hf hb hn ha ht λ C hC RR=>T.post (h C hC RR) λ e s' q=>by
  cases e with
  | normal=>exact q
  | ret=>exact q
  | _=>exact q.elim
def AP (o:Oper):Bool:=match o.op with
 | .call c=>match c.callee with
  | .builtin _=>false
  | _=>true
 | _=>false
def bY (ops:Array Oper)(s:St)(o:Oper):Option Bool:=match o.guard with
 | none=>some true
 | some (j,want)=>match (ops[j]?).bind (·.dst) with
  | none=>none
  | some t=>ny (assoc s.env t) want
def Bz (av:List (Nat×TI))(nt:Nat)(ops:Array Oper)(K:List Oper->St->Prop):List Oper->St->Prop
 | [],s=>K [] s
 | o::r,s=>if AP o then
   match bY ops s o with
   | some false=>zg (Bz av nt ops K r) (gO av nt ops s o)
   | _=>K (o::r) s
  else zg (Bz av nt ops K r) (gO av nt ops s o)
theorem KD (ht:aD P av){K:St->Prop}:∀ (l:List Oper) (s:St),Bz av C.nt ops (λ r s'=>TL P C ops r s' K) l s->TL P C ops l s K
 | [],_,h=>h
 | o::r,s,h=>by
  have fin:zg (Bz av C.nt ops (λ r s'=>TL P C ops r s' K) r) (gO av C.nt ops s o)->TL P C ops (o::r) s K:=λ h=>by
   cases hs:gO av C.nt ops s o with
   | none=>rw[hs] at h;exact h.elim
   | some s'=>rw[hs] at h;exact TL.step ht hs (KD ht r s' h)
  unfold Bz at h;split at h
  ·split at h
   ·exact fin h
   ·exact h
  ·exact fin h
theorem CX {e:Option CV}{want:Bool}(h:ny e want=some true):e=some (.bool want):=by
 unfold ny at h;split at h
 ·rename_i b;simp only[Option.some.injEq,beq_iff_eq] at h;subst h;rfl
 ·cases h
 ·cases h
def du (av:List (Nat×TI))(nt:Nat)(ops:Array Oper)(s:St)(o:Oper):Option St:=
 if bm nt o.dst then
  match o.guard with
  | none=>(fC av s o.op).map (s.put o.dst)
  | some (j,want)=>match (ops[j]?).bind (·.dst) with
   | none=>none
   | some t=>match ny (assoc s.env t) want with
    | some true=>(fC av s o.op).map (s.put o.dst)
    | some false=>some (s.put o.dst (.cB []))
    | none=>none
 else none
theorem Ky {nt:Nat}{o:Oper}{s':St}(h:du av nt ops s o=some s'):∃ r,OR P av nt ops s o r/\p8 s o.dst r=s':=by
 unfold du at h;split at h
 ·rename_i hd;split at h
  ·rename_i hg;obtain⟨c,hc,rfl⟩:=Option.map_eq_some_iff.1 h;exact⟨some c,⟨hd,.inr ⟨.inl hg,c,rfl,.inl hc⟩⟩,rfl⟩
  ·rename_i j want hg;split at h
   ·cases h
   rename_i t hj;split at h
   ·rename_i hb;obtain⟨c,hc,rfl⟩:=Option.map_eq_some_iff.1 h;exact⟨some c,⟨hd,.inr ⟨.inr ⟨j,want,t,hg,hj,CX hb⟩,c,rfl,.inl hc⟩⟩,rfl⟩
   ·rename_i hb;cases h;exact⟨some (.cB []),⟨hd,.inl ⟨j,want,t,hg,hj,hb,rfl⟩⟩,rfl⟩
   ·cases h
 ·cases h
def Iu (av:List (Nat×TI))(nt:Nat)(ops:Array Oper)(K:List Nat->St->Prop):List Nat->St->Prop
 | [],s=>K [] s
 | i::r,s=>match ops[i]? with
  | none=>False
  | some o=>if AP o then
    match bY ops s o with
    | some false=>zg (Iu av nt ops K r) (du av nt ops s o)
    | _=>K (i::r) s
   else zg (Iu av nt ops K r) (du av nt ops s o)
theorem KE {nt:Nat}{K:St->Prop}:∀ (l:List Nat) (s:St),Iu av nt ops (λ r s'=>TH P av nt ops r s' K) l s->TH P av nt ops l s K
 | [],_,h=>h
 | i::r,s,h=>by
  unfold Iu at h;split at h
  ·exact h.elim
  rename_i o ho;have fin:zg (Iu av nt ops (λ r s'=>TH P av nt ops r s' K) r) (du av nt ops s o)->TH P av nt ops (i::r) s K:=λ h=>by
   cases hs:du av nt ops s o with
   | none=>rw[hs] at h;exact h.elim
   | some s'=>
    rw[hs] at h;obtain⟨x,k1,k2⟩:=Ky (P:=P) hs;exact⟨o,x,ho,k1,by rw[k2];exact KE r s' h⟩
  split at h
  ·split at h
   ·exact fin h
   ·exact h
  ·exact fin h
end
end
section
variable {P:Program}{C:Cx}{s:St}{ops:Array Oper}{av:List (Nat×TI)}{Q:Exit->St->Prop}{x y z:Code}
theorem T.cond_true {c:Operand}(hc:ev s c=some (.bool true))(h:T P C x s Q):T P C (.cond c x y) s Q:=T.cond hc TK
theorem T.cond_false {c:Operand}(hc:ev s c=some (.bool false))(h:T P C y s Q):T P C (.cond c x y) s Q:=T.cond hc TK
theorem T.bu {c:Operand}{b:Bool}(hc:ev s c=some (.bool b))(h1:b=true->T P C x s Q)(h2:b=false->T P C y s Q):T P C (.cond c x y) s Q:=by
 cases b
 ·exact T.cond_false hc (h2 rfl)
 ·exact T.cond_true hc (h1 rfl)
theorem aa.trim {I:St->Prop}(ks os:List Nat)(n:Nat)(h:vZ s ks os n=true)(Uj:C.n0<=n)(hi:I (s.trim ks os n)):aa C I s:=⟨_,hi,Le.trim ks os n h Uj⟩
theorem Le.to {s':St}(ks os:List Nat)(n:Nat)(h:vZ s ks os n=true)(Uj:C.n0<=n)(e:s.trim ks os n=s'):Le C s s':=e ▸ Le.trim ks os n h Uj
theorem aa.here {I:St->Prop}(hi:I s):aa C I s:=⟨s,hi,Le.refl s⟩
theorem aa.le {I:St->Prop}{s':St}(h:Le C s s')(hi:aa C I s'):aa C I s:=by
 obtain⟨T2,h1,h2⟩:=hi;exact⟨T2,h1,h.trans h2⟩
theorem bU.of {c:Call}{g:FuncId}{cs:List CV}{r:CV}(h1:bM s c=some (g,cs))(h2:trees cs=true)(h3:ae P g cs r):bU P s c r:=⟨g,cs,h1,.inl ⟨h2,h3⟩⟩
end
abbrev dc (n:Int):CV:=.int .i64 n
def ints (l:List Int):CV:=.ax (l.map dc) l.length
theorem HG (o:Nat)(cs:List CV):ed o cs=cs.all (aP o):=by
 induction cs with
 | nil=>rfl
 | cons c cs ih=>simp[ed,ih]
theorem aT (n:Nat)(cs:List CV):ba n cs=cs.all (aU n):=by
 induction cs with
 | nil=>rfl
 | cons c cs ih=>simp[ba,ih]
theorem IW (cs:List CV):trees cs=cs.all tree:=by
 induction cs with
 | nil=>rfl
 | cons c cs ih=>simp[trees,ih]
theorem KL (o:Nat)(cells:List CV)(sz:Nat)(cs:List CV):iW o cells sz cs=cs.map (cw o cells sz):=by
 induction cs with
 | nil=>rfl
 | cons c cs ih=>simp[iW,ih]
theorem D9 (cs:List CV):nc cs=cs.all scalar:=by
 induction cs with
 | nil=>rfl
 | cons c cs ih=>simp[nc,ih]
theorem KK (o:Nat)(c:List CV)(z:Nat)(l:List Int):cw o c z (ints l)=ints l:=rfl
theorem ES (o:Nat)(c:List CV)(z:Nat):cw o c z∘ints=ints:=rfl
theorem HW (o:Nat)(c:List CV)(z:Nat):cw o c z∘dc=dc:=rfl
theorem ET (o:Nat)(c:List CV)(z:Nat):cw o c z∘CV.bool=CV.bool:=rfl
theorem ED (o:Nat)(l:List Int):aP o (ints l)=true:=rfl
theorem B7 (o:Nat)(l:List Int):aU o (ints l)=true:=rfl
theorem da (l:List Int):tree (ints l)=true:=rfl
theorem AF (o:Nat):aP o∘ints=λ _=>true:=rfl
theorem Ct (o:Nat):aP o∘dc=λ _=>true:=rfl
theorem AG (o:Nat):aP o∘CV.bool=λ _=>true:=rfl
theorem yk (o:Nat):aU o∘ints=λ _=>true:=rfl
theorem Aq (o:Nat):aU o∘dc=λ _=>true:=rfl
theorem ym (o:Nat):aU o∘CV.bool=λ _=>true:=rfl
theorem BO:tree∘ints=λ _=>true:=rfl
theorem D3:tree∘dc=λ _=>true:=rfl
theorem BP:tree∘CV.bool=λ _=>true:=rfl
theorem EN (l:List Int):eF (ints l)=false:=rfl
theorem E9 (l:List Int):(ints l).cells=[ints l]:=rfl
theorem C3 {α:Type}(o:Nat)(c:List CV)(z:Nat)(f:α->List Int):cw o c z∘ints∘f=ints∘f:=rfl
theorem yq {α:Type}(o:Nat)(f:α->List Int):aP o∘ints∘f=λ _=>true:=rfl
theorem wN {α:Type}(o:Nat)(f:α->List Int):aU o∘ints∘f=λ _=>true:=rfl
theorem z7 {α:Type}(f:α->List Int):tree∘ints∘f=λ _=>true:=rfl
theorem ER {α:Type}(o:Nat)(c:List CV)(z:Nat)(f:α->Int):cw o c z∘dc∘f=dc∘f:=rfl
theorem AE {α:Type}(o:Nat)(f:α->Int):aP o∘dc∘f=λ _=>true:=rfl
theorem yj {α:Type}(o:Nat)(f:α->Int):aU o∘dc∘f=λ _=>true:=rfl
theorem BN {α:Type}(f:α->Int):tree∘dc∘f=λ _=>true:=rfl
theorem yv {α:Type}(o:Nat)(c:List CV)(z:Nat)(f:α->Bool):cw o c z∘CV.bool∘f=CV.bool∘f:=rfl
theorem vq {α:Type}(o:Nat)(f:α->Bool):aP o∘CV.bool∘f=λ _=>true:=rfl
theorem ub {α:Type}(o:Nat)(f:α->Bool):aU o∘CV.bool∘f=λ _=>true:=rfl
theorem wg {α:Type}(f:α->Bool):tree∘CV.bool∘f=λ _=>true:=rfl
attribute [simp] C3 yq wN z7 ER AE yj BN yv vq ub wg
attribute [simp] KK ES HW ET ED B7
attribute [simp] da AF Ct AG yk Aq ym BO D3 BP
attribute [simp] EN E9
@[simp] theorem Ol (k:IntKind)(n:Int):eF (.int k n:CV)=false:=rfl
@[simp] theorem OD (k:IntKind)(n:Int):CV.cells (.int k n:CV)=[(.int k n:CV)]:=rfl
@[simp] theorem Na (b:Bool):eF (.bool b:CV)=false:=rfl
@[simp] theorem NC (b:Bool):CV.cells (.bool b:CV)=[(.bool b:CV)]:=rfl
@[simp] theorem Oj (b:ByteArray):eF (.str b:CV)=false:=rfl
@[simp] theorem OA (b:ByteArray):CV.cells (.str b:CV)=[(.str b:CV)]:=rfl
@[simp] theorem Oi (cs:List CV)(n:Nat):eF (.ax cs n:CV)=false:=rfl
@[simp] theorem Oz (cs:List CV)(n:Nat):CV.cells (.ax cs n:CV)=[(.ax cs n:CV)]:=rfl
@[simp] theorem LK  : eF (.aj:CV)=false:=rfl
@[simp] theorem LQ  : CV.cells (.aj:CV)=[(.aj:CV)]:=rfl
@[simp] theorem M8 (cs:List CV):eF (.cQ cs:CV)=false:=rfl
@[simp] theorem NA (cs:List CV):CV.cells (.cQ cs:CV)=[(.cQ cs:CV)]:=rfl
@[simp] theorem Kk  : eF (.bJ:CV)=false:=rfl
@[simp] theorem Lf  : CV.cells (.bJ:CV)=[(.bJ:CV)]:=rfl
@[simp] theorem P2 (f:FuncId)(cs:List CV):eF (.fn f cs:CV)=false:=rfl
@[simp] theorem Qy (f:FuncId)(cs:List CV):CV.cells (.fn f cs:CV)=[(.fn f cs:CV)]:=rfl
@[simp] theorem LL  : eF (.cE:CV)=false:=rfl
@[simp] theorem LR  : CV.cells (.cE:CV)=[(.cE:CV)]:=rfl
@[simp] theorem Ok (o f n:Nat):eF (.bb o f n:CV)=false:=rfl
@[simp] theorem OC (o f n:Nat):CV.cells (.bb o f n:CV)=[(.bb o f n:CV)]:=rfl
@[simp] theorem M9 (o f:Nat):eF (.aw o f:CV)=false:=rfl
@[simp] theorem NB (o f:Nat):CV.cells (.aw o f:CV)=[(.aw o f:CV)]:=rfl
@[simp] theorem P1 (k:Nat)(es:List (Value×Value)):eF (.mp k es:CV)=false:=rfl
@[simp] theorem Om (cs:List CV):eF (.agg cs)=false:=rfl
@[simp] theorem OE (cs:List CV):CV.cells (.agg cs)=cs:=rfl
@[simp] theorem Oh (cs:List CV):eF (.cB cs)=true:=rfl
@[simp] theorem Oy (cs:List CV):CV.cells (.cB cs)=[.cB cs]:=rfl
attribute [simp] HG aT IW KL D9
attribute [simp] aP aU tree cw scalar one
attribute [simp] assoc jX uN St.put St.del ev C6 sC gQ fI
attribute [simp] ny gO oB I8 fC bm du AP bY Bz Iu zg He wy
attribute [simp] GM Fa arith cun iK Nz dM mb P6 imax xR
attribute [simp] Bh vT ib mS TI.agg uA St.new GF Bm NF lH iJ nN Bj ma dK uE pS
attribute [simp] pW cells? GL E4
attribute [simp] bM M4 zq enter bL lE ql oR pick St.trim vZ St.dn yw vt St.own
attribute [simp] gP n8 Bl
attribute [simp] head?_drop
section
variable {P:Program}{C:Cx}{s:St}{ops:Array Oper}{av:List (Nat×TI)}{Q:Exit->St->Prop}{x y z:Code}
/- simp looks at the state alone, never at the code. -/
@[congr] theorem T_congr {s s':St}{c:Code}(h:s=s'):T P C c s Q=T P C c s' Q:=by rw[h]
@[congr] theorem TL_congr {s s':St}{l:List Oper}{K:St->Prop}(h:s=s'):TL P C ops l s K=TL P C ops l s' K:=by rw[h]
@[congr] theorem TH_congr {nt:Nat}{s s':St}{l:List Nat}{K:St->Prop}(h:s=s'):TH P av nt ops l s K=TH P av nt ops l s' K:=by rw[h]
attribute [simp] fy qQ
def DK (P:Program)(C:Cx)(ops:Array Oper)(K:St->Prop):List Oper->St->Prop
 | [],s=>K s
 | o::r,s=>TL P C ops (o::r) s K
def thK (P:Program)(av:List (Nat×TI))(nt:Nat)(ops:Array Oper)(K:St->Prop):List Nat->St->Prop
 | [],s=>K s
 | i::r,s=>TH P av nt ops (i::r) s K
attribute [simp] DK thK
theorem TL.go' (ht:aD P av){K:St->Prop}{l:List Oper}(h:Bz av C.nt ops (DK P C ops K) l s):TL P C ops l s K:=by
 refine KD ht l s ?_;have e:DK P C ops K=DK P C ops K:=rfl;revert h;have:∀ (l:List Oper) (s:St),Bz av C.nt ops (DK P C ops K) l s->Bz av C.nt ops (λ r s'=>TL P C ops r s' K) l s:=by
  intro l
  induction l with
  | nil=>intro s h;exact TL.nil h
  | cons o r ih=>
   intro s h;have fin:zg (Bz av C.nt ops (DK P C ops K) r) (gO av C.nt ops s o)->zg (Bz av C.nt ops (λ r s'=>TL P C ops r s' K) r) (gO av C.nt ops s o):=λ h=>by
    cases hs:gO av C.nt ops s o with
    | none=>rw[hs] at h;exact h.elim
    | some s'=>rw[hs] at h;exact ih s' h
   unfold Bz at h |-;split
   ·rename_i hc;rw[if_pos hc] at h;split
    ·rename_i hg;rw[hg] at h;exact fin h
    ·rename_i hg;split at h
     ·rename_i YR;exact absurd YR hg
     ·exact h
   ·rename_i hc;rw[if_neg hc] at h;exact fin h
 exact this l s
theorem TH.go' {nt:Nat}{K:St->Prop}{l:List Nat}(h:Iu av nt ops (thK P av nt ops K) l s):TH P av nt ops l s K:=by
 refine KE l s ?_;revert h;have:∀ (l:List Nat) (s:St),Iu av nt ops (thK P av nt ops K) l s->Iu av nt ops (λ r s'=>TH P av nt ops r s' K) l s:=by
  intro l
  induction l with
  | nil=>intro s h;exact h
  | cons i r ih=>
   intro s h;unfold Iu at h |-;split
   ·rename_i hi;rw[hi] at h;exact h
   ·rename_i o hi;rw[hi] at h;have fin:zg (Iu av nt ops (thK P av nt ops K) r) (du av nt ops s o)->zg (Iu av nt ops (λ r s'=>TH P av nt ops r s' K) r) (du av nt ops s o):=λ h=>by
     cases hs:du av nt ops s o with
     | none=>rw[hs] at h;exact h.elim
     | some s'=>rw[hs] at h;exact ih s' h
    simp only at h;split
    ·rename_i hc;rw[if_pos hc] at h;split
     ·rename_i hg;rw[hg] at h;exact fin h
     ·rename_i hg;split at h
      ·rename_i YR;exact absurd YR hg
      ·exact h
    ·rename_i hc;rw[if_neg hc] at h;exact fin h
 exact this l s
theorem T.go' (ht:aD P av){id:Nat}{l:List Oper}(h:Bz av C.nt l.toArray (DK P C l.toArray (Q .normal)) l s):T P C (.region id l.toArray false) s Q:=T.region (TL.go' ht h)
theorem T.cut (J:St->Prop)(h:T P C x s (fy (aa C J) Q))(k:∀ s',J s'->T P C y s' Q):T P C (.seq x y) s Q:=
 T.seq (T.post h λ e s' q=>by
  cases e with
  | normal=>obtain⟨T2,hj,hl⟩:=q;exact⟨T2,k T2 hj,hl⟩
  | _=>exact⟨s',q,Le.refl _⟩)
end
section
variable {P:Program}{C:Cx}{s:St}
def zt (l:Nat)(J:St->Prop)(Q:Exit->St->Prop):Exit->St->Prop
 | .goto m,s=>m=l/\J s
 | e,s=>Q e s
@[simp] theorem PZ (l m:Nat)(J:St->Prop)(Q:Exit->St->Prop)(s:St):zt l J Q (.goto m) s=(m=l/\J s):=rfl
@[simp] theorem M6 (l:Nat)(J:St->Prop)(Q:Exit->St->Prop)(s:St):zt l J Q .normal s=Q .normal s:=rfl
@[simp] theorem Ry (l:Nat)(J:St->Prop)(Q:Exit->St->Prop)(s:St):zt l J Q .ret s=Q .ret s:=rfl
@[simp] theorem P0 (l m:Nat)(J:St->Prop)(Q:Exit->St->Prop)(s:St):zt l J Q (.exit m) s=Q (.exit m) s:=rfl
theorem T.Mk {c rest:Code}{Q:Exit->St->Prop}(l:Nat)(I:Nat->St->Prop)(hf:findLabel c l=some rest)(first:T P C c s (zt l (λ s'=>∃ m,aa C (I m) s') Q))
  (pass:∀ n s,I n s->T P C rest s (zt l (λ s'=>∃ m,m<n/\aa C (I m) s') Q)):T P C (.scope c) s Q:=λ a w hr=>by
 classical
 let J:Nat->Act->World->Prop:=λ n a w=>∃ s,I n s/\Rel C s a w
 have hx:∀ a w,(∃ n,J n a w)->∃ n,J n a w/\∀ m,J m a w->n<=m:=λ a w ⟨n,hn⟩=>by
  induction n using Nat.strongRecOn with
  | _ n ih=>
   by_cases h:∃ m,m<n/\J m a w
   ·obtain⟨m,hm,hi⟩:=h;exact ih m hm hi
   ·exact⟨n,hn,λ m hm=>Nat.le_of_not_lt λ RS=>h ⟨m,RS,hm⟩⟩
 let μ:Act->World->Nat:=λ a w=>if h:∃ n,J n a w then (hx a w h).choose else 0
 have hμ:∀ a w (h:∃ n,J n a w),J (μ a w) a w/\∀ m,J m a w->μ a w<=m:=λ a w h=>by
  simp only[μ,dif_pos h];exact (hx a w h).choose_spec
 have up:∀ {n s' a' w'},aa C (I n) s'->Rel C s' a' w'->J n a' w':=λ⟨T2,hi,hl⟩ hr=>⟨T2,hi,hl _ _ hr⟩;refine wp_scope_jumps l (λ a w=>∃ n,J n a w) μ hf (wp_mono (first a w hr) λ e a' w' q=>?_) λ a w hJ=>?_
 ·obtain⟨s',q,So⟩:=q
  cases e with
  | goto m=>obtain⟨e,m,hm⟩:=q;exact⟨e,m,up hm So⟩
  | _=>exact⟨s',q,So⟩
 ·obtain⟨s1,hi,Tk⟩:=(hμ a w hJ).1;refine wp_mono (pass (μ a w) s1 hi a w Tk) λ e a' w' q=>?_;obtain⟨s',q,So⟩:=q
  cases e with
  | goto m=>
   obtain⟨e,m,hm,hi⟩:=q;exact⟨e,⟨m,up hi So⟩,Nat.lt_of_le_of_lt ((hμ a' w' ⟨m,up hi So⟩).2 m (up hi So)) hm⟩
  | _=>exact⟨s',q,So⟩
end
def KX (C:Cx)(av:List (Nat×TI))(f:Func)(R:CV->St->Prop):Exit->St->Prop
 | .normal,s=>aa C (λ s'=>∃ r,bL av f s'=some r/\R r s') s
 | .ret,s=>aa C (λ s'=>∃ r,bL av f s'=some r/\R r s') s
 | _,_=>False
def Body (P:Program)(av:List (Nat×TI))(f:FuncId)(args:List CV)(H:List (Nat×Ob))(n:Nat)(R:CV->St->Prop):Prop:=
 ∃ fn c, P.funcs[f]? = some fn /\ fn.body = some c /\ (fn.name == "runtime.NumGoroutine") = false /\ args.length <= fn.ntmps /\
  ∀ C:Cx,C.nt=fn.ntmps->C.n0=n->T P C c ⟨(enter args).env,H,n⟩ (KX C av fn R)
theorem Body.jv {P : Program} {av : List (Nat × TI)} {f : FuncId} {fn : Func} {c : Code} {args : List CV} {H : List (Nat × Ob)} {n : Nat} {R : CV -> St -> Prop} (hf : P.funcs[f]? = some fn) (hb : fn.body = some c) (hn : (fn.name == "runtime.NumGoroutine") = false)
  (ha:args.length<=fn.ntmps) (h:∀ C:Cx,C.nt=fn.ntmps->C.n0=n->T P C c ⟨(enter args).env,H,n⟩ (KX C av fn R)):Body P av f args H n R:=⟨fn,c,hf,hb,hn,ha,h⟩
section
variable {P:Program}{C:Cx}{σ σ':Nat->Option OB}{s s':St}{a a':Act}{w w':World}{ops:Array Oper}{av:List (Nat×TI)}
def Cx.inner (C:Cx)(w:World)(σ:Nat->Option OB)(H:List (Nat×Ob))(nt:Nat)(hF:LU w C.F (λ b=>∃ o ob,assoc H o=some ob/\a7 σ o=some b))(n:Nat):Cx:=
 ⟨w,C.F,λ b=>∃ o ob,assoc H o=some ob/\a7 σ o=some b,hF,nt,σ,n⟩
theorem ug (h:aQ C σ s a w){b:Nat}(hb:∃ o ob,assoc s.heap o=some ob/\a7 σ o=some b):b<w.heap.size/\¬ C.F b/\(C.own b\/C.w0.heap.size<=b):=by
 obtain⟨o,ob,ho,hb⟩:=hb;obtain⟨B,m1,_,_,_,m5⟩:=h.obj o ob ho;obtain⟨cur,n1,_,n3,n4,_⟩:=m5 b ZF;exact⟨(Array.getElem?_eq_some_iff.1 n1).1,n3,n4⟩
theorem aQ.inner (h:aQ C σ s a w)(hF:LU w C.F (λ b=>∃ o ob,assoc s.heap o=some ob/\a7 σ o=some b))(nt:Nat){args:List CV}{vs:List Value}(hv:a6 w (FB C σ s.heap) σ args vs)(ha:args.length<=nt) :
  aQ (C.inner w σ s.heap nt hF s.nx) σ ⟨(enter args).env,s.heap,s.nx⟩ { tmps:=vs.toArray++Array.replicate (nt-vs.toArray.size) undef,defers:=[] } w:=by
 have hl:=a6.length _ _ hv;refine⟨rfl,by simp[Cx.inner];omega,rfl,rfl,rfl,Nat.le_refl _,λ _ _ _=>rfl,?_,?_,h.inj,h.nx,λ _ _=>rfl,Nat.le_refl _,λ o B b ho hB _=>(by rw[h.nx o ho] at hB;cases hB)⟩
 ·intro t c hc;obtain⟨_,h2⟩:=gD args 0 t c hc;obtain⟨v,h3,h4⟩:=a6.get _ _ hv t c yC;refine⟨v,?_,h4⟩;have RS:=(List.getElem?_eq_some_iff.1 h3).1;simp only;rw[Array.getElem?_append_left (by simpa using RS)]
  simpa using h3
 ·intro o ob ho;obtain⟨B,m1,m2,m3,m4,m5⟩:=h.obj o ob ho;refine⟨B,m1,m2,m3,m4,λ b hb=>?_⟩;obtain⟨cur,n1,n2,n3,n4,n5,n6⟩:=m5 b hb;exact⟨cur,n1,n2,n3,.inl ⟨o,ob,ho,by simp[a7,m1,hb]⟩,n5,n6⟩
theorem aQ.back (h:aQ C σ s a w){hF:LU w C.F (λ b=>∃ o ob,assoc s.heap o=some ob/\a7 σ o=some b)}{nt:Nat}(h':aQ (C.inner w σ s.heap nt hF s.nx) σ' s' a' w'):aQ C σ' ⟨s.env,s'.heap,s'.nx⟩ a w':=by
 have Sd:∀ b,b<w.heap.size->(¬ ∃ o ob,assoc s.heap o=some ob/\a7 σ o=some b)->w'.heap[b]? = w.heap[b]?:=λ b hb hn=>h'.frame b hb hn;have Uy:∀ o ob b,assoc s'.heap o=some ob->a7 σ' o=some b->(∃ o ob,assoc s.heap o=some ob/\a7 σ o=some b)\/w.heap.size<=b:=λ o ob b ho hb=>by
  obtain⟨B,m1,_,_,_,m5⟩:=h'.obj o ob ho;obtain⟨cur,_,_,_,n4,_⟩:=m5 b ZF;exact n4
 refine⟨h.pQ,h.tm,h'.os.trans h.os,h'.tape.trans h.tape,h'.output.trans h.output,Nat.le_trans h.size h'.size,?_,?_,?_,h'.inj,h'.nx,λ o ho=>(h'.gA o (Nat.lt_of_lt_of_le ho h.low)).trans (h.gA o ho),Nat.le_trans h.low h'.low,λ o B b ho hB hb=>?_⟩
 ·intro b hb SX;rw[Sd b (Nat.lt_of_lt_of_le hb h.size) λ hx=>?_]
  ·exact h.frame b hb SX
  ·rcases (ug h hx).2.2 with h1 | h1
   ·exact SX h1
   ·omega
 ·intro t c hc;obtain⟨v,k1,k2⟩:=h.env t c hc;refine⟨v,k1,VR.bG ⟨λ ad u hf hu=>?_,λ r _ hf hu _=>?_⟩ _ _ (λ o ho=>?_) k2⟩
  case refine_3=>
   refine h'.gA o (Nat.lt_of_not_le λ hle=>?_);obtain⟨B,hB⟩:=VR.refs _ _ o k2 ho;rw[h.nx o hle] at hB;cases hB
  ·have RS:=World.block_lt_of_cell? w ad hu;have SX:¬ ∃ o ob,assoc s.heap o=some ob/\a7 σ o=some ad.block:=λ hx=>hf (.inr hx);refine⟨by rw[World.cell?_of_block (w:=w) (Sd ad.block RS SX)];exact hu,?_⟩;rintro (hx | ⟨o,ob,ho,hb⟩)
   ·exact hf (.inl hx)
   ·rcases Uy o ob _ ho hb with h1 | h1
    ·exact SX h1
    ·omega
  ·have RS:=(Array.getElem?_eq_some_iff.1 hu).1;have SX:¬ ∃ o ob,assoc s.heap o=some ob/\a7 σ o=some r:=λ hx=>hf (.inr hx);refine⟨by rw[Sd r RS SX];exact hu,?_⟩;rintro (hx | ⟨o,ob,ho,hb⟩)
   ·exact hf (.inl hx)
   ·rcases Uy o ob _ ho hb with h1 | h1
    ·exact SX h1
    ·omega
 ·intro o ob ho;obtain⟨B,m1,m2,m3,m4,m5⟩:=h'.obj o ob ho;refine⟨B,m1,m2,m3,m4,λ b hb=>?_⟩;obtain⟨cur,n1,n2,n3,n4,n5,n6⟩:=m5 b hb;refine⟨cur,n1,n2,n3,?_,n5,n6⟩;rcases n4 with n4 | n4
  ·exact (ug h n4).2.2
  ·exact .inr (Nat.le_trans h.size n4)
 ·rcases Nat.lt_or_ge o s.nx with RS | VV
  ·rw[h'.gA o RS] at hB;exact h.new o B b ho hB hb
  ·rcases h'.new o B b VV hB hb with n4 | n4
   ·exact (ug h n4).2.2
   ·exact .inr (Nat.le_trans h.size n4)
end
end Go.Can
