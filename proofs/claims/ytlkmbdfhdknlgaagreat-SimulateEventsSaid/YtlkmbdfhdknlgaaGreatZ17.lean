/- The memory put in order: w -/
import Derived.Test.YtlkmbdfhdknlgaaGreatZ16
import Derived.Test.YtlkmbdfhdknlgaaGreatProg
import Derived.KernelRfl
namespace Go.Can
open Go.RowKit List
section
variable {P:Program}{C:Cx}{s:St}
def dZ (m:List (Nat×Nat))(n p:Nat):Nat:=match assoc m p with
 | some t=>t
 | none=>p+n
def mg (m:List (Nat×Nat)):CV->Bool
 | .bb p _ _=>(assoc m p).isSome
 | .aw p _=>(assoc m p).isSome
 | .mp p _=>(assoc m p).isSome
 | c=>tree c
def oe (m:List (Nat×Nat)):CV->Bool
 | .agg cs=>cs.all (mg m)
 | .cB cs=>cs.all (mg m)
 | c=>mg m c
theorem Kt {m:List (Nat×Nat)}{c:CV}(h:mg m c=true)(o:Nat)(ho:aP o c=false):(assoc m o).isSome=true:=by
 have ht:tree c=true->False:=λ ht=>by rw[m9 o c ht] at ho;cases ho
 cases c with
 | bb p _ _=>
  simp only[aP,bne_eq_false_iff_eq] at ho;subst ho;exact h
 | aw p _=>
  simp only[aP,bne_eq_false_iff_eq] at ho;subst ho;exact h
 | mp p _=>
  simp only[aP,bne_eq_false_iff_eq] at ho;subst ho;exact h
 | _=>exact (ht h).elim
theorem vN {m:List (Nat×Nat)}:∀ {cs:List CV},cs.all (mg m)=true->∀ o,ed o cs=false->(assoc m o).isSome=true
 | [],_,o,ho=>by simp[ed] at ho
 | c::cs,h,o,ho=>by
  simp only[all_cons,Bool.and_eq_true] at h;simp only[ed,Bool.and_eq_false_iff] at ho;rcases ho with ho | ho
  ·exact Kt h.1 o ho
  ·exact vN h.2 o ho
theorem P5 {m:List (Nat×Nat)}{c:CV}(h:oe m c=true)(o:Nat)(ho:aP o c=false):(assoc m o).isSome=true:=by
 cases c with
 | agg cs=>exact vN h o yCh
 | cB cs=>exact vN h o yCh
 | _=>exact Kt (m:=m) (by simpa only[oe] using h) o ho
theorem au {cs:List CV}(h:trees cs=true)(m:List (Nat×Nat)):cs.all (mg m)=true:=all_eq_true.2 λ c hc=>by
 have:=mo h c hc;cases c<;>first | exact this | simp[tree] at this
def cI (s:St)(ks:List Nat)(m:List (Nat×Nat))(_k _n:Nat):Bool:=
 (pick s.env ks).all (λ x=>oe m x.2) && ((pick s.heap (m.map (·.1))).all λ x=>x.2.cells.all (mg m))
def xk (m:List (Nat×Nat))(k n:Nat):Bool:=
 decide (m.map (·.2)).Nodup && decide (m.map (·.1)).Nodup && decide (k<=n) && m.all λ x=>decide (x.2<n) && (x.1 == x.2 || decide (k<=x.2))
theorem gk {m:List (Nat×Nat)}{p t:Nat}(h:assoc m p=some t):(p,t)∈m:=bx m p t h
theorem sN:∀ {m:List (Nat×Nat)} {p t:Nat},(m.map (·.1)).Nodup->(p,t)∈m->assoc m p=some t
 | [],_,_,_,h=>by cases h
 | (a,b)::r,p,t,hn,h=>by
  simp only[map_cons,nodup_cons] at hn;simp only[assoc];rcases mem_cons.1 h with e | h
  ·cases e;rw[if_pos rfl]
  ·rw[if_neg,sN hn.2 h];intro e;subst e;exact hn.1 (mem_map_of_mem (f:=(·.1)) h)
theorem Ag:∀ {m:List (Nat×Nat)} {p q t:Nat},(m.map (·.2)).Nodup->(p,t)∈m->(q,t)∈m->p=q
 | [],_,_,_,_,h,_=>by cases h
 | (a,b)::r,p,q,t,hn,h,h'=>by
  simp only[map_cons,nodup_cons] at hn;rcases mem_cons.1 h with e | h1<;>rcases mem_cons.1 h' with e' | h2
  ·cases e;cases e';rfl
  ·cases e;exact (hn.1 (mem_map_of_mem (f:=(·.2)) h2)).elim
  ·cases e';exact (hn.1 (mem_map_of_mem (f:=(·.2)) h1)).elim
  ·exact Ag hn.2 h1 h2
theorem Mo {m:List (Nat×Nat)}{k n:Nat}(h:xk m k n=true):∀ x y,dZ m n x=dZ m n y->x=y:=by
 simp only[xk,Bool.and_eq_true,decide_eq_true_eq,all_eq_true,Bool.or_eq_true,beq_iff_eq] at h;obtain⟨⟨⟨h1,h2⟩,h3⟩,h4⟩:=h;intro x y UN;unfold dZ at UN
 cases hx:assoc m x with
 | none=>
  cases hy:assoc m y with
  | none=>simp only[hx,hy] at UN;omega
  | some t=>
   have:=(h4 _ (gk hy)).1;simp only[hx,hy] at UN;omega
 | some t=>
  have:=(h4 _ (gk hx)).1
  cases hy:assoc m y with
  | none=>simp only[hx,hy] at UN;omega
  | some t'=>
   simp only[hx,hy] at UN;subst UN;exact Ag h1 (gk hx) (gk hy)
def wz (m:List (Nat×Nat))(q:Nat):Option Nat:=(m.find? λ x=>x.2 == q).map (·.1)
theorem Jb {m:List (Nat×Nat)}(hn:(m.map (·.2)).Nodup){p t:Nat}(h:(p,t)∈m):wz m t=some p:=by
 unfold wz
 cases hf:m.find? λ x=>x.2 == t with
 | none=>
  rw[find?_eq_none] at hf;exact (hf _ h xr).elim
 | some x=>
  obtain⟨a,b⟩:=x;have h1:=mem_of_find?_eq_some hf;have h2:=find?_some hf;simp only[beq_iff_eq] at h2;subst h2;simp only[Option.map_some];rw[Ag hn h1 h]
theorem yS {m:List (Nat×Nat)}{p t:Nat}(h:wz m t=some p):(p,t)∈m:=by
 unfold wz at h;obtain⟨⟨a,b⟩,h1,h2⟩:=Option.map_eq_some_iff.1 h;have h3:=mem_of_find?_eq_some h1;have h4:=find?_some h1;simp only[beq_iff_eq] at h4;subst h4;subst h2;exact h3
theorem Le.norm (ks:List Nat)(m:List (Nat×Nat))(k n:Nat)(hm:xk m k n=true)(hs:(m.all λ x=>(assoc s.heap x.1).isSome || decide (k<=x.1) || x.1 == x.2)=true)(hk:cI s ks m k n=true)(Uj:C.n0<=k) :
  Le C s ⟨cm (dZ m n) (pick s.env ks),bC (dZ m n) (pick s.heap (m.map (·.1))),n⟩:=by
 intro a w ⟨σ,hr⟩;have hi:=Mo hm;have XQ:=hm;simp only[xk,Bool.and_eq_true,decide_eq_true_eq,all_eq_true,Bool.or_eq_true,beq_iff_eq] at XQ;obtain⟨⟨⟨h1,h2⟩,h3⟩,h4⟩:=XQ;simp only[cI,Bool.and_eq_true] at hk;obtain⟨Yj,hkh⟩:=hk;rw[all_eq_true] at Yj hkh hs
 obtain⟨σ',hσ⟩:∃ σ':Nat->Option OB,∀ q,σ' q=if q<C.n0 then σ q else match wz m q with
   | some o=>σ o
   | none=>none:=⟨_,λ _=>rfl⟩
 have s1:∀ o t,assoc m o=some t->σ' (dZ m n o)=σ o:=λ o t ho=>by
  have Tr:=gk ho;have e:dZ m n o=t:=by unfold dZ;rw[ho]
  rw[e,hσ];split
  ·rename_i RS;rcases (h4 _ Tr).2 with h | h
   ·simp only at h;rw[h]
   ·simp only at h;omega
  ·rw[Jb h1 Tr]
 have s2:∀ o,(assoc m o).isSome=true->σ' (dZ m n o)=σ o:=λ o ho=>by
  obtain⟨t,ht⟩:=Option.isSome_iff_exists.1 ho;exact s1 o t ht
 have U7:∀ o ob,assoc (pick s.heap (m.map (·.1))) o=some ob->assoc s.heap o=some ob/\(assoc m o).isSome=true/\ob.cells.all (mg m)=true:=λ o ob ho=>by
  refine⟨fj _ _ _ _ ho,?_,hkh _ (bx _ _ _ ho)⟩;have Tr:=bx _ _ _ ho;have:∀ (ks:List Nat) (x:Nat×Ob),x∈pick s.heap ks->x.1∈ks:=by
   intro ks
   induction ks with
   | nil=>intro x hx;simp[pick] at hx
   | cons a r ih=>
    intro x hx;simp only[pick] at hx;split at hx
    ·rcases mem_cons.1 hx with e | hx
     ·subst e;exact mem_cons_self
     ·exact mem_cons_of_mem _ (ih x hx)
    ·exact mem_cons_of_mem _ (ih x hx)
  have SS:=this _ _ Tr;simp only[mem_map] at SS;obtain⟨⟨p,t⟩,hp,rfl⟩:=SS;simp only;rw[sN h2 hp];rfl
 have Td:∀ o,(assoc m o).isSome=true->a7 σ' (dZ m n o)=a7 σ o:=λ o ho=>by unfold a7;rw[s2 o ho]
 have hF:∀ b,FB C σ' (bC (dZ m n) (pick s.heap (m.map (·.1)))) b->FB C σ s.heap b:=by
  rintro b (hb | ⟨q,ob,hq,hb⟩)
  ·exact .inl hb
  ·obtain⟨o,rfl⟩:=eY _ q ob hq;rw[cz hi] at hq;obtain⟨R9,ho,_⟩:=Option.map_eq_some_iff.1 hq;obtain⟨g1,g2,_⟩:=U7 o R9 ho;exact .inr ⟨o,R9,g1,by rwa [Td o g2] at hb⟩
 have hkp:cO w w (FB C σ s.heap) (FB C σ' (bC (dZ m n) (pick s.heap (m.map (·.1))))):=cO.same hF;refine⟨σ',hr.pQ,hr.tm,hr.os,hr.tape,hr.output,hr.size,hr.frame,?_,?_,?_,?_,?_,Nat.le_trans Uj h3,?_⟩
 ·intro t c hc;simp only[gm] at hc;obtain⟨d,hd,rfl⟩:=Option.map_eq_some_iff.1 hc;obtain⟨v,k1,k2⟩:=hr.env t d (fj _ _ _ _ hd);refine⟨v,k1,(VR.dq _ d v).2 (VR.bG hkp _ _ (λ o ho=>s2 o (P5 (Yj _ (bx _ _ _ hd)) o ho)) k2)⟩
 ·intro q ob hq;obtain⟨o,rfl⟩:=eY _ q ob hq;simp only[cz hi] at hq;obtain⟨R9,ho,rfl⟩:=Option.map_eq_some_iff.1 hq;obtain⟨g1,g2,g3⟩:=U7 o R9 ho;obtain⟨B,m1,m2,m3,m4,m5⟩:=hr.obj o R9 g1;refine⟨B,by rw[s2 o g2];exact m1,m2,λ hb=>by simp only[bh,m3 hb];rfl,by simp only[bh,gE];exact m4,λ b hb=>?_⟩;obtain⟨cur,n1,n2',n3,n4,n5,n6⟩:=m5 b hb;simp only[bh,gN];exact⟨cur,n1,n2',n3,n4,n5,(a6.dq _ _ _).2 (a6.bG hkp _ _ (λ p hp=>s2 p (vN g3 p hp)) n6)⟩
 ·intro q q' ob R9 b hq T6 hx TM;obtain⟨o,rfl⟩:=eY _ q ob hq;obtain⟨o',rfl⟩:=eY _ q' R9 T6;simp only[cz hi] at hq T6;obtain⟨x,ho,_⟩:=Option.map_eq_some_iff.1 hq;obtain⟨x',Sr,_⟩:=Option.map_eq_some_iff.1 T6;obtain⟨g1,g2,_⟩:=U7 o x ho;obtain⟨g1',g2',_⟩:=U7 o' x' Sr;rw[Td o g2] at hx;rw[Td o' g2'] at TM;rw[hr.inj o o' x x' b g1 g1' hx TM]
 ·intro q hq;simp only at hq;rw[hσ,if_neg yA]
  cases hsq:wz m q with
  | none=>rfl
  | some o=>
   have:=(h4 _ (yS hsq)).1;simp only at this;omega
 ·intro q hq;rw[hσ,if_pos hq];exact hr.gA q hq
 ·intro q B b hq hB hb;rw[hσ,if_neg yA] at hB
  cases hsq:wz m q with
  | none=>rw[hsq] at hB;cases hB
  | some o=>
   rw[hsq] at hB;simp only at hB;have hex:=hs _ (yS hsq);simp only[Bool.or_eq_true,decide_eq_true_eq,beq_iff_eq] at hex;rcases hex with (hex | hex) | hex
   rotate_left
   ·exact hr.new o B b (Nat.le_trans Uj hex) hB hb
   ·subst hex;exact hr.new o B b yA hB hb
   obtain⟨ob,TU⟩:=Option.isSome_iff_exists.1 hex;obtain⟨B',m1,_,_,_,m5⟩:=hr.obj o ob TU;rw[m1] at hB;cases hB;obtain⟨cur,_,_,_,n4,_⟩:=m5 b hb;exact n4
variable {ops:Array Oper}{av:List (Nat×TI)}{W:List uI}{nt N:Nat}{dyn:List (Nat×Nat)}{K:St->Prop}{i:Nat}{r:List Nat}{res:Nat->Er}
def sH (ks eT:List Nat)(m:Nat)(H1:List (Nat×Ob)):Bool:=(H1.all λ x=>ks.contains x.1 || (decide (m<=x.1) && eT.contains x.1)) && eT.all λ p=>ks.contains p || (assoc H1 p).isSome
theorem RX.xW {o:Oper}{cl:Call}{g:FuncId}{args:List CV}{r0:CV}{H H1:List (Nat×Ob)}(ns ks eT:List Nat)(n d:Nat)(hb:Body P av g args H n (jC r0 H1 (n+d)))(hl:ns.length=n)(hk:Ip ns s.nx=true)(hi:ops[i]? = Option.some o)(hd:bm nt o.dst=true)(hg:bY ops s o=Option.some true)(hu:ct o=Option.some cl)
  (Se:bM s cl=Option.some (g,aX (bS ns s.nx) args)) (hp:eZ s.heap ks=Option.some (bC (bS ns s.nx) H)) (ha:ba n args=true) (hH:dh n H=true) (ht:tree r0=true) (hv:Bi dyn res i ks=true) (hc:sH ks eT s.nx (bC (bS ns s.nx) H1)=true)
  (hs:∀ p∈ks,p∉eT->assoc (bC (bS ns s.nx) H1) p=assoc (bC (bS ns s.nx) H) p)
  (hK:vu W dyn res i (iN r0 ks eT d (bC (bS ns s.nx) H1))/\nh av W nt ops N dyn (Ec P av W nt ops N dyn K) r (note dyn res i (iN r0 ks eT d (bC (bS ns s.nx) H1))) (St.put ⟨s.env,bC (bS ns s.nx) H1++ep s.heap ks,s.nx+d⟩ o.dst r0)):RX P av W nt ops N dyn K (i::r) res s:=by
 simp only[sH,Bool.and_eq_true,all_eq_true,Bool.or_eq_true,decide_eq_true_eq] at hc;refine RX.body ks eT d hi hd hg hu Se hp (hb.retN ns hl hk ha hH ht) hv ?_ ?_
 ·rintro v s1 ⟨_,h2,h3⟩;refine⟨h3,λ p ob hpo=>?_,λ p gZ=>?_,λ p gZ=>?_⟩
  ·rw[h2] at hpo;rcases hc.1 _ (bx _ _ _ hpo) with h | h
   ·exact .inl TK
   ·exact .inr h.1
  ·rw[h2];by_cases hm:p∈ks
   ·exact hs p hm gZ
   ·obtain⟨i1,_⟩:=j9 hp;have e1:assoc (bC (bS ns s.nx) H) p=none:=by
     cases h4:assoc (bC (bS ns s.nx) H) p with
     | none=>rfl
     | some y=>exact (hm (i1 p y h4).1).elim
    have e2:assoc (bC (bS ns s.nx) H1) p=none:=by
     cases h4:assoc (bC (bS ns s.nx) H1) p with
     | none=>rfl
     | some y=>
      rcases hc.1 _ (bx _ _ _ h4) with h | h
      ·exact (hm TK).elim
      ·exact (gZ (by simpa using h.2)).elim
    rw[e1,e2]
  ·rw[h2];rcases hc.2 p gZ with h | h
   ·exact .inl TK
   ·exact .inr h
 ·rintro v s1 ⟨h1,h2,_⟩;subst h1;rw[h2];exact hK
attribute [simp] sH iN
end
section
variable {P:Program}{C:Cx}{σ:Nat->Option OB}{s:St}{a:Act}{w:World}{ops:Array Oper}{av:List (Nat×TI)}
theorem Body.N6 {f:FuncId}{args:List CV}{H H1:List (Nat×Ob)}{n m d:Nat}{r0:CV}(l:List Nat)(hl:l.length=n)(h:Body P av f args H n (jC r0 H1 (n+d)))(hk:Ip l m=true)(hr:ba n args=true)(hH:dh n H=true) :
  Body P av f (aX (bS l m) args) (bC (bS l m) H) m (jC (cN (bS l m) r0) (bC (bS l m) H1) (m+d)):=by
 subst hl;refine (Body.grow (F0 hk) (EB hk) (λ p hp=>if_neg yA) h hr hH λ r s h=>h.2.2).ret λ r s ⟨r1,s1,h1,h2,h3⟩=>?_;obtain⟨k1,k2,k3⟩:=h1;subst h3;rw[h2,k1,k2];exact⟨rfl,rfl,rfl⟩
theorem TL.eQ (Uu:aD P av){o:Oper}{l:List Oper}{c:Call}{g:FuncId}{args:List CV}{K:St->Prop}{r0:CV}{H H1:List (Nat×Ob)}(ns ks:List Nat)(n d:Nat)(hb:Body P av g args H n (jC r0 H1 (n+d)))(hl:ns.length=n)(hk:Ip ns s.nx=true)(hd:bm C.nt o.dst=true)(hg:bY ops s o=Option.some true)(ho:o.op=.call c)(Se:bM s c=Option.some (g,aX (bS ns s.nx) args))
  (hp:eZ s.heap ks=Option.some (bC (bS ns s.nx) H)) (ha:ba n args=true) (hH:dh n H=true) (hx:nU ks s.nx (bC (bS ns s.nx) H1) (ep s.heap ks)=true)
  (hK:TL P C ops l (St.put ⟨s.env,bC (bS ns s.nx) H1++ep s.heap ks,s.nx+d⟩ o.dst (cN (bS ns s.nx) r0)) K):TL P C ops (o::l) s K:=by
 intro a w Q hr hQ;have hw:=eU hr hg;obtain⟨σ,hr⟩:=hr;unfold wpList;rw[if_pos hw];refine .inl ?_;have Sf:=hb.N6 ns hl hk ha hH;have Zs:kW P g:=by
  obtain⟨fn,code,hf,Tm,SW,_⟩:=Sf;exact⟨fn,hf,SW,by simp[Tm]⟩
 simp only[nU,Bool.and_eq_true,all_eq_true,Bool.or_eq_true,decide_eq_true_eq] at hx;refine sJ Uu (pj.of hp) (qu.value ho Se Zs) Sf ?_ hr _ _ ?_
 ·rintro r s1 ⟨_,h1,_⟩ p ob R9 h2 h3;rw[h1] at h2;have m3:=hx.2 _ (bx _ _ _ h3);rw[fA] at h3;rcases hx.1 _ (bx _ _ _ h2) with hm | hm
  ·rw[if_pos (by simpa using hm)] at h3;cases h3
  ·simp only at m3 hm;omega
 ·rintro r s1 v w' σ' ⟨h1,h2,h3⟩ So hv _;subst h1;rw[h2,h3] at So;rw[h2] at hv;refine hK _ w' Q ⟨σ',So.put ?_ hv⟩ hQ;intro t e;rw[So.tm];rw[e] at hd
  simpa [bm] using hd
variable {W:List uI}{nt N:Nat}{dyn:List (Nat×Nat)}{K:St->Prop}{i:Nat}{r:List Nat}{res:Nat->Er}
theorem RX.eQ {o:Oper}{cl:Call}{g:FuncId}{args:List CV}{r0:CV}{H H1:List (Nat×Ob)}(ns ks eT:List Nat)(n d:Nat)(hb:Body P av g args H n (jC r0 H1 (n+d)))(hl:ns.length=n)(hk:Ip ns s.nx=true)(hi:ops[i]? = Option.some o)(hd:bm nt o.dst=true)(hg:bY ops s o=Option.some true)(hu:ct o=Option.some cl)
  (Se:bM s cl=Option.some (g,aX (bS ns s.nx) args)) (hp:eZ s.heap ks=Option.some (bC (bS ns s.nx) H)) (ha:ba n args=true) (hH:dh n H=true) (hv:Bi dyn res i ks=true) (hc:sH ks eT s.nx (bC (bS ns s.nx) H1)=true)
  (hs:∀ p∈ks,p∉eT->assoc (bC (bS ns s.nx) H1) p=assoc (bC (bS ns s.nx) H) p)
  (hK:vu W dyn res i (iN (cN (bS ns s.nx) r0) ks eT d (bC (bS ns s.nx) H1))/\nh av W nt ops N dyn (Ec P av W nt ops N dyn K) r (note dyn res i (iN (cN (bS ns s.nx) r0) ks eT d (bC (bS ns s.nx) H1))) (St.put ⟨s.env,bC (bS ns s.nx) H1++ep s.heap ks,s.nx+d⟩ o.dst (cN (bS ns s.nx) r0))):RX P av W nt ops N dyn K (i::r) res s:=by
 simp only[sH,Bool.and_eq_true,all_eq_true,Bool.or_eq_true,decide_eq_true_eq] at hc;refine RX.body ks eT d hi hd hg hu Se hp (hb.N6 ns hl hk ha hH) hv ?_ ?_
 ·rintro v s1 ⟨_,h2,h3⟩;refine⟨h3,λ p ob hpo=>?_,λ p gZ=>?_,λ p gZ=>?_⟩
  ·rw[h2] at hpo;rcases hc.1 _ (bx _ _ _ hpo) with h | h
   ·exact .inl TK
   ·exact .inr h.1
  ·rw[h2];by_cases hm:p∈ks
   ·exact hs p hm gZ
   ·obtain⟨i1,_⟩:=j9 hp;have e1:assoc (bC (bS ns s.nx) H) p=none:=by
     cases h4:assoc (bC (bS ns s.nx) H) p with
     | none=>rfl
     | some y=>exact (hm (i1 p y h4).1).elim
    have e2:assoc (bC (bS ns s.nx) H1) p=none:=by
     cases h4:assoc (bC (bS ns s.nx) H1) p with
     | none=>rfl
     | some y=>
      rcases hc.1 _ (bx _ _ _ h4) with h | h
      ·exact (hm TK).elim
      ·exact (gZ (by simpa using h.2)).elim
    rw[e1,e2]
  ·rw[h2];rcases hc.2 p gZ with h | h
   ·exact .inl TK
   ·exact .inr h
 ·rintro v s1 ⟨h1,h2,_⟩;subst h1;rw[h2];exact hK
end
end Go.Can
namespace Go.aJ
open Go.Can
inductive Ex where
 | zero
 | num (n:Nat)
 | nm (s:ByteArray)
 | un (k:Nat) (e:Ex)
 | bin (k:Nat) (a b:Ex)
 | loc (i:Nat)
 | jk (i:Nat)
abbrev I (n:Int):CV:=.int .i64 n
def eS:ByteArray:=⟨#[]⟩
def bf:Ex->List CV
 | .zero=>[I 0,I 0,.str eS,.ax [] 0]
 | .num n=>[I 1,I n,.str eS,.ax [] 0]
 | .nm s=>[I 2,I 0,.str s,.ax [] 0]
 | .un k e=>[I (3+k),I 0,.str eS,.ax (bf e) 1]
 | .bin k a b=>[I (5+k),I 0,.str eS,.ax (bf a++bf b) 2]
 | .loc i=>[I 18,I i,.str eS,.ax [] 0]
 | .jk i=>[I 19,I i,.str eS,.ax [] 0]
theorem bA (e:Ex):(bf e).length=4:=by cases e<;>rfl
def Ex.op:Ex->Int
 | .zero=>0
 | .num _=>1
 | .nm _=>2
 | .un k _=>3+k
 | .bin k _ _=>5+k
 | .loc _=>18
 | .jk _=>19
def Ex.n:Ex->Int
 | .num n=>n
 | .loc i=>i
 | .jk i=>i
 | _=>0
def Ex.name:Ex->ByteArray
 | .nm s=>s
 | _=>eS
def Ex.args:Ex->List Ex
 | .un _ e=>[e]
 | .bin _ a b=>[a,b]
 | _=>[]
theorem bW (e:Ex):bf e=[I e.op,I e.n,.str e.name,.ax (e.args.flatMap bf) e.args.length]:=by
 cases e<;>simp[bf,Ex.op,Ex.n,Ex.name,Ex.args]
structure Rf where
 name:ByteArray
 index:Option Ex
def oc:Option Ex->CV
 | none=>.ax [] 0
 | some e=>.ax (bf e) 1
def lN (r:Rf):List CV:=[.str r.name,oc r.index]
def lP:List CV:=[.str eS,.ax [] 0]
inductive Ar where
 | xf (r:Rf)
 | exp (e:Ex)
def qc:Ar->List CV
 | .xf r=>.bool true::lN r++bf .zero
 | .exp e=>.bool false::lP++bf e
inductive Sm where
 | iz (name:ByteArray) (e:Ex)
 | jd (name:ByteArray) (e:Ex)
 | eJ (go:Bool) (name:ByteArray) (args:List Ar)
 | dP (un:Bool) (r:Rf)
 | mf (e:Ex) (th el:List Sm)
 | cS (e:Ex) (th:List Sm)
 | jP
mutual
def iR:Sm->List CV
 | .iz s e=>[I 1,.str s]++bf e++lP++[.ax [] 0,.ax [] 0,.ax [] 0]
 | .jd s e=>[I 2,.str s]++bf e++lP++[.ax [] 0,.ax [] 0,.ax [] 0]
 | .eJ g s l=>[I (if g then 4 else 3),.str s]++bf .zero++lP++[.ax (l.flatMap qc) l.length,.ax [] 0,.ax [] 0]
 | .dP u r=>[I (if u then 6 else 5),.str eS]++bf .zero++lN r++[.ax [] 0,.ax [] 0,.ax [] 0]
 | .mf e th el=>[I 7,.str eS]++bf e++lP++[.ax [] 0,.ax (bO th) th.length,.ax (bO el) el.length]
 | .cS e th=>[I 8,.str eS]++bf e++lP++[.ax [] 0,.ax (bO th) th.length,.ax [] 0]
 | .jP=>[I 9,.str eS]++bf .zero++lP++[.ax [] 0,.ax [] 0,.ax [] 0]
def bO:List Sm->List CV
 | []=>[]
 | s::r=>iR s++bO r
end
theorem pB:∀ l:List Sm,bO l=l.flatMap iR
 | []=>rfl
 | s::r=>by rw[bO,pB r,List.flatMap_cons]
theorem lg (s:Sm):(iR s).length=11:=by
 cases s<;>simp[iR,bA,lP,lN]
structure Pm where
 name:ByteArray
 mutex:Bool
def lU (p:Pm):List CV:=[.str p.name,.bool p.mutex]
structure Gl where
 name:ByteArray
 init:Int
def qk (g:Gl):List CV:=[.str g.name,I g.init]
structure Mx where
 name:ByteArray
 re:Bool
 size:Nat
def cH (m:Mx):List CV:=[.str m.name,.bool m.re,I m.size]
structure Fu where
 name:ByteArray
 params:List Pm
 body:List Sm
def fL (f:Fu):List CV:=[.str f.name,.ax (f.params.flatMap lU) f.params.length,.ax (bO f.body) f.body.length]
structure Pg where
 gs:List Gl
 ms:List Mx
 fs:List Fu
def fo (p:Pg):List CV:=[.ax (p.gs.flatMap qk) p.gs.length,.ax (p.ms.flatMap cH) p.ms.length,.ax (p.fs.flatMap fL) p.fs.length]
def y9 (p:Pg):CV:=.agg (fo p)
structure Pl where
 param:Bool
 index:Nat
 at_:Option Ex
def gW (p:Pl):List CV:=[.bool p.param,I p.index,oc p.at_]
def nZ:List CV:=[.bool false,I 0,.ax [] 0]
inductive In where
 | set (t:Nat) (g:Bool) (e:Ex)
 | call (go:Bool) (t:Nat) (ints:List Ex) (places:List Pl)
 | lock (un:Bool) (p:Pl)
 | branch (t:Nat) (e:Ex)
 | jump (t:Nat)
 | ret
def cW:In->List CV
 | .set t g e=>[I 1,I t,.bool g]++bf e++nZ++[.ax [] 0,.ax [] 0]
 | .call g t l ps=>[I (if g then 3 else 2),I t,.bool false]++bf .zero++nZ++[.ax (l.flatMap bf) l.length,.ax (ps.flatMap gW) ps.length]
 | .lock u p=>[I (if u then 5 else 4),I 0,.bool false]++bf .zero++gW p++[.ax [] 0,.ax [] 0]
 | .branch t e=>[I 6,I t,.bool false]++bf e++nZ++[.ax [] 0,.ax [] 0]
 | .jump t=>[I 7,I t,.bool false]++bf .zero++nZ++[.ax [] 0,.ax [] 0]
 | .ret=>[I 8,I 0,.bool false]++bf .zero++nZ++[.ax [] 0,.ax [] 0]
theorem gB (x:In):(cW x).length=12:=by
 cases x<;>simp[cW,bA,nZ,gW]
structure Pr where
 name:ByteArray
 ints:Nat
 bp:Nat
 locals:Nat
 code:List In
def mW (p:Pr):List CV:=[.str p.name,I p.ints,I p.bp,I p.locals,.ax (p.code.flatMap cW) p.code.length]
structure Un where
 gs:List Int
 ms:List Mx
 ps:List Pr
 main:Nat
def cR (u:Un):List CV:=[ints u.gs,.ax (u.ms.flatMap cH) u.ms.length,.ax (u.ps.flatMap mW) u.ps.length,I u.main]
def cg (u:Un):CV:=.agg (cR u)
structure Is where
 proc:Nat
 bp:List Nat
def aB (l:List Nat):CV:=.ax (l.map λ n:Nat=>I n) l.length
def dV (i:Is):List CV:=[I i.proc,aB i.bp]
structure Cl where
 is:List Is
 calls:List (List Int)
 roots:List Nat
def eC (c:Cl):List CV:=[.ax (c.is.flatMap dV) c.is.length,.ax (c.calls.map ints) c.calls.length,aB c.roots]
def gC (c:Cl):CV:=.agg (eC c)
def cq (L:List Int)(i n:Nat):Nat×Nat:=match L[i]? with
 | none=>(0,i)
 | some x=>((x % (n:Int)).toNat,i+1)
theorem dE (L:List Int)(i:Nat){n:Nat}(h:0<n):(cq L i n).1<n:=by
 unfold cq;split
 ·exact h
 ·rename_i x _;have h1:=Int.emod_nonneg x (show (n:Int)≠0 by omega);have h2:=Int.emod_lt_of_pos x (show (0:Int)<n by omega);simp only;omega
theorem bq (L:List Int){i:Nat}(n:Nat)(h:i<=L.length):(cq L i n).2<=L.length:=by
 unfold cq;split
 ·exact h
 ·rename_i x hx;exact (List.getElem?_eq_some_iff.1 hx).1
def yp (L:List Int)(i:Nat):Nat×Nat:=if (cq L i 8).1=1 then cq L (cq L i 8).2 4611686018427387904 else cq L (cq L i 8).2 4
theorem MQ (L:List Int)(i:Nat):(yp L i).1<4611686018427387904:=by
 unfold yp;split
 ·exact dE _ _ yA
 ·exact Nat.lt_of_lt_of_le (dE L _ (show 0<4 by omega)) yA
theorem MR (L:List Int){i:Nat}(h:i<=L.length):(yp L i).2<=L.length:=by
 unfold yp;split
 ·exact bq _ _ (bq _ _ h)
 ·exact bq _ _ (bq _ _ h)
def sb (L:List Int)(ns:List ByteArray)(i:Nat):Ex×Nat:=
 if 0<ns.length/\(cq L i 2).1=1 then (.nm (ns.getD (cq L (cq L i 2).2 ns.length).1 eS),(cq L (cq L i 2).2 ns.length).2)
 else (.num (yp L (if 0<ns.length then (cq L i 2).2 else i)).1,(yp L (if 0<ns.length then (cq L i 2).2 else i)).2)
theorem CK (L:List Int)(ns:List ByteArray){i:Nat}(h:i<=L.length):(sb L ns i).2<=L.length:=by
 unfold sb;split
 ·exact bq _ _ (bq _ _ h)
 ·refine MR L ?_;split
  ·exact bq _ _ h
  ·exact h
def su (L:List Int)(ns:List ByteArray):Nat->Nat->Ex×Nat
 | 0,i=>sb L ns (cq L i 10).2
 | d+1,i=>
  if (cq L i 10).1<2 then sb L ns (cq L i 10).2
  else if (cq L i 10).1<4 then (.un ((cq L i 10).1 % 2) (su L ns d (cq L i 10).2).1,(su L ns d (cq L i 10).2).2)
  else (.bin (cq L (cq L i 10).2 13).1 (su L ns d (cq L (cq L i 10).2 13).2).1 (su L ns d (su L ns d (cq L (cq L i 10).2 13).2).2).1,(su L ns d (su L ns d (cq L (cq L i 10).2 13).2).2).2)
theorem oZ (L:List Int)(ns:List ByteArray):∀ (d:Nat) {i:Nat},i<=L.length->(su L ns d i).2<=L.length
 | 0,i,h=>CK L ns (bq _ _ h)
 | d+1,i,h=>by
  rw[su];split
  ·exact CK L ns (bq _ _ h)
  ·split
   ·exact oZ L ns d (bq _ _ h)
   ·exact oZ L ns d (oZ L ns d (bq _ _ (bq _ _ h)))
def dH (L:List Int)(ar:Bool)(vars:List ByteArray)(i:Nat):Ex×Nat:=if ar=true then su L vars (1+(cq L i 2).1) (cq L i 2).2 else su L vars 0 i
def qa (L:List Int)(ar:Bool)(vars:List ByteArray)(size i:Nat):Ex×Nat:=
 if ar=true/\(cq L i 3).1=1 then su L vars 1 (cq L i 3).2 else (.num (cq L (if ar=true then (cq L i 3).2 else i) size).1,(cq L (if ar=true then (cq L i 3).2 else i) size).2)
theorem kN (L:List Int)(ar:Bool)(vars:List ByteArray){i:Nat}(h:i<=L.length):(dH L ar vars i).2<=L.length:=by
 unfold dH;split
 ·exact oZ _ _ _ (bq _ _ h)
 ·exact oZ _ _ _ h
theorem Nf (L:List Int)(ar:Bool)(vars:List ByteArray)(size:Nat){i:Nat}(h:i<=L.length):(qa L ar vars size i).2<=L.length:=by
 unfold qa;split
 ·exact oZ _ _ _ (bq _ _ h)
 ·refine bq _ _ ?_;split
  ·exact bq _ _ h
  ·exact h
def Ir (p:Pm):List ByteArray:=if p.mutex=true then [p.name,p.name] else []
def cd (ms:List Mx)(ps:List Pm):List ByteArray:=ms.map (·.name)++ps.flatMap Ir
def lM (ms:List Mx)(j:Nat):Nat:=match ms[j]? with
 | some m=>m.size
 | none=>0
def jH (L:List Int)(ar:Bool)(ms:List Mx)(ps:List Pm)(vars:List ByteArray)(i:Nat):Rf×Nat:=
 if (cq L i (cd ms ps).length).1<ms.length/\0<lM ms (cq L i (cd ms ps).length).1 then
  (⟨(cd ms ps).getD (cq L i (cd ms ps).length).1 eS,some (qa L ar vars (lM ms (cq L i (cd ms ps).length).1) (cq L i (cd ms ps).length).2).1⟩,(qa L ar vars (lM ms (cq L i (cd ms ps).length).1) (cq L i (cd ms ps).length).2).2)
 else (⟨(cd ms ps).getD (cq L i (cd ms ps).length).1 eS,none⟩,(cq L i (cd ms ps).length).2)
theorem rO (L:List Int)(ar:Bool)(ms:List Mx)(ps:List Pm)(vars:List ByteArray){i:Nat}(h:i<=L.length):(jH L ar ms ps vars i).2<=L.length:=by
 unfold jH;split
 ·exact Nf _ _ _ _ (bq _ _ h)
 ·exact bq _ _ h
def dx (L:List Int)(ar:Bool)(ms:List Mx)(ps:List Pm)(vars:List ByteArray):List Pm->Nat->List Ar×Nat
 | [],i=>([],i)
 | p::r,i=>if p.mutex=true then (.xf (jH L ar ms ps vars i).1::(dx L ar ms ps vars r (jH L ar ms ps vars i).2).1,(dx L ar ms ps vars r (jH L ar ms ps vars i).2).2)
  else (.exp (dH L ar vars i).1::(dx L ar ms ps vars r (dH L ar vars i).2).1,(dx L ar ms ps vars r (dH L ar vars i).2).2)
theorem sO (L:List Int)(ar:Bool)(ms:List Mx)(ps:List Pm)(vars:List ByteArray):∀ (l:List Pm) {i:Nat},i<=L.length->(dx L ar ms ps vars l i).2<=L.length
 | [],_,h=>h
 | p::r,i,h=>by
  rw[dx];split
  ·exact sO L ar ms ps vars r (rO _ _ _ _ _ h)
  ·exact sO L ar ms ps vars r (kN _ _ _ h)
def strs (ns:List ByteArray):CV:=.ax (ns.map .str) ns.length
end Go.aJ
namespace Go.Proofs.YtlkmbdfhdknlgaaGreat
open Go.Can Tryz
def av:List (Nat×TI):=[
 (3,⟨.int .i64,1,8,[.int .i64 0]⟩),
 (4,⟨.bool,1,1,[.bool false]⟩),
 (5,⟨.int .u8,1,1,[.int .u8 0]⟩),
 (6,⟨.int .u8,1,1,[.int .u8 0]⟩),
 (9,⟨.str,1,16,[.str ⟨#[]⟩]⟩),
 (22,⟨.sl 3,1,24,[.aj]⟩),
 (23,⟨.sl 132,1,24,[.aj]⟩),
 (24,⟨.sl 98,1,24,[.aj]⟩),
 (25,⟨.sl 136,1,24,[.aj]⟩),
 (27,⟨.bB [(0,23),(1,24),(2,25)],3,72,[.aj,.aj,.aj]⟩),
 (28,⟨.sl 150,1,24,[.aj]⟩),
 (30,⟨.bB [(0,22),(1,24),(2,28),(3,3)],4,80,[.aj,.aj,.aj,.int .i64 0]⟩),
 (31,⟨.sl 95,1,24,[.aj]⟩),
 (32,⟨.sl 22,1,24,[.aj]⟩),
 (34,⟨.bB [(0,31),(1,32),(2,22)],3,72,[.aj,.aj,.aj]⟩),
 (37,⟨.sl 122,1,24,[.aj]⟩),
 (38,⟨.sl 81,1,24,[.aj]⟩),
 (40,⟨.bB [(0,22),(1,37),(2,38),(3,3)],4,80,[.aj,.aj,.aj,.int .i64 0]⟩),
 (43,⟨.sl 4,1,24,[.aj]⟩),
 (46,⟨.sl 54,1,24,[.aj]⟩),
 (48,⟨.bB [(0,3),(1,46)],2,32,[.int .i64 0,.aj]⟩),
 (54,⟨.bB [(0,3),(1,3)],2,16,[.int .i64 0,.int .i64 0]⟩),
 (69,⟨.int .i64,1,8,[.int .i64 0]⟩),
 (77,⟨.bB [(0,3),(1,3),(2,22),(3,22)],4,64,[.int .i64 0,.int .i64 0,.aj,.aj]⟩),
 (79,⟨.sl 77,1,24,[.aj]⟩),
 (81,⟨.bB [(0,79)],1,24,[.aj]⟩),
 (83,⟨.sl 85,1,24,[.aj]⟩),
 (85,⟨.bB [(0,3),(1,3),(2,9),(3,83)],4,56,[.int .i64 0,.int .i64 0,.str ⟨#[]⟩,.aj]⟩),
 (87,⟨.bB [(0,4),(1,3),(2,83)],3,40,[.bool false,.int .i64 0,.aj]⟩),
 (88,⟨.sl 87,1,24,[.aj]⟩),
 (90,⟨.bB [(0,3),(1,3),(2,4),(3,85),(7,87),(10,83),(11,88)],12,168,[.int .i64 0,.int .i64 0,.bool false,.int .i64 0,.int .i64 0,.str ⟨#[]⟩,.aj,.bool false,.int .i64 0,.aj,.aj,.aj]⟩),
 (95,⟨.bB [(0,3),(1,22)],2,32,[.int .i64 0,.aj]⟩),
 (98,⟨.bB [(0,9),(1,4),(2,3)],3,32,[.str ⟨#[]⟩,.bool false,.int .i64 0]⟩),
 (110,⟨.sl 5,1,24,[.aj]⟩),
 (122,⟨.bB [(0,3),(1,3)],2,16,[.int .i64 0,.int .i64 0]⟩),
 (106,⟨.ptr 77,1,8,[.bJ]⟩),
 (124,⟨.ptr 126,1,8,[.bJ]⟩),
 (126,⟨.bB [(0,22),(1,3)],2,32,[.aj,.int .i64 0]⟩),
 (128,⟨.bB [(0,124),(1,27),(4,3),(5,4)],6,96,[.bJ,.aj,.aj,.aj,.int .i64 0,.bool false]⟩),
 (130,⟨.sl 9,1,24,[.aj]⟩),
 (132,⟨.bB [(0,9),(1,3)],2,24,[.str ⟨#[]⟩,.int .i64 0]⟩),
 (133,⟨.sl 138,1,24,[.aj]⟩),
 (134,⟨.sl 207,1,24,[.aj]⟩),
 (136,⟨.bB [(0,9),(1,133),(2,134)],3,64,[.str ⟨#[]⟩,.aj,.aj]⟩),
 (138,⟨.bB [(0,9),(1,4)],2,24,[.str ⟨#[]⟩,.bool false]⟩),
 (141,⟨.sl 145,1,24,[.aj]⟩),
 (145,⟨.bB [(0,9),(1,3),(2,3)],3,32,[.str ⟨#[]⟩,.int .i64 0,.int .i64 0]⟩),
 (148,⟨.sl 90,1,24,[.aj]⟩),
 (150,⟨.bB [(0,9),(1,3),(2,3),(3,3),(4,148)],5,64,[.str ⟨#[]⟩,.int .i64 0,.int .i64 0,.int .i64 0,.aj]⟩),
 (162,⟨.sl 32,1,24,[.aj]⟩),
 (175,⟨.sl 190,1,24,[.aj]⟩),
 (180,⟨.bB [(0,175),(1,3),(2,3),(3,69),(4,3),(5,3)],6,64,[.aj,.int .i64 0,.int .i64 0,.int .i64 0,.int .i64 0,.int .i64 0]⟩),
 (190,⟨.bB [(0,3),(1,9),(2,3),(3,3)],4,40,[.int .i64 0,.str ⟨#[]⟩,.int .i64 0,.int .i64 0]⟩),
 (201,⟨.bB [(0,32),(1,162),(2,22)],3,72,[.aj,.aj,.aj]⟩),
 (204,⟨.bB [(0,9),(1,83)],2,40,[.str ⟨#[]⟩,.aj]⟩),
 (205,⟨.sl 243,1,24,[.aj]⟩),
 (207,⟨.bB [(0,3),(1,9),(2,85),(6,204),(8,205),(9,134),(10,134)],11,192,[.int .i64 0,.str ⟨#[]⟩,.int .i64 0,.int .i64 0,.str ⟨#[]⟩,.aj,.str ⟨#[]⟩,.aj,.aj,.aj,.aj]⟩),
 (215,⟨.bB [(0,27),(3,141),(4,3),(5,3),(6,3),(7,69),(8,148),(9,22)],10,176,[.aj,.aj,.aj,.aj,.int .i64 0,.int .i64 0,.int .i64 0,.int .i64 0,.aj,.aj]⟩),
 (219,⟨.arr 6 3,6,48,[.int .i64 0,.int .i64 0,.int .i64 0,.int .i64 0,.int .i64 0,.int .i64 0]⟩),
 (221,⟨.bB [(0,3),(1,3),(2,219)],8,64,[.int .i64 0,.int .i64 0,.int .i64 0,.int .i64 0,.int .i64 0,.int .i64 0,.int .i64 0,.int .i64 0]⟩),
 (228,⟨.bB [(0,22),(1,22)],2,48,[.aj,.aj]⟩),
 (236,⟨.func,1,8,[.cE]⟩),
 (240,⟨.sl 3,1,24,[.aj]⟩),
 (243,⟨.bB [(0,4),(1,204),(3,85)],7,104,[.bool false,.str ⟨#[]⟩,.aj,.int .i64 0,.int .i64 0,.str ⟨#[]⟩,.aj]⟩),
 (264,⟨.bB [(0,30),(4,95),(6,3),(7,236)],8,128,[.aj,.aj,.aj,.int .i64 0,.int .i64 0,.aj,.int .i64 0,.cE]⟩),
 (269,⟨.int .u64,1,8,[.int .u64 0]⟩),
 (280,⟨.bB [],0,0,[]⟩),
 (282,⟨.bB [(0,3)],1,8,[.int .i64 0]⟩),
 (283,⟨.bB [(0,3)],1,8,[.int .i64 0]⟩),
 (284,⟨.bB [],0,0,[]⟩)]
theorem ah:aD prog av:=
 aD.cons (cA.mk' Ix Ix rfl) <|
 aD.cons (cA.mk' Ix Ix rfl) <|
 aD.cons (cA.mk' Ix Ix rfl) <|
 aD.cons (cA.mk' Ix Ix rfl) <|
 aD.cons (cA.mk' Ix Ix rfl) <|
 aD.cons (cA.mk' Ix Ix rfl) <|
 aD.cons (cA.mk' Ix Ix rfl) <|
 aD.cons (cA.mk' Ix Ix rfl) <|
 aD.cons (cA.mk' Ix Ix rfl) <|
 aD.cons (cA.mk' Ix Ix rfl) <|
 aD.cons (cA.mk' Ix Ix rfl) <|
 aD.cons (cA.mk' Ix Ix rfl) <|
 aD.cons (cA.mk' Ix Ix rfl) <|
 aD.cons (cA.mk' Ix Ix rfl) <|
 aD.cons (cA.mk' Ix Ix rfl) <|
 aD.cons (cA.mk' Ix Ix rfl) <|
 aD.cons (cA.mk' Ix Ix rfl) <|
 aD.cons (cA.mk' Ix Ix rfl) <|
 aD.cons (cA.mk' Ix Ix rfl) <|
 aD.cons (cA.mk' Ix Ix rfl) <|
 aD.cons (cA.mk' Ix Ix rfl) <|
 aD.cons (cA.mk' Ix Ix rfl) <|
 aD.cons (cA.mk' Ix Ix rfl) <|
 aD.cons (cA.mk' Ix Ix rfl) <|
 aD.cons (cA.mk' Ix Ix rfl) <|
 aD.cons (cA.mk' Ix Ix rfl) <|
 aD.cons (cA.mk' Ix Ix rfl) <|
 aD.cons (cA.mk' Ix Ix rfl) <|
 aD.cons (cA.mk' Ix Ix rfl) <|
 aD.cons (cA.mk' Ix Ix rfl) <|
 aD.cons (cA.mk' Ix Ix rfl) <|
 aD.cons (cA.mk' Ix Ix rfl) <|
 aD.cons (cA.mk' Ix Ix rfl) <|
 aD.cons (cA.mk' Ix Ix rfl) <|
 aD.cons (cA.mk' Ix Ix rfl) <|
 aD.cons (cA.mk' Ix Ix rfl) <|
 aD.cons (cA.mk' Ix Ix rfl) <|
 aD.cons (cA.mk' Ix Ix rfl) <|
 aD.cons (cA.mk' Ix Ix rfl) <|
 aD.cons (cA.mk' Ix Ix rfl) <|
 aD.cons (cA.mk' Ix Ix rfl) <|
 aD.cons (cA.mk' Ix Ix rfl) <|
 aD.cons (cA.mk' Ix Ix rfl) <|
 aD.cons (cA.mk' Ix Ix rfl) <|
 aD.cons (cA.mk' Ix Ix rfl) <|
 aD.cons (cA.mk' Ix Ix rfl) <|
 aD.cons (cA.mk' Ix Ix rfl) <|
 aD.cons (cA.mk' Ix Ix rfl) <|
 aD.cons (cA.mk' Ix Ix rfl) <|
 aD.cons (cA.mk' Ix Ix rfl) <|
 aD.cons (cA.mk' Ix Ix rfl) <|
 aD.cons (cA.mk' Ix Ix rfl) <|
 aD.cons (cA.mk' Ix Ix rfl) <|
 aD.cons (cA.mk' Ix Ix rfl) <|
 aD.cons (cA.mk' Ix Ix rfl) <|
 aD.cons (cA.mk' Ix Ix rfl) <|
 aD.cons (cA.mk' Ix Ix rfl) <|
 aD.cons (cA.mk' Ix Ix rfl) <|
 aD.cons (cA.mk' Ix Ix rfl) <|
 aD.cons (cA.mk' Ix Ix rfl) <|
 aD.cons (cA.mk' Ix Ix rfl) <|
 aD.cons (cA.mk' Ix Ix rfl) <|
 aD.cons (cA.mk' Ix Ix rfl) <|
 aD.cons (cA.mk' Ix Ix rfl) <|
 aD.cons (cA.mk' Ix Ix rfl) <|
 aD.cons (cA.mk' Ix Ix rfl) <|
 aD.cons (cA.mk' Ix Ix rfl) <|
 aD.cons (cA.mk' Ix Ix rfl) <|
 aD.cons (cA.mk' Ix Ix rfl) <|
 aD.cons (cA.mk' Ix Ix rfl) <| aD.nil
@[simp] theorem tab3:assoc av 3=some ⟨.int .i64,1,8,[.int .i64 0]⟩:=rfl
@[simp] theorem tab4:assoc av 4=some ⟨.bool,1,1,[.bool false]⟩:=rfl
@[simp] theorem tab5:assoc av 5=some ⟨.int .u8,1,1,[.int .u8 0]⟩:=rfl
@[simp] theorem tab6:assoc av 6=some ⟨.int .u8,1,1,[.int .u8 0]⟩:=rfl
@[simp] theorem tab9:assoc av 9=some ⟨.str,1,16,[.str ⟨#[]⟩]⟩:=rfl
@[simp] theorem tab22:assoc av 22=some ⟨.sl 3,1,24,[.aj]⟩:=rfl
@[simp] theorem tab23:assoc av 23=some ⟨.sl 132,1,24,[.aj]⟩:=rfl
@[simp] theorem tab24:assoc av 24=some ⟨.sl 98,1,24,[.aj]⟩:=rfl
@[simp] theorem tab25:assoc av 25=some ⟨.sl 136,1,24,[.aj]⟩:=rfl
@[simp] theorem tab27:assoc av 27=some ⟨.bB [(0,23),(1,24),(2,25)],3,72,[.aj,.aj,.aj]⟩:=rfl
@[simp] theorem tab28:assoc av 28=some ⟨.sl 150,1,24,[.aj]⟩:=rfl
@[simp] theorem tab30:assoc av 30=some ⟨.bB [(0,22),(1,24),(2,28),(3,3)],4,80,[.aj,.aj,.aj,.int .i64 0]⟩:=rfl
@[simp] theorem tab31:assoc av 31=some ⟨.sl 95,1,24,[.aj]⟩:=rfl
@[simp] theorem tab32:assoc av 32=some ⟨.sl 22,1,24,[.aj]⟩:=rfl
@[simp] theorem tab34:assoc av 34=some ⟨.bB [(0,31),(1,32),(2,22)],3,72,[.aj,.aj,.aj]⟩:=rfl
@[simp] theorem tab37:assoc av 37=some ⟨.sl 122,1,24,[.aj]⟩:=rfl
@[simp] theorem tab38:assoc av 38=some ⟨.sl 81,1,24,[.aj]⟩:=rfl
@[simp] theorem tab40:assoc av 40=some ⟨.bB [(0,22),(1,37),(2,38),(3,3)],4,80,[.aj,.aj,.aj,.int .i64 0]⟩:=rfl
@[simp] theorem tab43:assoc av 43=some ⟨.sl 4,1,24,[.aj]⟩:=rfl
@[simp] theorem tab46:assoc av 46=some ⟨.sl 54,1,24,[.aj]⟩:=rfl
@[simp] theorem tab48:assoc av 48=some ⟨.bB [(0,3),(1,46)],2,32,[.int .i64 0,.aj]⟩:=rfl
@[simp] theorem tab54:assoc av 54=some ⟨.bB [(0,3),(1,3)],2,16,[.int .i64 0,.int .i64 0]⟩:=rfl
@[simp] theorem tab69:assoc av 69=some ⟨.int .i64,1,8,[.int .i64 0]⟩:=rfl
@[simp] theorem tab77:assoc av 77=some ⟨.bB [(0,3),(1,3),(2,22),(3,22)],4,64,[.int .i64 0,.int .i64 0,.aj,.aj]⟩:=rfl
@[simp] theorem tab79:assoc av 79=some ⟨.sl 77,1,24,[.aj]⟩:=rfl
@[simp] theorem tab81:assoc av 81=some ⟨.bB [(0,79)],1,24,[.aj]⟩:=rfl
@[simp] theorem tab83:assoc av 83=some ⟨.sl 85,1,24,[.aj]⟩:=rfl
@[simp] theorem tab85:assoc av 85=some ⟨.bB [(0,3),(1,3),(2,9),(3,83)],4,56,[.int .i64 0,.int .i64 0,.str ⟨#[]⟩,.aj]⟩:=rfl
@[simp] theorem tab87:assoc av 87=some ⟨.bB [(0,4),(1,3),(2,83)],3,40,[.bool false,.int .i64 0,.aj]⟩:=rfl
@[simp] theorem tab88:assoc av 88=some ⟨.sl 87,1,24,[.aj]⟩:=rfl
@[simp] theorem tab90:assoc av 90=some ⟨.bB [(0,3),(1,3),(2,4),(3,85),(7,87),(10,83),(11,88)],12,168,[.int .i64 0,.int .i64 0,.bool false,.int .i64 0,.int .i64 0,.str ⟨#[]⟩,.aj,.bool false,.int .i64 0,.aj,.aj,.aj]⟩:=rfl
@[simp] theorem tab95:assoc av 95=some ⟨.bB [(0,3),(1,22)],2,32,[.int .i64 0,.aj]⟩:=rfl
@[simp] theorem tab98:assoc av 98=some ⟨.bB [(0,9),(1,4),(2,3)],3,32,[.str ⟨#[]⟩,.bool false,.int .i64 0]⟩:=rfl
@[simp] theorem tab110:assoc av 110=some ⟨.sl 5,1,24,[.aj]⟩:=rfl
@[simp] theorem tab122:assoc av 122=some ⟨.bB [(0,3),(1,3)],2,16,[.int .i64 0,.int .i64 0]⟩:=rfl
@[simp] theorem tab106:assoc av 106=some ⟨.ptr 77,1,8,[.bJ]⟩:=rfl
@[simp] theorem tab124:assoc av 124=some ⟨.ptr 126,1,8,[.bJ]⟩:=rfl
@[simp] theorem tab126:assoc av 126=some ⟨.bB [(0,22),(1,3)],2,32,[.aj,.int .i64 0]⟩:=rfl
@[simp] theorem tab128:assoc av 128=some ⟨.bB [(0,124),(1,27),(4,3),(5,4)],6,96,[.bJ,.aj,.aj,.aj,.int .i64 0,.bool false]⟩:=rfl
@[simp] theorem tab130:assoc av 130=some ⟨.sl 9,1,24,[.aj]⟩:=rfl
@[simp] theorem tab132:assoc av 132=some ⟨.bB [(0,9),(1,3)],2,24,[.str ⟨#[]⟩,.int .i64 0]⟩:=rfl
@[simp] theorem tab133:assoc av 133=some ⟨.sl 138,1,24,[.aj]⟩:=rfl
@[simp] theorem tab134:assoc av 134=some ⟨.sl 207,1,24,[.aj]⟩:=rfl
@[simp] theorem tab136:assoc av 136=some ⟨.bB [(0,9),(1,133),(2,134)],3,64,[.str ⟨#[]⟩,.aj,.aj]⟩:=rfl
@[simp] theorem tab138:assoc av 138=some ⟨.bB [(0,9),(1,4)],2,24,[.str ⟨#[]⟩,.bool false]⟩:=rfl
@[simp] theorem tab141:assoc av 141=some ⟨.sl 145,1,24,[.aj]⟩:=rfl
@[simp] theorem tab145:assoc av 145=some ⟨.bB [(0,9),(1,3),(2,3)],3,32,[.str ⟨#[]⟩,.int .i64 0,.int .i64 0]⟩:=rfl
@[simp] theorem tab148:assoc av 148=some ⟨.sl 90,1,24,[.aj]⟩:=rfl
@[simp] theorem tab150:assoc av 150=some ⟨.bB [(0,9),(1,3),(2,3),(3,3),(4,148)],5,64,[.str ⟨#[]⟩,.int .i64 0,.int .i64 0,.int .i64 0,.aj]⟩:=rfl
@[simp] theorem tab162:assoc av 162=some ⟨.sl 32,1,24,[.aj]⟩:=rfl
@[simp] theorem tab175:assoc av 175=some ⟨.sl 190,1,24,[.aj]⟩:=rfl
@[simp] theorem tab180:assoc av 180=some ⟨.bB [(0,175),(1,3),(2,3),(3,69),(4,3),(5,3)],6,64,[.aj,.int .i64 0,.int .i64 0,.int .i64 0,.int .i64 0,.int .i64 0]⟩:=rfl
@[simp] theorem tab190:assoc av 190=some ⟨.bB [(0,3),(1,9),(2,3),(3,3)],4,40,[.int .i64 0,.str ⟨#[]⟩,.int .i64 0,.int .i64 0]⟩:=rfl
@[simp] theorem tab201:assoc av 201=some ⟨.bB [(0,32),(1,162),(2,22)],3,72,[.aj,.aj,.aj]⟩:=rfl
@[simp] theorem tab204:assoc av 204=some ⟨.bB [(0,9),(1,83)],2,40,[.str ⟨#[]⟩,.aj]⟩:=rfl
@[simp] theorem tab205:assoc av 205=some ⟨.sl 243,1,24,[.aj]⟩:=rfl
@[simp] theorem tab207:assoc av 207=some ⟨.bB [(0,3),(1,9),(2,85),(6,204),(8,205),(9,134),(10,134)],11,192,[.int .i64 0,.str ⟨#[]⟩,.int .i64 0,.int .i64 0,.str ⟨#[]⟩,.aj,.str ⟨#[]⟩,.aj,.aj,.aj,.aj]⟩:=rfl
@[simp] theorem tab215:assoc av 215=some ⟨.bB [(0,27),(3,141),(4,3),(5,3),(6,3),(7,69),(8,148),(9,22)],10,176,[.aj,.aj,.aj,.aj,.int .i64 0,.int .i64 0,.int .i64 0,.int .i64 0,.aj,.aj]⟩:=rfl
@[simp] theorem tab219:assoc av 219=some ⟨.arr 6 3,6,48,[.int .i64 0,.int .i64 0,.int .i64 0,.int .i64 0,.int .i64 0,.int .i64 0]⟩:=rfl
@[simp] theorem tab221:assoc av 221=some ⟨.bB [(0,3),(1,3),(2,219)],8,64,[.int .i64 0,.int .i64 0,.int .i64 0,.int .i64 0,.int .i64 0,.int .i64 0,.int .i64 0,.int .i64 0]⟩:=rfl
@[simp] theorem tab228:assoc av 228=some ⟨.bB [(0,22),(1,22)],2,48,[.aj,.aj]⟩:=rfl
@[simp] theorem tab236:assoc av 236=some ⟨.func,1,8,[.cE]⟩:=rfl
@[simp] theorem tab240:assoc av 240=some ⟨.sl 3,1,24,[.aj]⟩:=rfl
@[simp] theorem tab243:assoc av 243=some ⟨.bB [(0,4),(1,204),(3,85)],7,104,[.bool false,.str ⟨#[]⟩,.aj,.int .i64 0,.int .i64 0,.str ⟨#[]⟩,.aj]⟩:=rfl
@[simp] theorem tab264:assoc av 264=some ⟨.bB [(0,30),(4,95),(6,3),(7,236)],8,128,[.aj,.aj,.aj,.int .i64 0,.int .i64 0,.aj,.int .i64 0,.cE]⟩:=rfl
@[simp] theorem tab269:assoc av 269=some ⟨.int .u64,1,8,[.int .u64 0]⟩:=rfl
@[simp] theorem tab280:assoc av 280=some ⟨.bB [],0,0,[]⟩:=rfl
@[simp] theorem tab282:assoc av 282=some ⟨.bB [(0,3)],1,8,[.int .i64 0]⟩:=rfl
@[simp] theorem tab283:assoc av 283=some ⟨.bB [(0,3)],1,8,[.int .i64 0]⟩:=rfl
@[simp] theorem tab284:assoc av 284=some ⟨.bB [],0,0,[]⟩:=rfl
theorem follows:Tryz.prog.follows .mixedOrders=true:=by kernel_rfl
theorem cF (n:Int)(h : -9223372036854775808<=n)(h':n<=9223372036854775807):IntKind.i64.wrap n=n:=IntWalk.i64_in n ⟨h,h'⟩
section
variable {C:Cx}{s:St}{Q:Exit->St->Prop}{x y:Code}{id:Nat}{l:List Oper}{ops:Array Oper}{K:St->Prop}
theorem aq (h:Bz av C.nt l.toArray (DK prog C l.toArray (fy (λ s'=>T prog C y s' Q) Q .normal)) l s):T prog C (.seq (.region id l.toArray false) y) s Q:=T.seq (T.go' ah h)
theorem aW (h:Bz av C.nt l.toArray (DK prog C l.toArray (fy (λ s'=>T prog C x s' (fy (λ s'=>T prog C y s' Q) Q)) (fy (λ s'=>T prog C y s' Q) Q) .normal)) l s):T prog C (.seq (.seq (.region id l.toArray false) x) y) s Q:=T.seq (T.seq (T.go' ah h))
theorem cX {o:Oper}{c:Call}{g:FuncId}{cs:List CV}{r:CV}(ht:trees cs=true)(hp:ae prog g cs r)(h:Bz av C.nt ops (DK prog C ops K) l (s.put o.dst r))(hd:bm C.nt o.dst=true:=by simp[hC])(hg:o.guard=none:=by rfl)(ho:o.op=.call c:=by rfl)(Se:bM s c=some (g,cs):=by rfl):TL prog C ops (o::l) s K:=TL.call hd hg ho (bU.of Se ht hp) (TL.go' ah h)
end
section
variable {C:Cx}{s:St}{Q:Exit->St->Prop}{x y:Code}{c:Operand}{id:Nat}{l:List Oper}
theorem fX (h:Q .normal s)(hc:ev s c=some (.bool false):=by rfl):T prog C (.cond c x .skip) s Q:=T.cond (b:=false) hc (T.skip h)
theorem gw (h:Q .normal s)(hc:ev s c=some (.bool true):=by rfl):T prog C (.cond c .skip y) s Q:=T.cond (b:=true) hc (T.skip h)
theorem a9 (h:T prog C (if false then x else y) s Q)(hc:ev s c=some (.bool false):=by rfl):T prog C (.cond c x y) s Q:=T.cond (b:=false) hc h
theorem qn (h:T prog C (if false then x else y) s Q)(hc:ev s c=some (.bool false):=by first | rfl | (simp[ev,assoc];done)):T prog C (.cond c x y) s Q:=T.cond (b:=false) hc h
theorem dy (h:T prog C (if true then x else y) s Q)(hc:ev s c=some (.bool true):=by rfl):T prog C (.cond c x y) s Q:=T.cond (b:=true) hc h
theorem aN (h:Bz av C.nt l.toArray (DK prog C l.toArray (Q .normal)) l s):T prog C (.region id l.toArray false) s Q:=T.go' ah h
theorem eN {i:Nat}(h:T prog C x s (qQ i (fy (λ s'=>T prog C y s' Q) Q))):T prog C (.seq (.block i x) y) s Q:=T.seq (T.block h)
end
end Go.Proofs.YtlkmbdfhdknlgaaGreat
