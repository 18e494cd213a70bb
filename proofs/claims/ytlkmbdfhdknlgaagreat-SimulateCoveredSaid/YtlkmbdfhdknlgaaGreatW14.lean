/- Lemmas. -/
import Derived.Test.YtlkmbdfhdknlgaaGreatW09
namespace Go.Can
open Go.RowKit List
section
variable {P:Program}{C:Cx}{U:Nat->Option OB}{s:St}{a:Act}{w:World}{ops:Array Oper}{av:List (Nat×TI)}
theorem Body.grow {ρ:Nat->Nat}(hi:∀ x y,ρ x=ρ y->x=y){f:FuncId}{args:List CV}{H:List (Nat×Ob)}{n n' d:Nat}{R:CV->St->Prop}(hρ:∀ p,p<n->ρ p<n')(hρ2:∀ p,n<=p->ρ p=p-n+n')(h:Body P av f args H n R)(ha:ba n args=true)(hH:dn n H=true)(hR:∀ r s,R r s->s.nx=n+d) :
  Body P av f (aX ρ args) (bz ρ H) n' λ r s=>∃ r1 s1,R r1 s1/\r=cO ρ r1/\s=⟨cq ρ s1.env,bz ρ s1.heap,n' + d⟩:=by
 obtain⟨fn,c,hf,hb,Tu,hl,hT⟩:=h;refine⟨fn,c,hf,hb,Tu,by rw[gT];exact hl,λ C' hC M0 a w ⟨U,hr⟩=>?_⟩;rw[zT] at hr;have Sx:∀ (t:Nat) c o,assoc (enter args).env t=some c->aS o c=false->o<n:=λ t c o hc ho=>by
  obtain⟨_,h2⟩:=fW args 0 t c hc;have hm:c∈args:=mem_of_getElem? h2;rw[aT,all_eq_true] at ha;exact mT n c o (ha c hm) ho
 obtain⟨σt,hσt⟩:∃ σt:Nat->Option OB,σt=below (λ p=>U (ρ p)) n λ _=>none:=⟨_,rfl⟩;have t1:∀ p,p<n->σt p=U (ρ p):=λ p hp=>by rw[hσt];exact gZ hp
 have t2:∀ p,n<=p->σt p=none:=λ p hp=>by rw[hσt];exact lE hp
 have UN:∀ (G:List (Nat×Ob)),(∀ o ob,assoc G o=some ob->o<n)->∀ b,(C'.F b\/∃ o ob,assoc G o=some ob/\a6 σt o=some b)↔FB C' U (bz ρ G) b:=λ G hG b=>by
  unfold FB;constructor
  .rintro (h | ⟨o,ob,ho,hx⟩)
   .exact .inl h
   .refine .inr ⟨ρ o,bb ρ ob,by rw[cD hi,ho];rfl,?_⟩;unfold a6 at hx |-;rwa [t1 o (hG o ob ho)] at hx
  .rintro (h | ⟨q,ob,hq,hx⟩)
   .exact .inl h
   .obtain⟨o,rfl⟩:=eY G q ob hq;rw[cD hi] at hq;obtain⟨SN,ho,_⟩:=Option.map_eq_some_iff.1 hq;refine .inr ⟨o,SN,ho,?_⟩;unfold a6 at hx |-;rwa [t1 o (hG o SN ho)]
 have Uy:∀ o ob,assoc H o=some ob->o<n:=λ o ob ho=>(jD hH o ob ho).1;have h0:aQ ⟨C'.w0,C'.F,C'.own,C'.hF,C'.nt,σt,n⟩ σt ⟨(enter args).env,H,n⟩ a w:=by
  have hK:cL w w (FB C' U (bz ρ H)) (FB ⟨C'.w0,C'.F,C'.own,C'.hF,C'.nt,σt,n⟩ σt H):=cL.same λ b hx=>(UN H Uy b).1 hx;refine⟨hr.pB,hr.tm,hr.os,hr.tape,hr.output,hr.size,hr.frame,?_,?_,?_,λ o ho=>t2 o ho,λ _ _=>rfl,Nat.le_refl _,λ o B b ho hB _=>by rw[t2 o ho] at hB;cases hB⟩
  .intro t c hc;obtain⟨v,k1,k2⟩:=hr.env t (cO ρ c) (by rw[gz,hc];rfl);refine⟨v,k1,?_⟩;exact VR.bD hK _ _ (λ o ho=>t1 o (Sx t c o hc ho)) ((VR.dx ρ c v).1 k2)
  .intro o ob ho;obtain⟨B,m1,m2,m3,m4,m5⟩:=hr.obj (ρ o) (bb ρ ob) (by rw[cD hi,ho];rfl);have P1:=Uy o ob ho;refine⟨B,by rw[t1 o P1];exact m1,m2,λ hb=>?_,by have:=m4;simp only[bb,gI] at this;exact this,λ b hb=>?_⟩
   .have:=m3 hb;simp only[bb] at this;have hl:=gT ρ ob.cells;rw[this] at hl;exact eq_nil_of_length_eq_zero hl.symm
   .obtain⟨cur,n1,n2,n3,n4,n5,n6⟩:=m5 b hb;simp only[bb,gT] at n5 n6;refine⟨cur,n1,n2,n3,n4,n5,?_⟩;exact aZ.bD hK _ _ (λ p hp=>t1 p (fC n _ p (jD hH o ob ho).2 hp)) ((aZ.dx ρ _ _).1 n6)
  .intro o o' ob SN b ho Tc hx Ur;unfold a6 at hx Ur;rw[t1 o (Uy o ob ho)] at hx;rw[t1 o' (Uy o' SN Tc)] at Ur;exact hi _ _ (hr.inj (ρ o) (ρ o') (bb ρ ob) (bb ρ SN) b (by rw[cD hi,ho];rfl) (by rw[cD hi,Tc];rfl) hx Ur)
 refine wp_mono (hT ⟨C'.w0,C'.F,C'.own,C'.hF,C'.nt,σt,n⟩ hC rfl a w ⟨_,h0⟩) λ e a' w' ⟨s1,q,σ1,TU⟩=>?_;have fin:aa ⟨C'.w0,C'.F,C'.own,C'.hF,C'.nt,σt,n⟩ (λ s'=>∃ r,bJ av fn s'=some r/\R r s') s1 ->
   ∃ s',aa C' (λ s'=>∃ r,bJ av fn s'=some r/\∃ r1 s1,R r1 s1/\r=cO ρ r1/\s'=⟨cq ρ s1.env,bz ρ s1.heap,n' + d⟩) s'/\Rel C' s' a' w':=λ⟨s2,⟨r,q1,q2⟩,hle⟩=>by
  obtain⟨σ2,Tb⟩:=hle _ _ ⟨σ1,TU⟩;have Wv:=hR r s2 q2;obtain⟨e2,H2,n2⟩:=s2;simp only at Wv;subst Wv;obtain⟨σn,hσn⟩:∃ σn:Nat->Option OB,σn=λ q=>if q<n' then U q else σ2 (q-n' + n):=⟨_,rfl⟩
  have u1:∀ q,q<n'->σn q=U q:=λ q hq=>by rw[hσn];exact if_pos hq
  have u2:∀ q,n'<=q->σn q=σ2 (q-n' + n):=λ q hq=>by rw[hσn];exact if_neg yA
  have u3:∀ o,σn (ρ o)=σ2 o:=λ o=>by
   rcases Nat.lt_or_ge o n with ho | ho
   .rw[u1 _ (hρ o ho),<- t1 o ho];exact (Tb.gH o ho).symm
   .rw[hρ2 o ho,u2 _ yA];congr 1;omega
  have TW:∀ o,a6 σn (ρ o)=a6 σ2 o:=λ o=>by unfold a6;rw[u3]
  have X6:∀ b,FB C' σn (bz ρ H2) b->FB ⟨C'.w0,C'.F,C'.own,C'.hF,C'.nt,σt,n⟩ σ2 H2 b:=by
   rintro b (h | ⟨q,ob,hq,hx⟩)
   .exact .inl h
   .obtain⟨o,rfl⟩:=eY H2 q ob hq;rw[cD hi] at hq;obtain⟨SN,ho,_⟩:=Option.map_eq_some_iff.1 hq;exact .inr ⟨o,SN,ho,by rwa [TW] at hx⟩
  have hK:cL w' w' (FB ⟨C'.w0,C'.F,C'.own,C'.hF,C'.nt,σt,n⟩ σ2 H2) (FB C' σn (bz ρ H2)):=cL.same λ b hx=>X6 b hx;refine⟨⟨cq ρ e2,bz ρ H2,n' + d⟩,aa.here ⟨cO ρ r,?_,r,_,q2,rfl,rfl⟩,σn,?_⟩
  .rw[sV (n:=n+d) hi (λ t cs hc=>?_),q1]
   .rfl
   .obtain⟨v,_,k2⟩:=Tb.env t _ hc;simp only[VR,cj] at k2;obtain⟨ad,_,h3⟩:=k2;exact ah ρ cs (fH.tree cs ad h3)
  .refine⟨Tb.pB,Tb.tm,Tb.os,Tb.tape,Tb.output,Tb.size,Tb.frame,?_,?_,?_,λ q hq=>?_,λ q hq=>?_,by rw[M0];exact Nat.le_add_right _ _,λ q B b hq hB hb=>?_⟩
   .intro t c hc;simp only[gz] at hc;obtain⟨c',hd,rfl⟩:=Option.map_eq_some_iff.1 hc;obtain⟨v,k1,k2⟩:=Tb.env t c' hd;exact⟨v,k1,(VR.dx ρ c' v).2 (VR.bD hK _ _ (λ o _=>u3 o) k2)⟩
   .intro q ob hq;obtain⟨o,rfl⟩:=eY H2 q ob hq;simp only[cD hi] at hq;obtain⟨SN,ho,rfl⟩:=Option.map_eq_some_iff.1 hq;obtain⟨B,m1,m2,m3,m4,m5⟩:=Tb.obj o SN ho;refine⟨B,by rw[u3];exact m1,m2,λ hb=>by simp only[bb,m3 hb];rfl,by simp only[bb,gI];exact m4,λ b hb=>?_⟩;obtain⟨cur,n1,n2',n3,n4,n5,n6⟩:=m5 b hb;simp only[bb,gT];exact⟨cur,n1,n2',n3,n4,n5,(aZ.dx ρ _ _).2 (aZ.bD hK _ _ (λ p _=>u3 p) n6)⟩
   .intro q q' ob SN b hq UH hx Ur;obtain⟨o,rfl⟩:=eY H2 q ob hq;obtain⟨o',rfl⟩:=eY H2 q' SN UH;simp only[cD hi] at hq UH;obtain⟨x,ho,_⟩:=Option.map_eq_some_iff.1 hq;obtain⟨x',Tc,_⟩:=Option.map_eq_some_iff.1 UH;rw[TW] at hx Ur;rw[Tb.inj o o' x x' b ho Tc hx Ur]
   .simp only at hq;rw[u2 q yA];exact Tb.nx _ yBx
   .rw[M0] at hq;rw[u1 q hq];exact hr.gH q (by rw[M0];exact hq)
   .rw[M0] at hq;rw[u2 q hq] at hB;exact Tb.new _ B b yBx hB hb
 cases e with
 | normal=>exact fin q
 | ret=>exact fin q
 | exit _=>exact q.elim
 | goto _=>exact q.elim
 | panic _=>exact q.elim
 | outgrown=>exact q.elim
def bU (l:List Nat)(m p:Nat):Nat:=if p<l.length then l.getD p 0 else p-l.length+m
def IU (l:List Nat)(m:Nat):Bool:=l.all (λ x=>decide (x<m)) && decide ((l.zipIdx).all λ x=>(l.zipIdx).all λ y=>x.1 != y.1 || x.2 == y.2)
theorem EU {l:List Nat}{m:Nat}(h:IU l m=true):∀ p,p<l.length->bU l m p<m:=by
 intro p hp;simp only[IU,Bool.and_eq_true,all_eq_true,decide_eq_true_eq] at h;unfold bU;rw[if_pos hp,getD_eq_getElem?_getD,getElem?_eq_getElem hp];exact h.1 _ (getElem_mem hp)
theorem Gn {l:List Nat}{m:Nat}(h:IU l m=true):∀ x y,bU l m x=bU l m y->x=y:=by
 intro x y U3;have P1:=EU h;rcases Nat.lt_or_ge x l.length with hx | hx<;>rcases Nat.lt_or_ge y l.length with hy | hy
 .simp only[IU,Bool.and_eq_true,decide_eq_true_eq,all_eq_true] at h;have h2:=h.2;unfold bU at U3;rw[if_pos hx,if_pos hy,getD_eq_getElem?_getD,getD_eq_getElem?_getD,getElem?_eq_getElem hx,getElem?_eq_getElem hy] at U3;have mx:(l[x],x)∈l.zipIdx:=mk_mem_zipIdx_iff_getElem?.2 (getElem?_eq_getElem hx);have my:(l[y],y)∈l.zipIdx:=mk_mem_zipIdx_iff_getElem?.2 (getElem?_eq_getElem hy);have:=h2 _ mx _ my;simp only[Option.getD_some] at U3
  simpa [U3] using this
 .have h1:=P1 x hx;have h2:bU l m y=y-l.length+m:=if_neg yA;omega
 .have h1:=P1 y hy;have h2:bU l m x=x-l.length+m:=if_neg yA;omega
 .have h1:bU l m x=x-l.length+m:=if_neg yA;have h2:bU l m y=y-l.length+m:=if_neg yA;omega
theorem Body.retN {f:FuncId}{args:List CV}{H H1:List (Nat×Ob)}{n m d:Nat}{r0:CV}(l:List Nat)(hl:l.length=n)(h:Body P av f args H n (iO r0 H1 (n+d)))(hk:IU l m=true)(hr:ba n args=true)(hH:dn n H=true)(ht:tree r0=true) :
  Body P av f (aX (bU l m) args) (bz (bU l m) H) m (iO r0 (bz (bU l m) H1) (m+d)):=by
 subst hl;refine (Body.grow (Gn hk) (EU hk) (λ p hp=>if_neg yA) h hr hH λ r s h=>h.2.2).ret λ r s ⟨r1,s1,h1,h2,h3⟩=>?_;obtain⟨k1,k2,k3⟩:=h1;subst h3;rw[h2,k1,iW _ _ ht,k2];exact⟨rfl,rfl,rfl⟩
def oy (ks:List Nat)(m:Nat)(H D:List (Nat×Ob)):Bool:=(H.all λ x=>ks.contains x.1 || decide (m<=x.1)) && D.all λ x=>decide (x.1<m)
theorem TL.yk (UT:aF P av){o:Oper}{l:List Oper}{c:Call}{g:FuncId}{args:List CV}{K:St->Prop}{r0:CV}{H H1:List (Nat×Ob)}(ns ks:List Nat)(n d:Nat)(hb:Body P av g args H n (iO r0 H1 (n+d)))(hl:ns.length=n)(hk:IU ns s.nx=true)(hd:bj C.nt o.dst=true)(hg:ca ops s o=Option.some true)(ho:o.op=.call c)(SP:bK s c=Option.some (g,aX (bU ns s.nx) args))
  (hp:eZ s.heap ks=Option.some (bz (bU ns s.nx) H)) (ha:ba n args=true) (hH:dn n H=true) (ht:tree r0=true) (hx:oy ks s.nx (bz (bU ns s.nx) H1) (eA s.heap ks)=true)
  (hK:TL P C ops l (St.put ⟨s.env,bz (bU ns s.nx) H1++eA s.heap ks,s.nx+d⟩ o.dst r0) K):TL P C ops (o::l) s K:=by
 intro a w Q hr hQ;have hw:=eW hr hg;obtain⟨U,hr⟩:=hr;unfold wpList;rw[if_pos hw];refine .inl ?_;have SS:=hb.retN ns hl hk ha hH ht;have hen:ka P g:=by
  obtain⟨fn,code,hf,T5,Tu,_⟩:=SS;exact⟨fn,hf,Tu,by simp[T5]⟩
 simp only[oy,Bool.and_eq_true,all_eq_true,Bool.or_eq_true,decide_eq_true_eq] at hx;refine s8 UT (pM.of hp) (ql.value ho SP hen) SS ?_ hr _ _ ?_
 .rintro r s1 ⟨_,h1,_⟩ p ob SN h2 h3;rw[h1] at h2;have m3:=hx.2 _ (bA _ _ _ h3);rw[fA] at h3;rcases hx.1 _ (bA _ _ _ h2) with hm | hm
  .rw[if_pos (by simpa using hm)] at h3;cases h3
  .simp only at m3 hm;omega
 .rintro r s1 v w' σ' ⟨h1,h2,h3⟩ S0 hv _;subst h1;rw[h2,h3] at S0;rw[h2] at hv;refine hK _ w' Q ⟨σ',S0.put ?_ hv⟩ hQ;intro t e;rw[S0.tm];rw[e] at hd
  simpa [bj] using hd
end
section
variable {P:Program}{C:Cx}{s:St}
def ec (m:List (Nat×Nat))(n p:Nat):Nat:=match assoc m p with
 | some t=>t
 | none=>p+n
def lF (m:List (Nat×Nat)):CV->Bool
 | .a7 p _ _=>(assoc m p).isSome
 | .ax p _=>(assoc m p).isSome
 | .mp p _=>(assoc m p).isSome
 | c=>tree c
def mZ (m:List (Nat×Nat)):CV->Bool
 | .agg cs=>cs.all (lF m)
 | .cF cs=>cs.all (lF m)
 | c=>lF m c
theorem K0 {m:List (Nat×Nat)}{c:CV}(h:lF m c=true)(o:Nat)(ho:aS o c=false):(assoc m o).isSome=true:=by
 have ht:tree c=true->False:=λ ht=>by rw[nE o c ht] at ho;cases ho
 cases c with
 | a7 p _ _=>
  simp only[aS,bne_eq_false_iff_eq] at ho;subst ho;exact h
 | ax p _=>
  simp only[aS,bne_eq_false_iff_eq] at ho;subst ho;exact h
 | mp p _=>
  simp only[aS,bne_eq_false_iff_eq] at ho;subst ho;exact h
 | _=>exact (ht h).elim
theorem wv {m:List (Nat×Nat)}:∀ {cs:List CV},cs.all (lF m)=true->∀ o,ej o cs=false->(assoc m o).isSome=true
 | [],_,o,ho=>by simp[ej] at ho
 | c::cs,h,o,ho=>by
  simp only[all_cons,Bool.and_eq_true] at h;simp only[ej,Bool.and_eq_false_iff] at ho;rcases ho with ho | ho
  .exact K0 h.1 o ho
  .exact wv h.2 o ho
theorem QJ {m:List (Nat×Nat)}{c:CV}(h:mZ m c=true)(o:Nat)(ho:aS o c=false):(assoc m o).isSome=true:=by
 cases c with
 | agg cs=>exact wv h o yCh
 | cF cs=>exact wv h o yCh
 | _=>exact K0 (m:=m) (by simpa only[mZ] using h) o ho
theorem au {cs:List CV}(h:trees cs=true)(m:List (Nat×Nat)):cs.all (lF m)=true:=all_eq_true.2 λ c hc=>by
 have:=ju h c hc;cases c<;>first | exact this | simp[tree] at this
def cB (s:St)(ks:List Nat)(m:List (Nat×Nat))(_k _n:Nat):Bool:=
 (pick s.env ks).all (λ x=>mZ m x.2) && ((pick s.heap (m.map (·.1))).all λ x=>x.2.cells.all (lF m))
def xJ (m:List (Nat×Nat))(k n:Nat):Bool:=
 decide (m.map (·.2)).Nodup && decide (m.map (·.1)).Nodup && decide (k<=n) && m.all λ x=>decide (x.2<n) && (x.1 == x.2 || decide (k<=x.2))
theorem gy {m:List (Nat×Nat)}{p t:Nat}(h:assoc m p=some t):(p,t)∈m:=bA m p t h
theorem tJ:∀ {m:List (Nat×Nat)} {p t:Nat},(m.map (·.1)).Nodup->(p,t)∈m->assoc m p=some t
 | [],_,_,_,h=>by cases h
 | (a,b)::r,p,t,hn,h=>by
  simp only[map_cons,nodup_cons] at hn;simp only[assoc];rcases mem_cons.1 h with e | h
  .cases e;rw[if_pos rfl]
  .rw[if_neg,tJ hn.2 h];intro e;subst e;exact hn.1 (mem_map_of_mem (f:=(·.1)) h)
theorem As:∀ {m:List (Nat×Nat)} {p q t:Nat},(m.map (·.2)).Nodup->(p,t)∈m->(q,t)∈m->p=q
 | [],_,_,_,_,h,_=>by cases h
 | (a,b)::r,p,q,t,hn,h,h'=>by
  simp only[map_cons,nodup_cons] at hn;rcases mem_cons.1 h with e | h1<;>rcases mem_cons.1 h' with e' | h2
  .cases e;cases e';rfl
  .cases e;exact (hn.1 (mem_map_of_mem (f:=(·.2)) h2)).elim
  .cases e';exact (hn.1 (mem_map_of_mem (f:=(·.2)) h1)).elim
  .exact As hn.2 h1 h2
theorem M3 {m:List (Nat×Nat)}{k n:Nat}(h:xJ m k n=true):∀ x y,ec m n x=ec m n y->x=y:=by
 simp only[xJ,Bool.and_eq_true,decide_eq_true_eq,all_eq_true,Bool.or_eq_true,beq_iff_eq] at h;obtain⟨⟨⟨h1,h2⟩,h3⟩,h4⟩:=h;intro x y U3;unfold ec at U3
 cases hx:assoc m x with
 | none=>
  cases hy:assoc m y with
  | none=>simp only[hx,hy] at U3;omega
  | some t=>
   have:=(h4 _ (gy hy)).1;simp only[hx,hy] at U3;omega
 | some t=>
  have:=(h4 _ (gy hx)).1
  cases hy:assoc m y with
  | none=>simp only[hx,hy] at U3;omega
  | some t'=>
   simp only[hx,hy] at U3;subst U3;exact As h1 (gy hx) (gy hy)
def wY (m:List (Nat×Nat))(q:Nat):Option Nat:=(m.find? λ x=>x.2 == q).map (·.1)
theorem JD {m:List (Nat×Nat)}(hn:(m.map (·.2)).Nodup){p t:Nat}(h:(p,t)∈m):wY m t=some p:=by
 unfold wY
 cases hf:m.find? λ x=>x.2 == t with
 | none=>
  rw[find?_eq_none] at hf;exact (hf _ h xr).elim
 | some x=>
  obtain⟨a,b⟩:=x;have h1:=mem_of_find?_eq_some hf;have h2:=find?_some hf;simp only[beq_iff_eq] at h2;subst h2;simp only[Option.map_some];rw[As hn h1 h]
theorem zg {m:List (Nat×Nat)}{p t:Nat}(h:wY m t=some p):(p,t)∈m:=by
 unfold wY at h;obtain⟨⟨a,b⟩,h1,h2⟩:=Option.map_eq_some_iff.1 h;have h3:=mem_of_find?_eq_some h1;have h4:=find?_some h1;simp only[beq_iff_eq] at h4;subst h4;subst h2;exact h3
theorem Le.norm (ks:List Nat)(m:List (Nat×Nat))(k n:Nat)(hm:xJ m k n=true)(hs:(m.all λ x=>(assoc s.heap x.1).isSome || decide (k<=x.1) || x.1 == x.2)=true)(hk:cB s ks m k n=true)(Vt:C.n0<=k) :
  Le C s ⟨cq (ec m n) (pick s.env ks),bz (ec m n) (pick s.heap (m.map (·.1))),n⟩:=by
 intro a w ⟨U,hr⟩;have hi:=M3 hm;have Yx:=hm;simp only[xJ,Bool.and_eq_true,decide_eq_true_eq,all_eq_true,Bool.or_eq_true,beq_iff_eq] at Yx;obtain⟨⟨⟨h1,h2⟩,h3⟩,h4⟩:=Yx;simp only[cB,Bool.and_eq_true] at hk;obtain⟨Y0,hkh⟩:=hk;rw[all_eq_true] at Y0 hkh hs
 obtain⟨σ',hσ⟩:∃ σ':Nat->Option OB,∀ q,σ' q=if q<C.n0 then U q else match wY m q with
   | some o=>U o
   | none=>none:=⟨_,λ _=>rfl⟩
 have s1:∀ o t,assoc m o=some t->σ' (ec m n o)=U o:=λ o t ho=>by
  have Ub:=gy ho;have e:ec m n o=t:=by unfold ec;rw[ho]
  rw[e,hσ];split
  .rename_i P1;rcases (h4 _ Ub).2 with h | h
   .simp only at h;rw[h]
   .simp only at h;omega
  .rw[JD h1 Ub]
 have s2:∀ o,(assoc m o).isSome=true->σ' (ec m n o)=U o:=λ o ho=>by
  obtain⟨t,ht⟩:=Option.isSome_iff_exists.1 ho;exact s1 o t ht
 have VO:∀ o ob,assoc (pick s.heap (m.map (·.1))) o=some ob->assoc s.heap o=some ob/\(assoc m o).isSome=true/\ob.cells.all (lF m)=true:=λ o ob ho=>by
  refine⟨fh _ _ _ _ ho,?_,hkh _ (bA _ _ _ ho)⟩;have Ub:=bA _ _ _ ho;have:∀ (ks:List Nat) (x:Nat×Ob),x∈pick s.heap ks->x.1∈ks:=by
   intro ks
   induction ks with
   | nil=>intro x hx;simp[pick] at hx
   | cons a r ih=>
    intro x hx;simp only[pick] at hx;split at hx
    .rcases mem_cons.1 hx with e | hx
     .subst e;exact mem_cons_self
     .exact mem_cons_of_mem _ (ih x hx)
    .exact mem_cons_of_mem _ (ih x hx)
  have TF:=this _ _ Ub;simp only[mem_map] at TF;obtain⟨⟨p,t⟩,hp,rfl⟩:=TF;simp only;rw[tJ h2 hp];rfl
 have TW:∀ o,(assoc m o).isSome=true->a6 σ' (ec m n o)=a6 U o:=λ o ho=>by unfold a6;rw[s2 o ho]
 have hF:∀ b,FB C σ' (bz (ec m n) (pick s.heap (m.map (·.1)))) b->FB C U s.heap b:=by
  rintro b (hb | ⟨q,ob,hq,hb⟩)
  .exact .inl hb
  .obtain⟨o,rfl⟩:=eY _ q ob hq;rw[cD hi] at hq;obtain⟨SN,ho,_⟩:=Option.map_eq_some_iff.1 hq;obtain⟨g1,g2,_⟩:=VO o SN ho;exact .inr ⟨o,SN,g1,by rwa [TW o g2] at hb⟩
 have hkp:cL w w (FB C U s.heap) (FB C σ' (bz (ec m n) (pick s.heap (m.map (·.1))))):=cL.same hF;refine⟨σ',hr.pB,hr.tm,hr.os,hr.tape,hr.output,hr.size,hr.frame,?_,?_,?_,?_,?_,Nat.le_trans Vt h3,?_⟩
 .intro t c hc;simp only[gz] at hc;obtain⟨d,hd,rfl⟩:=Option.map_eq_some_iff.1 hc;obtain⟨v,k1,k2⟩:=hr.env t d (fh _ _ _ _ hd);refine⟨v,k1,(VR.dx _ d v).2 (VR.bD hkp _ _ (λ o ho=>s2 o (QJ (Y0 _ (bA _ _ _ hd)) o ho)) k2)⟩
 .intro q ob hq;obtain⟨o,rfl⟩:=eY _ q ob hq;simp only[cD hi] at hq;obtain⟨SN,ho,rfl⟩:=Option.map_eq_some_iff.1 hq;obtain⟨g1,g2,g3⟩:=VO o SN ho;obtain⟨B,m1,m2,m3,m4,m5⟩:=hr.obj o SN g1;refine⟨B,by rw[s2 o g2];exact m1,m2,λ hb=>by simp only[bb,m3 hb];rfl,by simp only[bb,gI];exact m4,λ b hb=>?_⟩;obtain⟨cur,n1,n2',n3,n4,n5,n6⟩:=m5 b hb;simp only[bb,gT];exact⟨cur,n1,n2',n3,n4,n5,(aZ.dx _ _ _).2 (aZ.bD hkp _ _ (λ p hp=>s2 p (wv g3 p hp)) n6)⟩
 .intro q q' ob SN b hq UH hx Ur;obtain⟨o,rfl⟩:=eY _ q ob hq;obtain⟨o',rfl⟩:=eY _ q' SN UH;simp only[cD hi] at hq UH;obtain⟨x,ho,_⟩:=Option.map_eq_some_iff.1 hq;obtain⟨x',Tc,_⟩:=Option.map_eq_some_iff.1 UH;obtain⟨g1,g2,_⟩:=VO o x ho;obtain⟨g1',g2',_⟩:=VO o' x' Tc;rw[TW o g2] at hx;rw[TW o' g2'] at Ur;rw[hr.inj o o' x x' b g1 g1' hx Ur]
 .intro q hq;simp only at hq;rw[hσ,if_neg yA]
  cases hsq:wY m q with
  | none=>rfl
  | some o=>
   have:=(h4 _ (zg hsq)).1;simp only at this;omega
 .intro q hq;rw[hσ,if_pos hq];exact hr.gH q hq
 .intro q B b hq hB hb;rw[hσ,if_neg yA] at hB
  cases hsq:wY m q with
  | none=>rw[hsq] at hB;cases hB
  | some o=>
   rw[hsq] at hB;simp only at hB;have hex:=hs _ (zg hsq);simp only[Bool.or_eq_true,decide_eq_true_eq,beq_iff_eq] at hex;rcases hex with (hex | hex) | hex
   rotate_left
   .exact hr.new o B b (Nat.le_trans Vt hex) hB hb
   .subst hex;exact hr.new o B b yA hB hb
   obtain⟨ob,Uv⟩:=Option.isSome_iff_exists.1 hex;obtain⟨B',m1,_,_,_,m5⟩:=hr.obj o ob Uv;rw[m1] at hB;cases hB;obtain⟨cur,_,_,_,n4,_⟩:=m5 b hb;exact n4
variable {ops:Array Oper}{av:List (Nat×TI)}{W:List u5}{nt N:Nat}{dyn:List (Nat×Nat)}{K:St->Prop}{i:Nat}{r:List Nat}{res:Nat->Er}
def sZ (ks eT:List Nat)(m:Nat)(H1:List (Nat×Ob)):Bool:=(H1.all λ x=>ks.contains x.1 || (decide (m<=x.1) && eT.contains x.1)) && eT.all λ p=>ks.contains p || (assoc H1 p).isSome
theorem RX.yk {o:Oper}{cl:Call}{g:FuncId}{args:List CV}{r0:CV}{H H1:List (Nat×Ob)}(ns ks eT:List Nat)(n d:Nat)(hb:Body P av g args H n (iO r0 H1 (n+d)))(hl:ns.length=n)(hk:IU ns s.nx=true)(hi:ops[i]? = Option.some o)(hd:bj nt o.dst=true)(hg:ca ops s o=Option.some true)(hu:cz o=Option.some cl)
  (SP:bK s cl=Option.some (g,aX (bU ns s.nx) args)) (hp:eZ s.heap ks=Option.some (bz (bU ns s.nx) H)) (ha:ba n args=true) (hH:dn n H=true) (ht:tree r0=true) (hv:Bq dyn res i ks=true) (hc:sZ ks eT s.nx (bz (bU ns s.nx) H1)=true)
  (hs:∀ p∈ks,p∉eT->assoc (bz (bU ns s.nx) H1) p=assoc (bz (bU ns s.nx) H) p)
  (hK:vQ W dyn res i (jg r0 ks eT d (bz (bU ns s.nx) H1))/\nL av W nt ops N dyn (Ez P av W nt ops N dyn K) r (note dyn res i (jg r0 ks eT d (bz (bU ns s.nx) H1))) (St.put ⟨s.env,bz (bU ns s.nx) H1++eA s.heap ks,s.nx+d⟩ o.dst r0)):RX P av W nt ops N dyn K (i::r) res s:=by
 simp only[sZ,Bool.and_eq_true,all_eq_true,Bool.or_eq_true,decide_eq_true_eq] at hc;refine RX.body ks eT d hi hd hg hu SP hp (hb.retN ns hl hk ha hH ht) hv ?_ ?_
 .rintro v s1 ⟨_,h2,h3⟩;refine⟨h3,λ p ob hpo=>?_,λ p gQ=>?_,λ p gQ=>?_⟩
  .rw[h2] at hpo;rcases hc.1 _ (bA _ _ _ hpo) with h | h
   .exact .inl UA
   .exact .inr h.1
  .rw[h2];by_cases hm:p∈ks
   .exact hs p hm gQ
   .obtain⟨i1,_⟩:=kQ hp;have e1:assoc (bz (bU ns s.nx) H) p=none:=by
     cases h4:assoc (bz (bU ns s.nx) H) p with
     | none=>rfl
     | some y=>exact (hm (i1 p y h4).1).elim
    have e2:assoc (bz (bU ns s.nx) H1) p=none:=by
     cases h4:assoc (bz (bU ns s.nx) H1) p with
     | none=>rfl
     | some y=>
      rcases hc.1 _ (bA _ _ _ h4) with h | h
      .exact (hm UA).elim
      .exact (gQ (by simpa using h.2)).elim
    rw[e1,e2]
  .rw[h2];rcases hc.2 p gQ with h | h
   .exact .inl UA
   .exact .inr h
 .rintro v s1 ⟨h1,h2,_⟩;subst h1;rw[h2];exact hK
attribute [simp] sZ jg
end
end Go.Can
