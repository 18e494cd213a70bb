/- Calls of contracts that leave new objects: the numbers of th -/
import Derived.Test.YtnecpnjdonibmaaGreatZ21
namespace Go.Can
open Go.RowKit
section
variable {P:Program}{C:Cx}{σ:Nat→Option OB}{s:St}{a:Act}{w:World}{ops:Array Oper}{au:List (Nat×TI)}
theorem Body.grow {ρ:Nat→Nat}(hi:∀ x y,ρ x=ρ y→x=y){f:FuncId}{args:List CV}{H:List (Nat×Ob)}{n n' d:Nat}{R:CV→St→Prop}(hρ:∀ p,p<n→ρ p<n')(hρ2:∀ p,n≤p→ρ p=p-n+n')(h:Body P au f args H n R)(ha:aS n args=true)(hH:cT n H=true)(hR:∀ r s,R r s→s.nx=n+d) :
  Body P au f (cq ρ args) (cb ρ H) n' fun r s=>∃ r1 s1,R r1 s1∧r=dR ρ r1∧s=⟨dC ρ s1.env,cb ρ s1.heap,n' + d⟩:=by
 obtain⟨fn,c,hf,hb,QH,hl,hT⟩:=h;refine⟨fn,c,hf,hb,QH,by rw[fI];exact hl,fun C' hC PN a w ⟨σ,hr⟩=>?_⟩;rw[wF] at hr;have PT:∀ (t:Nat) c o,assoc (enter args).env t=some c→aK o c=false→o<n:=fun t c o hc ho=>by
  obtain⟨_,h2⟩:=eI args 0 t c hc;have hm:c∈args:=List.mem_of_getElem? h2;rw[cr,List.all_eq_true] at ha;exact kO n c o (ha c hm) ho
 obtain⟨σt,hσt⟩:∃ σt:Nat→Option OB,σt=below (fun p=>σ (ρ p)) n fun _=>none:=⟨_,rfl⟩;have t1:∀ p,p<n→σt p=σ (ρ p):=fun p hp=>by rw[hσt];exact fM hp
 have t2:∀ p,n≤p→σt p=none:=fun p hp=>by rw[hσt];exact jI hp
 have QB:∀ (G:List (Nat×Ob)),(∀ o ob,assoc G o=some ob→o<n)→∀ b,(C'.F b∨∃ o ob,assoc G o=some ob∧aT σt o=some b)↔FB C' σ (cb ρ G) b:=fun G hG b=>by
  unfold FB;constructor
  ·rintro (h | ⟨o,ob,ho,hx⟩)
   ·exact .inl h
   ·refine .inr ⟨ρ o,ct ρ ob,by rw[ca hi,ho];rfl,?_⟩;unfold aT at hx ⊢;rwa [t1 o (hG o ob ho)] at hx
  ·rintro (h | ⟨q,ob,hq,hx⟩)
   ·exact .inl h
   ·obtain⟨o,rfl⟩:=dM G q ob hq;rw[ca hi] at hq;obtain⟨P6,ho,_⟩:=Option.map_eq_some_iff.1 hq;refine .inr ⟨o,P6,ho,?_⟩;unfold aT at hx ⊢;rwa [t1 o (hG o P6 ho)]
 have RL:∀ o ob,assoc H o=some ob→o<n:=fun o ob ho=>(ib hH o ob ho).1;have h0:aL ⟨C'.w0,C'.F,C'.own,C'.hF,C'.nt,σt,n⟩ σt ⟨(enter args).env,H,n⟩ a w:=by
  have hK:ck w w (FB C' σ (cb ρ H)) (FB ⟨C'.w0,C'.F,C'.own,C'.hF,C'.nt,σt,n⟩ σt H):=ck.same fun b hx=>(QB H RL b).1 hx;refine⟨hr.mD,hr.tm,hr.os,hr.tape,hr.output,hr.size,hr.frame,?_,?_,?_,fun o ho=>t2 o ho,fun _ _=>rfl,Nat.le_refl _,fun o B b ho hB _=>by rw[t2 o ho] at hB;cases hB⟩
  ·intro t c hc;obtain⟨v,k1,k2⟩:=hr.env t (dR ρ c) (by rw[e9,hc];rfl);refine⟨v,k1,?_⟩;exact VR.bg hK _ _ (fun o ho=>t1 o (PT t c o hc ho)) ((VR.cP ρ c v).1 k2)
  ·intro o ob ho;obtain⟨B,m1,m2,m3,m4,m5⟩:=hr.obj (ρ o) (ct ρ ob) (by rw[ca hi,ho];rfl);have PQ:=RL o ob ho;refine⟨B,by rw[t1 o PQ];exact m1,m2,fun hb=>?_,by have:=m4;simp only[ct,fv] at this;exact this,fun b hb=>?_⟩
   ·have:=m3 hb;simp only[ct] at this;have hl:=fI ρ ob.cells;rw[this] at hl;exact List.eq_nil_of_length_eq_zero hl.symm
   ·obtain⟨cur,n1,n2,n3,n4,n5,n6⟩:=m5 b hb;simp only[ct,fI] at n5 n6;refine⟨cur,n1,n2,n3,n4,n5,?_⟩;exact aN.bg hK _ _ (fun p hp=>t1 p (ep n _ p (ib hH o ob ho).2 hp)) ((aN.cP ρ _ _).1 n6)
  ·intro o o' ob P6 b ho Qu hx RD;unfold aT at hx RD;rw[t1 o (RL o ob ho)] at hx;rw[t1 o' (RL o' P6 Qu)] at RD;exact hi _ _ (hr.inj (ρ o) (ρ o') (ct ρ ob) (ct ρ P6) b (by rw[ca hi,ho];rfl) (by rw[ca hi,Qu];rfl) hx RD)
 refine wp_mono (hT ⟨C'.w0,C'.F,C'.own,C'.hF,C'.nt,σt,n⟩ hC rfl a w ⟨_,h0⟩) fun e a' w' ⟨s1,q,σ1,QG⟩=>?_;have fin:aa ⟨C'.w0,C'.F,C'.own,C'.hF,C'.nt,σt,n⟩ (fun s'=>∃ r,bD au fn s'=some r∧R r s') s1 →
   ∃ s',aa C' (fun s'=>∃ r,bD au fn s'=some r∧∃ r1 s1,R r1 s1∧r=dR ρ r1∧s'=⟨dC ρ s1.env,cb ρ s1.heap,n' + d⟩) s'∧Rel C' s' a' w':=fun⟨s2,⟨r,q1,q2⟩,hle⟩=>by
  obtain⟨σ2,Qg⟩:=hle _ _ ⟨σ1,QG⟩;have Tv:=hR r s2 q2;obtain⟨e2,H2,n2⟩:=s2;simp only at Tv;subst Tv;obtain⟨σn,hσn⟩:∃ σn:Nat→Option OB,σn=fun q=>if q<n' then σ q else σ2 (q-n' + n):=⟨_,rfl⟩
  have u1:∀ q,q<n'→σn q=σ q:=fun q hq=>by rw[hσn];exact if_pos hq
  have u2:∀ q,n'≤q→σn q=σ2 (q-n' + n):=fun q hq=>by rw[hσn];exact if_neg yA
  have u3:∀ o,σn (ρ o)=σ2 o:=fun o=>by
   rcases Nat.lt_or_ge o n with ho | ho
   ·rw[u1 _ (hρ o ho),← t1 o ho];exact (Qg.gy o ho).symm
   ·rw[hρ2 o ho,u2 _ yA];congr 1;omega
  have hblk:∀ o,aT σn (ρ o)=aT σ2 o:=fun o=>by unfold aT;rw[u3]
  have U4:∀ b,FB C' σn (cb ρ H2) b→FB ⟨C'.w0,C'.F,C'.own,C'.hF,C'.nt,σt,n⟩ σ2 H2 b:=by
   rintro b (h | ⟨q,ob,hq,hx⟩)
   ·exact .inl h
   ·obtain⟨o,rfl⟩:=dM H2 q ob hq;rw[ca hi] at hq;obtain⟨P6,ho,_⟩:=Option.map_eq_some_iff.1 hq;exact .inr ⟨o,P6,ho,by rwa [hblk] at hx⟩
  have hK:ck w' w' (FB ⟨C'.w0,C'.F,C'.own,C'.hF,C'.nt,σt,n⟩ σ2 H2) (FB C' σn (cb ρ H2)):=ck.same fun b hx=>U4 b hx;refine⟨⟨dC ρ e2,cb ρ H2,n' + d⟩,aa.here ⟨dR ρ r,?_,r,_,q2,rfl,rfl⟩,σn,?_⟩
  ·rw[pB (n:=n+d) hi (fun t cs hc=>?_),q1]
   ·rfl
   ·obtain⟨v,_,k2⟩:=Qg.env t _ hc;simp only[VR,ch] at k2;obtain⟨ad,_,h3⟩:=k2;exact ay ρ cs (fN.tree cs ad h3)
  ·refine⟨Qg.mD,Qg.tm,Qg.os,Qg.tape,Qg.output,Qg.size,Qg.frame,?_,?_,?_,fun q hq=>?_,fun q hq=>?_,by rw[PN];exact Nat.le_add_right _ _,fun q B b hq hB hb=>?_⟩
   ·intro t c hc;simp only[e9] at hc;obtain⟨c',hd,rfl⟩:=Option.map_eq_some_iff.1 hc;obtain⟨v,k1,k2⟩:=Qg.env t c' hd;exact⟨v,k1,(VR.cP ρ c' v).2 (VR.bg hK _ _ (fun o _=>u3 o) k2)⟩
   ·intro q ob hq;obtain⟨o,rfl⟩:=dM H2 q ob hq;simp only[ca hi] at hq;obtain⟨P6,ho,rfl⟩:=Option.map_eq_some_iff.1 hq;obtain⟨B,m1,m2,m3,m4,m5⟩:=Qg.obj o P6 ho;refine⟨B,by rw[u3];exact m1,m2,fun hb=>by simp only[ct,m3 hb];rfl,by simp only[ct,fv];exact m4,fun b hb=>?_⟩;obtain⟨cur,n1,Y2,n3,n4,n5,n6⟩:=m5 b hb;simp only[ct,fI];exact⟨cur,n1,Y2,n3,n4,n5,(aN.cP ρ _ _).2 (aN.bg hK _ _ (fun p _=>u3 p) n6)⟩
   ·intro q q' ob P6 b hq SO hx RD;obtain⟨o,rfl⟩:=dM H2 q ob hq;obtain⟨o',rfl⟩:=dM H2 q' P6 SO;simp only[ca hi] at hq SO;obtain⟨x,ho,_⟩:=Option.map_eq_some_iff.1 hq;obtain⟨x',Qu,_⟩:=Option.map_eq_some_iff.1 SO;rw[hblk] at hx RD;rw[Qg.inj o o' x x' b ho Qu hx RD]
   ·simp only at hq;rw[u2 q yA];exact Qg.nx _ (by simp only;omega)
   ·rw[PN] at hq;rw[u1 q hq];exact hr.gy q (by rw[PN];exact hq)
   ·rw[PN] at hq;rw[u2 q hq] at hB;exact Qg.new _ B b (by simp only;omega) hB hb
 cases e with
 | normal=>exact fin q
 | ret=>exact fin q
 | exit _=>exact q.elim
 | goto _=>exact q.elim
 | panic _=>exact q.elim
 | outgrown=>exact q.elim
def cH (l:List Nat)(m p:Nat):Nat:=if p<l.length then l.getD p 0 else p-l.length+m
def G0 (l:List Nat)(m:Nat):Bool:=l.all (fun x=>decide (x<m)) && decide ((l.zipIdx).all fun x=>(l.zipIdx).all fun y=>x.1 != y.1 || x.2 == y.2)
theorem BA {l:List Nat}{m:Nat}(h:G0 l m=true):∀ p,p<l.length→cH l m p<m:=by
 intro p hp;simp only[G0,Bool.and_eq_true,List.all_eq_true,decide_eq_true_eq] at h;unfold cH;rw[if_pos hp,List.getD_eq_getElem?_getD,List.getElem?_eq_getElem hp];exact h.1 _ (List.getElem_mem hp)
theorem CU {l:List Nat}{m:Nat}(h:G0 l m=true):∀ x y,cH l m x=cH l m y→x=y:=by
 intro x y Rn;have PQ:=BA h;rcases Nat.lt_or_ge x l.length with hx | hx<;>rcases Nat.lt_or_ge y l.length with hy | hy
 ·simp only[G0,Bool.and_eq_true,decide_eq_true_eq,List.all_eq_true] at h;have h2:=h.2;unfold cH at Rn;rw[if_pos hx,if_pos hy,List.getD_eq_getElem?_getD,List.getD_eq_getElem?_getD,List.getElem?_eq_getElem hx,List.getElem?_eq_getElem hy] at Rn;have mx:(l[x],x)∈l.zipIdx:=List.mk_mem_zipIdx_iff_getElem?.2 (List.getElem?_eq_getElem hx);have my:(l[y],y)∈l.zipIdx:=List.mk_mem_zipIdx_iff_getElem?.2 (List.getElem?_eq_getElem hy);have:=h2 _ mx _ my;simp only[Option.getD_some] at Rn
  simpa [Rn] using this
 ·have h1:=PQ x hx;have h2:cH l m y=y-l.length+m:=if_neg yA;omega
 ·have h1:=PQ y hy;have h2:cH l m x=x-l.length+m:=if_neg yA;omega
 ·have h1:cH l m x=x-l.length+m:=if_neg yA;have h2:cH l m y=y-l.length+m:=if_neg yA;omega
theorem Body.retN {f:FuncId}{args:List CV}{H H1:List (Nat×Ob)}{n m d:Nat}{r0:CV}(l:List Nat)(hl:l.length=n)(h:Body P au f args H n (iy r0 H1 (n+d)))(hk:G0 l m=true)(hr:aS n args=true)(hH:cT n H=true)(ht:tree r0=true) :
  Body P au f (cq (cH l m) args) (cb (cH l m) H) m (iy r0 (cb (cH l m) H1) (m+d)):=by
 subst hl;refine (Body.grow (CU hk) (BA hk) (fun p hp=>if_neg yA) h hr hH fun r s h=>h.2.2).ret fun r s ⟨r1,s1,h1,h2,h3⟩=>?_;obtain⟨k1,k2,k3⟩:=h1;subst h3;rw[h2,k1,gB _ _ ht,k2];exact⟨rfl,rfl,rfl⟩
def kF (ks:List Nat)(m:Nat)(H D:List (Nat×Ob)):Bool:=(H.all fun x=>ks.contains x.1 || decide (m≤x.1)) && D.all fun x=>decide (x.1<m)
theorem TL.uJ (Se:aB P au){o:Oper}{l:List Oper}{c:Call}{g:FuncId}{args:List CV}{K:St→Prop}{r0:CV}{H H1:List (Nat×Ob)}(ns ks:List Nat)(n d:Nat)(hb:Body P au g args H n (iy r0 H1 (n+d)))(hl:ns.length=n)(hk:G0 ns s.nx=true)(hd:aZ C.nt o.dst=true)(hg:bN ops s o=Option.some true)(ho:o.op=.call c)(Qb:bl s c=Option.some (g,cq (cH ns s.nx) args))
  (hp:dX s.heap ks=Option.some (cb (cH ns s.nx) H)) (ha:aS n args=true) (hH:cT n H=true) (ht:tree r0=true) (hx:kF ks s.nx (cb (cH ns s.nx) H1) (dy s.heap ks)=true)
  (hK:TL P C ops l (St.put ⟨s.env,cb (cH ns s.nx) H1++dy s.heap ks,s.nx+d⟩ o.dst r0) K):TL P C ops (o::l) s K:=by
 intro a w Q hr hQ;have hw:=dw hr hg;obtain⟨σ,hr⟩:=hr;unfold wpList;rw[if_pos hw];refine .inl ?_;have P5:=hb.retN ns hl hk ha hH ht;have Wf:Enters P g:=by
  obtain⟨fn,code,hf,Q9,QH,_⟩:=P5;exact⟨fn,hf,QH,by simp[Q9]⟩
 simp only[kF,Bool.and_eq_true,List.all_eq_true,Bool.or_eq_true,decide_eq_true_eq] at hx;refine pF Se (mL.of hp) (nw.value ho Qb Wf) P5 ?_ hr _ _ ?_
 ·rintro r s1 ⟨_,h1,_⟩ p ob P6 h2 h3;rw[h1] at h2;have m3:=hx.2 _ (bp _ _ _ h3);rw[ed] at h3;rcases hx.1 _ (bp _ _ _ h2) with hm | hm
  ·rw[if_pos (by simpa using hm)] at h3;cases h3
  ·simp only at m3 hm;omega
 ·rintro r s1 v w' σ' ⟨h1,h2,h3⟩ Qo hv _;subst h1;rw[h2,h3] at Qo;rw[h2] at hv;refine hK _ w' Q ⟨σ',Qo.put ?_ hv⟩ hQ;intro t e;rw[Qo.tm];rw[e] at hd
  simpa [aZ] using hd
end
section
variable {P:Program}{C:Cx}{s:St}
def gf (m:List (Nat×Nat))(n p:Nat):Nat:=match assoc m p with
 | some t=>t
 | none=>p+n
def p4 (m:List (Nat×Nat)):CV→Bool
 | .bj p _ _=>(assoc m p).isSome
 | .av p _=>(assoc m p).isSome
 | .mp p _=>(assoc m p).isSome
 | c=>tree c
def um (m:List (Nat×Nat)):CV→Bool
 | .agg cs=>cs.all (p4 m)
 | .dH cs=>cs.all (p4 m)
 | c=>p4 m c
theorem HB {m:List (Nat×Nat)}{c:CV}(h:p4 m c=true)(o:Nat)(ho:aK o c=false):(assoc m o).isSome=true:=by
 have ht:tree c=true→False:=fun ht=>by rw[ln o c ht] at ho;cases ho
 cases c with
 | bj p _ _=>
  simp only[aK,bne_eq_false_iff_eq] at ho;subst ho;exact h
 | av p _=>
  simp only[aK,bne_eq_false_iff_eq] at ho;subst ho;exact h
 | mp p _=>
  simp only[aK,bne_eq_false_iff_eq] at ho;subst ho;exact h
 | _=>exact (ht h).elim
theorem sq {m:List (Nat×Nat)}:∀ {cs:List CV},cs.all (p4 m)=true→∀ o,dt o cs=false→(assoc m o).isSome=true
 | [],_,o,ho=>by simp[dt] at ho
 | c::cs,h,o,ho=>by
  simp only[List.all_cons,Bool.and_eq_true] at h;simp only[dt,Bool.and_eq_false_iff] at ho;rcases ho with ho | ho
  ·exact HB h.1 o ho
  ·exact sq h.2 o ho
theorem MJ {m:List (Nat×Nat)}{c:CV}(h:um m c=true)(o:Nat)(ho:aK o c=false):(assoc m o).isSome=true:=by
 cases c with
 | agg cs=>exact sq h o Yr
 | dH cs=>exact sq h o Yr
 | _=>exact HB (m:=m) (by simpa only[um] using h) o ho
theorem aH {cs:List CV}(h:trees cs=true)(m:List (Nat×Nat)):cs.all (p4 m)=true:=List.all_eq_true.2 fun c hc=>by
 have:=gX h c hc;cases c<;>first | exact this | simp[tree] at this
def dD (s:St)(ks:List Nat)(m:List (Nat×Nat))(_k _n:Nat):Bool:=
 (pick s.env ks).all (fun x=>um m x.2) && ((pick s.heap (m.map (·.1))).all fun x=>x.2.cells.all (p4 m))
def ue (m:List (Nat×Nat))(k n:Nat):Bool:=
 decide (m.map (·.2)).Nodup && decide (m.map (·.1)).Nodup && decide (k≤n) && m.all fun x=>decide (x.2<n) && (x.1 == x.2 || decide (k≤x.2))
theorem e8 {m:List (Nat×Nat)}{p t:Nat}(h:assoc m p=some t):(p,t)∈m:=bp m p t h
theorem pN:∀ {m:List (Nat×Nat)} {p t:Nat},(m.map (·.1)).Nodup→(p,t)∈m→assoc m p=some t
 | [],_,_,_,h=>by cases h
 | (a,b)::r,p,t,hn,h=>by
  simp only[List.map_cons,List.nodup_cons] at hn;simp only[assoc];rcases List.mem_cons.1 h with e | h
  ·cases e;rw[if_pos rfl]
  ·rw[if_neg,pN hn.2 h];intro e;subst e;exact hn.1 (List.mem_map_of_mem (f:=(·.1)) h)
theorem xA:∀ {m:List (Nat×Nat)} {p q t:Nat},(m.map (·.2)).Nodup→(p,t)∈m→(q,t)∈m→p=q
 | [],_,_,_,_,h,_=>by cases h
 | (a,b)::r,p,q,t,hn,h,h'=>by
  simp only[List.map_cons,List.nodup_cons] at hn;rcases List.mem_cons.1 h with e | h1<;>rcases List.mem_cons.1 h' with e' | h2
  ·cases e;cases e';rfl
  ·cases e;exact (hn.1 (List.mem_map_of_mem (f:=(·.2)) h2)).elim
  ·cases e';exact (hn.1 (List.mem_map_of_mem (f:=(·.2)) h1)).elim
  ·exact xA hn.2 h1 h2
theorem Jp {m:List (Nat×Nat)}{k n:Nat}(h:ue m k n=true):∀ x y,gf m n x=gf m n y→x=y:=by
 simp only[ue,Bool.and_eq_true,decide_eq_true_eq,List.all_eq_true,Bool.or_eq_true,beq_iff_eq] at h;obtain⟨⟨⟨h1,h2⟩,h3⟩,h4⟩:=h;intro x y Rn;unfold gf at Rn
 cases hx:assoc m x with
 | none=>
  cases hy:assoc m y with
  | none=>simp only[hx,hy] at Rn;omega
  | some t=>
   have:=(h4 _ (e8 hy)).1;simp only[hx,hy] at Rn;omega
 | some t=>
  have:=(h4 _ (e8 hx)).1
  cases hy:assoc m y with
  | none=>simp only[hx,hy] at Rn;omega
  | some t'=>
   simp only[hx,hy] at Rn;subst Rn;exact xA h1 (e8 hx) (e8 hy)
def sU (m:List (Nat×Nat))(q:Nat):Option Nat:=(m.find? fun x=>x.2 == q).map (·.1)
theorem Gh {m:List (Nat×Nat)}(hn:(m.map (·.2)).Nodup){p t:Nat}(h:(p,t)∈m):sU m t=some p:=by
 unfold sU
 cases hf:m.find? fun x=>x.2 == t with
 | none=>
  rw[List.find?_eq_none] at hf;exact (hf _ h zX).elim
 | some x=>
  obtain⟨a,b⟩:=x;have h1:=List.mem_of_find?_eq_some hf;have h2:=List.find?_some hf;simp only[beq_iff_eq] at h2;subst h2;simp only[Option.map_some];rw[xA hn h1 h]
theorem vG {m:List (Nat×Nat)}{p t:Nat}(h:sU m t=some p):(p,t)∈m:=by
 unfold sU at h;obtain⟨⟨a,b⟩,h1,h2⟩:=Option.map_eq_some_iff.1 h;have h3:=List.mem_of_find?_eq_some h1;have h4:=List.find?_some h1;simp only[beq_iff_eq] at h4;subst h4;subst h2;exact h3
theorem Le.norm (ks:List Nat)(m:List (Nat×Nat))(k n:Nat)(hm:ue m k n=true)(hs:(m.all fun x=>(assoc s.heap x.1).isSome || decide (k≤x.1) || x.1 == x.2)=true)(hk:dD s ks m k n=true)(Ta:C.n0≤k) :
  Le C s ⟨dC (gf m n) (pick s.env ks),cb (gf m n) (pick s.heap (m.map (·.1))),n⟩:=by
 intro a w ⟨σ,hr⟩;have hi:=Jp hm;have V8:=hm;simp only[ue,Bool.and_eq_true,decide_eq_true_eq,List.all_eq_true,Bool.or_eq_true,beq_iff_eq] at V8;obtain⟨⟨⟨h1,h2⟩,h3⟩,h4⟩:=V8;simp only[dD,Bool.and_eq_true] at hk;obtain⟨hke,hkh⟩:=hk;rw[List.all_eq_true] at hke hkh hs
 obtain⟨σ',hσ⟩:∃ σ':Nat→Option OB,∀ q,σ' q=if q<C.n0 then σ q else match sU m q with
   | some o=>σ o
   | none=>none:=⟨_,fun _=>rfl⟩
 have s1:∀ o t,assoc m o=some t→σ' (gf m n o)=σ o:=fun o t ho=>by
  have Q1:=e8 ho;have e:gf m n o=t:=by unfold gf;rw[ho]
  rw[e,hσ];split
  ·rename_i PQ;rcases (h4 _ Q1).2 with h | h
   ·simp only at h;rw[h]
   ·simp only at h;omega
  ·rw[Gh h1 Q1]
 have s2:∀ o,(assoc m o).isSome=true→σ' (gf m n o)=σ o:=fun o ho=>by
  obtain⟨t,ht⟩:=Option.isSome_iff_exists.1 ho;exact s1 o t ht
 have Si:∀ o ob,assoc (pick s.heap (m.map (·.1))) o=some ob→assoc s.heap o=some ob∧(assoc m o).isSome=true∧ob.cells.all (p4 m)=true:=fun o ob ho=>by
  refine⟨dS _ _ _ _ ho,?_,hkh _ (bp _ _ _ ho)⟩;have Q1:=bp _ _ _ ho;have:∀ (ks:List Nat) (x:Nat×Ob),x∈pick s.heap ks→x.1∈ks:=by
   intro ks
   induction ks with
   | nil=>intro x hx;simp[pick] at hx
   | cons a r ih=>
    intro x hx;simp only[pick] at hx;split at hx
    ·rcases List.mem_cons.1 hx with e | hx
     ·subst e;exact List.mem_cons_self
     ·exact List.mem_cons_of_mem _ (ih x hx)
    ·exact List.mem_cons_of_mem _ (ih x hx)
  have RS:=this _ _ Q1;simp only[List.mem_map] at RS;obtain⟨⟨p,t⟩,hp,rfl⟩:=RS;simp only;rw[pN h2 hp];rfl
 have hblk:∀ o,(assoc m o).isSome=true→aT σ' (gf m n o)=aT σ o:=fun o ho=>by unfold aT;rw[s2 o ho]
 have hF:∀ b,FB C σ' (cb (gf m n) (pick s.heap (m.map (·.1)))) b→FB C σ s.heap b:=by
  rintro b (hb | ⟨q,ob,hq,hb⟩)
  ·exact .inl hb
  ·obtain⟨o,rfl⟩:=dM _ q ob hq;rw[ca hi] at hq;obtain⟨P6,ho,_⟩:=Option.map_eq_some_iff.1 hq;obtain⟨g1,g2,_⟩:=Si o P6 ho;exact .inr ⟨o,P6,g1,by rwa [hblk o g2] at hb⟩
 have ZW:ck w w (FB C σ s.heap) (FB C σ' (cb (gf m n) (pick s.heap (m.map (·.1))))):=ck.same hF;refine⟨σ',hr.mD,hr.tm,hr.os,hr.tape,hr.output,hr.size,hr.frame,?_,?_,?_,?_,?_,Nat.le_trans Ta h3,?_⟩
 ·intro t c hc;simp only[e9] at hc;obtain⟨d,hd,rfl⟩:=Option.map_eq_some_iff.1 hc;obtain⟨v,k1,k2⟩:=hr.env t d (dS _ _ _ _ hd);refine⟨v,k1,(VR.cP _ d v).2 (VR.bg ZW _ _ (fun o ho=>s2 o (MJ (hke _ (bp _ _ _ hd)) o ho)) k2)⟩
 ·intro q ob hq;obtain⟨o,rfl⟩:=dM _ q ob hq;simp only[ca hi] at hq;obtain⟨P6,ho,rfl⟩:=Option.map_eq_some_iff.1 hq;obtain⟨g1,g2,g3⟩:=Si o P6 ho;obtain⟨B,m1,m2,m3,m4,m5⟩:=hr.obj o P6 g1;refine⟨B,by rw[s2 o g2];exact m1,m2,fun hb=>by simp only[ct,m3 hb];rfl,by simp only[ct,fv];exact m4,fun b hb=>?_⟩;obtain⟨cur,n1,Y2,n3,n4,n5,n6⟩:=m5 b hb;simp only[ct,fI];exact⟨cur,n1,Y2,n3,n4,n5,(aN.cP _ _ _).2 (aN.bg ZW _ _ (fun p hp=>s2 p (sq g3 p hp)) n6)⟩
 ·intro q q' ob P6 b hq SO hx RD;obtain⟨o,rfl⟩:=dM _ q ob hq;obtain⟨o',rfl⟩:=dM _ q' P6 SO;simp only[ca hi] at hq SO;obtain⟨x,ho,_⟩:=Option.map_eq_some_iff.1 hq;obtain⟨x',Qu,_⟩:=Option.map_eq_some_iff.1 SO;obtain⟨g1,g2,_⟩:=Si o x ho;obtain⟨g1',g2',_⟩:=Si o' x' Qu;rw[hblk o g2] at hx;rw[hblk o' g2'] at RD;rw[hr.inj o o' x x' b g1 g1' hx RD]
 ·intro q hq;simp only at hq;rw[hσ,if_neg yA]
  cases Zn:sU m q with
  | none=>rfl
  | some o=>
   have:=(h4 _ (vG Zn)).1;simp only at this;omega
 ·intro q hq;rw[hσ,if_pos hq];exact hr.gy q hq
 ·intro q B b hq hB hb;rw[hσ,if_neg yA] at hB
  cases Zn:sU m q with
  | none=>rw[Zn] at hB;cases hB
  | some o=>
   rw[Zn] at hB;simp only at hB;have hex:=hs _ (vG Zn);simp only[Bool.or_eq_true,decide_eq_true_eq,beq_iff_eq] at hex;rcases hex with (hex | hex) | hex
   rotate_left
   ·exact hr.new o B b (Nat.le_trans Ta hex) hB hb
   ·subst hex;exact hr.new o B b yA hB hb
   obtain⟨ob,Rh⟩:=Option.isSome_iff_exists.1 hex;obtain⟨B',m1,_,_,_,m5⟩:=hr.obj o ob Rh;rw[m1] at hB;cases hB;obtain⟨cur,_,_,_,n4,_⟩:=m5 b hb;exact n4
variable {ops:Array Oper}{au:List (Nat×TI)}{W:List q9}{nt N:Nat}{dyn:List (Nat×Nat)}{K:St→Prop}{i:Nat}{r:List Nat}{res:Nat→Er}
def Il (ks eP:List Nat)(m:Nat)(H1:List (Nat×Ob)):Bool:=(H1.all fun x=>ks.contains x.1 || (decide (m≤x.1) && eP.contains x.1)) && eP.all fun p=>ks.contains p || (assoc H1 p).isSome
theorem RX.uJ {o:Oper}{cl:Call}{g:FuncId}{args:List CV}{r0:CV}{H H1:List (Nat×Ob)}(ns ks eP:List Nat)(n d:Nat)(hb:Body P au g args H n (iy r0 H1 (n+d)))(hl:ns.length=n)(hk:G0 ns s.nx=true)(hi:ops[i]? = Option.some o)(hd:aZ nt o.dst=true)(hg:bN ops s o=Option.some true)(hu:cc o=Option.some cl)
  (Qb:bl s cl=Option.some (g,cq (cH ns s.nx) args)) (hp:dX s.heap ks=Option.some (cb (cH ns s.nx) H)) (ha:aS n args=true) (hH:cT n H=true) (ht:tree r0=true) (hv:Au dyn res i ks=true) (hc:Il ks eP s.nx (cb (cH ns s.nx) H1)=true)
  (hs:∀ p∈ks,p∉eP→assoc (cb (cH ns s.nx) H1) p=assoc (cb (cH ns s.nx) H) p)
  (hK:uF W dyn res i (iZ r0 ks eP d (cb (cH ns s.nx) H1))∧lV au W nt ops N dyn (CE P au W nt ops N dyn K) r (note dyn res i (iZ r0 ks eP d (cb (cH ns s.nx) H1))) (St.put ⟨s.env,cb (cH ns s.nx) H1++dy s.heap ks,s.nx+d⟩ o.dst r0)):RX P au W nt ops N dyn K (i::r) res s:=by
 simp only[Il,Bool.and_eq_true,List.all_eq_true,Bool.or_eq_true,decide_eq_true_eq] at hc;refine RX.body ks eP d hi hd hg hu Qb hp (hb.retN ns hl hk ha hH ht) hv ?_ ?_
 ·rintro v s1 ⟨_,h2,h3⟩;refine⟨h3,fun p ob UT=>?_,fun p jN=>?_,fun p jN=>?_⟩
  ·rw[h2] at UT;rcases hc.1 _ (bp _ _ _ UT) with h | h
   ·exact .inl Sr
   ·exact .inr h.1
  ·rw[h2];by_cases hm:p∈ks
   ·exact hs p hm jN
   ·obtain⟨i1,_⟩:=kP hp;have e1:assoc (cb (cH ns s.nx) H) p=none:=by
     cases h4:assoc (cb (cH ns s.nx) H) p with
     | none=>rfl
     | some y=>exact (hm (i1 p y h4).1).elim
    have e2:assoc (cb (cH ns s.nx) H1) p=none:=by
     cases h4:assoc (cb (cH ns s.nx) H1) p with
     | none=>rfl
     | some y=>
      rcases hc.1 _ (bp _ _ _ h4) with h | h
      ·exact (hm Sr).elim
      ·exact (jN (by simpa using h.2)).elim
    rw[e1,e2]
  ·rw[h2];rcases hc.2 p jN with h | h
   ·exact .inl Sr
   ·exact .inr h
 ·rintro v s1 ⟨h1,h2,_⟩;subst h1;rw[h2];exact hK
attribute [simp] Il iZ
end
end Go.Can
