/- Calls of contracts that leave new objects: the numbers of th -/
import Derived.Test.YtlkmbdfhdknlgaaGreatDoorZ20
namespace Go.Can
open Go.RowKit
section
variable {P:Program}{C:Cx}{σ:Nat→Option OB}{s:St}{a:Act}{w:World}{ops:Array Oper}{ak:List (Nat×TI)}
theorem Body.grow {ρ:Nat→Nat}(hi:∀ x y,ρ x=ρ y→x=y){f:FuncId}{args:List CV}{H:List (Nat×Ob)}{n n' d:Nat}{R:CV→St→Prop}(hρ:∀ p,p<n→ρ p<n')(hρ2:∀ p,n≤p→ρ p=p-n+n')(h:Body P ak f args H n R)(ha:aO n args=true)(hH:cV n H=true)(hR:∀ r s,R r s→s.nx=n+d) :
  Body P ak f (cg ρ args) (bY ρ H) n' fun r s=>∃ r1 s1,R r1 s1∧r=en ρ r1∧s=⟨dP ρ s1.env,bY ρ s1.heap,n' + d⟩:=by
 obtain⟨fn,c,hf,hb,KV,hl,hT⟩:=h;refine⟨fn,c,hf,hb,KV,by rw[fk];exact hl,fun C' hC xJ a w ⟨σ,hr⟩=>?_⟩;rw[tY] at hr;have AW:∀ (t:Nat) c o,assoc (enter args).env t=some c→aA o c=false→o<n:=fun t c o hc ho=>by
  obtain⟨_,h2⟩:=eW args 0 t c hc;have hm:c∈args:=List.mem_of_getElem? h2;rw[bU,List.all_eq_true] at ha;exact j0 n c o (ha c hm) ho
 obtain⟨σt,hσt⟩:∃ σt:Nat→Option OB,σt=below (fun p=>σ (ρ p)) n fun _=>none:=⟨_,rfl⟩;have t1:∀ p,p<n→σt p=σ (ρ p):=fun p hp=>by rw[hσt];exact fq hp
 have t2:∀ p,n≤p→σt p=none:=fun p hp=>by rw[hσt];exact jb hp
 have LV:∀ (G:List (Nat×Ob)),(∀ o ob,assoc G o=some ob→o<n)→∀ b,(C'.F b∨∃ o ob,assoc G o=some ob∧aH σt o=some b)↔FB C' σ (bY ρ G) b:=fun G hG b=>by
  unfold FB;constructor
  ·rintro (h | ⟨o,ob,ho,hx⟩)
   ·exact .inl h
   ·refine .inr ⟨ρ o,cr ρ ob,by rw[bQ hi,ho];rfl,?_⟩;unfold aH at hx ⊢;rwa [t1 o (hG o ob ho)] at hx
  ·rintro (h | ⟨q,ob,hq,hx⟩)
   ·exact .inl h
   ·obtain⟨o,rfl⟩:=dy G q ob hq;rw[bQ hi] at hq;obtain⟨Ka,ho,_⟩:=Option.map_eq_some_iff.1 hq;refine .inr ⟨o,Ka,ho,?_⟩;unfold aH at hx ⊢;rwa [t1 o (hG o Ka ho)]
 have LH:∀ o ob,assoc H o=some ob→o<n:=fun o ob ho=>(gE hH o ob ho).1;have h0:aB ⟨C'.w0,C'.F,C'.own,C'.hF,C'.nt,σt,n⟩ σt ⟨(enter args).env,H,n⟩ a w:=by
  have hK:b9 w w (FB C' σ (bY ρ H)) (FB ⟨C'.w0,C'.F,C'.own,C'.hF,C'.nt,σt,n⟩ σt H):=b9.same fun b hx=>(LV H LH b).1 hx;refine⟨hr.me,hr.tm,hr.os,hr.tape,hr.output,hr.size,hr.frame,?_,?_,?_,fun o ho=>t2 o ho,fun _ _=>rfl,Nat.le_refl _,fun o B b ho hB _=>by rw[t2 o ho] at hB;cases hB⟩
  ·intro t c hc;obtain⟨v,k1,k2⟩:=hr.env t (en ρ c) (by rw[eL,hc];rfl);refine⟨v,k1,?_⟩;exact VR.a7 hK _ _ (fun o ho=>t1 o (AW t c o hc ho)) ((VR.cA ρ c v).1 k2)
  ·intro o ob ho;obtain⟨B,m1,m2,m3,m4,m5⟩:=hr.obj (ρ o) (cr ρ ob) (by rw[bQ hi,ho];rfl);have yN:=LH o ob ho;refine⟨B,by rw[t1 o yN];exact m1,m2,fun hb=>?_,by have:=m4;simp only[cr,eX] at this;exact this,fun b hb=>?_⟩
   ·have:=m3 hb;simp only[cr] at this;have hl:=fk ρ ob.cells;rw[this] at hl;exact List.eq_nil_of_length_eq_zero hl.symm
   ·obtain⟨cur,n1,n2,n3,n4,n5,n6⟩:=m5 b hb;simp only[cr,fk] at n5 n6;refine⟨cur,n1,n2,n3,n4,n5,?_⟩;exact aG.a7 hK _ _ (fun p hp=>t1 p (dS n _ p (gE hH o ob ho).2 hp)) ((aG.cA ρ _ _).1 n6)
  ·intro o o' ob Ka b ho Kv hx K5;unfold aH at hx K5;rw[t1 o (LH o ob ho)] at hx;rw[t1 o' (LH o' Ka Kv)] at K5;exact hi _ _ (hr.inj (ρ o) (ρ o') (cr ρ ob) (cr ρ Ka) b (by rw[bQ hi,ho];rfl) (by rw[bQ hi,Kv];rfl) hx K5)
 refine wp_mono (hT ⟨C'.w0,C'.F,C'.own,C'.hF,C'.nt,σt,n⟩ hC rfl a w ⟨_,h0⟩) fun e a' w' ⟨s1,q,σ1,KL⟩=>?_;have fin:aa ⟨C'.w0,C'.F,C'.own,C'.hF,C'.nt,σt,n⟩ (fun s'=>∃ r,bf ak fn s'=some r∧R r s') s1 →
   ∃ s',aa C' (fun s'=>∃ r,bf ak fn s'=some r∧∃ r1 s1,R r1 s1∧r=en ρ r1∧s'=⟨dP ρ s1.env,bY ρ s1.heap,n' + d⟩) s'∧Rel C' s' a' w':=fun⟨s2,⟨r,q1,q2⟩,hle⟩=>by
  obtain⟨σ2,Kl⟩:=hle _ _ ⟨σ1,KL⟩;have Ny:=hR r s2 q2;obtain⟨e2,H2,n2⟩:=s2;simp only at Ny;subst Ny;obtain⟨σn,hσn⟩:∃ σn:Nat→Option OB,σn=fun q=>if q<n' then σ q else σ2 (q-n' + n):=⟨_,rfl⟩
  have u1:∀ q,q<n'→σn q=σ q:=fun q hq=>by rw[hσn];exact if_pos hq
  have u2:∀ q,n'≤q→σn q=σ2 (q-n' + n):=fun q hq=>by rw[hσn];exact if_neg yA
  have u3:∀ o,σn (ρ o)=σ2 o:=fun o=>by
   rcases Nat.lt_or_ge o n with ho | ho
   ·rw[u1 _ (hρ o ho),← t1 o ho];exact (Kl.fM o ho).symm
   ·rw[hρ2 o ho,u2 _ yA];congr 1;omega
  have KZ:∀ o,aH σn (ρ o)=aH σ2 o:=fun o=>by unfold aH;rw[u3]
  have O0:∀ b,FB C' σn (bY ρ H2) b→FB ⟨C'.w0,C'.F,C'.own,C'.hF,C'.nt,σt,n⟩ σ2 H2 b:=by
   rintro b (h | ⟨q,ob,hq,hx⟩)
   ·exact .inl h
   ·obtain⟨o,rfl⟩:=dy H2 q ob hq;rw[bQ hi] at hq;obtain⟨Ka,ho,_⟩:=Option.map_eq_some_iff.1 hq;exact .inr ⟨o,Ka,ho,by rwa [KZ] at hx⟩
  have hK:b9 w' w' (FB ⟨C'.w0,C'.F,C'.own,C'.hF,C'.nt,σt,n⟩ σ2 H2) (FB C' σn (bY ρ H2)):=b9.same fun b hx=>O0 b hx;refine⟨⟨dP ρ e2,bY ρ H2,n' + d⟩,aa.here ⟨en ρ r,?_,r,_,q2,rfl,rfl⟩,σn,?_⟩
  ·rw[oz (n:=n+d) hi (fun t cs hc=>?_),q1]
   ·rfl
   ·obtain⟨v,_,k2⟩:=Kl.env t _ hc;simp only[VR,bK] at k2;obtain⟨ad,_,h3⟩:=k2;exact aF ρ cs (ej.tree cs ad h3)
  ·refine⟨Kl.me,Kl.tm,Kl.os,Kl.tape,Kl.output,Kl.size,Kl.frame,?_,?_,?_,fun q hq=>?_,fun q hq=>?_,by rw[xJ];exact Nat.le_add_right _ _,fun q B b hq hB hb=>?_⟩
   ·intro t c hc;simp only[eL] at hc;obtain⟨c',hd,rfl⟩:=Option.map_eq_some_iff.1 hc;obtain⟨v,k1,k2⟩:=Kl.env t c' hd;exact⟨v,k1,(VR.cA ρ c' v).2 (VR.a7 hK _ _ (fun o _=>u3 o) k2)⟩
   ·intro q ob hq;obtain⟨o,rfl⟩:=dy H2 q ob hq;simp only[bQ hi] at hq;obtain⟨Ka,ho,rfl⟩:=Option.map_eq_some_iff.1 hq;obtain⟨B,m1,m2,m3,m4,m5⟩:=Kl.obj o Ka ho;refine⟨B,by rw[u3];exact m1,m2,fun hb=>by simp only[cr,m3 hb];rfl,by simp only[cr,eX];exact m4,fun b hb=>?_⟩;obtain⟨cur,n1,SA,n3,n4,n5,n6⟩:=m5 b hb;simp only[cr,fk];exact⟨cur,n1,SA,n3,n4,n5,(aG.cA ρ _ _).2 (aG.a7 hK _ _ (fun p _=>u3 p) n6)⟩
   ·intro q q' ob Ka b hq MQ hx K5;obtain⟨o,rfl⟩:=dy H2 q ob hq;obtain⟨o',rfl⟩:=dy H2 q' Ka MQ;simp only[bQ hi] at hq MQ;obtain⟨x,ho,_⟩:=Option.map_eq_some_iff.1 hq;obtain⟨x',Kv,_⟩:=Option.map_eq_some_iff.1 MQ;rw[KZ] at hx K5;rw[Kl.inj o o' x x' b ho Kv hx K5]
   ·simp only at hq;rw[u2 q yA];exact Kl.nx _ (by simp only;omega)
   ·rw[xJ] at hq;rw[u1 q hq];exact hr.fM q (by rw[xJ];exact hq)
   ·rw[xJ] at hq;rw[u2 q hq] at hB;exact Kl.new _ B b (by simp only;omega) hB hb
 cases e with
 | normal=>exact fin q
 | ret=>exact fin q
 | exit _=>exact q.elim
 | goto _=>exact q.elim
 | panic _=>exact q.elim
 | outgrown=>exact q.elim
def cU (l:List Nat)(m p:Nat):Nat:=if p<l.length then l.getD p 0 else p-l.length+m
def Fx (l:List Nat)(m:Nat):Bool:=l.all (fun x=>decide (x<m)) && decide ((l.zipIdx).all fun x=>(l.zipIdx).all fun y=>x.1 != y.1 || x.2 == y.2)
theorem C2 {l:List Nat}{m:Nat}(h:Fx l m=true):∀ p,p<l.length→cU l m p<m:=by
 intro p hp;simp only[Fx,Bool.and_eq_true,List.all_eq_true,decide_eq_true_eq] at h;unfold cU;rw[if_pos hp,List.getD_eq_getElem?_getD,List.getElem?_eq_getElem hp];exact h.1 _ (List.getElem_mem hp)
theorem Fv {l:List Nat}{m:Nat}(h:Fx l m=true):∀ x y,cU l m x=cU l m y→x=y:=by
 intro x y Oj;have yN:=C2 h;rcases Nat.lt_or_ge x l.length with hx | hx<;>rcases Nat.lt_or_ge y l.length with hy | hy
 ·simp only[Fx,Bool.and_eq_true,decide_eq_true_eq,List.all_eq_true] at h;have h2:=h.2;unfold cU at Oj;rw[if_pos hx,if_pos hy,List.getD_eq_getElem?_getD,List.getD_eq_getElem?_getD,List.getElem?_eq_getElem hx,List.getElem?_eq_getElem hy] at Oj;have mx:(l[x],x)∈l.zipIdx:=List.mk_mem_zipIdx_iff_getElem?.2 (List.getElem?_eq_getElem hx);have my:(l[y],y)∈l.zipIdx:=List.mk_mem_zipIdx_iff_getElem?.2 (List.getElem?_eq_getElem hy);have:=h2 _ mx _ my;simp only[Option.getD_some] at Oj
  simpa [Oj] using this
 ·have h1:=yN x hx;have h2:cU l m y=y-l.length+m:=if_neg yA;omega
 ·have h1:=yN y hy;have h2:cU l m x=x-l.length+m:=if_neg yA;omega
 ·have h1:cU l m x=x-l.length+m:=if_neg yA;have h2:cU l m y=y-l.length+m:=if_neg yA;omega
theorem Body.retN {f:FuncId}{args:List CV}{H H1:List (Nat×Ob)}{n m d:Nat}{r0:CV}(l:List Nat)(hl:l.length=n)(h:Body P ak f args H n (jQ r0 H1 (n+d)))(hk:Fx l m=true)(hr:aO n args=true)(hH:cV n H=true)(ht:tree r0=true) :
  Body P ak f (cg (cU l m) args) (bY (cU l m) H) m (jQ r0 (bY (cU l m) H1) (m+d)):=by
 subst hl;refine (Body.grow (Fv hk) (C2 hk) (fun p hp=>if_neg yA) h hr hH fun r s h=>h.2.2).ret fun r s ⟨r1,s1,h1,h2,h3⟩=>?_;obtain⟨k1,k2,k3⟩:=h1;subst h3;rw[h2,k1,fO _ _ ht,k2];exact⟨rfl,rfl,rfl⟩
def pD (ks:List Nat)(m:Nat)(H D:List (Nat×Ob)):Bool:=(H.all fun x=>ks.contains x.1 || decide (m≤x.1)) && D.all fun x=>decide (x.1<m)
theorem TL.rZ (Mw:ay P ak){o:Oper}{l:List Oper}{c:Call}{g:FuncId}{args:List CV}{K:St→Prop}{r0:CV}{H H1:List (Nat×Ob)}(ns ks:List Nat)(n d:Nat)(hb:Body P ak g args H n (jQ r0 H1 (n+d)))(hl:ns.length=n)(hk:Fx ns s.nx=true)(hd:a9 C.nt o.dst=true)(hg:bM ops s o=Option.some true)(ho:o.op=.call c)(Kj:bl s c=Option.some (g,cg (cU ns s.nx) args))
  (hp:er s.heap ks=Option.some (bY (cU ns s.nx) H)) (ha:aO n args=true) (hH:cV n H=true) (ht:tree r0=true) (hx:pD ks s.nx (bY (cU ns s.nx) H1) (dG s.heap ks)=true)
  (hK:TL P C ops l (St.put ⟨s.env,bY (cU ns s.nx) H1++dG s.heap ks,s.nx+d⟩ o.dst r0) K):TL P C ops (o::l) s K:=by
 intro a w Q hr hQ;have hw:=dR hr hg;obtain⟨σ,hr⟩:=hr;unfold wpList;rw[if_pos hw];refine .inl ?_;have Kc:=hb.retN ns hl hk ha hH ht;have PD:jR P g:=by
  obtain⟨fn,code,hf,LJ,KV,_⟩:=Kc;exact⟨fn,hf,KV,by simp[LJ]⟩
 simp only[pD,Bool.and_eq_true,List.all_eq_true,Bool.or_eq_true,decide_eq_true_eq] at hx;refine qA Mw (mP.of hp) (uq.value ho Kj PD) Kc ?_ hr _ _ ?_
 ·rintro r s1 ⟨_,h1,_⟩ p ob Ka h2 h3;rw[h1] at h2;have m3:=hx.2 _ (br _ _ _ h3);rw[eH] at h3;rcases hx.1 _ (br _ _ _ h2) with hm | hm
  ·rw[if_pos (by simpa using hm)] at h3;cases h3
  ·simp only at m3 hm;omega
 ·rintro r s1 v w' σ' ⟨h1,h2,h3⟩ KF hv _;subst h1;rw[h2,h3] at KF;rw[h2] at hv;refine hK _ w' Q ⟨σ',KF.put ?_ hv⟩ hQ;intro t e;rw[KF.tm];rw[e] at hd
  simpa [a9] using hd
end
section
variable {P:Program}{C:Cx}{s:St}
def gA (m:List (Nat×Nat))(n p:Nat):Nat:=match assoc m p with
 | some t=>t
 | none=>p+n
def sI (m:List (Nat×Nat)):CV→Bool
 | .bw p _ _=>(assoc m p).isSome
 | .ai p _=>(assoc m p).isSome
 | .mp p _=>(assoc m p).isSome
 | c=>tree c
def yf (m:List (Nat×Nat)):CV→Bool
 | .agg cs=>cs.all (sI m)
 | .db cs=>cs.all (sI m)
 | c=>sI m c
theorem DB {m:List (Nat×Nat)}{c:CV}(h:sI m c=true)(o:Nat)(ho:aA o c=false):(assoc m o).isSome=true:=by
 have ht:tree c=true→False:=fun ht=>by rw[kr o c ht] at ho;cases ho
 cases c with
 | bw p _ _=>
  simp only[aA,bne_eq_false_iff_eq] at ho;subst ho;exact h
 | ai p _=>
  simp only[aA,bne_eq_false_iff_eq] at ho;subst ho;exact h
 | mp p _=>
  simp only[aA,bne_eq_false_iff_eq] at ho;subst ho;exact h
 | _=>exact (ht h).elim
theorem qt {m:List (Nat×Nat)}:∀ {cs:List CV},cs.all (sI m)=true→∀ o,dc o cs=false→(assoc m o).isSome=true
 | [],_,o,ho=>by simp[dc] at ho
 | c::cs,h,o,ho=>by
  simp only[List.all_cons,Bool.and_eq_true] at h;simp only[dc,Bool.and_eq_false_iff] at ho;rcases ho with ho | ho
  ·exact DB h.1 o ho
  ·exact qt h.2 o ho
theorem H4 {m:List (Nat×Nat)}{c:CV}(h:yf m c=true)(o:Nat)(ho:aA o c=false):(assoc m o).isSome=true:=by
 cases c with
 | agg cs=>exact qt h o RO
 | db cs=>exact qt h o RO
 | _=>exact DB (m:=m) (by simpa only[yf] using h) o ho
theorem aK {cs:List CV}(h:trees cs=true)(m:List (Nat×Nat)):cs.all (sI m)=true:=List.all_eq_true.2 fun c hc=>by
 have:=jW h c hc;cases c<;>first | exact this | simp[tree] at this
def e8 (s:St)(ks:List Nat)(m:List (Nat×Nat))(_k _n:Nat):Bool:=
 (pick s.env ks).all (fun x=>yf m x.2) && ((pick s.heap (m.map (·.1))).all fun x=>x.2.cells.all (sI m))
def rz (m:List (Nat×Nat))(k n:Nat):Bool:=
 decide (m.map (·.2)).Nodup && decide (m.map (·.1)).Nodup && decide (k≤n) && m.all fun x=>decide (x.2<n) && (x.1 == x.2 || decide (k≤x.2))
theorem eK {m:List (Nat×Nat)}{p t:Nat}(h:assoc m p=some t):(p,t)∈m:=br m p t h
theorem oH:∀ {m:List (Nat×Nat)} {p t:Nat},(m.map (·.1)).Nodup→(p,t)∈m→assoc m p=some t
 | [],_,_,_,h=>by cases h
 | (a,b)::r,p,t,hn,h=>by
  simp only[List.map_cons,List.nodup_cons] at hn;simp only[assoc];rcases List.mem_cons.1 h with e | h
  ·cases e;rw[if_pos rfl]
  ·rw[if_neg,oH hn.2 h];intro e;subst e;exact hn.1 (List.mem_map_of_mem (f:=(·.1)) h)
theorem uC:∀ {m:List (Nat×Nat)} {p q t:Nat},(m.map (·.2)).Nodup→(p,t)∈m→(q,t)∈m→p=q
 | [],_,_,_,_,h,_=>by cases h
 | (a,b)::r,p,q,t,hn,h,h'=>by
  simp only[List.map_cons,List.nodup_cons] at hn;rcases List.mem_cons.1 h with e | h1<;>rcases List.mem_cons.1 h' with e' | h2
  ·cases e;cases e';rfl
  ·cases e;exact (hn.1 (List.mem_map_of_mem (f:=(·.2)) h2)).elim
  ·cases e';exact (hn.1 (List.mem_map_of_mem (f:=(·.2)) h1)).elim
  ·exact uC hn.2 h1 h2
theorem E9 {m:List (Nat×Nat)}{k n:Nat}(h:rz m k n=true):∀ x y,gA m n x=gA m n y→x=y:=by
 simp only[rz,Bool.and_eq_true,decide_eq_true_eq,List.all_eq_true,Bool.or_eq_true,beq_iff_eq] at h;obtain⟨⟨⟨h1,h2⟩,h3⟩,h4⟩:=h;intro x y Oj;unfold gA at Oj
 cases hx:assoc m x with
 | none=>
  cases hy:assoc m y with
  | none=>simp only[hx,hy] at Oj;omega
  | some t=>
   have:=(h4 _ (eK hy)).1;simp only[hx,hy] at Oj;omega
 | some t=>
  have:=(h4 _ (eK hx)).1
  cases hy:assoc m y with
  | none=>simp only[hx,hy] at Oj;omega
  | some t'=>
   simp only[hx,hy] at Oj;subst Oj;exact uC h1 (eK hx) (eK hy)
def qK (m:List (Nat×Nat))(q:Nat):Option Nat:=(m.find? fun x=>x.2 == q).map (·.1)
theorem Cw {m:List (Nat×Nat)}(hn:(m.map (·.2)).Nodup){p t:Nat}(h:(p,t)∈m):qK m t=some p:=by
 unfold qK
 cases hf:m.find? fun x=>x.2 == t with
 | none=>
  rw[List.find?_eq_none] at hf;exact (hf _ h j5).elim
 | some x=>
  obtain⟨a,b⟩:=x;have h1:=List.mem_of_find?_eq_some hf;have h2:=List.find?_some hf;simp only[beq_iff_eq] at h2;subst h2;simp only[Option.map_some];rw[uC hn h1 h]
theorem s7 {m:List (Nat×Nat)}{p t:Nat}(h:qK m t=some p):(p,t)∈m:=by
 unfold qK at h;obtain⟨⟨a,b⟩,h1,h2⟩:=Option.map_eq_some_iff.1 h;have h3:=List.mem_of_find?_eq_some h1;have h4:=List.find?_some h1;simp only[beq_iff_eq] at h4;subst h4;subst h2;exact h3
theorem Le.norm (ks:List Nat)(m:List (Nat×Nat))(k n:Nat)(hm:rz m k n=true)(hs:(m.all fun x=>(assoc s.heap x.1).isSome || decide (k≤x.1) || x.1 == x.2)=true)(hk:e8 s ks m k n=true)(ML:C.n0≤k) :
  Le C s ⟨dP (gA m n) (pick s.env ks),bY (gA m n) (pick s.heap (m.map (·.1))),n⟩:=by
 intro a w ⟨σ,hr⟩;have hi:=E9 hm;have PY:=hm;simp only[rz,Bool.and_eq_true,decide_eq_true_eq,List.all_eq_true,Bool.or_eq_true,beq_iff_eq] at PY;obtain⟨⟨⟨h1,h2⟩,h3⟩,h4⟩:=PY;simp only[e8,Bool.and_eq_true] at hk;obtain⟨Yf,Ye⟩:=hk;rw[List.all_eq_true] at Yf Ye hs
 obtain⟨σ',hσ⟩:∃ σ':Nat→Option OB,∀ q,σ' q=if q<C.n0 then σ q else match qK m q with
   | some o=>σ o
   | none=>none:=⟨_,fun _=>rfl⟩
 have s1:∀ o t,assoc m o=some t→σ' (gA m n o)=σ o:=fun o t ho=>by
  have Li:=eK ho;have e:gA m n o=t:=by unfold gA;rw[ho]
  rw[e,hσ];split
  ·rename_i yN;rcases (h4 _ Li).2 with h | h
   ·simp only at h;rw[h]
   ·simp only at h;omega
  ·rw[Cw h1 Li]
 have s2:∀ o,(assoc m o).isSome=true→σ' (gA m n o)=σ o:=fun o ho=>by
  obtain⟨t,ht⟩:=Option.isSome_iff_exists.1 ho;exact s1 o t ht
 have Pk:∀ o ob,assoc (pick s.heap (m.map (·.1))) o=some ob→assoc s.heap o=some ob∧(assoc m o).isSome=true∧ob.cells.all (sI m)=true:=fun o ob ho=>by
  refine⟨dF _ _ _ _ ho,?_,Ye _ (br _ _ _ ho)⟩;have Li:=br _ _ _ ho;have:∀ (ks:List Nat) (x:Nat×Ob),x∈pick s.heap ks→x.1∈ks:=by
   intro ks
   induction ks with
   | nil=>intro x hx;simp[pick] at hx
   | cons a r ih=>
    intro x hx;simp only[pick] at hx;split at hx
    ·rcases List.mem_cons.1 hx with e | hx
     ·subst e;exact List.mem_cons_self
     ·exact List.mem_cons_of_mem _ (ih x hx)
    ·exact List.mem_cons_of_mem _ (ih x hx)
  have L9:=this _ _ Li;simp only[List.mem_map] at L9;obtain⟨⟨p,t⟩,hp,rfl⟩:=L9;simp only;rw[oH h2 hp];rfl
 have KZ:∀ o,(assoc m o).isSome=true→aH σ' (gA m n o)=aH σ o:=fun o ho=>by unfold aH;rw[s2 o ho]
 have hF:∀ b,FB C σ' (bY (gA m n) (pick s.heap (m.map (·.1)))) b→FB C σ s.heap b:=by
  rintro b (hb | ⟨q,ob,hq,hb⟩)
  ·exact .inl hb
  ·obtain⟨o,rfl⟩:=dy _ q ob hq;rw[bQ hi] at hq;obtain⟨Ka,ho,_⟩:=Option.map_eq_some_iff.1 hq;obtain⟨g1,g2,_⟩:=Pk o Ka ho;exact .inr ⟨o,Ka,g1,by rwa [KZ o g2] at hb⟩
 have Tw:b9 w w (FB C σ s.heap) (FB C σ' (bY (gA m n) (pick s.heap (m.map (·.1))))):=b9.same hF;refine⟨σ',hr.me,hr.tm,hr.os,hr.tape,hr.output,hr.size,hr.frame,?_,?_,?_,?_,?_,Nat.le_trans ML h3,?_⟩
 ·intro t c hc;simp only[eL] at hc;obtain⟨d,hd,rfl⟩:=Option.map_eq_some_iff.1 hc;obtain⟨v,k1,k2⟩:=hr.env t d (dF _ _ _ _ hd);refine⟨v,k1,(VR.cA _ d v).2 (VR.a7 Tw _ _ (fun o ho=>s2 o (H4 (Yf _ (br _ _ _ hd)) o ho)) k2)⟩
 ·intro q ob hq;obtain⟨o,rfl⟩:=dy _ q ob hq;simp only[bQ hi] at hq;obtain⟨Ka,ho,rfl⟩:=Option.map_eq_some_iff.1 hq;obtain⟨g1,g2,g3⟩:=Pk o Ka ho;obtain⟨B,m1,m2,m3,m4,m5⟩:=hr.obj o Ka g1;refine⟨B,by rw[s2 o g2];exact m1,m2,fun hb=>by simp only[cr,m3 hb];rfl,by simp only[cr,eX];exact m4,fun b hb=>?_⟩;obtain⟨cur,n1,SA,n3,n4,n5,n6⟩:=m5 b hb;simp only[cr,fk];exact⟨cur,n1,SA,n3,n4,n5,(aG.cA _ _ _).2 (aG.a7 Tw _ _ (fun p hp=>s2 p (qt g3 p hp)) n6)⟩
 ·intro q q' ob Ka b hq MQ hx K5;obtain⟨o,rfl⟩:=dy _ q ob hq;obtain⟨o',rfl⟩:=dy _ q' Ka MQ;simp only[bQ hi] at hq MQ;obtain⟨x,ho,_⟩:=Option.map_eq_some_iff.1 hq;obtain⟨x',Kv,_⟩:=Option.map_eq_some_iff.1 MQ;obtain⟨g1,g2,_⟩:=Pk o x ho;obtain⟨g1',g2',_⟩:=Pk o' x' Kv;rw[KZ o g2] at hx;rw[KZ o' g2'] at K5;rw[hr.inj o o' x x' b g1 g1' hx K5]
 ·intro q hq;simp only at hq;rw[hσ,if_neg yA]
  cases SV:qK m q with
  | none=>rfl
  | some o=>
   have:=(h4 _ (s7 SV)).1;simp only at this;omega
 ·intro q hq;rw[hσ,if_pos hq];exact hr.fM q hq
 ·intro q B b hq hB hb;rw[hσ,if_neg yA] at hB
  cases SV:qK m q with
  | none=>rw[SV] at hB;cases hB
  | some o=>
   rw[SV] at hB;simp only at hB;have hex:=hs _ (s7 SV);simp only[Bool.or_eq_true,decide_eq_true_eq,beq_iff_eq] at hex;rcases hex with (hex | hex) | hex
   rotate_left
   ·exact hr.new o B b (Nat.le_trans ML hex) hB hb
   ·subst hex;exact hr.new o B b yA hB hb
   obtain⟨ob,LB⟩:=Option.isSome_iff_exists.1 hex;obtain⟨B',m1,_,_,_,m5⟩:=hr.obj o ob LB;rw[m1] at hB;cases hB;obtain⟨cur,_,_,_,n4,_⟩:=m5 b hb;exact n4
variable {ops:Array Oper}{ak:List (Nat×TI)}{W:List oR}{nt N:Nat}{dyn:List (Nat×Nat)}{K:St→Prop}{i:Nat}{r:List Nat}{res:Nat→Er}
def Ec (ks dO:List Nat)(m:Nat)(H1:List (Nat×Ob)):Bool:=(H1.all fun x=>ks.contains x.1 || (decide (m≤x.1) && dO.contains x.1)) && dO.all fun p=>ks.contains p || (assoc H1 p).isSome
theorem RX.rZ {o:Oper}{cl:Call}{g:FuncId}{args:List CV}{r0:CV}{H H1:List (Nat×Ob)}(ns ks dO:List Nat)(n d:Nat)(hb:Body P ak g args H n (jQ r0 H1 (n+d)))(hl:ns.length=n)(hk:Fx ns s.nx=true)(hi:ops[i]? = Option.some o)(hd:a9 nt o.dst=true)(hg:bM ops s o=Option.some true)(hu:bR o=Option.some cl)
  (Kj:bl s cl=Option.some (g,cg (cU ns s.nx) args)) (hp:er s.heap ks=Option.some (bY (cU ns s.nx) H)) (ha:aO n args=true) (hH:cV n H=true) (ht:tree r0=true) (hv:xU dyn res i ks=true) (hc:Ec ks dO s.nx (bY (cU ns s.nx) H1)=true)
  (hs:∀ p∈ks,p∉dO→assoc (bY (cU ns s.nx) H1) p=assoc (bY (cU ns s.nx) H) p)
  (hK:rV W dyn res i (hU r0 ks dO d (bY (cU ns s.nx) H1))∧kV ak W nt ops N dyn (zD P ak W nt ops N dyn K) r (note dyn res i (hU r0 ks dO d (bY (cU ns s.nx) H1))) (St.put ⟨s.env,bY (cU ns s.nx) H1++dG s.heap ks,s.nx+d⟩ o.dst r0)):RX P ak W nt ops N dyn K (i::r) res s:=by
 simp only[Ec,Bool.and_eq_true,List.all_eq_true,Bool.or_eq_true,decide_eq_true_eq] at hc;refine RX.body ks dO d hi hd hg hu Kj hp (hb.retN ns hl hk ha hH ht) hv ?_ ?_
 ·rintro v s1 ⟨_,h2,h3⟩;refine⟨h3,fun p ob VN=>?_,fun p kp=>?_,fun p kp=>?_⟩
  ·rw[h2] at VN;rcases hc.1 _ (br _ _ _ VN) with h | h
   ·exact .inl ON
   ·exact .inr h.1
  ·rw[h2];by_cases hm:p∈ks
   ·exact hs p hm kp
   ·obtain⟨i1,_⟩:=j3 hp;have e1:assoc (bY (cU ns s.nx) H) p=none:=by
     cases h4:assoc (bY (cU ns s.nx) H) p with
     | none=>rfl
     | some y=>exact (hm (i1 p y h4).1).elim
    have e2:assoc (bY (cU ns s.nx) H1) p=none:=by
     cases h4:assoc (bY (cU ns s.nx) H1) p with
     | none=>rfl
     | some y=>
      rcases hc.1 _ (br _ _ _ h4) with h | h
      ·exact (hm ON).elim
      ·exact (kp (by simpa using h.2)).elim
    rw[e1,e2]
  ·rw[h2];rcases hc.2 p kp with h | h
   ·exact .inl ON
   ·exact .inr h
 ·rintro v s1 ⟨h1,h2,_⟩;subst h1;rw[h2];exact hK
attribute [simp] Ec hU
end
end Go.Can
