/- Calls of contracts that leave new objects: the numbers of th -/
import Derived.Test.YtlkmbdfhdknlgaaGreatDoorZ17
namespace Go.Can
open Go.RowKit
section
variable {P:Program}{C:Cx}{σ:Nat→Option OB}{s:St}{a:Act}{w:World}{ops:Array Oper}{av:List (Nat×TI)}
theorem Body.grow {ρ:Nat→Nat}(hi:∀ x y,ρ x=ρ y→x=y){f:FuncId}{args:List CV}{H:List (Nat×Ob)}{n n' d:Nat}{R:CV→St→Prop}(hρ:∀ p,p<n→ρ p<n')(hρ2:∀ p,n≤p→ρ p=p-n+n')(h:Body P av f args H n R)(ha:a6 n args=true)(hH:dD n H=true)(hR:∀ r s,R r s→s.nx=n+d) :
  Body P av f (bV ρ args) (cu ρ H) n' fun r s=>∃ r1 s1,R r1 s1∧r=dT ρ r1∧s=⟨cT ρ s1.env,cu ρ s1.heap,n' + d⟩:=by
 obtain⟨fn,c,hf,hb,Pp,hl,hT⟩:=h;refine⟨fn,c,hf,hb,Pp,by rw[gq];exact hl,fun C' hC N8 a w ⟨σ,hr⟩=>?_⟩;rw[xA] at hr;have Of:∀ (t:Nat) c o,assoc (enter args).env t=some c→aJ o c=false→o<n:=fun t c o hc ho=>by
  obtain⟨_,h2⟩:=fS args 0 t c hc;have hm:c∈args:=List.mem_of_getElem? h2;rw[ch,List.all_eq_true] at ha;exact lG n c o (ha c hm) ho
 obtain⟨σt,hσt⟩:∃ σt:Nat→Option OB,σt=below (fun p=>σ (ρ p)) n fun _=>none:=⟨_,rfl⟩;have t1:∀ p,p<n→σt p=σ (ρ p):=fun p hp=>by rw[hσt];exact gw hp
 have t2:∀ p,n≤p→σt p=none:=fun p hp=>by rw[hσt];exact j9 hp
 have O1:∀ (G:List (Nat×Ob)),(∀ o ob,assoc G o=some ob→o<n)→∀ b,(C'.F b∨∃ o ob,assoc G o=some ob∧aU σt o=some b)↔FB C' σ (cu ρ G) b:=fun G hG b=>by
  unfold FB;constructor
  ·rintro (h | ⟨o,ob,ho,hx⟩)
   ·exact .inl h
   ·refine .inr ⟨ρ o,cc ρ ob,by rw[cd hi,ho];rfl,?_⟩;unfold aU at hx ⊢;rwa [t1 o (hG o ob ho)] at hx
  ·rintro (h | ⟨q,ob,hq,hx⟩)
   ·exact .inl h
   ·obtain⟨o,rfl⟩:=ed G q ob hq;rw[cd hi] at hq;obtain⟨Ov,ho,_⟩:=Option.map_eq_some_iff.1 hq;refine .inr ⟨o,Ov,ho,?_⟩;unfold aU at hx ⊢;rwa [t1 o (hG o Ov ho)]
 have Qa:∀ o ob,assoc H o=some ob→o<n:=fun o ob ho=>(iD hH o ob ho).1;have h0:aK ⟨C'.w0,C'.F,C'.own,C'.hF,C'.nt,σt,n⟩ σt ⟨(enter args).env,H,n⟩ a w:=by
  have hK:cz w w (FB C' σ (cu ρ H)) (FB ⟨C'.w0,C'.F,C'.own,C'.hF,C'.nt,σt,n⟩ σt H):=cz.same fun b hx=>(O1 H Qa b).1 hx;refine⟨hr.oA,hr.tm,hr.os,hr.tape,hr.output,hr.size,hr.frame,?_,?_,?_,fun o ho=>t2 o ho,fun _ _=>rfl,Nat.le_refl _,fun o B b ho hB _=>by rw[t2 o ho] at hB;cases hB⟩
  ·intro t c hc;obtain⟨v,k1,k2⟩:=hr.env t (dT ρ c) (by rw[fH,hc];rfl);refine⟨v,k1,?_⟩;exact VR.bl hK _ _ (fun o ho=>t1 o (Of t c o hc ho)) ((VR.cW ρ c v).1 k2)
  ·intro o ob ho;obtain⟨B,m1,m2,m3,m4,m5⟩:=hr.obj (ρ o) (cc ρ ob) (by rw[cd hi,ho];rfl);have Oa:=Qa o ob ho;refine⟨B,by rw[t1 o Oa];exact m1,m2,fun hb=>?_,by have:=m4;simp only[cc,fT] at this;exact this,fun b hb=>?_⟩
   ·have:=m3 hb;simp only[cc] at this;have hl:=gq ρ ob.cells;rw[this] at hl;exact List.eq_nil_of_length_eq_zero hl.symm
   ·obtain⟨cur,n1,n2,n3,n4,n5,n6⟩:=m5 b hb;simp only[cc,gq] at n5 n6;refine⟨cur,n1,n2,n3,n4,n5,?_⟩;exact aT.bl hK _ _ (fun p hp=>t1 p (eQ n _ p (iD hH o ob ho).2 hp)) ((aT.cW ρ _ _).1 n6)
  ·intro o o' ob Ov b ho OI hx O9;unfold aU at hx O9;rw[t1 o (Qa o ob ho)] at hx;rw[t1 o' (Qa o' Ov OI)] at O9;exact hi _ _ (hr.inj (ρ o) (ρ o') (cc ρ ob) (cc ρ Ov) b (by rw[cd hi,ho];rfl) (by rw[cd hi,OI];rfl) hx O9)
 refine wp_mono (hT ⟨C'.w0,C'.F,C'.own,C'.hF,C'.nt,σt,n⟩ hC rfl a w ⟨_,h0⟩) fun e a' w' ⟨s1,q,σ1,OX⟩=>?_;have fin:aa ⟨C'.w0,C'.F,C'.own,C'.hF,C'.nt,σt,n⟩ (fun s'=>∃ r,bm av fn s'=some r∧R r s') s1 →
   ∃ s',aa C' (fun s'=>∃ r,bm av fn s'=some r∧∃ r1 s1,R r1 s1∧r=dT ρ r1∧s'=⟨cT ρ s1.env,cu ρ s1.heap,n' + d⟩) s'∧Rel C' s' a' w':=fun⟨s2,⟨r,q1,q2⟩,hle⟩=>by
  obtain⟨σ2,OF⟩:=hle _ _ ⟨σ1,OX⟩;have R3:=hR r s2 q2;obtain⟨e2,H2,n2⟩:=s2;simp only at R3;subst R3;obtain⟨σn,hσn⟩:∃ σn:Nat→Option OB,σn=fun q=>if q<n' then σ q else σ2 (q-n' + n):=⟨_,rfl⟩
  have u1:∀ q,q<n'→σn q=σ q:=fun q hq=>by rw[hσn];exact if_pos hq
  have u2:∀ q,n'≤q→σn q=σ2 (q-n' + n):=fun q hq=>by rw[hσn];exact if_neg yA
  have u3:∀ o,σn (ρ o)=σ2 o:=fun o=>by
   rcases Nat.lt_or_ge o n with ho | ho
   ·rw[u1 _ (hρ o ho),← t1 o ho];exact (OF.gO o ho).symm
   ·rw[hρ2 o ho,u2 _ yA];congr 1;omega
  have Px:∀ o,aU σn (ρ o)=aU σ2 o:=fun o=>by unfold aU;rw[u3]
  have TQ:∀ b,FB C' σn (cu ρ H2) b→FB ⟨C'.w0,C'.F,C'.own,C'.hF,C'.nt,σt,n⟩ σ2 H2 b:=by
   rintro b (h | ⟨q,ob,hq,hx⟩)
   ·exact .inl h
   ·obtain⟨o,rfl⟩:=ed H2 q ob hq;rw[cd hi] at hq;obtain⟨Ov,ho,_⟩:=Option.map_eq_some_iff.1 hq;exact .inr ⟨o,Ov,ho,by rwa [Px] at hx⟩
  have hK:cz w' w' (FB ⟨C'.w0,C'.F,C'.own,C'.hF,C'.nt,σt,n⟩ σ2 H2) (FB C' σn (cu ρ H2)):=cz.same fun b hx=>TQ b hx;refine⟨⟨cT ρ e2,cu ρ H2,n' + d⟩,aa.here ⟨dT ρ r,?_,r,_,q2,rfl,rfl⟩,σn,?_⟩
  ·rw[qH (n:=n+d) hi (fun t cs hc=>?_),q1]
   ·rfl
   ·obtain⟨v,_,k2⟩:=OF.env t _ hc;simp only[VR,bZ] at k2;obtain⟨ad,_,h3⟩:=k2;exact ay ρ cs (fa.tree cs ad h3)
  ·refine⟨OF.oA,OF.tm,OF.os,OF.tape,OF.output,OF.size,OF.frame,?_,?_,?_,fun q hq=>?_,fun q hq=>?_,by rw[N8];exact Nat.le_add_right _ _,fun q B b hq hB hb=>?_⟩
   ·intro t c hc;simp only[fH] at hc;obtain⟨c',hd,rfl⟩:=Option.map_eq_some_iff.1 hc;obtain⟨v,k1,k2⟩:=OF.env t c' hd;exact⟨v,k1,(VR.cW ρ c' v).2 (VR.bl hK _ _ (fun o _=>u3 o) k2)⟩
   ·intro q ob hq;obtain⟨o,rfl⟩:=ed H2 q ob hq;simp only[cd hi] at hq;obtain⟨Ov,ho,rfl⟩:=Option.map_eq_some_iff.1 hq;obtain⟨B,m1,m2,m3,m4,m5⟩:=OF.obj o Ov ho;refine⟨B,by rw[u3];exact m1,m2,fun hb=>by simp only[cc,m3 hb];rfl,by simp only[cc,fT];exact m4,fun b hb=>?_⟩;obtain⟨cur,n1,Yf,n3,n4,n5,n6⟩:=m5 b hb;simp only[cc,gq];exact⟨cur,n1,Yf,n3,n4,n5,(aT.cW ρ _ _).2 (aT.bl hK _ _ (fun p _=>u3 p) n6)⟩
   ·intro q q' ob Ov b hq PE hx O9;obtain⟨o,rfl⟩:=ed H2 q ob hq;obtain⟨o',rfl⟩:=ed H2 q' Ov PE;simp only[cd hi] at hq PE;obtain⟨x,ho,_⟩:=Option.map_eq_some_iff.1 hq;obtain⟨x',OI,_⟩:=Option.map_eq_some_iff.1 PE;rw[Px] at hx O9;rw[OF.inj o o' x x' b ho OI hx O9]
   ·simp only at hq;rw[u2 q yA];exact OF.nx _ (by simp only;omega)
   ·rw[N8] at hq;rw[u1 q hq];exact hr.gO q (by rw[N8];exact hq)
   ·rw[N8] at hq;rw[u2 q hq] at hB;exact OF.new _ B b (by simp only;omega) hB hb
 cases e with
 | normal=>exact fin q
 | ret=>exact fin q
 | exit _=>exact q.elim
 | goto _=>exact q.elim
 | panic _=>exact q.elim
 | outgrown=>exact q.elim
def dC (l:List Nat)(m p:Nat):Nat:=if p<l.length then l.getD p 0 else p-l.length+m
def JC (l:List Nat)(m:Nat):Bool:=l.all (fun x=>decide (x<m)) && decide ((l.zipIdx).all fun x=>(l.zipIdx).all fun y=>x.1 != y.1 || x.2 == y.2)
theorem GY {l:List Nat}{m:Nat}(h:JC l m=true):∀ p,p<l.length→dC l m p<m:=by
 intro p hp;simp only[JC,Bool.and_eq_true,List.all_eq_true,decide_eq_true_eq] at h;unfold dC;rw[if_pos hp,List.getD_eq_getElem?_getD,List.getElem?_eq_getElem hp];exact h.1 _ (List.getElem_mem hp)
theorem Jz {l:List Nat}{m:Nat}(h:JC l m=true):∀ x y,dC l m x=dC l m y→x=y:=by
 intro x y Q0;have Oa:=GY h;rcases Nat.lt_or_ge x l.length with hx | hx<;>rcases Nat.lt_or_ge y l.length with hy | hy
 ·simp only[JC,Bool.and_eq_true,decide_eq_true_eq,List.all_eq_true] at h;have h2:=h.2;unfold dC at Q0;rw[if_pos hx,if_pos hy,List.getD_eq_getElem?_getD,List.getD_eq_getElem?_getD,List.getElem?_eq_getElem hx,List.getElem?_eq_getElem hy] at Q0;have mx:(l[x],x)∈l.zipIdx:=List.mk_mem_zipIdx_iff_getElem?.2 (List.getElem?_eq_getElem hx);have my:(l[y],y)∈l.zipIdx:=List.mk_mem_zipIdx_iff_getElem?.2 (List.getElem?_eq_getElem hy);have:=h2 _ mx _ my;simp only[Option.getD_some] at Q0
  simpa [Q0] using this
 ·have h1:=Oa x hx;have h2:dC l m y=y-l.length+m:=if_neg yA;omega
 ·have h1:=Oa y hy;have h2:dC l m x=x-l.length+m:=if_neg yA;omega
 ·have h1:dC l m x=x-l.length+m:=if_neg yA;have h2:dC l m y=y-l.length+m:=if_neg yA;omega
theorem Body.retN {f:FuncId}{args:List CV}{H H1:List (Nat×Ob)}{n m d:Nat}{r0:CV}(l:List Nat)(hl:l.length=n)(h:Body P av f args H n (jA r0 H1 (n+d)))(hk:JC l m=true)(hr:a6 n args=true)(hH:dD n H=true)(ht:tree r0=true) :
  Body P av f (bV (dC l m) args) (cu (dC l m) H) m (jA r0 (cu (dC l m) H1) (m+d)):=by
 subst hl;refine (Body.grow (Jz hk) (GY hk) (fun p hp=>if_neg yA) h hr hH fun r s h=>h.2.2).ret fun r s ⟨r1,s1,h1,h2,h3⟩=>?_;obtain⟨k1,k2,k3⟩:=h1;subst h3;rw[h2,k1,gQ _ _ ht,k2];exact⟨rfl,rfl,rfl⟩
def sr (ks:List Nat)(m:Nat)(H D:List (Nat×Ob)):Bool:=(H.all fun x=>ks.contains x.1 || decide (m≤x.1)) && D.all fun x=>decide (x.1<m)
theorem TL.vB (Q8:aF P av){o:Oper}{l:List Oper}{c:Call}{g:FuncId}{args:List CV}{K:St→Prop}{r0:CV}{H H1:List (Nat×Ob)}(ns ks:List Nat)(n d:Nat)(hb:Body P av g args H n (jA r0 H1 (n+d)))(hl:ns.length=n)(hk:JC ns s.nx=true)(hd:bt C.nt o.dst=true)(hg:b9 ops s o=Option.some true)(ho:o.op=.call c)(OG:bB s c=Option.some (g,bV (dC ns s.nx) args))
  (hp:fk s.heap ks=Option.some (cu (dC ns s.nx) H)) (ha:a6 n args=true) (hH:dD n H=true) (ht:tree r0=true) (hx:sr ks s.nx (cu (dC ns s.nx) H1) (eB s.heap ks)=true)
  (hK:TL P C ops l (St.put ⟨s.env,cu (dC ns s.nx) H1++eB s.heap ks,s.nx+d⟩ o.dst r0) K):TL P C ops (o::l) s K:=by
 intro a w Q hr hQ;have hw:=eO hr hg;obtain⟨σ,hr⟩:=hr;unfold wpList;rw[if_pos hw];refine .inl ?_;have Oy:=hb.retN ns hl hk ha hH ht;have UW:lq P g:=by
  obtain⟨fn,code,hf,Qc,Pp,_⟩:=Oy;exact⟨fn,hf,Pp,by simp[Qc]⟩
 simp only[sr,Bool.and_eq_true,List.all_eq_true,Bool.or_eq_true,decide_eq_true_eq] at hx;refine ug Q8 (pe.of hp) (pf.value ho OG UW) Oy ?_ hr _ _ ?_
 ·rintro r s1 ⟨_,h1,_⟩ p ob Ov h2 h3;rw[h1] at h2;have m3:=hx.2 _ (bG _ _ _ h3);rw[fD] at h3;rcases hx.1 _ (bG _ _ _ h2) with hm | hm
  ·rw[if_pos (by simpa using hm)] at h3;cases h3
  ·simp only at m3 hm;omega
 ·rintro r s1 v w' σ' ⟨h1,h2,h3⟩ OS hv _;subst h1;rw[h2,h3] at OS;rw[h2] at hv;refine hK _ w' Q ⟨σ',OS.put ?_ hv⟩ hQ;intro t e;rw[OS.tm];rw[e] at hd
  simpa [bt] using hd
end
section
variable {P:Program}{C:Cx}{s:St}
def fc (m:List (Nat×Nat))(n p:Nat):Nat:=match assoc m p with
 | some t=>t
 | none=>p+n
def ox (m:List (Nat×Nat)):CV→Bool
 | .bp p _ _=>(assoc m p).isSome
 | .aq p _=>(assoc m p).isSome
 | .mp p _=>(assoc m p).isSome
 | c=>tree c
def qx (m:List (Nat×Nat)):CV→Bool
 | .agg cs=>cs.all (ox m)
 | .dI cs=>cs.all (ox m)
 | c=>ox m c
theorem HB {m:List (Nat×Nat)}{c:CV}(h:ox m c=true)(o:Nat)(ho:aJ o c=false):(assoc m o).isSome=true:=by
 have ht:tree c=true→False:=fun ht=>by rw[l7 o c ht] at ho;cases ho
 cases c with
 | bp p _ _=>
  simp only[aJ,bne_eq_false_iff_eq] at ho;subst ho;exact h
 | aq p _=>
  simp only[aJ,bne_eq_false_iff_eq] at ho;subst ho;exact h
 | mp p _=>
  simp only[aJ,bne_eq_false_iff_eq] at ho;subst ho;exact h
 | _=>exact (ht h).elim
theorem tW {m:List (Nat×Nat)}:∀ {cs:List CV},cs.all (ox m)=true→∀ o,dL o cs=false→(assoc m o).isSome=true
 | [],_,o,ho=>by simp[dL] at ho
 | c::cs,h,o,ho=>by
  simp only[List.all_cons,Bool.and_eq_true] at h;simp only[dL,Bool.and_eq_false_iff] at ho;rcases ho with ho | ho
  ·exact HB h.1 o ho
  ·exact tW h.2 o ho
theorem Mi {m:List (Nat×Nat)}{c:CV}(h:qx m c=true)(o:Nat)(ho:aJ o c=false):(assoc m o).isSome=true:=by
 cases c with
 | agg cs=>exact tW h o Xl
 | dI cs=>exact tW h o Xl
 | _=>exact HB (m:=m) (by simpa only[qx] using h) o ho
theorem aC {cs:List CV}(h:trees cs=true)(m:List (Nat×Nat)):cs.all (ox m)=true:=List.all_eq_true.2 fun c hc=>by
 have:=lB h c hc;cases c<;>first | exact this | simp[tree] at this
def cX (s:St)(ks:List Nat)(m:List (Nat×Nat))(_k _n:Nat):Bool:=
 (pick s.env ks).all (fun x=>qx m x.2) && ((pick s.heap (m.map (·.1))).all fun x=>x.2.cells.all (ox m))
def u0 (m:List (Nat×Nat))(k n:Nat):Bool:=
 decide (m.map (·.2)).Nodup && decide (m.map (·.1)).Nodup && decide (k≤n) && m.all fun x=>decide (x.2<n) && (x.1 == x.2 || decide (k≤x.2))
theorem fG {m:List (Nat×Nat)}{p t:Nat}(h:assoc m p=some t):(p,t)∈m:=bG m p t h
theorem qR:∀ {m:List (Nat×Nat)} {p t:Nat},(m.map (·.1)).Nodup→(p,t)∈m→assoc m p=some t
 | [],_,_,_,h=>by cases h
 | (a,b)::r,p,t,hn,h=>by
  simp only[List.map_cons,List.nodup_cons] at hn;simp only[assoc];rcases List.mem_cons.1 h with e | h
  ·cases e;rw[if_pos rfl]
  ·rw[if_neg,qR hn.2 h];intro e;subst e;exact hn.1 (List.mem_map_of_mem (f:=(·.1)) h)
theorem x9:∀ {m:List (Nat×Nat)} {p q t:Nat},(m.map (·.2)).Nodup→(p,t)∈m→(q,t)∈m→p=q
 | [],_,_,_,_,h,_=>by cases h
 | (a,b)::r,p,q,t,hn,h,h'=>by
  simp only[List.map_cons,List.nodup_cons] at hn;rcases List.mem_cons.1 h with e | h1<;>rcases List.mem_cons.1 h' with e' | h2
  ·cases e;cases e';rfl
  ·cases e;exact (hn.1 (List.mem_map_of_mem (f:=(·.2)) h2)).elim
  ·cases e';exact (hn.1 (List.mem_map_of_mem (f:=(·.2)) h1)).elim
  ·exact x9 hn.2 h1 h2
theorem Jj {m:List (Nat×Nat)}{k n:Nat}(h:u0 m k n=true):∀ x y,fc m n x=fc m n y→x=y:=by
 simp only[u0,Bool.and_eq_true,decide_eq_true_eq,List.all_eq_true,Bool.or_eq_true,beq_iff_eq] at h;obtain⟨⟨⟨h1,h2⟩,h3⟩,h4⟩:=h;intro x y Q0;unfold fc at Q0
 cases hx:assoc m x with
 | none=>
  cases hy:assoc m y with
  | none=>simp only[hx,hy] at Q0;omega
  | some t=>
   have:=(h4 _ (fG hy)).1;simp only[hx,hy] at Q0;omega
 | some t=>
  have:=(h4 _ (fG hx)).1
  cases hy:assoc m y with
  | none=>simp only[hx,hy] at Q0;omega
  | some t'=>
   simp only[hx,hy] at Q0;subst Q0;exact x9 h1 (fG hx) (fG hy)
def uw (m:List (Nat×Nat))(q:Nat):Option Nat:=(m.find? fun x=>x.2 == q).map (·.1)
theorem Gr {m:List (Nat×Nat)}(hn:(m.map (·.2)).Nodup){p t:Nat}(h:(p,t)∈m):uw m t=some p:=by
 unfold uw
 cases hf:m.find? fun x=>x.2 == t with
 | none=>
  rw[List.find?_eq_none] at hf;exact (hf _ h N3).elim
 | some x=>
  obtain⟨a,b⟩:=x;have h1:=List.mem_of_find?_eq_some hf;have h2:=List.find?_some hf;simp only[beq_iff_eq] at h2;subst h2;simp only[Option.map_some];rw[x9 hn h1 h]
theorem wO {m:List (Nat×Nat)}{p t:Nat}(h:uw m t=some p):(p,t)∈m:=by
 unfold uw at h;obtain⟨⟨a,b⟩,h1,h2⟩:=Option.map_eq_some_iff.1 h;have h3:=List.mem_of_find?_eq_some h1;have h4:=List.find?_some h1;simp only[beq_iff_eq] at h4;subst h4;subst h2;exact h3
theorem Le.norm (ks:List Nat)(m:List (Nat×Nat))(k n:Nat)(hm:u0 m k n=true)(hs:(m.all fun x=>(assoc s.heap x.1).isSome || decide (k≤x.1) || x.1 == x.2)=true)(hk:cX s ks m k n=true)(Rl:C.n0≤k) :
  Le C s ⟨cT (fc m n) (pick s.env ks),cu (fc m n) (pick s.heap (m.map (·.1))),n⟩:=by
 intro a w ⟨σ,hr⟩;have hi:=Jj hm;have UQ:=hm;simp only[u0,Bool.and_eq_true,decide_eq_true_eq,List.all_eq_true,Bool.or_eq_true,beq_iff_eq] at UQ;obtain⟨⟨⟨h1,h2⟩,h3⟩,h4⟩:=UQ;simp only[cX,Bool.and_eq_true] at hk;obtain⟨hke,hkh⟩:=hk;rw[List.all_eq_true] at hke hkh hs
 obtain⟨σ',hσ⟩:∃ σ':Nat→Option OB,∀ q,σ' q=if q<C.n0 then σ q else match uw m q with
   | some o=>σ o
   | none=>none:=⟨_,fun _=>rfl⟩
 have s1:∀ o t,assoc m o=some t→σ' (fc m n o)=σ o:=fun o t ho=>by
  have PL:=fG ho;have e:fc m n o=t:=by unfold fc;rw[ho]
  rw[e,hσ];split
  ·rename_i Oa;rcases (h4 _ PL).2 with h | h
   ·simp only at h;rw[h]
   ·simp only at h;omega
  ·rw[Gr h1 PL]
 have s2:∀ o,(assoc m o).isSome=true→σ' (fc m n o)=σ o:=fun o ho=>by
  obtain⟨t,ht⟩:=Option.isSome_iff_exists.1 ho;exact s1 o t ht
 have QL:∀ o ob,assoc (pick s.heap (m.map (·.1))) o=some ob→assoc s.heap o=some ob∧(assoc m o).isSome=true∧ob.cells.all (ox m)=true:=fun o ob ho=>by
  refine⟨ez _ _ _ _ ho,?_,hkh _ (bG _ _ _ ho)⟩;have PL:=bG _ _ _ ho;have:∀ (ks:List Nat) (x:Nat×Ob),x∈pick s.heap ks→x.1∈ks:=by
   intro ks
   induction ks with
   | nil=>intro x hx;simp[pick] at hx
   | cons a r ih=>
    intro x hx;simp only[pick] at hx;split at hx
    ·rcases List.mem_cons.1 hx with e | hx
     ·subst e;exact List.mem_cons_self
     ·exact List.mem_cons_of_mem _ (ih x hx)
    ·exact List.mem_cons_of_mem _ (ih x hx)
  have QF:=this _ _ PL;simp only[List.mem_map] at QF;obtain⟨⟨p,t⟩,hp,rfl⟩:=QF;simp only;rw[qR h2 hp];rfl
 have Px:∀ o,(assoc m o).isSome=true→aU σ' (fc m n o)=aU σ o:=fun o ho=>by unfold aU;rw[s2 o ho]
 have hF:∀ b,FB C σ' (cu (fc m n) (pick s.heap (m.map (·.1)))) b→FB C σ s.heap b:=by
  rintro b (hb | ⟨q,ob,hq,hb⟩)
  ·exact .inl hb
  ·obtain⟨o,rfl⟩:=ed _ q ob hq;rw[cd hi] at hq;obtain⟨Ov,ho,_⟩:=Option.map_eq_some_iff.1 hq;obtain⟨g1,g2,_⟩:=QL o Ov ho;exact .inr ⟨o,Ov,g1,by rwa [Px o g2] at hb⟩
 have Ze:cz w w (FB C σ s.heap) (FB C σ' (cu (fc m n) (pick s.heap (m.map (·.1))))):=cz.same hF;refine⟨σ',hr.oA,hr.tm,hr.os,hr.tape,hr.output,hr.size,hr.frame,?_,?_,?_,?_,?_,Nat.le_trans Rl h3,?_⟩
 ·intro t c hc;simp only[fH] at hc;obtain⟨d,hd,rfl⟩:=Option.map_eq_some_iff.1 hc;obtain⟨v,k1,k2⟩:=hr.env t d (ez _ _ _ _ hd);refine⟨v,k1,(VR.cW _ d v).2 (VR.bl Ze _ _ (fun o ho=>s2 o (Mi (hke _ (bG _ _ _ hd)) o ho)) k2)⟩
 ·intro q ob hq;obtain⟨o,rfl⟩:=ed _ q ob hq;simp only[cd hi] at hq;obtain⟨Ov,ho,rfl⟩:=Option.map_eq_some_iff.1 hq;obtain⟨g1,g2,g3⟩:=QL o Ov ho;obtain⟨B,m1,m2,m3,m4,m5⟩:=hr.obj o Ov g1;refine⟨B,by rw[s2 o g2];exact m1,m2,fun hb=>by simp only[cc,m3 hb];rfl,by simp only[cc,fT];exact m4,fun b hb=>?_⟩;obtain⟨cur,n1,Yf,n3,n4,n5,n6⟩:=m5 b hb;simp only[cc,gq];exact⟨cur,n1,Yf,n3,n4,n5,(aT.cW _ _ _).2 (aT.bl Ze _ _ (fun p hp=>s2 p (tW g3 p hp)) n6)⟩
 ·intro q q' ob Ov b hq PE hx O9;obtain⟨o,rfl⟩:=ed _ q ob hq;obtain⟨o',rfl⟩:=ed _ q' Ov PE;simp only[cd hi] at hq PE;obtain⟨x,ho,_⟩:=Option.map_eq_some_iff.1 hq;obtain⟨x',OI,_⟩:=Option.map_eq_some_iff.1 PE;obtain⟨g1,g2,_⟩:=QL o x ho;obtain⟨g1',g2',_⟩:=QL o' x' OI;rw[Px o g2] at hx;rw[Px o' g2'] at O9;rw[hr.inj o o' x x' b g1 g1' hx O9]
 ·intro q hq;simp only at hq;rw[hσ,if_neg yA]
  cases YB:uw m q with
  | none=>rfl
  | some o=>
   have:=(h4 _ (wO YB)).1;simp only at this;omega
 ·intro q hq;rw[hσ,if_pos hq];exact hr.gO q hq
 ·intro q B b hq hB hb;rw[hσ,if_neg yA] at hB
  cases YB:uw m q with
  | none=>rw[YB] at hB;cases hB
  | some o=>
   rw[YB] at hB;simp only at hB;have hex:=hs _ (wO YB);simp only[Bool.or_eq_true,decide_eq_true_eq,beq_iff_eq] at hex;rcases hex with (hex | hex) | hex
   rotate_left
   ·exact hr.new o B b (Nat.le_trans Rl hex) hB hb
   ·subst hex;exact hr.new o B b yA hB hb
   obtain⟨ob,P7⟩:=Option.isSome_iff_exists.1 hex;obtain⟨B',m1,_,_,_,m5⟩:=hr.obj o ob P7;rw[m1] at hB;cases hB;obtain⟨cur,_,_,_,n4,_⟩:=m5 b hb;exact n4
variable {ops:Array Oper}{av:List (Nat×TI)}{W:List rh}{nt N:Nat}{dyn:List (Nat×Nat)}{K:St→Prop}{i:Nat}{r:List Nat}{res:Nat→Er}
def Im (ks dw:List Nat)(m:Nat)(H1:List (Nat×Ob)):Bool:=(H1.all fun x=>ks.contains x.1 || (decide (m≤x.1) && dw.contains x.1)) && dw.all fun p=>ks.contains p || (assoc H1 p).isSome
theorem RX.vB {o:Oper}{cl:Call}{g:FuncId}{args:List CV}{r0:CV}{H H1:List (Nat×Ob)}(ns ks dw:List Nat)(n d:Nat)(hb:Body P av g args H n (jA r0 H1 (n+d)))(hl:ns.length=n)(hk:JC ns s.nx=true)(hi:ops[i]? = Option.some o)(hd:bt nt o.dst=true)(hg:b9 ops s o=Option.some true)(hu:cg o=Option.some cl)
  (OG:bB s cl=Option.some (g,bV (dC ns s.nx) args)) (hp:fk s.heap ks=Option.some (cu (dC ns s.nx) H)) (ha:a6 n args=true) (hH:dD n H=true) (ht:tree r0=true) (hv:Bh dyn res i ks=true) (hc:Im ks dw s.nx (cu (dC ns s.nx) H1)=true)
  (hs:∀ p∈ks,p∉dw→assoc (cu (dC ns s.nx) H1) p=assoc (cu (dC ns s.nx) H) p)
  (hK:vu W dyn res i (jh r0 ks dw d (cu (dC ns s.nx) H1))∧mK av W nt ops N dyn (C7 P av W nt ops N dyn K) r (note dyn res i (jh r0 ks dw d (cu (dC ns s.nx) H1))) (St.put ⟨s.env,cu (dC ns s.nx) H1++eB s.heap ks,s.nx+d⟩ o.dst r0)):RX P av W nt ops N dyn K (i::r) res s:=by
 simp only[Im,Bool.and_eq_true,List.all_eq_true,Bool.or_eq_true,decide_eq_true_eq] at hc;refine RX.body ks dw d hi hd hg hu OG hp (hb.retN ns hl hk ha hH ht) hv ?_ ?_
 ·rintro v s1 ⟨_,h2,h3⟩;refine⟨h3,fun p ob hpo=>?_,fun p ji=>?_,fun p ji=>?_⟩
  ·rw[h2] at hpo;rcases hc.1 _ (bG _ _ _ hpo) with h | h
   ·exact .inl QW
   ·exact .inr h.1
  ·rw[h2];by_cases hm:p∈ks
   ·exact hs p hm ji
   ·obtain⟨i1,_⟩:=lH hp;have e1:assoc (cu (dC ns s.nx) H) p=none:=by
     cases h4:assoc (cu (dC ns s.nx) H) p with
     | none=>rfl
     | some y=>exact (hm (i1 p y h4).1).elim
    have e2:assoc (cu (dC ns s.nx) H1) p=none:=by
     cases h4:assoc (cu (dC ns s.nx) H1) p with
     | none=>rfl
     | some y=>
      rcases hc.1 _ (bG _ _ _ h4) with h | h
      ·exact (hm QW).elim
      ·exact (ji (by simpa using h.2)).elim
    rw[e1,e2]
  ·rw[h2];rcases hc.2 p ji with h | h
   ·exact .inl QW
   ·exact .inr h
 ·rintro v s1 ⟨h1,h2,_⟩;subst h1;rw[h2];exact hK
attribute [simp] Im jh
end
end Go.Can
