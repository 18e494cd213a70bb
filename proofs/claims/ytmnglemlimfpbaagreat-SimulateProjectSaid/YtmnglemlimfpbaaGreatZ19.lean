/- Calls of contracts that leave new objects: the numbers of th -/
import Derived.Test.YtmnglemlimfpbaaGreatZ18
namespace Go.Can
open Go.RowKit
section
variable {P:Program}{C:Cx}{σ:Nat→Option OB}{s:St}{a:Act}{w:World}{ops:Array Oper}{aq:List (Nat×TI)}
theorem Body.grow {ρ:Nat→Nat}(hi:∀ x y,ρ x=ρ y→x=y){f:FuncId}{args:List CV}{H:List (Nat×Ob)}{n n' d:Nat}{R:CV→St→Prop}(hρ:∀ p,p<n→ρ p<n')(hρ2:∀ p,n≤p→ρ p=p-n+n')(h:Body P aq f args H n R)(ha:aQ n args=true)(hH:de n H=true)(hR:∀ r s,R r s→s.nx=n+d) :
  Body P aq f (bu ρ args) (bT ρ H) n' fun r s=>∃ r1 s1,R r1 s1∧r=dU ρ r1∧s=⟨dF ρ s1.env,bT ρ s1.heap,n' + d⟩:=by
 obtain⟨fn,c,hf,hb,hnm,hl,hT⟩:=h
 refine⟨fn,c,hf,hb,hnm,by rw[gk];exact hl,fun C' hC hC0 a w ⟨σ,hr⟩=>?_⟩
 rw[xv] at hr
 have hargs:∀ (t:Nat) c o,assoc (enter args).env t=some c→aF o c=false→o<n:=fun t c o hc ho=>by
  obtain⟨_,h2⟩:=fS args 0 t c hc
  have hm:c∈args:=List.mem_of_getElem? h2
  rw[a7,List.all_eq_true] at ha
  exact lN n c o (ha c hm) ho
 obtain⟨σt,hσt⟩:∃ σt:Nat→Option OB,σt=below (fun p=>σ (ρ p)) n fun _=>none:=⟨_,rfl⟩
 have t1:∀ p,p<n→σt p=σ (ρ p):=fun p hp=>by rw[hσt];exact gu hp
 have t2:∀ p,n≤p→σt p=none:=fun p hp=>by rw[hσt];exact kj hp
 have hsame:∀ (G:List (Nat×Ob)),(∀ o ob,assoc G o=some ob→o<n)→∀ b,(C'.F b∨∃ o ob,assoc G o=some ob∧aV σt o=some b)↔FB C' σ (bT ρ G) b:=fun G hG b=>by
  unfold FB
  constructor
  ·rintro (h | ⟨o,ob,ho,hx⟩)
   ·exact .inl h
   ·refine .inr ⟨ρ o,ca ρ ob,by rw[cd hi,ho];rfl,?_⟩
    unfold aV at hx ⊢
    rwa [t1 o (hG o ob ho)] at hx
  ·rintro (h | ⟨q,ob,hq,hx⟩)
   ·exact .inl h
   ·obtain⟨o,rfl⟩:=en G q ob hq
    rw[cd hi] at hq
    obtain⟨ob',ho,_⟩:=Option.map_eq_some_iff.1 hq
    refine .inr ⟨o,ob',ho,?_⟩
    unfold aV at hx ⊢
    rwa [t1 o (hG o ob' ho)]
 have hdomH:∀ o ob,assoc H o=some ob→o<n:=fun o ob ho=>(iN hH o ob ho).1
 have h0:aG ⟨C'.w0,C'.F,C'.own,C'.hF,C'.nt,σt,n⟩ σt ⟨(enter args).env,H,n⟩ a w:=by
  have hK:cF w w (FB C' σ (bT ρ H)) (FB ⟨C'.w0,C'.F,C'.own,C'.hF,C'.nt,σt,n⟩ σt H):=cF.same fun b hx=>(hsame H hdomH b).1 hx
  refine⟨hr.nq,hr.tm,hr.os,hr.tape,hr.output,hr.size,hr.frame,?_,?_,?_,fun o ho=>t2 o ho,fun _ _=>rfl,Nat.le_refl _,fun o B b ho hB _=>by rw[t2 o ho] at hB;cases hB⟩
  ·intro t c hc
   obtain⟨v,k1,k2⟩:=hr.env t (dU ρ c) (by rw[fJ,hc];rfl)
   refine⟨v,k1,?_⟩
   exact VR.bp hK _ _ (fun o ho=>t1 o (hargs t c o hc ho)) ((VR.cZ ρ c v).1 k2)
  ·intro o ob ho
   obtain⟨B,m1,m2,m3,m4,m5⟩:=hr.obj (ρ o) (ca ρ ob) (by rw[cd hi,ho];rfl)
   have hlt:=hdomH o ob ho
   refine⟨B,by rw[t1 o hlt];exact m1,m2,fun hb=>?_,by have:=m4;simp only[ca,fU] at this;exact this,fun b hb=>?_⟩
   ·have:=m3 hb
    simp only[ca] at this
    have hl:=gk ρ ob.cells
    rw[this] at hl
    exact List.eq_nil_of_length_eq_zero hl.symm
   ·obtain⟨cur,n1,n2,n3,n4,n5,n6⟩:=m5 b hb
    simp only[ca,gk] at n5 n6
    refine⟨cur,n1,n2,n3,n4,n5,?_⟩
    exact aS.bp hK _ _ (fun p hp=>t1 p (eW n _ p (iN hH o ob ho).2 hp)) ((aS.cZ ρ _ _).1 n6)
  ·intro o o' ob ob' b ho ho' hx hx'
   unfold aV at hx hx'
   rw[t1 o (hdomH o ob ho)] at hx
   rw[t1 o' (hdomH o' ob' ho')] at hx'
   exact hi _ _ (hr.inj (ρ o) (ρ o') (ca ρ ob) (ca ρ ob') b (by rw[cd hi,ho];rfl) (by rw[cd hi,ho'];rfl) hx hx')
 refine wp_mono (hT ⟨C'.w0,C'.F,C'.own,C'.hF,C'.nt,σt,n⟩ hC rfl a w ⟨_,h0⟩) fun e a' w' ⟨s1,q,σ1,hr1⟩=>?_
 have fin:aa ⟨C'.w0,C'.F,C'.own,C'.hF,C'.nt,σt,n⟩ (fun s'=>∃ r,bw aq fn s'=some r∧R r s') s1 →
   ∃ s',aa C' (fun s'=>∃ r,bw aq fn s'=some r∧∃ r1 s1,R r1 s1∧r=dU ρ r1∧s'=⟨dF ρ s1.env,bT ρ s1.heap,n' + d⟩) s'∧Rel C' s' a' w':=fun⟨s2,⟨r,q1,q2⟩,hle⟩=>by
  obtain⟨σ2,hr2⟩:=hle _ _ ⟨σ1,hr1⟩
  have hnx2:=hR r s2 q2
  obtain⟨e2,H2,n2⟩:=s2
  simp only at hnx2
  subst hnx2
  obtain⟨σn,hσn⟩:∃ σn:Nat→Option OB,σn=fun q=>if q<n' then σ q else σ2 (q-n' + n):=⟨_,rfl⟩
  have u1:∀ q,q<n'→σn q=σ q:=fun q hq=>by rw[hσn];exact if_pos hq
  have u2:∀ q,n'≤q→σn q=σ2 (q-n' + n):=fun q hq=>by rw[hσn];exact if_neg yA
  have u3:∀ o,σn (ρ o)=σ2 o:=fun o=>by
   rcases Nat.lt_or_ge o n with ho | ho
   ·rw[u1 _ (hρ o ho),← t1 o ho]
    exact (hr2.fj o ho).symm
   ·rw[hρ2 o ho,u2 _ yA]
    congr 1
    omega
  have hblk:∀ o,aV σn (ρ o)=aV σ2 o:=fun o=>by unfold aV;rw[u3]
  have hFB:∀ b,FB C' σn (bT ρ H2) b→FB ⟨C'.w0,C'.F,C'.own,C'.hF,C'.nt,σt,n⟩ σ2 H2 b:=by
   rintro b (h | ⟨q,ob,hq,hx⟩)
   ·exact .inl h
   ·obtain⟨o,rfl⟩:=en H2 q ob hq
    rw[cd hi] at hq
    obtain⟨ob',ho,_⟩:=Option.map_eq_some_iff.1 hq
    exact .inr ⟨o,ob',ho,by rwa [hblk] at hx⟩
  have hK:cF w' w' (FB ⟨C'.w0,C'.F,C'.own,C'.hF,C'.nt,σt,n⟩ σ2 H2) (FB C' σn (bT ρ H2)):=cF.same fun b hx=>hFB b hx
  refine⟨⟨dF ρ e2,bT ρ H2,n' + d⟩,aa.here ⟨dU ρ r,?_,r,_,q2,rfl,rfl⟩,σn,?_⟩
  ·rw[qy (n:=n+d) hi (fun t cs hc=>?_),q1]
   ·rfl
   ·obtain⟨v,_,k2⟩:=hr2.env t _ hc
    simp only[VR,bY] at k2
    obtain⟨ad,_,h3⟩:=k2
    exact af ρ cs (fw.tree cs ad h3)
  ·refine⟨hr2.nq,hr2.tm,hr2.os,hr2.tape,hr2.output,hr2.size,hr2.frame,?_,?_,?_,fun q hq=>?_,fun q hq=>?_,by rw[hC0];exact Nat.le_add_right _ _,fun q B b hq hB hb=>?_⟩
   ·intro t c hc
    simp only[fJ] at hc
    obtain⟨c',hd,rfl⟩:=Option.map_eq_some_iff.1 hc
    obtain⟨v,k1,k2⟩:=hr2.env t c' hd
    exact⟨v,k1,(VR.cZ ρ c' v).2 (VR.bp hK _ _ (fun o _=>u3 o) k2)⟩
   ·intro q ob hq
    obtain⟨o,rfl⟩:=en H2 q ob hq
    simp only[cd hi] at hq
    obtain⟨ob',ho,rfl⟩:=Option.map_eq_some_iff.1 hq
    obtain⟨B,m1,m2,m3,m4,m5⟩:=hr2.obj o ob' ho
    refine⟨B,by rw[u3];exact m1,m2,fun hb=>by simp only[ca,m3 hb];rfl,by simp only[ca,fU];exact m4,fun b hb=>?_⟩
    obtain⟨cur,n1,n2',n3,n4,n5,n6⟩:=m5 b hb
    simp only[ca,gk]
    exact⟨cur,n1,n2',n3,n4,n5,(aS.cZ ρ _ _).2 (aS.bp hK _ _ (fun p _=>u3 p) n6)⟩
   ·intro q q' ob ob' b hq hq' hx hx'
    obtain⟨o,rfl⟩:=en H2 q ob hq
    obtain⟨o',rfl⟩:=en H2 q' ob' hq'
    simp only[cd hi] at hq hq'
    obtain⟨x,ho,_⟩:=Option.map_eq_some_iff.1 hq
    obtain⟨x',ho',_⟩:=Option.map_eq_some_iff.1 hq'
    rw[hblk] at hx hx'
    rw[hr2.inj o o' x x' b ho ho' hx hx']
   ·simp only at hq
    rw[u2 q yA]
    exact hr2.nx _ (by simp only;omega)
   ·rw[hC0] at hq
    rw[u1 q hq]
    exact hr.fj q (by rw[hC0];exact hq)
   ·rw[hC0] at hq
    rw[u2 q hq] at hB
    exact hr2.new _ B b (by simp only;omega) hB hb
 cases e with
 | normal=>exact fin q
 | ret=>exact fin q
 | exit _=>exact q.elim
 | goto _=>exact q.elim
 | panic _=>exact q.elim
 | outgrown=>exact q.elim
def cI (l:List Nat)(m p:Nat):Nat:=if p<l.length then l.getD p 0 else p-l.length+m
def F4 (l:List Nat)(m:Nat):Bool:=l.all (fun x=>decide (x<m)) && decide ((l.zipIdx).all fun x=>(l.zipIdx).all fun y=>x.1 != y.1 || x.2 == y.2)
theorem BS {l:List Nat}{m:Nat}(h:F4 l m=true):∀ p,p<l.length→cI l m p<m:=by
 intro p hp
 simp only[F4,Bool.and_eq_true,List.all_eq_true,decide_eq_true_eq] at h
 unfold cI
 rw[if_pos hp,List.getD_eq_getElem?_getD,List.getElem?_eq_getElem hp]
 exact h.1 _ (List.getElem_mem hp)
theorem CR {l:List Nat}{m:Nat}(h:F4 l m=true):∀ x y,cI l m x=cI l m y→x=y:=by
 intro x y hxy
 have hlt:=BS h
 rcases Nat.lt_or_ge x l.length with hx | hx<;>rcases Nat.lt_or_ge y l.length with hy | hy
 ·simp only[F4,Bool.and_eq_true,decide_eq_true_eq,List.all_eq_true] at h
  have h2:=h.2
  unfold cI at hxy
  rw[if_pos hx,if_pos hy,List.getD_eq_getElem?_getD,List.getD_eq_getElem?_getD,List.getElem?_eq_getElem hx,List.getElem?_eq_getElem hy] at hxy
  have mx:(l[x],x)∈l.zipIdx:=List.mk_mem_zipIdx_iff_getElem?.2 (List.getElem?_eq_getElem hx)
  have my:(l[y],y)∈l.zipIdx:=List.mk_mem_zipIdx_iff_getElem?.2 (List.getElem?_eq_getElem hy)
  have:=h2 _ mx _ my
  simp only[Option.getD_some] at hxy
  simpa [hxy] using this
 ·have h1:=hlt x hx
  have h2:cI l m y=y-l.length+m:=if_neg yA
  omega
 ·have h1:=hlt y hy
  have h2:cI l m x=x-l.length+m:=if_neg yA
  omega
 ·have h1:cI l m x=x-l.length+m:=if_neg yA
  have h2:cI l m y=y-l.length+m:=if_neg yA
  omega
theorem Body.retN {f:FuncId}{args:List CV}{H H1:List (Nat×Ob)}{n m d:Nat}{r0:CV}(l:List Nat)(hl:l.length=n)(h:Body P aq f args H n (kk r0 H1 (n+d)))(hk:F4 l m=true)(hr:aQ n args=true)(hH:de n H=true)(ht:tree r0=true) :
  Body P aq f (bu (cI l m) args) (bT (cI l m) H) m (kk r0 (bT (cI l m) H1) (m+d)):=by
 subst hl
 refine (Body.grow (CR hk) (BS hk) (fun p hp=>if_neg yA) h hr hH fun r s h=>h.2.2).ret fun r s ⟨r1,s1,h1,h2,h3⟩=>?_
 obtain⟨k1,k2,k3⟩:=h1
 subst h3
 rw[h2,k1,g8 _ _ ht,k2]
 exact⟨rfl,rfl,rfl⟩
def lF (ks:List Nat)(m:Nat)(H D:List (Nat×Ob)):Bool:=(H.all fun x=>ks.contains x.1 || decide (m≤x.1)) && D.all fun x=>decide (x.1<m)
theorem TL.vu (ht0:ay P aq){o:Oper}{l:List Oper}{c:Call}{g:FuncId}{args:List CV}{K:St→Prop}{r0:CV}{H H1:List (Nat×Ob)}(ns ks:List Nat)(n d:Nat)(hb:Body P aq g args H n (kk r0 H1 (n+d)))(hl:ns.length=n)(hk:F4 ns s.nx=true)(hd:aU C.nt o.dst=true)(hg:bU ops s o=Option.some true)(ho:o.op=.call c)(hca:bl s c=Option.some (g,bu (cI ns s.nx) args))
  (hp:dZ s.heap ks=Option.some (bT (cI ns s.nx) H)) (ha:aQ n args=true) (hH:de n H=true) (ht:tree r0=true) (hx:lF ks s.nx (bT (cI ns s.nx) H1) (dx s.heap ks)=true)
  (hK:TL P C ops l (St.put ⟨s.env,bT (cI ns s.nx) H1++dx s.heap ks,s.nx+d⟩ o.dst r0) K):TL P C ops (o::l) s K:=by
 intro a w Q hr hQ
 have hw:=eQ hr hg
 obtain⟨σ,hr⟩:=hr
 unfold wpList
 rw[if_pos hw]
 refine .inl ?_
 have hb':=hb.retN ns hl hk ha hH ht
 have hen:jA P g:=by
  obtain⟨fn,code,hf,hbody,hnm,_⟩:=hb'
  exact⟨fn,hf,hnm,by simp[hbody]⟩
 simp only[lF,Bool.and_eq_true,List.all_eq_true,Bool.or_eq_true,decide_eq_true_eq] at hx
 refine oH ht0 (mW.of hp) (xP.value ho hca hen) hb' ?_ hr _ _ ?_
 ·rintro r s1 ⟨_,h1,_⟩ p ob ob' h2 h3
  rw[h1] at h2
  have m3:=hx.2 _ (bB _ _ _ h3)
  rw[dQ] at h3
  rcases hx.1 _ (bB _ _ _ h2) with hm | hm
  ·rw[if_pos (by simpa using hm)] at h3
   cases h3
  ·simp only at m3 hm
   omega
 ·rintro r s1 v w' σ' ⟨h1,h2,h3⟩ hr' hv _
  subst h1
  rw[h2,h3] at hr'
  rw[h2] at hv
  refine hK _ w' Q ⟨σ',hr'.put ?_ hv⟩ hQ
  intro t e
  rw[hr'.tm]
  rw[e] at hd
  simpa [aU] using hd
end
section
variable {P:Program}{C:Cx}{s:St}
def gg (m:List (Nat×Nat))(n p:Nat):Nat:=match assoc m p with
 | some t=>t
 | none=>p+n
def sh (m:List (Nat×Nat)):CV→Bool
 | .bx p _ _=>(assoc m p).isSome
 | .aw p _=>(assoc m p).isSome
 | .mp p _=>(assoc m p).isSome
 | c=>tree c
def vV (m:List (Nat×Nat)):CV→Bool
 | .agg cs=>cs.all (sh m)
 | .cr cs=>cs.all (sh m)
 | c=>sh m c
theorem GD {m:List (Nat×Nat)}{c:CV}(h:sh m c=true)(o:Nat)(ho:aF o c=false):(assoc m o).isSome=true:=by
 have ht:tree c=true→False:=fun ht=>by rw[mb o c ht] at ho;cases ho
 cases c with
 | bx p _ _=>
  simp only[aF,bne_eq_false_iff_eq] at ho
  subst ho
  exact h
 | aw p _=>
  simp only[aF,bne_eq_false_iff_eq] at ho
  subst ho
  exact h
 | mp p _=>
  simp only[aF,bne_eq_false_iff_eq] at ho
  subst ho
  exact h
 | _=>exact (ht h).elim
theorem sZ {m:List (Nat×Nat)}:∀ {cs:List CV},cs.all (sh m)=true→∀ o,dJ o cs=false→(assoc m o).isSome=true
 | [],_,o,ho=>by simp[dJ] at ho
 | c::cs,h,o,ho=>by
  simp only[List.all_cons,Bool.and_eq_true] at h
  simp only[dJ,Bool.and_eq_false_iff] at ho
  rcases ho with ho | ho
  ·exact GD h.1 o ho
  ·exact sZ h.2 o ho
theorem KW {m:List (Nat×Nat)}{c:CV}(h:vV m c=true)(o:Nat)(ho:aF o c=false):(assoc m o).isSome=true:=by
 cases c with
 | agg cs=>exact sZ h o yBu
 | cr cs=>exact sZ h o yBu
 | _=>exact GD (m:=m) (by simpa only[vV] using h) o ho
theorem aH {cs:List CV}(h:trees cs=true)(m:List (Nat×Nat)):cs.all (sh m)=true:=List.all_eq_true.2 fun c hc=>by
 have:=iB h c hc
 cases c<;>first | exact this | simp[tree] at this
def eC (s:St)(ks:List Nat)(m:List (Nat×Nat))(_k _n:Nat):Bool:=
 (pick s.env ks).all (fun x=>vV m x.2) && ((pick s.heap (m.map (·.1))).all fun x=>x.2.cells.all (sh m))
def uO (m:List (Nat×Nat))(k n:Nat):Bool:=
 decide (m.map (·.2)).Nodup && decide (m.map (·.1)).Nodup && decide (k≤n) && m.all fun x=>decide (x.2<n) && (x.1 == x.2 || decide (k≤x.2))
theorem fI {m:List (Nat×Nat)}{p t:Nat}(h:assoc m p=some t):(p,t)∈m:=bB m p t h
theorem qE:∀ {m:List (Nat×Nat)} {p t:Nat},(m.map (·.1)).Nodup→(p,t)∈m→assoc m p=some t
 | [],_,_,_,h=>by cases h
 | (a,b)::r,p,t,hn,h=>by
  simp only[List.map_cons,List.nodup_cons] at hn
  simp only[assoc]
  rcases List.mem_cons.1 h with e | h
  ·cases e
   rw[if_pos rfl]
  ·rw[if_neg,qE hn.2 h]
   intro e
   subst e
   exact hn.1 (List.mem_map_of_mem (f:=(·.1)) h)
theorem x7:∀ {m:List (Nat×Nat)} {p q t:Nat},(m.map (·.2)).Nodup→(p,t)∈m→(q,t)∈m→p=q
 | [],_,_,_,_,h,_=>by cases h
 | (a,b)::r,p,q,t,hn,h,h'=>by
  simp only[List.map_cons,List.nodup_cons] at hn
  rcases List.mem_cons.1 h with e | h1<;>rcases List.mem_cons.1 h' with e' | h2
  ·cases e;cases e';rfl
  ·cases e;exact (hn.1 (List.mem_map_of_mem (f:=(·.2)) h2)).elim
  ·cases e';exact (hn.1 (List.mem_map_of_mem (f:=(·.2)) h1)).elim
  ·exact x7 hn.2 h1 h2
theorem Ie {m:List (Nat×Nat)}{k n:Nat}(h:uO m k n=true):∀ x y,gg m n x=gg m n y→x=y:=by
 simp only[uO,Bool.and_eq_true,decide_eq_true_eq,List.all_eq_true,Bool.or_eq_true,beq_iff_eq] at h
 obtain⟨⟨⟨h1,h2⟩,h3⟩,h4⟩:=h
 intro x y hxy
 unfold gg at hxy
 cases hx:assoc m x with
 | none=>
  cases hy:assoc m y with
  | none=>simp only[hx,hy] at hxy;omega
  | some t=>
   have:=(h4 _ (fI hy)).1
   simp only[hx,hy] at hxy
   omega
 | some t=>
  have:=(h4 _ (fI hx)).1
  cases hy:assoc m y with
  | none=>simp only[hx,hy] at hxy;omega
  | some t'=>
   simp only[hx,hy] at hxy
   subst hxy
   exact x7 h1 (fI hx) (fI hy)
def ue (m:List (Nat×Nat))(q:Nat):Option Nat:=(m.find? fun x=>x.2 == q).map (·.1)
theorem Fx {m:List (Nat×Nat)}(hn:(m.map (·.2)).Nodup){p t:Nat}(h:(p,t)∈m):ue m t=some p:=by
 unfold ue
 cases hf:m.find? fun x=>x.2 == t with
 | none=>
  rw[List.find?_eq_none] at hf
  exact (hf _ h yAa).elim
 | some x=>
  obtain⟨a,b⟩:=x
  have h1:=List.mem_of_find?_eq_some hf
  have h2:=List.find?_some hf
  simp only[beq_iff_eq] at h2
  subst h2
  simp only[Option.map_some]
  rw[x7 hn h1 h]
theorem wE {m:List (Nat×Nat)}{p t:Nat}(h:ue m t=some p):(p,t)∈m:=by
 unfold ue at h
 obtain⟨⟨a,b⟩,h1,h2⟩:=Option.map_eq_some_iff.1 h
 have h3:=List.mem_of_find?_eq_some h1
 have h4:=List.find?_some h1
 simp only[beq_iff_eq] at h4
 subst h4
 subst h2
 exact h3
theorem Le.norm (ks:List Nat)(m:List (Nat×Nat))(k n:Nat)(hm:uO m k n=true)(hs:(m.all fun x=>(assoc s.heap x.1).isSome || decide (k≤x.1) || x.1 == x.2)=true)(hk:eC s ks m k n=true)(hn0:C.n0≤k) :
  Le C s ⟨dF (gg m n) (pick s.env ks),bT (gg m n) (pick s.heap (m.map (·.1))),n⟩:=by
 intro a w ⟨σ,hr⟩
 have hi:=Ie hm
 have hm2:=hm
 simp only[uO,Bool.and_eq_true,decide_eq_true_eq,List.all_eq_true,Bool.or_eq_true,beq_iff_eq] at hm2
 obtain⟨⟨⟨h1,h2⟩,h3⟩,h4⟩:=hm2
 simp only[eC,Bool.and_eq_true] at hk
 obtain⟨hke,hkh⟩:=hk
 rw[List.all_eq_true] at hke hkh hs
 obtain⟨σ',hσ⟩:∃ σ':Nat→Option OB,∀ q,σ' q=if q<C.n0 then σ q else match ue m q with
   | some o=>σ o
   | none=>none:=⟨_,fun _=>rfl⟩
 have s1:∀ o t,assoc m o=some t→σ' (gg m n o)=σ o:=fun o t ho=>by
  have hmem:=fI ho
  have e:gg m n o=t:=by unfold gg;rw[ho]
  rw[e,hσ]
  split
  ·rename_i hlt
   rcases (h4 _ hmem).2 with h | h
   ·simp only at h;rw[h]
   ·simp only at h;omega
  ·rw[Fx h1 hmem]
 have s2:∀ o,(assoc m o).isSome=true→σ' (gg m n o)=σ o:=fun o ho=>by
  obtain⟨t,ht⟩:=Option.isSome_iff_exists.1 ho
  exact s1 o t ht
 have hpk:∀ o ob,assoc (pick s.heap (m.map (·.1))) o=some ob→assoc s.heap o=some ob∧(assoc m o).isSome=true∧ob.cells.all (sh m)=true:=fun o ob ho=>by
  refine⟨eD _ _ _ _ ho,?_,hkh _ (bB _ _ _ ho)⟩
  have hmem:=bB _ _ _ ho
  have:∀ (ks:List Nat) (x:Nat×Ob),x∈pick s.heap ks→x.1∈ks:=by
   intro ks
   induction ks with
   | nil=>intro x hx;simp[pick] at hx
   | cons a r ih=>
    intro x hx
    simp only[pick] at hx
    split at hx
    ·rcases List.mem_cons.1 hx with e | hx
     ·subst e;exact List.mem_cons_self
     ·exact List.mem_cons_of_mem _ (ih x hx)
    ·exact List.mem_cons_of_mem _ (ih x hx)
  have hmm:=this _ _ hmem
  simp only[List.mem_map] at hmm
  obtain⟨⟨p,t⟩,hp,rfl⟩:=hmm
  simp only
  rw[qE h2 hp]
  rfl
 have hblk:∀ o,(assoc m o).isSome=true→aV σ' (gg m n o)=aV σ o:=fun o ho=>by unfold aV;rw[s2 o ho]
 have hF:∀ b,FB C σ' (bT (gg m n) (pick s.heap (m.map (·.1)))) b→FB C σ s.heap b:=by
  rintro b (hb | ⟨q,ob,hq,hb⟩)
  ·exact .inl hb
  ·obtain⟨o,rfl⟩:=en _ q ob hq
   rw[cd hi] at hq
   obtain⟨ob',ho,_⟩:=Option.map_eq_some_iff.1 hq
   obtain⟨g1,g2,_⟩:=hpk o ob' ho
   exact .inr ⟨o,ob',g1,by rwa [hblk o g2] at hb⟩
 have hkp:cF w w (FB C σ s.heap) (FB C σ' (bT (gg m n) (pick s.heap (m.map (·.1))))):=cF.same hF
 refine⟨σ',hr.nq,hr.tm,hr.os,hr.tape,hr.output,hr.size,hr.frame,?_,?_,?_,?_,?_,Nat.le_trans hn0 h3,?_⟩
 ·intro t c hc
  simp only[fJ] at hc
  obtain⟨d,hd,rfl⟩:=Option.map_eq_some_iff.1 hc
  obtain⟨v,k1,k2⟩:=hr.env t d (eD _ _ _ _ hd)
  refine⟨v,k1,(VR.cZ _ d v).2 (VR.bp hkp _ _ (fun o ho=>s2 o (KW (hke _ (bB _ _ _ hd)) o ho)) k2)⟩
 ·intro q ob hq
  obtain⟨o,rfl⟩:=en _ q ob hq
  simp only[cd hi] at hq
  obtain⟨ob',ho,rfl⟩:=Option.map_eq_some_iff.1 hq
  obtain⟨g1,g2,g3⟩:=hpk o ob' ho
  obtain⟨B,m1,m2,m3,m4,m5⟩:=hr.obj o ob' g1
  refine⟨B,by rw[s2 o g2];exact m1,m2,fun hb=>by simp only[ca,m3 hb];rfl,by simp only[ca,fU];exact m4,fun b hb=>?_⟩
  obtain⟨cur,n1,n2',n3,n4,n5,n6⟩:=m5 b hb
  simp only[ca,gk]
  exact⟨cur,n1,n2',n3,n4,n5,(aS.cZ _ _ _).2 (aS.bp hkp _ _ (fun p hp=>s2 p (sZ g3 p hp)) n6)⟩
 ·intro q q' ob ob' b hq hq' hx hx'
  obtain⟨o,rfl⟩:=en _ q ob hq
  obtain⟨o',rfl⟩:=en _ q' ob' hq'
  simp only[cd hi] at hq hq'
  obtain⟨x,ho,_⟩:=Option.map_eq_some_iff.1 hq
  obtain⟨x',ho',_⟩:=Option.map_eq_some_iff.1 hq'
  obtain⟨g1,g2,_⟩:=hpk o x ho
  obtain⟨g1',g2',_⟩:=hpk o' x' ho'
  rw[hblk o g2] at hx
  rw[hblk o' g2'] at hx'
  rw[hr.inj o o' x x' b g1 g1' hx hx']
 ·intro q hq
  simp only at hq
  rw[hσ,if_neg yA]
  cases hsq:ue m q with
  | none=>rfl
  | some o=>
   have:=(h4 _ (wE hsq)).1
   simp only at this
   omega
 ·intro q hq
  rw[hσ,if_pos hq]
  exact hr.fj q hq
 ·intro q B b hq hB hb
  rw[hσ,if_neg yA] at hB
  cases hsq:ue m q with
  | none=>rw[hsq] at hB;cases hB
  | some o=>
   rw[hsq] at hB
   simp only at hB
   have hex:=hs _ (wE hsq)
   simp only[Bool.or_eq_true,decide_eq_true_eq,beq_iff_eq] at hex
   rcases hex with (hex | hex) | hex
   rotate_left
   ·exact hr.new o B b (Nat.le_trans hn0 hex) hB hb
   ·subst hex
    exact hr.new o B b yA hB hb
   obtain⟨ob,hob⟩:=Option.isSome_iff_exists.1 hex
   obtain⟨B',m1,_,_,_,m5⟩:=hr.obj o ob hob
   rw[m1] at hB
   cases hB
   obtain⟨cur,_,_,_,n4,_⟩:=m5 b hb
   exact n4
variable {ops:Array Oper}{aq:List (Nat×TI)}{nt N:Nat}{dyn:List (Nat×Nat)}{K:St→Prop}{i:Nat}{r:List Nat}{res:Nat→Er}
def Hj (ks chg:List Nat)(m:Nat)(H1:List (Nat×Ob)):Bool:=(H1.all fun x=>ks.contains x.1 || (decide (m≤x.1) && chg.contains x.1)) && chg.all fun p=>ks.contains p || (assoc H1 p).isSome
theorem RX.vu {o:Oper}{cl:Call}{g:FuncId}{args:List CV}{r0:CV}{H H1:List (Nat×Ob)}(ns ks chg:List Nat)(n d:Nat)(hb:Body P aq g args H n (kk r0 H1 (n+d)))(hl:ns.length=n)(hk:F4 ns s.nx=true)(hi:ops[i]? = Option.some o)(hd:aU nt o.dst=true)(hg:bU ops s o=Option.some true)(hu:cg o=Option.some cl)
  (hca:bl s cl=Option.some (g,bu (cI ns s.nx) args)) (hp:dZ s.heap ks=Option.some (bT (cI ns s.nx) H)) (ha:aQ n args=true) (hH:de n H=true) (ht:tree r0=true) (hv:yU dyn res i ks=true) (hc:Hj ks chg s.nx (bT (cI ns s.nx) H1)=true)
  (hs:∀ p∈ks,p∉chg→assoc (bT (cI ns s.nx) H1) p=assoc (bT (cI ns s.nx) H) p)
  (hK:EV dyn res i (iS r0 ks chg d (bT (cI ns s.nx) H1))=true∧px aq nt ops N dyn (FH P aq nt ops N dyn K) r (note dyn res i (iS r0 ks chg d (bT (cI ns s.nx) H1))) (St.put ⟨s.env,bT (cI ns s.nx) H1++dx s.heap ks,s.nx+d⟩ o.dst r0)):RX P aq nt ops N dyn K (i::r) res s:=by
 simp only[Hj,Bool.and_eq_true,List.all_eq_true,Bool.or_eq_true,decide_eq_true_eq] at hc
 refine⟨o,hi,hd,.inr ⟨hg,cl,g,_,hu,hca,.inr (.inr ⟨ks,chg,d,_,_,hp,hb.retN ns hl hk ha hH ht,hv,?_,?_⟩)⟩⟩
 ·rintro v s1 ⟨_,h2,h3⟩
  refine⟨h3,fun p ob hpo=>?_,fun p ln=>?_,fun p ln=>?_⟩
  ·rw[h2] at hpo
   rcases hc.1 _ (bB _ _ _ hpo) with h | h
   ·exact .inl yAy
   ·exact .inr h.1
  ·rw[h2]
   by_cases hm:p∈ks
   ·exact hs p hm ln
   ·obtain⟨i1,_⟩:=jU hp
    have e1:assoc (bT (cI ns s.nx) H) p=none:=by
     cases h4:assoc (bT (cI ns s.nx) H) p with
     | none=>rfl
     | some y=>exact (hm (i1 p y h4).1).elim
    have e2:assoc (bT (cI ns s.nx) H1) p=none:=by
     cases h4:assoc (bT (cI ns s.nx) H1) p with
     | none=>rfl
     | some y=>
      rcases hc.1 _ (bB _ _ _ h4) with h | h
      ·exact (hm yAy).elim
      ·exact (ln (by simpa using h.2)).elim
    rw[e1,e2]
  ·rw[h2]
   rcases hc.2 p ln with h | h
   ·exact .inl yAy
   ·exact .inr h
 ·rintro v s1 ⟨h1,h2,_⟩
  subst h1
  rw[h2]
  exact⟨hK.1,RX.go hK.2⟩
attribute [simp] Hj iS
end
section
variable {P:Program}{C:Cx}{σ:Nat→Option OB}{s:St}{a:Act}{w:World}{ops:Array Oper}{aq:List (Nat×TI)}
theorem Body.retNr {f:FuncId}{args:List CV}{H H1:List (Nat×Ob)}{n m d:Nat}{r0:CV}(l:List Nat)(hl:l.length=n)(h:Body P aq f args H n (kk r0 H1 (n+d)))(hk:F4 l m=true)(hr:aQ n args=true)(hH:de n H=true) :
  Body P aq f (bu (cI l m) args) (bT (cI l m) H) m (kk (dU (cI l m) r0) (bT (cI l m) H1) (m+d)):=by
 subst hl
 refine (Body.grow (CR hk) (BS hk) (fun p hp=>if_neg yA) h hr hH fun r s h=>h.2.2).ret fun r s ⟨r1,s1,h1,h2,h3⟩=>?_
 obtain⟨k1,k2,k3⟩:=h1
 subst h3
 rw[h2,k1,k2]
 exact⟨rfl,rfl,rfl⟩
theorem TL.n8 (ht0:ay P aq){o:Oper}{l:List Oper}{c:Call}{g:FuncId}{args:List CV}{K:St→Prop}{r0:CV}{H H1:List (Nat×Ob)}(ns ks:List Nat)(n d:Nat)(hb:Body P aq g args H n (kk r0 H1 (n+d)))(hl:ns.length=n)(hk:F4 ns s.nx=true)(hd:aU C.nt o.dst=true)(hg:bU ops s o=Option.some true)(ho:o.op=.call c)(hca:bl s c=Option.some (g,bu (cI ns s.nx) args))
  (hp:dZ s.heap ks=Option.some (bT (cI ns s.nx) H)) (ha:aQ n args=true) (hH:de n H=true) (hx:lF ks s.nx (bT (cI ns s.nx) H1) (dx s.heap ks)=true)
  (hK:TL P C ops l (St.put ⟨s.env,bT (cI ns s.nx) H1++dx s.heap ks,s.nx+d⟩ o.dst (dU (cI ns s.nx) r0)) K):TL P C ops (o::l) s K:=by
 intro a w Q hr hQ
 have hw:=eQ hr hg
 obtain⟨σ,hr⟩:=hr
 unfold wpList
 rw[if_pos hw]
 refine .inl ?_
 have hb':=hb.retNr ns hl hk ha hH
 have hen:jA P g:=by
  obtain⟨fn,code,hf,hbody,hnm,_⟩:=hb'
  exact⟨fn,hf,hnm,by simp[hbody]⟩
 simp only[lF,Bool.and_eq_true,List.all_eq_true,Bool.or_eq_true,decide_eq_true_eq] at hx
 refine oH ht0 (mW.of hp) (xP.value ho hca hen) hb' ?_ hr _ _ ?_
 ·rintro r s1 ⟨_,h1,_⟩ p ob ob' h2 h3
  rw[h1] at h2
  have m3:=hx.2 _ (bB _ _ _ h3)
  rw[dQ] at h3
  rcases hx.1 _ (bB _ _ _ h2) with hm | hm
  ·rw[if_pos (by simpa using hm)] at h3
   cases h3
  ·simp only at m3 hm
   omega
 ·rintro r s1 v w' σ' ⟨h1,h2,h3⟩ hr' hv _
  subst h1
  rw[h2,h3] at hr'
  rw[h2] at hv
  refine hK _ w' Q ⟨σ',hr'.put ?_ hv⟩ hQ
  intro t e
  rw[hr'.tm]
  rw[e] at hd
  simpa [aU] using hd
end
end Go.Can
namespace Go.aX
open Go.Can
inductive Ex where
 | zero
 | num (n:Nat)
 | nm (s:ByteArray)
 | un (k:Nat) (e:Ex)
 | bin (k:Nat) (a b:Ex)
 | loc (i:Nat)
 | ji (i:Nat)
abbrev I (n:Int):CV:=.int .i64 n
def eS:ByteArray:=⟨#[]⟩
def aZ:Ex→List CV
 | .zero=>[I 0,I 0,.str eS,.av [] 0]
 | .num n=>[I 1,I n,.str eS,.av [] 0]
 | .nm s=>[I 2,I 0,.str s,.av [] 0]
 | .un k e=>[I (3+k),I 0,.str eS,.av (aZ e) 1]
 | .bin k a b=>[I (5+k),I 0,.str eS,.av (aZ a++aZ b) 2]
 | .loc i=>[I 18,I i,.str eS,.av [] 0]
 | .ji i=>[I 19,I i,.str eS,.av [] 0]
theorem bk (e:Ex):(aZ e).length=4:=by cases e<;>rfl
def Ex.op:Ex→Int
 | .zero=>0
 | .num _=>1
 | .nm _=>2
 | .un k _=>3+k
 | .bin k _ _=>5+k
 | .loc _=>18
 | .ji _=>19
def Ex.n:Ex→Int
 | .num n=>n
 | .loc i=>i
 | .ji i=>i
 | _=>0
def Ex.name:Ex→ByteArray
 | .nm s=>s
 | _=>eS
def Ex.args:Ex→List Ex
 | .un _ e=>[e]
 | .bin _ a b=>[a,b]
 | _=>[]
theorem bL (e:Ex):aZ e=[I e.op,I e.n,.str e.name,.av (e.args.flatMap aZ) e.args.length]:=by
 cases e<;>simp[aZ,Ex.op,Ex.n,Ex.name,Ex.args]
structure Rf where
 name:ByteArray
 index:Option Ex
def mZ:Option Ex→CV
 | none=>.av [] 0
 | some e=>.av (aZ e) 1
def kZ (r:Rf):List CV:=[.str r.name,mZ r.index]
def k8:List CV:=[.str eS,.av [] 0]
inductive Ar where
 | uJ (r:Rf)
 | exp (e:Ex)
def oX:Ar→List CV
 | .uJ r=>.bool true::kZ r++aZ .zero
 | .exp e=>.bool false::k8++aZ e
inductive Sm where
 | gZ (name:ByteArray) (e:Ex)
 | iF (name:ByteArray) (e:Ex)
 | dY (go:Bool) (name:ByteArray) (args:List Ar)
 | dB (un:Bool) (r:Rf)
 | lG (e:Ex) (th el:List Sm)
 | cJ (e:Ex) (th:List Sm)
 | jC
mutual
def ir:Sm→List CV
 | .gZ s e=>[I 1,.str s]++aZ e++k8++[.av [] 0,.av [] 0,.av [] 0]
 | .iF s e=>[I 2,.str s]++aZ e++k8++[.av [] 0,.av [] 0,.av [] 0]
 | .dY g s l=>[I (if g then 4 else 3),.str s]++aZ .zero++k8++[.av (l.flatMap oX) l.length,.av [] 0,.av [] 0]
 | .dB u r=>[I (if u then 6 else 5),.str eS]++aZ .zero++kZ r++[.av [] 0,.av [] 0,.av [] 0]
 | .lG e th el=>[I 7,.str eS]++aZ e++k8++[.av [] 0,.av (bA th) th.length,.av (bA el) el.length]
 | .cJ e th=>[I 8,.str eS]++aZ e++k8++[.av [] 0,.av (bA th) th.length,.av [] 0]
 | .jC=>[I 9,.str eS]++aZ .zero++k8++[.av [] 0,.av [] 0,.av [] 0]
def bA:List Sm→List CV
 | []=>[]
 | s::r=>ir s++bA r
end
theorem ov:∀ l:List Sm,bA l=l.flatMap ir
 | []=>rfl
 | s::r=>by rw[bA,ov r,List.flatMap_cons]
theorem kI (s:Sm):(ir s).length=11:=by
 cases s<;>simp[ir,bk,k8,kZ]
structure Pm where
 name:ByteArray
 mutex:Bool
def ld (p:Pm):List CV:=[.str p.name,.bool p.mutex]
structure Gl where
 name:ByteArray
 init:Int
def pd (g:Gl):List CV:=[.str g.name,I g.init]
structure Mx where
 name:ByteArray
 re:Bool
 size:Nat
def cq (m:Mx):List CV:=[.str m.name,.bool m.re,I m.size]
structure Fu where
 name:ByteArray
 params:List Pm
 body:List Sm
def fk (f:Fu):List CV:=[.str f.name,.av (f.params.flatMap ld) f.params.length,.av (bA f.body) f.body.length]
structure Pg where
 gs:List Gl
 ms:List Mx
 fs:List Fu
def eH (p:Pg):List CV:=[.av (p.gs.flatMap pd) p.gs.length,.av (p.ms.flatMap cq) p.ms.length,.av (p.fs.flatMap fk) p.fs.length]
def wT (p:Pg):CV:=.agg (eH p)
structure Pl where
 param:Bool
 index:Nat
 at_:Option Ex
def gz (p:Pl):List CV:=[.bool p.param,I p.index,mZ p.at_]
def oz:List CV:=[.bool false,I 0,.av [] 0]
inductive In where
 | set (t:Nat) (g:Bool) (e:Ex)
 | call (go:Bool) (t:Nat) (ints:List Ex) (places:List Pl)
 | lock (un:Bool) (p:Pl)
 | branch (t:Nat) (e:Ex)
 | jump (t:Nat)
 | ret
def dv:In→List CV
 | .set t g e=>[I 1,I t,.bool g]++aZ e++oz++[.av [] 0,.av [] 0]
 | .call g t l ps=>[I (if g then 3 else 2),I t,.bool false]++aZ .zero++oz++[.av (l.flatMap aZ) l.length,.av (ps.flatMap gz) ps.length]
 | .lock u p=>[I (if u then 5 else 4),I 0,.bool false]++aZ .zero++gz p++[.av [] 0,.av [] 0]
 | .branch t e=>[I 6,I t,.bool false]++aZ e++oz++[.av [] 0,.av [] 0]
 | .jump t=>[I 7,I t,.bool false]++aZ .zero++oz++[.av [] 0,.av [] 0]
 | .ret=>[I 8,I 0,.bool false]++aZ .zero++oz++[.av [] 0,.av [] 0]
theorem jI (x:In):(dv x).length=12:=by
 cases x<;>simp[dv,bk,oz,gz]
structure Pr where
 name:ByteArray
 ints:Nat
 bf:Nat
 locals:Nat
 code:List In
def oR (p:Pr):List CV:=[.str p.name,I p.ints,I p.bf,I p.locals,.av (p.code.flatMap dv) p.code.length]
structure Un where
 gs:List Int
 ms:List Mx
 ps:List Pr
 main:Nat
def fy (u:Un):List CV:=[ints u.gs,.av (u.ms.flatMap cq) u.ms.length,.av (u.ps.flatMap oR) u.ps.length,I u.main]
def cS (u:Un):CV:=.agg (fy u)
structure Is where
 proc:Nat
 bf:List Nat
def aW (l:List Nat):CV:=.av (l.map fun n:Nat=>I n) l.length
def fV (i:Is):List CV:=[I i.proc,aW i.bf]
structure Cl where
 is:List Is
 calls:List (List Int)
 roots:List Nat
def oW (c:Cl):List CV:=[.av (c.is.flatMap fV) c.is.length,.av (c.calls.map ints) c.calls.length,aW c.roots]
def mU (c:Cl):CV:=.agg (oW c)
def cb (L:List Int)(i n:Nat):Nat×Nat:=match L[i]? with
 | none=>(0,i)
 | some x=>((x % (n:Int)).toNat,i+1)
theorem dk (L:List Int)(i:Nat){n:Nat}(h:0<n):(cb L i n).1<n:=by
 unfold cb
 split
 ·exact h
 ·rename_i x _
  have h1:=Int.emod_nonneg x (show (n:Int)≠0 by omega)
  have h2:=Int.emod_lt_of_pos x (show (0:Int)<n by omega)
  simp only
  omega
theorem ba (L:List Int){i:Nat}(n:Nat)(h:i≤L.length):(cb L i n).2≤L.length:=by
 unfold cb
 split
 ·exact h
 ·rename_i x hx
  exact (List.getElem?_eq_some_iff.1 hx).1
def vS (L:List Int)(i:Nat):Nat×Nat:=if (cb L i 8).1=1 then cb L (cb L i 8).2 4611686018427387904 else cb L (cb L i 8).2 4
theorem IA (L:List Int)(i:Nat):(vS L i).1<4611686018427387904:=by
 unfold vS
 split
 ·exact dk _ _ yA
 ·exact Nat.lt_of_lt_of_le (dk L _ (show 0<4 by omega)) yA
theorem IB (L:List Int){i:Nat}(h:i≤L.length):(vS L i).2≤L.length:=by
 unfold vS
 split
 ·exact ba _ _ (ba _ _ h)
 ·exact ba _ _ (ba _ _ h)
def qj (L:List Int)(ns:List ByteArray)(i:Nat):Ex×Nat:=
 if 0<ns.length∧(cb L i 2).1=1 then (.nm (ns.getD (cb L (cb L i 2).2 ns.length).1 eS),(cb L (cb L i 2).2 ns.length).2)
 else (.num (vS L (if 0<ns.length then (cb L i 2).2 else i)).1,(vS L (if 0<ns.length then (cb L i 2).2 else i)).2)
theorem Ac (L:List Int)(ns:List ByteArray){i:Nat}(h:i≤L.length):(qj L ns i).2≤L.length:=by
 unfold qj
 split
 ·exact ba _ _ (ba _ _ h)
 ·refine IB L ?_
  split
  ·exact ba _ _ h
  ·exact h
def qv (L:List Int)(ns:List ByteArray):Nat→Nat→Ex×Nat
 | 0,i=>qj L ns (cb L i 10).2
 | d+1,i=>
  if (cb L i 10).1<2 then qj L ns (cb L i 10).2
  else if (cb L i 10).1<4 then (.un ((cb L i 10).1 % 2) (qv L ns d (cb L i 10).2).1,(qv L ns d (cb L i 10).2).2)
  else (.bin (cb L (cb L i 10).2 13).1 (qv L ns d (cb L (cb L i 10).2 13).2).1 (qv L ns d (qv L ns d (cb L (cb L i 10).2 13).2).2).1,(qv L ns d (qv L ns d (cb L (cb L i 10).2 13).2).2).2)
theorem nU (L:List Int)(ns:List ByteArray):∀ (d:Nat) {i:Nat},i≤L.length→(qv L ns d i).2≤L.length
 | 0,i,h=>Ac L ns (ba _ _ h)
 | d+1,i,h=>by
  rw[qv]
  split
  ·exact Ac L ns (ba _ _ h)
  ·split
   ·exact nU L ns d (ba _ _ h)
   ·exact nU L ns d (nU L ns d (ba _ _ (ba _ _ h)))
def dq (L:List Int)(ar:Bool)(vars:List ByteArray)(i:Nat):Ex×Nat:=if ar=true then qv L vars (1+(cb L i 2).1) (cb L i 2).2 else qv L vars 0 i
def oT (L:List Int)(ar:Bool)(vars:List ByteArray)(size i:Nat):Ex×Nat:=
 if ar=true∧(cb L i 3).1=1 then qv L vars 1 (cb L i 3).2 else (.num (cb L (if ar=true then (cb L i 3).2 else i) size).1,(cb L (if ar=true then (cb L i 3).2 else i) size).2)
theorem ke (L:List Int)(ar:Bool)(vars:List ByteArray){i:Nat}(h:i≤L.length):(dq L ar vars i).2≤L.length:=by
 unfold dq
 split
 ·exact nU _ _ _ (ba _ _ h)
 ·exact nU _ _ _ h
theorem IX (L:List Int)(ar:Bool)(vars:List ByteArray)(size:Nat){i:Nat}(h:i≤L.length):(oT L ar vars size i).2≤L.length:=by
 unfold oT
 split
 ·exact nU _ _ _ (ba _ _ h)
 ·refine ba _ _ ?_
  split
  ·exact ba _ _ h
  ·exact h
def ER (p:Pm):List ByteArray:=if p.mutex=true then [p.name,p.name] else []
def bS (ms:List Mx)(ps:List Pm):List ByteArray:=ms.map (·.name)++ps.flatMap ER
def kY (ms:List Mx)(j:Nat):Nat:=match ms[j]? with
 | some m=>m.size
 | none=>0
def ju (L:List Int)(ar:Bool)(ms:List Mx)(ps:List Pm)(vars:List ByteArray)(i:Nat):Rf×Nat:=
 if (cb L i (bS ms ps).length).1<ms.length∧0<kY ms (cb L i (bS ms ps).length).1 then
  (⟨(bS ms ps).getD (cb L i (bS ms ps).length).1 eS,some (oT L ar vars (kY ms (cb L i (bS ms ps).length).1) (cb L i (bS ms ps).length).2).1⟩,(oT L ar vars (kY ms (cb L i (bS ms ps).length).1) (cb L i (bS ms ps).length).2).2)
 else (⟨(bS ms ps).getD (cb L i (bS ms ps).length).1 eS,none⟩,(cb L i (bS ms ps).length).2)
theorem qe (L:List Int)(ar:Bool)(ms:List Mx)(ps:List Pm)(vars:List ByteArray){i:Nat}(h:i≤L.length):(ju L ar ms ps vars i).2≤L.length:=by
 unfold ju
 split
 ·exact IX _ _ _ _ (ba _ _ h)
 ·exact ba _ _ h
def dg (L:List Int)(ar:Bool)(ms:List Mx)(ps:List Pm)(vars:List ByteArray):List Pm→Nat→List Ar×Nat
 | [],i=>([],i)
 | p::r,i=>if p.mutex=true then (.uJ (ju L ar ms ps vars i).1::(dg L ar ms ps vars r (ju L ar ms ps vars i).2).1,(dg L ar ms ps vars r (ju L ar ms ps vars i).2).2)
  else (.exp (dq L ar vars i).1::(dg L ar ms ps vars r (dq L ar vars i).2).1,(dg L ar ms ps vars r (dq L ar vars i).2).2)
theorem qG (L:List Int)(ar:Bool)(ms:List Mx)(ps:List Pm)(vars:List ByteArray):∀ (l:List Pm) {i:Nat},i≤L.length→(dg L ar ms ps vars l i).2≤L.length
 | [],_,h=>h
 | p::r,i,h=>by
  rw[dg]
  split
  ·exact qG L ar ms ps vars r (qe _ _ _ _ _ h)
  ·exact qG L ar ms ps vars r (ke _ _ _ h)
def strs (ns:List ByteArray):CV:=.av (ns.map .str) ns.length
end Go.aX
