/- Calls of contracts that leave new objects: the numbers of the contract are sent to the caller's, new ones to the next ones. No function of the program is mentioned here. | put. | The memory put in order: what is kept, under other numbers. No function of the program is mentioned here. -/
import Derived.Test.YtmnglemlimfpbaaGreatZ20
import Derived.Test.YtmnglemlimfpbaaGreatZ37
namespace Go.Can
open Go.RowKit
section
variable {P:Program}{C:Cx}{σ:Nat→Option OB}{s:St}{a:Act}{w:World}{ops:Array Oper}{aj:List (Nat×TI)}
theorem Body.grow {ρ:Nat→Nat}(hi:∀ x y,ρ x=ρ y→x=y){f:FuncId}{args:List CV}{H:List (Nat×Ob)}{n n' d:Nat}{R:CV→St→Prop}(hρ:∀ p,p<n→ρ p<n')(hρ2:∀ p,n≤p→ρ p=p-n+n')(h:Body P aj f args H n R)(ha:aC n args=true)(hH:cF n H=true)(hR:∀ r s,R r s→s.nx=n+d) :
  Body P aj f (bJ ρ args) (bF ρ H) n' fun r s=>∃ r1 s1,R r1 s1∧r=dr ρ r1∧s=⟨cW ρ s1.env,bF ρ s1.heap,n' + d⟩:=by
 obtain⟨fn,c,hf,hb,hnm,hl,hT⟩:=h
 refine⟨fn,c,hf,hb,hnm,by rw[dO];exact hl,fun C' hC hC0 a w ⟨σ,hr⟩=>?_⟩
 rw[p8] at hr
 have hargs:∀ (t:Nat) c o,assoc (enter args).env t=some c→aL o c=false→o<n:=fun t c o hc ho=>by
  obtain⟨_,h2⟩:=eC args 0 t c hc
  have hm:c∈args:=List.mem_of_getElem? h2
  rw[aD,List.all_eq_true] at ha
  exact jj n c o (ha c hm) ho
 obtain⟨σt,hσt⟩:∃ σt:Nat→Option OB,σt=below (fun p=>σ (ρ p)) n fun _=>none:=⟨_,rfl⟩
 have t1:∀ p,p<n→σt p=σ (ρ p):=fun p hp=>by rw[hσt];exact fh hp
 have t2:∀ p,n≤p→σt p=none:=fun p hp=>by rw[hσt];exact iG hp
 have hsame:∀ (G:List (Nat×Ob)),(∀ o ob,assoc G o=some ob→o<n)→∀ b,(C'.F b∨∃ o ob,assoc G o=some ob∧aJ σt o=some b)↔FB C' σ (bF ρ G) b:=fun G hG b=>by
  unfold FB
  constructor
  ·rintro (h | ⟨o,ob,ho,hx⟩)
   ·exact .inl h
   ·refine .inr ⟨ρ o,bD ρ ob,by rw[bm hi,ho];rfl,?_⟩
    unfold aJ at hx ⊢
    rwa [t1 o (hG o ob ho)] at hx
  ·rintro (h | ⟨q,ob,hq,hx⟩)
   ·exact .inl h
   ·obtain⟨o,rfl⟩:=cP G q ob hq
    rw[bm hi] at hq
    obtain⟨ob',ho,_⟩:=Option.map_eq_some_iff.1 hq
    refine .inr ⟨o,ob',ho,?_⟩
    unfold aJ at hx ⊢
    rwa [t1 o (hG o ob' ho)]
 have hdomH:∀ o ob,assoc H o=some ob→o<n:=fun o ob ho=>(fy hH o ob ho).1
 have h0:aH ⟨C'.w0,C'.F,C'.own,C'.hF,C'.nt,σt,n⟩ σt ⟨(enter args).env,H,n⟩ a w:=by
  have hK:bO w w (FB C' σ (bF ρ H)) (FB ⟨C'.w0,C'.F,C'.own,C'.hF,C'.nt,σt,n⟩ σt H):=bO.same fun b hx=>(hsame H hdomH b).1 hx
  refine⟨hr.kO,hr.tm,hr.os,hr.tape,hr.output,hr.size,hr.frame,?_,?_,?_,fun o ho=>t2 o ho,fun _ _=>rfl,Nat.le_refl _,fun o B b ho hB _=>by rw[t2 o ho] at hB;cases hB⟩
  ·intro t c hc
   obtain⟨v,k1,k2⟩:=hr.env t (dr ρ c) (by rw[dX,hc];rfl)
   refine⟨v,k1,?_⟩
   exact VR.keep hK _ _ (fun o ho=>t1 o (hargs t c o hc ho)) ((VR.ck ρ c v).1 k2)
  ·intro o ob ho
   obtain⟨B,m1,m2,m3,m4,m5⟩:=hr.obj (ρ o) (bD ρ ob) (by rw[bm hi,ho];rfl)
   have hlt:=hdomH o ob ho
   refine⟨B,by rw[t1 o hlt];exact m1,m2,fun hb=>?_,by have:=m4;simp only[bD,dS] at this;exact this,fun b hb=>?_⟩
   ·have:=m3 hb
    simp only[bD] at this
    have hl:=dO ρ ob.cells
    rw[this] at hl
    exact List.eq_nil_of_length_eq_zero hl.symm
   ·obtain⟨cur,n1,n2,n3,n4,n5,n6⟩:=m5 b hb
    simp only[bD,dO] at n5 n6
    refine⟨cur,n1,n2,n3,n4,n5,?_⟩
    exact aQ.keep hK _ _ (fun p hp=>t1 p (dV n _ p (fy hH o ob ho).2 hp)) ((aQ.ck ρ _ _).1 n6)
  ·intro o o' ob ob' b ho ho' hx hx'
   unfold aJ at hx hx'
   rw[t1 o (hdomH o ob ho)] at hx
   rw[t1 o' (hdomH o' ob' ho')] at hx'
   exact hi _ _ (hr.inj (ρ o) (ρ o') (bD ρ ob) (bD ρ ob') b (by rw[bm hi,ho];rfl) (by rw[bm hi,ho'];rfl) hx hx')
 refine wp_mono (hT ⟨C'.w0,C'.F,C'.own,C'.hF,C'.nt,σt,n⟩ hC rfl a w ⟨_,h0⟩) fun e a' w' ⟨s1,q,σ1,hr1⟩=>?_
 have fin:ae ⟨C'.w0,C'.F,C'.own,C'.hF,C'.nt,σt,n⟩ (fun s'=>∃ r,bb aj fn s'=some r∧R r s') s1 →
   ∃ s',ae C' (fun s'=>∃ r,bb aj fn s'=some r∧∃ r1 s1,R r1 s1∧r=dr ρ r1∧s'=⟨cW ρ s1.env,bF ρ s1.heap,n' + d⟩) s'∧Rel C' s' a' w':=fun⟨s2,⟨r,q1,q2⟩,hle⟩=>by
  obtain⟨σ2,hr2⟩:=hle _ _ ⟨σ1,hr1⟩
  have hnx2:=hR r s2 q2
  obtain⟨e2,H2,n2⟩:=s2
  simp only at hnx2
  subst hnx2
  obtain⟨σn,hσn⟩:∃ σn:Nat→Option OB,σn=fun q=>if q<n' then σ q else σ2 (q-n' + n):=⟨_,rfl⟩
  have u1:∀ q,q<n'→σn q=σ q:=fun q hq=>by rw[hσn];exact if_pos hq
  have u2:∀ q,n'≤q→σn q=σ2 (q-n' + n):=fun q hq=>by rw[hσn];exact if_neg (by omega)
  have u3:∀ o,σn (ρ o)=σ2 o:=fun o=>by
   rcases Nat.lt_or_ge o n with ho | ho
   ·rw[u1 _ (hρ o ho),← t1 o ho]
    exact (hr2.ek o ho).symm
   ·rw[hρ2 o ho,u2 _ (by omega)]
    congr 1
    omega
  have hblk:∀ o,aJ σn (ρ o)=aJ σ2 o:=fun o=>by unfold aJ;rw[u3]
  have hFB:∀ b,FB C' σn (bF ρ H2) b→FB ⟨C'.w0,C'.F,C'.own,C'.hF,C'.nt,σt,n⟩ σ2 H2 b:=by
   rintro b (h | ⟨q,ob,hq,hx⟩)
   ·exact .inl h
   ·obtain⟨o,rfl⟩:=cP H2 q ob hq
    rw[bm hi] at hq
    obtain⟨ob',ho,_⟩:=Option.map_eq_some_iff.1 hq
    exact .inr ⟨o,ob',ho,by rwa [hblk] at hx⟩
  have hK:bO w' w' (FB ⟨C'.w0,C'.F,C'.own,C'.hF,C'.nt,σt,n⟩ σ2 H2) (FB C' σn (bF ρ H2)):=bO.same fun b hx=>hFB b hx
  refine⟨⟨cW ρ e2,bF ρ H2,n' + d⟩,ae.here ⟨dr ρ r,?_,r,_,q2,rfl,rfl⟩,σn,?_⟩
  ·rw[ln (n:=n+d) hi (fun t cs hc=>?_),q1]
   ·rfl
   ·obtain⟨v,_,k2⟩:=hr2.env t _ hc
    simp only[VR,bM] at k2
    obtain⟨ad,_,h3⟩:=k2
    exact az ρ cs (eX.tree cs ad h3)
  ·refine⟨hr2.kO,hr2.tm,hr2.os,hr2.tape,hr2.output,hr2.size,hr2.frame,?_,?_,?_,fun q hq=>?_,fun q hq=>?_,by rw[hC0];exact Nat.le_add_right _ _,fun q B b hq hB hb=>?_⟩
   ·intro t c hc
    simp only[dX] at hc
    obtain⟨c',hd,rfl⟩:=Option.map_eq_some_iff.1 hc
    obtain⟨v,k1,k2⟩:=hr2.env t c' hd
    exact⟨v,k1,(VR.ck ρ c' v).2 (VR.keep hK _ _ (fun o _=>u3 o) k2)⟩
   ·intro q ob hq
    obtain⟨o,rfl⟩:=cP H2 q ob hq
    simp only[bm hi] at hq
    obtain⟨ob',ho,rfl⟩:=Option.map_eq_some_iff.1 hq
    obtain⟨B,m1,m2,m3,m4,m5⟩:=hr2.obj o ob' ho
    refine⟨B,by rw[u3];exact m1,m2,fun hb=>by simp only[bD,m3 hb];rfl,by simp only[bD,dS];exact m4,fun b hb=>?_⟩
    obtain⟨cur,n1,n2',n3,n4,n5,n6⟩:=m5 b hb
    simp only[bD,dO]
    exact⟨cur,n1,n2',n3,n4,n5,(aQ.ck ρ _ _).2 (aQ.keep hK _ _ (fun p _=>u3 p) n6)⟩
   ·intro q q' ob ob' b hq hq' hx hx'
    obtain⟨o,rfl⟩:=cP H2 q ob hq
    obtain⟨o',rfl⟩:=cP H2 q' ob' hq'
    simp only[bm hi] at hq hq'
    obtain⟨x,ho,_⟩:=Option.map_eq_some_iff.1 hq
    obtain⟨x',ho',_⟩:=Option.map_eq_some_iff.1 hq'
    rw[hblk] at hx hx'
    rw[hr2.inj o o' x x' b ho ho' hx hx']
   ·simp only at hq
    rw[u2 q (by omega)]
    exact hr2.nx _ (by simp only;omega)
   ·rw[hC0] at hq
    rw[u1 q hq]
    exact hr.ek q (by rw[hC0];exact hq)
   ·rw[hC0] at hq
    rw[u2 q hq] at hB
    exact hr2.new _ B b (by simp only;omega) hB hb
 cases e with
 | normal=>exact fin q
 | ret=>exact fin q
 | exit _=>exact q.elim
 | goto _=>exact q.elim
 | panic _=>exact q.elim
 | outgrown=>exact q.elim
def bZ (l:List Nat)(m p:Nat):Nat:=if p<l.length then l.getD p 0 else p-l.length+m
def DL (l:List Nat)(m:Nat):Bool:=l.all (fun x=>decide (x<m)) && decide ((l.zipIdx).all fun x=>(l.zipIdx).all fun y=>x.1 != y.1 || x.2 == y.2)
theorem zx {l:List Nat}{m:Nat}(h:DL l m=true):∀ p,p<l.length→bZ l m p<m:=by
 intro p hp
 simp only[DL,Bool.and_eq_true,List.all_eq_true,decide_eq_true_eq] at h
 unfold bZ
 rw[if_pos hp,List.getD_eq_getElem?_getD,List.getElem?_eq_getElem hp]
 exact h.1 _ (List.getElem_mem hp)
theorem AA {l:List Nat}{m:Nat}(h:DL l m=true):∀ x y,bZ l m x=bZ l m y→x=y:=by
 intro x y hxy
 have hlt:=zx h
 rcases Nat.lt_or_ge x l.length with hx | hx<;>rcases Nat.lt_or_ge y l.length with hy | hy
 ·simp only[DL,Bool.and_eq_true,decide_eq_true_eq,List.all_eq_true] at h
  have h2:=h.2
  unfold bZ at hxy
  rw[if_pos hx,if_pos hy,List.getD_eq_getElem?_getD,List.getD_eq_getElem?_getD,List.getElem?_eq_getElem hx,List.getElem?_eq_getElem hy] at hxy
  have mx:(l[x],x)∈l.zipIdx:=List.mk_mem_zipIdx_iff_getElem?.2 (List.getElem?_eq_getElem hx)
  have my:(l[y],y)∈l.zipIdx:=List.mk_mem_zipIdx_iff_getElem?.2 (List.getElem?_eq_getElem hy)
  have:=h2 _ mx _ my
  simp only[Option.getD_some] at hxy
  simpa [hxy] using this
 ·have h1:=hlt x hx
  have h2:bZ l m y=y-l.length+m:=if_neg (by omega)
  omega
 ·have h1:=hlt y hy
  have h2:bZ l m x=x-l.length+m:=if_neg (by omega)
  omega
 ·have h1:bZ l m x=x-l.length+m:=if_neg (by omega)
  have h2:bZ l m y=y-l.length+m:=if_neg (by omega)
  omega
theorem Body.F0 {f:FuncId}{args:List CV}{H H1:List (Nat×Ob)}{n m d:Nat}{r0:CV}(l:List Nat)(hl:l.length=n)(h:Body P aj f args H n (iR r0 H1 (n+d)))(hk:DL l m=true)(hr:aC n args=true)(hH:cF n H=true)(ht:tree r0=true) :
  Body P aj f (bJ (bZ l m) args) (bF (bZ l m) H) m (iR r0 (bF (bZ l m) H1) (m+d)):=by
 subst hl
 refine (Body.grow (AA hk) (zx hk) (fun p hp=>if_neg (by omega)) h hr hH fun r s h=>h.2.2).ret fun r s ⟨r1,s1,h1,h2,h3⟩=>?_
 obtain⟨k1,k2,k3⟩:=h1
 subst h3
 rw[h2,k1,fH _ _ ht,k2]
 exact⟨rfl,rfl,rfl⟩
def jy (ks:List Nat)(m:Nat)(H D:List (Nat×Ob)):Bool:=(H.all fun x=>ks.contains x.1 || decide (m≤x.1)) && D.all fun x=>decide (x.1<m)
theorem TL.s8 (ht0:aF P aj){o:Oper}{l:List Oper}{c:Call}{g:FuncId}{args:List CV}{K:St→Prop}{r0:CV}{H H1:List (Nat×Ob)}(ns ks:List Nat)(n d:Nat)(hb:Body P aj g args H n (iR r0 H1 (n+d)))(hl:ns.length=n)(hk:DL ns s.nx=true)(hd:aW C.nt o.dst=true)(hg:bK ops s o=Option.some true)(ho:o.op=.call c)(hca:aK s c=Option.some (g,bJ (bZ ns s.nx) args))
  (hp:dE s.heap ks=Option.some (bF (bZ ns s.nx) H)) (ha:aC n args=true) (hH:cF n H=true) (ht:tree r0=true) (hx:jy ks s.nx (bF (bZ ns s.nx) H1) (cN s.heap ks)=true)
  (hK:TL P C ops l (St.put ⟨s.env,bF (bZ ns s.nx) H1++cN s.heap ks,s.nx+d⟩ o.dst r0) K):TL P C ops (o::l) s K:=by
 intro a w Q hr hQ
 have hw:=dy hr hg
 obtain⟨σ,hr⟩:=hr
 unfold wpList
 rw[if_pos hw]
 refine .inl ?_
 have hb':=hb.F0 ns hl hk ha hH ht
 have hen:Enters P g:=by
  obtain⟨fn,code,hf,hbody,hnm,_⟩:=hb'
  exact⟨fn,hf,hnm,by simp[hbody]⟩
 simp only[jy,Bool.and_eq_true,List.all_eq_true,Bool.or_eq_true,decide_eq_true_eq] at hx
 refine pk ht0 (jA.of hp) (tF.value ho hca hen) hb' ?_ hr _ _ ?_
 ·rintro r s1 ⟨_,h1,_⟩ p ob ob' h2 h3
  rw[h1] at h2
  have m3:=hx.2 _ (a7 _ _ _ h3)
  rw[dA] at h3
  rcases hx.1 _ (a7 _ _ _ h2) with hm | hm
  ·rw[if_pos (by simpa using hm)] at h3
   cases h3
  ·simp only at m3 hm
   omega
 ·rintro r s1 v w' σ' ⟨h1,h2,h3⟩ hr' hv _
  subst h1
  rw[h2,h3] at hr'
  rw[h2] at hv
  refine hK _ w' Q ⟨σ',hr'.put ?_ hv⟩ hQ
  intro t e
  rw[hr'.tm]
  rw[e] at hd
  simpa [aW] using hd
end
end Go.Can
namespace Go.Proofs.YtmnglemlimfpbaaGreat
open Go.Can Go.bg
def fw (p:Pg)(E:List En)(k st a cl b sl:Nat):Ob:=⟨196,0,[.ax (p.gs.flatMap ny) p.gs.length,.ax (p.ms.flatMap js) p.ms.length,.ax (p.fs.flatMap eP) p.fs.length,.ax (E.flatMap gJ) E.length,I k,I st,I 0,I 0,.bw a 0 cl,.bw b 0 sl]⟩
theorem vD (p:Pg)(E:List En)(k st cl sl:Nat):cO p E k st cl sl=fw p E k st 1 cl 2 sl:=rfl
set_option maxHeartbeats 4000000 in
theorem H7 (p:Pg)(E:List En)(k st:Nat)(X:List CV)(N:Nat)(hX:X.length=N*12)(tX:trees X=true)(S:List CV)(M:Nat)(hS:S.length=M)(tS:trees S=true)(hN:N≤10000)(hM:M≤10000)
  (cs:List CV) (hcs:cs.length=12) (tcs:trees cs=true) (n:Int) :
  Body Tryz.prog aj 93 [.aq 0 0,.agg cs,I n] [(0,fw p E k st 1 N 2 M),(1,⟨69,12,X⟩),(2,⟨3,1,S⟩)] 3 (iR (I N) [(0,fw p E k st 3 (N+1) 4 (M+1)),(3,⟨69,12,X++cs⟩),(4,⟨3,1,S++[I n]⟩)] (3+2)):=by
 refine Body.iN Tryz.func93 rfl (by kernel_rfl) (by simp[Tryz.ntmps93]) fun C hC hC0=>?_
 rw[Tryz.ntmps93] at hC
 refine T.seq (T.go' aa ?_)
 simp[hC]
 have hb1:(N+1)*168≤140737488355328:=by omega
 have hb2:(M+1)*8≤140737488355328:=by omega
 have htc:List.take 12 cs=cs:=List.take_of_length_le (by omega)
 refine T.seq ?_
 refine T.rx aa follows [0,1,2,3,4,5,6,7,8,9,10,11,12,13,14,15,16,17,18,19,20,21] [(5,7),(5,14),(6,14),(7,12),(7,14),(8,12),(8,14),(12,14)] (by kernel_rfl) ?_
 simp[hC,fw,hX,hS,hcs,htc,hb1,hb2,aX]
 have w1:=db (N:Int) (by omega) (by omega)
 refine T.seq (T.go' aa ?_)
 simp[hC,w1]
 refine T.ret ?_
 have tXc:trees (X++cs)=true:=by rw[bh,tX,tcs];rfl
 have tSn:trees (S++[I n])=true:=by rw[bh,tS];rfl
 refine ae.le (Le.trim [6] [0,26,27] 28 (by simp[-List.all_eq_true,-List.all_flatMap,af tX,af tcs,af tS]) (by omega)) ?_
 simp
 refine ae.le (Le.na 26 3 rfl rfl (by omega) (by simp) (by simp) (by simp[-List.all_eq_true,-List.all_flatMap,a6 tX,a6 tcs,a6 tS])) ?_
 simp[aY tX,aY tcs,aY tS]
 refine ae.le (Le.na 27 4 rfl rfl (by omega) (by simp) (by simp) (by simp[-List.all_eq_true,-List.all_flatMap,a6 tX,a6 tcs,a6 tS])) ?_
 simp[aY tX,aY tcs,aY tS]
 refine ae.trim [6] [0,3,4] 5 (by simp[-List.all_eq_true,-List.all_flatMap,af tX,af tcs,af tS]) (by omega) ⟨_,?_,rfl,?_,rfl⟩
 ·simp
 ·simp
end Go.Proofs.YtmnglemlimfpbaaGreat
namespace Go.Can
open Go.RowKit
section
variable {P:Program}{C:Cx}{s:St}
def fx (m:List (Nat×Nat))(n p:Nat):Nat:=match assoc m p with
 | some t=>t
 | none=>p+n
def ky (m:List (Nat×Nat)):CV→Bool
 | .bw p _ _=>(assoc m p).isSome
 | .aq p _=>(assoc m p).isSome
 | .mp p _=>(assoc m p).isSome
 | c=>tree c
def lN (m:List (Nat×Nat)):CV→Bool
 | .agg cs=>cs.all (ky m)
 | .df cs=>cs.all (ky m)
 | c=>ky m c
theorem Ej {m:List (Nat×Nat)}{c:CV}(h:ky m c=true)(o:Nat)(ho:aL o c=false):(assoc m o).isSome=true:=by
 have ht:tree c=true→False:=fun ht=>by rw[kV o c ht] at ho;cases ho
 cases c with
 | bw p _ _=>
  simp only[aL,bne_eq_false_iff_eq] at ho
  subst ho
  exact h
 | aq p _=>
  simp only[aL,bne_eq_false_iff_eq] at ho
  subst ho
  exact h
 | mp p _=>
  simp only[aL,bne_eq_false_iff_eq] at ho
  subst ho
  exact h
 | _=>exact (ht h).elim
theorem rj {m:List (Nat×Nat)}:∀ {cs:List CV},cs.all (ky m)=true→∀ o,dw o cs=false→(assoc m o).isSome=true
 | [],_,o,ho=>by simp[dw] at ho
 | c::cs,h,o,ho=>by
  simp only[List.all_cons,Bool.and_eq_true] at h
  simp only[dw,Bool.and_eq_false_iff] at ho
  rcases ho with ho | ho
  ·exact Ej h.1 o ho
  ·exact rj h.2 o ho
theorem Iy {m:List (Nat×Nat)}{c:CV}(h:lN m c=true)(o:Nat)(ho:aL o c=false):(assoc m o).isSome=true:=by
 cases c with
 | agg cs=>exact rj h o (by simpa [aL] using ho)
 | df cs=>exact rj h o (by simpa [aL] using ho)
 | _=>exact Ej (m:=m) (by simpa only[lN] using h) o ho
theorem aA {cs:List CV}(h:trees cs=true)(m:List (Nat×Nat)):cs.all (ky m)=true:=List.all_eq_true.2 fun c hc=>by
 have:=fX h c hc
 cases c<;>first | exact this | simp[tree] at this
def ca (s:St)(ks:List Nat)(m:List (Nat×Nat))(_k _n:Nat):Bool:=
 (pick s.env ks).all (fun x=>lN m x.2) && ((pick s.heap (m.map (·.1))).all fun x=>x.2.cells.all (ky m))
def sy (m:List (Nat×Nat))(k n:Nat):Bool:=
 decide (m.map (·.2)).Nodup && decide (m.map (·.1)).Nodup && decide (k≤n) && m.all fun x=>decide (x.2<n) && (x.1 == x.2 || decide (k≤x.2))
theorem fj {m:List (Nat×Nat)}{p t:Nat}(h:assoc m p=some t):(p,t)∈m:=a7 m p t h
theorem pv:∀ {m:List (Nat×Nat)} {p t:Nat},(m.map (·.1)).Nodup→(p,t)∈m→assoc m p=some t
 | [],_,_,_,h=>by cases h
 | (a,b)::r,p,t,hn,h=>by
  simp only[List.map_cons,List.nodup_cons] at hn
  simp only[assoc]
  rcases List.mem_cons.1 h with e | h
  ·cases e
   rw[if_pos rfl]
  ·rw[if_neg,pv hn.2 h]
   intro e
   subst e
   exact hn.1 (List.mem_map_of_mem (f:=(·.1)) h)
theorem vA:∀ {m:List (Nat×Nat)} {p q t:Nat},(m.map (·.2)).Nodup→(p,t)∈m→(q,t)∈m→p=q
 | [],_,_,_,_,h,_=>by cases h
 | (a,b)::r,p,q,t,hn,h,h'=>by
  simp only[List.map_cons,List.nodup_cons] at hn
  rcases List.mem_cons.1 h with e | h1<;>rcases List.mem_cons.1 h' with e' | h2
  ·cases e;cases e';rfl
  ·cases e;exact (hn.1 (List.mem_map_of_mem (f:=(·.2)) h2)).elim
  ·cases e';exact (hn.1 (List.mem_map_of_mem (f:=(·.2)) h1)).elim
  ·exact vA hn.2 h1 h2
theorem FY {m:List (Nat×Nat)}{k n:Nat}(h:sy m k n=true):∀ x y,fx m n x=fx m n y→x=y:=by
 simp only[sy,Bool.and_eq_true,decide_eq_true_eq,List.all_eq_true,Bool.or_eq_true,beq_iff_eq] at h
 obtain⟨⟨⟨h1,h2⟩,h3⟩,h4⟩:=h
 intro x y hxy
 unfold fx at hxy
 cases hx:assoc m x with
 | none=>
  cases hy:assoc m y with
  | none=>simp only[hx,hy] at hxy;omega
  | some t=>
   have:=(h4 _ (fj hy)).1
   simp only[hx,hy] at hxy
   omega
 | some t=>
  have:=(h4 _ (fj hx)).1
  cases hy:assoc m y with
  | none=>simp only[hx,hy] at hxy;omega
  | some t'=>
   simp only[hx,hy] at hxy
   subst hxy
   exact vA h1 (fj hx) (fj hy)
def rK (m:List (Nat×Nat))(q:Nat):Option Nat:=(m.find? fun x=>x.2 == q).map (·.1)
theorem Dj {m:List (Nat×Nat)}(hn:(m.map (·.2)).Nodup){p t:Nat}(h:(p,t)∈m):rK m t=some p:=by
 unfold rK
 cases hf:m.find? fun x=>x.2 == t with
 | none=>
  rw[List.find?_eq_none] at hf
  exact (hf _ h (by simp)).elim
 | some x=>
  obtain⟨a,b⟩:=x
  have h1:=List.mem_of_find?_eq_some hf
  have h2:=List.find?_some hf
  simp only[beq_iff_eq] at h2
  subst h2
  simp only[Option.map_some]
  rw[vA hn h1 h]
theorem uD {m:List (Nat×Nat)}{p t:Nat}(h:rK m t=some p):(p,t)∈m:=by
 unfold rK at h
 obtain⟨⟨a,b⟩,h1,h2⟩:=Option.map_eq_some_iff.1 h
 have h3:=List.mem_of_find?_eq_some h1
 have h4:=List.find?_some h1
 simp only[beq_iff_eq] at h4
 subst h4
 subst h2
 exact h3
theorem Le.norm (ks:List Nat)(m:List (Nat×Nat))(k n:Nat)(hm:sy m k n=true)(hs:(m.all fun x=>(assoc s.heap x.1).isSome || decide (k≤x.1) || x.1 == x.2)=true)(hk:ca s ks m k n=true)(hn0:C.n0≤k) :
  Le C s ⟨cW (fx m n) (pick s.env ks),bF (fx m n) (pick s.heap (m.map (·.1))),n⟩:=by
 intro a w ⟨σ,hr⟩
 have hi:=FY hm
 have hm2:=hm
 simp only[sy,Bool.and_eq_true,decide_eq_true_eq,List.all_eq_true,Bool.or_eq_true,beq_iff_eq] at hm2
 obtain⟨⟨⟨h1,h2⟩,h3⟩,h4⟩:=hm2
 simp only[ca,Bool.and_eq_true] at hk
 obtain⟨hke,hkh⟩:=hk
 rw[List.all_eq_true] at hke hkh hs
 obtain⟨σ',hσ⟩:∃ σ':Nat→Option OB,∀ q,σ' q=if q<C.n0 then σ q else match rK m q with
   | some o=>σ o
   | none=>none:=⟨_,fun _=>rfl⟩
 have s1:∀ o t,assoc m o=some t→σ' (fx m n o)=σ o:=fun o t ho=>by
  have hmem:=fj ho
  have e:fx m n o=t:=by unfold fx;rw[ho]
  rw[e,hσ]
  split
  ·rename_i hlt
   rcases (h4 _ hmem).2 with h | h
   ·simp only at h;rw[h]
   ·simp only at h;omega
  ·rw[Dj h1 hmem]
 have s2:∀ o,(assoc m o).isSome=true→σ' (fx m n o)=σ o:=fun o ho=>by
  obtain⟨t,ht⟩:=Option.isSome_iff_exists.1 ho
  exact s1 o t ht
 have hpk:∀ o ob,assoc (pick s.heap (m.map (·.1))) o=some ob→assoc s.heap o=some ob∧(assoc m o).isSome=true∧ob.cells.all (ky m)=true:=fun o ob ho=>by
  refine⟨dY _ _ _ _ ho,?_,hkh _ (a7 _ _ _ ho)⟩
  have hmem:=a7 _ _ _ ho
  have:∀ (ks:List Nat) (x:Nat×Ob),x∈pick s.heap ks→x.1∈ks:=by
   intro ks
   induction ks with
   | nil=>intro x hx;simp[pick] at hx
   | cons a r ih=>
    intro x hx
    simp only[pick] at hx
    split at hx
    ·rcases List.mem_cons.1 hx with e | hx
     ·subst e;exact List.mem_cons_self
     ·exact List.mem_cons_of_mem _ (ih x hx)
    ·exact List.mem_cons_of_mem _ (ih x hx)
  have hmm:=this _ _ hmem
  simp only[List.mem_map] at hmm
  obtain⟨⟨p,t⟩,hp,rfl⟩:=hmm
  simp only
  rw[pv h2 hp]
  rfl
 have hblk:∀ o,(assoc m o).isSome=true→aJ σ' (fx m n o)=aJ σ o:=fun o ho=>by unfold aJ;rw[s2 o ho]
 have hF:∀ b,FB C σ' (bF (fx m n) (pick s.heap (m.map (·.1)))) b→FB C σ s.heap b:=by
  rintro b (hb | ⟨q,ob,hq,hb⟩)
  ·exact .inl hb
  ·obtain⟨o,rfl⟩:=cP _ q ob hq
   rw[bm hi] at hq
   obtain⟨ob',ho,_⟩:=Option.map_eq_some_iff.1 hq
   obtain⟨g1,g2,_⟩:=hpk o ob' ho
   exact .inr ⟨o,ob',g1,by rwa [hblk o g2] at hb⟩
 have hkp:bO w w (FB C σ s.heap) (FB C σ' (bF (fx m n) (pick s.heap (m.map (·.1))))):=bO.same hF
 refine⟨σ',hr.kO,hr.tm,hr.os,hr.tape,hr.output,hr.size,hr.frame,?_,?_,?_,?_,?_,Nat.le_trans hn0 h3,?_⟩
 ·intro t c hc
  simp only[dX] at hc
  obtain⟨d,hd,rfl⟩:=Option.map_eq_some_iff.1 hc
  obtain⟨v,k1,k2⟩:=hr.env t d (dY _ _ _ _ hd)
  refine⟨v,k1,(VR.ck _ d v).2 (VR.keep hkp _ _ (fun o ho=>s2 o (Iy (hke _ (a7 _ _ _ hd)) o ho)) k2)⟩
 ·intro q ob hq
  obtain⟨o,rfl⟩:=cP _ q ob hq
  simp only[bm hi] at hq
  obtain⟨ob',ho,rfl⟩:=Option.map_eq_some_iff.1 hq
  obtain⟨g1,g2,g3⟩:=hpk o ob' ho
  obtain⟨B,m1,m2,m3,m4,m5⟩:=hr.obj o ob' g1
  refine⟨B,by rw[s2 o g2];exact m1,m2,fun hb=>by simp only[bD,m3 hb];rfl,by simp only[bD,dS];exact m4,fun b hb=>?_⟩
  obtain⟨cur,n1,n2',n3,n4,n5,n6⟩:=m5 b hb
  simp only[bD,dO]
  exact⟨cur,n1,n2',n3,n4,n5,(aQ.ck _ _ _).2 (aQ.keep hkp _ _ (fun p hp=>s2 p (rj g3 p hp)) n6)⟩
 ·intro q q' ob ob' b hq hq' hx hx'
  obtain⟨o,rfl⟩:=cP _ q ob hq
  obtain⟨o',rfl⟩:=cP _ q' ob' hq'
  simp only[bm hi] at hq hq'
  obtain⟨x,ho,_⟩:=Option.map_eq_some_iff.1 hq
  obtain⟨x',ho',_⟩:=Option.map_eq_some_iff.1 hq'
  obtain⟨g1,g2,_⟩:=hpk o x ho
  obtain⟨g1',g2',_⟩:=hpk o' x' ho'
  rw[hblk o g2] at hx
  rw[hblk o' g2'] at hx'
  rw[hr.inj o o' x x' b g1 g1' hx hx']
 ·intro q hq
  simp only at hq
  rw[hσ,if_neg (by omega)]
  cases hsq:rK m q with
  | none=>rfl
  | some o=>
   have:=(h4 _ (uD hsq)).1
   simp only at this
   omega
 ·intro q hq
  rw[hσ,if_pos hq]
  exact hr.ek q hq
 ·intro q B b hq hB hb
  rw[hσ,if_neg (by omega)] at hB
  cases hsq:rK m q with
  | none=>rw[hsq] at hB;cases hB
  | some o=>
   rw[hsq] at hB
   simp only at hB
   have hex:=hs _ (uD hsq)
   simp only[Bool.or_eq_true,decide_eq_true_eq,beq_iff_eq] at hex
   rcases hex with (hex | hex) | hex
   rotate_left
   ·exact hr.new o B b (Nat.le_trans hn0 hex) hB hb
   ·subst hex
    exact hr.new o B b (by omega) hB hb
   obtain⟨ob,hob⟩:=Option.isSome_iff_exists.1 hex
   obtain⟨B',m1,_,_,_,m5⟩:=hr.obj o ob hob
   rw[m1] at hB
   cases hB
   obtain⟨cur,_,_,_,n4,_⟩:=m5 b hb
   exact n4
variable {ops:Array Oper}{aj:List (Nat×TI)}{nt N:Nat}{dyn:List (Nat×Nat)}{K:St→Prop}{i:Nat}{r:List Nat}{res:Nat→Er}
def E2 (ks chg:List Nat)(m:Nat)(H1:List (Nat×Ob)):Bool:=(H1.all fun x=>ks.contains x.1 || (decide (m≤x.1) && chg.contains x.1)) && chg.all fun p=>ks.contains p || (assoc H1 p).isSome
theorem RX.s8 {o:Oper}{cl:Call}{g:FuncId}{args:List CV}{r0:CV}{H H1:List (Nat×Ob)}(ns ks chg:List Nat)(n d:Nat)(hb:Body P aj g args H n (iR r0 H1 (n+d)))(hl:ns.length=n)(hk:DL ns s.nx=true)(hi:ops[i]? = Option.some o)(hd:aW nt o.dst=true)(hg:bK ops s o=Option.some true)(hu:bV o=Option.some cl)
  (hca:aK s cl=Option.some (g,bJ (bZ ns s.nx) args)) (hp:dE s.heap ks=Option.some (bF (bZ ns s.nx) H)) (ha:aC n args=true) (hH:cF n H=true) (ht:tree r0=true) (hv:wN dyn res i ks=true) (hc:E2 ks chg s.nx (bF (bZ ns s.nx) H1)=true)
  (hs:∀ p∈ks,p∉chg→assoc (bF (bZ ns s.nx) H1) p=assoc (bF (bZ ns s.nx) H) p)
  (hK:CK dyn res i (hU r0 ks chg d (bF (bZ ns s.nx) H1))=true∧nJ aj nt ops N dyn (Dt P aj nt ops N dyn K) r (note dyn res i (hU r0 ks chg d (bF (bZ ns s.nx) H1))) (St.put ⟨s.env,bF (bZ ns s.nx) H1++cN s.heap ks,s.nx+d⟩ o.dst r0)):RX P aj nt ops N dyn K (i::r) res s:=by
 simp only[E2,Bool.and_eq_true,List.all_eq_true,Bool.or_eq_true,decide_eq_true_eq] at hc
 refine⟨o,hi,hd,.inr ⟨hg,cl,g,_,hu,hca,.inr (.inr ⟨ks,chg,d,_,_,hp,hb.F0 ns hl hk ha hH ht,hv,?_,?_⟩)⟩⟩
 ·rintro v s1 ⟨_,h2,h3⟩
  refine⟨h3,fun p ob hpo=>?_,fun p tJ=>?_,fun p tJ=>?_⟩
  ·rw[h2] at hpo
   rcases hc.1 _ (a7 _ _ _ hpo) with h | h
   ·exact .inl (by simpa using h)
   ·exact .inr h.1
  ·rw[h2]
   by_cases hm:p∈ks
   ·exact hs p hm tJ
   ·obtain⟨i1,_⟩:=jl hp
    have e1:assoc (bF (bZ ns s.nx) H) p=none:=by
     cases h4:assoc (bF (bZ ns s.nx) H) p with
     | none=>rfl
     | some y=>exact (hm (i1 p y h4).1).elim
    have e2:assoc (bF (bZ ns s.nx) H1) p=none:=by
     cases h4:assoc (bF (bZ ns s.nx) H1) p with
     | none=>rfl
     | some y=>
      rcases hc.1 _ (a7 _ _ _ h4) with h | h
      ·exact (hm (by simpa using h)).elim
      ·exact (tJ (by simpa using h.2)).elim
    rw[e1,e2]
  ·rw[h2]
   rcases hc.2 p tJ with h | h
   ·exact .inl (by simpa using h)
   ·exact .inr h
 ·rintro v s1 ⟨h1,h2,_⟩
  subst h1
  rw[h2]
  exact⟨hK.1,RX.go hK.2⟩
attribute [simp] E2 hU
end
end Go.Can
