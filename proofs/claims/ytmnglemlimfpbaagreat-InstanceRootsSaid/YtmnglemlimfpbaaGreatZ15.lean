/- Contracts at numbers of their own: a call in a part of the caller's memory; contracts of which only a property of the result is known; nil slices read as empty ones. No function of the program is mentioned here. -/
import Derived.Test.YtmnglemlimfpbaaGreatZ14
namespace Go.Can
open Go.RowKit
section
variable {P:Program}{C:Cx}{σ:Nat→Option OB}{s:St}{a:Act}{w:World}{ops:Array Oper}{aj:List (Nat×TI)}
theorem EU (e:List (Nat×CV))(H:List (Nat×Ob))(n m:Nat)(r:ResultVar):nA aj ⟨e,H,n⟩ r=nA aj ⟨e,H,m⟩ r:=by
 have h:∀ c,fa ⟨e,H,n⟩ c=fa ⟨e,H,m⟩ c:=fun c=>qq (s:=⟨e,H,n⟩) (s':=⟨e,H,m⟩) rfl c
 cases r with
 | tmp t=>rfl
 | cell x t=>simp only[nA,h]
theorem yB (e:List (Nat×CV))(H:List (Nat×Ob))(n m:Nat):∀ rs:List ResultVar,jT aj ⟨e,H,n⟩ rs=jT aj ⟨e,H,m⟩ rs
 | []=>rfl
 | r::rs=>by
  simp only[jT]
  rw[EU e H n m r,yB e H n m rs]
theorem yz (fn:Func)(e:List (Nat×CV))(H:List (Nat×Ob))(n m:Nat):bb aj fn ⟨e,H,n⟩=bb aj fn ⟨e,H,m⟩:=by
 simp only[bb]
 rw[yB e H n m]
def below (σ:Nat→Option OB)(n:Nat)(σ':Nat→Option OB):Nat→Option OB:=fun o=>if o<n then σ o else σ' o
theorem fh {σ σ':Nat→Option OB}{n o:Nat}(h:o<n):below σ n σ' o=σ o:=if_pos h
theorem iG {σ σ':Nat→Option OB}{n o:Nat}(h:n≤o):below σ n σ' o=σ' o:=if_neg (by omega)
theorem aH.G1 {C C':Cx}{σ σ':Nat→Option OB}{e:List (Nat×CV)}{H:List (Nat×Ob)}{n n':Nat}(h:aH C σ ⟨e,H,n⟩ a w)
  (h1:C'.w0=C.w0) (h2:C'.F=C.F) (h3:C'.own=C.own) (h4:C'.nt=C.nt)
  (he:∀ t c o,assoc e t=some c→aL o c=false→σ' o=σ o) (hH:∀ p ob o,assoc H p=some ob→dw o ob.cells=false→σ' o=σ o) (hk:∀ p ob,assoc H p=some ob→σ' p=σ p)
  (hnx:∀ o,n'≤o→σ' o=none) (hold:∀ o,o<C'.n0→σ' o=C'.σ0 o) (hlow:C'.n0≤n') (hnew:∀ o B b,C'.n0≤o→σ' o=some B→B.gK=some b→C'.own b∨C'.w0.heap.size≤b) :
  aH C' σ' ⟨e,H,n'⟩ a w:=by
 have hb:∀ p ob,assoc H p=some ob→aJ σ' p=aJ σ p:=fun p ob hp=>by unfold aJ;rw[hk p ob hp]
 have hFB:∀ b,FB C' σ' H b↔FB C σ H b:=fun b=>by
  unfold FB
  rw[h2]
  constructor
  ·rintro (h | ⟨o,ob,ho,hx⟩)
   ·exact .inl h
   ·exact .inr ⟨o,ob,ho,by rw[← hb o ob ho];exact hx⟩
  ·rintro (h | ⟨o,ob,ho,hx⟩)
   ·exact .inl h
   ·exact .inr ⟨o,ob,ho,by rw[hb o ob ho];exact hx⟩
 have hK:bO w w (FB C σ H) (FB C' σ' H):=bO.same fun b hx=>(hFB b).1 hx
 refine⟨h.kO,by rw[h4];exact h.tm,by rw[h1];exact h.os,by rw[h1];exact h.tape,by rw[h1];exact h.output,by rw[h1];exact h.size,by rw[h1,h3];exact h.frame,?_,?_,?_,hnx,hold,hlow,hnew⟩
 ·intro t c hc
  obtain⟨v,k1,k2⟩:=h.env t c hc
  exact⟨v,k1,VR.keep hK _ _ (fun o ho=>he t c o hc ho) k2⟩
 ·intro o ob ho
  obtain⟨B,m1,m2,m3,m4,m5⟩:=h.obj o ob ho
  refine⟨B,by rw[hk o ob ho];exact m1,m2,m3,m4,fun b hbk=>?_⟩
  obtain⟨cur,n1,n2,n3,n4,n5,n6⟩:=m5 b hbk
  refine⟨cur,n1,n2,by rw[h2];exact n3,by rw[h1,h3];exact n4,n5,?_⟩
  exact aQ.keep hK _ _ (fun p hp=>hH o ob p ho hp) n6
 ·intro o o' ob ob' b ho ho' hx hx'
  rw[hb o ob ho] at hx
  rw[hb o' ob' ho'] at hx'
  exact h.inj o o' ob ob' b ho ho' hx hx'
def cF (n:Nat):List (Nat×Ob)→Bool
 | []=>true
 | (k,ob)::r=>decide (k<n) && aC n ob.cells && cF n r
theorem fy {n:Nat}:∀ {H:List (Nat×Ob)},cF n H=true→∀ p ob,assoc H p=some ob→p<n∧aC n ob.cells=true
 | [],_,p,ob,h=>by simp[assoc] at h
 | (k,x)::r,h,p,ob,hp=>by
  simp only[cF,Bool.and_eq_true,decide_eq_true_eq] at h
  simp only[assoc] at hp
  split at hp
  ·rename_i e
   cases hp
   subst e
   exact h.1
  ·exact fy h.2 p ob hp
theorem Body.lift {f:FuncId}{args:List CV}{H:List (Nat×Ob)}{n n':Nat}{R:CV→St→Prop}(h:Body P aj f args H n R)(hn:n≤n')(ha:aC n args=true)(hH:cF n H=true)(hR:∀ r s,R r s→s.nx=n) :
  Body P aj f args H n' fun r s=>∃ s1,R r s1∧s=⟨s1.env,s1.heap,n'⟩:=by
 obtain⟨fn,c,hf,hb,hnm,hl,hT⟩:=h
 refine⟨fn,c,hf,hb,hnm,hl,fun C' hC hC0 a w ⟨σ,hr⟩=>?_⟩
 have hargs:∀ (t:Nat) c o,assoc (enter args).env t=some c→aL o c=false→o<n:=fun t c o hc ho=>by
  obtain⟨_,h2⟩:=eC args 0 t c hc
  have hm:c∈args:=List.mem_of_getElem? h2
  rw[aD,List.all_eq_true] at ha
  exact jj n c o (ha c hm) ho
 have h0:aH ⟨C'.w0,C'.F,C'.own,C'.hF,C'.nt,below σ n (fun _=>none),n⟩ (below σ n (fun _=>none)) ⟨(enter args).env,H,n⟩ a w:=
  hr.G1 rfl rfl rfl rfl (fun t c o hc ho=>fh (hargs t c o hc ho)) (fun p ob o hp ho=>fh (dV n _ o (fy hH p ob hp).2 ho)) (fun p ob hp=>fh (fy hH p ob hp).1)
   (fun o ho=>iG ho) (fun _ _=>rfl) (Nat.le_refl _) (fun o B b ho hB _=>by rw[iG ho] at hB;cases hB)
 refine wp_mono (hT ⟨C'.w0,C'.F,C'.own,C'.hF,C'.nt,below σ n (fun _=>none),n⟩ hC rfl a w ⟨_,h0⟩) fun e a' w' ⟨s1,q,σ1,hr1⟩=>?_
 have fin:ae ⟨C'.w0,C'.F,C'.own,C'.hF,C'.nt,below σ n (fun _=>none),n⟩ (fun s'=>∃ r,bb aj fn s'=some r∧R r s') s1 →
   ∃ s',ae C' (fun s'=>∃ r,bb aj fn s'=some r∧∃ s1,R r s1∧s'=⟨s1.env,s1.heap,n'⟩) s'∧Rel C' s' a' w':=fun⟨s2,⟨r,q1,q2⟩,hle⟩=>by
  obtain⟨σ2,hr2⟩:=hle _ _ ⟨σ1,hr1⟩
  have hnx2:=hR r s2 q2
  obtain⟨e2,H2,n2⟩:=s2
  simp only at hnx2
  subst hnx2
  have hlt:∀ o B,σ2 o=some B→o<n2:=fun o B hB=>Nat.lt_of_not_le fun hle=>by rw[hr2.nx o hle] at hB;cases hB
  refine⟨⟨e2,H2,n'⟩,ae.here ⟨r,(yz fn e2 H2 n' n2).trans q1,_,q2,rfl⟩,below σ2 n2 σ,?_⟩
  refine hr2.G1 rfl rfl rfl rfl (fun t c o hc ho=>?_) (fun p ob o hp ho=>?_) (fun p ob hp=>?_) (fun o ho=>?_) (fun o ho=>?_) (by rw[hC0];exact Nat.le_refl _) (fun o B b ho hB _=>?_)
  ·obtain⟨v,_,k2⟩:=hr2.env t c hc
   obtain⟨B,hB⟩:=VR.refs _ _ o k2 ho
   exact fh (hlt o B hB)
  ·obtain⟨B,m1,_,m3,_,m5⟩:=hr2.obj p ob hp
   cases hbk:B.gK with
   | none=>
    rw[m3 hbk] at ho
    simp[dw] at ho
   | some b=>
    obtain⟨cur,_,_,_,_,_,n6⟩:=m5 b hbk
    obtain⟨B',hB'⟩:=aQ.refs _ _ o n6 ho
    exact fh (hlt o B' hB')
  ·obtain⟨B,m1,_⟩:=hr2.obj p ob hp
   exact fh (hlt p B m1)
  ·rw[iG (Nat.le_trans hn ho)]
   exact hr.nx o ho
  ·rcases Nat.lt_or_ge o n2 with h1 | h1
   ·rw[fh h1,hr2.ek o h1]
    show below σ n2 (fun _=>none) o=_
    rw[fh h1]
    exact hr.ek o ho
   ·rw[iG h1]
    exact hr.ek o ho
  ·rw[hC0] at ho
   rw[iG (Nat.le_trans hn ho),hr.nx o ho] at hB
   cases hB
 cases e with
 | normal=>exact fin q
 | ret=>exact fin q
 | exit _=>exact q.elim
 | goto _=>exact q.elim
 | panic _=>exact q.elim
 | outgrown=>exact q.elim
def dE (G:List (Nat×Ob)):List Nat→Option (List (Nat×Ob))
 | []=>some []
 | k::ks=>match assoc G k,dE G ks with
  | some ob,some H=>some ((k,ob)::H)
  | _,_=>none
def cN (G:List (Nat×Ob)):List Nat→List (Nat×Ob)
 | []=>G
 | k::ks=>cN (gD G k) ks
theorem jl {G:List (Nat×Ob)}:∀ {ks:List Nat} {H:List (Nat×Ob)},dE G ks=some H→(∀ o ob,assoc H o=some ob→o∈ks∧assoc G o=some ob)∧∀ o ob,o∈ks→assoc G o=some ob→assoc H o=some ob
 | [],H,h=>by
  simp only[dE,Option.some.injEq] at h
  subst h
  exact⟨fun o ob ho=>by simp[assoc] at ho,fun o ob ho=>by simp at ho⟩
 | k::ks,H,h=>by
  simp only[dE] at h
  split at h
  ·rename_i ob H' h1 h2
   cases h
   obtain⟨i1,i2⟩:=jl h2
   refine⟨fun o x ho=>?_,fun o x ho hx=>?_⟩
   ·simp only[assoc] at ho
    split at ho
    ·rename_i e
     cases ho
     subst e
     exact⟨List.mem_cons_self,h1⟩
    ·exact⟨List.mem_cons_of_mem _ (i1 o x ho).1,(i1 o x ho).2⟩
   ·simp only[assoc]
    split
    ·rename_i e
     subst e
     rw[h1] at hx
     exact hx
    ·rename_i e
     rcases List.mem_cons.1 ho with h3 | h3
     ·exact (e h3.symm).elim
     ·exact i2 o x h3 hx
  ·cases h
theorem dA {G:List (Nat×Ob)}:∀ (ks:List Nat) (o:Nat),assoc (cN G ks) o=if o∈ks then none else assoc G o:=by
 intro ks
 induction ks generalizing G with
 | nil=>intro o;simp[cN]
 | cons k ks ih=>
  intro o
  rw[cN,ih,eI]
  by_cases h1:o∈ks
  ·simp[h1]
  ·by_cases h2:o=k
   ·simp[h2]
   ·have:¬ k=o:=fun h=>h2 h.symm
    simp[h1,h2,this]
theorem jA.of {G H:List (Nat×Ob)}{ks:List Nat}(h:dE G ks=some H):jA H (cN G ks) G:=by
 obtain⟨h1,h2⟩:=jl h
 refine⟨fun o ob ho=>(h1 o ob ho).2,fun o ob ho=>?_,fun o ob ho=>?_,fun o ob ob' ho ho'=>?_⟩
 ·rw[dA] at ho
  split at ho
  ·cases ho
  ·exact ho
 ·by_cases hm:o∈ks
  ·exact .inl (h2 o ob hm ho)
  ·exact .inr (by rw[dA,if_neg hm];exact ho)
 ·rw[dA,if_pos (h1 o ob ho).1] at ho'
  cases ho'
def jr (ks:List Nat)(H:List (Nat×Ob)):Bool:=H.all fun x=>ks.contains x.1
theorem pV {ks:List Nat}{H:List (Nat×Ob)}(h:jr ks H=true)(o:Nat)(ob:Ob)(ho:assoc H o=some ob):o∈ks:=by
 have:=a7 _ _ _ ho
 simp only[jr,List.all_eq_true] at h
 simpa using h _ this
theorem TL.E8 (ht0:aF P aj){o:Oper}{l:List Oper}{c:Call}{g:FuncId}{cs:List CV}{K:St→Prop}{R:CV→St→Prop}(ks:List Nat){H:List (Nat×Ob)}(n:Nat)(hd:aW C.nt o.dst=true)(hg:bK ops s o=Option.some true)(ho:o.op=.call c)(hca:aK s c=Option.some (g,cs))
  (hp:dE s.heap ks=Option.some H) (hn:n≤s.nx) (ha:aC n cs=true) (hH:cF n H=true) (hb:Body P aj g cs H n R) (hR:∀ r s1,R r s1→s1.nx=n∧jr ks s1.heap=true)
  (hK:∀ r s1,R r s1→TL P C ops l (St.put ⟨s.env,s1.heap++cN s.heap ks,s.nx⟩ o.dst r) K):TL P C ops (o::l) s K:=by
 intro a w Q hr hQ
 have hw:=dy hr hg
 obtain⟨σ,hr⟩:=hr
 unfold wpList
 rw[if_pos hw]
 refine .inl ?_
 have hen:Enters P g:=by
  obtain⟨fn,code,hf,hbody,hnm,_⟩:=hb
  exact⟨fn,hf,hnm,by simp[hbody]⟩
 refine pk ht0 (jA.of hp) (tF.value ho hca hen) (hb.lift hn ha hH fun r s h=>(hR r s h).1) ?_ hr _ _ ?_
 ·rintro r s1 ⟨s2,h1,rfl⟩ p ob ob' h2 h3
  have hm:=pV (hR r s2 h1).2 p ob h2
  rw[dA,if_pos hm] at h3
  cases h3
 ·rintro r s1 v w' σ' ⟨s2,h1,rfl⟩ hr' hv _
  refine hK r s2 h1 _ w' Q ⟨σ',hr'.put ?_ hv⟩ hQ
  intro t e
  rw[hr'.tm]
  rw[e] at hd
  simpa [aW] using hd
def kT (P:Program)(f:FuncId)(args:List CV)(G:CV→Prop):Prop:=
 Enters P f∧∀ (F:Nat→Prop) (vs:List Value) (w:World),(∀ b,F b→b<w.heap.size)→bx w F args vs →
  Calls P f vs.toArray w fun e w'=>∃ r v,G r∧e=.returned v∧Below w.heap.size w w'∧bM w' F r v
theorem ah.toP {f:FuncId}{args:List CV}{r:CV}{G:CV→Prop}(h:ah P f args r)(hG:G r):kT P f args G:=
 ⟨h.1,fun F vs w hF hv=>(h.2 F vs w hF hv).mono fun _ _ ⟨v,h1,h2,h3⟩=>⟨r,v,hG,h1,h2,h3⟩⟩
theorem kT.mono {f:FuncId}{args:List CV}{G G':CV→Prop}(h:kT P f args G)(hG:∀ r,G r→G' r):kT P f args G':=
 ⟨h.1,fun F vs w hF hv=>(h.2 F vs w hF hv).mono fun _ _ ⟨r,v,h0,h1,h2,h3⟩=>⟨r,v,hG r h0,h1,h2,h3⟩⟩
theorem xG {o:Oper}{g:FuncId}{cs:List CV}{G:CV→Prop}(he:tF P C s o g cs)(ht:trees cs=true)(hp:kT P g cs G)(h:aH C σ s a w)(K:Act→World→Prop)(Q:Exit→Act→World→Prop)
  (hK:∀ r v w',G r→aH C σ s a w'→VR w' (FB C σ s.heap) σ r v→K (a.put o.dst v) w'):o.wp P a w K Q:=by
 obtain⟨vs,ent,hv⟩:=he σ a w h
 unfold Oper.wp
 rw[ent]
 refine (hp.2 (FB C σ s.heap) vs w (tC h) (aQ.dN _ _ ht hv)).mono fun e w' ⟨r,v,h0,h1,h2,h3⟩=>?_
 subst h1
 exact hK r v w' h0 (h.below h2) (VR.cb _ _ h3)
theorem TL.E7 {o:Oper}{l:List Oper}{c:Call}{g:FuncId}{cs:List CV}{K:St→Prop}{G:CV→Prop}(hd:aW C.nt o.dst=true)(hg:bK ops s o=Option.some true)(ho:o.op=.call c)(hca:aK s c=Option.some (g,cs))(ht:trees cs=true)(hp:kT P g cs G)
  (hK:∀ r,G r→TL P C ops l (s.put o.dst r) K):TL P C ops (o::l) s K:=by
 intro a w Q hr hQ
 have hw:=dy hr hg
 obtain⟨σ,hr⟩:=hr
 unfold wpList
 rw[if_pos hw]
 refine .inl (xG (tF.value ho hca hp.1) ht hp hr _ _ fun r v w' h0 hr' hv=>hK r h0 _ w' Q ⟨σ,hr'.put ?_ hv⟩ hQ)
 intro t e
 rw[hr'.tm]
 rw[e] at hd
 simpa [aW] using hd
def doneG (C:Cx)(aj:List (Nat×TI))(f:Func)(G:CV→Prop):Exit→St→Prop
 | .normal,s=>ae C (fun s'=>∃ r,bb aj f s'=some r∧tree r=true∧G r) s
 | .ret,s=>ae C (fun s'=>∃ r,bb aj f s'=some r∧tree r=true∧G r) s
 | _,_=>False
theorem kT.iN (ht0 : aF P aj) {f : FuncId} {fn : Func} {c : Code} {args : List CV} {G : CV → Prop} (hf : P.funcs[f]? = some fn) (hb : fn.body = some c) (hn : (fn.name == "runtime.NumGoroutine") = false)
  (ha:args.length≤fn.ntmps) (h:∀ C:Cx,C.nt=fn.ntmps→C.n0=0→T P C c (enter args) (doneG C aj fn G)):kT P f args G:=by
 refine⟨⟨fn,hf,hn,by simp[hb]⟩,fun F vs w hF hv=>?_⟩
 have hl:=bx.length _ _ hv
 have h0:aH ⟨w,F,fun _=>False,hF,fn.ntmps,fun _=>none,0⟩ (fun _=>none) (enter args) { tmps:=vs.toArray++Array.replicate (fn.ntmps-vs.toArray.size) undef,defers:=[] } w:=by
  refine⟨rfl,by simp;omega,rfl,rfl,rfl,Nat.le_refl _,fun _ _ _=>rfl,?_,?_,?_,fun _ _=>rfl,fun _ h=>absurd h (Nat.not_lt_zero _),Nat.zero_le _,fun _ _ _ _ h=>by cases h⟩
  ·intro t c hc
   obtain⟨_,h2⟩:=eC args 0 t c hc
   obtain⟨v,h3,h4⟩:=bx.get _ _ hv t c (by simpa using h2)
   refine⟨v,?_,VR.cb _ _ (bM.keep (bO.same fun b hb=>?_).1 c v h4)⟩
   ·have hlt:=(List.getElem?_eq_some_iff.1 h3).1
    simp only
    rw[Array.getElem?_append_left (by simpa using hlt)]
    simpa using h3
   ·rcases hb with hF | ⟨o,ob,ho,_⟩
    ·exact hF
    ·simp[enter,assoc] at ho
  ·intro o ob ho;simp[enter,assoc] at ho
  ·intro o o' ob ob' b ho;simp[enter,assoc] at ho
 refine calls_of_wp hf hb (wp_mono (h _ rfl rfl _ _ ⟨_,h0⟩) fun e a' w' ⟨s1,q,σ,hr1⟩=>?_)
 have fin:ae ⟨w,F,fun _=>False,hF,fn.ntmps,fun _=>none,0⟩ (fun s'=>∃ r,bb aj fn s'=some r∧tree r=true∧G r) s1→a'.defers=[]∧∃ v,(results fn a'.tmps).run P w'=.ok v w'∧(∃ r v_1,G r∧Ending.returned v=.returned v_1∧Below w.heap.size w w'∧bM w' F r v_1):=fun⟨s',⟨r,hq,ht,hG⟩,hle⟩=>by
  obtain⟨σ',hr⟩:=hle _ _ ⟨σ,hr1⟩
  obtain⟨v,k1,k2⟩:=gj (P:=P) ht0 hr hq
  refine⟨hr.kO,v,k1,r,v,hG,rfl,⟨hr.os,hr.tape,hr.output,hr.size,fun k hk=>hr.frame k hk (fun hx=>hx)⟩,?_⟩
  exact bM.keep (bO.same fun _ hF=>.inl hF).1 _ _ (VR.dN _ _ ht k2)
 cases e with
 | normal=>exact fin q
 | ret=>exact fin q
 | exit _=>exact q.elim
 | goto _=>exact q.elim
 | panic _=>exact q.elim
 | outgrown=>exact q.elim
def nz:CV→CV
 | .ai=>.ax [] 0
 | c=>c
def ue:CV→CV
 | .ai=>.ax [] 0
 | .agg cs=>.agg (cs.map nz)
 | c=>c
theorem VR.nz {F:Nat→Prop}{c:CV}{v:Value}(h:VR w F σ c v):VR w F σ (nz c) v:=by
 cases c<;>try exact h
 simp only[VR] at h
 subst h
 simp only[Can.nz,VR,bM]
 exact⟨none,0,rfl,Nat.le_refl _,Nat.zero_le _,.inl ⟨trivial,trivial⟩⟩
theorem aQ.nz {F:Nat→Prop}:∀ {cs:List CV} {vs:List Value},aQ w F σ cs vs→aQ w F σ (cs.map Can.nz) vs
 | [],_,h=>h
 | _::_,_,⟨v,r,e,h1,h2⟩=>⟨v,r,e,VR.nz h1,aQ.nz h2⟩
theorem Ih (c:CV):one (nz c)=one c:=by cases c<;>rfl
theorem tv (cs:List CV):(cs.map nz).all one=cs.all one:=by
 induction cs with
 | nil=>rfl
 | cons c cs ih=>simp only[List.map_cons,List.all_cons,Ih,ih]
theorem VR.ue {F:Nat→Prop}{c:CV}{v:Value}(h:VR w F σ c v):VR w F σ (ue c) v:=by
 cases c<;>try exact h
 ·simp only[VR] at h
  obtain⟨vs,h1,h2,h3⟩:=h
  simp only[Can.ue,VR]
  exact⟨vs,h1,aQ.nz h2,by rw[tv];exact h3⟩
 ·exact VR.nz h
def CE (ts:List Nat):List (Nat×CV)→List (Nat×CV)
 | []=>[]
 | (k,c)::r=>(k,if ts.contains k then ue c else c)::CE ts r
def xQ (os:List Nat):List (Nat×Ob)→List (Nat×Ob)
 | []=>[]
 | (k,ob)::r=>(k,if os.contains k then ⟨ob.elem,ob.sz,ob.cells.map nz⟩ else ob)::xQ os r
theorem uQ (ts:List Nat):∀ (e:List (Nat×CV)) (t:Nat) (c:CV),assoc (CE ts e) t=some c→∃ d,assoc e t=some d∧(c=d∨c=ue d)
 | [],t,c,h=>by simp[CE,assoc] at h
 | (k,d)::r,t,c,h=>by
  simp only[CE,assoc] at h ⊢
  split at h
  ·rename_i e
   rw[if_pos e]
   cases h
   refine⟨d,rfl,?_⟩
   split
   ·exact .inr rfl
   ·exact .inl rfl
  ·rename_i e
   rw[if_neg e]
   exact uQ ts r t c h
theorem dL (os:List Nat):∀ (H:List (Nat×Ob)) (o:Nat),assoc (xQ os H) o=(assoc H o).map fun ob=>if os.contains o then ⟨ob.elem,ob.sz,ob.cells.map nz⟩ else ob
 | [],o=>by simp[xQ,assoc]
 | (k,x)::r,o=>by
  simp only[xQ,assoc]
  split
  ·rename_i e
   subst e
   rfl
  ·exact dL os r o
theorem Le.nz (ts os:List Nat):Le C s ⟨CE ts s.env,xQ os s.heap,s.nx⟩:=by
 intro a w ⟨σ,h⟩
 have hdom:∀ b,FB C σ (xQ os s.heap) b↔FB C σ s.heap b:=fun b=>by
  unfold FB
  constructor
  ·rintro (h | ⟨o,ob,ho,hb⟩)
   ·exact .inl h
   ·rw[dL] at ho
    obtain⟨x,hx,_⟩:=Option.map_eq_some_iff.1 ho
    exact .inr ⟨o,x,hx,hb⟩
  ·rintro (h | ⟨o,ob,ho,hb⟩)
   ·exact .inl h
   ·exact .inr ⟨o,_,by rw[dL,ho];rfl,hb⟩
 have hK:bO w w (FB C σ s.heap) (FB C σ (xQ os s.heap)):=bO.same fun b hx=>(hdom b).1 hx
 refine⟨σ,h.kO,h.tm,h.os,h.tape,h.output,h.size,h.frame,?_,?_,?_,h.nx,h.ek,h.low,h.new⟩
 ·intro t c hc
  obtain⟨d,hd,hcd⟩:=uQ ts s.env t c hc
  obtain⟨v,k1,k2⟩:=h.env t d hd
  refine⟨v,k1,VR.keep hK _ _ (fun _ _=>rfl) ?_⟩
  rcases hcd with rfl | rfl
  ·exact k2
  ·exact VR.ue k2
 ·intro o ob ho
  simp only[dL] at ho
  obtain⟨x,hx,hxo⟩:=Option.map_eq_some_iff.1 ho
  obtain⟨B,m1,m2,m3,m4,m5⟩:=h.obj o x hx
  split at hxo
  ·subst hxo
   refine⟨B,m1,m2,fun hb=>by simp[m3 hb],by simp only[tv];exact m4,fun b hb=>?_⟩
   obtain⟨cur,n1,n2,n3,n4,n5,n6⟩:=m5 b hb
   refine⟨cur,n1,n2,n3,n4,by simpa using n5,?_⟩
   simp only[List.length_map]
   exact aQ.keep hK _ _ (fun _ _=>rfl) (aQ.nz n6)
  ·subst hxo
   refine⟨B,m1,m2,m3,m4,fun b hb=>?_⟩
   obtain⟨cur,n1,n2,n3,n4,n5,n6⟩:=m5 b hb
   exact⟨cur,n1,n2,n3,n4,n5,aQ.keep hK _ _ (fun _ _=>rfl) n6⟩
 ·intro o o' ob ob' b ho ho' hx hx'
  simp only[dL] at ho ho'
  obtain⟨x,h1,_⟩:=Option.map_eq_some_iff.1 ho
  obtain⟨y,h2,_⟩:=Option.map_eq_some_iff.1 ho'
  exact h.inj o o' x y b h1 h2 hx hx'
@[simp] theorem nz_int (k:IntKind)(n:Int):nz (.int k n)=(.int k n):=rfl
@[simp] theorem nzA_int (k:IntKind)(n:Int):ue (.int k n)=(.int k n):=rfl
@[simp] theorem nz_bool (b:Bool):nz (.bool b)=(.bool b):=rfl
@[simp] theorem nzA_bool (b:Bool):ue (.bool b)=(.bool b):=rfl
@[simp] theorem nz_str (s:ByteArray):nz (.str s)=(.str s):=rfl
@[simp] theorem nzA_str (s:ByteArray):ue (.str s)=(.str s):=rfl
@[simp] theorem nz_agg (cs:List CV):nz (.agg cs)=(.agg cs):=rfl
@[simp] theorem nzA_agg (cs:List CV):ue (.agg cs)=.agg (cs.map nz):=rfl
@[simp] theorem nz_tsl (cs:List CV)(n:Nat):nz (.ax cs n)=(.ax cs n):=rfl
@[simp] theorem nzA_tsl (cs:List CV)(n:Nat):ue (.ax cs n)=(.ax cs n):=rfl
@[simp] theorem nz_nilsl:nz .ai=.ax [] 0:=rfl
@[simp] theorem JC:ue .ai=.ax [] 0:=rfl
@[simp] theorem nz_tptr (cs:List CV):nz (.cq cs)=(.cq cs):=rfl
@[simp] theorem nzA_tptr (cs:List CV):ue (.cq cs)=(.cq cs):=rfl
@[simp] theorem JA:nz .br=.br:=rfl
@[simp] theorem Ip:ue .br=.br:=rfl
@[simp] theorem nz_fn (f:FuncId)(cs:List CV):nz (.fn f cs)=(.fn f cs):=rfl
@[simp] theorem nzA_fn (f:FuncId)(cs:List CV):ue (.fn f cs)=(.fn f cs):=rfl
@[simp] theorem nz_nilfn:nz .b9=.b9:=rfl
@[simp] theorem JD:ue .b9=.b9:=rfl
@[simp] theorem nz_iface (t:TypeId)(cs:List CV):nz (.iface t cs)=(.iface t cs):=rfl
@[simp] theorem JE (t:TypeId)(cs:List CV):ue (.iface t cs)=(.iface t cs):=rfl
@[simp] theorem nz_tup (cs:List CV):nz (.df cs)=(.df cs):=rfl
@[simp] theorem nzA_tup (cs:List CV):ue (.df cs)=(.df cs):=rfl
@[simp] theorem nz_osl (p f n:Nat):nz (.bw p f n)=(.bw p f n):=rfl
@[simp] theorem nzA_osl (p f n:Nat):ue (.bw p f n)=(.bw p f n):=rfl
@[simp] theorem nz_optr (p f:Nat):nz (.aq p f)=(.aq p f):=rfl
@[simp] theorem nzA_optr (p f:Nat):ue (.aq p f)=(.aq p f):=rfl
@[simp] theorem nz_any:nz .any=.any:=rfl
@[simp] theorem nzA_any:ue .any=.any:=rfl
attribute [simp] CE xQ dE cN cF jr
end
end Go.Can
