/- Contracts at numbers of their own: a call in a part of the c -/
import Derived.Test.YtlkmbdfhdknlgaaGreatDoorZ10
namespace Go.Can
open Go.RowKit
section
variable {P:Program}{C:Cx}{σ:Nat→Option OB}{s:St}{a:Act}{w:World}{ops:Array Oper}{ak:List (Nat×TI)}
theorem D6 (e:List (Nat×CV))(H:List (Nat×Ob))(n m:Nat)(r:ResultVar):mM ak ⟨e,H,n⟩ r=mM ak ⟨e,H,m⟩ r:=by
 have h:∀ c,fD ⟨e,H,n⟩ c=fD ⟨e,H,m⟩ c:=fun c=>pS (s:=⟨e,H,n⟩) (s':=⟨e,H,m⟩) rfl c
 cases r with
 | tmp t=>rfl
 | cell x t=>simp only[mM,h]
theorem xN (e:List (Nat×CV))(H:List (Nat×Ob))(n m:Nat):∀ rs:List ResultVar,jo ak ⟨e,H,n⟩ rs=jo ak ⟨e,H,m⟩ rs
 | []=>rfl
 | r::rs=>by
  simp only[jo];rw[D6 e H n m r,xN e H n m rs]
theorem xL (fn:Func)(e:List (Nat×CV))(H:List (Nat×Ob))(n m:Nat):bf ak fn ⟨e,H,n⟩=bf ak fn ⟨e,H,m⟩:=by
 simp only[bf];rw[xN e H n m]
def below (σ:Nat→Option OB)(n:Nat)(σ':Nat→Option OB):Nat→Option OB:=fun o=>if o<n then σ o else σ' o
theorem fq {σ σ':Nat→Option OB}{n o:Nat}(h:o<n):below σ n σ' o=σ o:=if_pos h
theorem jb {σ σ':Nat→Option OB}{n o:Nat}(h:n≤o):below σ n σ' o=σ' o:=if_neg yA
theorem aB.Gp {C C':Cx}{σ σ':Nat→Option OB}{e:List (Nat×CV)}{H:List (Nat×Ob)}{n n':Nat}(h:aB C σ ⟨e,H,n⟩ a w)
  (h1:C'.w0=C.w0) (h2:C'.F=C.F) (h3:C'.own=C.own) (h4:C'.nt=C.nt)
  (he:∀ t c o,assoc e t=some c→aA o c=false→σ' o=σ o) (hH:∀ p ob o,assoc H p=some ob→dc o ob.cells=false→σ' o=σ o) (hk:∀ p ob,assoc H p=some ob→σ' p=σ p)
  (KB:∀ o,n'≤o→σ' o=none) (hold:∀ o,o<C'.n0→σ' o=C'.σ0 o) (NB:C'.n0≤n') (KM:∀ o B b,C'.n0≤o→σ' o=some B→B.iI=some b→C'.own b∨C'.w0.heap.size≤b) :
  aB C' σ' ⟨e,H,n'⟩ a w:=by
 have hb:∀ p ob,assoc H p=some ob→aH σ' p=aH σ p:=fun p ob hp=>by unfold aH;rw[hk p ob hp]
 have O0:∀ b,FB C' σ' H b↔FB C σ H b:=fun b=>by
  unfold FB;rw[h2];constructor
  ·rintro (h | ⟨o,ob,ho,hx⟩)
   ·exact .inl h
   ·exact .inr ⟨o,ob,ho,by rw[← hb o ob ho];exact hx⟩
  ·rintro (h | ⟨o,ob,ho,hx⟩)
   ·exact .inl h
   ·exact .inr ⟨o,ob,ho,by rw[hb o ob ho];exact hx⟩
 have hK:b9 w w (FB C σ H) (FB C' σ' H):=b9.same fun b hx=>(O0 b).1 hx;refine⟨h.me,by rw[h4];exact h.tm,by rw[h1];exact h.os,by rw[h1];exact h.tape,by rw[h1];exact h.output,by rw[h1];exact h.size,by rw[h1,h3];exact h.frame,?_,?_,?_,KB,hold,NB,KM⟩
 ·intro t c hc;obtain⟨v,k1,k2⟩:=h.env t c hc;exact⟨v,k1,VR.a7 hK _ _ (fun o ho=>he t c o hc ho) k2⟩
 ·intro o ob ho;obtain⟨B,m1,m2,m3,m4,m5⟩:=h.obj o ob ho;refine⟨B,by rw[hk o ob ho];exact m1,m2,m3,m4,fun b UM=>?_⟩;obtain⟨cur,n1,n2,n3,n4,n5,n6⟩:=m5 b UM;refine⟨cur,n1,n2,by rw[h2];exact n3,by rw[h1,h3];exact n4,n5,?_⟩;exact aG.a7 hK _ _ (fun p hp=>hH o ob p ho hp) n6
 ·intro o o' ob Ka b ho Kv hx K5;rw[hb o ob ho] at hx;rw[hb o' Ka Kv] at K5;exact h.inj o o' ob Ka b ho Kv hx K5
def cV (n:Nat):List (Nat×Ob)→Bool
 | []=>true
 | (k,ob)::r=>decide (k<n) && aO n ob.cells && cV n r
theorem gE {n:Nat}:∀ {H:List (Nat×Ob)},cV n H=true→∀ p ob,assoc H p=some ob→p<n∧aO n ob.cells=true
 | [],_,p,ob,h=>by simp[assoc] at h
 | (k,x)::r,h,p,ob,hp=>by
  simp only[cV,Bool.and_eq_true,decide_eq_true_eq] at h;simp only[assoc] at hp;split at hp
  ·rename_i e;cases hp;subst e;exact h.1
  ·exact gE h.2 p ob hp
theorem Body.lift {f:FuncId}{args:List CV}{H:List (Nat×Ob)}{n n':Nat}{R:CV→St→Prop}(h:Body P ak f args H n R)(hn:n≤n')(ha:aO n args=true)(hH:cV n H=true)(hR:∀ r s,R r s→s.nx=n) :
  Body P ak f args H n' fun r s=>∃ s1,R r s1∧s=⟨s1.env,s1.heap,n'⟩:=by
 obtain⟨fn,c,hf,hb,KV,hl,hT⟩:=h;refine⟨fn,c,hf,hb,KV,hl,fun C' hC xJ a w ⟨σ,hr⟩=>?_⟩;have AW:∀ (t:Nat) c o,assoc (enter args).env t=some c→aA o c=false→o<n:=fun t c o hc ho=>by
  obtain⟨_,h2⟩:=eW args 0 t c hc;have hm:c∈args:=List.mem_of_getElem? h2;rw[bU,List.all_eq_true] at ha;exact j0 n c o (ha c hm) ho
 have h0:aB ⟨C'.w0,C'.F,C'.own,C'.hF,C'.nt,below σ n (fun _=>none),n⟩ (below σ n (fun _=>none)) ⟨(enter args).env,H,n⟩ a w:=
  hr.Gp rfl rfl rfl rfl (fun t c o hc ho=>fq (AW t c o hc ho)) (fun p ob o hp ho=>fq (dS n _ o (gE hH p ob hp).2 ho)) (fun p ob hp=>fq (gE hH p ob hp).1)
   (fun o ho=>jb ho) (fun _ _=>rfl) (Nat.le_refl _) (fun o B b ho hB _=>by rw[jb ho] at hB;cases hB)
 refine wp_mono (hT ⟨C'.w0,C'.F,C'.own,C'.hF,C'.nt,below σ n (fun _=>none),n⟩ hC rfl a w ⟨_,h0⟩) fun e a' w' ⟨s1,q,σ1,KL⟩=>?_;have fin:aa ⟨C'.w0,C'.F,C'.own,C'.hF,C'.nt,below σ n (fun _=>none),n⟩ (fun s'=>∃ r,bf ak fn s'=some r∧R r s') s1 →
   ∃ s',aa C' (fun s'=>∃ r,bf ak fn s'=some r∧∃ s1,R r s1∧s'=⟨s1.env,s1.heap,n'⟩) s'∧Rel C' s' a' w':=fun⟨s2,⟨r,q1,q2⟩,hle⟩=>by
  obtain⟨σ2,Kl⟩:=hle _ _ ⟨σ1,KL⟩;have Ny:=hR r s2 q2;obtain⟨e2,H2,n2⟩:=s2;simp only at Ny;subst Ny;have yN:∀ o B,σ2 o=some B→o<n2:=fun o B hB=>Nat.lt_of_not_le fun hle=>by rw[Kl.nx o hle] at hB;cases hB
  refine⟨⟨e2,H2,n'⟩,aa.here ⟨r,(xL fn e2 H2 n' n2).trans q1,_,q2,rfl⟩,below σ2 n2 σ,?_⟩;refine Kl.Gp rfl rfl rfl rfl (fun t c o hc ho=>?_) (fun p ob o hp ho=>?_) (fun p ob hp=>?_) (fun o ho=>?_) (fun o ho=>?_) (by rw[xJ];exact Nat.le_refl _) (fun o B b ho hB _=>?_)
  ·obtain⟨v,_,k2⟩:=Kl.env t c hc;obtain⟨B,hB⟩:=VR.refs _ _ o k2 ho;exact fq (yN o B hB)
  ·obtain⟨B,m1,_,m3,_,m5⟩:=Kl.obj p ob hp
   cases UM:B.iI with
   | none=>
    rw[m3 UM] at ho;simp[dc] at ho
   | some b=>
    obtain⟨cur,_,_,_,_,_,n6⟩:=m5 b UM;obtain⟨B',L0⟩:=aG.refs _ _ o n6 ho;exact fq (yN o B' L0)
  ·obtain⟨B,m1,_⟩:=Kl.obj p ob hp;exact fq (yN p B m1)
  ·rw[jb (Nat.le_trans hn ho)];exact hr.nx o ho
  ·rcases Nat.lt_or_ge o n2 with h1 | h1
   ·rw[fq h1,Kl.fM o h1];show below σ n2 (fun _=>none) o=_;rw[fq h1];exact hr.fM o ho
   ·rw[jb h1];exact hr.fM o ho
  ·rw[xJ] at ho;rw[jb (Nat.le_trans hn ho),hr.nx o ho] at hB;cases hB
 cases e with
 | normal=>exact fin q
 | ret=>exact fin q
 | exit _=>exact q.elim
 | goto _=>exact q.elim
 | panic _=>exact q.elim
 | outgrown=>exact q.elim
def er (G:List (Nat×Ob)):List Nat→Option (List (Nat×Ob))
 | []=>some []
 | k::ks=>match assoc G k,er G ks with
  | some ob,some H=>some ((k,ob)::H)
  | _,_=>none
def dG (G:List (Nat×Ob)):List Nat→List (Nat×Ob)
 | []=>G
 | k::ks=>dG (iY G k) ks
theorem j3 {G:List (Nat×Ob)}:∀ {ks:List Nat} {H:List (Nat×Ob)},er G ks=some H→(∀ o ob,assoc H o=some ob→o∈ks∧assoc G o=some ob)∧∀ o ob,o∈ks→assoc G o=some ob→assoc H o=some ob
 | [],H,h=>by
  simp only[er,Option.some.injEq] at h;subst h;exact⟨fun o ob ho=>by simp[assoc] at ho,fun o ob ho=>by simp at ho⟩
 | k::ks,H,h=>by
  simp only[er] at h;split at h
  ·rename_i ob H' h1 h2;cases h;obtain⟨i1,i2⟩:=j3 h2;refine⟨fun o x ho=>?_,fun o x ho hx=>?_⟩
   ·simp only[assoc] at ho;split at ho
    ·rename_i e;cases ho;subst e;exact⟨List.mem_cons_self,h1⟩
    ·exact⟨List.mem_cons_of_mem _ (i1 o x ho).1,(i1 o x ho).2⟩
   ·simp only[assoc];split
    ·rename_i e;subst e;rw[h1] at hx;exact hx
    ·rename_i e;rcases List.mem_cons.1 ho with h3 | h3
     ·exact (e h3.symm).elim
     ·exact i2 o x h3 hx
  ·cases h
theorem eH {G:List (Nat×Ob)}:∀ (ks:List Nat) (o:Nat),assoc (dG G ks) o=if o∈ks then none else assoc G o:=by
 intro ks
 induction ks generalizing G with
 | nil=>intro o;simp[dG]
 | cons k ks ih=>
  intro o;rw[dG,ih,dW];by_cases h1:o∈ks
  ·simp[h1]
  ·by_cases h2:o=k
   ·simp[h2]
   ·have:¬ k=o:=fun h=>h2 h.symm;simp[h1,h2,this]
theorem mP.of {G H:List (Nat×Ob)}{ks:List Nat}(h:er G ks=some H):mP H (dG G ks) G:=by
 obtain⟨h1,h2⟩:=j3 h;refine⟨fun o ob ho=>(h1 o ob ho).2,fun o ob ho=>?_,fun o ob ho=>?_,fun o ob Ka ho Kv=>?_⟩
 ·rw[eH] at ho;split at ho
  ·cases ho
  ·exact ho
 ·by_cases hm:o∈ks
  ·exact .inl (h2 o ob hm ho)
  ·exact .inr (by rw[eH,if_neg hm];exact ho)
 ·rw[eH,if_pos (h1 o ob ho).1] at Kv;cases Kv
def kA (ks:List Nat)(H:List (Nat×Ob)):Bool:=H.all fun x=>ks.contains x.1
theorem pg {ks:List Nat}{H:List (Nat×Ob)}(h:kA ks H=true)(o:Nat)(ob:Ob)(ho:assoc H o=some ob):o∈ks:=by
 have:=br _ _ _ ho;simp only[kA,List.all_eq_true] at h
 simpa using h _ this
theorem TL.Ej (Mw:ay P ak){o:Oper}{l:List Oper}{c:Call}{g:FuncId}{cs:List CV}{K:St→Prop}{R:CV→St→Prop}(ks:List Nat){H:List (Nat×Ob)}(n:Nat)(hd:a9 C.nt o.dst=true)(hg:bM ops s o=Option.some true)(ho:o.op=.call c)(Kj:bl s c=Option.some (g,cs))
  (hp:er s.heap ks=Option.some H) (hn:n≤s.nx) (ha:aO n cs=true) (hH:cV n H=true) (hb:Body P ak g cs H n R) (hR:∀ r s1,R r s1→s1.nx=n∧kA ks s1.heap=true)
  (hK:∀ r s1,R r s1→TL P C ops l (St.put ⟨s.env,s1.heap++dG s.heap ks,s.nx⟩ o.dst r) K):TL P C ops (o::l) s K:=by
 intro a w Q hr hQ;have hw:=dR hr hg;obtain⟨σ,hr⟩:=hr;unfold wpList;rw[if_pos hw];refine .inl ?_;have PD:jR P g:=by
  obtain⟨fn,code,hf,LJ,KV,_⟩:=hb;exact⟨fn,hf,KV,by simp[LJ]⟩
 refine qA Mw (mP.of hp) (uq.value ho Kj PD) (hb.lift hn ha hH fun r s h=>(hR r s h).1) ?_ hr _ _ ?_
 ·rintro r s1 ⟨s2,h1,rfl⟩ p ob Ka h2 h3;have hm:=pg (hR r s2 h1).2 p ob h2;rw[eH,if_pos hm] at h3;cases h3
 ·rintro r s1 v w' σ' ⟨s2,h1,rfl⟩ KF hv _;refine hK r s2 h1 _ w' Q ⟨σ',KF.put ?_ hv⟩ hQ;intro t e;rw[KF.tm];rw[e] at hd
  simpa [a9] using hd
def kU (P:Program)(f:FuncId)(args:List CV)(G:CV→Prop):Prop:=
 jR P f∧∀ (F:Nat→Prop) (vs:List Value) (w:World),FOk w F→bt w F args vs →
  Calls P f vs.toArray w fun e w'=>∃ r v,G r∧e=.returned v∧Below w.heap.size w w'∧bK w' F r v
theorem ae.toP {f:FuncId}{args:List CV}{r:CV}{G:CV→Prop}(h:ae P f args r)(hG:G r):kU P f args G:=
 ⟨h.1,fun F vs w hF hv=>(h.2 F vs w hF hv).mono fun _ _ ⟨v,h1,h2,h3⟩=>⟨r,v,hG,h1,h2,h3⟩⟩
theorem kU.mono {f:FuncId}{args:List CV}{G G':CV→Prop}(h:kU P f args G)(hG:∀ r,G r→G' r):kU P f args G':=
 ⟨h.1,fun F vs w hF hv=>(h.2 F vs w hF hv).mono fun _ _ ⟨r,v,h0,h1,h2,h3⟩=>⟨r,v,hG r h0,h1,h2,h3⟩⟩
theorem wB {o:Oper}{g:FuncId}{cs:List CV}{G:CV→Prop}(he:uq P C s o g cs)(ht:trees cs=true)(hp:kU P g cs G)(h:aB C σ s a w)(K:Act→World→Prop)(Q:Exit→Act→World→Prop)
  (hK:∀ r v w',G r→aB C σ s a w'→VR w' (FB C σ s.heap) σ r v→K (a.put o.dst v) w'):o.wp P a w K Q:=by
 obtain⟨vs,P5,hv⟩:=he σ a w h;unfold Oper.wp;rw[P5];refine (hp.2 (FB C σ s.heap) vs w (zq h) (aG.dx _ _ ht hv)).mono fun e w' ⟨r,v,h0,h1,h2,h3⟩=>?_;subst h1;exact hK r v w' h0 (h.below h2) (VR.ca _ _ h3)
theorem TL.Eh {o:Oper}{l:List Oper}{c:Call}{g:FuncId}{cs:List CV}{K:St→Prop}{G:CV→Prop}(hd:a9 C.nt o.dst=true)(hg:bM ops s o=Option.some true)(ho:o.op=.call c)(Kj:bl s c=Option.some (g,cs))(ht:trees cs=true)(hp:kU P g cs G)
  (hK:∀ r,G r→TL P C ops l (s.put o.dst r) K):TL P C ops (o::l) s K:=by
 intro a w Q hr hQ;have hw:=dR hr hg;obtain⟨σ,hr⟩:=hr;unfold wpList;rw[if_pos hw];refine .inl (wB (uq.value ho Kj hp.1) ht hp hr _ _ fun r v w' h0 KF hv=>hK r h0 _ w' Q ⟨σ,KF.put ?_ hv⟩ hQ);intro t e;rw[KF.tm];rw[e] at hd
 simpa [a9] using hd
def doneG (C:Cx)(ak:List (Nat×TI))(f:Func)(G:CV→Prop):Exit→St→Prop
 | .normal,s=>aa C (fun s'=>∃ r,bf ak f s'=some r∧tree r=true∧G r) s
 | .ret,s=>aa C (fun s'=>∃ r,bf ak f s'=some r∧tree r=true∧G r) s
 | _,_=>False
theorem kU.je (Mw : ay P ak) {f : FuncId} {fn : Func} {c : Code} {args : List CV} {G : CV → Prop} (hf : P.funcs[f]? = some fn) (hb : fn.body = some c) (hn : (fn.name == "runtime.NumGoroutine") = false)
  (ha:args.length≤fn.ntmps) (h:∀ C:Cx,C.nt=fn.ntmps→C.n0=0→T P C c (enter args) (doneG C ak fn G)):kU P f args G:=by
 refine⟨⟨fn,hf,hn,by simp[hb]⟩,fun F vs w hF hv=>?_⟩;have hl:=bt.length _ _ hv;have h0:aB ⟨w,F,fun _=>False,hF,fn.ntmps,fun _=>none,0⟩ (fun _=>none) (enter args) { tmps:=vs.toArray++Array.replicate (fn.ntmps-vs.toArray.size) undef,defers:=[] } w:=by
  refine⟨rfl,by simp;omega,rfl,rfl,rfl,Nat.le_refl _,fun _ _ _=>rfl,?_,?_,?_,fun _ _=>rfl,fun _ h=>absurd h (Nat.not_lt_zero _),Nat.zero_le _,fun _ _ _ _ h=>by cases h⟩
  ·intro t c hc;obtain⟨_,h2⟩:=eW args 0 t c hc;obtain⟨v,h3,h4⟩:=bt.get _ _ hv t c (by simpa using h2);refine⟨v,?_,VR.ca _ _ (bK.a7 (b9.same fun b hb=>?_).1 c v h4)⟩
   ·have yN:=(List.getElem?_eq_some_iff.1 h3).1;simp only;rw[Array.getElem?_append_left (by simpa using yN)]
    simpa using h3
   ·rcases hb with hF | ⟨o,ob,ho,_⟩
    ·exact hF
    ·simp[enter,assoc] at ho
  ·intro o ob ho;simp[enter,assoc] at ho
  ·intro o o' ob Ka b ho;simp[enter,assoc] at ho
 refine calls_of_wp hf hb (wp_mono (h _ rfl rfl _ _ ⟨_,h0⟩) fun e a' w' ⟨s1,q,σ,KL⟩=>?_);have fin:aa ⟨w,F,fun _=>False,hF,fn.ntmps,fun _=>none,0⟩ (fun s'=>∃ r,bf ak fn s'=some r∧tree r=true∧G r) s1→a'.defers=[]∧∃ v,(results fn a'.tmps).run P w'=.ok v w'∧(∃ r Og,G r∧Ending.returned v=.returned Og∧Below w.heap.size w w'∧bK w' F r Og):=fun⟨s',⟨r,hq,ht,hG⟩,hle⟩=>by
  obtain⟨σ',hr⟩:=hle _ _ ⟨σ,KL⟩;obtain⟨v,k1,k2⟩:=gW (P:=P) Mw hr hq;refine⟨hr.me,v,k1,r,v,hG,rfl,⟨hr.os,hr.tape,hr.output,hr.size,fun k hk=>hr.frame k hk (fun hx=>hx)⟩,?_⟩;exact bK.a7 (b9.same fun _ hF=>.inl hF).1 _ _ (VR.dx _ _ ht k2)
 cases e with
 | normal=>exact fin q
 | ret=>exact fin q
 | exit _=>exact q.elim
 | goto _=>exact q.elim
 | panic _=>exact q.elim
 | outgrown=>exact q.elim
def nz:CV→CV
 | .ag=>.au [] 0
 | c=>c
def sC:CV→CV
 | .ag=>.au [] 0
 | .agg cs=>.agg (cs.map nz)
 | c=>c
theorem VR.nz {F:Nat→Prop}{c:CV}{v:Value}(h:VR w F σ c v):VR w F σ (nz c) v:=by
 cases c<;>try exact h
 simp only[VR] at h;subst h;simp only[Can.nz,VR,bK];exact⟨none,0,rfl,Nat.le_refl _,Nat.zero_le _,.inl ⟨trivial,trivial⟩⟩
theorem aG.nz {F:Nat→Prop}:∀ {cs:List CV} {vs:List Value},aG w F σ cs vs→aG w F σ (cs.map Can.nz) vs
 | [],_,h=>h
 | _::_,_,⟨v,r,e,h1,h2⟩=>⟨v,r,e,VR.nz h1,aG.nz h2⟩
theorem HK (c:CV):one (nz c)=one c:=by cases c<;>rfl
theorem sf (cs:List CV):(cs.map nz).all one=cs.all one:=by
 induction cs with
 | nil=>rfl
 | cons c cs ih=>simp only[List.map_cons,List.all_cons,HK,ih]
theorem VR.sC {F:Nat→Prop}{c:CV}{v:Value}(h:VR w F σ c v):VR w F σ (sC c) v:=by
 cases c<;>try exact h
 ·simp only[VR] at h;obtain⟨vs,h1,h2,h3⟩:=h;simp only[Can.sC,VR];exact⟨vs,h1,aG.nz h2,by rw[sf];exact h3⟩
 ·exact VR.nz h
def BS (ts:List Nat):List (Nat×CV)→List (Nat×CV)
 | []=>[]
 | (k,c)::r=>(k,if ts.contains k then sC c else c)::BS ts r
def wS (os:List Nat):List (Nat×Ob)→List (Nat×Ob)
 | []=>[]
 | (k,ob)::r=>(k,if os.contains k then ⟨ob.elem,ob.sz,ob.cells.map nz⟩ else ob)::wS os r
theorem tB (ts:List Nat):∀ (e:List (Nat×CV)) (t:Nat) (c:CV),assoc (BS ts e) t=some c→∃ d,assoc e t=some d∧(c=d∨c=sC d)
 | [],t,c,h=>by simp[BS,assoc] at h
 | (k,d)::r,t,c,h=>by
  simp only[BS,assoc] at h ⊢;split at h
  ·rename_i e;rw[if_pos e];cases h;refine⟨d,rfl,?_⟩;split
   ·exact .inr rfl
   ·exact .inl rfl
  ·rename_i e;rw[if_neg e];exact tB ts r t c h
theorem dw (os:List Nat):∀ (H:List (Nat×Ob)) (o:Nat),assoc (wS os H) o=(assoc H o).map fun ob=>if os.contains o then ⟨ob.elem,ob.sz,ob.cells.map nz⟩ else ob
 | [],o=>by simp[wS,assoc]
 | (k,x)::r,o=>by
  simp only[wS,assoc];split
  ·rename_i e;subst e;rfl
  ·exact dw os r o
theorem Le.nz (ts os:List Nat):Le C s ⟨BS ts s.env,wS os s.heap,s.nx⟩:=by
 intro a w ⟨σ,h⟩;have OI:∀ b,FB C σ (wS os s.heap) b↔FB C σ s.heap b:=fun b=>by
  unfold FB;constructor
  ·rintro (h | ⟨o,ob,ho,hb⟩)
   ·exact .inl h
   ·rw[dw] at ho;obtain⟨x,hx,_⟩:=Option.map_eq_some_iff.1 ho;exact .inr ⟨o,x,hx,hb⟩
  ·rintro (h | ⟨o,ob,ho,hb⟩)
   ·exact .inl h
   ·exact .inr ⟨o,_,by rw[dw,ho];rfl,hb⟩
 have hK:b9 w w (FB C σ s.heap) (FB C σ (wS os s.heap)):=b9.same fun b hx=>(OI b).1 hx;refine⟨σ,h.me,h.tm,h.os,h.tape,h.output,h.size,h.frame,?_,?_,?_,h.nx,h.fM,h.low,h.new⟩
 ·intro t c hc;obtain⟨d,hd,OZ⟩:=tB ts s.env t c hc;obtain⟨v,k1,k2⟩:=h.env t d hd;refine⟨v,k1,VR.a7 hK _ _ (fun _ _=>rfl) ?_⟩;rcases OZ with rfl | rfl
  ·exact k2
  ·exact VR.sC k2
 ·intro o ob ho;simp only[dw] at ho;obtain⟨x,hx,Vn⟩:=Option.map_eq_some_iff.1 ho;obtain⟨B,m1,m2,m3,m4,m5⟩:=h.obj o x hx;split at Vn
  ·subst Vn;refine⟨B,m1,m2,fun hb=>by simp[m3 hb],by simp only[sf];exact m4,fun b hb=>?_⟩;obtain⟨cur,n1,n2,n3,n4,n5,n6⟩:=m5 b hb;refine⟨cur,n1,n2,n3,n4,by simpa using n5,?_⟩;simp only[List.length_map];exact aG.a7 hK _ _ (fun _ _=>rfl) (aG.nz n6)
  ·subst Vn;refine⟨B,m1,m2,m3,m4,fun b hb=>?_⟩;obtain⟨cur,n1,n2,n3,n4,n5,n6⟩:=m5 b hb;exact⟨cur,n1,n2,n3,n4,n5,aG.a7 hK _ _ (fun _ _=>rfl) n6⟩
 ·intro o o' ob Ka b ho Kv hx K5;simp only[dw] at ho Kv;obtain⟨x,h1,_⟩:=Option.map_eq_some_iff.1 ho;obtain⟨y,h2,_⟩:=Option.map_eq_some_iff.1 Kv;exact h.inj o o' x y b h1 h2 hx K5
@[simp] theorem nz_int (k:IntKind)(n:Int):nz (.int k n)=(.int k n):=rfl
@[simp] theorem nzA_int (k:IntKind)(n:Int):sC (.int k n)=(.int k n):=rfl
@[simp] theorem nz_bool (b:Bool):nz (.bool b)=(.bool b):=rfl
@[simp] theorem nzA_bool (b:Bool):sC (.bool b)=(.bool b):=rfl
@[simp] theorem nz_str (s:ByteArray):nz (.str s)=(.str s):=rfl
@[simp] theorem nzA_str (s:ByteArray):sC (.str s)=(.str s):=rfl
@[simp] theorem nz_agg (cs:List CV):nz (.agg cs)=(.agg cs):=rfl
@[simp] theorem nzA_agg (cs:List CV):sC (.agg cs)=.agg (cs.map nz):=rfl
@[simp] theorem nz_tsl (cs:List CV)(n:Nat):nz (.au cs n)=(.au cs n):=rfl
@[simp] theorem nzA_tsl (cs:List CV)(n:Nat):sC (.au cs n)=(.au cs n):=rfl
@[simp] theorem nz_nilsl:nz .ag=.au [] 0:=rfl
@[simp] theorem Jh:sC .ag=.au [] 0:=rfl
@[simp] theorem nz_tptr (cs:List CV):nz (.cc cs)=(.cc cs):=rfl
@[simp] theorem nzA_tptr (cs:List CV):sC (.cc cs)=(.cc cs):=rfl
@[simp] theorem Jg:nz .bg=.bg:=rfl
@[simp] theorem HR:sC .bg=.bg:=rfl
@[simp] theorem nz_fn (f:FuncId)(cs:List CV):nz (.fn f cs)=(.fn f cs):=rfl
@[simp] theorem nzA_fn (f:FuncId)(cs:List CV):sC (.fn f cs)=(.fn f cs):=rfl
@[simp] theorem nz_nilfn:nz .bT=.bT:=rfl
@[simp] theorem Ji:sC .bT=.bT:=rfl
@[simp] theorem nz_iface (t:TypeId)(cs:List CV):nz (.iface t cs)=(.iface t cs):=rfl
@[simp] theorem Jj (t:TypeId)(cs:List CV):sC (.iface t cs)=(.iface t cs):=rfl
@[simp] theorem nz_tup (cs:List CV):nz (.db cs)=(.db cs):=rfl
@[simp] theorem nzA_tup (cs:List CV):sC (.db cs)=(.db cs):=rfl
@[simp] theorem nz_osl (p f n:Nat):nz (.bw p f n)=(.bw p f n):=rfl
@[simp] theorem nzA_osl (p f n:Nat):sC (.bw p f n)=(.bw p f n):=rfl
@[simp] theorem nz_optr (p f:Nat):nz (.ai p f)=(.ai p f):=rfl
@[simp] theorem nzA_optr (p f:Nat):sC (.ai p f)=(.ai p f):=rfl
@[simp] theorem nz_any:nz .any=.any:=rfl
@[simp] theorem nzA_any:sC .any=.any:=rfl
attribute [simp] BS wS er dG cV kA
end
end Go.Can
