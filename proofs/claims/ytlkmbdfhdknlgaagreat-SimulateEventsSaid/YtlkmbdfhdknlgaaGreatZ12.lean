/- Contracts at numbers of th -/
import Derived.Test.YtlkmbdfhdknlgaaGreatZ11
namespace Go.Can
open Go.RowKit List
section
variable {P:Program}{C:Cx}{σ:Nat->Option OB}{s:St}{a:Act}{w:World}{ops:Array Oper}{av:List (Nat×TI)}
theorem K6 (e:List (Nat×CV))(H:List (Nat×Ob))(n m:Nat)(r:ResultVar):ql av ⟨e,H,n⟩ r=ql av ⟨e,H,m⟩ r:=by
 have h:∀ c,ib ⟨e,H,n⟩ c=ib ⟨e,H,m⟩ c:=λ c=>uY (s:=⟨e,H,n⟩) (s':=⟨e,H,m⟩) rfl c
 cases r with
 | tmp t=>rfl
 | cell x t=>simp only[ql,h]
theorem Dl (e:List (Nat×CV))(H:List (Nat×Ob))(n m:Nat):∀ rs:List ResultVar,lE av ⟨e,H,n⟩ rs=lE av ⟨e,H,m⟩ rs
 | []=>rfl
 | r::rs=>by
  simp only[lE];rw[K6 e H n m r,Dl e H n m rs]
theorem Dj (fn:Func)(e:List (Nat×CV))(H:List (Nat×Ob))(n m:Nat):bL av fn ⟨e,H,n⟩=bL av fn ⟨e,H,m⟩:=by
 simp only[bL];rw[Dl e H n m]
def below (σ:Nat->Option OB)(n:Nat)(σ':Nat->Option OB):Nat->Option OB:=λ o=>if o<n then σ o else σ' o
theorem gS {σ σ':Nat->Option OB}{n o:Nat}(h:o<n):below σ n σ' o=σ o:=if_pos h
theorem kU {σ σ':Nat->Option OB}{n o:Nat}(h:n<=o):below σ n σ' o=σ' o:=if_neg yA
theorem aQ.N3 {C C':Cx}{σ σ':Nat->Option OB}{e:List (Nat×CV)}{H:List (Nat×Ob)}{n n':Nat}(h:aQ C σ ⟨e,H,n⟩ a w)
  (h1:C'.w0=C.w0) (h2:C'.F=C.F) (h3:C'.own=C.own) (h4:C'.nt=C.nt)
  (he:∀ t c o,assoc e t=some c->aP o c=false->σ' o=σ o) (hH:∀ p ob o,assoc H p=some ob->ed o ob.cells=false->σ' o=σ o) (hk:∀ p ob,assoc H p=some ob->σ' p=σ p)
  (Te:∀ o,n'<=o->σ' o=none) (hold:∀ o,o<C'.n0->σ' o=C'.σ0 o) (VS:C'.n0<=n') (Su:∀ o B b,C'.n0<=o->σ' o=some B->B.kf=some b->C'.own b\/C'.w0.heap.size<=b) :
  aQ C' σ' ⟨e,H,n'⟩ a w:=by
 have hb:∀ p ob,assoc H p=some ob->a7 σ' p=a7 σ p:=λ p ob hp=>by unfold a7;rw[hk p ob hp]
 have Xm:∀ b,FB C' σ' H b↔FB C σ H b:=λ b=>by
  unfold FB;rw[h2];constructor
  ·rintro (h | ⟨o,ob,ho,hx⟩)
   ·exact .inl h
   ·exact .inr ⟨o,ob,ho,by rw[<- hb o ob ho];exact hx⟩
  ·rintro (h | ⟨o,ob,ho,hx⟩)
   ·exact .inl h
   ·exact .inr ⟨o,ob,ho,by rw[hb o ob ho];exact hx⟩
 have hK:cO w w (FB C σ H) (FB C' σ' H):=cO.same λ b hx=>(Xm b).1 hx;refine⟨h.pQ,by rw[h4];exact h.tm,by rw[h1];exact h.os,by rw[h1];exact h.tape,by rw[h1];exact h.output,by rw[h1];exact h.size,by rw[h1,h3];exact h.frame,?_,?_,?_,Te,hold,VS,Su⟩
 ·intro t c hc;obtain⟨v,k1,k2⟩:=h.env t c hc;exact⟨v,k1,VR.bG hK _ _ (λ o ho=>he t c o hc ho) k2⟩
 ·intro o ob ho;obtain⟨B,m1,m2,m3,m4,m5⟩:=h.obj o ob ho;refine⟨B,by rw[hk o ob ho];exact m1,m2,m3,m4,λ b hbk=>?_⟩;obtain⟨cur,n1,n2,n3,n4,n5,n6⟩:=m5 b hbk;refine⟨cur,n1,n2,by rw[h2];exact n3,by rw[h1,h3];exact n4,n5,?_⟩;exact a6.bG hK _ _ (λ p hp=>hH o ob p ho hp) n6
 ·intro o o' ob R9 b ho Sr hx TM;rw[hb o ob ho] at hx;rw[hb o' R9 Sr] at TM;exact h.inj o o' ob R9 b ho Sr hx TM
def dh (n:Nat):List (Nat×Ob)->Bool
 | []=>true
 | (k,ob)::r=>decide (k<n) && ba n ob.cells && dh n r
theorem jj {n:Nat}:∀ {H:List (Nat×Ob)},dh n H=true->∀ p ob,assoc H p=some ob->p<n/\ba n ob.cells=true
 | [],_,p,ob,h=>by simp[assoc] at h
 | (k,x)::r,h,p,ob,hp=>by
  simp only[dh,Bool.and_eq_true,decide_eq_true_eq] at h;simp only[assoc] at hp;split at hp
  ·rename_i e;cases hp;subst e;exact h.1
  ·exact jj h.2 p ob hp
theorem Body.lift {f:FuncId}{args:List CV}{H:List (Nat×Ob)}{n n':Nat}{R:CV->St->Prop}(h:Body P av f args H n R)(hn:n<=n')(ha:ba n args=true)(hH:dh n H=true)(hR:∀ r s,R r s->s.nx=n) :
  Body P av f args H n' λ r s=>∃ s1,R r s1/\s=⟨s1.env,s1.heap,n'⟩:=by
 obtain⟨fn,c,hf,hb,SW,hl,hT⟩:=h;refine⟨fn,c,hf,hb,SW,hl,λ C' hC RR a w ⟨σ,hr⟩=>?_⟩;have RV:∀ (t:Nat) c o,assoc (enter args).env t=some c->aP o c=false->o<n:=λ t c o hc ho=>by
  obtain⟨_,h2⟩:=gD args 0 t c hc;have hm:c∈args:=mem_of_getElem? h2;rw[aT,all_eq_true] at ha;exact mw n c o (ha c hm) ho
 have h0:aQ ⟨C'.w0,C'.F,C'.own,C'.hF,C'.nt,below σ n (λ _=>none),n⟩ (below σ n (λ _=>none)) ⟨(enter args).env,H,n⟩ a w:=
  hr.N3 rfl rfl rfl rfl (λ t c o hc ho=>gS (RV t c o hc ho)) (λ p ob o hp ho=>gS (fB n _ o (jj hH p ob hp).2 ho)) (λ p ob hp=>gS (jj hH p ob hp).1)
   (λ o ho=>kU ho) (λ _ _=>rfl) (Nat.le_refl _) (λ o B b ho hB _=>by rw[kU ho] at hB;cases hB)
 refine wp_mono (hT ⟨C'.w0,C'.F,C'.own,C'.hF,C'.nt,below σ n (λ _=>none),n⟩ hC rfl a w ⟨_,h0⟩) λ e a' w' ⟨s1,q,σ1,Tk⟩=>?_;have fin:aa ⟨C'.w0,C'.F,C'.own,C'.hF,C'.nt,below σ n (λ _=>none),n⟩ (λ s'=>∃ r,bL av fn s'=some r/\R r s') s1 ->
   ∃ s',aa C' (λ s'=>∃ r,bL av fn s'=some r/\∃ s1,R r s1/\s'=⟨s1.env,s1.heap,n'⟩) s'/\Rel C' s' a' w':=λ⟨s2,⟨r,q1,q2⟩,hle⟩=>by
  obtain⟨σ2,Sx⟩:=hle _ _ ⟨σ1,Tk⟩;have VO:=hR r s2 q2;obtain⟨e2,H2,n2⟩:=s2;simp only at VO;subst VO;have RS:∀ o B,σ2 o=some B->o<n2:=λ o B hB=>Nat.lt_of_not_le λ hle=>by rw[Sx.nx o hle] at hB;cases hB
  refine⟨⟨e2,H2,n'⟩,aa.here ⟨r,(Dj fn e2 H2 n' n2).trans q1,_,q2,rfl⟩,below σ2 n2 σ,?_⟩;refine Sx.N3 rfl rfl rfl rfl (λ t c o hc ho=>?_) (λ p ob o hp ho=>?_) (λ p ob hp=>?_) (λ o ho=>?_) (λ o ho=>?_) (by rw[RR];exact Nat.le_refl _) (λ o B b ho hB _=>?_)
  ·obtain⟨v,_,k2⟩:=Sx.env t c hc;obtain⟨B,hB⟩:=VR.refs _ _ o k2 ho;exact gS (RS o B hB)
  ·obtain⟨B,m1,_,m3,_,m5⟩:=Sx.obj p ob hp
   cases hbk:B.kf with
   | none=>
    rw[m3 hbk] at ho;simp[ed] at ho
   | some b=>
    obtain⟨cur,_,_,_,_,_,n6⟩:=m5 b hbk;obtain⟨B',Uf⟩:=a6.refs _ _ o n6 ho;exact gS (RS o B' Uf)
  ·obtain⟨B,m1,_⟩:=Sx.obj p ob hp;exact gS (RS p B m1)
  ·rw[kU (Nat.le_trans hn ho)];exact hr.nx o ho
  ·rcases Nat.lt_or_ge o n2 with h1 | h1
   ·rw[gS h1,Sx.gA o h1];show below σ n2 (λ _=>none) o=_;rw[gS h1];exact hr.gA o ho
   ·rw[kU h1];exact hr.gA o ho
  ·rw[RR] at ho;rw[kU (Nat.le_trans hn ho),hr.nx o ho] at hB;cases hB
 cases e with
 | normal=>exact fin q
 | ret=>exact fin q
 | exit _=>exact q.elim
 | goto _=>exact q.elim
 | panic _=>exact q.elim
 | outgrown=>exact q.elim
def eZ (G:List (Nat×Ob)):List Nat->Option (List (Nat×Ob))
 | []=>some []
 | k::ks=>match assoc G k,eZ G ks with
  | some ob,some H=>some ((k,ob)::H)
  | _,_=>none
def ep (G:List (Nat×Ob)):List Nat->List (Nat×Ob)
 | []=>G
 | k::ks=>ep (jX G k) ks
theorem j9 {G:List (Nat×Ob)}:∀ {ks:List Nat} {H:List (Nat×Ob)},eZ G ks=some H->(∀ o ob,assoc H o=some ob->o∈ks/\assoc G o=some ob)/\∀ o ob,o∈ks->assoc G o=some ob->assoc H o=some ob
 | [],H,h=>by
  simp only[eZ,Option.some.injEq] at h;subst h;exact⟨λ o ob ho=>by simp[assoc] at ho,λ o ob ho=>by simp at ho⟩
 | k::ks,H,h=>by
  simp only[eZ] at h;split at h
  ·rename_i ob H' h1 h2;cases h;obtain⟨i1,i2⟩:=j9 h2;refine⟨λ o x ho=>?_,λ o x ho hx=>?_⟩
   ·simp only[assoc] at ho;split at ho
    ·rename_i e;cases ho;subst e;exact⟨mem_cons_self,h1⟩
    ·exact⟨mem_cons_of_mem _ (i1 o x ho).1,(i1 o x ho).2⟩
   ·simp only[assoc];split
    ·rename_i e;subst e;rw[h1] at hx;exact hx
    ·rename_i e;rcases mem_cons.1 ho with h3 | h3
     ·exact (e h3.symm).elim
     ·exact i2 o x h3 hx
  ·cases h
theorem fA {G:List (Nat×Ob)}:∀ (ks:List Nat) (o:Nat),assoc (ep G ks) o=if o∈ks then none else assoc G o:=by
 intro ks
 induction ks generalizing G with
 | nil=>intro o;simp[ep]
 | cons k ks ih=>
  intro o;rw[ep,ih,fE];by_cases h1:o∈ks
  ·simp[h1]
  ·by_cases h2:o=k
   ·simp[h2]
   ·have:¬ k=o:=λ h=>h2 h.symm;simp[h1,h2,this]
theorem pj.of {G H:List (Nat×Ob)}{ks:List Nat}(h:eZ G ks=some H):pj H (ep G ks) G:=by
 obtain⟨h1,h2⟩:=j9 h;refine⟨λ o ob ho=>(h1 o ob ho).2,λ o ob ho=>?_,λ o ob ho=>?_,λ o ob R9 ho Sr=>?_⟩
 ·rw[fA] at ho;split at ho
  ·cases ho
  ·exact ho
 ·by_cases hm:o∈ks
  ·exact .inl (h2 o ob hm ho)
  ·exact .inr (by rw[fA,if_neg hm];exact ho)
 ·rw[fA,if_pos (h1 o ob ho).1] at Sr;cases Sr
def nu (ks:List Nat)(H:List (Nat×Ob)):Bool:=H.all λ x=>ks.contains x.1
theorem uh {ks:List Nat}{H:List (Nat×Ob)}(h:nu ks H=true)(o:Nat)(ob:Ob)(ho:assoc H o=some ob):o∈ks:=by
 have:=bx _ _ _ ho;simp only[nu,all_eq_true] at h
 simpa using h _ this
theorem TL.Lj (Uu:aD P av){o:Oper}{l:List Oper}{c:Call}{g:FuncId}{cs:List CV}{K:St->Prop}{R:CV->St->Prop}(ks:List Nat){H:List (Nat×Ob)}(n:Nat)(hd:bm C.nt o.dst=true)(hg:bY ops s o=Option.some true)(ho:o.op=.call c)(Se:bM s c=Option.some (g,cs))
  (hp:eZ s.heap ks=Option.some H) (hn:n<=s.nx) (ha:ba n cs=true) (hH:dh n H=true) (hb:Body P av g cs H n R) (hR:∀ r s1,R r s1->s1.nx=n/\nu ks s1.heap=true)
  (hK:∀ r s1,R r s1->TL P C ops l (St.put ⟨s.env,s1.heap++ep s.heap ks,s.nx⟩ o.dst r) K):TL P C ops (o::l) s K:=by
 intro a w Q hr hQ;have hw:=eU hr hg;obtain⟨σ,hr⟩:=hr;unfold wpList;rw[if_pos hw];refine .inl ?_;have Zs:kW P g:=by
  obtain⟨fn,code,hf,Tm,SW,_⟩:=hb;exact⟨fn,hf,SW,by simp[Tm]⟩
 refine sJ Uu (pj.of hp) (qu.value ho Se Zs) (hb.lift hn ha hH λ r s h=>(hR r s h).1) ?_ hr _ _ ?_
 ·rintro r s1 ⟨s2,h1,rfl⟩ p ob R9 h2 h3;have hm:=uh (hR r s2 h1).2 p ob h2;rw[fA,if_pos hm] at h3;cases h3
 ·rintro r s1 v w' σ' ⟨s2,h1,rfl⟩ So hv _;refine hK r s2 h1 _ w' Q ⟨σ',So.put ?_ hv⟩ hQ;intro t e;rw[So.tm];rw[e] at hd
  simpa [bm] using hd
def n9 (P:Program)(f:FuncId)(args:List CV)(G:CV->Prop):Prop:=
 kW P f/\∀ (F:Nat->Prop) (vs:List Value) (w:World),FOk w F->bZ w F args vs ->
  Calls P f vs.toArray w λ e w'=>∃ r v,G r/\e=.returned v/\Below w.heap.size w w'/\cr w' F r v
theorem ae.toP {f:FuncId}{args:List CV}{r:CV}{G:CV->Prop}(h:ae P f args r)(hG:G r):n9 P f args G:=
 ⟨h.1,λ F vs w hF hv=>(h.2 F vs w hF hv).mono λ _ _ ⟨v,h1,h2,h3⟩=>⟨r,v,hG,h1,h2,h3⟩⟩
theorem n9.mono {f:FuncId}{args:List CV}{G G':CV->Prop}(h:n9 P f args G)(hG:∀ r,G r->G' r):n9 P f args G':=
 ⟨h.1,λ F vs w hF hv=>(h.2 F vs w hF hv).mono λ _ _ ⟨r,v,h0,h1,h2,h3⟩=>⟨r,v,hG r h0,h1,h2,h3⟩⟩
theorem B9 {o:Oper}{g:FuncId}{cs:List CV}{G:CV->Prop}(he:qu P C s o g cs)(ht:trees cs=true)(hp:n9 P g cs G)(h:aQ C σ s a w)(K:Act->World->Prop)(Q:Exit->Act->World->Prop)
  (hK:∀ r v w',G r->aQ C σ s a w'->VR w' (FB C σ s.heap) σ r v->K (a.put o.dst v) w'):o.wp P a w K Q:=by
 obtain⟨vs,Iy,hv⟩:=he σ a w h;unfold Oper.wp;rw[Iy];refine (hp.2 (FB C σ s.heap) vs w (Fp h) (a6.eX _ _ ht hv)).mono λ e w' ⟨r,v,h0,h1,h2,h3⟩=>?_;subst h1;exact hK r v w' h0 (h.below h2) (VR.cK _ _ h3)
theorem TL.Li {o:Oper}{l:List Oper}{c:Call}{g:FuncId}{cs:List CV}{K:St->Prop}{G:CV->Prop}(hd:bm C.nt o.dst=true)(hg:bY ops s o=Option.some true)(ho:o.op=.call c)(Se:bM s c=Option.some (g,cs))(ht:trees cs=true)(hp:n9 P g cs G)
  (hK:∀ r,G r->TL P C ops l (s.put o.dst r) K):TL P C ops (o::l) s K:=by
 intro a w Q hr hQ;have hw:=eU hr hg;obtain⟨σ,hr⟩:=hr;unfold wpList;rw[if_pos hw];refine .inl (B9 (qu.value ho Se hp.1) ht hp hr _ _ λ r v w' h0 So hv=>hK r h0 _ w' Q ⟨σ,So.put ?_ hv⟩ hQ);intro t e;rw[So.tm];rw[e] at hd
 simpa [bm] using hd
def doneG (C:Cx)(av:List (Nat×TI))(f:Func)(G:CV->Prop):Exit->St->Prop
 | .normal,s=>aa C (λ s'=>∃ r,bL av f s'=some r/\tree r=true/\G r) s
 | .ret,s=>aa C (λ s'=>∃ r,bL av f s'=some r/\tree r=true/\G r) s
 | _,_=>False
theorem n9.jv (Uu : aD P av) {f : FuncId} {fn : Func} {c : Code} {args : List CV} {G : CV -> Prop} (hf : P.funcs[f]? = some fn) (hb : fn.body = some c) (hn : (fn.name == "runtime.NumGoroutine") = false)
  (ha:args.length<=fn.ntmps) (h:∀ C:Cx,C.nt=fn.ntmps->C.n0=0->T P C c (enter args) (doneG C av fn G)):n9 P f args G:=by
 refine⟨⟨fn,hf,hn,by simp[hb]⟩,λ F vs w hF hv=>?_⟩;have hl:=bZ.length _ _ hv;have h0:aQ ⟨w,F,λ _=>False,hF,fn.ntmps,λ _=>none,0⟩ (λ _=>none) (enter args) { tmps:=vs.toArray++Array.replicate (fn.ntmps-vs.toArray.size) undef,defers:=[] } w:=by
  refine⟨rfl,by simp;omega,rfl,rfl,rfl,Nat.le_refl _,λ _ _ _=>rfl,?_,?_,?_,λ _ _=>rfl,λ _ h=>absurd h (Nat.not_lt_zero _),Nat.zero_le _,λ _ _ _ _ h=>by cases h⟩
  ·intro t c hc;obtain⟨_,h2⟩:=gD args 0 t c hc;obtain⟨v,h3,h4⟩:=bZ.get _ _ hv t c yC;refine⟨v,?_,VR.cK _ _ (cr.bG (cO.same λ b hb=>?_).1 c v h4)⟩
   ·have RS:=(List.getElem?_eq_some_iff.1 h3).1;simp only;rw[Array.getElem?_append_left (by simpa using RS)]
    simpa using h3
   ·rcases hb with hF | ⟨o,ob,ho,_⟩
    ·exact hF
    ·simp[enter,assoc] at ho
  ·intro o ob ho;simp[enter,assoc] at ho
  ·intro o o' ob R9 b ho;simp[enter,assoc] at ho
 refine calls_of_wp hf hb (wp_mono (h _ rfl rfl _ _ ⟨_,h0⟩) λ e a' w' ⟨s1,q,σ,Tk⟩=>?_);have fin:aa ⟨w,F,λ _=>False,hF,fn.ntmps,λ _=>none,0⟩ (λ s'=>∃ r,bL av fn s'=some r/\tree r=true/\G r) s1->a'.defers=[]/\∃ v,(results fn a'.tmps).run P w'=.ok v w'/\(∃ r Wu,G r/\Ending.returned v=.returned Wu/\Below w.heap.size w w'/\cr w' F r Wu):=λ⟨s',⟨r,hq,ht,hG⟩,hle⟩=>by
  obtain⟨σ',hr⟩:=hle _ _ ⟨σ,Tk⟩;obtain⟨v,k1,k2⟩:=jA (P:=P) Uu hr hq;refine⟨hr.pQ,v,k1,r,v,hG,rfl,⟨hr.os,hr.tape,hr.output,hr.size,λ k hk=>hr.frame k hk (λ hx=>hx)⟩,?_⟩;exact cr.bG (cO.same λ _ hF=>.inl hF).1 _ _ (VR.eX _ _ ht k2)
 cases e with
 | normal=>exact fin q
 | ret=>exact fin q
 | exit _=>exact q.elim
 | goto _=>exact q.elim
 | panic _=>exact q.elim
 | outgrown=>exact q.elim
def nz:CV->CV
 | .aj=>.ax [] 0
 | c=>c
def xd:CV->CV
 | .aj=>.ax [] 0
 | .agg cs=>.agg (cs.map nz)
 | c=>c
theorem VR.nz {F:Nat->Prop}{c:CV}{v:Value}(h:VR w F σ c v):VR w F σ (nz c) v:=by
 cases c<;>try exact h
 simp only[VR] at h;subst h;simp only[Can.nz,VR,cr];exact⟨none,0,rfl,Nat.le_refl _,Nat.zero_le _,.inl ⟨trivial,trivial⟩⟩
theorem a6.nz {F:Nat->Prop}:∀ {cs:List CV} {vs:List Value},a6 w F σ cs vs->a6 w F σ (cs.map Can.nz) vs
 | [],_,h=>h
 | _c::_cs,_,⟨v,r,e,h1,h2⟩=>⟨v,r,e,VR.nz h1,a6.nz h2⟩
theorem PK (c:CV):one (nz c)=one c:=by cases c<;>rfl
theorem yc (cs:List CV):(cs.map nz).all one=cs.all one:=by
 induction cs with
 | nil=>rfl
 | cons c cs ih=>simp only[map_cons,all_cons,PK,ih]
theorem VR.xd {F:Nat->Prop}{c:CV}{v:Value}(h:VR w F σ c v):VR w F σ (xd c) v:=by
 cases c<;>try exact h
 ·simp only[VR] at h;obtain⟨vs,h1,h2,h3⟩:=h;simp only[Can.xd,VR];exact⟨vs,h1,a6.nz h2,by rw[yc];exact h3⟩
 ·exact VR.nz h
def Iq (ts:List Nat):List (Nat×CV)->List (Nat×CV)
 | []=>[]
 | (k,c)::r=>(k,if ts.contains k then xd c else c)::Iq ts r
def Cs (os:List Nat):List (Nat×Ob)->List (Nat×Ob)
 | []=>[]
 | (k,ob)::r=>(k,if os.contains k then ⟨ob.elem,ob.sz,ob.cells.map nz⟩ else ob)::Cs os r
theorem zh (ts:List Nat):∀ (e:List (Nat×CV)) (t:Nat) (c:CV),assoc (Iq ts e) t=some c->∃ d,assoc e t=some d/\(c=d\/c=xd d)
 | [],t,c,h=>by simp[Iq,assoc] at h
 | (k,d)::r,t,c,h=>by
  simp only[Iq,assoc] at h |-;split at h
  ·rename_i e;rw[if_pos e];cases h;refine⟨d,rfl,?_⟩;split
   ·exact .inr rfl
   ·exact .inl rfl
  ·rename_i e;rw[if_neg e];exact zh ts r t c h
theorem eR (os:List Nat):∀ (H:List (Nat×Ob)) (o:Nat),assoc (Cs os H) o=(assoc H o).map λ ob=>if os.contains o then ⟨ob.elem,ob.sz,ob.cells.map nz⟩ else ob
 | [],o=>by simp[Cs,assoc]
 | (k,x)::r,o=>by
  simp only[Cs,assoc];split
  ·rename_i e;subst e;rfl
  ·exact eR os r o
theorem Le.nz (ts os:List Nat):Le C s ⟨Iq ts s.env,Cs os s.heap,s.nx⟩:=by
 intro a w ⟨σ,h⟩;have W5:∀ b,FB C σ (Cs os s.heap) b↔FB C σ s.heap b:=λ b=>by
  unfold FB;constructor
  ·rintro (h | ⟨o,ob,ho,hb⟩)
   ·exact .inl h
   ·rw[eR] at ho;obtain⟨x,hx,_⟩:=Option.map_eq_some_iff.1 ho;exact .inr ⟨o,x,hx,hb⟩
  ·rintro (h | ⟨o,ob,ho,hb⟩)
   ·exact .inl h
   ·exact .inr ⟨o,_,by rw[eR,ho];rfl,hb⟩
 have hK:cO w w (FB C σ s.heap) (FB C σ (Cs os s.heap)):=cO.same λ b hx=>(W5 b).1 hx;refine⟨σ,h.pQ,h.tm,h.os,h.tape,h.output,h.size,h.frame,?_,?_,?_,h.nx,h.gA,h.low,h.new⟩
 ·intro t c hc;obtain⟨d,hd,YX⟩:=zh ts s.env t c hc;obtain⟨v,k1,k2⟩:=h.env t d hd;refine⟨v,k1,VR.bG hK _ _ (λ _ _=>rfl) ?_⟩;rcases YX with rfl | rfl
  ·exact k2
  ·exact VR.xd k2
 ·intro o ob ho;simp only[eR] at ho;obtain⟨x,hx,hxo⟩:=Option.map_eq_some_iff.1 ho;obtain⟨B,m1,m2,m3,m4,m5⟩:=h.obj o x hx;split at hxo
  ·subst hxo;refine⟨B,m1,m2,λ hb=>by simp[m3 hb],by simp only[yc];exact m4,λ b hb=>?_⟩;obtain⟨cur,n1,n2,n3,n4,n5,n6⟩:=m5 b hb;refine⟨cur,n1,n2,n3,n4,by simpa using n5,?_⟩;simp only[length_map];exact a6.bG hK _ _ (λ _ _=>rfl) (a6.nz n6)
  ·subst hxo;refine⟨B,m1,m2,m3,m4,λ b hb=>?_⟩;obtain⟨cur,n1,n2,n3,n4,n5,n6⟩:=m5 b hb;exact⟨cur,n1,n2,n3,n4,n5,a6.bG hK _ _ (λ _ _=>rfl) n6⟩
 ·intro o o' ob R9 b ho Sr hx TM;simp only[eR] at ho Sr;obtain⟨x,h1,_⟩:=Option.map_eq_some_iff.1 ho;obtain⟨y,h2,_⟩:=Option.map_eq_some_iff.1 Sr;exact h.inj o o' x y b h1 h2 hx TM
@[simp] theorem nz_int (k:IntKind)(n:Int):nz (.int k n)=(.int k n):=rfl
@[simp] theorem nzA_int (k:IntKind)(n:Int):xd (.int k n)=(.int k n):=rfl
@[simp] theorem nz_bool (b:Bool):nz (.bool b)=(.bool b):=rfl
@[simp] theorem nzA_bool (b:Bool):xd (.bool b)=(.bool b):=rfl
@[simp] theorem nz_str (s:ByteArray):nz (.str s)=(.str s):=rfl
@[simp] theorem nzA_str (s:ByteArray):xd (.str s)=(.str s):=rfl
@[simp] theorem nz_agg (cs:List CV):nz (.agg cs)=(.agg cs):=rfl
@[simp] theorem nzA_agg (cs:List CV):xd (.agg cs)=.agg (cs.map nz):=rfl
@[simp] theorem nz_tsl (cs:List CV)(n:Nat):nz (.ax cs n)=(.ax cs n):=rfl
@[simp] theorem nzA_tsl (cs:List CV)(n:Nat):xd (.ax cs n)=(.ax cs n):=rfl
@[simp] theorem nz_nilsl:nz .aj=.ax [] 0:=rfl
@[simp] theorem Re:xd .aj=.ax [] 0:=rfl
@[simp] theorem nz_tptr (cs:List CV):nz (.cQ cs)=(.cQ cs):=rfl
@[simp] theorem nzA_tptr (cs:List CV):xd (.cQ cs)=(.cQ cs):=rfl
@[simp] theorem Rd:nz .bJ=.bJ:=rfl
@[simp] theorem PT:xd .bJ=.bJ:=rfl
@[simp] theorem nz_fn (f:FuncId)(cs:List CV):nz (.fn f cs)=(.fn f cs):=rfl
@[simp] theorem nzA_fn (f:FuncId)(cs:List CV):xd (.fn f cs)=(.fn f cs):=rfl
@[simp] theorem nz_nilfn:nz .cE=.cE:=rfl
@[simp] theorem Rg:xd .cE=.cE:=rfl
@[simp] theorem nz_iface (t:TypeId)(cs:List CV):nz (.iface t cs)=(.iface t cs):=rfl
@[simp] theorem Rh (t:TypeId)(cs:List CV):xd (.iface t cs)=(.iface t cs):=rfl
@[simp] theorem nz_tup (cs:List CV):nz (.cB cs)=(.cB cs):=rfl
@[simp] theorem nzA_tup (cs:List CV):xd (.cB cs)=(.cB cs):=rfl
@[simp] theorem nz_osl (p f n:Nat):nz (.bb p f n)=(.bb p f n):=rfl
@[simp] theorem nzA_osl (p f n:Nat):xd (.bb p f n)=(.bb p f n):=rfl
@[simp] theorem nz_optr (p f:Nat):nz (.aw p f)=(.aw p f):=rfl
@[simp] theorem nzA_optr (p f:Nat):xd (.aw p f)=(.aw p f):=rfl
@[simp] theorem nz_any:nz .any=.any:=rfl
@[simp] theorem nzA_any:xd .any=.any:=rfl
attribute [simp] Iq Cs eZ ep dh nu
end
end Go.Can
