/- Contracts at numbers of th -/
import Derived.Test.YtlkmbdfhdknlgaaGreatV12
namespace Go.Can
open Go.RowKit List
section
variable {P:Program}{C:Cx}{σ:Nat->Option OB}{s:St}{a:Act}{w:World}{ops:Array Oper}{av:List (Nat×TI)}
theorem Ir (e:List (Nat×CV))(H:List (Nat×Ob))(n m:Nat)(r:ResultVar):pG av ⟨e,H,n⟩ r=pG av ⟨e,H,m⟩ r:=by
 have h:∀ c,gS ⟨e,H,n⟩ c=gS ⟨e,H,m⟩ c:=λ c=>sY (s:=⟨e,H,n⟩) (s':=⟨e,H,m⟩) rfl c
 cases r with
 | tmp t=>rfl
 | cell x t=>simp only[pG,h]
theorem BA (e:List (Nat×CV))(H:List (Nat×Ob))(n m:Nat):∀ rs:List ResultVar,kX av ⟨e,H,n⟩ rs=kX av ⟨e,H,m⟩ rs
 | []=>rfl
 | r::rs=>by
  simp only[kX];rw[Ir e H n m r,BA e H n m rs]
theorem By (fn:Func)(e:List (Nat×CV))(H:List (Nat×Ob))(n m:Nat):bQ av fn ⟨e,H,n⟩=bQ av fn ⟨e,H,m⟩:=by
 simp only[bQ];rw[BA e H n m]
def below (σ:Nat->Option OB)(n:Nat)(σ':Nat->Option OB):Nat->Option OB:=λ o=>if o<n then σ o else σ' o
theorem gE {σ σ':Nat->Option OB}{n o:Nat}(h:o<n):below σ n σ' o=σ o:=if_pos h
theorem kA {σ σ':Nat->Option OB}{n o:Nat}(h:n<=o):below σ n σ' o=σ' o:=if_neg yA
theorem aO.K2 {C C':Cx}{σ σ':Nat->Option OB}{e:List (Nat×CV)}{H:List (Nat×Ob)}{n n':Nat}(h:aO C σ ⟨e,H,n⟩ a w)
  (h1:C'.w0=C.w0) (h2:C'.F=C.F) (h3:C'.own=C.own) (h4:C'.nt=C.nt)
  (he:∀ t c o,assoc e t=some c->aP o c=false->σ' o=σ o) (hH:∀ p ob o,assoc H p=some ob->dY o ob.cells=false->σ' o=σ o) (hk:∀ p ob,assoc H p=some ob->σ' p=σ p)
  (QP:∀ o,n'<=o->σ' o=none) (hold:∀ o,o<C'.n0->σ' o=C'.σ0 o) (SX:C'.n0<=n') (PW:∀ o B b,C'.n0<=o->σ' o=some B->B.j7=some b->C'.own b\/C'.w0.heap.size<=b) :
  aO C' σ' ⟨e,H,n'⟩ a w:=by
 have hb:∀ p ob,assoc H p=some ob->a9 σ' p=a9 σ p:=λ p ob hp=>by unfold a9;rw[hk p ob hp]
 have Ur:∀ b,FB C' σ' H b↔FB C σ H b:=λ b=>by
  unfold FB;rw[h2];constructor
  ·rintro (h | ⟨o,ob,ho,hx⟩)
   ·exact .inl h
   ·exact .inr ⟨o,ob,ho,by rw[<- hb o ob ho];exact hx⟩
  ·rintro (h | ⟨o,ob,ho,hx⟩)
   ·exact .inl h
   ·exact .inr ⟨o,ob,ho,by rw[hb o ob ho];exact hx⟩
 have hK:cY w w (FB C σ H) (FB C' σ' H):=cY.same λ b hx=>(Ur b).1 hx;refine⟨h.oz,by rw[h4];exact h.tm,by rw[h1];exact h.os,by rw[h1];exact h.tape,by rw[h1];exact h.output,by rw[h1];exact h.size,by rw[h1,h3];exact h.frame,?_,?_,?_,QP,hold,SX,PW⟩
 ·intro t c hc;obtain⟨v,k1,k2⟩:=h.env t c hc;exact⟨v,k1,VR.bL hK _ _ (λ o ho=>he t c o hc ho) k2⟩
 ·intro o ob ho;obtain⟨B,m1,m2,m3,m4,m5⟩:=h.obj o ob ho;refine⟨B,by rw[hk o ob ho];exact m1,m2,m3,m4,λ b hbk=>?_⟩;obtain⟨cur,n1,n2,n3,n4,n5,n6⟩:=m5 b hbk;refine⟨cur,n1,n2,by rw[h2];exact n3,by rw[h1,h3];exact n4,n5,?_⟩;exact a7.bL hK _ _ (λ p hp=>hH o ob p ho hp) n6
 ·intro o o' ob Pe b ho Pt hx QD;rw[hb o ob ho] at hx;rw[hb o' Pe Pt] at QD;exact h.inj o o' ob Pe b ho Pt hx QD
def dq (n:Nat):List (Nat×Ob)->Bool
 | []=>true
 | (k,ob)::r=>decide (k<n) && aX n ob.cells && dq n r
theorem jd {n:Nat}:∀ {H:List (Nat×Ob)},dq n H=true->∀ p ob,assoc H p=some ob->p<n/\aX n ob.cells=true
 | [],_,p,ob,h=>by simp[assoc] at h
 | (k,x)::r,h,p,ob,hp=>by
  simp only[dq,Bool.and_eq_true,decide_eq_true_eq] at h;simp only[assoc] at hp;split at hp
  ·rename_i e;cases hp;subst e;exact h.1
  ·exact jd h.2 p ob hp
theorem Body.lift {f:FuncId}{args:List CV}{H:List (Nat×Ob)}{n n':Nat}{R:CV->St->Prop}(h:Body P av f args H n R)(hn:n<=n')(ha:aX n args=true)(hH:dq n H=true)(hR:∀ r s,R r s->s.nx=n) :
  Body P av f args H n' λ r s=>∃ s1,R r s1/\s=⟨s1.env,s1.heap,n'⟩:=by
 obtain⟨fn,c,hf,hb,P5,hl,hT⟩:=h;refine⟨fn,c,hf,hb,P5,hl,λ C' hC OR a w ⟨σ,hr⟩=>?_⟩;have OX:∀ (t:Nat) c o,assoc (enter args).env t=some c->aP o c=false->o<n:=λ t c o hc ho=>by
  obtain⟨_,h2⟩:=gj args 0 t c hc;have hm:c∈args:=mem_of_getElem? h2;rw[aE,all_eq_true] at ha;exact lX n c o (ha c hm) ho
 have h0:aO ⟨C'.w0,C'.F,C'.own,C'.hF,C'.nt,below σ n (λ _=>none),n⟩ (below σ n (λ _=>none)) ⟨(enter args).env,H,n⟩ a w:=
  hr.K2 rfl rfl rfl rfl (λ t c o hc ho=>gE (OX t c o hc ho)) (λ p ob o hp ho=>gE (fo n _ o (jd hH p ob hp).2 ho)) (λ p ob hp=>gE (jd hH p ob hp).1)
   (λ o ho=>kA ho) (λ _ _=>rfl) (Nat.le_refl _) (λ o B b ho hB _=>by rw[kA ho] at hB;cases hB)
 refine wp_mono (hT ⟨C'.w0,C'.F,C'.own,C'.hF,C'.nt,below σ n (λ _=>none),n⟩ hC rfl a w ⟨_,h0⟩) λ e a' w' ⟨s1,q,σ1,Qg⟩=>?_;have fin:aa ⟨C'.w0,C'.F,C'.own,C'.hF,C'.nt,below σ n (λ _=>none),n⟩ (λ s'=>∃ r,bQ av fn s'=some r/\R r s') s1 ->
   ∃ s',aa C' (λ s'=>∃ r,bQ av fn s'=some r/\∃ s1,R r s1/\s'=⟨s1.env,s1.heap,n'⟩) s'/\Rel C' s' a' w':=λ⟨s2,⟨r,q1,q2⟩,hle⟩=>by
  obtain⟨σ2,PL⟩:=hle _ _ ⟨σ1,Qg⟩;have SU:=hR r s2 q2;obtain⟨e2,H2,n2⟩:=s2;simp only at SU;subst SU;have OT:∀ o B,σ2 o=some B->o<n2:=λ o B hB=>Nat.lt_of_not_le λ hle=>by rw[PL.nx o hle] at hB;cases hB
  refine⟨⟨e2,H2,n'⟩,aa.here ⟨r,(By fn e2 H2 n' n2).trans q1,_,q2,rfl⟩,below σ2 n2 σ,?_⟩;refine PL.K2 rfl rfl rfl rfl (λ t c o hc ho=>?_) (λ p ob o hp ho=>?_) (λ p ob hp=>?_) (λ o ho=>?_) (λ o ho=>?_) (by rw[OR];exact Nat.le_refl _) (λ o B b ho hB _=>?_)
  ·obtain⟨v,_,k2⟩:=PL.env t c hc;obtain⟨B,hB⟩:=VR.refs _ _ o k2 ho;exact gE (OT o B hB)
  ·obtain⟨B,m1,_,m3,_,m5⟩:=PL.obj p ob hp
   cases hbk:B.j7 with
   | none=>
    rw[m3 hbk] at ho;simp[dY] at ho
   | some b=>
    obtain⟨cur,_,_,_,_,_,n6⟩:=m5 b hbk;obtain⟨B',Rm⟩:=a7.refs _ _ o n6 ho;exact gE (OT o B' Rm)
  ·obtain⟨B,m1,_⟩:=PL.obj p ob hp;exact gE (OT p B m1)
  ·rw[kA (Nat.le_trans hn ho)];exact hr.nx o ho
  ·rcases Nat.lt_or_ge o n2 with h1 | h1
   ·rw[gE h1,PL.fX o h1];show below σ n2 (λ _=>none) o=_;rw[gE h1];exact hr.fX o ho
   ·rw[kA h1];exact hr.fX o ho
  ·rw[OR] at ho;rw[kA (Nat.le_trans hn ho),hr.nx o ho] at hB;cases hB
 cases e with
 | normal=>exact fin q
 | ret=>exact fin q
 | exit _=>exact q.elim
 | goto _=>exact q.elim
 | panic _=>exact q.elim
 | outgrown=>exact q.elim
def eK (G:List (Nat×Ob)):List Nat->Option (List (Nat×Ob))
 | []=>some []
 | k::ks=>match assoc G k,eK G ks with
  | some ob,some H=>some ((k,ob)::H)
  | _,_=>none
def ec (G:List (Nat×Ob)):List Nat->List (Nat×Ob)
 | []=>G
 | k::ks=>ec (jU G k) ks
theorem j5 {G:List (Nat×Ob)}:∀ {ks:List Nat} {H:List (Nat×Ob)},eK G ks=some H->(∀ o ob,assoc H o=some ob->o∈ks/\assoc G o=some ob)/\∀ o ob,o∈ks->assoc G o=some ob->assoc H o=some ob
 | [],H,h=>by
  simp only[eK,Option.some.injEq] at h;subst h;exact⟨λ o ob ho=>by simp[assoc] at ho,λ o ob ho=>by simp at ho⟩
 | k::ks,H,h=>by
  simp only[eK] at h;split at h
  ·rename_i ob H' h1 h2;cases h;obtain⟨i1,i2⟩:=j5 h2;refine⟨λ o x ho=>?_,λ o x ho hx=>?_⟩
   ·simp only[assoc] at ho;split at ho
    ·rename_i e;cases ho;subst e;exact⟨mem_cons_self,h1⟩
    ·exact⟨mem_cons_of_mem _ (i1 o x ho).1,(i1 o x ho).2⟩
   ·simp only[assoc];split
    ·rename_i e;subst e;rw[h1] at hx;exact hx
    ·rename_i e;rcases mem_cons.1 ho with h3 | h3
     ·exact (e h3.symm).elim
     ·exact i2 o x h3 hx
  ·cases h
theorem fk {G:List (Nat×Ob)}:∀ (ks:List Nat) (o:Nat),assoc (ec G ks) o=if o∈ks then none else assoc G o:=by
 intro ks
 induction ks generalizing G with
 | nil=>intro o;simp[ec]
 | cons k ks ih=>
  intro o;rw[ec,ih,fv];by_cases h1:o∈ks
  ·simp[h1]
  ·by_cases h2:o=k
   ·simp[h2]
   ·have:¬ k=o:=λ h=>h2 h.symm;simp[h1,h2,this]
theorem oE.of {G H:List (Nat×Ob)}{ks:List Nat}(h:eK G ks=some H):oE H (ec G ks) G:=by
 obtain⟨h1,h2⟩:=j5 h;refine⟨λ o ob ho=>(h1 o ob ho).2,λ o ob ho=>?_,λ o ob ho=>?_,λ o ob Pe ho Pt=>?_⟩
 ·rw[fk] at ho;split at ho
  ·cases ho
  ·exact ho
 ·by_cases hm:o∈ks
  ·exact .inl (h2 o ob hm ho)
  ·exact .inr (by rw[fk,if_neg hm];exact ho)
 ·rw[fk,if_pos (h1 o ob ho).1] at Pt;cases Pt
def mD (ks:List Nat)(H:List (Nat×Ob)):Bool:=H.all λ x=>ks.contains x.1
theorem sf {ks:List Nat}{H:List (Nat×Ob)}(h:mD ks H=true)(o:Nat)(ob:Ob)(ho:assoc H o=some ob):o∈ks:=by
 have:=bF _ _ _ ho;simp only[mD,all_eq_true] at h
 simpa using h _ this
theorem TL.IA (RQ:aD P av){o:Oper}{l:List Oper}{c:Call}{g:FuncId}{cs:List CV}{K:St->Prop}{R:CV->St->Prop}(ks:List Nat){H:List (Nat×Ob)}(n:Nat)(hd:bl C.nt o.dst=true)(hg:bW ops s o=Option.some true)(ho:o.op=.call c)(Pc:bJ s c=Option.some (g,cs))
  (hp:eK s.heap ks=Option.some H) (hn:n<=s.nx) (ha:aX n cs=true) (hH:dq n H=true) (hb:Body P av g cs H n R) (hR:∀ r s1,R r s1->s1.nx=n/\mD ks s1.heap=true)
  (hK:∀ r s1,R r s1->TL P C ops l (St.put ⟨s.env,s1.heap++ec s.heap ks,s.nx⟩ o.dst r) K):TL P C ops (o::l) s K:=by
 intro a w Q hr hQ;have hw:=eH hr hg;obtain⟨σ,hr⟩:=hr;unfold wpList;rw[if_pos hw];refine .inl ?_;have ZE:kC P g:=by
  obtain⟨fn,code,hf,Qw,P5,_⟩:=hb;exact⟨fn,hf,P5,by simp[Qw]⟩
 refine q9 RQ (oE.of hp) (yn.value ho Pc ZE) (hb.lift hn ha hH λ r s h=>(hR r s h).1) ?_ hr _ _ ?_
 ·rintro r s1 ⟨s2,h1,rfl⟩ p ob Pe h2 h3;have hm:=sf (hR r s2 h1).2 p ob h2;rw[fk,if_pos hm] at h3;cases h3
 ·rintro r s1 v w' σ' ⟨s2,h1,rfl⟩ Pu hv _;refine hK r s2 h1 _ w' Q ⟨σ',Pu.put ?_ hv⟩ hQ;intro t e;rw[Pu.tm];rw[e] at hd
  simpa [bl] using hd
def ny (P:Program)(f:FuncId)(args:List CV)(G:CV->Prop):Prop:=
 kC P f/\∀ (F:Nat->Prop) (vs:List Value) (w:World),FOk w F->ca w F args vs ->
  Calls P f vs.toArray w λ e w'=>∃ r v,G r/\e=.returned v/\Below w.heap.size w w'/\cr w' F r v
theorem af.toP {f:FuncId}{args:List CV}{r:CV}{G:CV->Prop}(h:af P f args r)(hG:G r):ny P f args G:=
 ⟨h.1,λ F vs w hF hv=>(h.2 F vs w hF hv).mono λ _ _ ⟨v,h1,h2,h3⟩=>⟨r,v,hG,h1,h2,h3⟩⟩
theorem ny.mono {f:FuncId}{args:List CV}{G G':CV->Prop}(h:ny P f args G)(hG:∀ r,G r->G' r):ny P f args G':=
 ⟨h.1,λ F vs w hF hv=>(h.2 F vs w hF hv).mono λ _ _ ⟨r,v,h0,h1,h2,h3⟩=>⟨r,v,hG r h0,h1,h2,h3⟩⟩
theorem Ai {o:Oper}{g:FuncId}{cs:List CV}{G:CV->Prop}(he:yn P C s o g cs)(ht:trees cs=true)(hp:ny P g cs G)(h:aO C σ s a w)(K:Act->World->Prop)(Q:Exit->Act->World->Prop)
  (hK:∀ r v w',G r->aO C σ s a w'->VR w' (FB C σ s.heap) σ r v->K (a.put o.dst v) w'):o.wp P a w K Q:=by
 obtain⟨vs,I7,hv⟩:=he σ a w h;unfold Oper.wp;rw[I7];refine (hp.2 (FB C σ s.heap) vs w (Dm h) (a7.eI _ _ ht hv)).mono λ e w' ⟨r,v,h0,h1,h2,h3⟩=>?_;subst h1;exact hK r v w' h0 (h.below h2) (VR.cS _ _ h3)
theorem TL.Iz {o:Oper}{l:List Oper}{c:Call}{g:FuncId}{cs:List CV}{K:St->Prop}{G:CV->Prop}(hd:bl C.nt o.dst=true)(hg:bW ops s o=Option.some true)(ho:o.op=.call c)(Pc:bJ s c=Option.some (g,cs))(ht:trees cs=true)(hp:ny P g cs G)
  (hK:∀ r,G r->TL P C ops l (s.put o.dst r) K):TL P C ops (o::l) s K:=by
 intro a w Q hr hQ;have hw:=eH hr hg;obtain⟨σ,hr⟩:=hr;unfold wpList;rw[if_pos hw];refine .inl (Ai (yn.value ho Pc hp.1) ht hp hr _ _ λ r v w' h0 Pu hv=>hK r h0 _ w' Q ⟨σ,Pu.put ?_ hv⟩ hQ);intro t e;rw[Pu.tm];rw[e] at hd
 simpa [bl] using hd
def doneG (C:Cx)(av:List (Nat×TI))(f:Func)(G:CV->Prop):Exit->St->Prop
 | .normal,s=>aa C (λ s'=>∃ r,bQ av f s'=some r/\tree r=true/\G r) s
 | .ret,s=>aa C (λ s'=>∃ r,bQ av f s'=some r/\tree r=true/\G r) s
 | _,_=>False
theorem ny.jb (RQ : aD P av) {f : FuncId} {fn : Func} {c : Code} {args : List CV} {G : CV -> Prop} (hf : P.funcs[f]? = some fn) (hb : fn.body = some c) (hn : (fn.name == "runtime.NumGoroutine") = false)
  (ha:args.length<=fn.ntmps) (h:∀ C:Cx,C.nt=fn.ntmps->C.n0=0->T P C c (enter args) (doneG C av fn G)):ny P f args G:=by
 refine⟨⟨fn,hf,hn,by simp[hb]⟩,λ F vs w hF hv=>?_⟩;have hl:=ca.length _ _ hv;have h0:aO ⟨w,F,λ _=>False,hF,fn.ntmps,λ _=>none,0⟩ (λ _=>none) (enter args) { tmps:=vs.toArray++Array.replicate (fn.ntmps-vs.toArray.size) undef,defers:=[] } w:=by
  refine⟨rfl,by simp;omega,rfl,rfl,rfl,Nat.le_refl _,λ _ _ _=>rfl,?_,?_,?_,λ _ _=>rfl,λ _ h=>absurd h (Nat.not_lt_zero _),Nat.zero_le _,λ _ _ _ _ h=>by cases h⟩
  ·intro t c hc;obtain⟨_,h2⟩:=gj args 0 t c hc;obtain⟨v,h3,h4⟩:=ca.get _ _ hv t c yC;refine⟨v,?_,VR.cS _ _ (cr.bL (cY.same λ b hb=>?_).1 c v h4)⟩
   ·have OT:=(List.getElem?_eq_some_iff.1 h3).1;simp only;rw[Array.getElem?_append_left (by simpa using OT)]
    simpa using h3
   ·rcases hb with hF | ⟨o,ob,ho,_⟩
    ·exact hF
    ·simp[enter,assoc] at ho
  ·intro o ob ho;simp[enter,assoc] at ho
  ·intro o o' ob Pe b ho;simp[enter,assoc] at ho
 refine calls_of_wp hf hb (wp_mono (h _ rfl rfl _ _ ⟨_,h0⟩) λ e a' w' ⟨s1,q,σ,Qg⟩=>?_);have fin:aa ⟨w,F,λ _=>False,hF,fn.ntmps,λ _=>none,0⟩ (λ s'=>∃ r,bQ av fn s'=some r/\tree r=true/\G r) s1->a'.defers=[]/\∃ v,(results fn a'.tmps).run P w'=.ok v w'/\(∃ r TA,G r/\Ending.returned v=.returned TA/\Below w.heap.size w w'/\cr w' F r TA):=λ⟨s',⟨r,hq,ht,hG⟩,hle⟩=>by
  obtain⟨σ',hr⟩:=hle _ _ ⟨σ,Qg⟩;obtain⟨v,k1,k2⟩:=jv (P:=P) RQ hr hq;refine⟨hr.oz,v,k1,r,v,hG,rfl,⟨hr.os,hr.tape,hr.output,hr.size,λ k hk=>hr.frame k hk (λ hx=>hx)⟩,?_⟩;exact cr.bL (cY.same λ _ hF=>.inl hF).1 _ _ (VR.eI _ _ ht k2)
 cases e with
 | normal=>exact fin q
 | ret=>exact fin q
 | exit _=>exact q.elim
 | goto _=>exact q.elim
 | panic _=>exact q.elim
 | outgrown=>exact q.elim
def nz:CV->CV
 | .ak=>.au [] 0
 | c=>c
def vr:CV->CV
 | .ak=>.au [] 0
 | .agg cs=>.agg (cs.map nz)
 | c=>c
theorem VR.nz {F:Nat->Prop}{c:CV}{v:Value}(h:VR w F σ c v):VR w F σ (nz c) v:=by
 cases c<;>try exact h
 simp only[VR] at h;subst h;simp only[Can.nz,VR,cr];exact⟨none,0,rfl,Nat.le_refl _,Nat.zero_le _,.inl ⟨trivial,trivial⟩⟩
theorem a7.nz {F:Nat->Prop}:∀ {cs:List CV} {vs:List Value},a7 w F σ cs vs->a7 w F σ (cs.map Can.nz) vs
 | [],_,h=>h
 | _c::_cs,_,⟨v,r,e,h1,h2⟩=>⟨v,r,e,VR.nz h1,a7.nz h2⟩
theorem MB (c:CV):one (nz c)=one c:=by cases c<;>rfl
theorem wA (cs:List CV):(cs.map nz).all one=cs.all one:=by
 induction cs with
 | nil=>rfl
 | cons c cs ih=>simp only[map_cons,all_cons,MB,ih]
theorem VR.vr {F:Nat->Prop}{c:CV}{v:Value}(h:VR w F σ c v):VR w F σ (vr c) v:=by
 cases c<;>try exact h
 ·simp only[VR] at h;obtain⟨vs,h1,h2,h3⟩:=h;simp only[Can.vr,VR];exact⟨vs,h1,a7.nz h2,by rw[wA];exact h3⟩
 ·exact VR.nz h
def F7 (ts:List Nat):List (Nat×CV)->List (Nat×CV)
 | []=>[]
 | (k,c)::r=>(k,if ts.contains k then vr c else c)::F7 ts r
def AB (os:List Nat):List (Nat×Ob)->List (Nat×Ob)
 | []=>[]
 | (k,ob)::r=>(k,if os.contains k then ⟨ob.elem,ob.sz,ob.cells.map nz⟩ else ob)::AB os r
theorem xJ (ts:List Nat):∀ (e:List (Nat×CV)) (t:Nat) (c:CV),assoc (F7 ts e) t=some c->∃ d,assoc e t=some d/\(c=d\/c=vr d)
 | [],t,c,h=>by simp[F7,assoc] at h
 | (k,d)::r,t,c,h=>by
  simp only[F7,assoc] at h |-;split at h
  ·rename_i e;rw[if_pos e];cases h;refine⟨d,rfl,?_⟩;split
   ·exact .inr rfl
   ·exact .inl rfl
  ·rename_i e;rw[if_neg e];exact xJ ts r t c h
theorem eF (os:List Nat):∀ (H:List (Nat×Ob)) (o:Nat),assoc (AB os H) o=(assoc H o).map λ ob=>if os.contains o then ⟨ob.elem,ob.sz,ob.cells.map nz⟩ else ob
 | [],o=>by simp[AB,assoc]
 | (k,x)::r,o=>by
  simp only[AB,assoc];split
  ·rename_i e;subst e;rfl
  ·exact eF os r o
theorem Le.nz (ts os:List Nat):Le C s ⟨F7 ts s.env,AB os s.heap,s.nx⟩:=by
 intro a w ⟨σ,h⟩;have Ua:∀ b,FB C σ (AB os s.heap) b↔FB C σ s.heap b:=λ b=>by
  unfold FB;constructor
  ·rintro (h | ⟨o,ob,ho,hb⟩)
   ·exact .inl h
   ·rw[eF] at ho;obtain⟨x,hx,_⟩:=Option.map_eq_some_iff.1 ho;exact .inr ⟨o,x,hx,hb⟩
  ·rintro (h | ⟨o,ob,ho,hb⟩)
   ·exact .inl h
   ·exact .inr ⟨o,_,by rw[eF,ho];rfl,hb⟩
 have hK:cY w w (FB C σ s.heap) (FB C σ (AB os s.heap)):=cY.same λ b hx=>(Ua b).1 hx;refine⟨σ,h.oz,h.tm,h.os,h.tape,h.output,h.size,h.frame,?_,?_,?_,h.nx,h.fX,h.low,h.new⟩
 ·intro t c hc;obtain⟨d,hd,V7⟩:=xJ ts s.env t c hc;obtain⟨v,k1,k2⟩:=h.env t d hd;refine⟨v,k1,VR.bL hK _ _ (λ _ _=>rfl) ?_⟩;rcases V7 with rfl | rfl
  ·exact k2
  ·exact VR.vr k2
 ·intro o ob ho;simp only[eF] at ho;obtain⟨x,hx,hxo⟩:=Option.map_eq_some_iff.1 ho;obtain⟨B,m1,m2,m3,m4,m5⟩:=h.obj o x hx;split at hxo
  ·subst hxo;refine⟨B,m1,m2,λ hb=>by simp[m3 hb],by simp only[wA];exact m4,λ b hb=>?_⟩;obtain⟨cur,n1,n2,n3,n4,n5,n6⟩:=m5 b hb;refine⟨cur,n1,n2,n3,n4,by simpa using n5,?_⟩;simp only[length_map];exact a7.bL hK _ _ (λ _ _=>rfl) (a7.nz n6)
  ·subst hxo;refine⟨B,m1,m2,m3,m4,λ b hb=>?_⟩;obtain⟨cur,n1,n2,n3,n4,n5,n6⟩:=m5 b hb;exact⟨cur,n1,n2,n3,n4,n5,a7.bL hK _ _ (λ _ _=>rfl) n6⟩
 ·intro o o' ob Pe b ho Pt hx QD;simp only[eF] at ho Pt;obtain⟨x,h1,_⟩:=Option.map_eq_some_iff.1 ho;obtain⟨y,h2,_⟩:=Option.map_eq_some_iff.1 Pt;exact h.inj o o' x y b h1 h2 hx QD
@[simp] theorem nz_int (k:IntKind)(n:Int):nz (.int k n)=(.int k n):=rfl
@[simp] theorem nzA_int (k:IntKind)(n:Int):vr (.int k n)=(.int k n):=rfl
@[simp] theorem nz_bool (b:Bool):nz (.bool b)=(.bool b):=rfl
@[simp] theorem nzA_bool (b:Bool):vr (.bool b)=(.bool b):=rfl
@[simp] theorem nz_str (s:ByteArray):nz (.str s)=(.str s):=rfl
@[simp] theorem nzA_str (s:ByteArray):vr (.str s)=(.str s):=rfl
@[simp] theorem nz_agg (cs:List CV):nz (.agg cs)=(.agg cs):=rfl
@[simp] theorem nzA_agg (cs:List CV):vr (.agg cs)=.agg (cs.map nz):=rfl
@[simp] theorem nz_tsl (cs:List CV)(n:Nat):nz (.au cs n)=(.au cs n):=rfl
@[simp] theorem nzA_tsl (cs:List CV)(n:Nat):vr (.au cs n)=(.au cs n):=rfl
@[simp] theorem nz_nilsl:nz .ak=.au [] 0:=rfl
@[simp] theorem Od:vr .ak=.au [] 0:=rfl
@[simp] theorem nz_tptr (cs:List CV):nz (.de cs)=(.de cs):=rfl
@[simp] theorem nzA_tptr (cs:List CV):vr (.de cs)=(.de cs):=rfl
@[simp] theorem Oc:nz .bM=.bM:=rfl
@[simp] theorem MJ:vr .bM=.bM:=rfl
@[simp] theorem nz_fn (f:FuncId)(cs:List CV):nz (.fn f cs)=(.fn f cs):=rfl
@[simp] theorem nzA_fn (f:FuncId)(cs:List CV):vr (.fn f cs)=(.fn f cs):=rfl
@[simp] theorem nz_nilfn:nz .cH=.cH:=rfl
@[simp] theorem Oe:vr .cH=.cH:=rfl
@[simp] theorem nz_iface (t:TypeId)(cs:List CV):nz (.iface t cs)=(.iface t cs):=rfl
@[simp] theorem Of (t:TypeId)(cs:List CV):vr (.iface t cs)=(.iface t cs):=rfl
@[simp] theorem nz_tup (cs:List CV):nz (.bY cs)=(.bY cs):=rfl
@[simp] theorem nzA_tup (cs:List CV):vr (.bY cs)=(.bY cs):=rfl
@[simp] theorem nz_osl (p f n:Nat):nz (.bg p f n)=(.bg p f n):=rfl
@[simp] theorem nzA_osl (p f n:Nat):vr (.bg p f n)=(.bg p f n):=rfl
@[simp] theorem nz_optr (p f:Nat):nz (.ax p f)=(.ax p f):=rfl
@[simp] theorem nzA_optr (p f:Nat):vr (.ax p f)=(.ax p f):=rfl
@[simp] theorem nz_any:nz .any=.any:=rfl
@[simp] theorem nzA_any:vr .any=.any:=rfl
attribute [simp] F7 AB eK ec dq mD
end
end Go.Can
