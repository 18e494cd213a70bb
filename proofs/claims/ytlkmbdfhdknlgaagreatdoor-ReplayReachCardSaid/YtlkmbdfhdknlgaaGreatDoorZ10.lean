/- Contracts at numbers of their own: a call in a part of the c -/
import Derived.Test.YtlkmbdfhdknlgaaGreatDoorZ09
namespace Go.Can
open Go.RowKit
section
variable {P:Program}{C:Cx}{σ:Nat→Option OB}{s:St}{a:Act}{w:World}{ops:Array Oper}{av:List (Nat×TI)}
theorem Ib (e:List (Nat×CV))(H:List (Nat×Ob))(n m:Nat)(r:ResultVar):pa av ⟨e,H,n⟩ r=pa av ⟨e,H,m⟩ r:=by
 have h:∀ c,gF ⟨e,H,n⟩ c=gF ⟨e,H,m⟩ c:=fun c=>sI (s:=⟨e,H,n⟩) (s':=⟨e,H,m⟩) rfl c
 cases r with
 | tmp t=>rfl
 | cell x t=>simp only[pa,h]
theorem A9 (e:List (Nat×CV))(H:List (Nat×Ob))(n m:Nat):∀ rs:List ResultVar,kE av ⟨e,H,n⟩ rs=kE av ⟨e,H,m⟩ rs
 | []=>rfl
 | r::rs=>by
  simp only[kE];rw[Ib e H n m r,A9 e H n m rs]
theorem AY (fn:Func)(e:List (Nat×CV))(H:List (Nat×Ob))(n m:Nat):bm av fn ⟨e,H,n⟩=bm av fn ⟨e,H,m⟩:=by
 simp only[bm];rw[A9 e H n m]
def below (σ:Nat→Option OB)(n:Nat)(σ':Nat→Option OB):Nat→Option OB:=fun o=>if o<n then σ o else σ' o
theorem gw {σ σ':Nat→Option OB}{n o:Nat}(h:o<n):below σ n σ' o=σ o:=if_pos h
theorem j9 {σ σ':Nat→Option OB}{n o:Nat}(h:n≤o):below σ n σ' o=σ' o:=if_neg yA
theorem aK.Kv {C C':Cx}{σ σ':Nat→Option OB}{e:List (Nat×CV)}{H:List (Nat×Ob)}{n n':Nat}(h:aK C σ ⟨e,H,n⟩ a w)
  (h1:C'.w0=C.w0) (h2:C'.F=C.F) (h3:C'.own=C.own) (h4:C'.nt=C.nt)
  (he:∀ t c o,assoc e t=some c→aJ o c=false→σ' o=σ o) (hH:∀ p ob o,assoc H p=some ob→dL o ob.cells=false→σ' o=σ o) (hk:∀ p ob,assoc H p=some ob→σ' p=σ p)
  (OV:∀ o,n'≤o→σ' o=none) (hold:∀ o,o<C'.n0→σ' o=C'.σ0 o) (R7:C'.n0≤n') (O6:∀ o B b,C'.n0≤o→σ' o=some B→B.jI=some b→C'.own b∨C'.w0.heap.size≤b) :
  aK C' σ' ⟨e,H,n'⟩ a w:=by
 have hb:∀ p ob,assoc H p=some ob→aU σ' p=aU σ p:=fun p ob hp=>by unfold aU;rw[hk p ob hp]
 have TQ:∀ b,FB C' σ' H b↔FB C σ H b:=fun b=>by
  unfold FB;rw[h2];constructor
  ·rintro (h | ⟨o,ob,ho,hx⟩)
   ·exact .inl h
   ·exact .inr ⟨o,ob,ho,by rw[← hb o ob ho];exact hx⟩
  ·rintro (h | ⟨o,ob,ho,hx⟩)
   ·exact .inl h
   ·exact .inr ⟨o,ob,ho,by rw[hb o ob ho];exact hx⟩
 have hK:cz w w (FB C σ H) (FB C' σ' H):=cz.same fun b hx=>(TQ b).1 hx;refine⟨h.oA,by rw[h4];exact h.tm,by rw[h1];exact h.os,by rw[h1];exact h.tape,by rw[h1];exact h.output,by rw[h1];exact h.size,by rw[h1,h3];exact h.frame,?_,?_,?_,OV,hold,R7,O6⟩
 ·intro t c hc;obtain⟨v,k1,k2⟩:=h.env t c hc;exact⟨v,k1,VR.bl hK _ _ (fun o ho=>he t c o hc ho) k2⟩
 ·intro o ob ho;obtain⟨B,m1,m2,m3,m4,m5⟩:=h.obj o ob ho;refine⟨B,by rw[hk o ob ho];exact m1,m2,m3,m4,fun b XN=>?_⟩;obtain⟨cur,n1,n2,n3,n4,n5,n6⟩:=m5 b XN;refine⟨cur,n1,n2,by rw[h2];exact n3,by rw[h1,h3];exact n4,n5,?_⟩;exact aT.bl hK _ _ (fun p hp=>hH o ob p ho hp) n6
 ·intro o o' ob Ov b ho OI hx O9;rw[hb o ob ho] at hx;rw[hb o' Ov OI] at O9;exact h.inj o o' ob Ov b ho OI hx O9
def dD (n:Nat):List (Nat×Ob)→Bool
 | []=>true
 | (k,ob)::r=>decide (k<n) && a6 n ob.cells && dD n r
theorem iD {n:Nat}:∀ {H:List (Nat×Ob)},dD n H=true→∀ p ob,assoc H p=some ob→p<n∧a6 n ob.cells=true
 | [],_,p,ob,h=>by simp[assoc] at h
 | (k,x)::r,h,p,ob,hp=>by
  simp only[dD,Bool.and_eq_true,decide_eq_true_eq] at h;simp only[assoc] at hp;split at hp
  ·rename_i e;cases hp;subst e;exact h.1
  ·exact iD h.2 p ob hp
theorem Body.lift {f:FuncId}{args:List CV}{H:List (Nat×Ob)}{n n':Nat}{R:CV→St→Prop}(h:Body P av f args H n R)(hn:n≤n')(ha:a6 n args=true)(hH:dD n H=true)(hR:∀ r s,R r s→s.nx=n) :
  Body P av f args H n' fun r s=>∃ s1,R r s1∧s=⟨s1.env,s1.heap,n'⟩:=by
 obtain⟨fn,c,hf,hb,Pp,hl,hT⟩:=h;refine⟨fn,c,hf,hb,Pp,hl,fun C' hC N8 a w ⟨σ,hr⟩=>?_⟩;have Of:∀ (t:Nat) c o,assoc (enter args).env t=some c→aJ o c=false→o<n:=fun t c o hc ho=>by
  obtain⟨_,h2⟩:=fS args 0 t c hc;have hm:c∈args:=List.mem_of_getElem? h2;rw[ch,List.all_eq_true] at ha;exact lG n c o (ha c hm) ho
 have h0:aK ⟨C'.w0,C'.F,C'.own,C'.hF,C'.nt,below σ n (fun _=>none),n⟩ (below σ n (fun _=>none)) ⟨(enter args).env,H,n⟩ a w:=
  hr.Kv rfl rfl rfl rfl (fun t c o hc ho=>gw (Of t c o hc ho)) (fun p ob o hp ho=>gw (eQ n _ o (iD hH p ob hp).2 ho)) (fun p ob hp=>gw (iD hH p ob hp).1)
   (fun o ho=>j9 ho) (fun _ _=>rfl) (Nat.le_refl _) (fun o B b ho hB _=>by rw[j9 ho] at hB;cases hB)
 refine wp_mono (hT ⟨C'.w0,C'.F,C'.own,C'.hF,C'.nt,below σ n (fun _=>none),n⟩ hC rfl a w ⟨_,h0⟩) fun e a' w' ⟨s1,q,σ1,OX⟩=>?_;have fin:aa ⟨C'.w0,C'.F,C'.own,C'.hF,C'.nt,below σ n (fun _=>none),n⟩ (fun s'=>∃ r,bm av fn s'=some r∧R r s') s1 →
   ∃ s',aa C' (fun s'=>∃ r,bm av fn s'=some r∧∃ s1,R r s1∧s'=⟨s1.env,s1.heap,n'⟩) s'∧Rel C' s' a' w':=fun⟨s2,⟨r,q1,q2⟩,hle⟩=>by
  obtain⟨σ2,OF⟩:=hle _ _ ⟨σ1,OX⟩;have R3:=hR r s2 q2;obtain⟨e2,H2,n2⟩:=s2;simp only at R3;subst R3;have Oa:∀ o B,σ2 o=some B→o<n2:=fun o B hB=>Nat.lt_of_not_le fun hle=>by rw[OF.nx o hle] at hB;cases hB
  refine⟨⟨e2,H2,n'⟩,aa.here ⟨r,(AY fn e2 H2 n' n2).trans q1,_,q2,rfl⟩,below σ2 n2 σ,?_⟩;refine OF.Kv rfl rfl rfl rfl (fun t c o hc ho=>?_) (fun p ob o hp ho=>?_) (fun p ob hp=>?_) (fun o ho=>?_) (fun o ho=>?_) (by rw[N8];exact Nat.le_refl _) (fun o B b ho hB _=>?_)
  ·obtain⟨v,_,k2⟩:=OF.env t c hc;obtain⟨B,hB⟩:=VR.refs _ _ o k2 ho;exact gw (Oa o B hB)
  ·obtain⟨B,m1,_,m3,_,m5⟩:=OF.obj p ob hp
   cases XN:B.jI with
   | none=>
    rw[m3 XN] at ho;simp[dL] at ho
   | some b=>
    obtain⟨cur,_,_,_,_,_,n6⟩:=m5 b XN;obtain⟨B',Qr⟩:=aT.refs _ _ o n6 ho;exact gw (Oa o B' Qr)
  ·obtain⟨B,m1,_⟩:=OF.obj p ob hp;exact gw (Oa p B m1)
  ·rw[j9 (Nat.le_trans hn ho)];exact hr.nx o ho
  ·rcases Nat.lt_or_ge o n2 with h1 | h1
   ·rw[gw h1,OF.gO o h1];show below σ n2 (fun _=>none) o=_;rw[gw h1];exact hr.gO o ho
   ·rw[j9 h1];exact hr.gO o ho
  ·rw[N8] at ho;rw[j9 (Nat.le_trans hn ho),hr.nx o ho] at hB;cases hB
 cases e with
 | normal=>exact fin q
 | ret=>exact fin q
 | exit _=>exact q.elim
 | goto _=>exact q.elim
 | panic _=>exact q.elim
 | outgrown=>exact q.elim
def fk (G:List (Nat×Ob)):List Nat→Option (List (Nat×Ob))
 | []=>some []
 | k::ks=>match assoc G k,fk G ks with
  | some ob,some H=>some ((k,ob)::H)
  | _,_=>none
def eB (G:List (Nat×Ob)):List Nat→List (Nat×Ob)
 | []=>G
 | k::ks=>eB (j5 G k) ks
theorem lH {G:List (Nat×Ob)}:∀ {ks:List Nat} {H:List (Nat×Ob)},fk G ks=some H→(∀ o ob,assoc H o=some ob→o∈ks∧assoc G o=some ob)∧∀ o ob,o∈ks→assoc G o=some ob→assoc H o=some ob
 | [],H,h=>by
  simp only[fk,Option.some.injEq] at h;subst h;exact⟨fun o ob ho=>by simp[assoc] at ho,fun o ob ho=>by simp at ho⟩
 | k::ks,H,h=>by
  simp only[fk] at h;split at h
  ·rename_i ob H' h1 h2;cases h;obtain⟨i1,i2⟩:=lH h2;refine⟨fun o x ho=>?_,fun o x ho hx=>?_⟩
   ·simp only[assoc] at ho;split at ho
    ·rename_i e;cases ho;subst e;exact⟨List.mem_cons_self,h1⟩
    ·exact⟨List.mem_cons_of_mem _ (i1 o x ho).1,(i1 o x ho).2⟩
   ·simp only[assoc];split
    ·rename_i e;subst e;rw[h1] at hx;exact hx
    ·rename_i e;rcases List.mem_cons.1 ho with h3 | h3
     ·exact (e h3.symm).elim
     ·exact i2 o x h3 hx
  ·cases h
theorem fD {G:List (Nat×Ob)}:∀ (ks:List Nat) (o:Nat),assoc (eB G ks) o=if o∈ks then none else assoc G o:=by
 intro ks
 induction ks generalizing G with
 | nil=>intro o;simp[eB]
 | cons k ks ih=>
  intro o;rw[eB,ih,eT];by_cases h1:o∈ks
  ·simp[h1]
  ·by_cases h2:o=k
   ·simp[h2]
   ·have:¬ k=o:=fun h=>h2 h.symm;simp[h1,h2,this]
theorem pe.of {G H:List (Nat×Ob)}{ks:List Nat}(h:fk G ks=some H):pe H (eB G ks) G:=by
 obtain⟨h1,h2⟩:=lH h;refine⟨fun o ob ho=>(h1 o ob ho).2,fun o ob ho=>?_,fun o ob ho=>?_,fun o ob Ov ho OI=>?_⟩
 ·rw[fD] at ho;split at ho
  ·cases ho
  ·exact ho
 ·by_cases hm:o∈ks
  ·exact .inl (h2 o ob hm ho)
  ·exact .inr (by rw[fD,if_neg hm];exact ho)
 ·rw[fD,if_pos (h1 o ob ho).1] at OI;cases OI
def me (ks:List Nat)(H:List (Nat×Ob)):Bool:=H.all fun x=>ks.contains x.1
theorem rV {ks:List Nat}{H:List (Nat×Ob)}(h:me ks H=true)(o:Nat)(ob:Ob)(ho:assoc H o=some ob):o∈ks:=by
 have:=bG _ _ _ ho;simp only[me,List.all_eq_true] at h
 simpa using h _ this
theorem TL.Ir (Q8:aF P av){o:Oper}{l:List Oper}{c:Call}{g:FuncId}{cs:List CV}{K:St→Prop}{R:CV→St→Prop}(ks:List Nat){H:List (Nat×Ob)}(n:Nat)(hd:bt C.nt o.dst=true)(hg:b9 ops s o=Option.some true)(ho:o.op=.call c)(OG:bB s c=Option.some (g,cs))
  (hp:fk s.heap ks=Option.some H) (hn:n≤s.nx) (ha:a6 n cs=true) (hH:dD n H=true) (hb:Body P av g cs H n R) (hR:∀ r s1,R r s1→s1.nx=n∧me ks s1.heap=true)
  (hK:∀ r s1,R r s1→TL P C ops l (St.put ⟨s.env,s1.heap++eB s.heap ks,s.nx⟩ o.dst r) K):TL P C ops (o::l) s K:=by
 intro a w Q hr hQ;have hw:=eO hr hg;obtain⟨σ,hr⟩:=hr;unfold wpList;rw[if_pos hw];refine .inl ?_;have UW:lq P g:=by
  obtain⟨fn,code,hf,Qc,Pp,_⟩:=hb;exact⟨fn,hf,Pp,by simp[Qc]⟩
 refine ug Q8 (pe.of hp) (pf.value ho OG UW) (hb.lift hn ha hH fun r s h=>(hR r s h).1) ?_ hr _ _ ?_
 ·rintro r s1 ⟨s2,h1,rfl⟩ p ob Ov h2 h3;have hm:=rV (hR r s2 h1).2 p ob h2;rw[fD,if_pos hm] at h3;cases h3
 ·rintro r s1 v w' σ' ⟨s2,h1,rfl⟩ OS hv _;refine hK r s2 h1 _ w' Q ⟨σ',OS.put ?_ hv⟩ hQ;intro t e;rw[OS.tm];rw[e] at hd
  simpa [bt] using hd
def jk (P:Program)(f:FuncId)(args:List CV)(G:CV→Prop):Prop:=
 lq P f∧∀ (F:Nat→Prop) (vs:List Value) (w:World),FOk w F→bP w F args vs →
  Calls P f vs.toArray w fun e w'=>∃ r v,G r∧e=.returned v∧Below w.heap.size w w'∧bZ w' F r v
theorem ae.toP {f:FuncId}{args:List CV}{r:CV}{G:CV→Prop}(h:ae P f args r)(hG:G r):jk P f args G:=
 ⟨h.1,fun F vs w hF hv=>(h.2 F vs w hF hv).mono fun _ _ ⟨v,h1,h2,h3⟩=>⟨r,v,hG,h1,h2,h3⟩⟩
theorem jk.mono {f:FuncId}{args:List CV}{G G':CV→Prop}(h:jk P f args G)(hG:∀ r,G r→G' r):jk P f args G':=
 ⟨h.1,fun F vs w hF hv=>(h.2 F vs w hF hv).mono fun _ _ ⟨r,v,h0,h1,h2,h3⟩=>⟨r,v,hG r h0,h1,h2,h3⟩⟩
theorem zW {o:Oper}{g:FuncId}{cs:List CV}{G:CV→Prop}(he:pf P C s o g cs)(ht:trees cs=true)(hp:jk P g cs G)(h:aK C σ s a w)(K:Act→World→Prop)(Q:Exit→Act→World→Prop)
  (hK:∀ r v w',G r→aK C σ s a w'→VR w' (FB C σ s.heap) σ r v→K (a.put o.dst v) w'):o.wp P a w K Q:=by
 obtain⟨vs,U1,hv⟩:=he σ a w h;unfold Oper.wp;rw[U1];refine (hp.2 (FB C σ s.heap) vs w (CT h) (aT.ec _ _ ht hv)).mono fun e w' ⟨r,v,h0,h1,h2,h3⟩=>?_;subst h1;exact hK r v w' h0 (h.below h2) (VR.cA _ _ h3)
theorem TL.Bl {o:Oper}{l:List Oper}{c:Call}{g:FuncId}{cs:List CV}{K:St→Prop}{G:CV→Prop}(hd:bt C.nt o.dst=true)(hg:b9 ops s o=Option.some true)(ho:o.op=.call c)(OG:bB s c=Option.some (g,cs))(ht:trees cs=true)(hp:jk P g cs G)
  (hK:∀ r,G r→TL P C ops l (s.put o.dst r) K):TL P C ops (o::l) s K:=by
 intro a w Q hr hQ;have hw:=eO hr hg;obtain⟨σ,hr⟩:=hr;unfold wpList;rw[if_pos hw];refine .inl (zW (pf.value ho OG hp.1) ht hp hr _ _ fun r v w' h0 OS hv=>hK r h0 _ w' Q ⟨σ,OS.put ?_ hv⟩ hQ);intro t e;rw[OS.tm];rw[e] at hd
 simpa [bt] using hd
def doneG (C:Cx)(av:List (Nat×TI))(f:Func)(G:CV→Prop):Exit→St→Prop
 | .normal,s=>aa C (fun s'=>∃ r,bm av f s'=some r∧tree r=true∧G r) s
 | .ret,s=>aa C (fun s'=>∃ r,bm av f s'=some r∧tree r=true∧G r) s
 | _,_=>False
theorem jk.iV (Q8 : aF P av) {f : FuncId} {fn : Func} {c : Code} {args : List CV} {G : CV → Prop} (hf : P.funcs[f]? = some fn) (hb : fn.body = some c) (hn : (fn.name == "runtime.NumGoroutine") = false)
  (ha:args.length≤fn.ntmps) (h:∀ C:Cx,C.nt=fn.ntmps→C.n0=0→T P C c (enter args) (doneG C av fn G)):jk P f args G:=by
 refine⟨⟨fn,hf,hn,by simp[hb]⟩,fun F vs w hF hv=>?_⟩;have hl:=bP.length _ _ hv;have h0:aK ⟨w,F,fun _=>False,hF,fn.ntmps,fun _=>none,0⟩ (fun _=>none) (enter args) { tmps:=vs.toArray++Array.replicate (fn.ntmps-vs.toArray.size) undef,defers:=[] } w:=by
  refine⟨rfl,by simp;omega,rfl,rfl,rfl,Nat.le_refl _,fun _ _ _=>rfl,?_,?_,?_,fun _ _=>rfl,fun _ h=>absurd h (Nat.not_lt_zero _),Nat.zero_le _,fun _ _ _ _ h=>by cases h⟩
  ·intro t c hc;obtain⟨_,h2⟩:=fS args 0 t c hc;obtain⟨v,h3,h4⟩:=bP.get _ _ hv t c (by simpa using h2);refine⟨v,?_,VR.cA _ _ (bZ.bl (cz.same fun b hb=>?_).1 c v h4)⟩
   ·have Oa:=(List.getElem?_eq_some_iff.1 h3).1;simp only;rw[Array.getElem?_append_left (by simpa using Oa)]
    simpa using h3
   ·rcases hb with hF | ⟨o,ob,ho,_⟩
    ·exact hF
    ·simp[enter,assoc] at ho
  ·intro o ob ho;simp[enter,assoc] at ho
  ·intro o o' ob Ov b ho;simp[enter,assoc] at ho
 refine calls_of_wp hf hb (wp_mono (h _ rfl rfl _ _ ⟨_,h0⟩) fun e a' w' ⟨s1,q,σ,OX⟩=>?_);have fin:aa ⟨w,F,fun _=>False,hF,fn.ntmps,fun _=>none,0⟩ (fun s'=>∃ r,bm av fn s'=some r∧tree r=true∧G r) s1→a'.defers=[]∧∃ v,(results fn a'.tmps).run P w'=.ok v w'∧(∃ r SQ,G r∧Ending.returned v=.returned SQ∧Below w.heap.size w w'∧bZ w' F r SQ):=fun⟨s',⟨r,hq,ht,hG⟩,hle⟩=>by
  obtain⟨σ',hr⟩:=hle _ _ ⟨σ,OX⟩;obtain⟨v,k1,k2⟩:=iY (P:=P) Q8 hr hq;refine⟨hr.oA,v,k1,r,v,hG,rfl,⟨hr.os,hr.tape,hr.output,hr.size,fun k hk=>hr.frame k hk (fun hx=>hx)⟩,?_⟩;exact bZ.bl (cz.same fun _ hF=>.inl hF).1 _ _ (VR.ec _ _ ht k2)
 cases e with
 | normal=>exact fin q
 | ret=>exact fin q
 | exit _=>exact q.elim
 | goto _=>exact q.elim
 | panic _=>exact q.elim
 | outgrown=>exact q.elim
def nz:CV→CV
 | .aj=>.az [] 0
 | c=>c
def vU:CV→CV
 | .aj=>.az [] 0
 | .agg cs=>.agg (cs.map nz)
 | c=>c
theorem VR.nz {F:Nat→Prop}{c:CV}{v:Value}(h:VR w F σ c v):VR w F σ (nz c) v:=by
 cases c<;>try exact h
 simp only[VR] at h;subst h;simp only[Can.nz,VR,bZ];exact⟨none,0,rfl,Nat.le_refl _,Nat.zero_le _,.inl ⟨trivial,trivial⟩⟩
theorem aT.nz {F:Nat→Prop}:∀ {cs:List CV} {vs:List Value},aT w F σ cs vs→aT w F σ (cs.map Can.nz) vs
 | [],_,h=>h
 | _::_,_,⟨v,r,e,h1,h2⟩=>⟨v,r,e,VR.nz h1,aT.nz h2⟩
theorem LY (c:CV):one (nz c)=one c:=by cases c<;>rfl
theorem vH (cs:List CV):(cs.map nz).all one=cs.all one:=by
 induction cs with
 | nil=>rfl
 | cons c cs ih=>simp only[List.map_cons,List.all_cons,LY,ih]
theorem VR.vU {F:Nat→Prop}{c:CV}{v:Value}(h:VR w F σ c v):VR w F σ (vU c) v:=by
 cases c<;>try exact h
 ·simp only[VR] at h;obtain⟨vs,h1,h2,h3⟩:=h;simp only[Can.vU,VR];exact⟨vs,h1,aT.nz h2,by rw[vH];exact h3⟩
 ·exact VR.nz h
def FM (ts:List Nat):List (Nat×CV)→List (Nat×CV)
 | []=>[]
 | (k,c)::r=>(k,if ts.contains k then vU c else c)::FM ts r
def Af (os:List Nat):List (Nat×Ob)→List (Nat×Ob)
 | []=>[]
 | (k,ob)::r=>(k,if os.contains k then ⟨ob.elem,ob.sz,ob.cells.map nz⟩ else ob)::Af os r
theorem xh (ts:List Nat):∀ (e:List (Nat×CV)) (t:Nat) (c:CV),assoc (FM ts e) t=some c→∃ d,assoc e t=some d∧(c=d∨c=vU d)
 | [],t,c,h=>by simp[FM,assoc] at h
 | (k,d)::r,t,c,h=>by
  simp only[FM,assoc] at h ⊢;split at h
  ·rename_i e;rw[if_pos e];cases h;refine⟨d,rfl,?_⟩;split
   ·exact .inr rfl
   ·exact .inl rfl
  ·rename_i e;rw[if_neg e];exact xh ts r t c h
theorem dZ (os:List Nat):∀ (H:List (Nat×Ob)) (o:Nat),assoc (Af os H) o=(assoc H o).map fun ob=>if os.contains o then ⟨ob.elem,ob.sz,ob.cells.map nz⟩ else ob
 | [],o=>by simp[Af,assoc]
 | (k,x)::r,o=>by
  simp only[Af,assoc];split
  ·rename_i e;subst e;rfl
  ·exact dZ os r o
theorem Le.nz (ts os:List Nat):Le C s ⟨FM ts s.env,Af os s.heap,s.nx⟩:=by
 intro a w ⟨σ,h⟩;have Tt:∀ b,FB C σ (Af os s.heap) b↔FB C σ s.heap b:=fun b=>by
  unfold FB;constructor
  ·rintro (h | ⟨o,ob,ho,hb⟩)
   ·exact .inl h
   ·rw[dZ] at ho;obtain⟨x,hx,_⟩:=Option.map_eq_some_iff.1 ho;exact .inr ⟨o,x,hx,hb⟩
  ·rintro (h | ⟨o,ob,ho,hb⟩)
   ·exact .inl h
   ·exact .inr ⟨o,_,by rw[dZ,ho];rfl,hb⟩
 have hK:cz w w (FB C σ s.heap) (FB C σ (Af os s.heap)):=cz.same fun b hx=>(Tt b).1 hx;refine⟨σ,h.oA,h.tm,h.os,h.tape,h.output,h.size,h.frame,?_,?_,?_,h.nx,h.gO,h.low,h.new⟩
 ·intro t c hc;obtain⟨d,hd,TO⟩:=xh ts s.env t c hc;obtain⟨v,k1,k2⟩:=h.env t d hd;refine⟨v,k1,VR.bl hK _ _ (fun _ _=>rfl) ?_⟩;rcases TO with rfl | rfl
  ·exact k2
  ·exact VR.vU k2
 ·intro o ob ho;simp only[dZ] at ho;obtain⟨x,hx,hxo⟩:=Option.map_eq_some_iff.1 ho;obtain⟨B,m1,m2,m3,m4,m5⟩:=h.obj o x hx;split at hxo
  ·subst hxo;refine⟨B,m1,m2,fun hb=>by simp[m3 hb],by simp only[vH];exact m4,fun b hb=>?_⟩;obtain⟨cur,n1,n2,n3,n4,n5,n6⟩:=m5 b hb;refine⟨cur,n1,n2,n3,n4,by simpa using n5,?_⟩;simp only[List.length_map];exact aT.bl hK _ _ (fun _ _=>rfl) (aT.nz n6)
  ·subst hxo;refine⟨B,m1,m2,m3,m4,fun b hb=>?_⟩;obtain⟨cur,n1,n2,n3,n4,n5,n6⟩:=m5 b hb;exact⟨cur,n1,n2,n3,n4,n5,aT.bl hK _ _ (fun _ _=>rfl) n6⟩
 ·intro o o' ob Ov b ho OI hx O9;simp only[dZ] at ho OI;obtain⟨x,h1,_⟩:=Option.map_eq_some_iff.1 ho;obtain⟨y,h2,_⟩:=Option.map_eq_some_iff.1 OI;exact h.inj o o' x y b h1 h2 hx O9
@[simp] theorem nz_int (k:IntKind)(n:Int):nz (.int k n)=(.int k n):=rfl
@[simp] theorem nzA_int (k:IntKind)(n:Int):vU (.int k n)=(.int k n):=rfl
@[simp] theorem nz_bool (b:Bool):nz (.bool b)=(.bool b):=rfl
@[simp] theorem nzA_bool (b:Bool):vU (.bool b)=(.bool b):=rfl
@[simp] theorem nz_str (s:ByteArray):nz (.str s)=(.str s):=rfl
@[simp] theorem nzA_str (s:ByteArray):vU (.str s)=(.str s):=rfl
@[simp] theorem nz_agg (cs:List CV):nz (.agg cs)=(.agg cs):=rfl
@[simp] theorem nzA_agg (cs:List CV):vU (.agg cs)=.agg (cs.map nz):=rfl
@[simp] theorem nz_tsl (cs:List CV)(n:Nat):nz (.az cs n)=(.az cs n):=rfl
@[simp] theorem nzA_tsl (cs:List CV)(n:Nat):vU (.az cs n)=(.az cs n):=rfl
@[simp] theorem nz_nilsl:nz .aj=.az [] 0:=rfl
@[simp] theorem Nt:vU .aj=.az [] 0:=rfl
@[simp] theorem nz_tptr (cs:List CV):nz (.cF cs)=(.cF cs):=rfl
@[simp] theorem nzA_tptr (cs:List CV):vU (.cF cs)=(.cF cs):=rfl
@[simp] theorem Ns:nz .bw=.bw:=rfl
@[simp] theorem L5:vU .bw=.bw:=rfl
@[simp] theorem nz_fn (f:FuncId)(cs:List CV):nz (.fn f cs)=(.fn f cs):=rfl
@[simp] theorem nzA_fn (f:FuncId)(cs:List CV):vU (.fn f cs)=(.fn f cs):=rfl
@[simp] theorem nz_nilfn:nz .cr=.cr:=rfl
@[simp] theorem Nu:vU .cr=.cr:=rfl
@[simp] theorem nz_iface (t:TypeId)(cs:List CV):nz (.iface t cs)=(.iface t cs):=rfl
@[simp] theorem Nv (t:TypeId)(cs:List CV):vU (.iface t cs)=(.iface t cs):=rfl
@[simp] theorem nz_tup (cs:List CV):nz (.dI cs)=(.dI cs):=rfl
@[simp] theorem nzA_tup (cs:List CV):vU (.dI cs)=(.dI cs):=rfl
@[simp] theorem nz_osl (p f n:Nat):nz (.bp p f n)=(.bp p f n):=rfl
@[simp] theorem nzA_osl (p f n:Nat):vU (.bp p f n)=(.bp p f n):=rfl
@[simp] theorem nz_optr (p f:Nat):nz (.aq p f)=(.aq p f):=rfl
@[simp] theorem nzA_optr (p f:Nat):vU (.aq p f)=(.aq p f):=rfl
@[simp] theorem nz_any:nz .any=.any:=rfl
@[simp] theorem nzA_any:vU .any=.any:=rfl
attribute [simp] FM Af fk eB dD me
end
end Go.Can
