/- Calls that may turn maps and leave new objects, on a part of the own memory. No function of the program is mentioned here. -/
import Derived.Test.YtmnglemlimfpbaaGreatZ45
namespace Go.Can
open Go.RowKit
section
variable {P:Program}{C:Cx}{σ:Nat→Option OB}{s:St}{a:Act}{w:World}{ops:Array Oper}{aj:List (Nat×TI)}
def Cx.gy (C:Cx)(w:World)(σ:Nat→Option OB)(H rest:List (Nat×Ob))(ks:List Nat)(nt:Nat)(hF:∀ b,FB C σ rest b→b<w.heap.size)(n:Nat):Cx:=
 ⟨w,FB C σ rest,fun b=>(∃ o ob,assoc H o=some ob∧aJ σ o=some b)∨∃ k∈ks,aJ σ k=some b,hF,nt,σ,n⟩
theorem aH.gy (h:aH C σ s a w){H rest:List (Nat×Ob)}(hp:jA H rest s.heap)(hF:∀ b,FB C σ rest b→b<w.heap.size)(nt:Nat)(ks:List Nat){args:List CV}{vs:List Value}(hv:aQ w (FB C σ s.heap) σ args vs)(ha:args.length≤nt) :
  aH (C.gy w σ H rest ks nt hF s.nx) σ ⟨(enter args).env,H,s.nx⟩ { tmps:=vs.toArray++Array.replicate (nt-vs.toArray.size) undef,defers:=[] } w:=by
 have hl:=aQ.length _ _ hv
 have hFB:∀ b,FB (C.gy w σ H rest ks nt hF s.nx) σ H b→FB C σ s.heap b:=fun b hb=>by
  rw[iI hp]
  exact hb
 refine⟨rfl,by simp[Cx.gy];omega,rfl,rfl,rfl,Nat.le_refl _,fun _ _ _=>rfl,?_,?_,fun o o' ob ob' b h1 h2=>h.inj o o' ob ob' b (hp.l _ _ h1) (hp.l _ _ h2),h.nx,fun _ _=>rfl,Nat.le_refl _,fun o B b ho hB _=>(by rw[h.nx o ho] at hB;cases hB)⟩
 ·intro t c hc
  obtain⟨_,h2⟩:=eC args 0 t c hc
  obtain⟨v,h3,h4⟩:=aQ.get _ _ hv t c (by simpa using h2)
  refine⟨v,?_,VR.keep (bO.same hFB) _ _ (fun _ _=>rfl) h4⟩
  have hlt:=(List.getElem?_eq_some_iff.1 h3).1
  simp only
  rw[Array.getElem?_append_left (by simpa using hlt)]
  simpa using h3
 ·intro o ob ho
  obtain⟨B,m1,m2,m3,m4,m5⟩:=h.obj o ob (hp.l o ob ho)
  refine⟨B,m1,m2,m3,m4,fun b hb=>?_⟩
  obtain⟨cur,n1,n2,n3,n4,n5,n6⟩:=m5 b hb
  refine⟨cur,n1,n2,?_,.inl (.inl ⟨o,ob,ho,by simp[aJ,m1,hb]⟩),n5,aQ.keep (bO.same hFB) _ _ (fun _ _=>rfl) n6⟩
  rintro (hf | ⟨o',ob',ho',hb'⟩)
  ·exact n3 hf
  ·have:o'=o:=h.inj o' o ob' ob b (hp.r _ _ ho') (hp.l _ _ ho) hb' (by simp[aJ,m1,hb])
   subst this
   exact hp.d _ _ _ ho ho'
theorem aH.I3 (h:aH C σ s a w){H rest:List (Nat×Ob)}(hp:jA H rest s.heap){hF:∀ b,FB C σ rest b→b<w.heap.size}{nt:Nat}{ks:List Nat}(hm:pB C w σ ks)(hni:(∀ t c,assoc s.env t=some c→cE c=true)∧∀ o ob,assoc rest o=some ob→cZ ob.cells=true){σ':Nat→Option OB}{s1:St}{a':Act}{w':World}(h':aH (C.gy w σ H rest ks nt hF s.nx) σ' s1 a' w')(hd:∀ o ob ob',assoc s1.heap o=some ob→assoc rest o=some ob'→False) :
  aH C σ' ⟨s.env,s1.heap++rest,s1.nx⟩ a w'∧∀ c v,VR w' (FB (C.gy w σ H rest ks nt hF s.nx) σ' s1.heap) σ' c v→VR w' (FB C σ' (s1.heap++rest)) σ' c v:=by
 have hown:∀ b,b<w.heap.size→(¬ ((∃ o ob,assoc H o=some ob∧aJ σ o=some b)∨∃ k∈ks,aJ σ k=some b))→w'.heap[b]? = w.heap[b]?:=fun b hb hn=>h'.frame b hb hn
 have hlt:∀ {o ob},assoc s.heap o=some ob→o<s.nx:=fun {o ob} ho=>by
  refine Nat.lt_of_not_le fun hle=>?_
  obtain⟨B,e1,_⟩:=h.obj o ob ho
  rw[h.nx o hle] at e1;cases e1
 have hsame:∀ {o},o<s.nx→σ' o=σ o:=fun {o} ho=>h'.ek o ho
 have hobj:∀ o ob b,assoc s1.heap o=some ob→aJ σ' o=some b→((∃ o ob,assoc H o=some ob∧aJ σ o=some b)∨∃ k∈ks,aJ σ k=some b)∨w.heap.size≤b:=fun o ob b ho hb=>by
  obtain⟨B,m1,_,_,_,m5⟩:=h'.obj o ob ho
  obtain⟨cur,_,_,_,n4,_⟩:=m5 b (by simpa [aJ,m1] using hb)
  exact n4
 have hnot:∀ o ob b,assoc s1.heap o=some ob→aJ σ' o=some b→¬ FB C σ rest b:=fun o ob b ho hb=>by
  obtain⟨B,m1,_,_,_,m5⟩:=h'.obj o ob ho
  obtain⟨cur,_,_,n3,_⟩:=m5 b (by simpa [aJ,m1] using hb)
  exact n3
 have hrest:∀ {o ob b},assoc rest o=some ob→(aJ σ' o=some b↔aJ σ o=some b):=fun {o ob b} ho=>by
  unfold aJ;rw[hsame (hlt (hp.r _ _ ho))]
 have hFe:∀ b,FB C σ' (s1.heap++rest) b↔FB (C.gy w σ H rest ks nt hF s.nx) σ' s1.heap b:=fun b=>by
  constructor
  ·rintro (hb | ⟨o,ob,ho,hb⟩)
   ·exact .inl (.inl hb)
   ·rw[dj] at ho
    split at ho
    ·rename_i y hy;cases ho;exact .inr ⟨o,_,hy,hb⟩
    ·exact .inl (.inr ⟨o,ob,ho,(hrest ho).1 hb⟩)
  ·rintro ((hb | ⟨o,ob,ho,hb⟩) | ⟨o,ob,ho,hb⟩)
   ·exact .inl hb
   ·refine .inr ⟨o,ob,?_,(hrest ho).2 hb⟩
    rw[dj]
    split
    ·rename_i y hy;exact (hd _ _ _ hy ho).elim
    ·exact ho
   ·exact .inr ⟨o,ob,by rw[dj,ho],hb⟩
 have hnk:∀ (ad:Addr) u,w.cell? ad=some u→¬ ∃ k∈ks,aJ σ k=some ad.block:=fun ad u hu ⟨k,hk,hb⟩=>by
  obtain⟨⟨arr,clock,e⟩,_⟩:=hm k hk _ hb
  unfold World.cell? at hu
  rw[e] at hu
  cases hu
 have hkw:jC w w' (FB C σ s.heap) (FB C σ' (s1.heap++rest)):=fun ad u hf hu=>by
  have hl:=World.block_lt_of_cell? w ad hu
  have hno:¬ ((∃ o ob,assoc H o=some ob∧aJ σ o=some ad.block)∨∃ k∈ks,aJ σ k=some ad.block):=fun hx=>hx.elim (fun hx=>hf ((iI hp).2 (.inr hx))) (hnk ad u hu)
  refine⟨by rw[World.cell?_of_block (w:=w) (hown ad.block hl hno)];exact hu,fun hx=>?_⟩
  rw[hFe] at hx
  rcases hx with hx | ⟨o,ob,ho,hbb⟩
  ·exact hf ((iI hp).2 (.inl hx))
  ·rcases hobj o ob _ ho hbb with h1 | h1
   ·exact hno h1
   ·omega
 have hownC:∀ b,((∃ o ob,assoc H o=some ob∧aJ σ o=some b)∨∃ k∈ks,aJ σ k=some b)→C.own b∨C.w0.heap.size≤b:=fun b hx=>by
  rcases hx with ⟨o,ob,ho,hb⟩ | ⟨k,hk,hb⟩
  rotate_left
  ·exact (hm k hk b hb).2
  obtain⟨B,m1,_,_,_,m5⟩:=h.obj o ob (hp.l _ _ ho)
  obtain⟨cur,_,_,_,n4,_⟩:=m5 b (by simpa [aJ,m1] using hb)
  exact n4
 refine⟨⟨h.kO,h.tm,h'.os.trans h.os,h'.tape.trans h.tape,h'.output.trans h.output,Nat.le_trans h.size h'.size,?_,?_,?_,?_,h'.nx,fun o ho=>(h'.ek o (Nat.lt_of_lt_of_le ho h.low)).trans (h.ek o ho),Nat.le_trans h.low h'.low,fun o B b ho hB hb=>?_⟩,fun c v hv=>VR.keep (bO.same fun b hb=>(hFe b).1 hb) _ _ (fun _ _=>rfl) hv⟩
 ·intro b hb hno
  rw[hown b (Nat.lt_of_lt_of_le hb h.size) fun hx=>?_]
  ·exact h.frame b hb hno
  ·rcases hownC b hx with h1 | h1
   ·exact hno h1
   ·omega
 ·intro t c hc
  obtain⟨v,k1,k2⟩:=h.env t c hc
  refine⟨v,k1,VR.keep (bO.same fun _ hb=>hb) _ _ (fun o ho=>?_) (VR.jP hkw _ _ (hni.1 t c hc) k2)⟩
  refine h'.ek o (Nat.lt_of_not_le fun hle=>?_)
  obtain⟨B,hB⟩:=VR.refs _ _ o k2 ho
  rw[h.nx o hle] at hB;cases hB
 ·intro o ob ho
  rw[dj] at ho
  split at ho
  ·rename_i y hy
   cases ho
   obtain⟨B,m1,m2,m3,m4,m5⟩:=h'.obj o _ hy
   refine⟨B,m1,m2,m3,m4,fun b hb=>?_⟩
   obtain⟨cur,n1,n2,n3,n4,n5,n6⟩:=m5 b hb
   refine⟨cur,n1,n2,fun hf=>n3 (.inl hf),?_,n5,aQ.keep (bO.same fun b hb=>(hFe b).1 hb) _ _ (fun _ _=>rfl) n6⟩
   rcases n4 with n4 | n4
   ·exact hownC b n4
   ·exact .inr (Nat.le_trans h.size n4)
  ·have hs:=hp.r _ _ ho
   obtain⟨B,m1,m2,m3,m4,m5⟩:=h.obj o ob hs
   refine⟨B,by rw[hsame (hlt hs)];exact m1,m2,m3,m4,fun b hb=>?_⟩
   obtain⟨cur,n1,n2,n3,n4,n5,n6⟩:=m5 b hb
   have hbl:=(Array.getElem?_eq_some_iff.1 n1).1
   have hno:¬ ∃ o' ob',assoc H o'=some ob'∧aJ σ o'=some b:=by
    rintro⟨o',ob',ho',hb'⟩
    have:o'=o:=h.inj o' o ob' ob b (hp.l _ _ ho') hs hb' (by simp[aJ,m1,hb])
    subst this
    exact hp.d _ _ _ ho' ho
   have hno2:¬ ((∃ o' ob',assoc H o'=some ob'∧aJ σ o'=some b)∨∃ k∈ks,aJ σ k=some b):=fun hx=>hx.elim hno fun⟨k,hk,hb⟩=>by
    obtain⟨⟨arr,clock,e⟩,_⟩:=hm k hk _ hb
    rw[e] at n1
    cases n1
   refine⟨cur,by rw[hown b hbl hno2];exact n1,n2,n3,n4,n5,aQ.keep (bO.same fun _ hb=>hb) _ _ (fun p hpn=>?_) (aQ.jP hkw _ _ (hni.2 o ob ho) n6)⟩
   refine h'.ek p (Nat.lt_of_not_le fun hle=>?_)
   obtain⟨B2,hB2⟩:=aQ.refs _ _ p n6 hpn
   rw[h.nx p hle] at hB2;cases hB2
 ·intro o o' ob ob' b ho ho' hb hb'
  rw[dj] at ho ho'
  have cross:∀ {p q x y},assoc s1.heap p=some x→aJ σ' p=some b→assoc rest q=some y→aJ σ' q=some b→False:=fun {p q x y} h1 h2 h3 h4=>
   hnot p x b h1 h2 (.inr ⟨q,y,h3,(hrest h3).1 h4⟩)
  cases c1:assoc s1.heap o with
  | some y=>
   cases c2:assoc s1.heap o' with
   | some y'=>exact h'.inj o o' y y' b c1 c2 hb hb'
   | none=>
    rw[c2] at ho'
    exact (cross c1 hb ho' hb').elim
  | none=>
   rw[c1] at ho
   cases c2:assoc s1.heap o' with
   | some y'=>exact (cross c2 hb' ho hb).elim
   | none=>
    rw[c2] at ho'
    exact h.inj o o' ob ob' b (hp.r _ _ ho) (hp.r _ _ ho') ((hrest ho).1 hb) ((hrest ho').1 hb')
 ·rcases Nat.lt_or_ge o s.nx with hl | hge
  ·rw[hsame hl] at hB;exact h.new o B b ho hB hb
  ·rcases h'.new o B b hge hB hb with n4 | n4
   ·exact hownC b n4
   ·exact .inr (Nat.le_trans h.size n4)
theorem E9 (ht0:aF P aj){o:Oper}{g:FuncId}{cs:List CV}{R:CV→St→Prop}{H rest:List (Nat×Ob)}(hp:jA H rest s.heap)(he:tF P C s o g cs){ks:List Nat}(hb:gQ P aj g cs H s.nx ks R)(hmo:∀ σ a w,aH C σ s a w→pB C w σ ks)(hni:(∀ t c,assoc s.env t=some c→cE c=true)∧∀ o ob,assoc rest o=some ob→cZ ob.cells=true)(hR:∀ r s1,R r s1→∀ o ob ob',assoc s1.heap o=some ob→assoc rest o=some ob'→False)(h:aH C σ s a w)(K:Act→World→Prop)(Q:Exit→Act→World→Prop)
  (hK:∀ r s1 v w' σ',R r s1→aH C σ' ⟨s.env,s1.heap++rest,s1.nx⟩ a w'→VR w' (FB C σ' (s1.heap++rest)) σ' r v→(∀ p,p<s.nx→σ' p=σ p)→K (a.put o.dst v) w'):o.wp P a w K Q:=by
 obtain⟨fn,code,hf,hbody,hn,hlen,hT⟩:=hb
 obtain⟨vs,ent,hall⟩:=he σ a w h
 have hF:∀ b,FB C σ rest b→b<w.heap.size:=fun b hb=>tC h b ((iI hp).2 (.inl hb))
 have h0:=h.gy hp hF fn.ntmps ks hall hlen
 have hcalls:Calls P g vs.toArray w fun e w'=>∃ v r s',e=.returned v∧R r s'∧∃ σ',aH C σ' ⟨s.env,s'.heap++rest,s'.nx⟩ a w'∧VR w' (FB C σ' (s'.heap++rest)) σ' r v∧(∀ p,p<s.nx→σ' p=σ p):=by
  refine calls_of_wp hf hbody (wp_mono (hT (C.gy w σ H rest ks fn.ntmps hF s.nx) rfl rfl (fun k hk B b hB hb=>.inl (.inr ⟨k,hk,by simp only[Cx.gy] at hB;simp[aJ,hB,hb]⟩)) _ _ ⟨_,h0⟩) fun e a' w' ⟨s1,q,σ1,hr1⟩=>?_)
  have fin:ae (C.gy w σ H rest ks fn.ntmps hF s.nx) (fun s'=>∃ r,bb aj fn s'=some r∧R r s') s1→a'.defers=[]∧∃ v,(results fn a'.tmps).run P w'=.ok v w'∧(∃ v_1 r s',Ending.returned v=.returned v_1∧R r s'∧∃ σ',aH C σ' ⟨s.env,s'.heap++rest,s'.nx⟩ a w'∧VR w' (FB C σ' (s'.heap++rest)) σ' r v_1∧(∀ p,p<s.nx→σ' p=σ p)):=fun⟨s2,⟨r,q1,q2⟩,hl⟩=>by
   obtain⟨σ2,hr2⟩:=hl _ _ ⟨σ1,hr1⟩
   obtain⟨v,k1,k2⟩:=gj (P:=P) ht0 hr2 q1
   obtain⟨b1,b2⟩:=h.I3 hp (hmo σ a w h) hni hr2 (hR r s2 q2)
   exact⟨hr2.kO,v,k1,v,r,s2,rfl,q2,σ2,b1,b2 _ _ k2,hr2.ek⟩
  cases e with
  | normal=>exact fin q
  | ret=>exact fin q
  | exit _=>exact q.elim
  | goto _=>exact q.elim
  | panic _=>exact q.elim
  | outgrown=>exact q.elim
 unfold Oper.wp
 rw[ent]
 refine hcalls.mono fun e w' ⟨v,r,s',he,hR,σ',hr',hv,ho⟩=>?_
 subst he
 exact hK r s' v w' σ' hR hr' hv ho
theorem gQ.ret {f:FuncId}{args:List CV}{H:List (Nat×Ob)}{n:Nat}{ks:List Nat}{R R':CV→St→Prop}(h:gQ P aj f args H n ks R)(hR:∀ r s,R r s→R' r s):gQ P aj f args H n ks R':=by
 obtain⟨fn,c,hf,hb,hnm,hl,hT⟩:=h
 refine⟨fn,c,hf,hb,hnm,hl,fun C hC hC0 hM=>T.mono (hT C hC hC0 hM) fun e s q=>?_⟩
 have key:∀ (C:Cx) s,ae C (fun s'=>∃ r,bb aj fn s'=some r∧R r s') s→ae C (fun s'=>∃ r,bb aj fn s'=some r∧R' r s') s:=fun C s ⟨s',⟨r,q1,q2⟩,hl⟩=>⟨s',⟨r,q1,hR r s' q2⟩,hl⟩
 cases e with
 | normal=>exact key C s q
 | ret=>exact key C s q
 | _=>exact q
theorem gQ.grow {ρ:Nat→Nat}(hi:∀ x y,ρ x=ρ y→x=y){f:FuncId}{args:List CV}{H:List (Nat×Ob)}{n n' d:Nat}{R:CV→St→Prop}(hρ:∀ p,p<n→ρ p<n')(hρ2:∀ p,n≤p→ρ p=p-n+n'){ks:List Nat}(hks:∀ k∈ks,k<n)(h:gQ P aj f args H n ks R)(ha:aC n args=true)(hH:cF n H=true)(hR:∀ r s,R r s→s.nx=n+d) :
  gQ P aj f (bJ ρ args) (bF ρ H) n' (ks.map ρ) fun r s=>∃ r1 s1,R r1 s1∧r=dr ρ r1∧s=⟨cW ρ s1.env,bF ρ s1.heap,n' + d⟩:=by
 obtain⟨fn,c,hf,hb,hnm,hl,hT⟩:=h
 refine⟨fn,c,hf,hb,hnm,by rw[dO];exact hl,fun C' hC hC0 hM a w ⟨σ,hr⟩=>?_⟩
 rw[p8] at hr
 have hargs:∀ (t:Nat) c o,assoc (enter args).env t=some c→aL o c=false→o<n:=fun t c o hc ho=>by
  obtain⟨_,h2⟩:=eC args 0 t c hc
  have hm:c∈args:=List.mem_of_getElem? h2
  rw[aD,List.all_eq_true] at ha
  exact jj n c o (ha c hm) ho
 obtain⟨σt,hσt⟩:∃ σt:Nat→Option OB,σt=below (fun p=>σ (ρ p)) n fun _=>none:=⟨_,rfl⟩
 have t1:∀ p,p<n→σt p=σ (ρ p):=fun p hp=>by rw[hσt];exact fh hp
 have t2:∀ p,n≤p→σt p=none:=fun p hp=>by rw[hσt];exact iG hp
 have hsame:∀ (G:List (Nat×Ob)),(∀ o ob,assoc G o=some ob→o<n)→∀ b,(C'.F b∨∃ o ob,assoc G o=some ob∧aJ σt o=some b)↔FB C' σ (bF ρ G) b:=fun G hG b=>by
  unfold FB
  constructor
  ·rintro (h | ⟨o,ob,ho,hx⟩)
   ·exact .inl h
   ·refine .inr ⟨ρ o,bD ρ ob,by rw[bm hi,ho];rfl,?_⟩
    unfold aJ at hx ⊢
    rwa [t1 o (hG o ob ho)] at hx
  ·rintro (h | ⟨q,ob,hq,hx⟩)
   ·exact .inl h
   ·obtain⟨o,rfl⟩:=cP G q ob hq
    rw[bm hi] at hq
    obtain⟨ob',ho,_⟩:=Option.map_eq_some_iff.1 hq
    refine .inr ⟨o,ob',ho,?_⟩
    unfold aJ at hx ⊢
    rwa [t1 o (hG o ob' ho)]
 have hdomH:∀ o ob,assoc H o=some ob→o<n:=fun o ob ho=>(fy hH o ob ho).1
 have h0:aH ⟨C'.w0,C'.F,C'.own,C'.hF,C'.nt,σt,n⟩ σt ⟨(enter args).env,H,n⟩ a w:=by
  have hK:bO w w (FB C' σ (bF ρ H)) (FB ⟨C'.w0,C'.F,C'.own,C'.hF,C'.nt,σt,n⟩ σt H):=bO.same fun b hx=>(hsame H hdomH b).1 hx
  refine⟨hr.kO,hr.tm,hr.os,hr.tape,hr.output,hr.size,hr.frame,?_,?_,?_,fun o ho=>t2 o ho,fun _ _=>rfl,Nat.le_refl _,fun o B b ho hB _=>by rw[t2 o ho] at hB;cases hB⟩
  ·intro t c hc
   obtain⟨v,k1,k2⟩:=hr.env t (dr ρ c) (by rw[dX,hc];rfl)
   refine⟨v,k1,?_⟩
   exact VR.keep hK _ _ (fun o ho=>t1 o (hargs t c o hc ho)) ((VR.ck ρ c v).1 k2)
  ·intro o ob ho
   obtain⟨B,m1,m2,m3,m4,m5⟩:=hr.obj (ρ o) (bD ρ ob) (by rw[bm hi,ho];rfl)
   have hlt:=hdomH o ob ho
   refine⟨B,by rw[t1 o hlt];exact m1,m2,fun hb=>?_,by have:=m4;simp only[bD,dS] at this;exact this,fun b hb=>?_⟩
   ·have:=m3 hb
    simp only[bD] at this
    have hl:=dO ρ ob.cells
    rw[this] at hl
    exact List.eq_nil_of_length_eq_zero hl.symm
   ·obtain⟨cur,n1,n2,n3,n4,n5,n6⟩:=m5 b hb
    simp only[bD,dO] at n5 n6
    refine⟨cur,n1,n2,n3,n4,n5,?_⟩
    exact aQ.keep hK _ _ (fun p hp=>t1 p (dV n _ p (fy hH o ob ho).2 hp)) ((aQ.ck ρ _ _).1 n6)
  ·intro o o' ob ob' b ho ho' hx hx'
   unfold aJ at hx hx'
   rw[t1 o (hdomH o ob ho)] at hx
   rw[t1 o' (hdomH o' ob' ho')] at hx'
   exact hi _ _ (hr.inj (ρ o) (ρ o') (bD ρ ob) (bD ρ ob') b (by rw[bm hi,ho];rfl) (by rw[bm hi,ho'];rfl) hx hx')
 refine wp_mono (hT ⟨C'.w0,C'.F,C'.own,C'.hF,C'.nt,σt,n⟩ hC rfl (fun k hk B b hB hb=>hM (ρ k) (List.mem_map_of_mem hk) B b (by simp only at hB;rw[t1 k (hks k hk)] at hB;rw[← hr.ek (ρ k) (by rw[hC0];exact hρ k (hks k hk))];exact hB) hb) a w ⟨_,h0⟩) fun e a' w' ⟨s1,q,σ1,hr1⟩=>?_
 have fin:ae ⟨C'.w0,C'.F,C'.own,C'.hF,C'.nt,σt,n⟩ (fun s'=>∃ r,bb aj fn s'=some r∧R r s') s1 →
   ∃ s',ae C' (fun s'=>∃ r,bb aj fn s'=some r∧∃ r1 s1,R r1 s1∧r=dr ρ r1∧s'=⟨cW ρ s1.env,bF ρ s1.heap,n' + d⟩) s'∧Rel C' s' a' w':=fun⟨s2,⟨r,q1,q2⟩,hle⟩=>by
  obtain⟨σ2,hr2⟩:=hle _ _ ⟨σ1,hr1⟩
  have hnx2:=hR r s2 q2
  obtain⟨e2,H2,n2⟩:=s2
  simp only at hnx2
  subst hnx2
  obtain⟨σn,hσn⟩:∃ σn:Nat→Option OB,σn=fun q=>if q<n' then σ q else σ2 (q-n' + n):=⟨_,rfl⟩
  have u1:∀ q,q<n'→σn q=σ q:=fun q hq=>by rw[hσn];exact if_pos hq
  have u2:∀ q,n'≤q→σn q=σ2 (q-n' + n):=fun q hq=>by rw[hσn];exact if_neg (by omega)
  have u3:∀ o,σn (ρ o)=σ2 o:=fun o=>by
   rcases Nat.lt_or_ge o n with ho | ho
   ·rw[u1 _ (hρ o ho),← t1 o ho]
    exact (hr2.ek o ho).symm
   ·rw[hρ2 o ho,u2 _ (by omega)]
    congr 1
    omega
  have hblk:∀ o,aJ σn (ρ o)=aJ σ2 o:=fun o=>by unfold aJ;rw[u3]
  have hFB:∀ b,FB C' σn (bF ρ H2) b→FB ⟨C'.w0,C'.F,C'.own,C'.hF,C'.nt,σt,n⟩ σ2 H2 b:=by
   rintro b (h | ⟨q,ob,hq,hx⟩)
   ·exact .inl h
   ·obtain⟨o,rfl⟩:=cP H2 q ob hq
    rw[bm hi] at hq
    obtain⟨ob',ho,_⟩:=Option.map_eq_some_iff.1 hq
    exact .inr ⟨o,ob',ho,by rwa [hblk] at hx⟩
  have hK:bO w' w' (FB ⟨C'.w0,C'.F,C'.own,C'.hF,C'.nt,σt,n⟩ σ2 H2) (FB C' σn (bF ρ H2)):=bO.same fun b hx=>hFB b hx
  refine⟨⟨cW ρ e2,bF ρ H2,n' + d⟩,ae.here ⟨dr ρ r,?_,r,_,q2,rfl,rfl⟩,σn,?_⟩
  ·rw[ln (n:=n+d) hi (fun t cs hc=>?_),q1]
   ·rfl
   ·obtain⟨v,_,k2⟩:=hr2.env t _ hc
    simp only[VR,bM] at k2
    obtain⟨ad,_,h3⟩:=k2
    exact az ρ cs (eX.tree cs ad h3)
  ·refine⟨hr2.kO,hr2.tm,hr2.os,hr2.tape,hr2.output,hr2.size,hr2.frame,?_,?_,?_,fun q hq=>?_,fun q hq=>?_,by rw[hC0];exact Nat.le_add_right _ _,fun q B b hq hB hb=>?_⟩
   ·intro t c hc
    simp only[dX] at hc
    obtain⟨c',hd,rfl⟩:=Option.map_eq_some_iff.1 hc
    obtain⟨v,k1,k2⟩:=hr2.env t c' hd
    exact⟨v,k1,(VR.ck ρ c' v).2 (VR.keep hK _ _ (fun o _=>u3 o) k2)⟩
   ·intro q ob hq
    obtain⟨o,rfl⟩:=cP H2 q ob hq
    simp only[bm hi] at hq
    obtain⟨ob',ho,rfl⟩:=Option.map_eq_some_iff.1 hq
    obtain⟨B,m1,m2,m3,m4,m5⟩:=hr2.obj o ob' ho
    refine⟨B,by rw[u3];exact m1,m2,fun hb=>by simp only[bD,m3 hb];rfl,by simp only[bD,dS];exact m4,fun b hb=>?_⟩
    obtain⟨cur,n1,n2',n3,n4,n5,n6⟩:=m5 b hb
    simp only[bD,dO]
    exact⟨cur,n1,n2',n3,n4,n5,(aQ.ck ρ _ _).2 (aQ.keep hK _ _ (fun p _=>u3 p) n6)⟩
   ·intro q q' ob ob' b hq hq' hx hx'
    obtain⟨o,rfl⟩:=cP H2 q ob hq
    obtain⟨o',rfl⟩:=cP H2 q' ob' hq'
    simp only[bm hi] at hq hq'
    obtain⟨x,ho,_⟩:=Option.map_eq_some_iff.1 hq
    obtain⟨x',ho',_⟩:=Option.map_eq_some_iff.1 hq'
    rw[hblk] at hx hx'
    rw[hr2.inj o o' x x' b ho ho' hx hx']
   ·simp only at hq
    rw[u2 q (by omega)]
    exact hr2.nx _ (by simp only;omega)
   ·rw[hC0] at hq
    rw[u1 q hq]
    exact hr.ek q (by rw[hC0];exact hq)
   ·rw[hC0] at hq
    rw[u2 q hq] at hB
    exact hr2.new _ B b (by simp only;omega) hB hb
 cases e with
 | normal=>exact fin q
 | ret=>exact fin q
 | exit _=>exact q.elim
 | goto _=>exact q.elim
 | panic _=>exact q.elim
 | outgrown=>exact q.elim
theorem gQ.F0 {f:FuncId}{args:List CV}{H H1:List (Nat×Ob)}{n m d:Nat}{r0:CV}(l:List Nat)(hl:l.length=n){ks:List Nat}(hks:∀ k∈ks,k<n)(h:gQ P aj f args H n ks (iR r0 H1 (n+d)))(hk:DL l m=true)(hr:aC n args=true)(hH:cF n H=true)(ht:tree r0=true) :
  gQ P aj f (bJ (bZ l m) args) (bF (bZ l m) H) m (ks.map (bZ l m)) (iR r0 (bF (bZ l m) H1) (m+d)):=by
 subst hl
 refine (gQ.grow (AA hk) (zx hk) (fun p hp=>if_neg (by omega)) hks h hr hH fun r s h=>h.2.2).ret fun r s ⟨r1,s1,h1,h2,h3⟩=>?_
 obtain⟨k1,k2,k3⟩:=h1
 subst h3
 rw[h2,k1,fH _ _ ht,k2]
 exact⟨rfl,rfl,rfl⟩
theorem TL.z6 (ht0:aF P aj){o:Oper}{l:List Oper}{c:Call}{g:FuncId}{args:List CV}{K:St→Prop}{r0:CV}{H H1:List (Nat×Ob)}(ns ks:List Nat)(n d:Nat){mk:List Nat}(hmk:∀ k∈mk,k<n)(hb:gQ P aj g args H n mk (iR r0 H1 (n+d)))
  (hmo:∀ k∈mk.map (bZ ns s.nx),C.n0≤k∨∀ B b,C.σ0 k=Option.some B→B.gK=Option.some b→C.own b∨C.w0.heap.size≤b) (hmp:∀ k∈mk.map (bZ ns s.nx),∃ o ob,assoc s.heap o=Option.some ob∧ob.cells.any (ja k)=true) (hne:(s.env.all fun x=>cE x.2)=true) (hnr:((cN s.heap ks).all fun x=>cZ x.2.cells)=true)
  (hl:ns.length=n) (hk:DL ns s.nx=true) (hd:aW C.nt o.dst=true) (hg:bK ops s o=Option.some true) (ho:o.op=.call c) (hca:aK s c=Option.some (g,bJ (bZ ns s.nx) args))
  (hp:dE s.heap ks=Option.some (bF (bZ ns s.nx) H)) (ha:aC n args=true) (hH:cF n H=true) (ht:tree r0=true) (hx:jy ks s.nx (bF (bZ ns s.nx) H1) (cN s.heap ks)=true)
  (hK:TL P C ops l (St.put ⟨s.env,bF (bZ ns s.nx) H1++cN s.heap ks,s.nx+d⟩ o.dst r0) K):TL P C ops (o::l) s K:=by
 intro a w Q hr hQ
 have hw:=dy hr hg
 obtain⟨σ,hr⟩:=hr
 unfold wpList
 rw[if_pos hw]
 refine .inl ?_
 have hb':=hb.F0 ns hl hmk hk ha hH ht
 have hen:Enters P g:=by
  obtain⟨fn,code,hf,hbody,hnm,_⟩:=hb'
  exact⟨fn,hf,hnm,by simp[hbody]⟩
 simp only[jy,Bool.and_eq_true,List.all_eq_true,Bool.or_eq_true,decide_eq_true_eq] at hx
 refine E9 ht0 (jA.of hp) (tF.value ho hca hen) hb' (fun σ a w hr=>pB.of hr hmo hmp) ⟨fun t c hc=>List.all_eq_true.1 hne _ (a7 _ _ _ hc),fun o ob ho=>List.all_eq_true.1 hnr _ (a7 _ _ _ ho)⟩ ?_ hr _ _ ?_
 ·rintro r s1 ⟨_,h1,_⟩ p ob ob' h2 h3
  rw[h1] at h2
  have m3:=hx.2 _ (a7 _ _ _ h3)
  rw[dA] at h3
  rcases hx.1 _ (a7 _ _ _ h2) with hm | hm
  ·rw[if_pos (by simpa using hm)] at h3
   cases h3
  ·simp only at m3 hm
   omega
 ·rintro r s1 v w' σ' ⟨h1,h2,h3⟩ hr' hv _
  subst h1
  rw[h2,h3] at hr'
  rw[h2] at hv
  refine hK _ w' Q ⟨σ',hr'.put ?_ hv⟩ hQ
  intro t e
  rw[hr'.tm]
  rw[e] at hd
  simpa [aW] using hd
end
end Go.Can
