/- Lemmas. -/
import Derived.Test.YtlkmbdfhdknlgaaGreatW04
namespace Go.Can
open Go.RowKit List
def yZ (P:Program)(pc:FuncId->List CV->Option CV):Prop:=∀ g cs r,pc g cs=some r->ae P g cs r
section
variable {P:Program}{C:Cx}{U:Nat->Option OB}{s s':St}{a:Act}{w:World}{ops:Array Oper}{av:List (Nat×TI)}{mt:jh}{pc:FuncId->List CV->Option CV}{call:gD}
theorem Bf {o:Oper}(h:∀ t∈o.looksAt ops,assoc s'.env t=assoc s.env t):∀ x∈o.op.operands,ev s' x=ev s x:=λ x hx=>by
 cases x with
 | tmp t=>exact h t (mem_append_left _ (mem_filterMap.2 ⟨.tmp t,by simpa using hx,rfl⟩))
 | _=>rfl
theorem q8 {o:Oper}(h:∀ t∈o.looksAt ops,assoc s'.env t=assoc s.env t):ca ops s' o=ca ops s o:=by
 unfold ca
 cases hg:o.guard with
 | none=>rfl
 | some q=>
  obtain⟨j,want⟩:=q;simp only
  cases hj:(ops[j]?).bind (·.dst) with
  | none=>rfl
  | some t=>simp only;rw[h t (by simp[Oper.looksAt,hg,hj])]
theorem vA {c:Call}(h:∀ x∈c.operands,ev s' x=ev s x):jF mt s' c=jF mt s c:=by
 have ha:BK s' c.args.toList=BK s c.args.toList:=kU _ λ x hx=>h x (by simp only[Call.operands,Array.mem_append];exact .inr (by simpa using hx));unfold jF;split
 .rename_i f hf;unfold bK;rw[hf];simp only;rw[h f (by simp[Call.operands,hf]),ha]
 .rename_i r name hr;rw[h r (by simp[Call.operands,hr]),ha]
 .rfl
theorem FD {op:Op}(h:∀ x∈op.operands,ev s' x=ev s x):tz av s' op=tz av s op:=by
 cases op<;>simp only[tz]<;>first | exact FC _ h | skip
 case makeSlice t l c=>rw[h l US,h c US]
theorem cells?_view {c:CV}(h:∀ o,names o c=true->assoc s'.heap o=assoc s.heap o):cells? s' c=cells? s c:=by
 unfold cells?;split<;>first | rfl | skip
 rename_i o off n;rw[h o (by simp[names])]
theorem H4 {c:CV}(h:∀ o,names o c=true->assoc s'.heap o=assoc s.heap o):CC s' c=CC s c:=by
 unfold CC;split<;>first | rfl | skip
 rename_i o off n;rw[h o (by simp[names])]
theorem k9 {o:Oper}(hd:bj C.nt o.dst=true)(h:aQ C U s a w){c:CV}{v:Value}(hv:VR w (FB C U s.heap) U c v):aQ C U (s.put o.dst c) (a.put o.dst v) w:=
 h.put (λ t e=>by rw[h.tm];rw[e] at hd;simpa [bj] using hd) hv
theorem iC {s:St}{H:List (Nat×Ob)}{n k:Nat}{d:Option Tmp}{r:Option CV}{w:List (Nat×Option Ob)}(hH:∀ p,assoc H p=lH (assoc s.heap) w p)(hn:n=s.nx+k):fs (qu ⟨s.env,H,n⟩ d r)=ap d ⟨r,w,k⟩ (fs s):=by
 unfold fs ap;congr 1
 .funext t;exact yr t
 .funext p;rw[p5.1];exact hH p
 .rw[p5.2];exact hn
def Cx.mC (C:Cx)(w:World)(U:Nat->Option OB)(H rest:List (Nat×Ob))(nt:Nat)(hF:Mu w (FB C U rest) (λ b=>∃ o ob,assoc H o=some ob/\a6 U o=some b))(n:Nat):Cx:=
 ⟨w,FB C U rest,λ b=>∃ o ob,assoc H o=some ob/\a6 U o=some b,hF,nt,U,n⟩
structure pM (H rest G:List (Nat×Ob)):Prop where
 l:∀ o ob,assoc H o=some ob->assoc G o=some ob
 r:∀ o ob,assoc rest o=some ob->assoc G o=some ob
 lr:∀ o ob,assoc G o=some ob->assoc H o=some ob\/assoc rest o=some ob
 d:∀ o ob SN,assoc H o=some ob->assoc rest o=some SN->False
theorem pN {H rest G:List (Nat×Ob)}(hp:pM H rest G){b:Nat}:FB C U G b↔FB C U rest b\/∃ o ob,assoc H o=some ob/\a6 U o=some b:=by
 constructor
 .rintro (h | ⟨o,ob,ho,hb⟩)
  .exact .inl (.inl h)
  .rcases hp.lr o ob ho with h | h
   .exact .inr ⟨o,ob,h,hb⟩
   .exact .inl (.inr ⟨o,ob,h,hb⟩)
 .rintro ((h | ⟨o,ob,ho,hb⟩) | ⟨o,ob,ho,hb⟩)
  .exact .inl h
  .exact .inr ⟨o,ob,hp.r o ob ho,hb⟩
  .exact .inr ⟨o,ob,hp.l o ob ho,hb⟩
theorem aQ.mC (h:aQ C U s a w){H rest:List (Nat×Ob)}(hp:pM H rest s.heap)(hF:Mu w (FB C U rest) (λ b=>∃ o ob,assoc H o=some ob/\a6 U o=some b))(nt:Nat){args:List CV}{vs:List Value}(hv:aZ w (FB C U s.heap) U args vs)(ha:args.length<=nt) :
  aQ (C.mC w U H rest nt hF s.nx) U ⟨(enter args).env,H,s.nx⟩ { tmps:=vs.toArray++Array.replicate (nt-vs.toArray.size) undef,defers:=[] } w:=by
 have hl:=aZ.length _ _ hv;have X6:∀ b,FB (C.mC w U H rest nt hF s.nx) U H b->FB C U s.heap b:=λ b hb=>by
  rw[pN hp];exact hb
 refine⟨rfl,by simp[Cx.mC];omega,rfl,rfl,rfl,Nat.le_refl _,λ _ _ _=>rfl,?_,?_,λ o o' ob SN b h1 h2=>h.inj o o' ob SN b (hp.l _ _ h1) (hp.l _ _ h2),h.nx,λ _ _=>rfl,Nat.le_refl _,λ o B b ho hB _=>(by rw[h.nx o ho] at hB;cases hB)⟩
 .intro t c hc;obtain⟨_,h2⟩:=fW args 0 t c hc;obtain⟨v,h3,h4⟩:=aZ.get _ _ hv t c yC;refine⟨v,?_,VR.bD (cL.same X6) _ _ (λ _ _=>rfl) h4⟩;have P1:=(List.getElem?_eq_some_iff.1 h3).1;simp only;rw[Array.getElem?_append_left (by simpa using P1)]
  simpa using h3
 .intro o ob ho;obtain⟨B,m1,m2,m3,m4,m5⟩:=h.obj o ob (hp.l o ob ho);refine⟨B,m1,m2,m3,m4,λ b hb=>?_⟩;obtain⟨cur,n1,n2,n3,n4,n5,n6⟩:=m5 b hb;refine⟨cur,n1,n2,?_,.inl ⟨o,ob,ho,by simp[a6,m1,hb]⟩,n5,aZ.bD (cL.same X6) _ _ (λ _ _=>rfl) n6⟩;rintro (hf | ⟨o',SN,Tc,SS⟩)
  .exact n3 hf
  .have:o'=o:=h.inj o' o SN ob b (hp.r _ _ Tc) (hp.l _ _ ho) SS (by simp[a6,m1,hb]);subst this;exact hp.d _ _ _ ho Tc
theorem aQ.backF (h:aQ C U s a w){H rest:List (Nat×Ob)}(hp:pM H rest s.heap){hF:Mu w (FB C U rest) (λ b=>∃ o ob,assoc H o=some ob/\a6 U o=some b)}{nt:Nat}{σ':Nat->Option OB}{s1:St}{a':Act}{w':World}(h':aQ (C.mC w U H rest nt hF s.nx) σ' s1 a' w')(hd:∀ o ob SN,assoc s1.heap o=some ob->assoc rest o=some SN->False) :
  aQ C σ' ⟨s.env,s1.heap++rest,s1.nx⟩ a w'/\∀ c v,VR w' (FB (C.mC w U H rest nt hF s.nx) σ' s1.heap) σ' c v->VR w' (FB C σ' (s1.heap++rest)) σ' c v:=by
 have SR:∀ b,b<w.heap.size->(¬ ∃ o ob,assoc H o=some ob/\a6 U o=some b)->w'.heap[b]? = w.heap[b]?:=λ b hb hn=>h'.frame b hb hn;have P1:∀ {o ob},assoc s.heap o=some ob->o<s.nx:=λ {o ob} ho=>by
  refine Nat.lt_of_not_le λ hle=>?_;obtain⟨B,e1,_⟩:=h.obj o ob ho;rw[h.nx o hle] at e1;cases e1
 have UN:∀ {o},o<s.nx->σ' o=U o:=λ {o} ho=>h'.gH o ho;have Vd:∀ o ob b,assoc s1.heap o=some ob->a6 σ' o=some b->(∃ o ob,assoc H o=some ob/\a6 U o=some b)\/w.heap.size<=b:=λ o ob b ho hb=>by
  obtain⟨B,m1,_,_,_,m5⟩:=h'.obj o ob ho;obtain⟨cur,_,_,_,n4,_⟩:=m5 b yBw;exact n4
 have hnot:∀ o ob b,assoc s1.heap o=some ob->a6 σ' o=some b->¬ FB C U rest b:=λ o ob b ho hb=>by
  obtain⟨B,m1,_,_,_,m5⟩:=h'.obj o ob ho;obtain⟨cur,_,_,n3,_⟩:=m5 b yBw;exact n3
 have Wp:∀ {o ob b},assoc rest o=some ob->(a6 σ' o=some b↔a6 U o=some b):=λ {o ob b} ho=>by
  unfold a6;rw[UN (P1 (hp.r _ _ ho))]
 have hFe:∀ b,FB C σ' (s1.heap++rest) b↔FB (C.mC w U H rest nt hF s.nx) σ' s1.heap b:=λ b=>by
  constructor
  .rintro (hb | ⟨o,ob,ho,hb⟩)
   .exact .inl (.inl hb)
   .rw[iK] at ho;split at ho
    .rename_i y hy;cases ho;exact .inr ⟨o,_,hy,hb⟩
    .exact .inl (.inr ⟨o,ob,ho,(Wp ho).1 hb⟩)
  .rintro ((hb | ⟨o,ob,ho,hb⟩) | ⟨o,ob,ho,hb⟩)
   .exact .inl hb
   .refine .inr ⟨o,ob,?_,(Wp ho).2 hb⟩;rw[iK];split
    .rename_i y hy;exact (hd _ _ _ hy ho).elim
    .exact ho
   .exact .inr ⟨o,ob,by rw[iK,ho],hb⟩
 have hkw:cL w w' (FB C U s.heap) (FB C σ' (s1.heap++rest)):=by
  have Ty:∀ b,¬ FB C U s.heap b->¬ ∃ o ob,assoc H o=some ob/\a6 U o=some b:=λ b hf hx=>hf ((pN hp).2 (.inr hx));have hF2:∀ b,b<w.heap.size->¬ FB C U s.heap b->¬ FB C σ' (s1.heap++rest) b:=λ b hb hf hx=>by
   rw[hFe] at hx;rcases hx with hx | ⟨o,ob,ho,WV⟩
   .exact hf ((pN hp).2 (.inl hx))
   .rcases Vd o ob b ho WV with h1 | h1
    .exact Ty b hf h1
    .omega
  refine⟨λ ad u hf hu=>?_,λ r _ hf hu _=>?_⟩
  .have hl:=World.block_lt_of_cell? w ad hu;exact⟨by rw[World.cell?_of_block (w:=w) (SR ad.block hl (Ty _ hf))];exact hu,hF2 _ hl hf⟩
  .have hl:=(Array.getElem?_eq_some_iff.1 hu).1;exact⟨by rw[SR r hl (Ty _ hf)];exact hu,hF2 _ hl hf⟩
 have Yu:∀ b,(∃ o ob,assoc H o=some ob/\a6 U o=some b)->C.own b\/C.w0.heap.size<=b:=λ b ⟨o,ob,ho,hb⟩=>by
  obtain⟨B,m1,_,_,_,m5⟩:=h.obj o ob (hp.l _ _ ho);obtain⟨cur,_,_,_,n4,_⟩:=m5 b yBw;exact n4
 refine⟨⟨h.pB,h.tm,h'.os.trans h.os,h'.tape.trans h.tape,h'.output.trans h.output,Nat.le_trans h.size h'.size,?_,?_,?_,?_,h'.nx,λ o ho=>(h'.gH o (Nat.lt_of_lt_of_le ho h.low)).trans (h.gH o ho),Nat.le_trans h.low h'.low,λ o B b ho hB hb=>?_⟩,λ c v hv=>VR.bD (cL.same λ b hb=>(hFe b).1 hb) _ _ (λ _ _=>rfl) hv⟩
 .intro b hb Ty;rw[SR b (Nat.lt_of_lt_of_le hb h.size) λ hx=>?_]
  .exact h.frame b hb Ty
  .rcases Yu b hx with h1 | h1
   .exact Ty h1
   .omega
 .intro t c hc;obtain⟨v,k1,k2⟩:=h.env t c hc;refine⟨v,k1,VR.bD hkw _ _ (λ o ho=>?_) k2⟩;refine h'.gH o (Nat.lt_of_not_le λ hle=>?_);obtain⟨B,hB⟩:=VR.refs _ _ o k2 ho;rw[h.nx o hle] at hB;cases hB
 .intro o ob ho;rw[iK] at ho;split at ho
  .rename_i y hy;cases ho;obtain⟨B,m1,m2,m3,m4,m5⟩:=h'.obj o _ hy;refine⟨B,m1,m2,m3,m4,λ b hb=>?_⟩;obtain⟨cur,n1,n2,n3,n4,n5,n6⟩:=m5 b hb;refine⟨cur,n1,n2,λ hf=>n3 (.inl hf),?_,n5,aZ.bD (cL.same λ b hb=>(hFe b).1 hb) _ _ (λ _ _=>rfl) n6⟩;rcases n4 with n4 | n4
   .exact Yu b n4
   .exact .inr (Nat.le_trans h.size n4)
  .have hs:=hp.r _ _ ho;obtain⟨B,m1,m2,m3,m4,m5⟩:=h.obj o ob hs;refine⟨B,by rw[UN (P1 hs)];exact m1,m2,m3,m4,λ b hb=>?_⟩;obtain⟨cur,n1,n2,n3,n4,n5,n6⟩:=m5 b hb;have UE:=(Array.getElem?_eq_some_iff.1 n1).1;have Ty:¬ ∃ o' SN,assoc H o'=some SN/\a6 U o'=some b:=by
    rintro⟨o',SN,Tc,SS⟩;have:o'=o:=h.inj o' o SN ob b (hp.l _ _ Tc) hs SS (by simp[a6,m1,hb]);subst this;exact hp.d _ _ _ Tc ho
   refine⟨cur,by rw[SR b UE Ty];exact n1,n2,n3,n4,n5,aZ.bD hkw _ _ (λ p Zn=>?_) n6⟩;refine h'.gH p (Nat.lt_of_not_le λ hle=>?_);obtain⟨B2,Th⟩:=aZ.refs _ _ p n6 Zn;rw[h.nx p hle] at Th;cases Th
 .intro o o' ob SN b ho Tc hb SS;rw[iK] at ho Tc;have cross:∀ {p q x y},assoc s1.heap p=some x->a6 σ' p=some b->assoc rest q=some y->a6 σ' q=some b->False:=λ {p q x y} h1 h2 h3 h4=>
   hnot p x b h1 h2 (.inr ⟨q,y,h3,(Wp h3).1 h4⟩)
  cases c1:assoc s1.heap o with
  | some y=>
   cases c2:assoc s1.heap o' with
   | some y'=>exact h'.inj o o' y y' b c1 c2 hb SS
   | none=>
    rw[c2] at Tc;exact (cross c1 hb Tc SS).elim
  | none=>
   rw[c1] at ho
   cases c2:assoc s1.heap o' with
   | some y'=>exact (cross c2 SS ho hb).elim
   | none=>
    rw[c2] at Tc;exact h.inj o o' ob SN b (hp.r _ _ ho) (hp.r _ _ Tc) ((Wp ho).1 hb) ((Wp Tc).1 SS)
 .rcases Nat.lt_or_ge o s.nx with hl | WD
  .rw[UN hl] at hB;exact h.new o B b ho hB hb
  .rcases h'.new o B b WD hB hb with n4 | n4
   .exact Yu b n4
   .exact .inr (Nat.le_trans h.size n4)
theorem s8 (UT:aF P av){o:Oper}{g:FuncId}{cs:List CV}{R:CV->St->Prop}{H rest:List (Nat×Ob)}(hp:pM H rest s.heap)(he:ql P C s o g cs)(hb:Body P av g cs H s.nx R)(hR:∀ r s1,R r s1->∀ o ob SN,assoc s1.heap o=some ob->assoc rest o=some SN->False)(h:aQ C U s a w)(K:Act->World->Prop)(Q:Exit->Act->World->Prop)
  (hK:∀ r s1 v w' σ',R r s1->aQ C σ' ⟨s.env,s1.heap++rest,s1.nx⟩ a w'->VR w' (FB C σ' (s1.heap++rest)) σ' r v->(∀ p,p<s.nx->σ' p=U p)->K (a.put o.dst v) w'):o.wp P a w K Q:=by
 obtain⟨fn,code,hf,T5,hn,hlen,hT⟩:=hb;obtain⟨vs,I1,Tr⟩:=he U a w h;have hF:Mu w (FB C U rest) (λ b=>∃ o ob,assoc H o=some ob/\a6 U o=some b):=⟨λ b hb=>DX h b ((pN hp).2 (.inl hb)),h.gok.mono λ b hb=>(pN hp).2 hb⟩;have h0:=h.mC hp hF fn.ntmps Tr hlen;have Xa:Calls P g vs.toArray w λ e w'=>∃ v r s',e=.returned v/\R r s'/\∃ σ',aQ C σ' ⟨s.env,s'.heap++rest,s'.nx⟩ a w'/\VR w' (FB C σ' (s'.heap++rest)) σ' r v/\(∀ p,p<s.nx->σ' p=U p):=by
  refine calls_of_wp hf T5 (wp_mono (hT (C.mC w U H rest fn.ntmps hF s.nx) rfl rfl _ _ ⟨_,h0⟩) λ e a' w' ⟨s1,q,σ1,TU⟩=>?_);have fin:aa (C.mC w U H rest fn.ntmps hF s.nx) (λ s'=>∃ r,bJ av fn s'=some r/\R r s') s1->a'.defers=[]/\∃ v,(results fn a'.tmps).run P w'=.ok v w'/\(∃ Wf r s',Ending.returned v=.returned Wf/\R r s'/\∃ σ',aQ C σ' ⟨s.env,s'.heap++rest,s'.nx⟩ a w'/\VR w' (FB C σ' (s'.heap++rest)) σ' r Wf/\(∀ p,p<s.nx->σ' p=U p)):=λ⟨s2,⟨r,q1,q2⟩,hl⟩=>by
   obtain⟨σ2,Tb⟩:=hl _ _ ⟨σ1,TU⟩;obtain⟨v,k1,k2⟩:=iI (P:=P) UT Tb q1;obtain⟨b1,b2⟩:=h.backF hp Tb (hR r s2 q2);exact⟨Tb.pB,v,k1,v,r,s2,rfl,q2,σ2,b1,b2 _ _ k2,Tb.gH⟩
  cases e with
  | normal=>exact fin q
  | ret=>exact fin q
  | exit _=>exact q.elim
  | goto _=>exact q.elim
  | panic _=>exact q.elim
  | outgrown=>exact q.elim
 unfold Oper.wp;rw[I1];refine Xa.mono λ e w' ⟨v,r,s',he,hR,σ',S0,hv,ho⟩=>?_;subst he;exact hK r s' v w' σ' hR S0 hv ho
theorem N6 (ht:aF P av)(VD:jM P mt)(SA:g7 P av call)(gQ:yZ P pc){i m:Nat}{o:Oper}{E:Ef}{rs:List Nat}{nb:Bool}{ab:Option (Nat×Nat)}{lo up:Nat}(h:x7 av mt ops call pc lo up m s o=some (E,rs,nb,ab))(hd:bj C.nt o.dst=true)(hi:ops[i]? = some o)
  (UF:eP ⟨o.looksAt ops,rs,nb,ab⟩ (fs s') (fs s)) (hr:aQ C U s' a w) (hm:U m=none) (V6:C.n0<=m) (VC:m<s'.nx) {Q':Exit->Act->World->Prop} (K:Act->World->Prop)
  (hK:∀ a' w' σ' UG,fs UG=ap o.dst E (fs s')->aQ C σ' UG a' w'->(∀ p,p≠m->p<s'.nx->σ' p=U p)->K a' w'):wpOp P ops Q' i K a w:=by
 have Vc:∀ t∈o.looksAt ops,assoc s'.env t=assoc s.env t:=UF.1;have Vd:∀ p∈rs,assoc s'.heap p=assoc s.heap p:=UF.2.1;have To:=Bf Vc;have VV:=q8 (ops:=ops) Vc;have Td:∀ t,o.dst=some t->t<a.tmps.size:=λ t e=>by rw[hr.tm];rw[e] at hd;simpa [bj] using hd
 unfold x7 at h;unfold wpOp;simp only[hi];split at h
 .cases h
 .rename_i hg;cases h;rw[hg] at VV;have hw:Region.wanted o (yielded ops a.tmps)=false:=by
   unfold ca at VV;split at VV
   .cases VV
   .rename_i j want e;split at VV
    .cases VV
    rename_i t hj;exact kN ⟨U,hr⟩ e hj VV
  rw[if_neg (by simp[hw])];exact hK _ _ U (s'.put o.dst (.cF [])) (pz _ _ _) (hr.put Td (by simp only[VR,aZ];exact⟨[],rfl,rfl⟩)) λ _ _ _=>rfl
 .rename_i hg;rw[hg] at VV;have hw:=eW (ops:=ops) ⟨U,hr⟩ VV;rw[if_pos hw];refine .inl ?_;split at h
  .rename_i c hu;have SG:=iy hu;split at h
   .rename_i g cs hc;have Z7:jF mt s' c=some (g,cs):=by
     rw[vA (λ x hx=>To x (by rw[SG];exact hx)),hc]
    split at h
    .rename_i r hp;cases h;split at hp
     .rename_i SJ;have hP:=gQ g cs _ hp;exact Ga (ql.to VD SG Z7 hP.1) SJ hP hr _ _ λ v w' S0 hv=>hK _ _ U (s'.put o.dst _) (pz _ _ _) (k9 hd S0 hv) λ _ _ _=>rfl
     .cases hp
    .split at h
     .rename_i x H n hx;split at h
      .rename_i hn;cases h;obtain⟨hn,SF⟩:=hn;have hB:=SA _ _ _ _ _ _ _ hx;have hE:ka P g:=by
        obtain⟨fn,c,h1,h2,h3,_⟩:=hB;exact⟨fn,h1,h3,by simp[h2]⟩
       have ZZ:s'.nx=s.nx:=UF.2.2.1 rfl;have hag4:∀ p,IX lo up (fq cs) p=true->assoc s'.heap p=assoc s.heap p:=λ p hp=>by
        simp only[IX,Bool.or_eq_true,decide_eq_true_eq,contains_eq_mem] at hp;rcases hp with (hp | hp) | hp
        .exact UF.2.2.2 _ rfl p (.inl hp)
        .exact UF.2.2.2 _ rfl p (.inr hp)
        .exact Vd p hp
       have TN:∀ p,assoc (uv lo up (fq cs) s.heap) p=if IX lo up (fq cs) p then assoc s'.heap p else none:=λ p=>by
        rw[ou];split
        .rename_i hp;rw[hag4 p hp]
        .rfl
       have hparts:pM (uv lo up (fq cs) s.heap) (EX lo up (fq cs) s'.heap) s'.heap:=by
        refine⟨λ p y hp=>?_,λ p y hp=>?_,λ p y hp=>?_,λ p y z hp hq=>?_⟩
        .rw[TN] at hp;split at hp
         .exact hp
         .cases hp
        .rw[gA] at hp;split at hp
         .cases hp
         .exact hp
        .rw[TN,gA];split
         .exact .inl hp
         .exact .inr hp
        .rw[TN] at hp;rw[gA] at hq;split at hp
         .rename_i X1;rw[if_pos X1] at hq;cases hq
         .cases hp
       have VF:∀ p y,assoc H p=some y->IX lo up (fq cs) p=true:=λ p y hp=>by
        have:=all_eq_true.1 SF _ (bA _ _ _ hp);exact this
       rw[<- ZZ] at hB;refine s8 ht hparts (ql.to VD SG Z7 hE) hB (λ r s1 hR p y z hp hq=>?_) hr _ _ λ r s1 v w' σ' hR S0 hv hold=>?_
       .obtain⟨_,e1,_⟩:=hR;rw[e1] at hp;rw[gA,if_pos (VF p y hp)] at hq;cases hq
       .obtain⟨rfl,e1,e2⟩:=hR;refine hK _ _ σ' (qu ⟨s'.env,s1.heap++EX lo up (fq cs) s'.heap,s1.nx⟩ o.dst (some r)) ?_ (k9 hd S0 hv) λ p _ P1=>hold p P1;refine iC (s:=s') (λ p=>?_) (by rw[e2,ZZ];omega);rw[e1,iK,gA];have Z6:=Ls (uv lo up (fq cs) s.heap) H p;unfold lH at Z6 |-;by_cases X1:IX lo up (fq cs) p=true
        .rw[if_pos X1]
         cases T7:assoc (vz (uv lo up (fq cs) s.heap) H) p with
         | some y=>
          rw[T7] at Z6;simp only at Z6 |-;rw[Z6];cases assoc H p<;>rfl
         | none=>
          rw[T7] at Z6;simp only at Z6 |-;rw[TN,if_pos X1] at Z6;rw[Z6];cases assoc H p<;>rfl
        .rw[if_neg X1];have hH:assoc H p=none:=by
          cases T7:assoc H p with
          | none=>rfl
          | some y=>exact absurd (VF p y T7) X1
         rw[hH];simp only
         cases T7:assoc (vz (uv lo up (fq cs) s.heap) H) p with
         | none=>rfl
         | some y=>
          exfalso;have hS:assoc (uv lo up (fq cs) s.heap) p=none:=by rw[TN,if_neg X1]
          exact Fk hS hH T7
      .cases h
     .cases h
   .cases h
  .split at h
   .rename_i c hq;cases h;have UH:fD av s' o.op=some c:=by
     by_cases hl:(∃ t x,o.op=.load t x)\/∃ t x lo hi mx,o.op=.slice t x lo hi mx
     .refine HO (s:=s) (λ x hx=>(To x hx).symm) hq λ x hx v hv p ob hn hp=>?_;rw[Vd p ?_]
      .exact hp
      .rcases hl with ⟨t,y,e⟩ | ⟨t,y,lo,X1,mx,e⟩
       .have:J0 s o.op=M7 s o.op:=by rw[e];rfl
        rw[this];exact Gy hx hv hn
       .have:J0 s o.op=M7 s o.op:=by rw[e];rfl
        rw[this];exact Gy hx hv hn
     .rw[<- vi (s:=s) o.op (λ x hx=>(To x hx).symm) (λ t x e=>hl (.inl ⟨t,x,e⟩)) (λ t x lo hi mx e=>hl (.inr ⟨t,x,lo,hi,mx,e⟩))];exact hq
    obtain⟨z,k1,k2⟩:=AF ht hr o UH;unfold Oper.wp;rw[k1];exact hK _ _ U (s'.put o.dst c) (pz _ _ _) (k9 hd hr k2) λ _ _ _=>rfl
   .split at h
    .rename_i c rs' hv;cases h;unfold GY at hv;split at hv
     .rename_i t u x SG;split at hv
      .rename_i c' hc;cases hv;have hx:ev s' x=ev s x:=To x (by rw[SG];simp[Op.operands]);have T7:s7 av s' t u x=some c:=by
        rw[<- hc];unfold s7;rw[hx]
        cases hxv:ev s x with
        | none=>rfl
        | some v=>
         have:cells? s' v=cells? s v:=cells?_view λ p hp=>Vd p (by simp only[hxv];exact wu hp)
         cases dO av t with
         | none=>cases v<;>rfl
         | some d=>
          cases dO av u with
          | none=>cases v<;>cases d<;>rfl
          | some d'=>cases v<;>cases d<;>cases d'<;>first | rfl | simp only[this]
       obtain⟨z,k1,k2⟩:=DE ht hr T7;have k3:(execOp a.eval o).run P w=.ok (.value z) w:=by
        simp[execOp,SG,k1]
       unfold Oper.wp;rw[k3];exact hK _ _ U (s'.put o.dst c) (pz _ _ _) (k9 hd hr k2) λ _ _ _=>rfl
      .cases hv
     .cases hv
    split at h
    .rename_i ob f hv;cases h;have Vq:tz av s' o.op=some (ob,f):=by rw[FD To,hv]
     obtain⟨z,w',B,k1,k2⟩:=H8 ht hr hm V6 VC Td Vq;unfold Oper.wp;rw[k1];refine hK _ _ _ _ ?_ k2 λ p hp _=>by simp[sig,hp]
     exact iC (s:=s') (k:=0) (d:=o.dst) (r:=some (f m)) (λ p=>by simp only[assoc,lH];by_cases e:m=p<;>simp[e]) rfl
    .split at h
     .rename_i t x v SG;split at h
      .rename_i p ob hc;cases h;have hx:ev s' x=ev s x:=To x (by rw[SG];simp[Op.operands]);have hv:ev s' v=ev s v:=To v (by rw[SG];simp[Op.operands]);unfold Q1 at hc;split at hc
       .rename_i p' off c i' h1 h2 h3;split at hc
        .cases hc
        .rename_i SN Uv;split at hc
         .cases hc
         .rename_i Vx;split at hc
          .rename_i hlen;cases hc;have hob':assoc s'.heap p=some SN:=by rw[Vd p xr];exact Uv
           have Sz:uS av s' t x v=some { s' with heap:=vc s'.heap p { SN with cells:=gX SN.cells off c.cells } }:=by
            unfold uS;rw[hx,hv,h1,h2,h3];simp only[hob'];rw[if_neg Vx,if_pos hlen]
           obtain⟨w',k1,k2,_⟩:=zX ht hr SG Sz;unfold Oper.wp;rw[k1];refine hK _ _ U _ ?_ (k2.del undef) λ _ _ _=>rfl;refine iC (s:=s') (k:=0) (d:=o.dst) (r:=none) (λ q=>?_) rfl;rw[fX];simp only[lH,assoc];by_cases e:p=q
           .rw[if_pos e,if_pos e,<- e,hob'];rfl
           .rw[if_neg e,if_neg e]
          .cases hc
       .cases hc
      .cases h
     .rename_i cl SG;split at h
      .rename_i x y t t' VY ha TS;split at h
       .rename_i e;subst e;split at h
        .rename_i p q hp hq;split at h
         .rename_i ob k rm hc;cases h;have toA:∀ {α:Type} {x:Array α} {l:List α},x.toList=l->x=l.toArray:=λ {α x l} e=>by rw[<- e]
          have Sx:=toA ha;have hx:ev s' x=some p:=by rw[To x (by rw[SG];simp[Op.operands,Call.operands,Sx])];exact hp
          have hy:ev s' y=some q:=by rw[To y (by rw[SG];simp[Op.operands,Call.operands,Sx])];exact hq
          have hn:s'.nx=s.nx:=UF.2.2.1 rfl;have Z9:tM av t p (CC s' p) (cells? s' q)=some (ob,k,rm):=by
           rw[H4 (λ o' Tc=>Vd o' (mem_append_left _ (wu Tc))),cells?_view (λ o' Tc=>Vd o' (mem_append_right _ (wu Tc)))];exact hc
          have happ:=FF (d:=o.dst) hx hy Z9;obtain⟨z,w',B,k1,k2⟩:=yi ht hr Td SG VY Sx (toA TS) happ;unfold Oper.wp;rw[k1];refine hK _ _ _ _ ?_ k2 λ p hp P1=>by simp[sig,Nat.ne_of_lt P1]
          have XC:fs (qu ⟨s'.env,(s'.nx,ob)::N9 s'.heap rm,s'.nx+1⟩ o.dst (some (.a7 s'.nx 0 k)))=ap o.dst ⟨some (.a7 s'.nx 0 k),(s'.nx,some ob)::rmL rm,1⟩ (fs s'):=by
           refine iC (s:=s') (k:=1) (λ r=>?_) rfl;simp only[assoc,lH];by_cases e:s'.nx=r
           .rw[if_pos e,if_pos e]
           .rw[if_neg e,if_neg e]
            cases rm with
            | none=>simp only[N9,rmL,assoc]
            | some o2=>
             simp only[N9,rmL,fG,assoc];by_cases e2:o2=r
             .rw[if_pos e2,if_pos e2]
             .rw[if_neg e2,if_neg e2]
          rw[<- hn];exact XC
         .cases h
        .cases h
       .cases h
      .cases h
     .cases h
end
abbrev Er:=Ef×List Nat×Bool×Option (Nat×Nat)
instance : Inhabited Er := ⟨(⟨none, [], 0⟩, [], false, none)⟩
def jS (o:Oper):Bool:=match o.op with
 | .alloc _=>true
 | .box _ _=>true
 | .buildSlice _ _ _=>true
 | .makeSlice _ _ _=>true
 | .store _ _ _=>true
 | .call c=>match c.callee with
  | .builtin .append=>true
  | .builtin _=>false
  | _=>true
 | _=>false
def qF (o:Oper):Bool:=!jS o && match o.op with
 | .load _ _=>false
 | .slice _ _ _ _ _=>false
 | .convert _ _ _=>false
 | _=>true
def Kg (ops:Array Oper):List Nat->List Nat->Bool
 | _,[]=>true
 | pre,i::r=>(match ops[i]? with
   | some o=>o.after.all λ e=>!Region.binds .any e || pre.contains e.on
   | none=>false) && Kg ops (i::pre) r
def zw (ops:Array Oper)(dyn:List (Nat×Nat))(i j:Nat):Bool:=match ops[i]?,ops[j]? with
 | some oi,some oj=>oi.apart ops oj && (dyn.contains (i,j) || (!jS oi && !jS oj) || qF oi || qF oj)
 | _,_=>false
def KI (ms:List (Nat×Nat)):List Edge->Nat->Nat
 | [],m=>m
 | e::l,m=>KI ms l (if Region.binds .any e=true then m ||| (1 <<< e.on) ||| (assoc ms e.on).getD 0 else m)
def KH (ops:Array Oper)(ms:List (Nat×Nat))(j:Nat):Nat:=match ops[j]? with
 | some o=>KI ms o.after.toList 0
 | none=>0
def Cv (ops:Array Oper)(dyn:List (Nat×Nat))(b:Bool):List Nat->List (Nat×Nat)->List Nat->Bool
 | _,_,[]=>true
 | acc,ms,j::r=>let m:=KH ops ms j
  (acc.all λ i=>m.testBit i || ((!b || ((ops[i]?).bind cz).isNone) && zw ops dyn i j)) && Cv ops dyn b (j::acc) ((j,m)::ms) r
def wU (ops:Array Oper)(b:Bool)(ord:List Nat)(dyn:List (Nat×Nat)):Bool:=
 decide ord.Nodup && ((range ops.size).all λ j=>ord.contains j) && (ord.all λ i=>decide (i<ops.size)) && Kg ops [] ord && Cv ops dyn b [] [] ord
def EB (w:List (Nat×Option Ob)):Option (Nat×Nat)->Bool
 | none=>true
 | some r=>w.all λ p=>decide (r.1<=p.1) && decide (p.1<r.2)
theorem pZ (w:List (Nat×Option Ob)):EB w none=true:=rfl
theorem xi (r:Option (Nat×Nat)):EB [] r=true:=by cases r<;>rfl
def xQ (x y:Er):Bool:=
 (x.1.w.all λ p=>!y.2.1.contains p.1 && (y.1.w.all λ q=>q.1 != p.1)) && (y.1.w.all λ q=>!x.2.1.contains q.1) && (!y.2.2.1 || x.1.k == 0) && (!x.2.2.1 || y.1.k == 0) && EB x.1.w y.2.2.2 && EB y.1.w x.2.2.2
section
variable {P:Program}{C:Cx}{s s':St}{ops:Array Oper}{av:List (Nat×TI)}{mt:jh}{pc:FuncId->List CV->Option CV}{call:gD}
theorem HQ {lo hi m:Nat}{o:Oper}{x:Er}(h:x7 av mt ops call pc lo hi m s o=some x)(hl:jS o=false):x.1.w=[]/\x.1.k=0/\x.2.2.1=false/\x.2.2.2=none:=by
 unfold x7 at h;split at h
 .cases h
 .cases h;exact⟨rfl,rfl,rfl,rfl⟩
 .split at h
  .rename_i c hu;have SG:=iy hu;exfalso;unfold cz at hu;rw[SG] at hu;simp only at hu;simp only[jS,SG] at hl;cases SA:c.callee<;>rw[SA] at hu hl<;>simp at hu hl
  .split at h
   .cases h;exact⟨rfl,rfl,rfl,rfl⟩
   .split at h
    .cases h;exact⟨rfl,rfl,rfl,rfl⟩
    split at h
    .rename_i ob f hv;exfalso;revert hl hv;cases SG:o.op<;>simp[jS,SG,tz,DK]
    .split at h
     .rename_i SG;simp[jS,SG] at hl
     .rename_i cl SG;split at h
      .rename_i SA _ _;simp[jS,SG,SA] at hl
      .cases h
     .cases h
theorem JH {lo hi m:Nat}{o:Oper}{x:Er}(h:x7 av mt ops call pc lo hi m s o=some x)(hl:qF o=true):x.2.1=[]:=by
 simp only[qF,Bool.and_eq_true,Bool.not_eq_true'] at hl;obtain⟨hl,hs⟩:=hl;unfold x7 at h;split at h
 .cases h
 .cases h;rfl
 .split at h
  .rename_i c hu;have SG:=iy hu;exfalso;unfold cz at hu;rw[SG] at hu;simp only at hu;simp only[jS,SG] at hl;cases SA:c.callee<;>rw[SA] at hu hl<;>simp at hu hl
  .split at h
   .cases h;simp only;unfold J0;split
    .rename_i SG;simp[SG] at hs
    .rename_i SG;simp[SG] at hs
    .rfl
   .split at h
    .rename_i c' rs' hv;exfalso;unfold GY at hv;split at hv
     .rename_i SG;simp[SG] at hs
     .cases hv
    split at h
    .cases h;rfl
    .split at h
     .rename_i SG;simp[jS,SG] at hl
     .rename_i cl SG;split at h
      .rename_i SA _ _;simp[jS,SG,SA] at hl
      .cases h
     .cases h
theorem QH {d d':Option Tmp}{V V':List Nat}{x y:Er}(h:xQ x y=true)(s1:∀ t,d=some t->t∉V')(s2:∀ t,d'=some t->t∉V)(s3:∀ t,d=some t->d'≠some t):IS d d' x.1 y.1 ⟨V,x.2.1,x.2.2.1,x.2.2.2⟩ ⟨V',y.2.1,y.2.2.1,y.2.2.2⟩:=by
 simp only[xQ,Bool.and_eq_true,all_eq_true,Bool.not_eq_true',bne_iff_ne,Bool.or_eq_true,beq_iff_eq] at h;obtain⟨⟨⟨⟨⟨h1,h2⟩,h3⟩,h4⟩,h5⟩,h6⟩:=h;refine⟨s1,s2,s3,λ o z hz ho=>?_,λ o z hz ho=>?_,λ o z hz=>?_,λ hn=>?_,λ hn=>?_,λ rr hn=>?_,λ rr hn=>?_⟩
 .have:=(h1 _ (bA _ _ _ hz)).1;simp at this;exact this ho
 .have:=h2 _ (bA _ _ _ hz);simp at this;exact this ho
 .have:=(h1 _ (bA _ _ _ hz)).2
  cases h7:assoc y.1.w o with
  | none=>rfl
  | some u=>
   have h8:=this _ (bA _ _ _ h7);simp at h8
 .rcases h3 with h3 | h3
  .have XF:y.2.2.1=true:=hn;rw[XF] at h3;cases h3
  .exact h3
 .rcases h4 with h4 | h4
  .have XF:x.2.2.1=true:=hn;rw[XF] at h4;cases h4
  .exact h4
 .have XF:y.2.2.2=Option.some rr:=hn;rw[XF] at h5;simp only[EB,all_eq_true,Bool.and_eq_true,decide_eq_true_eq] at h5;exact λ o z hz=>h5 _ (bA _ _ _ hz)
 .have XF:x.2.2.2=Option.some rr:=hn;rw[XF] at h6;simp only[EB,all_eq_true,Bool.and_eq_true,decide_eq_true_eq] at h6;exact λ o z hz=>h6 _ (bA _ _ _ hz)
theorem zx:∀ (l acc:List Nat),Kg ops acc l=true->∀ pre i post,l=pre++i::post->∀ oi,ops[i]? = some oi->∀ e∈oi.after,Region.binds .any e=true->e.on∈acc\/e.on∈pre
 | [],_,_,pre,i,post,h,_,_,_,_,_=>by simp at h
 | k::r,acc,hx,pre,i,post,h,oi,Xm,e,he,hb=>by
  simp only[Kg,Bool.and_eq_true] at hx
  cases pre with
  | nil=>
   simp only[nil_append,cons.injEq] at h;obtain⟨rfl,_⟩:=h;have h1:=hx.1;rw[Xm] at h1;simp only[Array.all_eq_true_iff_forall_mem] at h1;have:=h1 e he;simp only[hb,Bool.not_true,Bool.false_or,contains_eq_mem,decide_eq_true_eq] at this;exact .inl this
  | cons p pre=>
   simp only[cons_append,cons.injEq] at h;obtain⟨rfl,h⟩:=h;rcases zx r (k::acc) hx.2 pre i post h oi Xm e he hb with h2 | h2
   .rcases mem_cons.1 h2 with e2 | h2
    .exact .inr (by simp[e2])
    .exact .inl h2
   .exact .inr (mem_cons_of_mem _ h2)
def PD (ops:Array Oper)(ms:List (Nat×Nat)):Prop:=∀ j m,assoc ms j=some m->∀ i,m.testBit i=true->D8 ops j i
theorem CQ {ms:List (Nat×Nat)}{i:Nat}:∀ (l:List Edge) (m:Nat),(KI ms l m).testBit i=true->m.testBit i=true\/∃ e∈l,Region.binds .any e=true/\(i=e.on\/∃ k,assoc ms e.on=some k/\k.testBit i=true)
 | [],m,h=>.inl h
 | e::l,m,h=>by
  rcases CQ l _ h with h | ⟨e',he,h⟩
  .split at h
   .rename_i hb;simp only[Nat.testBit_or,Bool.or_eq_true,Nat.one_shiftLeft,Nat.testBit_two_pow,decide_eq_true_eq] at h;rcases h with (h | h) | h
    .exact .inl h
    .exact .inr ⟨e,mem_cons_self,hb,.inl h.symm⟩
    .cases hk:assoc ms e.on with
     | none=>rw[hk] at h;simp at h
     | some k=>rw[hk] at h;exact .inr ⟨e,mem_cons_self,hb,.inr ⟨k,hk,h⟩⟩
   .exact .inl h
  .exact .inr ⟨e',mem_cons_of_mem _ he,h⟩
theorem CP {ms:List (Nat×Nat)}(h:PD ops ms){j i:Nat}(hm:(KH ops ms j).testBit i=true):D8 ops j i:=by
 intro listed hc hj;unfold KH at hm;split at hm
 .rename_i o ho;rcases CQ _ _ hm with h0 | ⟨e,he,hb,h1⟩
  .simp at h0
  .have hl:=hj o ho e (by simpa using he) hb;rcases h1 with rfl | ⟨k,hk,hi⟩
   .exact hl
   .exact h e.on k hk i hi listed hc λ ok SU e' he' SS=>hc e.on ok SU hl e' he' SS
 .simp at hm
theorem xw {dyn:List (Nat×Nat)}{b:Bool}:∀ (l acc:List Nat) (ms:List (Nat×Nat)),PD ops ms->Cv ops dyn b acc ms l=true->∀ pre j post,l=pre++j::post->∀ i,i∈acc\/i∈pre->D8 ops j i\/((b=true->(ops[i]?).bind cz=none)/\zw ops dyn i j=true)
 | [],_,_,_,_,pre,j,post,h,_,_=>by simp at h
 | k::r,acc,ms,TP,hx,pre,j,post,h,i,hi=>by
  simp only[Cv,Bool.and_eq_true,all_eq_true] at hx
  cases pre with
  | nil=>
   simp only[nil_append,cons.injEq] at h;obtain⟨rfl,rfl⟩:=h;have:=hx.1 i (hi.resolve_right not_mem_nil);simp only[Bool.or_eq_true,Bool.and_eq_true,Bool.not_eq_true',Option.isNone_iff_eq_none] at this;rcases this with h1 | ⟨h1,h2⟩
   .exact .inl (CP TP h1)
   .exact .inr ⟨λ e=>h1.resolve_left (by rw[e];simp),h2⟩
  | cons p pre=>
   simp only[cons_append,cons.injEq] at h;obtain⟨rfl,h⟩:=h;refine xw r (k::acc) _ (λ j' m' h' i' X1=>?_) hx.2 pre j post h i ?_
   .simp only[assoc] at h';split at h'
    .rename_i e;cases h';subst e;exact CP TP X1
    .exact TP j' m' h' i' X1
   .rcases hi with hi | hi
    .exact .inl (mem_cons_of_mem _ hi)
    .rcases mem_cons.1 hi with rfl | hi
     .exact .inl mem_cons_self
     .exact .inr hi
end
def renV (o q:Nat):CV->CV
 | .a7 p off n=>if p=o then .a7 q off n else .a7 p off n
 | c=>c
def renOk (o q:Nat):CV->Bool
 | .a7 p _ _=>p == o || decide (p<q)
 | c=>aU q c
def renE (o q:Nat):List (Nat×CV)->List (Nat×CV)
 | []=>[]
 | (t,c)::r=>(t,renV o q c)::renE o q r
attribute [simp] renV renOk renE
end Go.Can
namespace Go.Can
open List
section
variable {α:Type}{f:α->List CV}{n:Nat}
theorem aG (hf:∀ x,(f x).length=n):∀ m:List α,(m.flatMap f).length=m.length*n
 | []=>by simp
 | a::r=>by
  have ih:=aG hf r;simp only[flatMap_cons,length_append,hf,ih,length_cons,Nat.add_mul];omega
theorem uM (hf:∀ x,(f x).length=n):∀ (m:List α) (i:Nat),(m.flatMap f).take (i*n)=(m.take i).flatMap f
 | [],i=>by simp
 | a::r,0=>by simp
 | a::r,i+1=>by
  have ih:=uM hf r i;simp only[take_succ_cons,flatMap_cons,<- ih];rw[show (i+1)*n=(f a).length+i*n by rw[hf,Nat.add_mul];omega,take_length_add_append]
theorem uN (hf:∀ x,(f x).length=n):∀ (m:List α) (i:Nat),(m.flatMap f).drop (i*n)=(m.drop i).flatMap f
 | [],i=>by simp
 | a::r,0=>by simp
 | a::r,i+1=>by
  have ih:=uN hf r i;simp only[drop_succ_cons,flatMap_cons,<- ih];rw[show (i+1)*n=(f a).length+i*n by rw[hf,Nat.add_mul];omega,drop_length_add_append]
theorem aL (hf:∀ x,(f x).length=n){m:List α}{i:Nat}{e:α}(h:m[i]? = some e):(m.flatMap f).drop (i*n)=f e++(m.drop (i+1)).flatMap f:=by
 rw[uN hf];obtain⟨hi,he⟩:=List.getElem?_eq_some_iff.1 h;rw[drop_eq_getElem_cons hi,he,flatMap_cons]
end
end Go.Can
namespace Go.aK
open Go.Can
inductive Ex where
 | zero
 | num (n:Nat)
 | nm (s:ByteArray)
 | un (k:Nat) (e:Ex)
 | bin (k:Nat) (a b:Ex)
 | loc (i:Nat)
 | jE (i:Nat)
abbrev I (n:Int):CV:=.int .i64 n
def eS:ByteArray:=⟨#[]⟩
def bf:Ex->List CV
 | .zero=>[I 0,I 0,.str eS,.az [] 0]
 | .num n=>[I 1,I n,.str eS,.az [] 0]
 | .nm s=>[I 2,I 0,.str s,.az [] 0]
 | .un k e=>[I (3+k),I 0,.str eS,.az (bf e) 1]
 | .bin k a b=>[I (5+k),I 0,.str eS,.az (bf a++bf b) 2]
 | .loc i=>[I 18,I i,.str eS,.az [] 0]
 | .jE i=>[I 19,I i,.str eS,.az [] 0]
theorem bC (e:Ex):(bf e).length=4:=by cases e<;>rfl
def Ex.op:Ex->Int
 | .zero=>0
 | .num _=>1
 | .nm _=>2
 | .un k _=>3+k
 | .bin k _ _=>5+k
 | .loc _=>18
 | .jE _=>19
def Ex.n:Ex->Int
 | .num n=>n
 | .loc i=>i
 | .jE i=>i
 | _=>0
def Ex.name:Ex->ByteArray
 | .nm s=>s
 | _=>eS
def Ex.args:Ex->List Ex
 | .un _ e=>[e]
 | .bin _ a b=>[a,b]
 | _=>[]
theorem bZ (e:Ex):bf e=[I e.op,I e.n,.str e.name,.az (e.args.flatMap bf) e.args.length]:=by
 cases e<;>simp[bf,Ex.op,Ex.n,Ex.name,Ex.args]
structure Rf where
 name:ByteArray
 index:Option Ex
def oL:Option Ex->CV
 | none=>.az [] 0
 | some e=>.az (bf e) 1
def mh (r:Rf):List CV:=[.str r.name,oL r.index]
def ml:List CV:=[.str eS,.az [] 0]
inductive Ar where
 | xF (r:Rf)
 | exp (e:Ex)
def qA:Ar->List CV
 | .xF r=>.bool true::mh r++bf .zero
 | .exp e=>.bool false::ml++bf e
inductive Sm where
 | iU (name:ByteArray) (e:Ex)
 | jx (name:ByteArray) (e:Ex)
 | eM (go:Bool) (name:ByteArray) (args:List Ar)
 | dS (un:Bool) (r:Rf)
 | mL (e:Ex) (th el:List Sm)
 | cX (e:Ex) (th:List Sm)
 | kj
mutual
def ji:Sm->List CV
 | .iU s e=>[I 1,.str s]++bf e++ml++[.az [] 0,.az [] 0,.az [] 0]
 | .jx s e=>[I 2,.str s]++bf e++ml++[.az [] 0,.az [] 0,.az [] 0]
 | .eM g s l=>[I (if g then 4 else 3),.str s]++bf .zero++ml++[.az (l.flatMap qA) l.length,.az [] 0,.az [] 0]
 | .dS u r=>[I (if u then 6 else 5),.str eS]++bf .zero++mh r++[.az [] 0,.az [] 0,.az [] 0]
 | .mL e th el=>[I 7,.str eS]++bf e++ml++[.az [] 0,.az (bP th) th.length,.az (bP el) el.length]
 | .cX e th=>[I 8,.str eS]++bf e++ml++[.az [] 0,.az (bP th) th.length,.az [] 0]
 | .kj=>[I 9,.str eS]++bf .zero++ml++[.az [] 0,.az [] 0,.az [] 0]
def bP:List Sm->List CV
 | []=>[]
 | s::r=>ji s++bP r
end
theorem pV:∀ l:List Sm,bP l=l.flatMap ji
 | []=>rfl
 | s::r=>by rw[bP,pV r,List.flatMap_cons]
theorem lP (s:Sm):(ji s).length=11:=by
 cases s<;>simp[ji,bC,ml,mh]
structure Pm where
 name:ByteArray
 mutex:Bool
def mr (p:Pm):List CV:=[.str p.name,.bool p.mutex]
structure Gl where
 name:ByteArray
 init:Int
def qH (g:Gl):List CV:=[.str g.name,I g.init]
structure Mx where
 name:ByteArray
 re:Bool
 size:Nat
def cP (m:Mx):List CV:=[.str m.name,.bool m.re,I m.size]
structure Fu where
 name:ByteArray
 params:List Pm
 body:List Sm
def fT (f:Fu):List CV:=[.str f.name,.az (f.params.flatMap mr) f.params.length,.az (bP f.body) f.body.length]
structure Pg where
 gs:List Gl
 ms:List Mx
 fs:List Fu
def fp (p:Pg):List CV:=[.az (p.gs.flatMap qH) p.gs.length,.az (p.ms.flatMap cP) p.ms.length,.az (p.fs.flatMap fT) p.fs.length]
def zt (p:Pg):CV:=.agg (fp p)
structure Pl where
 param:Bool
 index:Nat
 at_:Option Ex
def iq (p:Pl):List CV:=[.bool p.param,I p.index,oL p.at_]
def oE:List CV:=[.bool false,I 0,.az [] 0]
inductive In where
 | set (t:Nat) (g:Bool) (e:Ex)
 | call (go:Bool) (t:Nat) (ints:List Ex) (places:List Pl)
 | lock (un:Bool) (p:Pl)
 | branch (t:Nat) (e:Ex)
 | jump (t:Nat)
 | ret
def cY:In->List CV
 | .set t g e=>[I 1,I t,.bool g]++bf e++oE++[.az [] 0,.az [] 0]
 | .call g t l ps=>[I (if g then 3 else 2),I t,.bool false]++bf .zero++oE++[.az (l.flatMap bf) l.length,.az (ps.flatMap iq) ps.length]
 | .lock u p=>[I (if u then 5 else 4),I 0,.bool false]++bf .zero++iq p++[.az [] 0,.az [] 0]
 | .branch t e=>[I 6,I t,.bool false]++bf e++oE++[.az [] 0,.az [] 0]
 | .jump t=>[I 7,I t,.bool false]++bf .zero++oE++[.az [] 0,.az [] 0]
 | .ret=>[I 8,I 0,.bool false]++bf .zero++oE++[.az [] 0,.az [] 0]
theorem hU (x:In):(cY x).length=12:=by
 cases x<;>simp[cY,bC,oE,iq]
structure Pr where
 name:ByteArray
 ints:Nat
 bh:Nat
 locals:Nat
 code:List In
def nA (p:Pr):List CV:=[.str p.name,I p.ints,I p.bh,I p.locals,.az (p.code.flatMap cY) p.code.length]
structure Un where
 gs:List Int
 ms:List Mx
 ps:List Pr
 main:Nat
def dk (u:Un):List CV:=[ints u.gs,.az (u.ms.flatMap cP) u.ms.length,.az (u.ps.flatMap nA) u.ps.length,I u.main]
def cf (u:Un):CV:=.agg (dk u)
structure Is where
 proc:Nat
 bh:List Nat
def aA (l:List Nat):CV:=.az (l.map λ n:Nat=>I n) l.length
def dW (i:Is):List CV:=[I i.proc,aA i.bh]
structure Cl where
 is:List Is
 calls:List (List Int)
 roots:List Nat
def gE (c:Cl):List CV:=[.az (c.is.flatMap dW) c.is.length,.az (c.calls.map ints) c.calls.length,aA c.roots]
def ib (c:Cl):CV:=.agg (gE c)
end Go.aK
namespace Go.Can
open Go.RowKit List
section
variable {P:Program}{C:Cx}{U:Nat->Option OB}{s:St}{a:Act}{w:World}{ops:Array Oper}{av:List (Nat×TI)}
theorem LG (e:List (Nat×CV))(H:List (Nat×Ob))(n m:Nat)(r:ResultVar):qI av ⟨e,H,n⟩ r=qI av ⟨e,H,m⟩ r:=by
 have h:∀ c,iA ⟨e,H,n⟩ c=iA ⟨e,H,m⟩ c:=λ c=>vo (s:=⟨e,H,n⟩) (s':=⟨e,H,m⟩) rfl c
 cases r with
 | tmp t=>rfl
 | cell x t=>simp only[qI,h]
theorem Dw (e:List (Nat×CV))(H:List (Nat×Ob))(n m:Nat):∀ rs:List ResultVar,l8 av ⟨e,H,n⟩ rs=l8 av ⟨e,H,m⟩ rs
 | []=>rfl
 | r::rs=>by
  simp only[l8];rw[LG e H n m r,Dw e H n m rs]
theorem Du (fn:Func)(e:List (Nat×CV))(H:List (Nat×Ob))(n m:Nat):bJ av fn ⟨e,H,n⟩=bJ av fn ⟨e,H,m⟩:=by
 simp only[bJ];rw[Dw e H n m]
def below (U:Nat->Option OB)(n:Nat)(σ':Nat->Option OB):Nat->Option OB:=λ o=>if o<n then U o else σ' o
theorem gZ {U σ':Nat->Option OB}{n o:Nat}(h:o<n):below U n σ' o=U o:=if_pos h
theorem lE {U σ':Nat->Option OB}{n o:Nat}(h:n<=o):below U n σ' o=σ' o:=if_neg yA
theorem aQ.OM {C C':Cx}{U σ':Nat->Option OB}{e:List (Nat×CV)}{H:List (Nat×Ob)}{n n':Nat}(h:aQ C U ⟨e,H,n⟩ a w)
  (h1:C'.w0=C.w0) (h2:C'.F=C.F) (h3:C'.own=C.own) (h4:C'.nt=C.nt)
  (he:∀ t c o,assoc e t=some c->aS o c=false->σ' o=U o) (hH:∀ p ob o,assoc H p=some ob->ej o ob.cells=false->σ' o=U o) (hk:∀ p ob,assoc H p=some ob->σ' p=U p)
  (T6:∀ o,n'<=o->σ' o=none) (hold:∀ o,o<C'.n0->σ' o=C'.σ0 o) (Wz:C'.n0<=n') (Te:∀ o B b,C'.n0<=o->σ' o=some B->B.kW=some b->C'.own b\/C'.w0.heap.size<=b) :
  aQ C' σ' ⟨e,H,n'⟩ a w:=by
 have hb:∀ p ob,assoc H p=some ob->a6 σ' p=a6 U p:=λ p ob hp=>by unfold a6;rw[hk p ob hp]
 have X6:∀ b,FB C' σ' H b↔FB C U H b:=λ b=>by
  unfold FB;rw[h2];constructor
  .rintro (h | ⟨o,ob,ho,hx⟩)
   .exact .inl h
   .exact .inr ⟨o,ob,ho,by rw[<- hb o ob ho];exact hx⟩
  .rintro (h | ⟨o,ob,ho,hx⟩)
   .exact .inl h
   .exact .inr ⟨o,ob,ho,by rw[hb o ob ho];exact hx⟩
 have hK:cL w w (FB C U H) (FB C' σ' H):=cL.same λ b hx=>(X6 b).1 hx;refine⟨h.pB,by rw[h4];exact h.tm,by rw[h1];exact h.os,by rw[h1];exact h.tape,by rw[h1];exact h.output,by rw[h1];exact h.size,by rw[h1,h3];exact h.frame,?_,?_,?_,T6,hold,Wz,Te⟩
 .intro t c hc;obtain⟨v,k1,k2⟩:=h.env t c hc;exact⟨v,k1,VR.bD hK _ _ (λ o ho=>he t c o hc ho) k2⟩
 .intro o ob ho;obtain⟨B,m1,m2,m3,m4,m5⟩:=h.obj o ob ho;refine⟨B,by rw[hk o ob ho];exact m1,m2,m3,m4,λ b hbk=>?_⟩;obtain⟨cur,n1,n2,n3,n4,n5,n6⟩:=m5 b hbk;refine⟨cur,n1,n2,by rw[h2];exact n3,by rw[h1,h3];exact n4,n5,?_⟩;exact aZ.bD hK _ _ (λ p hp=>hH o ob p ho hp) n6
 .intro o o' ob SN b ho Tc hx Ur;rw[hb o ob ho] at hx;rw[hb o' SN Tc] at Ur;exact h.inj o o' ob SN b ho Tc hx Ur
def dn (n:Nat):List (Nat×Ob)->Bool
 | []=>true
 | (k,ob)::r=>decide (k<n) && ba n ob.cells && dn n r
theorem jD {n:Nat}:∀ {H:List (Nat×Ob)},dn n H=true->∀ p ob,assoc H p=some ob->p<n/\ba n ob.cells=true
 | [],_,p,ob,h=>by simp[assoc] at h
 | (k,x)::r,h,p,ob,hp=>by
  simp only[dn,Bool.and_eq_true,decide_eq_true_eq] at h;simp only[assoc] at hp;split at hp
  .rename_i e;cases hp;subst e;exact h.1
  .exact jD h.2 p ob hp
theorem Body.lift {f:FuncId}{args:List CV}{H:List (Nat×Ob)}{n n':Nat}{R:CV->St->Prop}(h:Body P av f args H n R)(hn:n<=n')(ha:ba n args=true)(hH:dn n H=true)(hR:∀ r s,R r s->s.nx=n) :
  Body P av f args H n' λ r s=>∃ s1,R r s1/\s=⟨s1.env,s1.heap,n'⟩:=by
 obtain⟨fn,c,hf,hb,Tu,hl,hT⟩:=h;refine⟨fn,c,hf,hb,Tu,hl,λ C' hC M0 a w ⟨U,hr⟩=>?_⟩;have Sx:∀ (t:Nat) c o,assoc (enter args).env t=some c->aS o c=false->o<n:=λ t c o hc ho=>by
  obtain⟨_,h2⟩:=fW args 0 t c hc;have hm:c∈args:=mem_of_getElem? h2;rw[aT,all_eq_true] at ha;exact mT n c o (ha c hm) ho
 have h0:aQ ⟨C'.w0,C'.F,C'.own,C'.hF,C'.nt,below U n (λ _=>none),n⟩ (below U n (λ _=>none)) ⟨(enter args).env,H,n⟩ a w:=
  hr.OM rfl rfl rfl rfl (λ t c o hc ho=>gZ (Sx t c o hc ho)) (λ p ob o hp ho=>gZ (fC n _ o (jD hH p ob hp).2 ho)) (λ p ob hp=>gZ (jD hH p ob hp).1)
   (λ o ho=>lE ho) (λ _ _=>rfl) (Nat.le_refl _) (λ o B b ho hB _=>by rw[lE ho] at hB;cases hB)
 refine wp_mono (hT ⟨C'.w0,C'.F,C'.own,C'.hF,C'.nt,below U n (λ _=>none),n⟩ hC rfl a w ⟨_,h0⟩) λ e a' w' ⟨s1,q,σ1,TU⟩=>?_;have fin:aa ⟨C'.w0,C'.F,C'.own,C'.hF,C'.nt,below U n (λ _=>none),n⟩ (λ s'=>∃ r,bJ av fn s'=some r/\R r s') s1 ->
   ∃ s',aa C' (λ s'=>∃ r,bJ av fn s'=some r/\∃ s1,R r s1/\s'=⟨s1.env,s1.heap,n'⟩) s'/\Rel C' s' a' w':=λ⟨s2,⟨r,q1,q2⟩,hle⟩=>by
  obtain⟨σ2,Tb⟩:=hle _ _ ⟨σ1,TU⟩;have Wv:=hR r s2 q2;obtain⟨e2,H2,n2⟩:=s2;simp only at Wv;subst Wv;have P1:∀ o B,σ2 o=some B->o<n2:=λ o B hB=>Nat.lt_of_not_le λ hle=>by rw[Tb.nx o hle] at hB;cases hB
  refine⟨⟨e2,H2,n'⟩,aa.here ⟨r,(Du fn e2 H2 n' n2).trans q1,_,q2,rfl⟩,below σ2 n2 U,?_⟩;refine Tb.OM rfl rfl rfl rfl (λ t c o hc ho=>?_) (λ p ob o hp ho=>?_) (λ p ob hp=>?_) (λ o ho=>?_) (λ o ho=>?_) (by rw[M0];exact Nat.le_refl _) (λ o B b ho hB _=>?_)
  .obtain⟨v,_,k2⟩:=Tb.env t c hc;obtain⟨B,hB⟩:=VR.refs _ _ o k2 ho;exact gZ (P1 o B hB)
  .obtain⟨B,m1,_,m3,_,m5⟩:=Tb.obj p ob hp
   cases hbk:B.kW with
   | none=>
    rw[m3 hbk] at ho;simp[ej] at ho
   | some b=>
    obtain⟨cur,_,_,_,_,_,n6⟩:=m5 b hbk;obtain⟨B',Uz⟩:=aZ.refs _ _ o n6 ho;exact gZ (P1 o B' Uz)
  .obtain⟨B,m1,_⟩:=Tb.obj p ob hp;exact gZ (P1 p B m1)
  .rw[lE (Nat.le_trans hn ho)];exact hr.nx o ho
  .rcases Nat.lt_or_ge o n2 with h1 | h1
   .rw[gZ h1,Tb.gH o h1];show below U n2 (λ _=>none) o=_;rw[gZ h1];exact hr.gH o ho
   .rw[lE h1];exact hr.gH o ho
  .rw[M0] at ho;rw[lE (Nat.le_trans hn ho),hr.nx o ho] at hB;cases hB
 cases e with
 | normal=>exact fin q
 | ret=>exact fin q
 | exit _=>exact q.elim
 | goto _=>exact q.elim
 | panic _=>exact q.elim
 | outgrown=>exact q.elim
def eZ (G:List (Nat×Ob)):List Nat->Option (List (Nat×Ob))
 | []=>some []
 | k::ks=>match assoc G k,eZ G ks with
  | some ob,some H=>some ((k,ob)::H)
  | _,_=>none
def eA (G:List (Nat×Ob)):List Nat->List (Nat×Ob)
 | []=>G
 | k::ks=>eA (kC G k) ks
theorem kQ {G:List (Nat×Ob)}:∀ {ks:List Nat} {H:List (Nat×Ob)},eZ G ks=some H->(∀ o ob,assoc H o=some ob->o∈ks/\assoc G o=some ob)/\∀ o ob,o∈ks->assoc G o=some ob->assoc H o=some ob
 | [],H,h=>by
  simp only[eZ,Option.some.injEq] at h;subst h;exact⟨λ o ob ho=>by simp[assoc] at ho,λ o ob ho=>by simp at ho⟩
 | k::ks,H,h=>by
  simp only[eZ] at h;split at h
  .rename_i ob H' h1 h2;cases h;obtain⟨i1,i2⟩:=kQ h2;refine⟨λ o x ho=>?_,λ o x ho hx=>?_⟩
   .simp only[assoc] at ho;split at ho
    .rename_i e;cases ho;subst e;exact⟨mem_cons_self,h1⟩
    .exact⟨mem_cons_of_mem _ (i1 o x ho).1,(i1 o x ho).2⟩
   .simp only[assoc];split
    .rename_i e;subst e;rw[h1] at hx;exact hx
    .rename_i e;rcases mem_cons.1 ho with h3 | h3
     .exact (e h3.symm).elim
     .exact i2 o x h3 hx
  .cases h
theorem fA {G:List (Nat×Ob)}:∀ (ks:List Nat) (o:Nat),assoc (eA G ks) o=if o∈ks then none else assoc G o:=by
 intro ks
 induction ks generalizing G with
 | nil=>intro o;simp[eA]
 | cons k ks ih=>
  intro o;rw[eA,ih,fG];by_cases h1:o∈ks
  .simp[h1]
  .by_cases h2:o=k
   .simp[h2]
   .have:¬ k=o:=λ h=>h2 h.symm;simp[h1,h2,this]
theorem pM.of {G H:List (Nat×Ob)}{ks:List Nat}(h:eZ G ks=some H):pM H (eA G ks) G:=by
 obtain⟨h1,h2⟩:=kQ h;refine⟨λ o ob ho=>(h1 o ob ho).2,λ o ob ho=>?_,λ o ob ho=>?_,λ o ob SN ho Tc=>?_⟩
 .rw[fA] at ho;split at ho
  .cases ho
  .exact ho
 .by_cases hm:o∈ks
  .exact .inl (h2 o ob hm ho)
  .exact .inr (by rw[fA,if_neg hm];exact ho)
 .rw[fA,if_pos (h1 o ob ho).1] at Tc;cases Tc
def nS (ks:List Nat)(H:List (Nat×Ob)):Bool:=H.all λ x=>ks.contains x.1
theorem uG {ks:List Nat}{H:List (Nat×Ob)}(h:nS ks H=true)(o:Nat)(ob:Ob)(ho:assoc H o=some ob):o∈ks:=by
 have:=bA _ _ _ ho;simp only[nS,all_eq_true] at h
 simpa using h _ this
theorem TL.LS (UT:aF P av){o:Oper}{l:List Oper}{c:Call}{g:FuncId}{cs:List CV}{K:St->Prop}{R:CV->St->Prop}(ks:List Nat){H:List (Nat×Ob)}(n:Nat)(hd:bj C.nt o.dst=true)(hg:ca ops s o=Option.some true)(ho:o.op=.call c)(SP:bK s c=Option.some (g,cs))
  (hp:eZ s.heap ks=Option.some H) (hn:n<=s.nx) (ha:ba n cs=true) (hH:dn n H=true) (hb:Body P av g cs H n R) (hR:∀ r s1,R r s1->s1.nx=n/\nS ks s1.heap=true)
  (hK:∀ r s1,R r s1->TL P C ops l (St.put ⟨s.env,s1.heap++eA s.heap ks,s.nx⟩ o.dst r) K):TL P C ops (o::l) s K:=by
 intro a w Q hr hQ;have hw:=eW hr hg;obtain⟨U,hr⟩:=hr;unfold wpList;rw[if_pos hw];refine .inl ?_;have hen:ka P g:=by
  obtain⟨fn,code,hf,T5,Tu,_⟩:=hb;exact⟨fn,hf,Tu,by simp[T5]⟩
 refine s8 UT (pM.of hp) (ql.value ho SP hen) (hb.lift hn ha hH λ r s h=>(hR r s h).1) ?_ hr _ _ ?_
 .rintro r s1 ⟨s2,h1,rfl⟩ p ob SN h2 h3;have hm:=uG (hR r s2 h1).2 p ob h2;rw[fA,if_pos hm] at h3;cases h3
 .rintro r s1 v w' σ' ⟨s2,h1,rfl⟩ S0 hv _;refine hK r s2 h1 _ w' Q ⟨σ',S0.put ?_ hv⟩ hQ;intro t e;rw[S0.tm];rw[e] at hd
  simpa [bj] using hd
def oH (P:Program)(f:FuncId)(args:List CV)(G:CV->Prop):Prop:=
 ka P f/\∀ (F:Nat->Prop) (vs:List Value) (w:World),FOk w F->bX w F args vs ->
  Calls P f vs.toArray w λ e w'=>∃ r v,G r/\e=.returned v/\Below w.heap.size w w'/\cj w' F r v
theorem ae.toP {f:FuncId}{args:List CV}{r:CV}{G:CV->Prop}(h:ae P f args r)(hG:G r):oH P f args G:=
 ⟨h.1,λ F vs w hF hv=>(h.2 F vs w hF hv).mono λ _ _ ⟨v,h1,h2,h3⟩=>⟨r,v,hG,h1,h2,h3⟩⟩
theorem oH.mono {f:FuncId}{args:List CV}{G G':CV->Prop}(h:oH P f args G)(hG:∀ r,G r->G' r):oH P f args G':=
 ⟨h.1,λ F vs w hF hv=>(h.2 F vs w hF hv).mono λ _ _ ⟨r,v,h0,h1,h2,h3⟩=>⟨r,v,hG r h0,h1,h2,h3⟩⟩
theorem Ch {o:Oper}{g:FuncId}{cs:List CV}{G:CV->Prop}(he:ql P C s o g cs)(ht:trees cs=true)(hp:oH P g cs G)(h:aQ C U s a w)(K:Act->World->Prop)(Q:Exit->Act->World->Prop)
  (hK:∀ r v w',G r->aQ C U s a w'->VR w' (FB C U s.heap) U r v->K (a.put o.dst v) w'):o.wp P a w K Q:=by
 obtain⟨vs,I1,hv⟩:=he U a w h;unfold Oper.wp;rw[I1];refine (hp.2 (FB C U s.heap) vs w (FJ h) (aZ.eL _ _ ht hv)).mono λ e w' ⟨r,v,h0,h1,h2,h3⟩=>?_;subst h1;exact hK r v w' h0 (h.below h2) (VR.cJ _ _ h3)
theorem TL.LR {o:Oper}{l:List Oper}{c:Call}{g:FuncId}{cs:List CV}{K:St->Prop}{G:CV->Prop}(hd:bj C.nt o.dst=true)(hg:ca ops s o=Option.some true)(ho:o.op=.call c)(SP:bK s c=Option.some (g,cs))(ht:trees cs=true)(hp:oH P g cs G)
  (hK:∀ r,G r->TL P C ops l (s.put o.dst r) K):TL P C ops (o::l) s K:=by
 intro a w Q hr hQ;have hw:=eW hr hg;obtain⟨U,hr⟩:=hr;unfold wpList;rw[if_pos hw];refine .inl (Ch (ql.value ho SP hp.1) ht hp hr _ _ λ r v w' h0 S0 hv=>hK r h0 _ w' Q ⟨U,S0.put ?_ hv⟩ hQ);intro t e;rw[S0.tm];rw[e] at hd
 simpa [bj] using hd
def doneG (C:Cx)(av:List (Nat×TI))(f:Func)(G:CV->Prop):Exit->St->Prop
 | .normal,s=>aa C (λ s'=>∃ r,bJ av f s'=some r/\tree r=true/\G r) s
 | .ret,s=>aa C (λ s'=>∃ r,bJ av f s'=some r/\tree r=true/\G r) s
 | _,_=>False
theorem oH.iZ (UT : aF P av) {f : FuncId} {fn : Func} {c : Code} {args : List CV} {G : CV -> Prop} (hf : P.funcs[f]? = some fn) (hb : fn.body = some c) (hn : (fn.name == "runtime.NumGoroutine") = false)
  (ha:args.length<=fn.ntmps) (h:∀ C:Cx,C.nt=fn.ntmps->C.n0=0->T P C c (enter args) (doneG C av fn G)):oH P f args G:=by
 refine⟨⟨fn,hf,hn,by simp[hb]⟩,λ F vs w hF hv=>?_⟩;have hl:=bX.length _ _ hv;have h0:aQ ⟨w,F,λ _=>False,hF,fn.ntmps,λ _=>none,0⟩ (λ _=>none) (enter args) { tmps:=vs.toArray++Array.replicate (fn.ntmps-vs.toArray.size) undef,defers:=[] } w:=by
  refine⟨rfl,by simp;omega,rfl,rfl,rfl,Nat.le_refl _,λ _ _ _=>rfl,?_,?_,?_,λ _ _=>rfl,λ _ h=>absurd h (Nat.not_lt_zero _),Nat.zero_le _,λ _ _ _ _ h=>by cases h⟩
  .intro t c hc;obtain⟨_,h2⟩:=fW args 0 t c hc;obtain⟨v,h3,h4⟩:=bX.get _ _ hv t c yC;refine⟨v,?_,VR.cJ _ _ (cj.bD (cL.same λ b hb=>?_).1 c v h4)⟩
   .have P1:=(List.getElem?_eq_some_iff.1 h3).1;simp only;rw[Array.getElem?_append_left (by simpa using P1)]
    simpa using h3
   .rcases hb with hF | ⟨o,ob,ho,_⟩
    .exact hF
    .simp[enter,assoc] at ho
  .intro o ob ho;simp[enter,assoc] at ho
  .intro o o' ob SN b ho;simp[enter,assoc] at ho
 refine calls_of_wp hf hb (wp_mono (h _ rfl rfl _ _ ⟨_,h0⟩) λ e a' w' ⟨s1,q,U,TU⟩=>?_);have fin:aa ⟨w,F,λ _=>False,hF,fn.ntmps,λ _=>none,0⟩ (λ s'=>∃ r,bJ av fn s'=some r/\tree r=true/\G r) s1->a'.defers=[]/\∃ v,(results fn a'.tmps).run P w'=.ok v w'/\(∃ r Wf,G r/\Ending.returned v=.returned Wf/\Below w.heap.size w w'/\cj w' F r Wf):=λ⟨s',⟨r,hq,ht,hG⟩,hle⟩=>by
  obtain⟨σ',hr⟩:=hle _ _ ⟨U,TU⟩;obtain⟨v,k1,k2⟩:=iI (P:=P) UT hr hq;refine⟨hr.pB,v,k1,r,v,hG,rfl,⟨hr.os,hr.tape,hr.output,hr.size,λ k hk=>hr.frame k hk (λ hx=>hx)⟩,?_⟩;exact cj.bD (cL.same λ _ hF=>.inl hF).1 _ _ (VR.eL _ _ ht k2)
 cases e with
 | normal=>exact fin q
 | ret=>exact fin q
 | exit _=>exact q.elim
 | goto _=>exact q.elim
 | panic _=>exact q.elim
 | outgrown=>exact q.elim
def nz:CV->CV
 | .aj=>.az [] 0
 | c=>c
def xE:CV->CV
 | .aj=>.az [] 0
 | .agg cs=>.agg (cs.map nz)
 | c=>c
theorem VR.nz {F:Nat->Prop}{c:CV}{v:Value}(h:VR w F U c v):VR w F U (nz c) v:=by
 cases c<;>try exact h
 simp only[VR] at h;subst h;simp only[Can.nz,VR,cj];exact⟨none,0,rfl,Nat.le_refl _,Nat.zero_le _,.inl ⟨trivial,trivial⟩⟩
theorem aZ.nz {F:Nat->Prop}:∀ {cs:List CV} {vs:List Value},aZ w F U cs vs->aZ w F U (cs.map Can.nz) vs
 | [],_,h=>h
 | _c::_cs,_,⟨v,r,e,h1,h2⟩=>⟨v,r,e,VR.nz h1,aZ.nz h2⟩
theorem Qq (c:CV):one (nz c)=one c:=by cases c<;>rfl
theorem yx (cs:List CV):(cs.map nz).all one=cs.all one:=by
 induction cs with
 | nil=>rfl
 | cons c cs ih=>simp only[map_cons,all_cons,Qq,ih]
theorem VR.xE {F:Nat->Prop}{c:CV}{v:Value}(h:VR w F U c v):VR w F U (xE c) v:=by
 cases c<;>try exact h
 .simp only[VR] at h;obtain⟨vs,h1,h2,h3⟩:=h;simp only[Can.xE,VR];exact⟨vs,h1,aZ.nz h2,by rw[yx];exact h3⟩
 .exact VR.nz h
def IV (ts:List Nat):List (Nat×CV)->List (Nat×CV)
 | []=>[]
 | (k,c)::r=>(k,if ts.contains k then xE c else c)::IV ts r
def CD (os:List Nat):List (Nat×Ob)->List (Nat×Ob)
 | []=>[]
 | (k,ob)::r=>(k,if os.contains k then ⟨ob.elem,ob.sz,ob.cells.map nz⟩ else ob)::CD os r
theorem zB (ts:List Nat):∀ (e:List (Nat×CV)) (t:Nat) (c:CV),assoc (IV ts e) t=some c->∃ d,assoc e t=some d/\(c=d\/c=xE d)
 | [],t,c,h=>by simp[IV,assoc] at h
 | (k,d)::r,t,c,h=>by
  simp only[IV,assoc] at h |-;split at h
  .rename_i e;rw[if_pos e];cases h;refine⟨d,rfl,?_⟩;split
   .exact .inr rfl
   .exact .inl rfl
  .rename_i e;rw[if_neg e];exact zB ts r t c h
theorem eU (os:List Nat):∀ (H:List (Nat×Ob)) (o:Nat),assoc (CD os H) o=(assoc H o).map λ ob=>if os.contains o then ⟨ob.elem,ob.sz,ob.cells.map nz⟩ else ob
 | [],o=>by simp[CD,assoc]
 | (k,x)::r,o=>by
  simp only[CD,assoc];split
  .rename_i e;subst e;rfl
  .exact eU os r o
theorem Le.nz (ts os:List Nat):Le C s ⟨IV ts s.env,CD os s.heap,s.nx⟩:=by
 intro a w ⟨U,h⟩;have XL:∀ b,FB C U (CD os s.heap) b↔FB C U s.heap b:=λ b=>by
  unfold FB;constructor
  .rintro (h | ⟨o,ob,ho,hb⟩)
   .exact .inl h
   .rw[eU] at ho;obtain⟨x,hx,_⟩:=Option.map_eq_some_iff.1 ho;exact .inr ⟨o,x,hx,hb⟩
  .rintro (h | ⟨o,ob,ho,hb⟩)
   .exact .inl h
   .exact .inr ⟨o,_,by rw[eU,ho];rfl,hb⟩
 have hK:cL w w (FB C U s.heap) (FB C U (CD os s.heap)):=cL.same λ b hx=>(XL b).1 hx;refine⟨U,h.pB,h.tm,h.os,h.tape,h.output,h.size,h.frame,?_,?_,?_,h.nx,h.gH,h.low,h.new⟩
 .intro t c hc;obtain⟨d,hd,ZE⟩:=zB ts s.env t c hc;obtain⟨v,k1,k2⟩:=h.env t d hd;refine⟨v,k1,VR.bD hK _ _ (λ _ _=>rfl) ?_⟩;rcases ZE with rfl | rfl
  .exact k2
  .exact VR.xE k2
 .intro o ob ho;simp only[eU] at ho;obtain⟨x,hx,hxo⟩:=Option.map_eq_some_iff.1 ho;obtain⟨B,m1,m2,m3,m4,m5⟩:=h.obj o x hx;split at hxo
  .subst hxo;refine⟨B,m1,m2,λ hb=>by simp[m3 hb],by simp only[yx];exact m4,λ b hb=>?_⟩;obtain⟨cur,n1,n2,n3,n4,n5,n6⟩:=m5 b hb;refine⟨cur,n1,n2,n3,n4,by simpa using n5,?_⟩;simp only[length_map];exact aZ.bD hK _ _ (λ _ _=>rfl) (aZ.nz n6)
  .subst hxo;refine⟨B,m1,m2,m3,m4,λ b hb=>?_⟩;obtain⟨cur,n1,n2,n3,n4,n5,n6⟩:=m5 b hb;exact⟨cur,n1,n2,n3,n4,n5,aZ.bD hK _ _ (λ _ _=>rfl) n6⟩
 .intro o o' ob SN b ho Tc hx Ur;simp only[eU] at ho Tc;obtain⟨x,h1,_⟩:=Option.map_eq_some_iff.1 ho;obtain⟨y,h2,_⟩:=Option.map_eq_some_iff.1 Tc;exact h.inj o o' x y b h1 h2 hx Ur
@[simp] theorem nz_int (k:IntKind)(n:Int):nz (.int k n)=(.int k n):=rfl
@[simp] theorem nzA_int (k:IntKind)(n:Int):xE (.int k n)=(.int k n):=rfl
@[simp] theorem nz_bool (b:Bool):nz (.bool b)=(.bool b):=rfl
@[simp] theorem nzA_bool (b:Bool):xE (.bool b)=(.bool b):=rfl
@[simp] theorem nz_str (s:ByteArray):nz (.str s)=(.str s):=rfl
@[simp] theorem nzA_str (s:ByteArray):xE (.str s)=(.str s):=rfl
@[simp] theorem nz_agg (cs:List CV):nz (.agg cs)=(.agg cs):=rfl
@[simp] theorem nzA_agg (cs:List CV):xE (.agg cs)=.agg (cs.map nz):=rfl
@[simp] theorem nz_tsl (cs:List CV)(n:Nat):nz (.az cs n)=(.az cs n):=rfl
@[simp] theorem nzA_tsl (cs:List CV)(n:Nat):xE (.az cs n)=(.az cs n):=rfl
@[simp] theorem nz_nilsl:nz .aj=.az [] 0:=rfl
@[simp] theorem RU:xE .aj=.az [] 0:=rfl
@[simp] theorem nz_tptr (cs:List CV):nz (.cM cs)=(.cM cs):=rfl
@[simp] theorem nzA_tptr (cs:List CV):xE (.cM cs)=(.cM cs):=rfl
@[simp] theorem RT:nz .bL=.bL:=rfl
@[simp] theorem Qx:xE .bL=.bL:=rfl
@[simp] theorem nz_fn (f:FuncId)(cs:List CV):nz (.fn f cs)=(.fn f cs):=rfl
@[simp] theorem nzA_fn (f:FuncId)(cs:List CV):xE (.fn f cs)=(.fn f cs):=rfl
@[simp] theorem nz_nilfn:nz .cH=.cH:=rfl
@[simp] theorem RV:xE .cH=.cH:=rfl
@[simp] theorem nz_iface (t:TypeId)(cs:List CV):nz (.iface t cs)=(.iface t cs):=rfl
@[simp] theorem RW (t:TypeId)(cs:List CV):xE (.iface t cs)=(.iface t cs):=rfl
@[simp] theorem nz_tup (cs:List CV):nz (.cF cs)=(.cF cs):=rfl
@[simp] theorem nzA_tup (cs:List CV):xE (.cF cs)=(.cF cs):=rfl
@[simp] theorem nz_osl (p f n:Nat):nz (.a7 p f n)=(.a7 p f n):=rfl
@[simp] theorem nzA_osl (p f n:Nat):xE (.a7 p f n)=(.a7 p f n):=rfl
@[simp] theorem nz_optr (p f:Nat):nz (.ax p f)=(.ax p f):=rfl
@[simp] theorem nzA_optr (p f:Nat):xE (.ax p f)=(.ax p f):=rfl
@[simp] theorem nz_any:nz .any=.any:=rfl
@[simp] theorem nzA_any:xE .any=.any:=rfl
attribute [simp] IV CD eZ eA dn nS
end
end Go.Can
