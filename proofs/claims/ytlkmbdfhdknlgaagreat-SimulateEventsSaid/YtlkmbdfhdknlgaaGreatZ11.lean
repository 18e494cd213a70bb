/- A region that draws, run i -/
import Derived.Test.YtlkmbdfhdknlgaaGreatZ10
namespace Go.Can
open Go.RowKit List
def yz (P:Program)(pc:FuncId->List CV->Option CV):Prop:=∀ g cs r,pc g cs=some r->ae P g cs r
section
variable {P:Program}{C:Cx}{σ:Nat->Option OB}{s s':St}{a:Act}{w:World}{ops:Array Oper}{av:List (Nat×TI)}{mt:iX}{pc:FuncId->List CV->Option CV}{call:gv}
theorem AU {o:Oper}(h:∀ t∈o.looksAt ops,assoc s'.env t=assoc s.env t):∀ x∈o.op.operands,ev s' x=ev s x:=λ x hx=>by
 cases x with
 | tmp t=>exact h t (mem_append_left _ (mem_filterMap.2 ⟨.tmp t,by simpa using hx,rfl⟩))
 | _=>rfl
theorem qE {o:Oper}(h:∀ t∈o.looksAt ops,assoc s'.env t=assoc s.env t):bY ops s' o=bY ops s o:=by
 unfold bY
 cases hg:o.guard with
 | none=>rfl
 | some q=>
  obtain⟨j,want⟩:=q;simp only
  cases hj:(ops[j]?).bind (·.dst) with
  | none=>rfl
  | some t=>simp only;rw[h t (by simp[Oper.looksAt,hg,hj])]
theorem u6 {c:Call}(h:∀ x∈c.operands,ev s' x=ev s x):jL mt s' c=jL mt s c:=by
 have ha:C6 s' c.args.toList=C6 s c.args.toList:=ke _ λ x hx=>h x (by simp only[Call.operands,Array.mem_append];exact .inr (by simpa using hx));unfold jL;split
 ·rename_i f hf;unfold bM;rw[hf];simp only;rw[h f (by simp[Call.operands,hf]),ha]
 ·rename_i r name hr;rw[h r (by simp[Call.operands,hr]),ha]
 ·rfl
theorem Fi {op:Op}(h:∀ x∈op.operands,ev s' x=ev s x):sM av s' op=sM av s op:=by
 cases op<;>simp only[sM]<;>first | exact Fh _ h | skip
 case makeSlice t l c=>rw[h l Ug,h c Ug]
theorem cells?_view {c:CV}(h:∀ o,names o c=true->assoc s'.heap o=assoc s.heap o):cells? s' c=cells? s c:=by
 unfold cells?;split<;>first | rfl | skip
 rename_i o off n;rw[h o (by simp[names])]
theorem HE {c:CV}(h:∀ o,names o c=true->assoc s'.heap o=assoc s.heap o):Cr s' c=Cr s c:=by
 unfold Cr;split<;>first | rfl | skip
 rename_i o off n;rw[h o (by simp[names])]
theorem ky {o:Oper}(hd:bm C.nt o.dst=true)(h:aQ C σ s a w){c:CV}{v:Value}(hv:VR w (FB C σ s.heap) σ c v):aQ C σ (s.put o.dst c) (a.put o.dst v) w:=
 h.put (λ t e=>by rw[h.tm];rw[e] at hd;simpa [bm] using hd) hv
theorem ij {s:St}{H:List (Nat×Ob)}{n k:Nat}{d:Option Tmp}{r:Option CV}{w:List (Nat×Option Ob)}(hH:∀ p,assoc H p=kY (assoc s.heap) w p)(hn:n=s.nx+k):fs (p8 ⟨s.env,H,n⟩ d r)=ap d ⟨r,w,k⟩ (fs s):=by
 unfold fs ap;congr 1
 ·funext t;exact x8 t
 ·funext p;rw[pH.1];exact hH p
 ·rw[pH.2];exact hn
def Cx.lZ (C:Cx)(w:World)(σ:Nat->Option OB)(H rest:List (Nat×Ob))(nt:Nat)(hF:LU w (FB C σ rest) (λ b=>∃ o ob,assoc H o=some ob/\a7 σ o=some b))(n:Nat):Cx:=
 ⟨w,FB C σ rest,λ b=>∃ o ob,assoc H o=some ob/\a7 σ o=some b,hF,nt,σ,n⟩
structure pj (H rest G:List (Nat×Ob)):Prop where
 l:∀ o ob,assoc H o=some ob->assoc G o=some ob
 r:∀ o ob,assoc rest o=some ob->assoc G o=some ob
 lr:∀ o ob,assoc G o=some ob->assoc H o=some ob\/assoc rest o=some ob
 d:∀ o ob R9,assoc H o=some ob->assoc rest o=some R9->False
theorem pt {H rest G:List (Nat×Ob)}(hp:pj H rest G){b:Nat}:FB C σ G b↔FB C σ rest b\/∃ o ob,assoc H o=some ob/\a7 σ o=some b:=by
 constructor
 ·rintro (h | ⟨o,ob,ho,hb⟩)
  ·exact .inl (.inl h)
  ·rcases hp.lr o ob ho with h | h
   ·exact .inr ⟨o,ob,h,hb⟩
   ·exact .inl (.inr ⟨o,ob,h,hb⟩)
 ·rintro ((h | ⟨o,ob,ho,hb⟩) | ⟨o,ob,ho,hb⟩)
  ·exact .inl h
  ·exact .inr ⟨o,ob,hp.r o ob ho,hb⟩
  ·exact .inr ⟨o,ob,hp.l o ob ho,hb⟩
theorem aQ.lZ (h:aQ C σ s a w){H rest:List (Nat×Ob)}(hp:pj H rest s.heap)(hF:LU w (FB C σ rest) (λ b=>∃ o ob,assoc H o=some ob/\a7 σ o=some b))(nt:Nat){args:List CV}{vs:List Value}(hv:a6 w (FB C σ s.heap) σ args vs)(ha:args.length<=nt) :
  aQ (C.lZ w σ H rest nt hF s.nx) σ ⟨(enter args).env,H,s.nx⟩ { tmps:=vs.toArray++Array.replicate (nt-vs.toArray.size) undef,defers:=[] } w:=by
 have hl:=a6.length _ _ hv;have Xm:∀ b,FB (C.lZ w σ H rest nt hF s.nx) σ H b->FB C σ s.heap b:=λ b hb=>by
  rw[pt hp];exact hb
 refine⟨rfl,by simp[Cx.lZ];omega,rfl,rfl,rfl,Nat.le_refl _,λ _ _ _=>rfl,?_,?_,λ o o' ob R9 b h1 h2=>h.inj o o' ob R9 b (hp.l _ _ h1) (hp.l _ _ h2),h.nx,λ _ _=>rfl,Nat.le_refl _,λ o B b ho hB _=>(by rw[h.nx o ho] at hB;cases hB)⟩
 ·intro t c hc;obtain⟨_,h2⟩:=gD args 0 t c hc;obtain⟨v,h3,h4⟩:=a6.get _ _ hv t c yC;refine⟨v,?_,VR.bG (cO.same Xm) _ _ (λ _ _=>rfl) h4⟩;have RS:=(List.getElem?_eq_some_iff.1 h3).1;simp only;rw[Array.getElem?_append_left (by simpa using RS)]
  simpa using h3
 ·intro o ob ho;obtain⟨B,m1,m2,m3,m4,m5⟩:=h.obj o ob (hp.l o ob ho);refine⟨B,m1,m2,m3,m4,λ b hb=>?_⟩;obtain⟨cur,n1,n2,n3,n4,n5,n6⟩:=m5 b hb;refine⟨cur,n1,n2,?_,.inl ⟨o,ob,ho,by simp[a7,m1,hb]⟩,n5,a6.bG (cO.same Xm) _ _ (λ _ _=>rfl) n6⟩;rintro (hf | ⟨o',R9,Sr,Sf⟩)
  ·exact n3 hf
  ·have:o'=o:=h.inj o' o R9 ob b (hp.r _ _ Sr) (hp.l _ _ ho) Sf (by simp[a7,m1,hb]);subst this;exact hp.d _ _ _ ho Sr
theorem aQ.backF (h:aQ C σ s a w){H rest:List (Nat×Ob)}(hp:pj H rest s.heap){hF:LU w (FB C σ rest) (λ b=>∃ o ob,assoc H o=some ob/\a7 σ o=some b)}{nt:Nat}{σ':Nat->Option OB}{s1:St}{a':Act}{w':World}(h':aQ (C.lZ w σ H rest nt hF s.nx) σ' s1 a' w')(hd:∀ o ob R9,assoc s1.heap o=some ob->assoc rest o=some R9->False) :
  aQ C σ' ⟨s.env,s1.heap++rest,s1.nx⟩ a w'/\∀ c v,VR w' (FB (C.lZ w σ H rest nt hF s.nx) σ' s1.heap) σ' c v->VR w' (FB C σ' (s1.heap++rest)) σ' c v:=by
 have Sd:∀ b,b<w.heap.size->(¬ ∃ o ob,assoc H o=some ob/\a7 σ o=some b)->w'.heap[b]? = w.heap[b]?:=λ b hb hn=>h'.frame b hb hn;have RS:∀ {o ob},assoc s.heap o=some ob->o<s.nx:=λ {o ob} ho=>by
  refine Nat.lt_of_not_le λ hle=>?_;obtain⟨B,e1,_⟩:=h.obj o ob ho;rw[h.nx o hle] at e1;cases e1
 have SJ:∀ {o},o<s.nx->σ' o=σ o:=λ {o} ho=>h'.gA o ho;have Uy:∀ o ob b,assoc s1.heap o=some ob->a7 σ' o=some b->(∃ o ob,assoc H o=some ob/\a7 σ o=some b)\/w.heap.size<=b:=λ o ob b ho hb=>by
  obtain⟨B,m1,_,_,_,m5⟩:=h'.obj o ob ho;obtain⟨cur,_,_,_,n4,_⟩:=m5 b ZF;exact n4
 have hnot:∀ o ob b,assoc s1.heap o=some ob->a7 σ' o=some b->¬ FB C σ rest b:=λ o ob b ho hb=>by
  obtain⟨B,m1,_,_,_,m5⟩:=h'.obj o ob ho;obtain⟨cur,_,_,n3,_⟩:=m5 b ZF;exact n3
 have VK:∀ {o ob b},assoc rest o=some ob->(a7 σ' o=some b↔a7 σ o=some b):=λ {o ob b} ho=>by
  unfold a7;rw[SJ (RS (hp.r _ _ ho))]
 have hFe:∀ b,FB C σ' (s1.heap++rest) b↔FB (C.lZ w σ H rest nt hF s.nx) σ' s1.heap b:=λ b=>by
  constructor
  ·rintro (hb | ⟨o,ob,ho,hb⟩)
   ·exact .inl (.inl hb)
   ·rw[ir] at ho;split at ho
    ·rename_i y hy;cases ho;exact .inr ⟨o,_,hy,hb⟩
    ·exact .inl (.inr ⟨o,ob,ho,(VK ho).1 hb⟩)
  ·rintro ((hb | ⟨o,ob,ho,hb⟩) | ⟨o,ob,ho,hb⟩)
   ·exact .inl hb
   ·refine .inr ⟨o,ob,?_,(VK ho).2 hb⟩;rw[ir];split
    ·rename_i y hy;exact (hd _ _ _ hy ho).elim
    ·exact ho
   ·exact .inr ⟨o,ob,by rw[ir,ho],hb⟩
 have hkw:cO w w' (FB C σ s.heap) (FB C σ' (s1.heap++rest)):=by
  have SX:∀ b,¬ FB C σ s.heap b->¬ ∃ o ob,assoc H o=some ob/\a7 σ o=some b:=λ b hf hx=>hf ((pt hp).2 (.inr hx));have hF2:∀ b,b<w.heap.size->¬ FB C σ s.heap b->¬ FB C σ' (s1.heap++rest) b:=λ b hb hf hx=>by
   rw[hFe] at hx;rcases hx with hx | ⟨o,ob,ho,V9⟩
   ·exact hf ((pt hp).2 (.inl hx))
   ·rcases Uy o ob b ho V9 with h1 | h1
    ·exact SX b hf h1
    ·omega
  refine⟨λ ad u hf hu=>?_,λ r _ hf hu _=>?_⟩
  ·have hl:=World.block_lt_of_cell? w ad hu;exact⟨by rw[World.cell?_of_block (w:=w) (Sd ad.block hl (SX _ hf))];exact hu,hF2 _ hl hf⟩
  ·have hl:=(Array.getElem?_eq_some_iff.1 hu).1;exact⟨by rw[Sd r hl (SX _ hf)];exact hu,hF2 _ hl hf⟩
 have XN:∀ b,(∃ o ob,assoc H o=some ob/\a7 σ o=some b)->C.own b\/C.w0.heap.size<=b:=λ b ⟨o,ob,ho,hb⟩=>by
  obtain⟨B,m1,_,_,_,m5⟩:=h.obj o ob (hp.l _ _ ho);obtain⟨cur,_,_,_,n4,_⟩:=m5 b ZF;exact n4
 refine⟨⟨h.pQ,h.tm,h'.os.trans h.os,h'.tape.trans h.tape,h'.output.trans h.output,Nat.le_trans h.size h'.size,?_,?_,?_,?_,h'.nx,λ o ho=>(h'.gA o (Nat.lt_of_lt_of_le ho h.low)).trans (h.gA o ho),Nat.le_trans h.low h'.low,λ o B b ho hB hb=>?_⟩,λ c v hv=>VR.bG (cO.same λ b hb=>(hFe b).1 hb) _ _ (λ _ _=>rfl) hv⟩
 ·intro b hb SX;rw[Sd b (Nat.lt_of_lt_of_le hb h.size) λ hx=>?_]
  ·exact h.frame b hb SX
  ·rcases XN b hx with h1 | h1
   ·exact SX h1
   ·omega
 ·intro t c hc;obtain⟨v,k1,k2⟩:=h.env t c hc;refine⟨v,k1,VR.bG hkw _ _ (λ o ho=>?_) k2⟩;refine h'.gA o (Nat.lt_of_not_le λ hle=>?_);obtain⟨B,hB⟩:=VR.refs _ _ o k2 ho;rw[h.nx o hle] at hB;cases hB
 ·intro o ob ho;rw[ir] at ho;split at ho
  ·rename_i y hy;cases ho;obtain⟨B,m1,m2,m3,m4,m5⟩:=h'.obj o _ hy;refine⟨B,m1,m2,m3,m4,λ b hb=>?_⟩;obtain⟨cur,n1,n2,n3,n4,n5,n6⟩:=m5 b hb;refine⟨cur,n1,n2,λ hf=>n3 (.inl hf),?_,n5,a6.bG (cO.same λ b hb=>(hFe b).1 hb) _ _ (λ _ _=>rfl) n6⟩;rcases n4 with n4 | n4
   ·exact XN b n4
   ·exact .inr (Nat.le_trans h.size n4)
  ·have hs:=hp.r _ _ ho;obtain⟨B,m1,m2,m3,m4,m5⟩:=h.obj o ob hs;refine⟨B,by rw[SJ (RS hs)];exact m1,m2,m3,m4,λ b hb=>?_⟩;obtain⟨cur,n1,n2,n3,n4,n5,n6⟩:=m5 b hb;have TO:=(Array.getElem?_eq_some_iff.1 n1).1;have SX:¬ ∃ o' R9,assoc H o'=some R9/\a7 σ o'=some b:=by
    rintro⟨o',R9,Sr,Sf⟩;have:o'=o:=h.inj o' o R9 ob b (hp.l _ _ Sr) hs Sf (by simp[a7,m1,hb]);subst this;exact hp.d _ _ _ Sr ho
   refine⟨cur,by rw[Sd b TO SX];exact n1,n2,n3,n4,n5,a6.bG hkw _ _ (λ p YH=>?_) n6⟩;refine h'.gA p (Nat.lt_of_not_le λ hle=>?_);obtain⟨B2,SA⟩:=a6.refs _ _ p n6 YH;rw[h.nx p hle] at SA;cases SA
 ·intro o o' ob R9 b ho Sr hb Sf;rw[ir] at ho Sr;have cross:∀ {p q x y},assoc s1.heap p=some x->a7 σ' p=some b->assoc rest q=some y->a7 σ' q=some b->False:=λ {p q x y} h1 h2 h3 h4=>
   hnot p x b h1 h2 (.inr ⟨q,y,h3,(VK h3).1 h4⟩)
  cases c1:assoc s1.heap o with
  | some y=>
   cases c2:assoc s1.heap o' with
   | some y'=>exact h'.inj o o' y y' b c1 c2 hb Sf
   | none=>
    rw[c2] at Sr;exact (cross c1 hb Sr Sf).elim
  | none=>
   rw[c1] at ho
   cases c2:assoc s1.heap o' with
   | some y'=>exact (cross c2 Sf ho hb).elim
   | none=>
    rw[c2] at Sr;exact h.inj o o' ob R9 b (hp.r _ _ ho) (hp.r _ _ Sr) ((VK ho).1 hb) ((VK Sr).1 Sf)
 ·rcases Nat.lt_or_ge o s.nx with hl | VV
  ·rw[SJ hl] at hB;exact h.new o B b ho hB hb
  ·rcases h'.new o B b VV hB hb with n4 | n4
   ·exact XN b n4
   ·exact .inr (Nat.le_trans h.size n4)
theorem sJ (Uu:aD P av){o:Oper}{g:FuncId}{cs:List CV}{R:CV->St->Prop}{H rest:List (Nat×Ob)}(hp:pj H rest s.heap)(he:qu P C s o g cs)(hb:Body P av g cs H s.nx R)(hR:∀ r s1,R r s1->∀ o ob R9,assoc s1.heap o=some ob->assoc rest o=some R9->False)(h:aQ C σ s a w)(K:Act->World->Prop)(Q:Exit->Act->World->Prop)
  (hK:∀ r s1 v w' σ',R r s1->aQ C σ' ⟨s.env,s1.heap++rest,s1.nx⟩ a w'->VR w' (FB C σ' (s1.heap++rest)) σ' r v->(∀ p,p<s.nx->σ' p=σ p)->K (a.put o.dst v) w'):o.wp P a w K Q:=by
 obtain⟨fn,code,hf,Tm,hn,hlen,hT⟩:=hb;obtain⟨vs,Iy,Tn⟩:=he σ a w h;have hF:LU w (FB C σ rest) (λ b=>∃ o ob,assoc H o=some ob/\a7 σ o=some b):=⟨λ b hb=>G0 h b ((pt hp).2 (.inl hb)),h.gok.mono λ b hb=>(pt hp).2 hb⟩;have h0:=h.lZ hp hF fn.ntmps Tn hlen;have Wp:Calls P g vs.toArray w λ e w'=>∃ v r s',e=.returned v/\R r s'/\∃ σ',aQ C σ' ⟨s.env,s'.heap++rest,s'.nx⟩ a w'/\VR w' (FB C σ' (s'.heap++rest)) σ' r v/\(∀ p,p<s.nx->σ' p=σ p):=by
  refine calls_of_wp hf Tm (wp_mono (hT (C.lZ w σ H rest fn.ntmps hF s.nx) rfl rfl _ _ ⟨_,h0⟩) λ e a' w' ⟨s1,q,σ1,Tk⟩=>?_);have fin:aa (C.lZ w σ H rest fn.ntmps hF s.nx) (λ s'=>∃ r,bL av fn s'=some r/\R r s') s1->a'.defers=[]/\∃ v,(results fn a'.tmps).run P w'=.ok v w'/\(∃ Wu r s',Ending.returned v=.returned Wu/\R r s'/\∃ σ',aQ C σ' ⟨s.env,s'.heap++rest,s'.nx⟩ a w'/\VR w' (FB C σ' (s'.heap++rest)) σ' r Wu/\(∀ p,p<s.nx->σ' p=σ p)):=λ⟨s2,⟨r,q1,q2⟩,hl⟩=>by
   obtain⟨σ2,Sx⟩:=hl _ _ ⟨σ1,Tk⟩;obtain⟨v,k1,k2⟩:=jA (P:=P) Uu Sx q1;obtain⟨b1,b2⟩:=h.backF hp Sx (hR r s2 q2);exact⟨Sx.pQ,v,k1,v,r,s2,rfl,q2,σ2,b1,b2 _ _ k2,Sx.gA⟩
  cases e with
  | normal=>exact fin q
  | ret=>exact fin q
  | exit _=>exact q.elim
  | goto _=>exact q.elim
  | panic _=>exact q.elim
  | outgrown=>exact q.elim
 unfold Oper.wp;rw[Iy];refine Wp.mono λ e w' ⟨v,r,s',he,hR,σ',So,hv,ho⟩=>?_;subst he;exact hK r s' v w' σ' hR So hv ho
theorem Np (ht:aD P av)(UX:j5 P mt)(RY:gT P av call)(gZ:yz P pc){i m:Nat}{o:Oper}{E:Ef}{rs:List Nat}{nb:Bool}{ab:Option (Nat×Nat)}{lo up:Nat}(h:xK av mt ops call pc lo up m s o=some (E,rs,nb,ab))(hd:bm C.nt o.dst=true)(hi:ops[i]? = some o)
  (TP:eL ⟨o.looksAt ops,rs,nb,ab⟩ (fs s') (fs s)) (hr:aQ C σ s' a w) (hm:σ m=none) (Vp:C.n0<=m) (UW:m<s'.nx) {Q':Exit->Act->World->Prop} (K:Act->World->Prop)
  (hK:∀ a' w' σ' T2,fs T2=ap o.dst E (fs s')->aQ C σ' T2 a' w'->(∀ p,p≠m->p<s'.nx->σ' p=σ p)->K a' w'):wpOp P ops Q' i K a w:=by
 have Uw:∀ t∈o.looksAt ops,assoc s'.env t=assoc s.env t:=TP.1;have Uy:∀ p∈rs,assoc s'.heap p=assoc s.heap p:=TP.2.1;have SN:=AU Uw;have Vc:=qE (ops:=ops) Uw;have Ss:∀ t,o.dst=some t->t<a.tmps.size:=λ t e=>by rw[hr.tm];rw[e] at hd;simpa [bm] using hd
 unfold xK at h;unfold wpOp;simp only[hi];split at h
 ·cases h
 ·rename_i hg;cases h;rw[hg] at Vc;have hw:Region.wanted o (yielded ops a.tmps)=false:=by
   unfold bY at Vc;split at Vc
   ·cases Vc
   ·rename_i j want e;split at Vc
    ·cases Vc
    rename_i t hj;exact j7 ⟨σ,hr⟩ e hj Vc
  rw[if_neg (by simp[hw])];exact hK _ _ σ (s'.put o.dst (.cB [])) (oY _ _ _) (hr.put Ss (by simp only[VR,a6];exact⟨[],rfl,rfl⟩)) λ _ _ _=>rfl
 ·rename_i hg;rw[hg] at Vc;have hw:=eU (ops:=ops) ⟨σ,hr⟩ Vc;rw[if_pos hw];refine .inl ?_;split at h
  ·rename_i c hu;have R5:=hU hu;split at h
   ·rename_i g cs hc;have Zv:jL mt s' c=some (g,cs):=by
     rw[u6 (λ x hx=>SN x (by rw[R5];exact hx)),hc]
    split at h
    ·rename_i r hp;cases h;split at hp
     ·rename_i Sa;have hP:=gZ g cs _ hp;exact FQ (qu.to UX R5 Zv hP.1) Sa hP hr _ _ λ v w' So hv=>hK _ _ σ (s'.put o.dst _) (oY _ _ _) (ky hd So hv) λ _ _ _=>rfl
     ·cases hp
    ·split at h
     ·rename_i x H n hx;split at h
      ·rename_i hn;cases h;obtain⟨hn,R4⟩:=hn;have hB:=RY _ _ _ _ _ _ _ hx;have hE:kW P g:=by
        obtain⟨fn,c,h1,h2,h3,_⟩:=hB;exact⟨fn,h1,h3,by simp[h2]⟩
       have Zm:s'.nx=s.nx:=TP.2.2.1 rfl;have hag4:∀ p,It lo up (fp cs) p=true->assoc s'.heap p=assoc s.heap p:=λ p hp=>by
        simp only[It,Bool.or_eq_true,decide_eq_true_eq,contains_eq_mem] at hp;rcases hp with (hp | hp) | hp
        ·exact TP.2.2.2 _ rfl p (.inl hp)
        ·exact TP.2.2.2 _ rfl p (.inr hp)
        ·exact Uy p hp
       have Tq:∀ p,assoc (tz lo up (fp cs) s.heap) p=if It lo up (fp cs) p then assoc s'.heap p else none:=λ p=>by
        rw[nQ];split
        ·rename_i hp;rw[hag4 p hp]
        ·rfl
       have Z3:pj (tz lo up (fp cs) s.heap) (EC lo up (fp cs) s'.heap) s'.heap:=by
        refine⟨λ p y hp=>?_,λ p y hp=>?_,λ p y hp=>?_,λ p y z hp hq=>?_⟩
        ·rw[Tq] at hp;split at hp
         ·exact hp
         ·cases hp
        ·rw[gq] at hp;split at hp
         ·cases hp
         ·exact hp
        ·rw[Tq,gq];split
         ·exact .inl hp
         ·exact .inr hp
        ·rw[Tq] at hp;rw[gq] at hq;split at hp
         ·rename_i Xh;rw[if_pos Xh] at hq;cases hq
         ·cases hp
       have UZ:∀ p y,assoc H p=some y->It lo up (fp cs) p=true:=λ p y hp=>by
        have:=all_eq_true.1 R4 _ (bx _ _ _ hp);exact this
       rw[<- Zm] at hB;refine sJ ht Z3 (qu.to UX R5 Zv hE) hB (λ r s1 hR p y z hp hq=>?_) hr _ _ λ r s1 v w' σ' hR So hv hold=>?_
       ·obtain⟨_,e1,_⟩:=hR;rw[e1] at hp;rw[gq,if_pos (UZ p y hp)] at hq;cases hq
       ·obtain⟨rfl,e1,e2⟩:=hR;refine hK _ _ σ' (p8 ⟨s'.env,s1.heap++EC lo up (fp cs) s'.heap,s1.nx⟩ o.dst (some r)) ?_ (ky hd So hv) λ p _ RS=>hold p RS;refine ij (s:=s') (λ p=>?_) (by rw[e2,Zm];omega);rw[e1,ir,gq];have Zu:=KY (tz lo up (fp cs) s.heap) H p;unfold kY at Zu |-;by_cases Xh:It lo up (fp cs) p=true
        ·rw[if_pos Xh]
         cases To:assoc (u5 (tz lo up (fp cs) s.heap) H) p with
         | some y=>
          rw[To] at Zu;simp only at Zu |-;rw[Zu];cases assoc H p<;>rfl
         | none=>
          rw[To] at Zu;simp only at Zu |-;rw[Tq,if_pos Xh] at Zu;rw[Zu];cases assoc H p<;>rfl
        ·rw[if_neg Xh];have hH:assoc H p=none:=by
          cases To:assoc H p with
          | none=>rfl
          | some y=>exact absurd (UZ p y To) Xh
         rw[hH];simp only
         cases To:assoc (u5 (tz lo up (fp cs) s.heap) H) p with
         | none=>rfl
         | some y=>
          exfalso;have hS:assoc (tz lo up (fp cs) s.heap) p=none:=by rw[Tq,if_neg Xh]
          exact EZ hS hH To
      ·cases h
     ·cases h
   ·cases h
  ·split at h
   ·rename_i c hq;cases h;have T6:fC av s' o.op=some c:=by
     by_cases hl:(∃ t x,o.op=.load t x)\/∃ t x lo hi mx,o.op=.slice t x lo hi mx
     ·refine Hr (s:=s) (λ x hx=>(SN x hx).symm) hq λ x hx v hv p ob hn hp=>?_;rw[Uy p ?_]
      ·exact hp
      ·rcases hl with ⟨t,y,e⟩ | ⟨t,y,lo,Xh,mx,e⟩
       ·have:Jv s o.op=Mt s o.op:=by rw[e];rfl
        rw[this];exact F9 hx hv hn
       ·have:Jv s o.op=Mt s o.op:=by rw[e];rfl
        rw[this];exact F9 hx hv hn
     ·rw[<- uS (s:=s) o.op (λ x hx=>(SN x hx).symm) (λ t x e=>hl (.inl ⟨t,x,e⟩)) (λ t x lo hi mx e=>hl (.inr ⟨t,x,lo,hi,mx,e⟩))];exact hq
    obtain⟨z,k1,k2⟩:=Au ht hr o T6;unfold Oper.wp;rw[k1];exact hK _ _ σ (s'.put o.dst c) (oY _ _ _) (ky hd hr k2) λ _ _ _=>rfl
   ·split at h
    ·rename_i c rs' hv;cases h;unfold GB at hv;split at hv
     ·rename_i t u x R5;split at hv
      ·rename_i c' hc;cases hv;have hx:ev s' x=ev s x:=SN x (by rw[R5];simp[Op.operands]);have To:sI av s' t u x=some c:=by
        rw[<- hc];unfold sI;rw[hx]
        cases hxv:ev s x with
        | none=>rfl
        | some v=>
         have:cells? s' v=cells? s v:=cells?_view λ p hp=>Uy p (by simp only[hxv];exact vL hp)
         cases dM av t with
         | none=>cases v<;>rfl
         | some d=>
          cases dM av u with
          | none=>cases v<;>cases d<;>rfl
          | some d'=>cases v<;>cases d<;>cases d'<;>first | rfl | simp only[this]
       obtain⟨z,k1,k2⟩:=Dt ht hr To;have k3:(execOp a.eval o).run P w=.ok (.value z) w:=by
        simp[execOp,R5,k1]
       unfold Oper.wp;rw[k3];exact hK _ _ σ (s'.put o.dst c) (oY _ _ _) (ky hd hr k2) λ _ _ _=>rfl
      ·cases hv
     ·cases hv
    split at h
    ·rename_i ob f hv;cases h;have UH:sM av s' o.op=some (ob,f):=by rw[Fi SN,hv]
     obtain⟨z,w',B,k1,k2⟩:=HI ht hr hm Vp UW Ss UH;unfold Oper.wp;rw[k1];refine hK _ _ _ _ ?_ k2 λ p hp _=>by simp[sig,hp]
     exact ij (s:=s') (k:=0) (d:=o.dst) (r:=some (f m)) (λ p=>by simp only[assoc,kY];by_cases e:m=p<;>simp[e]) rfl
    ·split at h
     ·rename_i t x v R5;split at h
      ·rename_i p ob hc;cases h;have hx:ev s' x=ev s x:=SN x (by rw[R5];simp[Op.operands]);have hv:ev s' v=ev s v:=SN v (by rw[R5];simp[Op.operands]);unfold Qo at hc;split at hc
       ·rename_i p' off c i' h1 h2 h3;split at hc
        ·cases hc
        ·rename_i R9 TU;split at hc
         ·cases hc
         ·rename_i UO;split at hc
          ·rename_i hlen;cases hc;have hob':assoc s'.heap p=some R9:=by rw[Uy p xr];exact TU
           have RW:uA av s' t x v=some { s' with heap:=uN s'.heap p { R9 with cells:=gP R9.cells off c.cells } }:=by
            unfold uA;rw[hx,hv,h1,h2,h3];simp only[hob'];rw[if_neg UO,if_pos hlen]
           obtain⟨w',k1,k2,_⟩:=zH ht hr R5 RW;unfold Oper.wp;rw[k1];refine hK _ _ σ _ ?_ (k2.del undef) λ _ _ _=>rfl;refine ij (s:=s') (k:=0) (d:=o.dst) (r:=none) (λ q=>?_) rfl;rw[fN];simp only[kY,assoc];by_cases e:p=q
           ·rw[if_pos e,if_pos e,<- e,hob'];rfl
           ·rw[if_neg e,if_neg e]
          ·cases hc
       ·cases hc
      ·cases h
     ·rename_i cl R5;split at h
      ·rename_i x y t t' Vf ha Tj;split at h
       ·rename_i e;subst e;split at h
        ·rename_i p q hp hq;split at h
         ·rename_i ob k rm hc;cases h;have ZJ:∀ {α:Type} {x:Array α} {l:List α},x.toList=l->x=l.toArray:=λ {α x l} e=>by rw[<- e]
          have RV:=ZJ ha;have hx:ev s' x=some p:=by rw[SN x (by rw[R5];simp[Op.operands,Call.operands,RV])];exact hp
          have hy:ev s' y=some q:=by rw[SN y (by rw[R5];simp[Op.operands,Call.operands,RV])];exact hq
          have hn:s'.nx=s.nx:=TP.2.2.1 rfl;have hc':sP av t p (Cr s' p) (cells? s' q)=some (ob,k,rm):=by
           rw[HE (λ o' Sr=>Uy o' (mem_append_left _ (vL Sr))),cells?_view (λ o' Sr=>Uy o' (mem_append_right _ (vL Sr)))];exact hc
          have happ:=Fk (d:=o.dst) hx hy hc';obtain⟨z,w',B,k1,k2⟩:=xU ht hr Ss R5 Vf RV (ZJ Tj) happ;unfold Oper.wp;rw[k1];refine hK _ _ _ _ ?_ k2 λ p hp RS=>by simp[sig,Nat.ne_of_lt RS]
          have XJ:fs (p8 ⟨s'.env,(s'.nx,ob)::Nr s'.heap rm,s'.nx+1⟩ o.dst (some (.bb s'.nx 0 k)))=ap o.dst ⟨some (.bb s'.nx 0 k),(s'.nx,some ob)::rmL rm,1⟩ (fs s'):=by
           refine ij (s:=s') (k:=1) (λ r=>?_) rfl;simp only[assoc,kY];by_cases e:s'.nx=r
           ·rw[if_pos e,if_pos e]
           ·rw[if_neg e,if_neg e]
            cases rm with
            | none=>simp only[Nr,rmL,assoc]
            | some o2=>
             simp only[Nr,rmL,fE,assoc];by_cases e2:o2=r
             ·rw[if_pos e2,if_pos e2]
             ·rw[if_neg e2,if_neg e2]
          rw[<- hn];exact XJ
         ·cases h
        ·cases h
       ·cases h
      ·cases h
     ·cases h
end
abbrev Er:=Ef×List Nat×Bool×Option (Nat×Nat)
instance : Inhabited Er := ⟨(⟨none, [], 0⟩, [], false, none)⟩
def jw (o:Oper):Bool:=match o.op with
 | .alloc _=>true
 | .box _ _=>true
 | .buildSlice _ _ _=>true
 | .makeSlice _ _ _=>true
 | .store _ _ _=>true
 | .call c=>match c.callee with
  | .builtin .append=>true
  | .builtin _=>false
  | _=>true
 | _=>false
def qi (o:Oper):Bool:=!jw o && match o.op with
 | .load _ _=>false
 | .slice _ _ _ _ _=>false
 | .convert _ _ _=>false
 | _=>true
def JI (ops:Array Oper):List Nat->List Nat->Bool
 | _,[]=>true
 | pre,i::r=>(match ops[i]? with
   | some o=>o.after.all λ e=>!Region.binds .any e || pre.contains e.on
   | none=>false) && JI ops (i::pre) r
def zd (ops:Array Oper)(dyn:List (Nat×Nat))(i j:Nat):Bool:=match ops[i]?,ops[j]? with
 | some oi,some oj=>oi.apart ops oj && (dyn.contains (i,j) || (!jw oi && !jw oj) || qi oi || qi oj)
 | _,_=>false
def Kb (ms:List (Nat×Nat)):List Edge->Nat->Nat
 | [],m=>m
 | e::l,m=>Kb ms l (if Region.binds .any e=true then m ||| (1 <<< e.on) ||| (assoc ms e.on).getD 0 else m)
def Ka (ops:Array Oper)(ms:List (Nat×Nat))(j:Nat):Nat:=match ops[j]? with
 | some o=>Kb ms o.after.toList 0
 | none=>0
def Ck (ops:Array Oper)(dyn:List (Nat×Nat))(b:Bool):List Nat->List (Nat×Nat)->List Nat->Bool
 | _,_,[]=>true
 | acc,ms,j::r=>let m:=Ka ops ms j
  (acc.all λ i=>m.testBit i || ((!b || ((ops[i]?).bind ct).isNone) && zd ops dyn i j)) && Ck ops dyn b (j::acc) ((j,m)::ms) r
def wu (ops:Array Oper)(b:Bool)(ord:List Nat)(dyn:List (Nat×Nat)):Bool:=
 decide ord.Nodup && ((range ops.size).all λ j=>ord.contains j) && (ord.all λ i=>decide (i<ops.size)) && JI ops [] ord && Ck ops dyn b [] [] ord
def Ee (w:List (Nat×Option Ob)):Option (Nat×Nat)->Bool
 | none=>true
 | some r=>w.all λ p=>decide (r.1<=p.1) && decide (p.1<r.2)
theorem pF (w:List (Nat×Option Ob)):Ee w none=true:=rfl
theorem wK (r:Option (Nat×Nat)):Ee [] r=true:=by cases r<;>rfl
def xv (x y:Er):Bool:=
 (x.1.w.all λ p=>!y.2.1.contains p.1 && (y.1.w.all λ q=>q.1 != p.1)) && (y.1.w.all λ q=>!x.2.1.contains q.1) && (!y.2.2.1 || x.1.k == 0) && (!x.2.2.1 || y.1.k == 0) && Ee x.1.w y.2.2.2 && Ee y.1.w x.2.2.2
section
variable {P:Program}{C:Cx}{s s':St}{ops:Array Oper}{av:List (Nat×TI)}{mt:iX}{pc:FuncId->List CV->Option CV}{call:gv}
theorem Hu {lo hi m:Nat}{o:Oper}{x:Er}(h:xK av mt ops call pc lo hi m s o=some x)(hl:jw o=false):x.1.w=[]/\x.1.k=0/\x.2.2.1=false/\x.2.2.2=none:=by
 unfold xK at h;split at h
 ·cases h
 ·cases h;exact⟨rfl,rfl,rfl,rfl⟩
 ·split at h
  ·rename_i c hu;have R5:=hU hu;exfalso;unfold ct at hu;rw[R5] at hu;simp only at hu;simp only[jw,R5] at hl;cases RY:c.callee<;>rw[RY] at hu hl<;>simp at hu hl
  ·split at h
   ·cases h;exact⟨rfl,rfl,rfl,rfl⟩
   ·split at h
    ·cases h;exact⟨rfl,rfl,rfl,rfl⟩
    split at h
    ·rename_i ob f hv;exfalso;revert hl hv;cases R5:o.op<;>simp[jw,R5,sM,Dz]
    ·split at h
     ·rename_i R5;simp[jw,R5] at hl
     ·rename_i cl R5;split at h
      ·rename_i RY _ _;simp[jw,R5,RY] at hl
      ·cases h
     ·cases h
theorem Jd {lo hi m:Nat}{o:Oper}{x:Er}(h:xK av mt ops call pc lo hi m s o=some x)(hl:qi o=true):x.2.1=[]:=by
 simp only[qi,Bool.and_eq_true,Bool.not_eq_true'] at hl;obtain⟨hl,hs⟩:=hl;unfold xK at h;split at h
 ·cases h
 ·cases h;rfl
 ·split at h
  ·rename_i c hu;have R5:=hU hu;exfalso;unfold ct at hu;rw[R5] at hu;simp only at hu;simp only[jw,R5] at hl;cases RY:c.callee<;>rw[RY] at hu hl<;>simp at hu hl
  ·split at h
   ·cases h;simp only;unfold Jv;split
    ·rename_i R5;simp[R5] at hs
    ·rename_i R5;simp[R5] at hs
    ·rfl
   ·split at h
    ·rename_i c' rs' hv;exfalso;unfold GB at hv;split at hv
     ·rename_i R5;simp[R5] at hs
     ·cases hv
    split at h
    ·cases h;rfl
    ·split at h
     ·rename_i R5;simp[jw,R5] at hl
     ·rename_i cl R5;split at h
      ·rename_i RY _ _;simp[jw,R5,RY] at hl
      ·cases h
     ·cases h
theorem P3 {d d':Option Tmp}{V V':List Nat}{x y:Er}(h:xv x y=true)(s1:∀ t,d=some t->t∉V')(s2:∀ t,d'=some t->t∉V)(s3:∀ t,d=some t->d'≠some t):Io d d' x.1 y.1 ⟨V,x.2.1,x.2.2.1,x.2.2.2⟩ ⟨V',y.2.1,y.2.2.1,y.2.2.2⟩:=by
 simp only[xv,Bool.and_eq_true,all_eq_true,Bool.not_eq_true',bne_iff_ne,Bool.or_eq_true,beq_iff_eq] at h;obtain⟨⟨⟨⟨⟨h1,h2⟩,h3⟩,h4⟩,h5⟩,h6⟩:=h;refine⟨s1,s2,s3,λ o z hz ho=>?_,λ o z hz ho=>?_,λ o z hz=>?_,λ hn=>?_,λ hn=>?_,λ rr hn=>?_,λ rr hn=>?_⟩
 ·have:=(h1 _ (bx _ _ _ hz)).1;simp at this;exact this ho
 ·have:=h2 _ (bx _ _ _ hz);simp at this;exact this ho
 ·have:=(h1 _ (bx _ _ _ hz)).2
  cases h7:assoc y.1.w o with
  | none=>rfl
  | some u=>
   have h8:=this _ (bx _ _ _ h7);simp at h8
 ·rcases h3 with h3 | h3
  ·have WZ:y.2.2.1=true:=hn;rw[WZ] at h3;cases h3
  ·exact h3
 ·rcases h4 with h4 | h4
  ·have WZ:x.2.2.1=true:=hn;rw[WZ] at h4;cases h4
  ·exact h4
 ·have WZ:y.2.2.2=Option.some rr:=hn;rw[WZ] at h5;simp only[Ee,all_eq_true,Bool.and_eq_true,decide_eq_true_eq] at h5;exact λ o z hz=>h5 _ (bx _ _ _ hz)
 ·have WZ:x.2.2.2=Option.some rr:=hn;rw[WZ] at h6;simp only[Ee,all_eq_true,Bool.and_eq_true,decide_eq_true_eq] at h6;exact λ o z hz=>h6 _ (bx _ _ _ hz)
theorem ze:∀ (l acc:List Nat),JI ops acc l=true->∀ pre i post,l=pre++i::post->∀ oi,ops[i]? = some oi->∀ e∈oi.after,Region.binds .any e=true->e.on∈acc\/e.on∈pre
 | [],_,_,pre,i,post,h,_,_,_,_,_=>by simp at h
 | k::r,acc,hx,pre,i,post,h,oi,WD,e,he,hb=>by
  simp only[JI,Bool.and_eq_true] at hx
  cases pre with
  | nil=>
   simp only[nil_append,cons.injEq] at h;obtain⟨rfl,_⟩:=h;have h1:=hx.1;rw[WD] at h1;simp only[Array.all_eq_true_iff_forall_mem] at h1;have:=h1 e he;simp only[hb,Bool.not_true,Bool.false_or,contains_eq_mem,decide_eq_true_eq] at this;exact .inl this
  | cons p pre=>
   simp only[cons_append,cons.injEq] at h;obtain⟨rfl,h⟩:=h;rcases ze r (k::acc) hx.2 pre i post h oi WD e he hb with h2 | h2
   ·rcases mem_cons.1 h2 with e2 | h2
    ·exact .inr (by simp[e2])
    ·exact .inl h2
   ·exact .inr (mem_cons_of_mem _ h2)
def OS (ops:Array Oper)(ms:List (Nat×Nat)):Prop:=∀ j m,assoc ms j=some m->∀ i,m.testBit i=true->DR ops j i
theorem CE {ms:List (Nat×Nat)}{i:Nat}:∀ (l:List Edge) (m:Nat),(Kb ms l m).testBit i=true->m.testBit i=true\/∃ e∈l,Region.binds .any e=true/\(i=e.on\/∃ k,assoc ms e.on=some k/\k.testBit i=true)
 | [],m,h=>.inl h
 | e::l,m,h=>by
  rcases CE l _ h with h | ⟨e',he,h⟩
  ·split at h
   ·rename_i hb;simp only[Nat.testBit_or,Bool.or_eq_true,Nat.one_shiftLeft,Nat.testBit_two_pow,decide_eq_true_eq] at h;rcases h with (h | h) | h
    ·exact .inl h
    ·exact .inr ⟨e,mem_cons_self,hb,.inl h.symm⟩
    ·cases hk:assoc ms e.on with
     | none=>rw[hk] at h;simp at h
     | some k=>rw[hk] at h;exact .inr ⟨e,mem_cons_self,hb,.inr ⟨k,hk,h⟩⟩
   ·exact .inl h
  ·exact .inr ⟨e',mem_cons_of_mem _ he,h⟩
theorem CD {ms:List (Nat×Nat)}(h:OS ops ms){j i:Nat}(hm:(Ka ops ms j).testBit i=true):DR ops j i:=by
 intro listed hc hj;unfold Ka at hm;split at hm
 ·rename_i o ho;rcases CE _ _ hm with h0 | ⟨e,he,hb,h1⟩
  ·simp at h0
  ·have hl:=hj o ho e (by simpa using he) hb;rcases h1 with rfl | ⟨k,hk,hi⟩
   ·exact hl
   ·exact h e.on k hk i hi listed hc λ ok Sg e' he' Sf=>hc e.on ok Sg hl e' he' Sf
 ·simp at hm
theorem wV {dyn:List (Nat×Nat)}{b:Bool}:∀ (l acc:List Nat) (ms:List (Nat×Nat)),OS ops ms->Ck ops dyn b acc ms l=true->∀ pre j post,l=pre++j::post->∀ i,i∈acc\/i∈pre->DR ops j i\/((b=true->(ops[i]?).bind ct=none)/\zd ops dyn i j=true)
 | [],_,_,_,_,pre,j,post,h,_,_=>by simp at h
 | k::r,acc,ms,Tf,hx,pre,j,post,h,i,hi=>by
  simp only[Ck,Bool.and_eq_true,all_eq_true] at hx
  cases pre with
  | nil=>
   simp only[nil_append,cons.injEq] at h;obtain⟨rfl,rfl⟩:=h;have:=hx.1 i (hi.resolve_right not_mem_nil);simp only[Bool.or_eq_true,Bool.and_eq_true,Bool.not_eq_true',Option.isNone_iff_eq_none] at this;rcases this with h1 | ⟨h1,h2⟩
   ·exact .inl (CD Tf h1)
   ·exact .inr ⟨λ e=>h1.resolve_left (by rw[e];simp),h2⟩
  | cons p pre=>
   simp only[cons_append,cons.injEq] at h;obtain⟨rfl,h⟩:=h;refine wV r (k::acc) _ (λ j' m' h' i' Xh=>?_) hx.2 pre j post h i ?_
   ·simp only[assoc] at h';split at h'
    ·rename_i e;cases h';subst e;exact CD Tf Xh
    ·exact Tf j' m' h' i' Xh
   ·rcases hi with hi | hi
    ·exact .inl (mem_cons_of_mem _ hi)
    ·rcases mem_cons.1 hi with rfl | hi
     ·exact .inl mem_cons_self
     ·exact .inr hi
end
def renV (o q:Nat):CV->CV
 | .bb p off n=>if p=o then .bb q off n else .bb p off n
 | c=>c
def renOk (o q:Nat):CV->Bool
 | .bb p _ _=>p == o || decide (p<q)
 | c=>aU q c
def renE (o q:Nat):List (Nat×CV)->List (Nat×CV)
 | []=>[]
 | (t,c)::r=>(t,renV o q c)::renE o q r
attribute [simp] renV renOk renE
end Go.Can
namespace Go.Can
open List
section
variable {α:Type}{f:α->List CV}{n:Nat}
theorem aC (hf:∀ x,(f x).length=n):∀ m:List α,(m.flatMap f).length=m.length*n
 | []=>by simp
 | a::r=>by
  have ih:=aC hf r;simp only[flatMap_cons,length_append,hf,ih,length_cons,Nat.add_mul];omega
theorem ur (hf:∀ x,(f x).length=n):∀ (m:List α) (i:Nat),(m.flatMap f).take (i*n)=(m.take i).flatMap f
 | [],i=>by simp
 | a::r,0=>by simp
 | a::r,i+1=>by
  have ih:=ur hf r i;simp only[take_succ_cons,flatMap_cons,<- ih];rw[show (i+1)*n=(f a).length+i*n by rw[hf,Nat.add_mul];omega,take_length_add_append]
theorem uu (hf:∀ x,(f x).length=n):∀ (m:List α) (i:Nat),(m.flatMap f).drop (i*n)=(m.drop i).flatMap f
 | [],i=>by simp
 | a::r,0=>by simp
 | a::r,i+1=>by
  have ih:=uu hf r i;simp only[drop_succ_cons,flatMap_cons,<- ih];rw[show (i+1)*n=(f a).length+i*n by rw[hf,Nat.add_mul];omega,drop_length_add_append]
theorem aI (hf:∀ x,(f x).length=n){m:List α}{i:Nat}{e:α}(h:m[i]? = some e):(m.flatMap f).drop (i*n)=f e++(m.drop (i+1)).flatMap f:=by
 rw[uu hf];obtain⟨hi,he⟩:=List.getElem?_eq_some_iff.1 h;rw[drop_eq_getElem_cons hi,he,flatMap_cons]
end
end Go.Can
