/- A region that draws, run i -/
import Derived.Test.YtlkmbdfhdknlgaaGreatV11
namespace Go.Can
open Go.RowKit List
def wW (P:Program)(pc:FuncId->List CV->Option CV):Prop:=∀ g cs r,pc g cs=some r->af P g cs r
section
variable {P:Program}{C:Cx}{σ:Nat->Option OB}{s s':St}{a:Act}{w:World}{ops:Array Oper}{av:List (Nat×TI)}{mt:iO}{pc:FuncId->List CV->Option CV}{call:fW}
theorem zk {o:Oper}(h:∀ t∈o.looksAt ops,assoc s'.env t=assoc s.env t):∀ x∈o.op.operands,ev s' x=ev s x:=λ x hx=>by
 cases x with
 | tmp t=>exact h t (mem_append_left _ (mem_filterMap.2 ⟨.tmp t,by simpa using hx,rfl⟩))
 | _=>rfl
theorem pZ {o:Oper}(h:∀ t∈o.looksAt ops,assoc s'.env t=assoc s.env t):bW ops s' o=bW ops s o:=by
 unfold bW
 cases hg:o.guard with
 | none=>rfl
 | some q=>
  obtain⟨j,want⟩:=q;simp only
  cases hj:(ops[j]?).bind (·.dst) with
  | none=>rfl
  | some t=>simp only;rw[h t (by simp[Oper.looksAt,hg,hj])]
theorem tu {c:Call}(h:∀ x∈c.operands,ev s' x=ev s x):jE mt s' c=jE mt s c:=by
 have ha:Bk s' c.args.toList=Bk s c.args.toList:=je _ λ x hx=>h x (by simp only[Call.operands,Array.mem_append];exact .inr (by simpa using hx));unfold jE;split
 ·rename_i f hf;unfold bJ;rw[hf];simp only;rw[h f (by simp[Call.operands,hf]),ha]
 ·rename_i r name hr;rw[h r (by simp[Call.operands,hr]),ha]
 ·rfl
theorem Di {op:Op}(h:∀ x∈op.operands,ev s' x=ev s x):rh av s' op=rh av s op:=by
 cases op<;>simp only[rh]<;>first | exact Dh _ h | skip
 case makeSlice t l c=>rw[h l Rn,h c Rn]
theorem cells?_view {c:CV}(h:∀ o,names o c=true->assoc s'.heap o=assoc s.heap o):cells? s' c=cells? s c:=by
 unfold cells?;split<;>first | rfl | skip
 rename_i o off n;rw[h o (by simp[names])]
theorem Fk {c:CV}(h:∀ o,names o c=true->assoc s'.heap o=assoc s.heap o):AA s' c=AA s c:=by
 unfold AA;split<;>first | rfl | skip
 rename_i o off n;rw[h o (by simp[names])]
theorem kf {o:Oper}(hd:bl C.nt o.dst=true)(h:aO C σ s a w){c:CV}{v:Value}(hv:VR w (FB C σ s.heap) σ c v):aO C σ (s.put o.dst c) (a.put o.dst v) w:=
 h.put (λ t e=>by rw[h.tm];rw[e] at hd;simpa [bl] using hd) hv
theorem gU {s:St}{H:List (Nat×Ob)}{n k:Nat}{d:Option Tmp}{r:Option CV}{w:List (Nat×Option Ob)}(hH:∀ p,assoc H p=kD (assoc s.heap) w p)(hn:n=s.nx+k):fs (nA ⟨s.env,H,n⟩ d r)=ap d ⟨r,w,k⟩ (fs s):=by
 unfold fs ap;congr 1
 ·funext t;exact mZ t
 ·funext p;rw[gO.1];exact hH p
 ·rw[gO.2];exact hn
def Cx.lE (C:Cx)(w:World)(σ:Nat->Option OB)(H rest:List (Nat×Ob))(nt:Nat)(hF:Je w (FB C σ rest) (λ b=>∃ o ob,assoc H o=some ob/\a9 σ o=some b))(n:Nat):Cx:=
 ⟨w,FB C σ rest,λ b=>∃ o ob,assoc H o=some ob/\a9 σ o=some b,hF,nt,σ,n⟩
structure oE (H rest G:List (Nat×Ob)):Prop where
 l:∀ o ob,assoc H o=some ob->assoc G o=some ob
 r:∀ o ob,assoc rest o=some ob->assoc G o=some ob
 lr:∀ o ob,assoc G o=some ob->assoc H o=some ob\/assoc rest o=some ob
 d:∀ o ob Pe,assoc H o=some ob->assoc rest o=some Pe->False
theorem oF {H rest G:List (Nat×Ob)}(hp:oE H rest G){b:Nat}:FB C σ G b↔FB C σ rest b\/∃ o ob,assoc H o=some ob/\a9 σ o=some b:=by
 constructor
 ·rintro (h | ⟨o,ob,ho,hb⟩)
  ·exact .inl (.inl h)
  ·rcases hp.lr o ob ho with h | h
   ·exact .inr ⟨o,ob,h,hb⟩
   ·exact .inl (.inr ⟨o,ob,h,hb⟩)
 ·rintro ((h | ⟨o,ob,ho,hb⟩) | ⟨o,ob,ho,hb⟩)
  ·exact .inl h
  ·exact .inr ⟨o,ob,hp.r o ob ho,hb⟩
  ·exact .inr ⟨o,ob,hp.l o ob ho,hb⟩
theorem aO.lE (h:aO C σ s a w){H rest:List (Nat×Ob)}(hp:oE H rest s.heap)(hF:Je w (FB C σ rest) (λ b=>∃ o ob,assoc H o=some ob/\a9 σ o=some b))(nt:Nat){args:List CV}{vs:List Value}(hv:a7 w (FB C σ s.heap) σ args vs)(ha:args.length<=nt) :
  aO (C.lE w σ H rest nt hF s.nx) σ ⟨(enter args).env,H,s.nx⟩ { tmps:=vs.toArray++Array.replicate (nt-vs.toArray.size) undef,defers:=[] } w:=by
 have hl:=a7.length _ _ hv;have Ur:∀ b,FB (C.lE w σ H rest nt hF s.nx) σ H b->FB C σ s.heap b:=λ b hb=>by
  rw[oF hp];exact hb
 refine⟨rfl,by simp[Cx.lE];omega,rfl,rfl,rfl,Nat.le_refl _,λ _ _ _=>rfl,?_,?_,λ o o' ob Pe b h1 h2=>h.inj o o' ob Pe b (hp.l _ _ h1) (hp.l _ _ h2),h.nx,λ _ _=>rfl,Nat.le_refl _,λ o B b ho hB _=>(by rw[h.nx o ho] at hB;cases hB)⟩
 ·intro t c hc;obtain⟨_,h2⟩:=gj args 0 t c hc;obtain⟨v,h3,h4⟩:=a7.get _ _ hv t c yC;refine⟨v,?_,VR.bL (cY.same Ur) _ _ (λ _ _=>rfl) h4⟩;have OT:=(List.getElem?_eq_some_iff.1 h3).1;simp only;rw[Array.getElem?_append_left (by simpa using OT)]
  simpa using h3
 ·intro o ob ho;obtain⟨B,m1,m2,m3,m4,m5⟩:=h.obj o ob (hp.l o ob ho);refine⟨B,m1,m2,m3,m4,λ b hb=>?_⟩;obtain⟨cur,n1,n2,n3,n4,n5,n6⟩:=m5 b hb;refine⟨cur,n1,n2,?_,.inl ⟨o,ob,ho,by simp[a9,m1,hb]⟩,n5,a7.bL (cY.same Ur) _ _ (λ _ _=>rfl) n6⟩;rintro (hf | ⟨o',Pe,Pt,Pf⟩)
  ·exact n3 hf
  ·have:o'=o:=h.inj o' o Pe ob b (hp.r _ _ Pt) (hp.l _ _ ho) Pf (by simp[a9,m1,hb]);subst this;exact hp.d _ _ _ ho Pt
theorem aO.backF (h:aO C σ s a w){H rest:List (Nat×Ob)}(hp:oE H rest s.heap){hF:Je w (FB C σ rest) (λ b=>∃ o ob,assoc H o=some ob/\a9 σ o=some b)}{nt:Nat}{σ':Nat->Option OB}{s1:St}{a':Act}{w':World}(h':aO (C.lE w σ H rest nt hF s.nx) σ' s1 a' w')(hd:∀ o ob Pe,assoc s1.heap o=some ob->assoc rest o=some Pe->False) :
  aO C σ' ⟨s.env,s1.heap++rest,s1.nx⟩ a w'/\∀ c v,VR w' (FB (C.lE w σ H rest nt hF s.nx) σ' s1.heap) σ' c v->VR w' (FB C σ' (s1.heap++rest)) σ' c v:=by
 have Po:∀ b,b<w.heap.size->(¬ ∃ o ob,assoc H o=some ob/\a9 σ o=some b)->w'.heap[b]? = w.heap[b]?:=λ b hb hn=>h'.frame b hb hn;have OT:∀ {o ob},assoc s.heap o=some ob->o<s.nx:=λ {o ob} ho=>by
  refine Nat.lt_of_not_le λ hle=>?_;obtain⟨B,e1,_⟩:=h.obj o ob ho;rw[h.nx o hle] at e1;cases e1
 have Ra:∀ {o},o<s.nx->σ' o=σ o:=λ {o} ho=>h'.fX o ho;have RB:∀ o ob b,assoc s1.heap o=some ob->a9 σ' o=some b->(∃ o ob,assoc H o=some ob/\a9 σ o=some b)\/w.heap.size<=b:=λ o ob b ho hb=>by
  obtain⟨B,m1,_,_,_,m5⟩:=h'.obj o ob ho;obtain⟨cur,_,_,_,n4,_⟩:=m5 b WH;exact n4
 have hnot:∀ o ob b,assoc s1.heap o=some ob->a9 σ' o=some b->¬ FB C σ rest b:=λ o ob b ho hb=>by
  obtain⟨B,m1,_,_,_,m5⟩:=h'.obj o ob ho;obtain⟨cur,_,_,n3,_⟩:=m5 b WH;exact n3
 have SQ:∀ {o ob b},assoc rest o=some ob->(a9 σ' o=some b↔a9 σ o=some b):=λ {o ob b} ho=>by
  unfold a9;rw[Ra (OT (hp.r _ _ ho))]
 have hFe:∀ b,FB C σ' (s1.heap++rest) b↔FB (C.lE w σ H rest nt hF s.nx) σ' s1.heap b:=λ b=>by
  constructor
  ·rintro (hb | ⟨o,ob,ho,hb⟩)
   ·exact .inl (.inl hb)
   ·rw[gZ] at ho;split at ho
    ·rename_i y hy;cases ho;exact .inr ⟨o,_,hy,hb⟩
    ·exact .inl (.inr ⟨o,ob,ho,(SQ ho).1 hb⟩)
  ·rintro ((hb | ⟨o,ob,ho,hb⟩) | ⟨o,ob,ho,hb⟩)
   ·exact .inl hb
   ·refine .inr ⟨o,ob,?_,(SQ ho).2 hb⟩;rw[gZ];split
    ·rename_i y hy;exact (hd _ _ _ hy ho).elim
    ·exact ho
   ·exact .inr ⟨o,ob,by rw[gZ,ho],hb⟩
 have hkw:cY w w' (FB C σ s.heap) (FB C σ' (s1.heap++rest)):=by
  have Qc:∀ b,¬ FB C σ s.heap b->¬ ∃ o ob,assoc H o=some ob/\a9 σ o=some b:=λ b hf hx=>hf ((oF hp).2 (.inr hx));have hF2:∀ b,b<w.heap.size->¬ FB C σ s.heap b->¬ FB C σ' (s1.heap++rest) b:=λ b hb hf hx=>by
   rw[hFe] at hx;rcases hx with hx | ⟨o,ob,ho,Tf⟩
   ·exact hf ((oF hp).2 (.inl hx))
   ·rcases RB o ob b ho Tf with h1 | h1
    ·exact Qc b hf h1
    ·omega
  refine⟨λ ad u hf hu=>?_,λ r _ hf hu _=>?_⟩
  ·have hl:=World.block_lt_of_cell? w ad hu;exact⟨by rw[World.cell?_of_block (w:=w) (Po ad.block hl (Qc _ hf))];exact hu,hF2 _ hl hf⟩
  ·have hl:=(Array.getElem?_eq_some_iff.1 hu).1;exact⟨by rw[Po r hl (Qc _ hf)];exact hu,hF2 _ hl hf⟩
 have UJ:∀ b,(∃ o ob,assoc H o=some ob/\a9 σ o=some b)->C.own b\/C.w0.heap.size<=b:=λ b ⟨o,ob,ho,hb⟩=>by
  obtain⟨B,m1,_,_,_,m5⟩:=h.obj o ob (hp.l _ _ ho);obtain⟨cur,_,_,_,n4,_⟩:=m5 b WH;exact n4
 refine⟨⟨h.oz,h.tm,h'.os.trans h.os,h'.tape.trans h.tape,h'.output.trans h.output,Nat.le_trans h.size h'.size,?_,?_,?_,?_,h'.nx,λ o ho=>(h'.fX o (Nat.lt_of_lt_of_le ho h.low)).trans (h.fX o ho),Nat.le_trans h.low h'.low,λ o B b ho hB hb=>?_⟩,λ c v hv=>VR.bL (cY.same λ b hb=>(hFe b).1 hb) _ _ (λ _ _=>rfl) hv⟩
 ·intro b hb Qc;rw[Po b (Nat.lt_of_lt_of_le hb h.size) λ hx=>?_]
  ·exact h.frame b hb Qc
  ·rcases UJ b hx with h1 | h1
   ·exact Qc h1
   ·omega
 ·intro t c hc;obtain⟨v,k1,k2⟩:=h.env t c hc;refine⟨v,k1,VR.bL hkw _ _ (λ o ho=>?_) k2⟩;refine h'.fX o (Nat.lt_of_not_le λ hle=>?_);obtain⟨B,hB⟩:=VR.refs _ _ o k2 ho;rw[h.nx o hle] at hB;cases hB
 ·intro o ob ho;rw[gZ] at ho;split at ho
  ·rename_i y hy;cases ho;obtain⟨B,m1,m2,m3,m4,m5⟩:=h'.obj o _ hy;refine⟨B,m1,m2,m3,m4,λ b hb=>?_⟩;obtain⟨cur,n1,n2,n3,n4,n5,n6⟩:=m5 b hb;refine⟨cur,n1,n2,λ hf=>n3 (.inl hf),?_,n5,a7.bL (cY.same λ b hb=>(hFe b).1 hb) _ _ (λ _ _=>rfl) n6⟩;rcases n4 with n4 | n4
   ·exact UJ b n4
   ·exact .inr (Nat.le_trans h.size n4)
  ·have hs:=hp.r _ _ ho;obtain⟨B,m1,m2,m3,m4,m5⟩:=h.obj o ob hs;refine⟨B,by rw[Ra (OT hs)];exact m1,m2,m3,m4,λ b hb=>?_⟩;obtain⟨cur,n1,n2,n3,n4,n5,n6⟩:=m5 b hb;have S8:=(Array.getElem?_eq_some_iff.1 n1).1;have Qc:¬ ∃ o' Pe,assoc H o'=some Pe/\a9 σ o'=some b:=by
    rintro⟨o',Pe,Pt,Pf⟩;have:o'=o:=h.inj o' o Pe ob b (hp.l _ _ Pt) hs Pf (by simp[a9,m1,hb]);subst this;exact hp.d _ _ _ Pt ho
   refine⟨cur,by rw[Po b S8 Qc];exact n1,n2,n3,n4,n5,a7.bL hkw _ _ (λ p VO=>?_) n6⟩;refine h'.fX p (Nat.lt_of_not_le λ hle=>?_);obtain⟨B2,PO⟩:=a7.refs _ _ p n6 VO;rw[h.nx p hle] at PO;cases PO
 ·intro o o' ob Pe b ho Pt hb Pf;rw[gZ] at ho Pt;have cross:∀ {p q x y},assoc s1.heap p=some x->a9 σ' p=some b->assoc rest q=some y->a9 σ' q=some b->False:=λ {p q x y} h1 h2 h3 h4=>
   hnot p x b h1 h2 (.inr ⟨q,y,h3,(SQ h3).1 h4⟩)
  cases c1:assoc s1.heap o with
  | some y=>
   cases c2:assoc s1.heap o' with
   | some y'=>exact h'.inj o o' y y' b c1 c2 hb Pf
   | none=>
    rw[c2] at Pt;exact (cross c1 hb Pt Pf).elim
  | none=>
   rw[c1] at ho
   cases c2:assoc s1.heap o' with
   | some y'=>exact (cross c2 Pf ho hb).elim
   | none=>
    rw[c2] at Pt;exact h.inj o o' ob Pe b (hp.r _ _ ho) (hp.r _ _ Pt) ((SQ ho).1 hb) ((SQ Pt).1 Pf)
 ·rcases Nat.lt_or_ge o s.nx with hl | SD
  ·rw[Ra hl] at hB;exact h.new o B b ho hB hb
  ·rcases h'.new o B b SD hB hb with n4 | n4
   ·exact UJ b n4
   ·exact .inr (Nat.le_trans h.size n4)
theorem q9 (RQ:aD P av){o:Oper}{g:FuncId}{cs:List CV}{R:CV->St->Prop}{H rest:List (Nat×Ob)}(hp:oE H rest s.heap)(he:yn P C s o g cs)(hb:Body P av g cs H s.nx R)(hR:∀ r s1,R r s1->∀ o ob Pe,assoc s1.heap o=some ob->assoc rest o=some Pe->False)(h:aO C σ s a w)(K:Act->World->Prop)(Q:Exit->Act->World->Prop)
  (hK:∀ r s1 v w' σ',R r s1->aO C σ' ⟨s.env,s1.heap++rest,s1.nx⟩ a w'->VR w' (FB C σ' (s1.heap++rest)) σ' r v->(∀ p,p<s.nx->σ' p=σ p)->K (a.put o.dst v) w'):o.wp P a w K Q:=by
 obtain⟨fn,code,hf,Qw,hn,hlen,hT⟩:=hb;obtain⟨vs,I7,PJ⟩:=he σ a w h;have hF:Je w (FB C σ rest) (λ b=>∃ o ob,assoc H o=some ob/\a9 σ o=some b):=⟨λ b hb=>Ew h b ((oF hp).2 (.inl hb)),h.gok.mono λ b hb=>(oF hp).2 hb⟩;have h0:=h.lE hp hF fn.ntmps PJ hlen;have Tv:Calls P g vs.toArray w λ e w'=>∃ v r s',e=.returned v/\R r s'/\∃ σ',aO C σ' ⟨s.env,s'.heap++rest,s'.nx⟩ a w'/\VR w' (FB C σ' (s'.heap++rest)) σ' r v/\(∀ p,p<s.nx->σ' p=σ p):=by
  refine calls_of_wp hf Qw (wp_mono (hT (C.lE w σ H rest fn.ntmps hF s.nx) rfl rfl _ _ ⟨_,h0⟩) λ e a' w' ⟨s1,q,σ1,Qg⟩=>?_);have fin:aa (C.lE w σ H rest fn.ntmps hF s.nx) (λ s'=>∃ r,bQ av fn s'=some r/\R r s') s1->a'.defers=[]/\∃ v,(results fn a'.tmps).run P w'=.ok v w'/\(∃ TA r s',Ending.returned v=.returned TA/\R r s'/\∃ σ',aO C σ' ⟨s.env,s'.heap++rest,s'.nx⟩ a w'/\VR w' (FB C σ' (s'.heap++rest)) σ' r TA/\(∀ p,p<s.nx->σ' p=σ p)):=λ⟨s2,⟨r,q1,q2⟩,hl⟩=>by
   obtain⟨σ2,PL⟩:=hl _ _ ⟨σ1,Qg⟩;obtain⟨v,k1,k2⟩:=jv (P:=P) RQ PL q1;obtain⟨b1,b2⟩:=h.backF hp PL (hR r s2 q2);exact⟨PL.oz,v,k1,v,r,s2,rfl,q2,σ2,b1,b2 _ _ k2,PL.fX⟩
  cases e with
  | normal=>exact fin q
  | ret=>exact fin q
  | exit _=>exact q.elim
  | goto _=>exact q.elim
  | panic _=>exact q.elim
  | outgrown=>exact q.elim
 unfold Oper.wp;rw[I7];refine Tv.mono λ e w' ⟨v,r,s',he,hR,σ',Pu,hv,ho⟩=>?_;subst he;exact hK r s' v w' σ' hR Pu hv ho
theorem Ky (ht:aD P av)(R6:j0 P mt)(O2:gF P av call)(gJ:wW P pc){i m:Nat}{o:Oper}{E:Ef}{rs:List Nat}{nb:Bool}{ab:Option (Nat×Nat)}{lo up:Nat}(h:vT av mt ops call pc lo up m s o=some (E,rs,nb,ab))(hd:bl C.nt o.dst=true)(hi:ops[i]? = some o)
  (Rk:eA ⟨o.looksAt ops,rs,nb,ab⟩ (fs s') (fs s)) (hr:aO C σ s' a w) (hm:σ m=none) (SC:C.n0<=m) (To:m<s'.nx) {Q':Exit->Act->World->Prop} (K:Act->World->Prop)
  (hK:∀ a' w' σ' Q5,fs Q5=ap o.dst E (fs s')->aO C σ' Q5 a' w'->(∀ p,p≠m->p<s'.nx->σ' p=σ p)->K a' w'):wpOp P ops Q' i K a w:=by
 have RA:∀ t∈o.looksAt ops,assoc s'.env t=assoc s.env t:=Rk.1;have RB:∀ p∈rs,assoc s'.heap p=assoc s.heap p:=Rk.2.1;have Pv:=zk RA;have Sj:=pZ (ops:=ops) RA;have PG:∀ t,o.dst=some t->t<a.tmps.size:=λ t e=>by rw[hr.tm];rw[e] at hd;simpa [bl] using hd
 unfold vT at h;unfold wpOp;simp only[hi];split at h
 ·cases h
 ·rename_i hg;cases h;rw[hg] at Sj;have hw:Region.wanted o (yielded ops a.tmps)=false:=by
   unfold bW at Sj;split at Sj
   ·cases Sj
   ·rename_i j want e;split at Sj
    ·cases Sj
    rename_i t hj;exact iR ⟨σ,hr⟩ e hj Sj
  rw[if_neg (by simp[hw])];exact hK _ _ σ (s'.put o.dst (.bY [])) (ox _ _ _) (hr.put PG (by simp only[VR,a7];exact⟨[],rfl,rfl⟩)) λ _ _ _=>rfl
 ·rename_i hg;rw[hg] at Sj;have hw:=eH (ops:=ops) ⟨σ,hr⟩ Sj;rw[if_pos hw];refine .inl ?_;split at h
  ·rename_i c hu;have Pj:=gN hu;split at h
   ·rename_i g cs hc;have Up:jE mt s' c=some (g,cs):=by
     rw[tu (λ x hx=>Pv x (by rw[Pj];exact hx)),hc]
    split at h
    ·rename_i r hp;cases h;split at hp
     ·rename_i O1;have hP:=gJ g cs _ hp;exact DE (yn.to R6 Pj Up hP.1) O1 hP hr _ _ λ v w' Pu hv=>hK _ _ σ (s'.put o.dst _) (ox _ _ _) (kf hd Pu hv) λ _ _ _=>rfl
     ·cases hp
    ·split at h
     ·rename_i x H n hx;split at h
      ·rename_i hn;cases h;obtain⟨hn,OZ⟩:=hn;have hB:=O2 _ _ _ _ _ _ _ hx;have hE:kC P g:=by
        obtain⟨fn,c,h1,h2,h3,_⟩:=hB;exact⟨fn,h1,h3,by simp[h2]⟩
       have Wt:s'.nx=s.nx:=Rk.2.2.1 rfl;have hag4:∀ p,F9 lo up (eW cs) p=true->assoc s'.heap p=assoc s.heap p:=λ p hp=>by
        simp only[F9,Bool.or_eq_true,decide_eq_true_eq,contains_eq_mem] at hp;rcases hp with (hp | hp) | hp
        ·exact Rk.2.2.2 _ rfl p (.inl hp)
        ·exact Rk.2.2.2 _ rfl p (.inr hp)
        ·exact RB p hp
       have Qz:∀ p,assoc (rR lo up (eW cs) s.heap) p=if F9 lo up (eW cs) p then assoc s'.heap p else none:=λ p=>by
        rw[mY];split
        ·rename_i hp;rw[hag4 p hp]
        ·rfl
       have W5:oE (rR lo up (eW cs) s.heap) (CN lo up (eW cs) s'.heap) s'.heap:=by
        refine⟨λ p y hp=>?_,λ p y hp=>?_,λ p y hp=>?_,λ p y z hp hq=>?_⟩
        ·rw[Qz] at hp;split at hp
         ·exact hp
         ·cases hp
        ·rw[fT] at hp;split at hp
         ·cases hp
         ·exact hp
        ·rw[Qz,fT];split
         ·exact .inl hp
         ·exact .inr hp
        ·rw[Qz] at hp;rw[fT] at hq;split at hp
         ·rename_i TQ;rw[if_pos TQ] at hq;cases hq
         ·cases hp
       have R7:∀ p y,assoc H p=some y->F9 lo up (eW cs) p=true:=λ p y hp=>by
        have:=all_eq_true.1 OZ _ (bF _ _ _ hp);exact this
       rw[<- Wt] at hB;refine q9 ht W5 (yn.to R6 Pj Up hE) hB (λ r s1 hR p y z hp hq=>?_) hr _ _ λ r s1 v w' σ' hR Pu hv hold=>?_
       ·obtain⟨_,e1,_⟩:=hR;rw[e1] at hp;rw[fT,if_pos (R7 p y hp)] at hq;cases hq
       ·obtain⟨rfl,e1,e2⟩:=hR;refine hK _ _ σ' (nA ⟨s'.env,s1.heap++CN lo up (eW cs) s'.heap,s1.nx⟩ o.dst (some r)) ?_ (kf hd Pu hv) λ p _ OT=>hold p OT;refine gU (s:=s') (λ p=>?_) (by rw[e2,Wt];omega);rw[e1,gZ,fT];have Wy:=Ij (rR lo up (eW cs) s.heap) H p;unfold kD at Wy |-;by_cases TQ:F9 lo up (eW cs) p=true
        ·rw[if_pos TQ]
         cases Qk:assoc (td (rR lo up (eW cs) s.heap) H) p with
         | some y=>
          rw[Qk] at Wy;simp only at Wy |-;rw[Wy];cases assoc H p<;>rfl
         | none=>
          rw[Qk] at Wy;simp only at Wy |-;rw[Qz,if_pos TQ] at Wy;rw[Wy];cases assoc H p<;>rfl
        ·rw[if_neg TQ];have hH:assoc H p=none:=by
          cases Qk:assoc H p with
          | none=>rfl
          | some y=>exact absurd (R7 p y Qk) TQ
         rw[hH];simp only
         cases Qk:assoc (td (rR lo up (eW cs) s.heap) H) p with
         | none=>rfl
         | some y=>
          exfalso;have hS:assoc (rR lo up (eW cs) s.heap) p=none:=by rw[Qz,if_neg TQ]
          exact C6 hS hH Qk
      ·cases h
     ·cases h
   ·cases h
  ·split at h
   ·rename_i c hq;cases h;have QS:fp av s' o.op=some c:=by
     by_cases hl:(∃ t x,o.op=.load t x)\/∃ t x lo hi mx,o.op=.slice t x lo hi mx
     ·refine E5 (s:=s) (λ x hx=>(Pv x hx).symm) hq λ x hx v hv p ob hn hp=>?_;rw[RB p ?_]
      ·exact hp
      ·rcases hl with ⟨t,y,e⟩ | ⟨t,y,lo,TQ,mx,e⟩
       ·have:G3 s o.op=JG s o.op:=by rw[e];rfl
        rw[this];exact DW hx hv hn
       ·have:G3 s o.op=JG s o.op:=by rw[e];rfl
        rw[this];exact DW hx hv hn
     ·rw[<- sS (s:=s) o.op (λ x hx=>(Pv x hx).symm) (λ t x e=>hl (.inl ⟨t,x,e⟩)) (λ t x lo hi mx e=>hl (.inr ⟨t,x,lo,hi,mx,e⟩))];exact hq
    obtain⟨z,k1,k2⟩:=uA ht hr o QS;unfold Oper.wp;rw[k1];exact hK _ _ σ (s'.put o.dst c) (ox _ _ _) (kf hd hr k2) λ _ _ _=>rfl
   ·split at h
    ·rename_i c rs' hv;cases h;unfold Ec at hv;split at hv
     ·rename_i t u x Pj;split at hv
      ·rename_i c' hc;cases hv;have hx:ev s' x=ev s x:=Pv x (by rw[Pj];simp[Op.operands]);have Qk:q8 av s' t u x=some c:=by
        rw[<- hc];unfold q8;rw[hx]
        cases YK:ev s x with
        | none=>rfl
        | some v=>
         have:cells? s' v=cells? s v:=cells?_view λ p hp=>RB p (by simp only[YK];exact uC hp)
         cases dM av t with
         | none=>cases v<;>rfl
         | some d=>
          cases dM av u with
          | none=>cases v<;>cases d<;>rfl
          | some d'=>cases v<;>cases d<;>cases d'<;>first | rfl | simp only[this]
       obtain⟨z,k1,k2⟩:=BI ht hr Qk;have k3:(execOp a.eval o).run P w=.ok (.value z) w:=by
        simp[execOp,Pj,k1]
       unfold Oper.wp;rw[k3];exact hK _ _ σ (s'.put o.dst c) (ox _ _ _) (kf hd hr k2) λ _ _ _=>rfl
      ·cases hv
     ·cases hv
    split at h
    ·rename_i ob f hv;cases h;have RM:rh av s' o.op=some (ob,f):=by rw[Di Pv,hv]
     obtain⟨z,w',B,k1,k2⟩:=Fp ht hr hm SC To PG RM;unfold Oper.wp;rw[k1];refine hK _ _ _ _ ?_ k2 λ p hp _=>by simp[sig,hp]
     exact gU (s:=s') (k:=0) (d:=o.dst) (r:=some (f m)) (λ p=>by simp only[assoc,kD];by_cases e:m=p<;>simp[e]) rfl
    ·split at h
     ·rename_i t x v Pj;split at h
      ·rename_i p ob hc;cases h;have hx:ev s' x=ev s x:=Pv x (by rw[Pj];simp[Op.operands]);have hv:ev s' v=ev s v:=Pv v (by rw[Pj];simp[Op.operands]);unfold Nj at hc;split at hc
       ·rename_i p' off c i' h1 h2 h3;split at hc
        ·cases hc
        ·rename_i Pe QT;split at hc
         ·cases hc
         ·rename_i RP;split at hc
          ·rename_i hlen;cases hc;have Y7:assoc s'.heap p=some Pe:=by rw[RB p xr];exact QT
           have Pk:sC av s' t x v=some { s' with heap:=sM s'.heap p { Pe with cells:=gC Pe.cells off c.cells } }:=by
            unfold sC;rw[hx,hv,h1,h2,h3];simp only[Y7];rw[if_neg RP,if_pos hlen]
           obtain⟨w',k1,k2,_⟩:=yb ht hr Pj Pk;unfold Oper.wp;rw[k1];refine hK _ _ σ _ ?_ (k2.del undef) λ _ _ _=>rfl;refine gU (s:=s') (k:=0) (d:=o.dst) (r:=none) (λ q=>?_) rfl;rw[fF];simp only[kD,assoc];by_cases e:p=q
           ·rw[if_pos e,if_pos e,<- e,Y7];rfl
           ·rw[if_neg e,if_neg e]
          ·cases hc
       ·cases hc
      ·cases h
     ·rename_i cl Pj;split at h
      ·rename_i x y t t' Sr ha Qt;split at h
       ·rename_i e;subst e;split at h
        ·rename_i p q hp hq;split at h
         ·rename_i ob k rm hc;cases h;have WL:∀ {α:Type} {x:Array α} {l:List α},x.toList=l->x=l.toArray:=λ {α x l} e=>by rw[<- e]
          have OX:=WL ha;have hx:ev s' x=some p:=by rw[Pv x (by rw[Pj];simp[Op.operands,Call.operands,OX])];exact hp
          have hy:ev s' y=some q:=by rw[Pv y (by rw[Pj];simp[Op.operands,Call.operands,OX])];exact hq
          have hn:s'.nx=s.nx:=Rk.2.2.1 rfl;have hc':ru av t p (AA s' p) (cells? s' q)=some (ob,k,rm):=by
           rw[Fk (λ o' Pt=>RB o' (mem_append_left _ (uC Pt))),cells?_view (λ o' Pt=>RB o' (mem_append_right _ (uC Pt)))];exact hc
          have happ:=Dk (d:=o.dst) hx hy hc';obtain⟨z,w',B,k1,k2⟩:=vZ ht hr PG Pj Sr OX (WL Qt) happ;unfold Oper.wp;rw[k1];refine hK _ _ _ _ ?_ k2 λ p hp OT=>by simp[sig,Nat.ne_of_lt OT]
          have Wp:fs (nA ⟨s'.env,(s'.nx,ob)::KA s'.heap rm,s'.nx+1⟩ o.dst (some (.bg s'.nx 0 k)))=ap o.dst ⟨some (.bg s'.nx 0 k),(s'.nx,some ob)::rmL rm,1⟩ (fs s'):=by
           refine gU (s:=s') (k:=1) (λ r=>?_) rfl;simp only[assoc,kD];by_cases e:s'.nx=r
           ·rw[if_pos e,if_pos e]
           ·rw[if_neg e,if_neg e]
            cases rm with
            | none=>simp only[KA,rmL,assoc]
            | some o2=>
             simp only[KA,rmL,fv,assoc];by_cases e2:o2=r
             ·rw[if_pos e2,if_pos e2]
             ·rw[if_neg e2,if_neg e2]
          rw[<- hn];exact Wp
         ·cases h
        ·cases h
       ·cases h
      ·cases h
     ·cases h
end
abbrev Er:=Ef×List Nat×Bool×Option (Nat×Nat)
instance : Inhabited Er := ⟨(⟨none, [], 0⟩, [], false, none)⟩
def jr (o:Oper):Bool:=match o.op with
 | .alloc _=>true
 | .box _ _=>true
 | .buildSlice _ _ _=>true
 | .makeSlice _ _ _=>true
 | .store _ _ _=>true
 | .call c=>match c.callee with
  | .builtin .append=>true
  | .builtin _=>false
  | _=>true
 | _=>false
def pC (o:Oper):Bool:=!jr o && match o.op with
 | .load _ _=>false
 | .slice _ _ _ _ _=>false
 | .convert _ _ _=>false
 | _=>true
def Hc (ops:Array Oper):List Nat->List Nat->Bool
 | _,[]=>true
 | pre,i::r=>(match ops[i]? with
   | some o=>o.after.all λ e=>!Region.binds .any e || pre.contains e.on
   | none=>false) && Hc ops (i::pre) r
def xE (ops:Array Oper)(dyn:List (Nat×Nat))(i j:Nat):Bool:=match ops[i]?,ops[j]? with
 | some oi,some oj=>oi.apart ops oj && (dyn.contains (i,j) || (!jr oi && !jr oj) || pC oi || pC oj)
 | _,_=>false
def HA (ms:List (Nat×Nat)):List Edge->Nat->Nat
 | [],m=>m
 | e::l,m=>HA ms l (if Region.binds .any e=true then m ||| (1 <<< e.on) ||| (assoc ms e.on).getD 0 else m)
def Hz (ops:Array Oper)(ms:List (Nat×Nat))(j:Nat):Nat:=match ops[j]? with
 | some o=>HA ms o.after.toList 0
 | none=>0
def Av (ops:Array Oper)(dyn:List (Nat×Nat))(b:Bool):List Nat->List (Nat×Nat)->List Nat->Bool
 | _,_,[]=>true
 | acc,ms,j::r=>let m:=Hz ops ms j
  (acc.all λ i=>m.testBit i || ((!b || ((ops[i]?).bind cB).isNone) && xE ops dyn i j)) && Av ops dyn b (j::acc) ((j,m)::ms) r
def uQ (ops:Array Oper)(b:Bool)(ord:List Nat)(dyn:List (Nat×Nat)):Bool:=
 decide ord.Nodup && ((range ops.size).all λ j=>ord.contains j) && (ord.all λ i=>decide (i<ops.size)) && Hc ops [] ord && Av ops dyn b [] [] ord
def Cv (w:List (Nat×Option Ob)):Option (Nat×Nat)->Bool
 | none=>true
 | some r=>w.all λ p=>decide (r.1<=p.1) && decide (p.1<r.2)
theorem oR (w:List (Nat×Option Ob)):Cv w none=true:=rfl
theorem u6 (r:Option (Nat×Nat)):Cv [] r=true:=by cases r<;>rfl
def vJ (x y:Er):Bool:=
 (x.1.w.all λ p=>!y.2.1.contains p.1 && (y.1.w.all λ q=>q.1 != p.1)) && (y.1.w.all λ q=>!x.2.1.contains q.1) && (!y.2.2.1 || x.1.k == 0) && (!x.2.2.1 || y.1.k == 0) && Cv x.1.w y.2.2.2 && Cv y.1.w x.2.2.2
section
variable {P:Program}{C:Cx}{s s':St}{ops:Array Oper}{av:List (Nat×TI)}{mt:iO}{pc:FuncId->List CV->Option CV}{call:fW}
theorem E6 {lo hi m:Nat}{o:Oper}{x:Er}(h:vT av mt ops call pc lo hi m s o=some x)(hl:jr o=false):x.1.w=[]/\x.1.k=0/\x.2.2.1=false/\x.2.2.2=none:=by
 unfold vT at h;split at h
 ·cases h
 ·cases h;exact⟨rfl,rfl,rfl,rfl⟩
 ·split at h
  ·rename_i c hu;have Pj:=gN hu;exfalso;unfold cB at hu;rw[Pj] at hu;simp only at hu;simp only[jr,Pj] at hl;cases O2:c.callee<;>rw[O2] at hu hl<;>simp at hu hl
  ·split at h
   ·cases h;exact⟨rfl,rfl,rfl,rfl⟩
   ·split at h
    ·cases h;exact⟨rfl,rfl,rfl,rfl⟩
    split at h
    ·rename_i ob f hv;exfalso;revert hl hv;cases Pj:o.op<;>simp[jr,Pj,rh,BL]
    ·split at h
     ·rename_i Pj;simp[jr,Pj] at hl
     ·rename_i cl Pj;split at h
      ·rename_i O2 _ _;simp[jr,Pj,O2] at hl
      ·cases h
     ·cases h
theorem GP {lo hi m:Nat}{o:Oper}{x:Er}(h:vT av mt ops call pc lo hi m s o=some x)(hl:pC o=true):x.2.1=[]:=by
 simp only[pC,Bool.and_eq_true,Bool.not_eq_true'] at hl;obtain⟨hl,hs⟩:=hl;unfold vT at h;split at h
 ·cases h
 ·cases h;rfl
 ·split at h
  ·rename_i c hu;have Pj:=gN hu;exfalso;unfold cB at hu;rw[Pj] at hu;simp only at hu;simp only[jr,Pj] at hl;cases O2:c.callee<;>rw[O2] at hu hl<;>simp at hu hl
  ·split at h
   ·cases h;simp only;unfold G3;split
    ·rename_i Pj;simp[Pj] at hs
    ·rename_i Pj;simp[Pj] at hs
    ·rfl
   ·split at h
    ·rename_i c' rs' hv;exfalso;unfold Ec at hv;split at hv
     ·rename_i Pj;simp[Pj] at hs
     ·cases hv
    split at h
    ·cases h;rfl
    ·split at h
     ·rename_i Pj;simp[jr,Pj] at hl
     ·rename_i cl Pj;split at h
      ·rename_i O2 _ _;simp[jr,Pj,O2] at hl
      ·cases h
     ·cases h
theorem MW {d d':Option Tmp}{V V':List Nat}{x y:Er}(h:vJ x y=true)(s1:∀ t,d=some t->t∉V')(s2:∀ t,d'=some t->t∉V)(s3:∀ t,d=some t->d'≠some t):F5 d d' x.1 y.1 ⟨V,x.2.1,x.2.2.1,x.2.2.2⟩ ⟨V',y.2.1,y.2.2.1,y.2.2.2⟩:=by
 simp only[vJ,Bool.and_eq_true,all_eq_true,Bool.not_eq_true',bne_iff_ne,Bool.or_eq_true,beq_iff_eq] at h;obtain⟨⟨⟨⟨⟨h1,h2⟩,h3⟩,h4⟩,h5⟩,h6⟩:=h;refine⟨s1,s2,s3,λ o z hz ho=>?_,λ o z hz ho=>?_,λ o z hz=>?_,λ hn=>?_,λ hn=>?_,λ rr hn=>?_,λ rr hn=>?_⟩
 ·have:=(h1 _ (bF _ _ _ hz)).1;simp at this;exact this ho
 ·have:=h2 _ (bF _ _ _ hz);simp at this;exact this ho
 ·have:=(h1 _ (bF _ _ _ hz)).2
  cases h7:assoc y.1.w o with
  | none=>rfl
  | some u=>
   have h8:=this _ (bF _ _ _ h7);simp at h8
 ·rcases h3 with h3 | h3
  ·have T6:y.2.2.1=true:=hn;rw[T6] at h3;cases h3
  ·exact h3
 ·rcases h4 with h4 | h4
  ·have T6:x.2.2.1=true:=hn;rw[T6] at h4;cases h4
  ·exact h4
 ·have T6:y.2.2.2=Option.some rr:=hn;rw[T6] at h5;simp only[Cv,all_eq_true,Bool.and_eq_true,decide_eq_true_eq] at h5;exact λ o z hz=>h5 _ (bF _ _ _ hz)
 ·have T6:x.2.2.2=Option.some rr:=hn;rw[T6] at h6;simp only[Cv,all_eq_true,Bool.and_eq_true,decide_eq_true_eq] at h6;exact λ o z hz=>h6 _ (bF _ _ _ hz)
theorem xG:∀ (l acc:List Nat),Hc ops acc l=true->∀ pre i post,l=pre++i::post->∀ oi,ops[i]? = some oi->∀ e∈oi.after,Region.binds .any e=true->e.on∈acc\/e.on∈pre
 | [],_,_,pre,i,post,h,_,_,_,_,_=>by simp at h
 | k::r,acc,hx,pre,i,post,h,oi,Q6,e,he,hb=>by
  simp only[Hc,Bool.and_eq_true] at hx
  cases pre with
  | nil=>
   simp only[nil_append,cons.injEq] at h;obtain⟨rfl,_⟩:=h;have h1:=hx.1;rw[Q6] at h1;simp only[Array.all_eq_true_iff_forall_mem] at h1;have:=h1 e he;simp only[hb,Bool.not_true,Bool.false_or,contains_eq_mem,decide_eq_true_eq] at this;exact .inl this
  | cons p pre=>
   simp only[cons_append,cons.injEq] at h;obtain⟨rfl,h⟩:=h;rcases xG r (k::acc) hx.2 pre i post h oi Q6 e he hb with h2 | h2
   ·rcases mem_cons.1 h2 with e2 | h2
    ·exact .inr (by simp[e2])
    ·exact .inl h2
   ·exact .inr (mem_cons_of_mem _ h2)
def LO (ops:Array Oper)(ms:List (Nat×Nat)):Prop:=∀ j m,assoc ms j=some m->∀ i,m.testBit i=true->B6 ops j i
theorem AN {ms:List (Nat×Nat)}{i:Nat}:∀ (l:List Edge) (m:Nat),(HA ms l m).testBit i=true->m.testBit i=true\/∃ e∈l,Region.binds .any e=true/\(i=e.on\/∃ k,assoc ms e.on=some k/\k.testBit i=true)
 | [],m,h=>.inl h
 | e::l,m,h=>by
  rcases AN l _ h with h | ⟨e',he,h⟩
  ·split at h
   ·rename_i hb;simp only[Nat.testBit_or,Bool.or_eq_true,Nat.one_shiftLeft,Nat.testBit_two_pow,decide_eq_true_eq] at h;rcases h with (h | h) | h
    ·exact .inl h
    ·exact .inr ⟨e,mem_cons_self,hb,.inl h.symm⟩
    ·cases hk:assoc ms e.on with
     | none=>rw[hk] at h;simp at h
     | some k=>rw[hk] at h;exact .inr ⟨e,mem_cons_self,hb,.inr ⟨k,hk,h⟩⟩
   ·exact .inl h
  ·exact .inr ⟨e',mem_cons_of_mem _ he,h⟩
theorem AM {ms:List (Nat×Nat)}(h:LO ops ms){j i:Nat}(hm:(Hz ops ms j).testBit i=true):B6 ops j i:=by
 intro listed hc hj;unfold Hz at hm;split at hm
 ·rename_i o ho;rcases AN _ _ hm with h0 | ⟨e,he,hb,h1⟩
  ·simp at h0
  ·have hl:=hj o ho e (by simpa using he) hb;rcases h1 with rfl | ⟨k,hk,hi⟩
   ·exact hl
   ·exact h e.on k hk i hi listed hc λ ok O8 e' he' Pf=>hc e.on ok O8 hl e' he' Pf
 ·simp at hm
theorem vj {dyn:List (Nat×Nat)}{b:Bool}:∀ (l acc:List Nat) (ms:List (Nat×Nat)),LO ops ms->Av ops dyn b acc ms l=true->∀ pre j post,l=pre++j::post->∀ i,i∈acc\/i∈pre->B6 ops j i\/((b=true->(ops[i]?).bind cB=none)/\xE ops dyn i j=true)
 | [],_,_,_,_,pre,j,post,h,_,_=>by simp at h
 | k::r,acc,ms,Qm,hx,pre,j,post,h,i,hi=>by
  simp only[Av,Bool.and_eq_true,all_eq_true] at hx
  cases pre with
  | nil=>
   simp only[nil_append,cons.injEq] at h;obtain⟨rfl,rfl⟩:=h;have:=hx.1 i (hi.resolve_right not_mem_nil);simp only[Bool.or_eq_true,Bool.and_eq_true,Bool.not_eq_true',Option.isNone_iff_eq_none] at this;rcases this with h1 | ⟨h1,h2⟩
   ·exact .inl (AM Qm h1)
   ·exact .inr ⟨λ e=>h1.resolve_left (by rw[e];simp),h2⟩
  | cons p pre=>
   simp only[cons_append,cons.injEq] at h;obtain⟨rfl,h⟩:=h;refine vj r (k::acc) _ (λ j' m' h' i' TQ=>?_) hx.2 pre j post h i ?_
   ·simp only[assoc] at h';split at h'
    ·rename_i e;cases h';subst e;exact AM Qm TQ
    ·exact Qm j' m' h' i' TQ
   ·rcases hi with hi | hi
    ·exact .inl (mem_cons_of_mem _ hi)
    ·rcases mem_cons.1 hi with rfl | hi
     ·exact .inl mem_cons_self
     ·exact .inr hi
end
def renV (o q:Nat):CV->CV
 | .bg p off n=>if p=o then .bg q off n else .bg p off n
 | c=>c
def renOk (o q:Nat):CV->Bool
 | .bg p _ _=>p == o || decide (p<q)
 | c=>aU q c
def renE (o q:Nat):List (Nat×CV)->List (Nat×CV)
 | []=>[]
 | (t,c)::r=>(t,renV o q c)::renE o q r
attribute [simp] renV renOk renE
end Go.Can
namespace Go.Can
open List
section
variable {α:Type}{f:α->List CV}{n:Nat}
theorem aA (hf:∀ x,(f x).length=n):∀ m:List α,(m.flatMap f).length=m.length*n
 | []=>by simp
 | a::r=>by
  have ih:=aA hf r;simp only[flatMap_cons,length_append,hf,ih,length_cons,Nat.add_mul];omega
theorem su (hf:∀ x,(f x).length=n):∀ (m:List α) (i:Nat),(m.flatMap f).take (i*n)=(m.take i).flatMap f
 | [],i=>by simp
 | a::r,0=>by simp
 | a::r,i+1=>by
  have ih:=su hf r i;simp only[take_succ_cons,flatMap_cons,<- ih];rw[show (i+1)*n=(f a).length+i*n by rw[hf,Nat.add_mul];omega,take_length_add_append]
theorem sv (hf:∀ x,(f x).length=n):∀ (m:List α) (i:Nat),(m.flatMap f).drop (i*n)=(m.drop i).flatMap f
 | [],i=>by simp
 | a::r,0=>by simp
 | a::r,i+1=>by
  have ih:=sv hf r i;simp only[drop_succ_cons,flatMap_cons,<- ih];rw[show (i+1)*n=(f a).length+i*n by rw[hf,Nat.add_mul];omega,drop_length_add_append]
theorem aH (hf:∀ x,(f x).length=n){m:List α}{i:Nat}{e:α}(h:m[i]? = some e):(m.flatMap f).drop (i*n)=f e++(m.drop (i+1)).flatMap f:=by
 rw[sv hf];obtain⟨hi,he⟩:=List.getElem?_eq_some_iff.1 h;rw[drop_eq_getElem_cons hi,he,flatMap_cons]
end
end Go.Can
