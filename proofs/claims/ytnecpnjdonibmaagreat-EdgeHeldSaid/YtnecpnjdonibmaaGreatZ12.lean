/- A region that draws, run in one order: what the other orders -/
import Derived.Test.YtnecpnjdonibmaaGreatZ11
namespace Go.Can
open Go.RowKit
def Dg (P:Program)(pc:FuncId→List CV→Option CV):Prop:=∀ g cs r,pc g cs=some r→af P g cs r
section
variable {P:Program}{C:Cx}{σ:Nat→Option OB}{s s':St}{a:Act}{w:World}{ops:Array Oper}{ak:List (Nat×TI)}{mt:jv}{pc:FuncId→List CV→Option CV}{call:gv}
theorem Ep {o:Oper}(h:∀ t∈o.looksAt ops,assoc s'.env t=assoc s.env t):∀ x∈o.op.operands,ev s' x=ev s x:=fun x hx=>by
 cases x with
 | tmp t=>exact h t (List.mem_append_left _ (List.mem_filterMap.2 ⟨.tmp t,by simpa using hx,rfl⟩))
 | _=>rfl
theorem vH {o:Oper}(h:∀ t∈o.looksAt ops,assoc s'.env t=assoc s.env t):bZ ops s' o=bZ ops s o:=by
 unfold bZ
 cases hg:o.guard with
 | none=>rfl
 | some q=>
  obtain⟨j,want⟩:=q;simp only
  cases hj:(ops[j]?).bind (·.dst) with
  | none=>rfl
  | some t=>simp only;rw[h t (by simp[Oper.looksAt,hg,hj])]
theorem s8 {c:Call}(h:∀ x∈c.operands,ev s' x=ev s x):iN mt s' c=iN mt s c:=by
 have ha:z8 s' c.args.toList=z8 s c.args.toList:=iM _ fun x hx=>h x (by simp only[Call.operands,Array.mem_append];exact .inr WB);unfold iN;split
 ·rename_i f hf;unfold bm;rw[hf];simp only;rw[h f (by simp[Call.operands,hf]),ha]
 ·rename_i r name hr;rw[h r (by simp[Call.operands,hr]),ha]
 ·rfl
theorem Dc {op:Op}(h:∀ x∈op.operands,ev s' x=ev s x):qU ak s' op=qU ak s op:=by
 cases op<;>simp only[qU]<;>first | exact mG _ h | skip
 case makeSlice t l c=>rw[h l Q5,h c Q5]
theorem cells?_view {c:CV}(h:∀ o,names o c=true→assoc s'.heap o=assoc s.heap o):cells? s' c=cells? s c:=by
 unfold cells?;split<;>first | rfl | skip
 rename_i o off n;rw[h o (by simp[names])]
theorem FC {c:CV}(h:∀ o,names o c=true→assoc s'.heap o=assoc s.heap o):AQ s' c=AQ s c:=by
 unfold AQ;split<;>first | rfl | skip
 rename_i o off n;rw[h o (by simp[names])]
theorem j7 {o:Oper}(hd:a6 C.nt o.dst=true)(h:aM C σ s a w){c:CV}{v:Value}(hv:VR w (FB C σ s.heap) σ c v):aM C σ (s.put o.dst c) (a.put o.dst v) w:=
 h.put (fun t e=>by rw[h.tm];rw[e] at hd;simpa [a6] using hd) hv
theorem eV {s:St}{H:List (Nat×Ob)}{n k:Nat}{d:Option Tmp}{r:Option CV}{w:List (Nat×Option Ob)}(hH:∀ p,assoc H p=kq (assoc s.heap) w p)(hn:n=s.nx+k):fs (eY ⟨s.env,H,n⟩ d r)=ap d ⟨r,w,k⟩ (fs s):=by
 unfold fs ap;congr 1
 ·funext t;exact cr t
 ·funext p;rw[dg.1];exact hH p
 ·rw[dg.2];exact hn
def Cx.lp (C:Cx)(w:World)(σ:Nat→Option OB)(H rest:List (Nat×Ob))(nt:Nat)(hF:∀ b,FB C σ rest b→b<w.heap.size)(n:Nat):Cx:=
 ⟨w,FB C σ rest,fun b=>∃ o ob,assoc H o=some ob∧aY σ o=some b,hF,nt,σ,n⟩
structure mY (H rest G:List (Nat×Ob)):Prop where
 l:∀ o ob,assoc H o=some ob→assoc G o=some ob
 r:∀ o ob,assoc rest o=some ob→assoc G o=some ob
 lr:∀ o ob,assoc G o=some ob→assoc H o=some ob∨assoc rest o=some ob
 d:∀ o ob Pk,assoc H o=some ob→assoc rest o=some Pk→False
theorem rh {H rest G:List (Nat×Ob)}(hp:mY H rest G){b:Nat}:FB C σ G b↔FB C σ rest b∨∃ o ob,assoc H o=some ob∧aY σ o=some b:=by
 constructor
 ·rintro (h | ⟨o,ob,ho,hb⟩)
  ·exact .inl (.inl h)
  ·rcases hp.lr o ob ho with h | h
   ·exact .inr ⟨o,ob,h,hb⟩
   ·exact .inl (.inr ⟨o,ob,h,hb⟩)
 ·rintro ((h | ⟨o,ob,ho,hb⟩) | ⟨o,ob,ho,hb⟩)
  ·exact .inl h
  ·exact .inr ⟨o,ob,hp.r o ob ho,hb⟩
  ·exact .inr ⟨o,ob,hp.l o ob ho,hb⟩
theorem aM.lp (h:aM C σ s a w){H rest:List (Nat×Ob)}(hp:mY H rest s.heap)(hF:∀ b,FB C σ rest b→b<w.heap.size)(nt:Nat){args:List CV}{vs:List Value}(hv:aS w (FB C σ s.heap) σ args vs)(ha:args.length≤nt) :
  aM (C.lp w σ H rest nt hF s.nx) σ ⟨(enter args).env,H,s.nx⟩ { tmps:=vs.toArray++Array.replicate (nt-vs.toArray.size) undef,defers:=[] } w:=by
 have hl:=aS.length _ _ hv;have Um:∀ b,FB (C.lp w σ H rest nt hF s.nx) σ H b→FB C σ s.heap b:=fun b hb=>by
  rw[rh hp];exact hb
 refine⟨rfl,by simp[Cx.lp];omega,rfl,rfl,rfl,Nat.le_refl _,fun _ _ _=>rfl,?_,?_,fun o o' ob Pk b h1 h2=>h.inj o o' ob Pk b (hp.l _ _ h1) (hp.l _ _ h2),h.nx,fun _ _=>rfl,Nat.le_refl _,fun o B b ho hB _=>(by rw[h.nx o ho] at hB;cases hB)⟩
 ·intro t c hc;obtain⟨_,h2⟩:=fw args 0 t c hc;obtain⟨v,h3,h4⟩:=aS.get _ _ hv t c (by simpa using h2);refine⟨v,?_,VR.bk (cw.same Um) _ _ (fun _ _=>rfl) h4⟩;have O1:=(List.getElem?_eq_some_iff.1 h3).1;simp only;rw[Array.getElem?_append_left (by simpa using O1)]
  simpa using h3
 ·intro o ob ho;obtain⟨B,m1,m2,m3,m4,m5⟩:=h.obj o ob (hp.l o ob ho);refine⟨B,m1,m2,m3,m4,fun b hb=>?_⟩;obtain⟨cur,n1,n2,n3,n4,n5,n6⟩:=m5 b hb;refine⟨cur,n1,n2,?_,.inl ⟨o,ob,ho,by simp[aY,m1,hb]⟩,n5,aS.bk (cw.same Um) _ _ (fun _ _=>rfl) n6⟩;rintro (hf | ⟨o',Pk,Py,Po⟩)
  ·exact n3 hf
  ·have:o'=o:=h.inj o' o Pk ob b (hp.r _ _ Py) (hp.l _ _ ho) Po (by simp[aY,m1,hb]);subst this;exact hp.d _ _ _ ho Py
theorem aM.backF (h:aM C σ s a w){H rest:List (Nat×Ob)}(hp:mY H rest s.heap){hF:∀ b,FB C σ rest b→b<w.heap.size}{nt:Nat}{σ':Nat→Option OB}{s1:St}{a':Act}{w':World}(h':aM (C.lp w σ H rest nt hF s.nx) σ' s1 a' w')(hd:∀ o ob Pk,assoc s1.heap o=some ob→assoc rest o=some Pk→False) :
  aM C σ' ⟨s.env,s1.heap++rest,s1.nx⟩ a w'∧∀ c v,VR w' (FB (C.lp w σ H rest nt hF s.nx) σ' s1.heap) σ' c v→VR w' (FB C σ' (s1.heap++rest)) σ' c v:=by
 have Pv:∀ b,b<w.heap.size→(¬ ∃ o ob,assoc H o=some ob∧aY σ o=some b)→w'.heap[b]? = w.heap[b]?:=fun b hb hn=>h'.frame b hb hn;have O1:∀ {o ob},assoc s.heap o=some ob→o<s.nx:=fun {o ob} ho=>by
  refine Nat.lt_of_not_le fun hle=>?_;obtain⟨B,e1,_⟩:=h.obj o ob ho;rw[h.nx o hle] at e1;cases e1
 have PT:∀ {o},o<s.nx→σ' o=σ o:=fun {o} ho=>h'.fh o ho;have Rx:∀ o ob b,assoc s1.heap o=some ob→aY σ' o=some b→(∃ o ob,assoc H o=some ob∧aY σ o=some b)∨w.heap.size≤b:=fun o ob b ho hb=>by
  obtain⟨B,m1,_,_,_,m5⟩:=h'.obj o ob ho;obtain⟨cur,_,_,_,n4,_⟩:=m5 b XH;exact n4
 have hnot:∀ o ob b,assoc s1.heap o=some ob→aY σ' o=some b→¬ FB C σ rest b:=fun o ob b ho hb=>by
  obtain⟨B,m1,_,_,_,m5⟩:=h'.obj o ob ho;obtain⟨cur,_,_,n3,_⟩:=m5 b XH;exact n3
 have SB:∀ {o ob b},assoc rest o=some ob→(aY σ' o=some b↔aY σ o=some b):=fun {o ob b} ho=>by
  unfold aY;rw[PT (O1 (hp.r _ _ ho))]
 have hFe:∀ b,FB C σ' (s1.heap++rest) b↔FB (C.lp w σ H rest nt hF s.nx) σ' s1.heap b:=fun b=>by
  constructor
  ·rintro (hb | ⟨o,ob,ho,hb⟩)
   ·exact .inl (.inl hb)
   ·rw[fZ] at ho;split at ho
    ·rename_i y hy;cases ho;exact .inr ⟨o,_,hy,hb⟩
    ·exact .inl (.inr ⟨o,ob,ho,(SB ho).1 hb⟩)
  ·rintro ((hb | ⟨o,ob,ho,hb⟩) | ⟨o,ob,ho,hb⟩)
   ·exact .inl hb
   ·refine .inr ⟨o,ob,?_,(SB ho).2 hb⟩;rw[fZ];split
    ·rename_i y hy;exact (hd _ _ _ hy ho).elim
    ·exact ho
   ·exact .inr ⟨o,ob,by rw[fZ,ho],hb⟩
 have hkw:cw w w' (FB C σ s.heap) (FB C σ' (s1.heap++rest)):=by
  have PW:∀ b,¬ FB C σ s.heap b→¬ ∃ o ob,assoc H o=some ob∧aY σ o=some b:=fun b hf hx=>hf ((rh hp).2 (.inr hx));have hF2:∀ b,b<w.heap.size→¬ FB C σ s.heap b→¬ FB C σ' (s1.heap++rest) b:=fun b hb hf hx=>by
   rw[hFe] at hx;rcases hx with hx | ⟨o,ob,ho,R0⟩
   ·exact hf ((rh hp).2 (.inl hx))
   ·rcases Rx o ob b ho R0 with h1 | h1
    ·exact PW b hf h1
    ·omega
  refine⟨fun ad u hf hu=>?_,fun r _ hf hu _=>?_⟩
  ·have hl:=World.block_lt_of_cell? w ad hu;exact⟨by rw[World.cell?_of_block (w:=w) (Pv ad.block hl (PW _ hf))];exact hu,hF2 _ hl hf⟩
  ·have hl:=(Array.getElem?_eq_some_iff.1 hu).1;exact⟨by rw[Pv r hl (PW _ hf)];exact hu,hF2 _ hl hf⟩
 have UL:∀ b,(∃ o ob,assoc H o=some ob∧aY σ o=some b)→C.own b∨C.w0.heap.size≤b:=fun b ⟨o,ob,ho,hb⟩=>by
  obtain⟨B,m1,_,_,_,m5⟩:=h.obj o ob (hp.l _ _ ho);obtain⟨cur,_,_,_,n4,_⟩:=m5 b XH;exact n4
 refine⟨⟨h.nk,h.tm,h'.os.trans h.os,h'.tape.trans h.tape,h'.output.trans h.output,Nat.le_trans h.size h'.size,?_,?_,?_,?_,h'.nx,fun o ho=>(h'.fh o (Nat.lt_of_lt_of_le ho h.low)).trans (h.fh o ho),Nat.le_trans h.low h'.low,fun o B b ho hB hb=>?_⟩,fun c v hv=>VR.bk (cw.same fun b hb=>(hFe b).1 hb) _ _ (fun _ _=>rfl) hv⟩
 ·intro b hb PW;rw[Pv b (Nat.lt_of_lt_of_le hb h.size) fun hx=>?_]
  ·exact h.frame b hb PW
  ·rcases UL b hx with h1 | h1
   ·exact PW h1
   ·omega
 ·intro t c hc;obtain⟨v,k1,k2⟩:=h.env t c hc;refine⟨v,k1,VR.bk hkw _ _ (fun o ho=>?_) k2⟩;refine h'.fh o (Nat.lt_of_not_le fun hle=>?_);obtain⟨B,hB⟩:=VR.refs _ _ o k2 ho;rw[h.nx o hle] at hB;cases hB
 ·intro o ob ho;rw[fZ] at ho;split at ho
  ·rename_i y hy;cases ho;obtain⟨B,m1,m2,m3,m4,m5⟩:=h'.obj o _ hy;refine⟨B,m1,m2,m3,m4,fun b hb=>?_⟩;obtain⟨cur,n1,n2,n3,n4,n5,n6⟩:=m5 b hb;refine⟨cur,n1,n2,fun hf=>n3 (.inl hf),?_,n5,aS.bk (cw.same fun b hb=>(hFe b).1 hb) _ _ (fun _ _=>rfl) n6⟩;rcases n4 with n4 | n4
   ·exact UL b n4
   ·exact .inr (Nat.le_trans h.size n4)
  ·have hs:=hp.r _ _ ho;obtain⟨B,m1,m2,m3,m4,m5⟩:=h.obj o ob hs;refine⟨B,by rw[PT (O1 hs)];exact m1,m2,m3,m4,fun b hb=>?_⟩;obtain⟨cur,n1,n2,n3,n4,n5,n6⟩:=m5 b hb;have P4:=(Array.getElem?_eq_some_iff.1 n1).1;have PW:¬ ∃ o' Pk,assoc H o'=some Pk∧aY σ o'=some b:=by
    rintro⟨o',Pk,Py,Po⟩;have:o'=o:=h.inj o' o Pk ob b (hp.l _ _ Py) hs Po (by simp[aY,m1,hb]);subst this;exact hp.d _ _ _ Py ho
   refine⟨cur,by rw[Pv b P4 PW];exact n1,n2,n3,n4,n5,aS.bk hkw _ _ (fun p WY=>?_) n6⟩;refine h'.fh p (Nat.lt_of_not_le fun hle=>?_);obtain⟨B2,PL⟩:=aS.refs _ _ p n6 WY;rw[h.nx p hle] at PL;cases PL
 ·intro o o' ob Pk b ho Py hb Po;rw[fZ] at ho Py;have cross:∀ {p q x y},assoc s1.heap p=some x→aY σ' p=some b→assoc rest q=some y→aY σ' q=some b→False:=fun {p q x y} h1 h2 h3 h4=>
   hnot p x b h1 h2 (.inr ⟨q,y,h3,(SB h3).1 h4⟩)
  cases c1:assoc s1.heap o with
  | some y=>
   cases c2:assoc s1.heap o' with
   | some y'=>exact h'.inj o o' y y' b c1 c2 hb Po
   | none=>
    rw[c2] at Py;exact (cross c1 hb Py Po).elim
  | none=>
   rw[c1] at ho
   cases c2:assoc s1.heap o' with
   | some y'=>exact (cross c2 Po ho hb).elim
   | none=>
    rw[c2] at Py;exact h.inj o o' ob Pk b (hp.r _ _ ho) (hp.r _ _ Py) ((SB ho).1 hb) ((SB Py).1 Po)
 ·rcases Nat.lt_or_ge o s.nx with hl | RW
  ·rw[PT hl] at hB;exact h.new o B b ho hB hb
  ·rcases h'.new o B b RW hB hb with n4 | n4
   ·exact UL b n4
   ·exact .inr (Nat.le_trans h.size n4)
theorem oT (Rp:aG P ak){o:Oper}{g:FuncId}{cs:List CV}{R:CV→St→Prop}{H rest:List (Nat×Ob)}(hp:mY H rest s.heap)(he:pf P C s o g cs)(hb:Body P ak g cs H s.nx R)(hR:∀ r s1,R r s1→∀ o ob Pk,assoc s1.heap o=some ob→assoc rest o=some Pk→False)(h:aM C σ s a w)(K:Act→World→Prop)(Q:Exit→Act→World→Prop)
  (hK:∀ r s1 v w' σ',R r s1→aM C σ' ⟨s.env,s1.heap++rest,s1.nx⟩ a w'→VR w' (FB C σ' (s1.heap++rest)) σ' r v→(∀ p,p<s.nx→σ' p=σ p)→K (a.put o.dst v) w'):o.wp P a w K Q:=by
 obtain⟨fn,code,hf,P7,hn,hlen,hT⟩:=hb;obtain⟨vs,Vy,Pt⟩:=he σ a w h;have hF:∀ b,FB C σ rest b→b<w.heap.size:=fun b hb=>wF h b ((rh hp).2 (.inl hb));have h0:=h.lp hp hF fn.ntmps Pt hlen;have Tj:Calls P g vs.toArray w fun e w'=>∃ v r s',e=.returned v∧R r s'∧∃ σ',aM C σ' ⟨s.env,s'.heap++rest,s'.nx⟩ a w'∧VR w' (FB C σ' (s'.heap++rest)) σ' r v∧(∀ p,p<s.nx→σ' p=σ p):=by
  refine calls_of_wp hf P7 (wp_mono (hT (C.lp w σ H rest fn.ntmps hF s.nx) rfl rfl _ _ ⟨_,h0⟩) fun e a' w' ⟨s1,q,σ1,PQ⟩=>?_);have fin:ae (C.lp w σ H rest fn.ntmps hF s.nx) (fun s'=>∃ r,bG ak fn s'=some r∧R r s') s1→a'.defers=[]∧∃ v,(results fn a'.tmps).run P w'=.ok v w'∧(∃ Sr r s',Ending.returned v=.returned Sr∧R r s'∧∃ σ',aM C σ' ⟨s.env,s'.heap++rest,s'.nx⟩ a w'∧VR w' (FB C σ' (s'.heap++rest)) σ' r Sr∧(∀ p,p<s.nx→σ' p=σ p)):=fun⟨s2,⟨r,q1,q2⟩,hl⟩=>by
   obtain⟨σ2,Px⟩:=hl _ _ ⟨σ1,PQ⟩;obtain⟨v,k1,k2⟩:=gW (P:=P) Rp Px q1;obtain⟨b1,b2⟩:=h.backF hp Px (hR r s2 q2);exact⟨Px.nk,v,k1,v,r,s2,rfl,q2,σ2,b1,b2 _ _ k2,Px.fh⟩
  cases e with
  | normal=>exact fin q
  | ret=>exact fin q
  | exit _=>exact q.elim
  | goto _=>exact q.elim
  | panic _=>exact q.elim
  | outgrown=>exact q.elim
 unfold Oper.wp;rw[Vy];refine Tj.mono fun e w' ⟨v,r,s',he,hR,σ',Pp,hv,ho⟩=>?_;subst he;exact hK r s' v w' σ' hR Pp hv ho
theorem Eu (ht:aG P ak)(X0:mP P mt)(O7:kp P ak call)(mV:Dg P pc){i m:Nat}{o:Oper}{E:Ef}{rs:List Nat}{nb:Bool}{ab:Option (Nat×Nat)}{lo up:Nat}(h:sw ak mt ops call pc lo up m s o=some (E,rs,nb,ab))(hd:a6 C.nt o.dst=true)(hi:ops[i]? = some o)
  (P9:dI ⟨o.looksAt ops,rs,nb,ab⟩ (fs s') (fs s)) (hr:aM C σ s' a w) (hm:σ m=none) (RR:C.n0≤m) (Rj:m<s'.nx) {Q':Exit→Act→World→Prop} (K:Act→World→Prop)
  (hK:∀ a' w' σ' QA,fs QA=ap o.dst E (fs s')→aM C σ' QA a' w'→(∀ p,p≠m→p<s'.nx→σ' p=σ p)→K a' w'):wpOp P ops Q' i K a w:=by
 have Rs:∀ t∈o.looksAt ops,assoc s'.env t=assoc s.env t:=P9.1;have Rx:∀ p∈rs,assoc s'.heap p=assoc s.heap p:=P9.2.1;have Sb:=Ep Rs;have SV:=vH (ops:=ops) Rs;have PB:∀ t,o.dst=some t→t<a.tmps.size:=fun t e=>by rw[hr.tm];rw[e] at hd;simpa [a6] using hd
 unfold sw at h;unfold wpOp;simp only[hi];split at h
 ·cases h
 ·rename_i hg;cases h;rw[hg] at SV;have hw:Region.wanted o (yielded ops a.tmps)=false:=by
   unfold bZ at SV;split at SV
   ·cases SV
   ·rename_i j want e;split at SV
    ·cases SV
    rename_i t hj;exact jU ⟨σ,hr⟩ e hj SV
  rw[if_neg (by simp[hw])];exact hK _ _ σ (s'.put o.dst (.dS [])) (su _ _ _) (hr.put PB (by simp only[VR,aS];exact⟨[],rfl,rfl⟩)) fun _ _ _=>rfl
 ·rename_i hg;rw[hg] at SV;have hw:=eT (ops:=ops) ⟨σ,hr⟩ SV;rw[if_pos hw];refine .inl ?_;split at h
  ·rename_i c hu;have O8:=gO hu;split at h
   ·rename_i g cs hc;have hcv:iN mt s' c=some (g,cs):=by
     rw[s8 (fun x hx=>Sb x (by rw[O8];exact hx)),hc]
    split at h
    ·rename_i r hp;cases h;split at hp
     ·rename_i QU;have hP:=mV g cs _ hp;exact DN (pf.to X0 O8 hcv hP.1) QU hP hr _ _ fun v w' Pp hv=>hK _ _ σ (s'.put o.dst _) (su _ _ _) (j7 hd Pp hv) fun _ _ _=>rfl
     ·cases hp
    ·split at h
     ·rename_i x H n hx;split at h
      ·rename_i hn;cases h;obtain⟨hn,Pj⟩:=hn;have hB:=O7 _ _ _ _ _ _ _ hx;have hE:iR P g:=by
        obtain⟨fn,c,h1,h2,h3,_⟩:=hB;exact⟨fn,h1,h3,by simp[h2]⟩
       have Vq:s'.nx=s.nx:=P9.2.2.1 rfl;have hag4:∀ p,Gu lo up (eI cs) p=true→assoc s'.heap p=assoc s.heap p:=fun p hp=>by
        simp only[Gu,Bool.or_eq_true,decide_eq_true_eq,List.contains_eq_mem] at hp;rcases hp with (hp | hp) | hp
        ·exact P9.2.2.2 _ rfl p (.inl hp)
        ·exact P9.2.2.2 _ rfl p (.inr hp)
        ·exact Rx p hp
       have Qd:∀ p,assoc (rL lo up (eI cs) s.heap) p=if Gu lo up (eI cs) p then assoc s'.heap p else none:=fun p=>by
        rw[mI];split
        ·rename_i hp;rw[hag4 p hp]
        ·rfl
       have W1:mY (rL lo up (eI cs) s.heap) (CG lo up (eI cs) s'.heap) s'.heap:=by
        refine⟨fun p y hp=>?_,fun p y hp=>?_,fun p y hp=>?_,fun p y z hp hq=>?_⟩
        ·rw[Qd] at hp;split at hp
         ·exact hp
         ·cases hp
        ·rw[fO] at hp;split at hp
         ·cases hp
         ·exact hp
        ·rw[Qd,fO];split
         ·exact .inl hp
         ·exact .inr hp
        ·rw[Qd] at hp;rw[fO] at hq;split at hp
         ·rename_i UY;rw[if_pos UY] at hq;cases hq
         ·cases hp
       have RV:∀ p y,assoc H p=some y→Gu lo up (eI cs) p=true:=fun p y hp=>by
        have:=List.all_eq_true.1 Pj _ (bD _ _ _ hp);exact this
       rw[← Vq] at hB;refine oT ht W1 (pf.to X0 O8 hcv hE) hB (fun r s1 hR p y z hp hq=>?_) hr _ _ fun r s1 v w' σ' hR Pp hv hold=>?_
       ·obtain⟨_,e1,_⟩:=hR;rw[e1] at hp;rw[fO,if_pos (RV p y hp)] at hq;cases hq
       ·obtain⟨rfl,e1,e2⟩:=hR;refine hK _ _ σ' (eY ⟨s'.env,s1.heap++CG lo up (eI cs) s'.heap,s1.nx⟩ o.dst (some r)) ?_ (j7 hd Pp hv) fun p _ O1=>hold p O1;refine eV (s:=s') (fun p=>?_) (by rw[e2,Vq];omega);rw[e1,fZ,fO];have Wt:=IZ (rL lo up (eI cs) s.heap) H p;unfold kq at Wt ⊢;by_cases UY:Gu lo up (eI cs) p=true
        ·rw[if_pos UY]
         cases QR:assoc (sZ (rL lo up (eI cs) s.heap) H) p with
         | some y=>
          rw[QR] at Wt;simp only at Wt ⊢;rw[Wt];cases assoc H p<;>rfl
         | none=>
          rw[QR] at Wt;simp only at Wt ⊢;rw[Qd,if_pos UY] at Wt;rw[Wt];cases assoc H p<;>rfl
        ·rw[if_neg UY];have hH:assoc H p=none:=by
          cases QR:assoc H p with
          | none=>rfl
          | some y=>exact absurd (RV p y QR) UY
         rw[hH];simp only
         cases QR:assoc (sZ (rL lo up (eI cs) s.heap) H) p with
         | none=>rfl
         | some y=>
          exfalso;have hS:assoc (rL lo up (eI cs) s.heap) p=none:=by rw[Qd,if_neg UY]
          exact CY hS hH QR
      ·cases h
     ·cases h
   ·cases h
  ·split at h
   ·rename_i c hq;cases h;have RQ:cY ak s' o.op=some c:=by
     by_cases hl:(∃ t x,o.op=.load t x)∨∃ t x lo hi mx,o.op=.slice t x lo hi mx
     ·refine xF (s:=s) (fun x hx=>(Sb x hx).symm) hq fun x hx v hv p ob hn hp=>?_;rw[Rx p ?_]
      ·exact hp
      ·rcases hl with ⟨t,y,e⟩ | ⟨t,y,lo,UY,mx,e⟩
       ·have:HF s o.op=Kf s o.op:=by rw[e];rfl
        rw[this];exact D4 hx hv hn
       ·have:HF s o.op=Kf s o.op:=by rw[e];rfl
        rw[this];exact D4 hx hv hn
     ·rw[← sP (s:=s) o.op (fun x hx=>(Sb x hx).symm) (fun t x e=>hl (.inl ⟨t,x,e⟩)) (fun t x lo hi mx e=>hl (.inr ⟨t,x,lo,hi,mx,e⟩))];exact hq
    obtain⟨z,k1,k2⟩:=zd ht hr o RQ;unfold Oper.wp;rw[k1];exact hK _ _ σ (s'.put o.dst c) (su _ _ _) (j7 hd hr k2) fun _ _ _=>rfl
   ·split at h
    ·rename_i c rs' hv;cases h;unfold EA at hv;split at hv
     ·rename_i t u x O8;split at hv
      ·rename_i c' hc;cases hv;have hx:ev s' x=ev s x:=Sb x (by rw[O8];simp[Op.operands]);have QR:qQ ak s' t u x=some c:=by
        rw[← hc];unfold qQ;rw[hx]
        cases Yt:ev s x with
        | none=>rfl
        | some v=>
         have:cells? s' v=cells? s v:=cells?_view fun p hp=>Rx p (by simp only[Yt];exact uu hp)
         cases dE ak t with
         | none=>cases v<;>rfl
         | some d=>
          cases dE ak u with
          | none=>cases v<;>cases d<;>rfl
          | some d'=>cases v<;>cases d<;>cases d'<;>first | rfl | simp only[this]
       obtain⟨z,k1,k2⟩:=BI ht hr QR;have k3:(execOp a.eval o).run P w=.ok (.value z) w:=by
        simp[execOp,O8,k1]
       unfold Oper.wp;rw[k3];exact hK _ _ σ (s'.put o.dst c) (su _ _ _) (j7 hd hr k2) fun _ _ _=>rfl
      ·cases hv
     ·cases hv
    split at h
    ·rename_i ob f hv;cases h;have RJ:qU ak s' o.op=some (ob,f):=by rw[Dc Sb,hv]
     obtain⟨z,w',B,k1,k2⟩:=FG ht hr hm RR Rj PB RJ;unfold Oper.wp;rw[k1];refine hK _ _ _ _ ?_ k2 fun p hp _=>by simp[sig,hp]
     exact eV (s:=s') (k:=0) (d:=o.dst) (r:=some (f m)) (fun p=>by simp only[assoc,kq];by_cases e:m=p<;>simp[e]) rfl
    ·split at h
     ·rename_i t x v O8;split at h
      ·rename_i p ob hc;cases h;have hx:ev s' x=ev s x:=Sb x (by rw[O8];simp[Op.operands]);have hv:ev s' v=ev s v:=Sb v (by rw[O8];simp[Op.operands]);unfold Nx at hc;split at hc
       ·rename_i p' off c i' h1 h2 h3;split at hc
        ·cases hc
        ·rename_i Pk QX;split at hc
         ·cases hc
         ·rename_i RO;split at hc
          ·rename_i hlen;cases hc;have YZ:assoc s'.heap p=some Pk:=by rw[Rx p OU];exact QX
           have Pw:n8 ak s' t x v=some { s' with heap:=rF s'.heap p { Pk with cells:=fD Pk.cells off c.cells } }:=by
            unfold n8;rw[hx,hv,h1,h2,h3];simp only[YZ];rw[if_neg RO,if_pos hlen]
           obtain⟨w',k1,k2,_⟩:=yd ht hr O8 Pw;unfold Oper.wp;rw[k1];refine hK _ _ σ _ ?_ (k2.del undef) fun _ _ _=>rfl;refine eV (s:=s') (k:=0) (d:=o.dst) (r:=none) (fun q=>?_) rfl;rw[eP];simp only[kq,assoc];by_cases e:p=q
           ·rw[if_pos e,if_pos e,← e,YZ];rfl
           ·rw[if_neg e,if_neg e]
          ·cases hc
       ·cases hc
      ·cases h
     ·rename_i cl O8;split at h
      ·rename_i x y t t' Se ha QC;split at h
       ·rename_i e;subst e;split at h
        ·rename_i p q hp hq;split at h
         ·rename_i ob k rm hc;cases h;have WE:∀ {α:Type} {x:Array α} {l:List α},x.toList=l→x=l.toArray:=fun {α x l} e=>by rw[← e]
          have O4:=WE ha;have hx:ev s' x=some p:=by rw[Sb x (by rw[O8];simp[Op.operands,Call.operands,O4])];exact hp
          have hy:ev s' y=some q:=by rw[Sb y (by rw[O8];simp[Op.operands,Call.operands,O4])];exact hq
          have hn:s'.nx=s.nx:=P9.2.2.1 rfl;have T1:qX ak t p (AQ s' p) (cells? s' q)=some (ob,k,rm):=by
           rw[FC (fun o' Py=>Rx o' (List.mem_append_left _ (uu Py))),cells?_view (fun o' Py=>Rx o' (List.mem_append_right _ (uu Py)))];exact hc
          have happ:=Dd (d:=o.dst) hx hy T1;obtain⟨z,w',B,k1,k2⟩:=vW ht hr PB O8 Se O4 (WE QC) happ;unfold Oper.wp;rw[k1];refine hK _ _ _ _ ?_ k2 fun p hp O1=>by simp[sig,Nat.ne_of_lt O1]
          have XW:fs (eY ⟨s'.env,(s'.nx,ob)::KY s'.heap rm,s'.nx+1⟩ o.dst (some (.bl s'.nx 0 k)))=ap o.dst ⟨some (.bl s'.nx 0 k),(s'.nx,some ob)::rmL rm,1⟩ (fs s'):=by
           refine eV (s:=s') (k:=1) (fun r=>?_) rfl;simp only[assoc,kq];by_cases e:s'.nx=r
           ·rw[if_pos e,if_pos e]
           ·rw[if_neg e,if_neg e]
            cases rm with
            | none=>simp only[KY,rmL,assoc]
            | some o2=>
             simp only[KY,rmL,fe,assoc];by_cases e2:o2=r
             ·rw[if_pos e2,if_pos e2]
             ·rw[if_neg e2,if_neg e2]
          rw[← hn];exact XW
         ·cases h
        ·cases h
       ·cases h
      ·cases h
     ·cases h
end
abbrev Er:=Ef×List Nat×Bool×Option (Nat×Nat)
instance : Inhabited Er := ⟨(⟨none, [], 0⟩, [], false, none)⟩
def gS (o:Oper):Bool:=match o.op with
 | .alloc _=>true
 | .box _ _=>true
 | .buildSlice _ _ _=>true
 | .makeSlice _ _ _=>true
 | .store _ _ _=>true
 | .call c=>match c.callee with
  | .builtin .append=>true
  | .builtin _=>false
  | _=>true
 | _=>false
def lL (o:Oper):Bool:=!gS o && match o.op with
 | .load _ _=>false
 | .slice _ _ _ _ _=>false
 | .convert _ _ _=>false
 | _=>true
def HS (ops:Array Oper):List Nat→List Nat→Bool
 | _,[]=>true
 | pre,i::r=>(match ops[i]? with
   | some o=>o.after.all fun e=>!Region.binds .any e || pre.contains e.on
   | none=>false) && HS ops (i::pre) r
def xK (ops:Array Oper)(dyn:List (Nat×Nat))(i j:Nat):Bool:=match ops[i]?,ops[j]? with
 | some oi,some oj=>nA ops ops.size j i || (oi.apart ops oj && (dyn.contains (i,j) || (!gS oi && !gS oj) || lL oi || lL oj))
 | _,_=>false
def vg (ops:Array Oper)(dyn:List (Nat×Nat)):List Nat→Bool
 | []=>true
 | i::r=>(r.all fun j=>xK ops dyn i j) && vg ops dyn r
def uN (ops:Array Oper)(ord:List Nat)(dyn:List (Nat×Nat)):Bool:=
 decide ord.Nodup && ((List.range ops.size).all fun j=>ord.contains j) && (ord.all fun i=>decide (i<ops.size)) && HS ops [] ord && vg ops dyn ord
def Cp (w:List (Nat×Option Ob)):Option (Nat×Nat)→Bool
 | none=>true
 | some r=>w.all fun p=>decide (r.1≤p.1) && decide (p.1<r.2)
theorem iF (w:List (Nat×Option Ob)):Cp w none=true:=rfl
theorem nL (r:Option (Nat×Nat)):Cp [] r=true:=by cases r<;>rfl
def mj (x y:Er):Bool:=
 (x.1.w.all fun p=>!y.2.1.contains p.1 && (y.1.w.all fun q=>q.1 != p.1)) && (y.1.w.all fun q=>!x.2.1.contains q.1) && (!y.2.2.1 || x.1.k == 0) && (!x.2.2.1 || y.1.k == 0) && Cp x.1.w y.2.2.2 && Cp y.1.w x.2.2.2
def dynB (l:List (Nat×Er))(dyn:List (Nat×Nat)):Bool:=dyn.all fun p=>match assoc l p.1,assoc l p.2 with
 | some x,some y=>mj x y
 | _,_=>false
def G3 (ak:List (Nat×TI))(mt:jv)(nt:Nat)(ops:Array Oper)(call:gv)(pc:FuncId→List CV→Option CV)(N:Nat):List Nat→St→Option (List (Nat×Er)×St)
 | [],s=>some ([],s)
 | i::r,s=>match ops[i]? with
  | none=>none
  | some o=>if a6 nt o.dst=true then match sw ak mt ops call pc N (N+ops.size) (N+i) s o with
    | none=>none
    | some x=>match G3 ak mt nt ops call pc N r (NL o.dst x.1 s) with
     | none=>none
     | some (l,s')=>some ((i,x)::l,s')
   else none
def GQ (ak:List (Nat×TI))(mt:jv)(nt:Nat)(ops:Array Oper)(call:gv)(pc:FuncId→List CV→Option CV)(ord:List Nat)(dyn:List (Nat×Nat))(s:St):Option St:=
 match G3 ak mt nt ops call pc s.nx ord { s with nx:=s.nx+ops.size } with
 | none=>none
 | some (l,s')=>if dynB l dyn=true then some s' else none
section
variable {P:Program}{C:Cx}{s s':St}{ops:Array Oper}{ak:List (Nat×TI)}{mt:jv}{pc:FuncId→List CV→Option CV}{call:gv}
def oy (ak:List (Nat×TI))(mt:jv)(nt:Nat)(ops:Array Oper)(call:gv)(pc:FuncId→List CV→Option CV)(N:Nat)(res:Nat→Er):List Nat→St→St→Prop
 | [],s,s'=>s=s'
 | i::r,s,s'=>∃ o,ops[i]? = some o∧a6 nt o.dst=true∧sw ak mt ops call pc N (N+ops.size) (N+i) s o=some (res i)∧oy ak mt nt ops call pc N res r (NL o.dst (res i).1 s) s'
theorem oy.ext {nt N:Nat}{res QT:Nat→Er}:∀ (l:List Nat) (s s':St),(∀ i∈l,res i=QT i)→oy ak mt nt ops call pc N res l s s'→oy ak mt nt ops call pc N QT l s s'
 | [],_,_,_,h=>h
 | i::r,s,s',he,⟨o,h1,h2,h3,h4⟩=>by
  have e:=he i OU;rw[e] at h3 h4;exact⟨o,h1,h2,h3,oy.ext r _ s' (fun j hj=>he j (by simp[hj])) h4⟩
theorem DD {nt N:Nat}:∀ (ord:List Nat) (s s':St) (l:List (Nat×Er)),ord.Nodup→G3 ak mt nt ops call pc N ord s=some (l,s')→oy ak mt nt ops call pc N (fun i=>(assoc l i).getD default) ord s s'
 | [],s,s',l,_,h=>by
  simp only[G3,Option.some.injEq,Prod.mk.injEq] at h;exact h.2
 | i::r,s,s',l,hn,h=>by
  rw[List.nodup_cons] at hn;simp only[G3] at h;split at h
  ·cases h
  ·rename_i o ho;split at h
   ·rename_i hd;split at h
    ·cases h
    ·rename_i x hx;split at h
     ·cases h
     ·rename_i l' s1 hr;cases h;have ih:=DD r _ _ l' hn.2 hr;have e0:((assoc ((i,x)::l') i).getD default)=x:=by simp[assoc]
      refine⟨o,ho,hd,by simp only[e0];exact hx,?_⟩;simp only[e0];refine oy.ext r _ _ (fun j hj=>?_) ih;have:i≠j:=fun e=>hn.1 (by subst e;exact hj);simp[assoc,this]
   ·cases h
theorem oy.at_ {nt N:Nat}{res:Nat→Er}:∀ (pre:List Nat) (i:Nat) (post:List Nat) (s s':St),oy ak mt nt ops call pc N res (pre++i::post) s s' →
  ∃ o sm,ops[i]? = some o∧a6 nt o.dst=true∧sw ak mt ops call pc N (N+ops.size) (N+i) sm o=some (res i)∧fs sm=bS (bU ops) (fun j=>(res j).1) (fun _=>true) pre (fs s)
 | [],i,post,s,s',⟨o,h1,h2,h3,_⟩=>⟨o,s,h1,h2,h3,rfl⟩
 | k::pre,i,post,s,s',⟨o,h1,h2,h3,h4⟩=>by
  obtain⟨o',sm,k1,k2,k3,k4⟩:=oy.at_ pre i post _ s' h4;refine⟨o',sm,k1,k2,k3,?_⟩;rw[k4,zA];have:bU ops k=o.dst:=by simp[bU,h1]
  simp only[bS,if_true,this]
theorem oy.fin {nt N:Nat}{res:Nat→Er}:∀ (l:List Nat) (s s':St),oy ak mt nt ops call pc N res l s s'→fs s'=bS (bU ops) (fun j=>(res j).1) (fun _=>true) l (fs s)
 | [],s,s',h=>by cases h;rfl
 | k::l,s,s',⟨o,h1,h2,h3,h4⟩=>by
  rw[oy.fin l _ s' h4,zA];have:bU ops k=o.dst:=by simp[bU,h1]
  simp only[bS,if_true,this]
theorem gP {lo hi m:Nat}{o:Oper}{x:Er}(h:sw ak mt ops call pc lo hi m s o=some x)(hl:gS o=false):x.1.w=[]∧x.1.k=0∧x.2.2.1=false∧x.2.2.2=none:=by
 unfold sw at h;split at h
 ·cases h
 ·cases h;exact⟨rfl,rfl,rfl,rfl⟩
 ·split at h
  ·rename_i c hu;have O8:=gO hu;exfalso;unfold ck at hu;rw[O8] at hu;simp only at hu;simp only[gS,O8] at hl;cases O7:c.callee<;>rw[O7] at hu hl<;>simp at hu hl
  ·split at h
   ·cases h;exact⟨rfl,rfl,rfl,rfl⟩
   ·split at h
    ·cases h;exact⟨rfl,rfl,rfl,rfl⟩
    split at h
    ·rename_i ob f hv;exfalso;revert hl hv;cases O8:o.op<;>simp[gS,O8,qU,ov]
    ·split at h
     ·rename_i O8;simp[gS,O8] at hl
     ·rename_i cl O8;split at h
      ·rename_i O7 _ _;simp[gS,O8,O7] at hl
      ·cases h
     ·cases h
theorem qo {lo hi m:Nat}{o:Oper}{x:Er}(h:sw ak mt ops call pc lo hi m s o=some x)(hl:lL o=true):x.2.1=[]:=by
 simp only[lL,Bool.and_eq_true,Bool.not_eq_true'] at hl;obtain⟨hl,hs⟩:=hl;unfold sw at h;split at h
 ·cases h
 ·cases h;rfl
 ·split at h
  ·rename_i c hu;have O8:=gO hu;exfalso;unfold ck at hu;rw[O8] at hu;simp only at hu;simp only[gS,O8] at hl;cases O7:c.callee<;>rw[O7] at hu hl<;>simp at hu hl
  ·split at h
   ·cases h;simp only;unfold HF;split
    ·rename_i O8;simp[O8] at hs
    ·rename_i O8;simp[O8] at hs
    ·rfl
   ·split at h
    ·rename_i c' rs' hv;exfalso;unfold EA at hv;split at hv
     ·rename_i O8;simp[O8] at hs
     ·cases hv
    split at h
    ·cases h;rfl
    ·split at h
     ·rename_i O8;simp[gS,O8] at hl
     ·rename_i cl O8;split at h
      ·rename_i O7 _ _;simp[gS,O8,O7] at hl
      ·cases h
     ·cases h
theorem It {d d':Option Tmp}{V V':List Nat}{x y:Er}(h:mj x y=true)(s1:∀ t,d=some t→t∉V')(s2:∀ t,d'=some t→t∉V)(s3:∀ t,d=some t→d'≠some t):Gm d d' x.1 y.1 ⟨V,x.2.1,x.2.2.1,x.2.2.2⟩ ⟨V',y.2.1,y.2.2.1,y.2.2.2⟩:=by
 simp only[mj,Bool.and_eq_true,List.all_eq_true,Bool.not_eq_true',bne_iff_ne,Bool.or_eq_true,beq_iff_eq] at h;obtain⟨⟨⟨⟨⟨h1,h2⟩,h3⟩,h4⟩,h5⟩,h6⟩:=h;refine⟨s1,s2,s3,fun o z hz ho=>?_,fun o z hz ho=>?_,fun o z hz=>?_,fun hn=>?_,fun hn=>?_,fun rr hn=>?_,fun rr hn=>?_⟩
 ·have:=(h1 _ (bD _ _ _ hz)).1;simp at this;exact this ho
 ·have:=h2 _ (bD _ _ _ hz);simp at this;exact this ho
 ·have:=(h1 _ (bD _ _ _ hz)).2
  cases h7:assoc y.1.w o with
  | none=>rfl
  | some u=>
   have h8:=this _ (bD _ _ _ h7);simp at h8
 ·rcases h3 with h3 | h3
  ·have TS:y.2.2.1=true:=hn;rw[TS] at h3;cases h3
  ·exact h3
 ·rcases h4 with h4 | h4
  ·have TS:x.2.2.1=true:=hn;rw[TS] at h4;cases h4
  ·exact h4
 ·have TS:y.2.2.2=Option.some rr:=hn;rw[TS] at h5;simp only[Cp,List.all_eq_true,Bool.and_eq_true,decide_eq_true_eq] at h5;exact fun o z hz=>h5 _ (bD _ _ _ hz)
 ·have TS:x.2.2.2=Option.some rr:=hn;rw[TS] at h6;simp only[Cp,List.all_eq_true,Bool.and_eq_true,decide_eq_true_eq] at h6;exact fun o z hz=>h6 _ (bD _ _ _ hz)
theorem sb:∀ (l acc:List Nat),HS ops acc l=true→∀ pre i post,l=pre++i::post→∀ oi,ops[i]? = some oi→∀ e∈oi.after,Region.binds .any e=true→e.on∈acc∨e.on∈pre
 | [],_,_,pre,i,post,h,_,_,_,_,_=>by simp at h
 | k::r,acc,hx,pre,i,post,h,oi,Qo,e,he,hb=>by
  simp only[HS,Bool.and_eq_true] at hx
  cases pre with
  | nil=>
   simp only[List.nil_append,List.cons.injEq] at h;obtain⟨rfl,_⟩:=h;have h1:=hx.1;rw[Qo] at h1;simp only[Array.all_eq_true_iff_forall_mem] at h1;have:=h1 e he;simp only[hb,Bool.not_true,Bool.false_or,List.contains_eq_mem,decide_eq_true_eq] at this;exact .inl this
  | cons p pre=>
   simp only[List.cons_append,List.cons.injEq] at h;obtain⟨rfl,h⟩:=h;rcases sb r (k::acc) hx.2 pre i post h oi Qo e he hb with h2 | h2
   ·rcases List.mem_cons.1 h2 with e2 | h2
    ·exact .inr (by simp[e2])
    ·exact .inl h2
   ·exact .inr (List.mem_cons_of_mem _ h2)
theorem kH {dyn:List (Nat×Nat)}:∀ (l:List Nat),vg ops dyn l=true→∀ pre i post,l=pre++i::post→∀ j∈post,xK ops dyn i j=true
 | [],_,pre,i,post,h,_,_=>by simp at h
 | k::r,hx,pre,i,post,h,j,hj=>by
  simp only[vg,Bool.and_eq_true,List.all_eq_true] at hx
  cases pre with
  | nil=>
   simp only[List.nil_append,List.cons.injEq] at h;obtain⟨rfl,rfl⟩:=h;exact hx.1 j hj
  | cons p pre=>
   simp only[List.cons_append,List.cons.injEq] at h;exact kH r hx.2 pre i post h.2 j hj
theorem T.trace (ht:aG P ak)(X0:mP P mt)(O7:kp P ak call)(mV:Dg P pc)(hm:P.follows .mixedOrders=true){id:Nat}{ord:List Nat}{dyn:List (Nat×Nat)}(hS:uN ops ord dyn=true)(h:GQ ak mt C.nt ops call pc ord dyn s=Option.some s') :
  T P C (.region id ops true) s fun e x=>e=.normal∧x=s':=by
 intro a w ⟨σ,hr⟩;unfold GQ at h;split at h
 ·cases h
 rename_i l sF Pz;split at h
 ·rename_i hdyn;cases h;simp only[uN,Bool.and_eq_true,decide_eq_true_eq,List.all_eq_true,List.contains_eq_mem] at hS;obtain⟨⟨⟨⟨hn,Rb⟩,O1⟩,YW⟩,XV⟩:=hS;have SL:∀ j,j<ops.size→j∈ord:=fun j hj=>Rb j (List.mem_range.2 hj);have hT:=DD ord _ _ l hn Pz;generalize P0:(fun i=>(assoc l i).getD default)=res at hT;let x0:FS:=fs { s with nx:=s.nx+ops.size }
  let V:Nat→Vw:=fun i=>⟨(match ops[i]? with | Option.some o=>o.looksAt ops | none=>[]),(res i).2.1,(res i).2.2.1,(res i).2.2.2⟩
  let R:Array Bool→FS→Act→World→Prop:=fun listed x a w=>∃ s σ',fs s=x∧aM C σ' s a w∧x0.n≤s.nx∧∀ j,j<ops.size→listed.getD j false=false→σ' (x0.n-ops.size+j)=none
  have hN:x0.n-ops.size=s.nx:=by simp only[x0,fs];omega
  have R8:=hr.low;have S9:aM C σ { s with nx:=s.nx+ops.size } a { w with drawn:=w.drawn+1 }:=by
   obtain⟨σ2,h2⟩:Rel C s a { w with drawn:=w.drawn+1 }:=Rel.drew ⟨σ,hr⟩;exact⟨hr.nk,hr.tm,hr.os,hr.tape,hr.output,hr.size,hr.frame,fun t c hc=>(by
    obtain⟨v,k1,k2⟩:=hr.env t c hc;exact⟨v,k1,VR.bk mh c v (fun _ _=>rfl) k2⟩),fun o ob ho=>(by
    obtain⟨B,m1,m2,m3,m4,m5⟩:=hr.obj o ob ho;refine⟨B,m1,m2,m3,m4,fun b hb=>?_⟩;obtain⟨cur,n1,n2,n3,n4,n5,n6⟩:=m5 b hb;exact⟨cur,n1,n2,n3,n4,n5,aS.bk mh _ _ (fun _ _=>rfl) n6⟩),hr.inj,fun o ho=>hr.nx o (by simp only at ho ⊢;omega),hr.fh,by simp only;omega,hr.new⟩
  refine wp_mono (Q:=fun e a' w'=>e=.normal∧Rel C s' a' w') (wp_region_any hm ?_) (fun e a' w' ⟨he,Pp⟩=>⟨s',⟨he,rfl⟩,Pp⟩);have Qv:∀ {k ok},ops[k]? = Option.some ok→bU ops k=ok.dst:=fun {k ok} h=>by simp[bU,h]
  refine xn (P:=P) (ops:=ops) (ord:=ord) (dst:=bU ops) (E:=fun j=>(res j).1) (V:=V) (x0:=x0) (R:=R) (Q':=fun e a' w'=>e=.normal∧Rel C s' a' w') hn SL O1 ?_ ?_ ?_ ?_ ops.size _ _ _ OU ?_ ?_ ?_
  ·intro pre i post ho oi Qo e he hb;rcases sb ord [] YW pre i post ho oi Qo e he hb with h1 | h1
   ·cases h1
   ·exact h1
  ·intro pre i post ho j hj;have hp:=kH ord XV pre i post ho j hj;unfold xK at hp;split at hp
   ·rename_i oi oj Qo Tf;simp only[Bool.or_eq_true,Bool.and_eq_true] at hp;rcases hp with hp | ⟨PJ,hp⟩
    ·exact .inl (gH _ _ _ hp)
    ·refine .inr ?_;obtain⟨a1,a2,a3⟩:=Oper.apart_spec PJ;obtain⟨o1,sm1,q1,q2,q3,q4⟩:=oy.at_ pre i post _ _ (ho ▸ hT);have:o1=oi:=Option.some.inj (q1.symm.trans Qo);subst this;obtain⟨p1,p2,XW⟩:=List.append_of_mem hj;have UM:ord=(pre++i::p1)++j::p2:=by rw[ho,XW];simp
     obtain⟨o2,sm2,r1,r2,r3,r4⟩:=oy.at_ (pre++i::p1) j p2 _ _ (UM ▸ hT);have:o2=oj:=Option.some.inj (r1.symm.trans Tf);subst this;have hV:V i=⟨o1.looksAt ops,(res i).2.1,(res i).2.2.1,(res i).2.2.2⟩:=by simp only[V,Qo]
     have Xz:V j=⟨o2.looksAt ops,(res j).2.1,(res j).2.2.1,(res j).2.2.2⟩:=by simp only[V,Tf]
     rw[hV,Xz,Qv Qo,Qv Tf];have hb:mj (res i) (res j)=true:=by
      rcases hp with ((hp | hp) | hp) | hp
      ·have hm:=List.all_eq_true.1 hdyn (i,j) (by simpa using hp);simp only at hm;rw[← P0];split at hm
       ·rename_i x y h1 h2;simp only[h1,h2,Option.getD_some];exact hm
       ·cases hm
      ·simp only[Bool.not_eq_true'] at hp;obtain⟨u1,u2,u3,u4⟩:=gP q3 hp.1;obtain⟨v1,v2,v3,v4⟩:=gP r3 hp.2;simp[mj,iF,u1,u2,u3,u4,v1,v2,v3,v4]
      ·have hl:gS o1=false:=by simp only[lL,Bool.and_eq_true,Bool.not_eq_true'] at hp;exact hp.1
       obtain⟨u1,u2,u3,u4⟩:=gP q3 hl;simp[mj,nL,iF,u1,u2,u3,u4,qo q3 hp]
      ·have hl:gS o2=false:=by simp only[lL,Bool.and_eq_true,Bool.not_eq_true'] at hp;exact hp.1
       obtain⟨u1,u2,u3,u4⟩:=gP r3 hl;simp[mj,nL,iF,u1,u2,u3,u4,qo r3 hp]
     exact It hb a1 a3 a2
   ·cases hp
  ·intro pre i post ho listed x a w K O9 QM ⟨s1,σ1,e1,PQ,hle,Qt⟩ P9 hK;obtain⟨o,sm,q1,q2,q3,q4⟩:=oy.at_ pre i post _ _ (ho ▸ hT);have OX:=O1 i (by rw[ho];simp);have hV:V i=⟨o.looksAt ops,(res i).2.1,(res i).2.2.1,(res i).2.2.2⟩:=by simp only[V,q1]
   subst e1;rw[hV,← q4] at P9;have XS:x0.n=s.nx+ops.size:=rfl;refine Eu ht X0 O7 mV (m:=s.nx+i) q3 q2 q1 P9 PQ (by have:=Qt i OX QM;rwa [hN] at this) yA yA K fun a' w' σ' QA h1 h2 h3=>?_;refine hK a' w' ⟨QA,σ',by rw[h1,Qv q1],h2,?_,fun j hj hl=>?_⟩
   ·have:(fs QA).n=(fs s1).n+(res i).1.k:=by rw[h1];rfl
    simp only[fs] at this;omega
   ·rw[hN];have Qr:i≠j:=fun e=>by
     subst e;rw[Array.getD_eq_getD_getElem?] at hl;simp[O9,OX] at hl
    rw[h3 (s.nx+j) yA yA];have:=Qt j hj yC;rwa [hN] at this
  ·rintro listed a w ⟨s1,σ1,e1,PQ,_,_⟩;refine⟨rfl,σ1,PQ.I9 ?_⟩;rw[e1,oy.fin ord _ _ hT]
  ·intro j oj _ hl;rw[jl] at hl;cases hl
  ·have:ord.length=ops.size:=by
    have h1:ord.Perm (List.range ops.size):=(List.perm_ext_iff_of_nodup hn List.nodup_range).2 fun j=>⟨fun hj=>List.mem_range.2 (O1 j hj),fun hj=>SL j (List.mem_range.1 hj)⟩
    simpa using h1.length_eq
   rw[← this,List.countP_eq_length];intro j _;rw[jl];rfl
  ·refine⟨{ s with nx:=s.nx+ops.size },σ,?_,S9,Nat.le_refl _,fun j hj _=>?_⟩
   ·rw[eW ord x0 (L':=fun _=>false) fun i _=>jl _ _,mr]
   ·rw[hN];exact hr.nx _ yA
 ·cases h
end
def renV (o q:Nat):CV→CV
 | .bl p off n=>if p=o then .bl q off n else .bl p off n
 | c=>c
def renOk (o q:Nat):CV→Bool
 | .bl p _ _=>p == o || decide (p<q)
 | c=>a9 q c
def renE (o q:Nat):List (Nat×CV)→List (Nat×CV)
 | []=>[]
 | (t,c)::r=>(t,renV o q c)::renE o q r
attribute [simp] renV renOk renE
end Go.Can
namespace Go.Can
section
variable {α:Type}{f:α→List CV}{n:Nat}
theorem bM (hf:∀ x,(f x).length=n):∀ m:List α,(m.flatMap f).length=m.length*n
 | []=>by simp
 | a::r=>by
  have ih:=bM hf r;simp only[List.flatMap_cons,List.length_append,hf,ih,List.length_cons,Nat.add_mul];omega
theorem FY (hf:∀ x,(f x).length=n):∀ (m:List α) (i:Nat),(m.flatMap f).take (i*n)=(m.take i).flatMap f
 | [],i=>by simp
 | a::r,0=>by simp
 | a::r,i+1=>by
  have ih:=FY hf r i;simp only[List.take_succ_cons,List.flatMap_cons,← ih];rw[show (i+1)*n=(f a).length+i*n by rw[hf,Nat.add_mul];omega,List.take_length_add_append]
theorem x8 (hf:∀ x,(f x).length=n):∀ (m:List α) (i:Nat),(m.flatMap f).drop (i*n)=(m.drop i).flatMap f
 | [],i=>by simp
 | a::r,0=>by simp
 | a::r,i+1=>by
  have ih:=x8 hf r i;simp only[List.drop_succ_cons,List.flatMap_cons,← ih];rw[show (i+1)*n=(f a).length+i*n by rw[hf,Nat.add_mul];omega,List.drop_length_add_append]
theorem aN (hf:∀ x,(f x).length=n){m:List α}{i:Nat}{e:α}(h:m[i]? = some e):(m.flatMap f).drop (i*n)=f e++(m.drop (i+1)).flatMap f:=by
 rw[x8 hf];obtain⟨hi,he⟩:=List.getElem?_eq_some_iff.1 h;rw[List.drop_eq_getElem_cons hi,he,List.flatMap_cons]
end
end Go.Can
