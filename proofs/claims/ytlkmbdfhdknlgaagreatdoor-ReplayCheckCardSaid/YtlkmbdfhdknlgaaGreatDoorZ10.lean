/- A region that draws, run in one order: what the other orders -/
import Derived.Test.YtlkmbdfhdknlgaaGreatDoorZ09
namespace Go.Can
open Go.RowKit
def sP (P:Program)(pc:FuncId→List CV→Option CV):Prop:=∀ g cs r,pc g cs=some r→ae P g cs r
section
variable {P:Program}{C:Cx}{σ:Nat→Option OB}{s s':St}{a:Act}{w:World}{ops:Array Oper}{ak:List (Nat×TI)}{mt:gh}{pc:FuncId→List CV→Option CV}{call:eP}
theorem vd {o:Oper}(h:∀ t∈o.looksAt ops,assoc s'.env t=assoc s.env t):∀ x∈o.op.operands,ev s' x=ev s x:=fun x hx=>by
 cases x with
 | tmp t=>exact h t (List.mem_append_left _ (List.mem_filterMap.2 ⟨.tmp t,by simpa using hx,rfl⟩))
 | _=>rfl
theorem nc {o:Oper}(h:∀ t∈o.looksAt ops,assoc s'.env t=assoc s.env t):bM ops s' o=bM ops s o:=by
 unfold bM
 cases hg:o.guard with
 | none=>rfl
 | some q=>
  obtain⟨j,want⟩:=q;simp only
  cases hj:(ops[j]?).bind (·.dst) with
  | none=>rfl
  | some t=>simp only;rw[h t (by simp[Oper.looksAt,hg,hj])]
theorem pW {c:Call}(h:∀ x∈c.operands,ev s' x=ev s x):gG mt s' c=gG mt s c:=by
 have ha:vF s' c.args.toList=vF s c.args.toList:=iG _ fun x hx=>h x (by simp only[Call.operands,Array.mem_append];exact .inr (by simpa using hx));unfold gG;split
 ·rename_i f hf;unfold bl;rw[hf];simp only;rw[h f (by simp[Call.operands,hf]),ha]
 ·rename_i r name hr;rw[h r (by simp[Call.operands,hr]),ha]
 ·rfl
theorem zn {op:Op}(h:∀ x∈op.operands,ev s' x=ev s x):oG ak s' op=oG ak s op:=by
 cases op<;>simp only[oG]<;>first | exact zm _ h | skip
 case makeSlice t l c=>rw[h l L2,h c L2]
theorem cells?_view {c:CV}(h:∀ o,names o c=true→assoc s'.heap o=assoc s.heap o):cells? s' c=cells? s c:=by
 unfold cells?;split<;>first | rfl | skip
 rename_i o off n;rw[h o (by simp[names])]
theorem Bg {c:CV}(h:∀ o,names o c=true→assoc s'.heap o=assoc s.heap o):wR s' c=wR s c:=by
 unfold wR;split<;>first | rfl | skip
 rename_i o off n;rw[h o (by simp[names])]
theorem iQ {o:Oper}(hd:a9 C.nt o.dst=true)(h:aB C σ s a w){c:CV}{v:Value}(hv:VR w (FB C σ s.heap) σ c v):aB C σ (s.put o.dst c) (a.put o.dst v) w:=
 h.put (fun t e=>by rw[h.tm];rw[e] at hd;simpa [a9] using hd) hv
theorem fF {s:St}{H:List (Nat×Ob)}{n k:Nat}{d:Option Tmp}{r:Option CV}{w:List (Nat×Option Ob)}(hH:∀ p,assoc H p=jc (assoc s.heap) w p)(hn:n=s.nx+k):fs (nX ⟨s.env,H,n⟩ d r)=ap d ⟨r,w,k⟩ (fs s):=by
 unfold fs ap;congr 1
 ·funext t;exact r7 t
 ·funext p;rw[l6.1];exact hH p
 ·rw[l6.2];exact hn
def Cx.jF (C:Cx)(w:World)(σ:Nat→Option OB)(H rest:List (Nat×Ob))(nt:Nat)(hF:ES w (FB C σ rest) (fun b=>∃ o ob,assoc H o=some ob∧aH σ o=some b))(n:Nat):Cx:=
 ⟨w,FB C σ rest,fun b=>∃ o ob,assoc H o=some ob∧aH σ o=some b,hF,nt,σ,n⟩
structure mP (H rest G:List (Nat×Ob)):Prop where
 l:∀ o ob,assoc H o=some ob→assoc G o=some ob
 r:∀ o ob,assoc rest o=some ob→assoc G o=some ob
 lr:∀ o ob,assoc G o=some ob→assoc H o=some ob∨assoc rest o=some ob
 d:∀ o ob Ka,assoc H o=some ob→assoc rest o=some Ka→False
theorem lM {H rest G:List (Nat×Ob)}(hp:mP H rest G){b:Nat}:FB C σ G b↔FB C σ rest b∨∃ o ob,assoc H o=some ob∧aH σ o=some b:=by
 constructor
 ·rintro (h | ⟨o,ob,ho,hb⟩)
  ·exact .inl (.inl h)
  ·rcases hp.lr o ob ho with h | h
   ·exact .inr ⟨o,ob,h,hb⟩
   ·exact .inl (.inr ⟨o,ob,h,hb⟩)
 ·rintro ((h | ⟨o,ob,ho,hb⟩) | ⟨o,ob,ho,hb⟩)
  ·exact .inl h
  ·exact .inr ⟨o,ob,hp.r o ob ho,hb⟩
  ·exact .inr ⟨o,ob,hp.l o ob ho,hb⟩
theorem aB.jF (h:aB C σ s a w){H rest:List (Nat×Ob)}(hp:mP H rest s.heap)(hF:ES w (FB C σ rest) (fun b=>∃ o ob,assoc H o=some ob∧aH σ o=some b))(nt:Nat){args:List CV}{vs:List Value}(hv:aG w (FB C σ s.heap) σ args vs)(ha:args.length≤nt) :
  aB (C.jF w σ H rest nt hF s.nx) σ ⟨(enter args).env,H,s.nx⟩ { tmps:=vs.toArray++Array.replicate (nt-vs.toArray.size) undef,defers:=[] } w:=by
 have hl:=aG.length _ _ hv;have O0:∀ b,FB (C.jF w σ H rest nt hF s.nx) σ H b→FB C σ s.heap b:=fun b hb=>by
  rw[lM hp];exact hb
 refine⟨rfl,by simp[Cx.jF];omega,rfl,rfl,rfl,Nat.le_refl _,fun _ _ _=>rfl,?_,?_,fun o o' ob Ka b h1 h2=>h.inj o o' ob Ka b (hp.l _ _ h1) (hp.l _ _ h2),h.nx,fun _ _=>rfl,Nat.le_refl _,fun o B b ho hB _=>(by rw[h.nx o ho] at hB;cases hB)⟩
 ·intro t c hc;obtain⟨_,h2⟩:=eW args 0 t c hc;obtain⟨v,h3,h4⟩:=aG.get _ _ hv t c (by simpa using h2);refine⟨v,?_,VR.a7 (b9.same O0) _ _ (fun _ _=>rfl) h4⟩;have yN:=(List.getElem?_eq_some_iff.1 h3).1;simp only;rw[Array.getElem?_append_left (by simpa using yN)]
  simpa using h3
 ·intro o ob ho;obtain⟨B,m1,m2,m3,m4,m5⟩:=h.obj o ob (hp.l o ob ho);refine⟨B,m1,m2,m3,m4,fun b hb=>?_⟩;obtain⟨cur,n1,n2,n3,n4,n5,n6⟩:=m5 b hb;refine⟨cur,n1,n2,?_,.inl ⟨o,ob,ho,by simp[aH,m1,hb]⟩,n5,aG.a7 (b9.same O0) _ _ (fun _ _=>rfl) n6⟩;rintro (hf | ⟨o',Ka,Kv,Kc⟩)
  ·exact n3 hf
  ·have:o'=o:=h.inj o' o Ka ob b (hp.r _ _ Kv) (hp.l _ _ ho) Kc (by simp[aH,m1,hb]);subst this;exact hp.d _ _ _ ho Kv
theorem aB.backF (h:aB C σ s a w){H rest:List (Nat×Ob)}(hp:mP H rest s.heap){hF:ES w (FB C σ rest) (fun b=>∃ o ob,assoc H o=some ob∧aH σ o=some b)}{nt:Nat}{σ':Nat→Option OB}{s1:St}{a':Act}{w':World}(h':aB (C.jF w σ H rest nt hF s.nx) σ' s1 a' w')(hd:∀ o ob Ka,assoc s1.heap o=some ob→assoc rest o=some Ka→False) :
  aB C σ' ⟨s.env,s1.heap++rest,s1.nx⟩ a w'∧∀ c v,VR w' (FB (C.jF w σ H rest nt hF s.nx) σ' s1.heap) σ' c v→VR w' (FB C σ' (s1.heap++rest)) σ' c v:=by
 have Kg:∀ b,b<w.heap.size→(¬ ∃ o ob,assoc H o=some ob∧aH σ o=some b)→w'.heap[b]? = w.heap[b]?:=fun b hb hn=>h'.frame b hb hn;have yN:∀ {o ob},assoc s.heap o=some ob→o<s.nx:=fun {o ob} ho=>by
  refine Nat.lt_of_not_le fun hle=>?_;obtain⟨B,e1,_⟩:=h.obj o ob ho;rw[h.nx o hle] at e1;cases e1
 have LV:∀ {o},o<s.nx→σ' o=σ o:=fun {o} ho=>h'.fM o ho;have Mg:∀ o ob b,assoc s1.heap o=some ob→aH σ' o=some b→(∃ o ob,assoc H o=some ob∧aH σ o=some b)∨w.heap.size≤b:=fun o ob b ho hb=>by
  obtain⟨B,m1,_,_,_,m5⟩:=h'.obj o ob ho;obtain⟨cur,_,_,_,n4,_⟩:=m5 b QQ;exact n4
 have VV:∀ o ob b,assoc s1.heap o=some ob→aH σ' o=some b→¬ FB C σ rest b:=fun o ob b ho hb=>by
  obtain⟨B,m1,_,_,_,m5⟩:=h'.obj o ob ho;obtain⟨cur,_,_,n3,_⟩:=m5 b QQ;exact n3
 have Nt:∀ {o ob b},assoc rest o=some ob→(aH σ' o=some b↔aH σ o=some b):=fun {o ob b} ho=>by
  unfold aH;rw[LV (yN (hp.r _ _ ho))]
 have W8:∀ b,FB C σ' (s1.heap++rest) b↔FB (C.jF w σ H rest nt hF s.nx) σ' s1.heap b:=fun b=>by
  constructor
  ·rintro (hb | ⟨o,ob,ho,hb⟩)
   ·exact .inl (.inl hb)
   ·rw[fI] at ho;split at ho
    ·rename_i y hy;cases ho;exact .inr ⟨o,_,hy,hb⟩
    ·exact .inl (.inr ⟨o,ob,ho,(Nt ho).1 hb⟩)
  ·rintro ((hb | ⟨o,ob,ho,hb⟩) | ⟨o,ob,ho,hb⟩)
   ·exact .inl hb
   ·refine .inr ⟨o,ob,?_,(Nt ho).2 hb⟩;rw[fI];split
    ·rename_i y hy;exact (hd _ _ _ hy ho).elim
    ·exact ho
   ·exact .inr ⟨o,ob,by rw[fI,ho],hb⟩
 have Yc:b9 w w' (FB C σ s.heap) (FB C σ' (s1.heap++rest)):=by
  have KD:∀ b,¬ FB C σ s.heap b→¬ ∃ o ob,assoc H o=some ob∧aH σ o=some b:=fun b hf hx=>hf ((lM hp).2 (.inr hx));have Yr:∀ b,b<w.heap.size→¬ FB C σ s.heap b→¬ FB C σ' (s1.heap++rest) b:=fun b hb hf hx=>by
   rw[W8] at hx;rcases hx with hx | ⟨o,ob,ho,MH⟩
   ·exact hf ((lM hp).2 (.inl hx))
   ·rcases Mg o ob b ho MH with h1 | h1
    ·exact KD b hf h1
    ·omega
  refine⟨fun ad u hf hu=>?_,fun r _ hf hu _=>?_⟩
  ·have hl:=World.block_lt_of_cell? w ad hu;exact⟨by rw[World.cell?_of_block (w:=w) (Kg ad.block hl (KD _ hf))];exact hu,Yr _ hl hf⟩
  ·have hl:=(Array.getElem?_eq_some_iff.1 hu).1;exact⟨by rw[Kg r hl (KD _ hf)];exact hu,Yr _ hl hf⟩
 have Po:∀ b,(∃ o ob,assoc H o=some ob∧aH σ o=some b)→C.own b∨C.w0.heap.size≤b:=fun b ⟨o,ob,ho,hb⟩=>by
  obtain⟨B,m1,_,_,_,m5⟩:=h.obj o ob (hp.l _ _ ho);obtain⟨cur,_,_,_,n4,_⟩:=m5 b QQ;exact n4
 refine⟨⟨h.me,h.tm,h'.os.trans h.os,h'.tape.trans h.tape,h'.output.trans h.output,Nat.le_trans h.size h'.size,?_,?_,?_,?_,h'.nx,fun o ho=>(h'.fM o (Nat.lt_of_lt_of_le ho h.low)).trans (h.fM o ho),Nat.le_trans h.low h'.low,fun o B b ho hB hb=>?_⟩,fun c v hv=>VR.a7 (b9.same fun b hb=>(W8 b).1 hb) _ _ (fun _ _=>rfl) hv⟩
 ·intro b hb KD;rw[Kg b (Nat.lt_of_lt_of_le hb h.size) fun hx=>?_]
  ·exact h.frame b hb KD
  ·rcases Po b hx with h1 | h1
   ·exact KD h1
   ·omega
 ·intro t c hc;obtain⟨v,k1,k2⟩:=h.env t c hc;refine⟨v,k1,VR.a7 Yc _ _ (fun o ho=>?_) k2⟩;refine h'.fM o (Nat.lt_of_not_le fun hle=>?_);obtain⟨B,hB⟩:=VR.refs _ _ o k2 ho;rw[h.nx o hle] at hB;cases hB
 ·intro o ob ho;rw[fI] at ho;split at ho
  ·rename_i y hy;cases ho;obtain⟨B,m1,m2,m3,m4,m5⟩:=h'.obj o _ hy;refine⟨B,m1,m2,m3,m4,fun b hb=>?_⟩;obtain⟨cur,n1,n2,n3,n4,n5,n6⟩:=m5 b hb;refine⟨cur,n1,n2,fun hf=>n3 (.inl hf),?_,n5,aG.a7 (b9.same fun b hb=>(W8 b).1 hb) _ _ (fun _ _=>rfl) n6⟩;rcases n4 with n4 | n4
   ·exact Po b n4
   ·exact .inr (Nat.le_trans h.size n4)
  ·have hs:=hp.r _ _ ho;obtain⟨B,m1,m2,m3,m4,m5⟩:=h.obj o ob hs;refine⟨B,by rw[LV (yN hs)];exact m1,m2,m3,m4,fun b hb=>?_⟩;obtain⟨cur,n1,n2,n3,n4,n5,n6⟩:=m5 b hb;have Nh:=(Array.getElem?_eq_some_iff.1 n1).1;have KD:¬ ∃ o' Ka,assoc H o'=some Ka∧aH σ o'=some b:=by
    rintro⟨o',Ka,Kv,Kc⟩;have:o'=o:=h.inj o' o Ka ob b (hp.l _ _ Kv) hs Kc (by simp[aH,m1,hb]);subst this;exact hp.d _ _ _ Kv ho
   refine⟨cur,by rw[Kg b Nh KD];exact n1,n2,n3,n4,n5,aG.a7 Yc _ _ (fun p OC=>?_) n6⟩;refine h'.fM p (Nat.lt_of_not_le fun hle=>?_);obtain⟨B2,Kw⟩:=aG.refs _ _ p n6 OC;rw[h.nx p hle] at Kw;cases Kw
 ·intro o o' ob Ka b ho Kv hb Kc;rw[fI] at ho Kv;have cross:∀ {p q x y},assoc s1.heap p=some x→aH σ' p=some b→assoc rest q=some y→aH σ' q=some b→False:=fun {p q x y} h1 h2 h3 h4=>
   VV p x b h1 h2 (.inr ⟨q,y,h3,(Nt h3).1 h4⟩)
  cases c1:assoc s1.heap o with
  | some y=>
   cases c2:assoc s1.heap o' with
   | some y'=>exact h'.inj o o' y y' b c1 c2 hb Kc
   | none=>
    rw[c2] at Kv;exact (cross c1 hb Kv Kc).elim
  | none=>
   rw[c1] at ho
   cases c2:assoc s1.heap o' with
   | some y'=>exact (cross c2 Kc ho hb).elim
   | none=>
    rw[c2] at Kv;exact h.inj o o' ob Ka b (hp.r _ _ ho) (hp.r _ _ Kv) ((Nt ho).1 hb) ((Nt Kv).1 Kc)
 ·rcases Nat.lt_or_ge o s.nx with hl | MN
  ·rw[LV hl] at hB;exact h.new o B b ho hB hb
  ·rcases h'.new o B b MN hB hb with n4 | n4
   ·exact Po b n4
   ·exact .inr (Nat.le_trans h.size n4)
theorem qA (Mw:ay P ak){o:Oper}{g:FuncId}{cs:List CV}{R:CV→St→Prop}{H rest:List (Nat×Ob)}(hp:mP H rest s.heap)(he:uq P C s o g cs)(hb:Body P ak g cs H s.nx R)(hR:∀ r s1,R r s1→∀ o ob Ka,assoc s1.heap o=some ob→assoc rest o=some Ka→False)(h:aB C σ s a w)(K:Act→World→Prop)(Q:Exit→Act→World→Prop)
  (hK:∀ r s1 v w' σ',R r s1→aB C σ' ⟨s.env,s1.heap++rest,s1.nx⟩ a w'→VR w' (FB C σ' (s1.heap++rest)) σ' r v→(∀ p,p<s.nx→σ' p=σ p)→K (a.put o.dst v) w'):o.wp P a w K Q:=by
 obtain⟨fn,code,hf,LJ,hn,hlen,hT⟩:=hb;obtain⟨vs,P5,Kq⟩:=he σ a w h;have hF:ES w (FB C σ rest) (fun b=>∃ o ob,assoc H o=some ob∧aH σ o=some b):=⟨fun b hb=>Az h b ((lM hp).2 (.inl hb)),h.gok.mono fun b hb=>(lM hp).2 hb⟩;have h0:=h.jF hp hF fn.ntmps Kq hlen;have Oa:Calls P g vs.toArray w fun e w'=>∃ v r s',e=.returned v∧R r s'∧∃ σ',aB C σ' ⟨s.env,s'.heap++rest,s'.nx⟩ a w'∧VR w' (FB C σ' (s'.heap++rest)) σ' r v∧(∀ p,p<s.nx→σ' p=σ p):=by
  refine calls_of_wp hf LJ (wp_mono (hT (C.jF w σ H rest fn.ntmps hF s.nx) rfl rfl _ _ ⟨_,h0⟩) fun e a' w' ⟨s1,q,σ1,KL⟩=>?_);have fin:aa (C.jF w σ H rest fn.ntmps hF s.nx) (fun s'=>∃ r,bf ak fn s'=some r∧R r s') s1→a'.defers=[]∧∃ v,(results fn a'.tmps).run P w'=.ok v w'∧(∃ Og r s',Ending.returned v=.returned Og∧R r s'∧∃ σ',aB C σ' ⟨s.env,s'.heap++rest,s'.nx⟩ a w'∧VR w' (FB C σ' (s'.heap++rest)) σ' r Og∧(∀ p,p<s.nx→σ' p=σ p)):=fun⟨s2,⟨r,q1,q2⟩,hl⟩=>by
   obtain⟨σ2,Kl⟩:=hl _ _ ⟨σ1,KL⟩;obtain⟨v,k1,k2⟩:=gW (P:=P) Mw Kl q1;obtain⟨b1,b2⟩:=h.backF hp Kl (hR r s2 q2);exact⟨Kl.me,v,k1,v,r,s2,rfl,q2,σ2,b1,b2 _ _ k2,Kl.fM⟩
  cases e with
  | normal=>exact fin q
  | ret=>exact fin q
  | exit _=>exact q.elim
  | goto _=>exact q.elim
  | panic _=>exact q.elim
  | outgrown=>exact q.elim
 unfold Oper.wp;rw[P5];refine Oa.mono fun e w' ⟨v,r,s',he,hR,σ',KF,hv,ho⟩=>?_;subst he;exact hK r s' v w' σ' hR KF hv ho
theorem FW (ht:ay P ak)(OT:gM P mt)(De:fv P ak call)(kp:sP P pc){i m:Nat}{o:Oper}{E:Ef}{rs:List Nat}{nb:Bool}{ab:Option (Nat×Nat)}{lo up:Nat}(h:rO ak mt ops call pc lo up m s o=some (E,rs,nb,ab))(hd:a9 C.nt o.dst=true)(hi:ops[i]? = some o)
  (LZ:dp ⟨o.looksAt ops,rs,nb,ab⟩ (fs s') (fs s)) (hr:aB C σ s' a w) (hm:σ m=none) (MW:C.n0≤m) (L5:m<s'.nx) {Q':Exit→Act→World→Prop} (K:Act→World→Prop)
  (hK:∀ a' w' σ' L3,fs L3=ap o.dst E (fs s')→aB C σ' L3 a' w'→(∀ p,p≠m→p<s'.nx→σ' p=σ p)→K a' w'):wpOp P ops Q' i K a w:=by
 have Md:∀ t∈o.looksAt ops,assoc s'.env t=assoc s.env t:=LZ.1;have Mg:∀ p∈rs,assoc s'.heap p=assoc s.heap p:=LZ.2.1;have ME:=vd Md;have L6:=nc (ops:=ops) Md;have Ks:∀ t,o.dst=some t→t<a.tmps.size:=fun t e=>by rw[hr.tm];rw[e] at hd;simpa [a9] using hd
 unfold rO at h;unfold wpOp;simp only[hi];split at h
 ·cases h
 ·rename_i hg;cases h;rw[hg] at L6;have hw:Region.wanted o (yielded ops a.tmps)=false:=by
   unfold bM at L6;split at L6
   ·cases L6
   ·rename_i j want e;split at L6
    ·cases L6
    rename_i t hj;exact jU ⟨σ,hr⟩ e hj L6
  rw[if_neg (by simp[hw])];exact hK _ _ σ (s'.put o.dst (.db [])) (lH _ _ _) (hr.put Ks (by simp only[VR,aG];exact⟨[],rfl,rfl⟩)) fun _ _ _=>rfl
 ·rename_i hg;rw[hg] at L6;have hw:=dR (ops:=ops) ⟨σ,hr⟩ L6;rw[if_pos hw];refine .inl ?_;split at h
  ·rename_i c hu;have Fm:=fB hu;split at h
   ·rename_i g cs hc;have K9:gG mt s' c=some (g,cs):=by
     rw[pW (fun x hx=>ME x (by rw[Fm];exact hx)),hc]
    split at h
    ·rename_i r hp;cases h;split at hp
     ·rename_i LN;have hP:=kp g cs _ hp;exact zG (uq.to OT Fm K9 hP.1) LN hP hr _ _ fun v w' KF hv=>hK _ _ σ (s'.put o.dst _) (lH _ _ _) (iQ hd KF hv) fun _ _ _=>rfl
     ·cases hp
    ·split at h
     ·rename_i x H n hx;split at h
      ·rename_i hn;cases h;obtain⟨hn,Kz⟩:=hn;have hB:=De _ _ _ _ _ _ _ hx;have hE:jR P g:=by
        obtain⟨fn,c,h1,h2,h3,_⟩:=hB;exact⟨fn,h1,h3,by simp[h2]⟩
       have Pq:s'.nx=s.nx:=LZ.2.2.1 rfl;have W2:∀ p,BU lo up (dI cs) p=true→assoc s'.heap p=assoc s.heap p:=fun p hp=>by
        simp only[BU,Bool.or_eq_true,decide_eq_true_eq,List.contains_eq_mem] at hp;rcases hp with (hp | hp) | hp
        ·exact LZ.2.2.2 _ rfl p (.inl hp)
        ·exact LZ.2.2.2 _ rfl p (.inr hp)
        ·exact Mg p hp
       have Lh:∀ p,assoc (oX lo up (dI cs) s.heap) p=if BU lo up (dI cs) p then assoc s'.heap p else none:=fun p=>by
        rw[kJ];split
        ·rename_i hp;rw[W2 p hp]
        ·rfl
       have Q8:mP (oX lo up (dI cs) s.heap) (yY lo up (dI cs) s'.heap) s'.heap:=by
        refine⟨fun p y hp=>?_,fun p y hp=>?_,fun p y hp=>?_,fun p y z hp hq=>?_⟩
        ·rw[Lh] at hp;split at hp
         ·exact hp
         ·cases hp
        ·rw[eM] at hp;split at hp
         ·cases hp
         ·exact hp
        ·rw[Lh,eM];split
         ·exact .inl hp
         ·exact .inr hp
        ·rw[Lh] at hp;rw[eM] at hq;split at hp
         ·rename_i Oo;rw[if_pos Oo] at hq;cases hq
         ·cases hp
       have MM:∀ p y,assoc H p=some y→BU lo up (dI cs) p=true:=fun p y hp=>by
        have:=List.all_eq_true.1 Kz _ (br _ _ _ hp);exact this
       rw[← Pq] at hB;refine qA ht Q8 (uq.to OT Fm K9 hE) hB (fun r s1 hR p y z hp hq=>?_) hr _ _ fun r s1 v w' σ' hR KF hv hold=>?_
       ·obtain⟨_,e1,_⟩:=hR;rw[e1] at hp;rw[eM,if_pos (MM p y hp)] at hq;cases hq
       ·obtain⟨rfl,e1,e2⟩:=hR;refine hK _ _ σ' (nX ⟨s'.env,s1.heap++yY lo up (dI cs) s'.heap,s1.nx⟩ o.dst (some r)) ?_ (iQ hd KF hv) fun p _ yN=>hold p yN;refine fF (s:=s') (fun p=>?_) (by rw[e2,Pq];omega);rw[e1,fI,eM];have QK:=DZ (oX lo up (dI cs) s.heap) H p;unfold jc at QK ⊢;by_cases Oo:BU lo up (dI cs) p=true
        ·rw[if_pos Oo]
         cases Lu:assoc (pV (oX lo up (dI cs) s.heap) H) p with
         | some y=>
          rw[Lu] at QK;simp only at QK ⊢;rw[QK];cases assoc H p<;>rfl
         | none=>
          rw[Lu] at QK;simp only at QK ⊢;rw[Lh,if_pos Oo] at QK;rw[QK];cases assoc H p<;>rfl
        ·rw[if_neg Oo];have hH:assoc H p=none:=by
          cases Lu:assoc H p with
          | none=>rfl
          | some y=>exact absurd (MM p y Lu) Oo
         rw[hH];simp only
         cases Lu:assoc (pV (oX lo up (dI cs) s.heap) H) p with
         | none=>rfl
         | some y=>
          exfalso;have hS:assoc (oX lo up (dI cs) s.heap) p=none:=by rw[Lh,if_neg Oo]
          exact zc hS hH Lu
      ·cases h
     ·cases h
   ·cases h
  ·split at h
   ·rename_i c hq;cases h;have MQ:eE ak s' o.op=some c:=by
     by_cases hl:(∃ t x,o.op=.load t x)∨∃ t x lo hi mx,o.op=.slice t x lo hi mx
     ·refine AX (s:=s) (fun x hx=>(ME x hx).symm) hq fun x hx v hv p ob hn hp=>?_;rw[Mg p ?_]
      ·exact hp
      ·rcases hl with ⟨t,y,e⟩ | ⟨t,y,lo,Oo,mx,e⟩
       ·have:CM s o.op=Fe s o.op:=by rw[e];rfl
        rw[this];exact zX hx hv hn
       ·have:CM s o.op=Fe s o.op:=by rw[e];rfl
        rw[this];exact zX hx hv hn
     ·rw[← pN (s:=s) o.op (fun x hx=>(ME x hx).symm) (fun t x e=>hl (.inl ⟨t,x,e⟩)) (fun t x lo hi mx e=>hl (.inr ⟨t,x,lo,hi,mx,e⟩))];exact hq
    obtain⟨z,k1,k2⟩:=uP ht hr o MQ;unfold Oper.wp;rw[k1];exact hK _ _ σ (s'.put o.dst c) (lH _ _ _) (iQ hd hr k2) fun _ _ _=>rfl
   ·split at h
    ·rename_i c YV hv;cases h;unfold Ai at hv;split at hv
     ·rename_i t u x Fm;split at hv
      ·rename_i c' hc;cases hv;have hx:ev s' x=ev s x:=ME x (by rw[Fm];simp[Op.operands]);have Lu:oE ak s' t u x=some c:=by
        rw[← hc];unfold oE;rw[hx]
        cases SG:ev s x with
        | none=>rfl
        | some v=>
         have:cells? s' v=cells? s v:=cells?_view fun p hp=>Mg p (by simp only[SG];exact qq hp)
         cases cY ak t with
         | none=>cases v<;>rfl
         | some d=>
          cases cY ak u with
          | none=>cases v<;>cases d<;>rfl
          | some d'=>cases v<;>cases d<;>cases d'<;>first | rfl | simp only[this]
       obtain⟨z,k1,k2⟩:=xV ht hr Lu;have k3:(execOp a.eval o).run P w=.ok (.value z) w:=by
        simp[execOp,Fm,k1]
       unfold Oper.wp;rw[k3];exact hK _ _ σ (s'.put o.dst c) (lH _ _ _) (iQ hd hr k2) fun _ _ _=>rfl
      ·cases hv
     ·cases hv
    split at h
    ·rename_i ob f hv;cases h;have Oz:oG ak s' o.op=some (ob,f):=by rw[zn ME,hv]
     obtain⟨z,w',B,k1,k2⟩:=Bk ht hr hm MW L5 Ks Oz;unfold Oper.wp;rw[k1];refine hK _ _ _ _ ?_ k2 fun p hp _=>by simp[sig,hp]
     exact fF (s:=s') (k:=0) (d:=o.dst) (r:=some (f m)) (fun p=>by simp only[assoc,jc];by_cases e:m=p<;>simp[e]) rfl
    ·split at h
     ·rename_i t x v Fm;split at h
      ·rename_i p ob hc;cases h;have hx:ev s' x=ev s x:=ME x (by rw[Fm];simp[Op.operands]);have hv:ev s' v=ev s v:=ME v (by rw[Fm];simp[Op.operands]);unfold Im at hc;split at hc
       ·rename_i p' off c i' h1 h2 h3;split at hc
        ·cases hc
        ·rename_i Ka LB;split at hc
         ·cases hc
         ·rename_i Mu;split at hc
          ·rename_i hlen;cases hc;have Te:assoc s'.heap p=some Ka:=by rw[Mg p j5];exact LB
           have Km:py ak s' t x v=some { s' with heap:=pH s'.heap p { Ka with cells:=fL Ka.cells off c.cells } }:=by
            unfold py;rw[hx,hv,h1,h2,h3];simp only[Te];rw[if_neg Mu,if_pos hlen]
           obtain⟨w',k1,k2,_⟩:=uc ht hr Fm Km;unfold Oper.wp;rw[k1];refine hK _ _ σ _ ?_ (k2.del undef) fun _ _ _=>rfl;refine fF (s:=s') (k:=0) (d:=o.dst) (r:=none) (fun q=>?_) rfl;rw[eg];simp only[jc,assoc];by_cases e:p=q
           ·rw[if_pos e,if_pos e,← e,Te];rfl
           ·rw[if_neg e,if_neg e]
          ·cases hc
       ·cases hc
      ·cases h
     ·rename_i cl Fm;split at h
      ·rename_i x y t t' M5 ha Lg;split at h
       ·rename_i e;subst e;split at h
        ·rename_i p q hp hq;split at h
         ·rename_i ob k rm hc;cases h;have QS:∀ {α:Type} {x:Array α} {l:List α},x.toList=l→x=l.toArray:=fun {α x l} e=>by rw[← e]
          have AW:=QS ha;have hx:ev s' x=some p:=by rw[ME x (by rw[Fm];simp[Op.operands,Call.operands,AW])];exact hp
          have hy:ev s' y=some q:=by rw[ME y (by rw[Fm];simp[Op.operands,Call.operands,AW])];exact hq
          have hn:s'.nx=s.nx:=LZ.2.2.1 rfl;have Z8:oJ ak t p (wR s' p) (cells? s' q)=some (ob,k,rm):=by
           rw[Bg (fun o' Kv=>Mg o' (List.mem_append_left _ (qq Kv))),cells?_view (fun o' Kv=>Mg o' (List.mem_append_right _ (qq Kv)))];exact hc
          have WZ:=zo (d:=o.dst) hx hy Z8;obtain⟨z,w',B,k1,k2⟩:=rX ht hr Ks Fm M5 AW (QS Lg) WZ;unfold Oper.wp;rw[k1];refine hK _ _ _ _ ?_ k2 fun p hp yN=>by simp[sig,Nat.ne_of_lt yN]
          have Zr:fs (nX ⟨s'.env,(s'.nx,ob)::FY s'.heap rm,s'.nx+1⟩ o.dst (some (.bw s'.nx 0 k)))=ap o.dst ⟨some (.bw s'.nx 0 k),(s'.nx,some ob)::rmL rm,1⟩ (fs s'):=by
           refine fF (s:=s') (k:=1) (fun r=>?_) rfl;simp only[assoc,jc];by_cases e:s'.nx=r
           ·rw[if_pos e,if_pos e]
           ·rw[if_neg e,if_neg e]
            cases rm with
            | none=>simp only[FY,rmL,assoc]
            | some o2=>
             simp only[FY,rmL,dW,assoc];by_cases e2:o2=r
             ·rw[if_pos e2,if_pos e2]
             ·rw[if_neg e2,if_neg e2]
          rw[← hn];exact Zr
         ·cases h
        ·cases h
       ·cases h
      ·cases h
     ·cases h
end
abbrev Er:=Ef×List Nat×Bool×Option (Nat×Nat)
instance : Inhabited Er := ⟨(⟨none, [], 0⟩, [], false, none)⟩
def gU (o:Oper):Bool:=match o.op with
 | .alloc _=>true
 | .box _ _=>true
 | .buildSlice _ _ _=>true
 | .makeSlice _ _ _=>true
 | .store _ _ _=>true
 | .call c=>match c.callee with
  | .builtin .append=>true
  | .builtin _=>false
  | _=>true
 | _=>false
def mJ (o:Oper):Bool:=!gU o && match o.op with
 | .load _ _=>false
 | .slice _ _ _ _ _=>false
 | .convert _ _ _=>false
 | _=>true
def CU (ops:Array Oper):List Nat→List Nat→Bool
 | _,[]=>true
 | pre,i::r=>(match ops[i]? with
   | some o=>o.after.all fun e=>!Region.binds .any e || pre.contains e.on
   | none=>false) && CU ops (i::pre) r
def tw (ops:Array Oper)(dyn:List (Nat×Nat))(i j:Nat):Bool:=match ops[i]?,ops[j]? with
 | some oi,some oj=>oi.apart ops oj && (dyn.contains (i,j) || (!gU oi && !gU oj) || mJ oi || mJ oj)
 | _,_=>false
def Di (ms:List (Nat×Nat)):List Edge→Nat→Nat
 | [],m=>m
 | e::l,m=>Di ms l (if Region.binds .any e=true then m ||| (1 <<< e.on) ||| (assoc ms e.on).getD 0 else m)
def Dh (ops:Array Oper)(ms:List (Nat×Nat))(j:Nat):Nat:=match ops[j]? with
 | some o=>Di ms o.after.toList 0
 | none=>0
def wM (ops:Array Oper)(dyn:List (Nat×Nat))(b:Bool):List Nat→List (Nat×Nat)→List Nat→Bool
 | _,_,[]=>true
 | acc,ms,j::r=>let m:=Dh ops ms j
  (acc.all fun i=>m.testBit i || ((!b || ((ops[i]?).bind bR).isNone) && tw ops dyn i j)) && wM ops dyn b (j::acc) ((j,m)::ms) r
def qG (ops:Array Oper)(b:Bool)(ord:List Nat)(dyn:List (Nat×Nat)):Bool:=
 decide ord.Nodup && ((List.range ops.size).all fun j=>ord.contains j) && (ord.all fun i=>decide (i<ops.size)) && CU ops [] ord && wM ops dyn b [] [] ord
def yK (w:List (Nat×Option Ob)):Option (Nat×Nat)→Bool
 | none=>true
 | some r=>w.all fun p=>decide (r.1≤p.1) && decide (p.1<r.2)
theorem lX (w:List (Nat×Option Ob)):yK w none=true:=rfl
theorem qU (r:Option (Nat×Nat)):yK [] r=true:=by cases r<;>rfl
def rF (x y:Er):Bool:=
 (x.1.w.all fun p=>!y.2.1.contains p.1 && (y.1.w.all fun q=>q.1 != p.1)) && (y.1.w.all fun q=>!x.2.1.contains q.1) && (!y.2.2.1 || x.1.k == 0) && (!x.2.2.1 || y.1.k == 0) && yK x.1.w y.2.2.2 && yK y.1.w x.2.2.2
section
variable {P:Program}{C:Cx}{s s':St}{ops:Array Oper}{ak:List (Nat×TI)}{mt:gh}{pc:FuncId→List CV→Option CV}{call:eP}
theorem AY {lo hi m:Nat}{o:Oper}{x:Er}(h:rO ak mt ops call pc lo hi m s o=some x)(hl:gU o=false):x.1.w=[]∧x.1.k=0∧x.2.2.1=false∧x.2.2.2=none:=by
 unfold rO at h;split at h
 ·cases h
 ·cases h;exact⟨rfl,rfl,rfl,rfl⟩
 ·split at h
  ·rename_i c hu;have Fm:=fB hu;exfalso;unfold bR at hu;rw[Fm] at hu;simp only at hu;simp only[gU,Fm] at hl;cases De:c.callee<;>rw[De] at hu hl<;>simp at hu hl
  ·split at h
   ·cases h;exact⟨rfl,rfl,rfl,rfl⟩
   ·split at h
    ·cases h;exact⟨rfl,rfl,rfl,rfl⟩
    split at h
    ·rename_i ob f hv;exfalso;revert hl hv;cases Fm:o.op<;>simp[gU,Fm,oG,xY]
    ·split at h
     ·rename_i Fm;simp[gU,Fm] at hl
     ·rename_i cl Fm;split at h
      ·rename_i De _ _;simp[gU,Fm,De] at hl
      ·cases h
     ·cases h
theorem Cz {lo hi m:Nat}{o:Oper}{x:Er}(h:rO ak mt ops call pc lo hi m s o=some x)(hl:mJ o=true):x.2.1=[]:=by
 simp only[mJ,Bool.and_eq_true,Bool.not_eq_true'] at hl;obtain⟨hl,hs⟩:=hl;unfold rO at h;split at h
 ·cases h
 ·cases h;rfl
 ·split at h
  ·rename_i c hu;have Fm:=fB hu;exfalso;unfold bR at hu;rw[Fm] at hu;simp only at hu;simp only[gU,Fm] at hl;cases De:c.callee<;>rw[De] at hu hl<;>simp at hu hl
  ·split at h
   ·cases h;simp only;unfold CM;split
    ·rename_i Fm;simp[Fm] at hs
    ·rename_i Fm;simp[Fm] at hs
    ·rfl
   ·split at h
    ·rename_i c' YV hv;exfalso;unfold Ai at hv;split at hv
     ·rename_i Fm;simp[Fm] at hs
     ·cases hv
    split at h
    ·cases h;rfl
    ·split at h
     ·rename_i Fm;simp[gU,Fm] at hl
     ·rename_i cl Fm;split at h
      ·rename_i De _ _;simp[gU,Fm,De] at hl
      ·cases h
     ·cases h
theorem H3 {d d':Option Tmp}{V V':List Nat}{x y:Er}(h:rF x y=true)(s1:∀ t,d=some t→t∉V')(s2:∀ t,d'=some t→t∉V)(s3:∀ t,d=some t→d'≠some t):BQ d d' x.1 y.1 ⟨V,x.2.1,x.2.2.1,x.2.2.2⟩ ⟨V',y.2.1,y.2.2.1,y.2.2.2⟩:=by
 simp only[rF,Bool.and_eq_true,List.all_eq_true,Bool.not_eq_true',bne_iff_ne,Bool.or_eq_true,beq_iff_eq] at h;obtain⟨⟨⟨⟨⟨h1,h2⟩,h3⟩,h4⟩,h5⟩,h6⟩:=h;refine⟨s1,s2,s3,fun o z hz ho=>?_,fun o z hz ho=>?_,fun o z hz=>?_,fun hn=>?_,fun hn=>?_,fun rr hn=>?_,fun rr hn=>?_⟩
 ·have:=(h1 _ (br _ _ _ hz)).1;simp at this;exact this ho
 ·have:=h2 _ (br _ _ _ hz);simp at this;exact this ho
 ·have:=(h1 _ (br _ _ _ hz)).2
  cases h7:assoc y.1.w o with
  | none=>rfl
  | some u=>
   have h8:=this _ (br _ _ _ h7);simp at h8
 ·rcases h3 with h3 | h3
  ·have OF:y.2.2.1=true:=hn;rw[OF] at h3;cases h3
  ·exact h3
 ·rcases h4 with h4 | h4
  ·have OF:x.2.2.1=true:=hn;rw[OF] at h4;cases h4
  ·exact h4
 ·have OF:y.2.2.2=Option.some rr:=hn;rw[OF] at h5;simp only[yK,List.all_eq_true,Bool.and_eq_true,decide_eq_true_eq] at h5;exact fun o z hz=>h5 _ (br _ _ _ hz)
 ·have OF:x.2.2.2=Option.some rr:=hn;rw[OF] at h6;simp only[yK,List.all_eq_true,Bool.and_eq_true,decide_eq_true_eq] at h6;exact fun o z hz=>h6 _ (br _ _ _ hz)
theorem tz:∀ (l acc:List Nat),CU ops acc l=true→∀ pre i post,l=pre++i::post→∀ oi,ops[i]? = some oi→∀ e∈oi.after,Region.binds .any e=true→e.on∈acc∨e.on∈pre
 | [],_,_,pre,i,post,h,_,_,_,_,_=>by simp at h
 | k::r,acc,hx,pre,i,post,h,oi,Ol,e,he,hb=>by
  simp only[CU,Bool.and_eq_true] at hx
  cases pre with
  | nil=>
   simp only[List.nil_append,List.cons.injEq] at h;obtain⟨rfl,_⟩:=h;have h1:=hx.1;rw[Ol] at h1;simp only[Array.all_eq_true_iff_forall_mem] at h1;have:=h1 e he;simp only[hb,Bool.not_true,Bool.false_or,List.contains_eq_mem,decide_eq_true_eq] at this;exact .inl this
  | cons p pre=>
   simp only[List.cons_append,List.cons.injEq] at h;obtain⟨rfl,h⟩:=h;rcases tz r (k::acc) hx.2 pre i post h oi Ol e he hb with h2 | h2
   ·rcases List.mem_cons.1 h2 with e2 | h2
    ·exact .inr (by simp[e2])
    ·exact .inl h2
   ·exact .inr (List.mem_cons_of_mem _ h2)
def G1 (ops:Array Oper)(ms:List (Nat×Nat)):Prop:=∀ j m,assoc ms j=some m→∀ i,m.testBit i=true→yk ops j i
theorem xb {ms:List (Nat×Nat)}{i:Nat}:∀ (l:List Edge) (m:Nat),(Di ms l m).testBit i=true→m.testBit i=true∨∃ e∈l,Region.binds .any e=true∧(i=e.on∨∃ k,assoc ms e.on=some k∧k.testBit i=true)
 | [],m,h=>.inl h
 | e::l,m,h=>by
  rcases xb l _ h with h | ⟨e',he,h⟩
  ·split at h
   ·rename_i hb;simp only[Nat.testBit_or,Bool.or_eq_true,Nat.one_shiftLeft,Nat.testBit_two_pow,decide_eq_true_eq] at h;rcases h with (h | h) | h
    ·exact .inl h
    ·exact .inr ⟨e,List.mem_cons_self,hb,.inl h.symm⟩
    ·cases hk:assoc ms e.on with
     | none=>rw[hk] at h;simp at h
     | some k=>rw[hk] at h;exact .inr ⟨e,List.mem_cons_self,hb,.inr ⟨k,hk,h⟩⟩
   ·exact .inl h
  ·exact .inr ⟨e',List.mem_cons_of_mem _ he,h⟩
theorem xa {ms:List (Nat×Nat)}(h:G1 ops ms){j i:Nat}(hm:(Dh ops ms j).testBit i=true):yk ops j i:=by
 intro listed hc hj;unfold Dh at hm;split at hm
 ·rename_i o ho;rcases xb _ _ hm with h0 | ⟨e,he,hb,h1⟩
  ·simp at h0
  ·have hl:=hj o ho e (by simpa using he) hb;rcases h1 with rfl | ⟨k,hk,hi⟩
   ·exact hl
   ·exact h e.on k hk i hi listed hc fun ok Kb e' ZZ Kc=>hc e.on ok Kb hl e' ZZ Kc
 ·simp at hm
theorem rh {dyn:List (Nat×Nat)}{b:Bool}:∀ (l acc:List Nat) (ms:List (Nat×Nat)),G1 ops ms→wM ops dyn b acc ms l=true→∀ pre j post,l=pre++j::post→∀ i,i∈acc∨i∈pre→yk ops j i∨((b=true→(ops[i]?).bind bR=none)∧tw ops dyn i j=true)
 | [],_,_,_,_,pre,j,post,h,_,_=>by simp at h
 | k::r,acc,ms,K3,hx,pre,j,post,h,i,hi=>by
  simp only[wM,Bool.and_eq_true,List.all_eq_true] at hx
  cases pre with
  | nil=>
   simp only[List.nil_append,List.cons.injEq] at h;obtain⟨rfl,rfl⟩:=h;have:=hx.1 i (hi.resolve_right List.not_mem_nil);simp only[Bool.or_eq_true,Bool.and_eq_true,Bool.not_eq_true',Option.isNone_iff_eq_none] at this;rcases this with h1 | ⟨h1,h2⟩
   ·exact .inl (xa K3 h1)
   ·exact .inr ⟨fun e=>h1.resolve_left (by rw[e];simp),h2⟩
  | cons p pre=>
   simp only[List.cons_append,List.cons.injEq] at h;obtain⟨rfl,h⟩:=h;refine rh r (k::acc) _ (fun j' m' h' i' Oo=>?_) hx.2 pre j post h i ?_
   ·simp only[assoc] at h';split at h'
    ·rename_i e;cases h';subst e;exact xa K3 Oo
    ·exact K3 j' m' h' i' Oo
   ·rcases hi with hi | hi
    ·exact .inl (List.mem_cons_of_mem _ hi)
    ·rcases List.mem_cons.1 hi with rfl | hi
     ·exact .inl List.mem_cons_self
     ·exact .inr hi
end
def renV (o q:Nat):CV→CV
 | .bw p off n=>if p=o then .bw q off n else .bw p off n
 | c=>c
def renOk (o q:Nat):CV→Bool
 | .bw p _ _=>p == o || decide (p<q)
 | c=>aZ q c
def renE (o q:Nat):List (Nat×CV)→List (Nat×CV)
 | []=>[]
 | (t,c)::r=>(t,renV o q c)::renE o q r
attribute [simp] renV renOk renE
end Go.Can
namespace Go.Can
section
variable {α:Type}{f:α→List CV}{n:Nat}
theorem aQ (hf:∀ x,(f x).length=n):∀ m:List α,(m.flatMap f).length=m.length*n
 | []=>by simp
 | a::r=>by
  have ih:=aQ hf r;simp only[List.flatMap_cons,List.length_append,hf,ih,List.length_cons,Nat.add_mul];omega
theorem tU (hf:∀ x,(f x).length=n):∀ (m:List α) (i:Nat),(m.flatMap f).take (i*n)=(m.take i).flatMap f
 | [],i=>by simp
 | a::r,0=>by simp
 | a::r,i+1=>by
  have ih:=tU hf r i;simp only[List.take_succ_cons,List.flatMap_cons,← ih];rw[show (i+1)*n=(f a).length+i*n by rw[hf,Nat.add_mul];omega,List.take_length_add_append]
theorem tV (hf:∀ x,(f x).length=n):∀ (m:List α) (i:Nat),(m.flatMap f).drop (i*n)=(m.drop i).flatMap f
 | [],i=>by simp
 | a::r,0=>by simp
 | a::r,i+1=>by
  have ih:=tV hf r i;simp only[List.drop_succ_cons,List.flatMap_cons,← ih];rw[show (i+1)*n=(f a).length+i*n by rw[hf,Nat.add_mul];omega,List.drop_length_add_append]
theorem az (hf:∀ x,(f x).length=n){m:List α}{i:Nat}{e:α}(h:m[i]? = some e):(m.flatMap f).drop (i*n)=f e++(m.drop (i+1)).flatMap f:=by
 rw[tV hf];obtain⟨hi,he⟩:=List.getElem?_eq_some_iff.1 h;rw[List.drop_eq_getElem_cons hi,he,List.flatMap_cons]
theorem DP (hf:∀ x,(f x).length=n){m:List α}{i k:Nat}{e e':α}{c:CV}(h:m[i]? = some e)(hk:k<n)(he:(f e).set k c=f e'):fL (m.flatMap f) (i*n+k) [c]=(m.set i e').flatMap f:=by
 obtain⟨hi,rfl⟩:=List.getElem?_eq_some_iff.1 h;have h1:m=m.take i++m[i]::m.drop (i+1):=by rw[← List.drop_eq_getElem_cons hi,List.take_append_drop]
 have hl:((m.take i).flatMap f).length=i*n:=by
  rw[aQ hf,List.length_take,Nat.min_eq_left yA]
 unfold fL;rw[List.set_eq_take_append_cons_drop,if_pos hi,List.flatMap_append,List.flatMap_cons,← he];have hm:m.flatMap f=(m.take i).flatMap f++(f m[i]++(m.drop (i+1)).flatMap f):=by
  rw[← List.flatMap_cons,← List.flatMap_append,← List.drop_eq_getElem_cons hi,List.take_append_drop]
 rw[hm,← hl,List.take_length_add_append,List.append_assoc,List.append_assoc];congr 1;have Ke:k<(f m[i]).length:=by rw[hf];exact hk
 rw[List.set_eq_take_append_cons_drop,if_pos Ke];rw[List.take_append_of_le_length yA];simp only[List.length_singleton,List.append_assoc,List.cons_append,List.nil_append];congr 2;rw[Nat.add_assoc,List.drop_length_add_append,List.drop_append_of_le_length yA]
end
end Go.Can
namespace Go.aT
open Go.Can
inductive Ex where
 | zero
 | num (n:Nat)
 | nm (s:ByteArray)
 | un (k:Nat) (e:Ex)
 | bin (k:Nat) (a b:Ex)
 | loc (i:Nat)
 | iV (i:Nat)
abbrev I (n:Int):CV:=.int .i64 n
def eS:ByteArray:=⟨#[]⟩
def bC:Ex→List CV
 | .zero=>[I 0,I 0,.str eS,.au [] 0]
 | .num n=>[I 1,I n,.str eS,.au [] 0]
 | .nm s=>[I 2,I 0,.str s,.au [] 0]
 | .un k e=>[I (3+k),I 0,.str eS,.au (bC e) 1]
 | .bin k a b=>[I (5+k),I 0,.str eS,.au (bC a++bC b) 2]
 | .loc i=>[I 18,I i,.str eS,.au [] 0]
 | .iV i=>[I 19,I i,.str eS,.au [] 0]
theorem bA (e:Ex):(bC e).length=4:=by cases e<;>rfl
def Ex.op:Ex→Int
 | .zero=>0
 | .num _=>1
 | .nm _=>2
 | .un k _=>3+k
 | .bin k _ _=>5+k
 | .loc _=>18
 | .iV _=>19
def Ex.n:Ex→Int
 | .num n=>n
 | .loc i=>i
 | .iV i=>i
 | _=>0
def Ex.name:Ex→ByteArray
 | .nm s=>s
 | _=>eS
def Ex.args:Ex→List Ex
 | .un _ e=>[e]
 | .bin _ a b=>[a,b]
 | _=>[]
theorem bJ (e:Ex):bC e=[I e.op,I e.n,.str e.name,.au (e.args.flatMap bC) e.args.length]:=by
 cases e<;>simp[bC,Ex.op,Ex.n,Ex.name,Ex.args]
structure Rf where
 name:ByteArray
 index:Option Ex
def mK:Option Ex→CV
 | none=>.au [] 0
 | some e=>.au (bC e) 1
def jw (r:Rf):List CV:=[.str r.name,mK r.index]
def jy:List CV:=[.str eS,.au [] 0]
inductive Ar where
 | ru (r:Rf)
 | exp (e:Ex)
def mC:Ar→List CV
 | .ru r=>.bool true::jw r++bC .zero
 | .exp e=>.bool false::jy++bC e
inductive Sm where
 | fN (name:ByteArray) (e:Ex)
 | gz (name:ByteArray) (e:Ex)
 | dm (go:Bool) (name:ByteArray) (args:List Ar)
 | cR (un:Bool) (r:Rf)
 | jS (e:Ex) (th el:List Sm)
 | cb (e:Ex) (th:List Sm)
 | ia
mutual
def gk:Sm→List CV
 | .fN s e=>[I 1,.str s]++bC e++jy++[.au [] 0,.au [] 0,.au [] 0]
 | .gz s e=>[I 2,.str s]++bC e++jy++[.au [] 0,.au [] 0,.au [] 0]
 | .dm g s l=>[I (if g then 4 else 3),.str s]++bC .zero++jy++[.au (l.flatMap mC) l.length,.au [] 0,.au [] 0]
 | .cR u r=>[I (if u then 6 else 5),.str eS]++bC .zero++jw r++[.au [] 0,.au [] 0,.au [] 0]
 | .jS e th el=>[I 7,.str eS]++bC e++jy++[.au [] 0,.au (bh th) th.length,.au (bh el) el.length]
 | .cb e th=>[I 8,.str eS]++bC e++jy++[.au [] 0,.au (bh th) th.length,.au [] 0]
 | .ia=>[I 9,.str eS]++bC .zero++jy++[.au [] 0,.au [] 0,.au [] 0]
def bh:List Sm→List CV
 | []=>[]
 | s::r=>gk s++bh r
end
theorem lS:∀ l:List Sm,bh l=l.flatMap gk
 | []=>rfl
 | s::r=>by rw[bh,lS r,List.flatMap_cons]
theorem jh (s:Sm):(gk s).length=11:=by
 cases s<;>simp[gk,bA,jy,jw]
structure Pm where
 name:ByteArray
 mutex:Bool
def jB (p:Pm):List CV:=[.str p.name,.bool p.mutex]
structure Gl where
 name:ByteArray
 init:Int
def mL (g:Gl):List CV:=[.str g.name,I g.init]
structure Mx where
 name:ByteArray
 re:Bool
 size:Nat
def eQ (m:Mx):List CV:=[.str m.name,.bool m.re,I m.size]
structure Fu where
 name:ByteArray
 params:List Pm
 body:List Sm
def ed (f:Fu):List CV:=[.str f.name,.au (f.params.flatMap jB) f.params.length,.au (bh f.body) f.body.length]
structure Pg where
 gs:List Gl
 ms:List Mx
 fs:List Fu
def dH (p:Pg):List CV:=[.au (p.gs.flatMap mL) p.gs.length,.au (p.ms.flatMap eQ) p.ms.length,.au (p.fs.flatMap ed) p.fs.length]
def tv (p:Pg):CV:=.agg (dH p)
structure Pl where
 param:Bool
 index:Nat
 at_:Option Ex
def mU (p:Pl):List CV:=[.bool p.param,I p.index,mK p.at_]
def pO:List CV:=[.bool false,I 0,.au [] 0]
inductive In where
 | set (t:Nat) (g:Bool) (e:Ex)
 | call (go:Bool) (t:Nat) (ints:List Ex) (places:List Pl)
 | lock (un:Bool) (p:Pl)
 | branch (t:Nat) (e:Ex)
 | jump (t:Nat)
 | ret
def cK:In→List CV
 | .set t g e=>[I 1,I t,.bool g]++bC e++pO++[.au [] 0,.au [] 0]
 | .call g t l ps=>[I (if g then 3 else 2),I t,.bool false]++bC .zero++pO++[.au (l.flatMap bC) l.length,.au (ps.flatMap mU) ps.length]
 | .lock u p=>[I (if u then 5 else 4),I 0,.bool false]++bC .zero++mU p++[.au [] 0,.au [] 0]
 | .branch t e=>[I 6,I t,.bool false]++bC e++pO++[.au [] 0,.au [] 0]
 | .jump t=>[I 7,I t,.bool false]++bC .zero++pO++[.au [] 0,.au [] 0]
 | .ret=>[I 8,I 0,.bool false]++bC .zero++pO++[.au [] 0,.au [] 0]
theorem eV (x:In):(cK x).length=12:=by
 cases x<;>simp[cK,bA,pO,mU]
structure Pr where
 name:ByteArray
 ints:Nat
 bx:Nat
 locals:Nat
 code:List In
def kR (p:Pr):List CV:=[.str p.name,I p.ints,I p.bx,I p.locals,.au (p.code.flatMap cK) p.code.length]
structure Un where
 gs:List Int
 ms:List Mx
 ps:List Pr
 main:Nat
def dj (u:Un):List CV:=[ints u.gs,.au (u.ms.flatMap eQ) u.ms.length,.au (u.ps.flatMap kR) u.ps.length,I u.main]
def dt (u:Un):CV:=.agg (dj u)
structure Is where
 proc:Nat
 bx:List Nat
def aN (l:List Nat):CV:=.au (l.map fun n:Nat=>I n) l.length
def cP (i:Is):List CV:=[I i.proc,aN i.bx]
structure Cl where
 is:List Is
 calls:List (List Int)
 roots:List Nat
def fe (c:Cl):List CV:=[.au (c.is.flatMap cP) c.is.length,.au (c.calls.map ints) c.calls.length,aN c.roots]
def ja (c:Cl):CV:=.agg (fe c)
end Go.aT
