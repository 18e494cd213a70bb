/- A region that draws, run in one order: what the other orders -/
import Derived.Test.YtkkdkhbhamhfgaaGreatDoorZ09
import Derived.Test.YtkkdkhbhamhfgaaGreatDoorRows
import Derived.Deep.Matrix
import Derived.Deep.Fields
namespace Go.Can
open Go.RowKit
def sP (P:Program)(pc:FuncId→List CV→Option CV):Prop:=∀ g cs r,pc g cs=some r→ae P g cs r
section
variable {P:Program}{C:Cx}{σ:Nat→Option OB}{s s':St}{a:Act}{w:World}{ops:Array Oper}{ak:List (Nat×TI)}{mt:gh}{pc:FuncId→List CV→Option CV}{call:eP}
theorem vd {o:Oper}(h:∀ t∈o.looksAt ops,assoc s'.env t=assoc s.env t):∀ x∈o.op.operands,ev s' x=ev s x:=fun x hx=>by
 cases x with
 | tmp t=>exact h t (List.mem_append_left _ (List.mem_filterMap.2 ⟨.tmp t,by simpa using hx,rfl⟩))
 | _=>rfl
theorem nc {o:Oper}(h:∀ t∈o.looksAt ops,assoc s'.env t=assoc s.env t):bM ops s' o=bM ops s o:=by
 unfold bM
 cases hg:o.guard with
 | none=>rfl
 | some q=>
  obtain⟨j,want⟩:=q;simp only
  cases hj:(ops[j]?).bind (·.dst) with
  | none=>rfl
  | some t=>simp only;rw[h t (by simp[Oper.looksAt,hg,hj])]
theorem pW {c:Call}(h:∀ x∈c.operands,ev s' x=ev s x):gG mt s' c=gG mt s c:=by
 have ha:vF s' c.args.toList=vF s c.args.toList:=iG _ fun x hx=>h x (by simp only[Call.operands,Array.mem_append];exact .inr (by simpa using hx));unfold gG;split
 ·rename_i f hf;unfold bl;rw[hf];simp only;rw[h f (by simp[Call.operands,hf]),ha]
 ·rename_i r name hr;rw[h r (by simp[Call.operands,hr]),ha]
 ·rfl
theorem zn {op:Op}(h:∀ x∈op.operands,ev s' x=ev s x):oG ak s' op=oG ak s op:=by
 cases op<;>simp only[oG]<;>first | exact zm _ h | skip
 case makeSlice t l c=>rw[h l LD,h c LD]
theorem cells?_view {c:CV}(h:∀ o,names o c=true→assoc s'.heap o=assoc s.heap o):cells? s' c=cells? s c:=by
 unfold cells?;split<;>first | rfl | skip
 rename_i o off n;rw[h o (by simp[names])]
theorem Bg {c:CV}(h:∀ o,names o c=true→assoc s'.heap o=assoc s.heap o):wR s' c=wR s c:=by
 unfold wR;split<;>first | rfl | skip
 rename_i o off n;rw[h o (by simp[names])]
theorem iQ {o:Oper}(hd:a9 C.nt o.dst=true)(h:aB C σ s a w){c:CV}{v:Value}(hv:VR w (FB C σ s.heap) σ c v):aB C σ (s.put o.dst c) (a.put o.dst v) w:=
 h.put (fun t e=>by rw[h.tm];rw[e] at hd;simpa [a9] using hd) hv
theorem fF {s:St}{H:List (Nat×Ob)}{n k:Nat}{d:Option Tmp}{r:Option CV}{w:List (Nat×Option Ob)}(hH:∀ p,assoc H p=jc (assoc s.heap) w p)(hn:n=s.nx+k):fs (nX ⟨s.env,H,n⟩ d r)=ap d ⟨r,w,k⟩ (fs s):=by
 unfold fs ap;congr 1
 ·funext t;exact r7 t
 ·funext p;rw[l6.1];exact hH p
 ·rw[l6.2];exact hn
def Cx.jF (C:Cx)(w:World)(σ:Nat→Option OB)(H rest:List (Nat×Ob))(nt:Nat)(hF:ES w (FB C σ rest) (fun b=>∃ o ob,assoc H o=some ob∧aH σ o=some b))(n:Nat):Cx:=
 ⟨w,FB C σ rest,fun b=>∃ o ob,assoc H o=some ob∧aH σ o=some b,hF,nt,σ,n⟩
structure mP (H rest G:List (Nat×Ob)):Prop where
 l:∀ o ob,assoc H o=some ob→assoc G o=some ob
 r:∀ o ob,assoc rest o=some ob→assoc G o=some ob
 lr:∀ o ob,assoc G o=some ob→assoc H o=some ob∨assoc rest o=some ob
 d:∀ o ob J1,assoc H o=some ob→assoc rest o=some J1→False
theorem lM {H rest G:List (Nat×Ob)}(hp:mP H rest G){b:Nat}:FB C σ G b↔FB C σ rest b∨∃ o ob,assoc H o=some ob∧aH σ o=some b:=by
 constructor
 ·rintro (h | ⟨o,ob,ho,hb⟩)
  ·exact .inl (.inl h)
  ·rcases hp.lr o ob ho with h | h
   ·exact .inr ⟨o,ob,h,hb⟩
   ·exact .inl (.inr ⟨o,ob,h,hb⟩)
 ·rintro ((h | ⟨o,ob,ho,hb⟩) | ⟨o,ob,ho,hb⟩)
  ·exact .inl h
  ·exact .inr ⟨o,ob,hp.r o ob ho,hb⟩
  ·exact .inr ⟨o,ob,hp.l o ob ho,hb⟩
theorem aB.jF (h:aB C σ s a w){H rest:List (Nat×Ob)}(hp:mP H rest s.heap)(hF:ES w (FB C σ rest) (fun b=>∃ o ob,assoc H o=some ob∧aH σ o=some b))(nt:Nat){args:List CV}{vs:List Value}(hv:aG w (FB C σ s.heap) σ args vs)(ha:args.length≤nt) :
  aB (C.jF w σ H rest nt hF s.nx) σ ⟨(enter args).env,H,s.nx⟩ { tmps:=vs.toArray++Array.replicate (nt-vs.toArray.size) undef,defers:=[] } w:=by
 have hl:=aG.length _ _ hv;have Ot:∀ b,FB (C.jF w σ H rest nt hF s.nx) σ H b→FB C σ s.heap b:=fun b hb=>by
  rw[lM hp];exact hb
 refine⟨rfl,by simp[Cx.jF];omega,rfl,rfl,rfl,Nat.le_refl _,fun _ _ _=>rfl,?_,?_,fun o o' ob J1 b h1 h2=>h.inj o o' ob J1 b (hp.l _ _ h1) (hp.l _ _ h2),h.nx,fun _ _=>rfl,Nat.le_refl _,fun o B b ho hB _=>(by rw[h.nx o ho] at hB;cases hB)⟩
 ·intro t c hc;obtain⟨_,h2⟩:=eW args 0 t c hc;obtain⟨v,h3,h4⟩:=aG.get _ _ hv t c (by simpa using h2);refine⟨v,?_,VR.a7 (b9.same Ot) _ _ (fun _ _=>rfl) h4⟩;have JS:=(List.getElem?_eq_some_iff.1 h3).1;simp only;rw[Array.getElem?_append_left (by simpa using JS)]
  simpa using h3
 ·intro o ob ho;obtain⟨B,m1,m2,m3,m4,m5⟩:=h.obj o ob (hp.l o ob ho);refine⟨B,m1,m2,m3,m4,fun b hb=>?_⟩;obtain⟨cur,n1,n2,n3,n4,n5,n6⟩:=m5 b hb;refine⟨cur,n1,n2,?_,.inl ⟨o,ob,ho,by simp[aH,m1,hb]⟩,n5,aG.a7 (b9.same Ot) _ _ (fun _ _=>rfl) n6⟩;rintro (hf | ⟨o',J1,Kk,J5⟩)
  ·exact n3 hf
  ·have:o'=o:=h.inj o' o J1 ob b (hp.r _ _ Kk) (hp.l _ _ ho) J5 (by simp[aH,m1,hb]);subst this;exact hp.d _ _ _ ho Kk
theorem aB.backF (h:aB C σ s a w){H rest:List (Nat×Ob)}(hp:mP H rest s.heap){hF:ES w (FB C σ rest) (fun b=>∃ o ob,assoc H o=some ob∧aH σ o=some b)}{nt:Nat}{σ':Nat→Option OB}{s1:St}{a':Act}{w':World}(h':aB (C.jF w σ H rest nt hF s.nx) σ' s1 a' w')(hd:∀ o ob J1,assoc s1.heap o=some ob→assoc rest o=some J1→False) :
  aB C σ' ⟨s.env,s1.heap++rest,s1.nx⟩ a w'∧∀ c v,VR w' (FB (C.jF w σ H rest nt hF s.nx) σ' s1.heap) σ' c v→VR w' (FB C σ' (s1.heap++rest)) σ' c v:=by
 have J7:∀ b,b<w.heap.size→(¬ ∃ o ob,assoc H o=some ob∧aH σ o=some b)→w'.heap[b]? = w.heap[b]?:=fun b hb hn=>h'.frame b hb hn;have JS:∀ {o ob},assoc s.heap o=some ob→o<s.nx:=fun {o ob} ho=>by
  refine Nat.lt_of_not_le fun hle=>?_;obtain⟨B,e1,_⟩:=h.obj o ob ho;rw[h.nx o hle] at e1;cases e1
 have Lw:∀ {o},o<s.nx→σ' o=σ o:=fun {o} ho=>h'.fM o ho;have LU:∀ o ob b,assoc s1.heap o=some ob→aH σ' o=some b→(∃ o ob,assoc H o=some ob∧aH σ o=some b)∨w.heap.size≤b:=fun o ob b ho hb=>by
  obtain⟨B,m1,_,_,_,m5⟩:=h'.obj o ob ho;obtain⟨cur,_,_,_,n4,_⟩:=m5 b Qi;exact n4
 have Ve:∀ o ob b,assoc s1.heap o=some ob→aH σ' o=some b→¬ FB C σ rest b:=fun o ob b ho hb=>by
  obtain⟨B,m1,_,_,_,m5⟩:=h'.obj o ob ho;obtain⟨cur,_,_,n3,_⟩:=m5 b Qi;exact n3
 have MV:∀ {o ob b},assoc rest o=some ob→(aH σ' o=some b↔aH σ o=some b):=fun {o ob b} ho=>by
  unfold aH;rw[Lw (JS (hp.r _ _ ho))]
 have Wp:∀ b,FB C σ' (s1.heap++rest) b↔FB (C.jF w σ H rest nt hF s.nx) σ' s1.heap b:=fun b=>by
  constructor
  ·rintro (hb | ⟨o,ob,ho,hb⟩)
   ·exact .inl (.inl hb)
   ·rw[fI] at ho;split at ho
    ·rename_i y hy;cases ho;exact .inr ⟨o,_,hy,hb⟩
    ·exact .inl (.inr ⟨o,ob,ho,(MV ho).1 hb⟩)
  ·rintro ((hb | ⟨o,ob,ho,hb⟩) | ⟨o,ob,ho,hb⟩)
   ·exact .inl hb
   ·refine .inr ⟨o,ob,?_,(MV ho).2 hb⟩;rw[fI];split
    ·rename_i y hy;exact (hd _ _ _ hy ho).elim
    ·exact ho
   ·exact .inr ⟨o,ob,by rw[fI,ho],hb⟩
 have Xk:b9 w w' (FB C σ s.heap) (FB C σ' (s1.heap++rest)):=by
  have Kw:∀ b,¬ FB C σ s.heap b→¬ ∃ o ob,assoc H o=some ob∧aH σ o=some b:=fun b hf hx=>hf ((lM hp).2 (.inr hx));have XC:∀ b,b<w.heap.size→¬ FB C σ s.heap b→¬ FB C σ' (s1.heap++rest) b:=fun b hb hf hx=>by
   rw[Wp] at hx;rcases hx with hx | ⟨o,ob,ho,Mq⟩
   ·exact hf ((lM hp).2 (.inl hx))
   ·rcases LU o ob b ho Mq with h1 | h1
    ·exact Kw b hf h1
    ·omega
  refine⟨fun ad u hf hu=>?_,fun r _ hf hu _=>?_⟩
  ·have hl:=World.block_lt_of_cell? w ad hu;exact⟨by rw[World.cell?_of_block (w:=w) (J7 ad.block hl (Kw _ hf))];exact hu,XC _ hl hf⟩
  ·have hl:=(Array.getElem?_eq_some_iff.1 hu).1;exact⟨by rw[J7 r hl (Kw _ hf)];exact hu,XC _ hl hf⟩
 have OO:∀ b,(∃ o ob,assoc H o=some ob∧aH σ o=some b)→C.own b∨C.w0.heap.size≤b:=fun b ⟨o,ob,ho,hb⟩=>by
  obtain⟨B,m1,_,_,_,m5⟩:=h.obj o ob (hp.l _ _ ho);obtain⟨cur,_,_,_,n4,_⟩:=m5 b Qi;exact n4
 refine⟨⟨h.me,h.tm,h'.os.trans h.os,h'.tape.trans h.tape,h'.output.trans h.output,Nat.le_trans h.size h'.size,?_,?_,?_,?_,h'.nx,fun o ho=>(h'.fM o (Nat.lt_of_lt_of_le ho h.low)).trans (h.fM o ho),Nat.le_trans h.low h'.low,fun o B b ho hB hb=>?_⟩,fun c v hv=>VR.a7 (b9.same fun b hb=>(Wp b).1 hb) _ _ (fun _ _=>rfl) hv⟩
 ·intro b hb Kw;rw[J7 b (Nat.lt_of_lt_of_le hb h.size) fun hx=>?_]
  ·exact h.frame b hb Kw
  ·rcases OO b hx with h1 | h1
   ·exact Kw h1
   ·omega
 ·intro t c hc;obtain⟨v,k1,k2⟩:=h.env t c hc;refine⟨v,k1,VR.a7 Xk _ _ (fun o ho=>?_) k2⟩;refine h'.fM o (Nat.lt_of_not_le fun hle=>?_);obtain⟨B,hB⟩:=VR.refs _ _ o k2 ho;rw[h.nx o hle] at hB;cases hB
 ·intro o ob ho;rw[fI] at ho;split at ho
  ·rename_i y hy;cases ho;obtain⟨B,m1,m2,m3,m4,m5⟩:=h'.obj o _ hy;refine⟨B,m1,m2,m3,m4,fun b hb=>?_⟩;obtain⟨cur,n1,n2,n3,n4,n5,n6⟩:=m5 b hb;refine⟨cur,n1,n2,fun hf=>n3 (.inl hf),?_,n5,aG.a7 (b9.same fun b hb=>(Wp b).1 hb) _ _ (fun _ _=>rfl) n6⟩;rcases n4 with n4 | n4
   ·exact OO b n4
   ·exact .inr (Nat.le_trans h.size n4)
  ·have hs:=hp.r _ _ ho;obtain⟨B,m1,m2,m3,m4,m5⟩:=h.obj o ob hs;refine⟨B,by rw[Lw (JS hs)];exact m1,m2,m3,m4,fun b hb=>?_⟩;obtain⟨cur,n1,n2,n3,n4,n5,n6⟩:=m5 b hb;have ML:=(Array.getElem?_eq_some_iff.1 n1).1;have Kw:¬ ∃ o' J1,assoc H o'=some J1∧aH σ o'=some b:=by
    rintro⟨o',J1,Kk,J5⟩;have:o'=o:=h.inj o' o J1 ob b (hp.l _ _ Kk) hs J5 (by simp[aH,m1,hb]);subst this;exact hp.d _ _ _ Kk ho
   refine⟨cur,by rw[J7 b ML Kw];exact n1,n2,n3,n4,n5,aG.a7 Xk _ _ (fun p NZ=>?_) n6⟩;refine h'.fM p (Nat.lt_of_not_le fun hle=>?_);obtain⟨B2,Kl⟩:=aG.refs _ _ p n6 NZ;rw[h.nx p hle] at Kl;cases Kl
 ·intro o o' ob J1 b ho Kk hb J5;rw[fI] at ho Kk;have cross:∀ {p q x y},assoc s1.heap p=some x→aH σ' p=some b→assoc rest q=some y→aH σ' q=some b→False:=fun {p q x y} h1 h2 h3 h4=>
   Ve p x b h1 h2 (.inr ⟨q,y,h3,(MV h3).1 h4⟩)
  cases c1:assoc s1.heap o with
  | some y=>
   cases c2:assoc s1.heap o' with
   | some y'=>exact h'.inj o o' y y' b c1 c2 hb J5
   | none=>
    rw[c2] at Kk;exact (cross c1 hb Kk J5).elim
  | none=>
   rw[c1] at ho
   cases c2:assoc s1.heap o' with
   | some y'=>exact (cross c2 J5 ho hb).elim
   | none=>
    rw[c2] at Kk;exact h.inj o o' ob J1 b (hp.r _ _ ho) (hp.r _ _ Kk) ((MV ho).1 hb) ((MV Kk).1 J5)
 ·rcases Nat.lt_or_ge o s.nx with hl | Mm
  ·rw[Lw hl] at hB;exact h.new o B b ho hB hb
  ·rcases h'.new o B b Mm hB hb with n4 | n4
   ·exact OO b n4
   ·exact .inr (Nat.le_trans h.size n4)
theorem qA (Mb:ay P ak){o:Oper}{g:FuncId}{cs:List CV}{R:CV→St→Prop}{H rest:List (Nat×Ob)}(hp:mP H rest s.heap)(he:uq P C s o g cs)(hb:Body P ak g cs H s.nx R)(hR:∀ r s1,R r s1→∀ o ob J1,assoc s1.heap o=some ob→assoc rest o=some J1→False)(h:aB C σ s a w)(K:Act→World→Prop)(Q:Exit→Act→World→Prop)
  (hK:∀ r s1 v w' σ',R r s1→aB C σ' ⟨s.env,s1.heap++rest,s1.nx⟩ a w'→VR w' (FB C σ' (s1.heap++rest)) σ' r v→(∀ p,p<s.nx→σ' p=σ p)→K (a.put o.dst v) w'):o.wp P a w K Q:=by
 obtain⟨fn,code,hf,Lo,hn,hlen,hT⟩:=hb;obtain⟨vs,Ps,Kg⟩:=he σ a w h;have hF:ES w (FB C σ rest) (fun b=>∃ o ob,assoc H o=some ob∧aH σ o=some b):=⟨fun b hb=>Az h b ((lM hp).2 (.inl hb)),h.gok.mono fun b hb=>(lM hp).2 hb⟩;have h0:=h.jF hp hF fn.ntmps Kg hlen;have Ny:Calls P g vs.toArray w fun e w'=>∃ v r s',e=.returned v∧R r s'∧∃ σ',aB C σ' ⟨s.env,s'.heap++rest,s'.nx⟩ a w'∧VR w' (FB C σ' (s'.heap++rest)) σ' r v∧(∀ p,p<s.nx→σ' p=σ p):=by
  refine calls_of_wp hf Lo (wp_mono (hT (C.jF w σ H rest fn.ntmps hF s.nx) rfl rfl _ _ ⟨_,h0⟩) fun e a' w' ⟨s1,q,σ1,KF⟩=>?_);have fin:aa (C.jF w σ H rest fn.ntmps hF s.nx) (fun s'=>∃ r,bf ak fn s'=some r∧R r s') s1→a'.defers=[]∧∃ v,(results fn a'.tmps).run P w'=.ok v w'∧(∃ NC r s',Ending.returned v=.returned NC∧R r s'∧∃ σ',aB C σ' ⟨s.env,s'.heap++rest,s'.nx⟩ a w'∧VR w' (FB C σ' (s'.heap++rest)) σ' r NC∧(∀ p,p<s.nx→σ' p=σ p)):=fun⟨s2,⟨r,q1,q2⟩,hl⟩=>by
   obtain⟨σ2,Kh⟩:=hl _ _ ⟨σ1,KF⟩;obtain⟨v,k1,k2⟩:=gW (P:=P) Mb Kh q1;obtain⟨b1,b2⟩:=h.backF hp Kh (hR r s2 q2);exact⟨Kh.me,v,k1,v,r,s2,rfl,q2,σ2,b1,b2 _ _ k2,Kh.fM⟩
  cases e with
  | normal=>exact fin q
  | ret=>exact fin q
  | exit _=>exact q.elim
  | goto _=>exact q.elim
  | panic _=>exact q.elim
  | outgrown=>exact q.elim
 unfold Oper.wp;rw[Ps];refine Ny.mono fun e w' ⟨v,r,s',he,hR,σ',Ku,hv,ho⟩=>?_;subst he;exact hK r s' v w' σ' hR Ku hv ho
theorem FW (ht:ay P ak)(NL:gM P mt)(JY:fv P ak call)(kp:sP P pc){i m:Nat}{o:Oper}{E:Ef}{rs:List Nat}{nb:Bool}{ab:Option (Nat×Nat)}{lo up:Nat}(h:rO ak mt ops call pc lo up m s o=some (E,rs,nb,ab))(hd:a9 C.nt o.dst=true)(hi:ops[i]? = some o)
  (LA:dp ⟨o.looksAt ops,rs,nb,ab⟩ (fs s') (fs s)) (hr:aB C σ s' a w) (hm:σ m=none) (Mu:C.n0≤m) (Ls:m<s'.nx) {Q':Exit→Act→World→Prop} (K:Act→World→Prop)
  (hK:∀ a' w' σ' LF,fs LF=ap o.dst E (fs s')→aB C σ' LF a' w'→(∀ p,p≠m→p<s'.nx→σ' p=σ p)→K a' w'):wpOp P ops Q' i K a w:=by
 have LP:∀ t∈o.looksAt ops,assoc s'.env t=assoc s.env t:=LA.1;have LU:∀ p∈rs,assoc s'.heap p=assoc s.heap p:=LA.2.1;have LY:=vd LP;have LX:=nc (ops:=ops) LP;have Kj:∀ t,o.dst=some t→t<a.tmps.size:=fun t e=>by rw[hr.tm];rw[e] at hd;simpa [a9] using hd
 unfold rO at h;unfold wpOp;simp only[hi];split at h
 ·cases h
 ·rename_i hg;cases h;rw[hg] at LX;have hw:Region.wanted o (yielded ops a.tmps)=false:=by
   unfold bM at LX;split at LX
   ·cases LX
   ·rename_i j want e;split at LX
    ·cases LX
    rename_i t hj;exact jU ⟨σ,hr⟩ e hj LX
  rw[if_neg (by simp[hw])];exact hK _ _ σ (s'.put o.dst (.db [])) (lH _ _ _) (hr.put Kj (by simp only[VR,aG];exact⟨[],rfl,rfl⟩)) fun _ _ _=>rfl
 ·rename_i hg;rw[hg] at LX;have hw:=dR (ops:=ops) ⟨σ,hr⟩ LX;rw[if_pos hw];refine .inl ?_;split at h
  ·rename_i c hu;have J2:=fB hu;split at h
   ·rename_i g cs hc;have La:gG mt s' c=some (g,cs):=by
     rw[pW (fun x hx=>LY x (by rw[J2];exact hx)),hc]
    split at h
    ·rename_i r hp;cases h;split at hp
     ·rename_i Lr;have hP:=kp g cs _ hp;exact zG (uq.to NL J2 La hP.1) Lr hP hr _ _ fun v w' Ku hv=>hK _ _ σ (s'.put o.dst _) (lH _ _ _) (iQ hd Ku hv) fun _ _ _=>rfl
     ·cases hp
    ·split at h
     ·rename_i x H n hx;split at h
      ·rename_i hn;cases h;obtain⟨hn,Ko⟩:=hn;have hB:=JY _ _ _ _ _ _ _ hx;have hE:jR P g:=by
        obtain⟨fn,c,h1,h2,h3,_⟩:=hB;exact⟨fn,h1,h3,by simp[h2]⟩
       have P7:s'.nx=s.nx:=LA.2.2.1 rfl;have Wj:∀ p,BU lo up (dI cs) p=true→assoc s'.heap p=assoc s.heap p:=fun p hp=>by
        simp only[BU,Bool.or_eq_true,decide_eq_true_eq,List.contains_eq_mem] at hp;rcases hp with (hp | hp) | hp
        ·exact LA.2.2.2 _ rfl p (.inl hp)
        ·exact LA.2.2.2 _ rfl p (.inr hp)
        ·exact LU p hp
       have KV:∀ p,assoc (oX lo up (dI cs) s.heap) p=if BU lo up (dI cs) p then assoc s'.heap p else none:=fun p=>by
        rw[kJ];split
        ·rename_i hp;rw[Wj p hp]
        ·rfl
       have QB:mP (oX lo up (dI cs) s.heap) (yY lo up (dI cs) s'.heap) s'.heap:=by
        refine⟨fun p y hp=>?_,fun p y hp=>?_,fun p y hp=>?_,fun p y z hp hq=>?_⟩
        ·rw[KV] at hp;split at hp
         ·exact hp
         ·cases hp
        ·rw[eM] at hp;split at hp
         ·cases hp
         ·exact hp
        ·rw[KV,eM];split
         ·exact .inl hp
         ·exact .inr hp
        ·rw[KV] at hp;rw[eM] at hq;split at hp
         ·rename_i Om;rw[if_pos Om] at hq;cases hq
         ·cases hp
       have Ml:∀ p y,assoc H p=some y→BU lo up (dI cs) p=true:=fun p y hp=>by
        have:=List.all_eq_true.1 Ko _ (br _ _ _ hp);exact this
       rw[← P7] at hB;refine qA ht QB (uq.to NL J2 La hE) hB (fun r s1 hR p y z hp hq=>?_) hr _ _ fun r s1 v w' σ' hR Ku hv hold=>?_
       ·obtain⟨_,e1,_⟩:=hR;rw[e1] at hp;rw[eM,if_pos (Ml p y hp)] at hq;cases hq
       ·obtain⟨rfl,e1,e2⟩:=hR;refine hK _ _ σ' (nX ⟨s'.env,s1.heap++yY lo up (dI cs) s'.heap,s1.nx⟩ o.dst (some r)) ?_ (iQ hd Ku hv) fun p _ JS=>hold p JS;refine fF (s:=s') (fun p=>?_) (by rw[e2,P7];omega);rw[e1,fI,eM];have Qd:=DZ (oX lo up (dI cs) s.heap) H p;unfold jc at Qd ⊢;by_cases Om:BU lo up (dI cs) p=true
        ·rw[if_pos Om]
         cases Lb:assoc (pV (oX lo up (dI cs) s.heap) H) p with
         | some y=>
          rw[Lb] at Qd;simp only at Qd ⊢;rw[Qd];cases assoc H p<;>rfl
         | none=>
          rw[Lb] at Qd;simp only at Qd ⊢;rw[KV,if_pos Om] at Qd;rw[Qd];cases assoc H p<;>rfl
        ·rw[if_neg Om];have hH:assoc H p=none:=by
          cases Lb:assoc H p with
          | none=>rfl
          | some y=>exact absurd (Ml p y Lb) Om
         rw[hH];simp only
         cases Lb:assoc (pV (oX lo up (dI cs) s.heap) H) p with
         | none=>rfl
         | some y=>
          exfalso;have hS:assoc (oX lo up (dI cs) s.heap) p=none:=by rw[KV,if_neg Om]
          exact zc hS hH Lb
      ·cases h
     ·cases h
   ·cases h
  ·split at h
   ·rename_i c hq;cases h;have Mc:eE ak s' o.op=some c:=by
     by_cases hl:(∃ t x,o.op=.load t x)∨∃ t x lo hi mx,o.op=.slice t x lo hi mx
     ·refine AX (s:=s) (fun x hx=>(LY x hx).symm) hq fun x hx v hv p ob hn hp=>?_;rw[LU p ?_]
      ·exact hp
      ·rcases hl with ⟨t,y,e⟩ | ⟨t,y,lo,Om,mx,e⟩
       ·have:CM s o.op=Fe s o.op:=by rw[e];rfl
        rw[this];exact zX hx hv hn
       ·have:CM s o.op=Fe s o.op:=by rw[e];rfl
        rw[this];exact zX hx hv hn
     ·rw[← pN (s:=s) o.op (fun x hx=>(LY x hx).symm) (fun t x e=>hl (.inl ⟨t,x,e⟩)) (fun t x lo hi mx e=>hl (.inr ⟨t,x,lo,hi,mx,e⟩))];exact hq
    obtain⟨z,k1,k2⟩:=uP ht hr o Mc;unfold Oper.wp;rw[k1];exact hK _ _ σ (s'.put o.dst c) (lH _ _ _) (iQ hd hr k2) fun _ _ _=>rfl
   ·split at h
    ·rename_i c X9 hv;cases h;unfold Ai at hv;split at hv
     ·rename_i t u x J2;split at hv
      ·rename_i c' hc;cases hv;have hx:ev s' x=ev s x:=LY x (by rw[J2];simp[Op.operands]);have Lb:oE ak s' t u x=some c:=by
        rw[← hc];unfold oE;rw[hx]
        cases R0:ev s x with
        | none=>rfl
        | some v=>
         have:cells? s' v=cells? s v:=cells?_view fun p hp=>LU p (by simp only[R0];exact qq hp)
         cases cY ak t with
         | none=>cases v<;>rfl
         | some d=>
          cases cY ak u with
          | none=>cases v<;>cases d<;>rfl
          | some d'=>cases v<;>cases d<;>cases d'<;>first | rfl | simp only[this]
       obtain⟨z,k1,k2⟩:=xV ht hr Lb;have k3:(execOp a.eval o).run P w=.ok (.value z) w:=by
        simp[execOp,J2,k1]
       unfold Oper.wp;rw[k3];exact hK _ _ σ (s'.put o.dst c) (lH _ _ _) (iQ hd hr k2) fun _ _ _=>rfl
      ·cases hv
     ·cases hv
    split at h
    ·rename_i ob f hv;cases h;have NW:oG ak s' o.op=some (ob,f):=by rw[zn LY,hv]
     obtain⟨z,w',B,k1,k2⟩:=Bk ht hr hm Mu Ls Kj NW;unfold Oper.wp;rw[k1];refine hK _ _ _ _ ?_ k2 fun p hp _=>by simp[sig,hp]
     exact fF (s:=s') (k:=0) (d:=o.dst) (r:=some (f m)) (fun p=>by simp only[assoc,jc];by_cases e:m=p<;>simp[e]) rfl
    ·split at h
     ·rename_i t x v J2;split at h
      ·rename_i p ob hc;cases h;have hx:ev s' x=ev s x:=LY x (by rw[J2];simp[Op.operands]);have hv:ev s' v=ev s v:=LY v (by rw[J2];simp[Op.operands]);unfold Im at hc;split at hc
       ·rename_i p' off c i' h1 h2 h3;split at hc
        ·cases hc
        ·rename_i J1 Lj;split at hc
         ·cases hc
         ·rename_i Ma;split at hc
          ·rename_i hlen;cases hc;have Sp:assoc s'.heap p=some J1:=by rw[LU p JM];exact Lj
           have Ke:py ak s' t x v=some { s' with heap:=pH s'.heap p { J1 with cells:=fL J1.cells off c.cells } }:=by
            unfold py;rw[hx,hv,h1,h2,h3];simp only[Sp];rw[if_neg Ma,if_pos hlen]
           obtain⟨w',k1,k2,_⟩:=uc ht hr J2 Ke;unfold Oper.wp;rw[k1];refine hK _ _ σ _ ?_ (k2.del undef) fun _ _ _=>rfl;refine fF (s:=s') (k:=0) (d:=o.dst) (r:=none) (fun q=>?_) rfl;rw[eg];simp only[jc,assoc];by_cases e:p=q
           ·rw[if_pos e,if_pos e,← e,Sp];rfl
           ·rw[if_neg e,if_neg e]
          ·cases hc
       ·cases hc
      ·cases h
     ·rename_i cl J2;split at h
      ·rename_i x y t t' MA ha KU;split at h
       ·rename_i e;subst e;split at h
        ·rename_i p q hp hq;split at h
         ·rename_i ob k rm hc;cases h;have Ql:∀ {α:Type} {x:Array α} {l:List α},x.toList=l→x=l.toArray:=fun {α x l} e=>by rw[← e]
          have JU:=Ql ha;have hx:ev s' x=some p:=by rw[LY x (by rw[J2];simp[Op.operands,Call.operands,JU])];exact hp
          have hy:ev s' y=some q:=by rw[LY y (by rw[J2];simp[Op.operands,Call.operands,JU])];exact hq
          have hn:s'.nx=s.nx:=LA.2.2.1 rfl;have Zn:oJ ak t p (wR s' p) (cells? s' q)=some (ob,k,rm):=by
           rw[Bg (fun o' Kk=>LU o' (List.mem_append_left _ (qq Kk))),cells?_view (fun o' Kk=>LU o' (List.mem_append_right _ (qq Kk)))];exact hc
          have Wg:=zo (d:=o.dst) hx hy Zn;obtain⟨z,w',B,k1,k2⟩:=rX ht hr Kj J2 MA JU (Ql KU) Wg;unfold Oper.wp;rw[k1];refine hK _ _ _ _ ?_ k2 fun p hp JS=>by simp[sig,Nat.ne_of_lt JS]
          have YI:fs (nX ⟨s'.env,(s'.nx,ob)::FY s'.heap rm,s'.nx+1⟩ o.dst (some (.bw s'.nx 0 k)))=ap o.dst ⟨some (.bw s'.nx 0 k),(s'.nx,some ob)::rmL rm,1⟩ (fs s'):=by
           refine fF (s:=s') (k:=1) (fun r=>?_) rfl;simp only[assoc,jc];by_cases e:s'.nx=r
           ·rw[if_pos e,if_pos e]
           ·rw[if_neg e,if_neg e]
            cases rm with
            | none=>simp only[FY,rmL,assoc]
            | some o2=>
             simp only[FY,rmL,dW,assoc];by_cases e2:o2=r
             ·rw[if_pos e2,if_pos e2]
             ·rw[if_neg e2,if_neg e2]
          rw[← hn];exact YI
         ·cases h
        ·cases h
       ·cases h
      ·cases h
     ·cases h
end
abbrev Er:=Ef×List Nat×Bool×Option (Nat×Nat)
instance : Inhabited Er := ⟨(⟨none, [], 0⟩, [], false, none)⟩
def gU (o:Oper):Bool:=match o.op with
 | .alloc _=>true
 | .box _ _=>true
 | .buildSlice _ _ _=>true
 | .makeSlice _ _ _=>true
 | .store _ _ _=>true
 | .call c=>match c.callee with
  | .builtin .append=>true
  | .builtin _=>false
  | _=>true
 | _=>false
def mJ (o:Oper):Bool:=!gU o && match o.op with
 | .load _ _=>false
 | .slice _ _ _ _ _=>false
 | .convert _ _ _=>false
 | _=>true
def CU (ops:Array Oper):List Nat→List Nat→Bool
 | _,[]=>true
 | pre,i::r=>(match ops[i]? with
   | some o=>o.after.all fun e=>!Region.binds .any e || pre.contains e.on
   | none=>false) && CU ops (i::pre) r
def tw (ops:Array Oper)(dyn:List (Nat×Nat))(i j:Nat):Bool:=match ops[i]?,ops[j]? with
 | some oi,some oj=>oi.apart ops oj && (dyn.contains (i,j) || (!gU oi && !gU oj) || mJ oi || mJ oj)
 | _,_=>false
def Di (ms:List (Nat×Nat)):List Edge→Nat→Nat
 | [],m=>m
 | e::l,m=>Di ms l (if Region.binds .any e=true then m ||| (1 <<< e.on) ||| (assoc ms e.on).getD 0 else m)
def Dh (ops:Array Oper)(ms:List (Nat×Nat))(j:Nat):Nat:=match ops[j]? with
 | some o=>Di ms o.after.toList 0
 | none=>0
def wM (ops:Array Oper)(dyn:List (Nat×Nat))(b:Bool):List Nat→List (Nat×Nat)→List Nat→Bool
 | _,_,[]=>true
 | acc,ms,j::r=>let m:=Dh ops ms j
  (acc.all fun i=>m.testBit i || ((!b || ((ops[i]?).bind bR).isNone) && tw ops dyn i j)) && wM ops dyn b (j::acc) ((j,m)::ms) r
def qG (ops:Array Oper)(b:Bool)(ord:List Nat)(dyn:List (Nat×Nat)):Bool:=
 decide ord.Nodup && ((List.range ops.size).all fun j=>ord.contains j) && (ord.all fun i=>decide (i<ops.size)) && CU ops [] ord && wM ops dyn b [] [] ord
def yK (w:List (Nat×Option Ob)):Option (Nat×Nat)→Bool
 | none=>true
 | some r=>w.all fun p=>decide (r.1≤p.1) && decide (p.1<r.2)
theorem lX (w:List (Nat×Option Ob)):yK w none=true:=rfl
theorem qU (r:Option (Nat×Nat)):yK [] r=true:=by cases r<;>rfl
def rF (x y:Er):Bool:=
 (x.1.w.all fun p=>!y.2.1.contains p.1 && (y.1.w.all fun q=>q.1 != p.1)) && (y.1.w.all fun q=>!x.2.1.contains q.1) && (!y.2.2.1 || x.1.k == 0) && (!x.2.2.1 || y.1.k == 0) && yK x.1.w y.2.2.2 && yK y.1.w x.2.2.2
section
variable {P:Program}{C:Cx}{s s':St}{ops:Array Oper}{ak:List (Nat×TI)}{mt:gh}{pc:FuncId→List CV→Option CV}{call:eP}
theorem AY {lo hi m:Nat}{o:Oper}{x:Er}(h:rO ak mt ops call pc lo hi m s o=some x)(hl:gU o=false):x.1.w=[]∧x.1.k=0∧x.2.2.1=false∧x.2.2.2=none:=by
 unfold rO at h;split at h
 ·cases h
 ·cases h;exact⟨rfl,rfl,rfl,rfl⟩
 ·split at h
  ·rename_i c hu;have J2:=fB hu;exfalso;unfold bR at hu;rw[J2] at hu;simp only at hu;simp only[gU,J2] at hl;cases JY:c.callee<;>rw[JY] at hu hl<;>simp at hu hl
  ·split at h
   ·cases h;exact⟨rfl,rfl,rfl,rfl⟩
   ·split at h
    ·cases h;exact⟨rfl,rfl,rfl,rfl⟩
    split at h
    ·rename_i ob f hv;exfalso;revert hl hv;cases J2:o.op<;>simp[gU,J2,oG,xY]
    ·split at h
     ·rename_i J2;simp[gU,J2] at hl
     ·rename_i cl J2;split at h
      ·rename_i JY _ _;simp[gU,J2,JY] at hl
      ·cases h
     ·cases h
theorem Cz {lo hi m:Nat}{o:Oper}{x:Er}(h:rO ak mt ops call pc lo hi m s o=some x)(hl:mJ o=true):x.2.1=[]:=by
 simp only[mJ,Bool.and_eq_true,Bool.not_eq_true'] at hl;obtain⟨hl,hs⟩:=hl;unfold rO at h;split at h
 ·cases h
 ·cases h;rfl
 ·split at h
  ·rename_i c hu;have J2:=fB hu;exfalso;unfold bR at hu;rw[J2] at hu;simp only at hu;simp only[gU,J2] at hl;cases JY:c.callee<;>rw[JY] at hu hl<;>simp at hu hl
  ·split at h
   ·cases h;simp only;unfold CM;split
    ·rename_i J2;simp[J2] at hs
    ·rename_i J2;simp[J2] at hs
    ·rfl
   ·split at h
    ·rename_i c' X9 hv;exfalso;unfold Ai at hv;split at hv
     ·rename_i J2;simp[J2] at hs
     ·cases hv
    split at h
    ·cases h;rfl
    ·split at h
     ·rename_i J2;simp[gU,J2] at hl
     ·rename_i cl J2;split at h
      ·rename_i JY _ _;simp[gU,J2,JY] at hl
      ·cases h
     ·cases h
theorem H3 {d d':Option Tmp}{V V':List Nat}{x y:Er}(h:rF x y=true)(s1:∀ t,d=some t→t∉V')(s2:∀ t,d'=some t→t∉V)(s3:∀ t,d=some t→d'≠some t):BQ d d' x.1 y.1 ⟨V,x.2.1,x.2.2.1,x.2.2.2⟩ ⟨V',y.2.1,y.2.2.1,y.2.2.2⟩:=by
 simp only[rF,Bool.and_eq_true,List.all_eq_true,Bool.not_eq_true',bne_iff_ne,Bool.or_eq_true,beq_iff_eq] at h;obtain⟨⟨⟨⟨⟨h1,h2⟩,h3⟩,h4⟩,h5⟩,h6⟩:=h;refine⟨s1,s2,s3,fun o z hz ho=>?_,fun o z hz ho=>?_,fun o z hz=>?_,fun hn=>?_,fun hn=>?_,fun rr hn=>?_,fun rr hn=>?_⟩
 ·have:=(h1 _ (br _ _ _ hz)).1;simp at this;exact this ho
 ·have:=h2 _ (br _ _ _ hz);simp at this;exact this ho
 ·have:=(h1 _ (br _ _ _ hz)).2
  cases h7:assoc y.1.w o with
  | none=>rfl
  | some u=>
   have h8:=this _ (br _ _ _ h7);simp at h8
 ·rcases h3 with h3 | h3
  ·have N3:y.2.2.1=true:=hn;rw[N3] at h3;cases h3
  ·exact h3
 ·rcases h4 with h4 | h4
  ·have N3:x.2.2.1=true:=hn;rw[N3] at h4;cases h4
  ·exact h4
 ·have N3:y.2.2.2=Option.some rr:=hn;rw[N3] at h5;simp only[yK,List.all_eq_true,Bool.and_eq_true,decide_eq_true_eq] at h5;exact fun o z hz=>h5 _ (br _ _ _ hz)
 ·have N3:x.2.2.2=Option.some rr:=hn;rw[N3] at h6;simp only[yK,List.all_eq_true,Bool.and_eq_true,decide_eq_true_eq] at h6;exact fun o z hz=>h6 _ (br _ _ _ hz)
theorem tz:∀ (l acc:List Nat),CU ops acc l=true→∀ pre i post,l=pre++i::post→∀ oi,ops[i]? = some oi→∀ e∈oi.after,Region.binds .any e=true→e.on∈acc∨e.on∈pre
 | [],_,_,pre,i,post,h,_,_,_,_,_=>by simp at h
 | k::r,acc,hx,pre,i,post,h,oi,NH,e,he,hb=>by
  simp only[CU,Bool.and_eq_true] at hx
  cases pre with
  | nil=>
   simp only[List.nil_append,List.cons.injEq] at h;obtain⟨rfl,_⟩:=h;have h1:=hx.1;rw[NH] at h1;simp only[Array.all_eq_true_iff_forall_mem] at h1;have:=h1 e he;simp only[hb,Bool.not_true,Bool.false_or,List.contains_eq_mem,decide_eq_true_eq] at this;exact .inl this
  | cons p pre=>
   simp only[List.cons_append,List.cons.injEq] at h;obtain⟨rfl,h⟩:=h;rcases tz r (k::acc) hx.2 pre i post h oi NH e he hb with h2 | h2
   ·rcases List.mem_cons.1 h2 with e2 | h2
    ·exact .inr (by simp[e2])
    ·exact .inl h2
   ·exact .inr (List.mem_cons_of_mem _ h2)
def G1 (ops:Array Oper)(ms:List (Nat×Nat)):Prop:=∀ j m,assoc ms j=some m→∀ i,m.testBit i=true→yk ops j i
theorem xb {ms:List (Nat×Nat)}{i:Nat}:∀ (l:List Edge) (m:Nat),(Di ms l m).testBit i=true→m.testBit i=true∨∃ e∈l,Region.binds .any e=true∧(i=e.on∨∃ k,assoc ms e.on=some k∧k.testBit i=true)
 | [],m,h=>.inl h
 | e::l,m,h=>by
  rcases xb l _ h with h | ⟨e',he,h⟩
  ·split at h
   ·rename_i hb;simp only[Nat.testBit_or,Bool.or_eq_true,Nat.one_shiftLeft,Nat.testBit_two_pow,decide_eq_true_eq] at h;rcases h with (h | h) | h
    ·exact .inl h
    ·exact .inr ⟨e,List.mem_cons_self,hb,.inl h.symm⟩
    ·cases hk:assoc ms e.on with
     | none=>rw[hk] at h;simp at h
     | some k=>rw[hk] at h;exact .inr ⟨e,List.mem_cons_self,hb,.inr ⟨k,hk,h⟩⟩
   ·exact .inl h
  ·exact .inr ⟨e',List.mem_cons_of_mem _ he,h⟩
theorem xa {ms:List (Nat×Nat)}(h:G1 ops ms){j i:Nat}(hm:(Dh ops ms j).testBit i=true):yk ops j i:=by
 intro listed hc hj;unfold Dh at hm;split at hm
 ·rename_i o ho;rcases xb _ _ hm with h0 | ⟨e,he,hb,h1⟩
  ·simp at h0
  ·have hl:=hj o ho e (by simpa using he) hb;rcases h1 with rfl | ⟨k,hk,hi⟩
   ·exact hl
   ·exact h e.on k hk i hi listed hc fun ok J4 e' Zh J5=>hc e.on ok J4 hl e' Zh J5
 ·simp at hm
theorem rh {dyn:List (Nat×Nat)}{b:Bool}:∀ (l acc:List Nat) (ms:List (Nat×Nat)),G1 ops ms→wM ops dyn b acc ms l=true→∀ pre j post,l=pre++j::post→∀ i,i∈acc∨i∈pre→yk ops j i∨((b=true→(ops[i]?).bind bR=none)∧tw ops dyn i j=true)
 | [],_,_,_,_,pre,j,post,h,_,_=>by simp at h
 | k::r,acc,ms,KL,hx,pre,j,post,h,i,hi=>by
  simp only[wM,Bool.and_eq_true,List.all_eq_true] at hx
  cases pre with
  | nil=>
   simp only[List.nil_append,List.cons.injEq] at h;obtain⟨rfl,rfl⟩:=h;have:=hx.1 i (hi.resolve_right List.not_mem_nil);simp only[Bool.or_eq_true,Bool.and_eq_true,Bool.not_eq_true',Option.isNone_iff_eq_none] at this;rcases this with h1 | ⟨h1,h2⟩
   ·exact .inl (xa KL h1)
   ·exact .inr ⟨fun e=>h1.resolve_left (by rw[e];simp),h2⟩
  | cons p pre=>
   simp only[List.cons_append,List.cons.injEq] at h;obtain⟨rfl,h⟩:=h;refine rh r (k::acc) _ (fun j' m' h' i' Om=>?_) hx.2 pre j post h i ?_
   ·simp only[assoc] at h';split at h'
    ·rename_i e;cases h';subst e;exact xa KL Om
    ·exact KL j' m' h' i' Om
   ·rcases hi with hi | hi
    ·exact .inl (List.mem_cons_of_mem _ hi)
    ·rcases List.mem_cons.1 hi with rfl | hi
     ·exact .inl List.mem_cons_self
     ·exact .inr hi
end
def renV (o q:Nat):CV→CV
 | .bw p off n=>if p=o then .bw q off n else .bw p off n
 | c=>c
def renOk (o q:Nat):CV→Bool
 | .bw p _ _=>p == o || decide (p<q)
 | c=>aZ q c
def renE (o q:Nat):List (Nat×CV)→List (Nat×CV)
 | []=>[]
 | (t,c)::r=>(t,renV o q c)::renE o q r
attribute [simp] renV renOk renE
end Go.Can
namespace Go.Can
section
variable {α:Type}{f:α→List CV}{n:Nat}
theorem aQ (hf:∀ x,(f x).length=n):∀ m:List α,(m.flatMap f).length=m.length*n
 | []=>by simp
 | a::r=>by
  have ih:=aQ hf r;simp only[List.flatMap_cons,List.length_append,hf,ih,List.length_cons,Nat.add_mul];omega
theorem tU (hf:∀ x,(f x).length=n):∀ (m:List α) (i:Nat),(m.flatMap f).take (i*n)=(m.take i).flatMap f
 | [],i=>by simp
 | a::r,0=>by simp
 | a::r,i+1=>by
  have ih:=tU hf r i;simp only[List.take_succ_cons,List.flatMap_cons,← ih];rw[show (i+1)*n=(f a).length+i*n by rw[hf,Nat.add_mul];omega,List.take_length_add_append]
theorem tV (hf:∀ x,(f x).length=n):∀ (m:List α) (i:Nat),(m.flatMap f).drop (i*n)=(m.drop i).flatMap f
 | [],i=>by simp
 | a::r,0=>by simp
 | a::r,i+1=>by
  have ih:=tV hf r i;simp only[List.drop_succ_cons,List.flatMap_cons,← ih];rw[show (i+1)*n=(f a).length+i*n by rw[hf,Nat.add_mul];omega,List.drop_length_add_append]
theorem az (hf:∀ x,(f x).length=n){m:List α}{i:Nat}{e:α}(h:m[i]? = some e):(m.flatMap f).drop (i*n)=f e++(m.drop (i+1)).flatMap f:=by
 rw[tV hf];obtain⟨hi,he⟩:=List.getElem?_eq_some_iff.1 h;rw[List.drop_eq_getElem_cons hi,he,List.flatMap_cons]
theorem DP (hf:∀ x,(f x).length=n){m:List α}{i k:Nat}{e e':α}{c:CV}(h:m[i]? = some e)(hk:k<n)(he:(f e).set k c=f e'):fL (m.flatMap f) (i*n+k) [c]=(m.set i e').flatMap f:=by
 obtain⟨hi,rfl⟩:=List.getElem?_eq_some_iff.1 h;have h1:m=m.take i++m[i]::m.drop (i+1):=by rw[← List.drop_eq_getElem_cons hi,List.take_append_drop]
 have hl:((m.take i).flatMap f).length=i*n:=by
  rw[aQ hf,List.length_take,Nat.min_eq_left yA]
 unfold fL;rw[List.set_eq_take_append_cons_drop,if_pos hi,List.flatMap_append,List.flatMap_cons,← he];have hm:m.flatMap f=(m.take i).flatMap f++(f m[i]++(m.drop (i+1)).flatMap f):=by
  rw[← List.flatMap_cons,← List.flatMap_append,← List.drop_eq_getElem_cons hi,List.take_append_drop]
 rw[hm,← hl,List.take_length_add_append,List.append_assoc,List.append_assoc];congr 1;have J9:k<(f m[i]).length:=by rw[hf];exact hk
 rw[List.set_eq_take_append_cons_drop,if_pos J9];rw[List.take_append_of_le_length yA];simp only[List.length_singleton,List.append_assoc,List.cons_append,List.nil_append];congr 2;rw[Nat.add_assoc,List.drop_length_add_append,List.drop_append_of_le_length yA]
end
open Go.ChangeShapes Go.WideShapes Go.ChangeAt Go.RowKit
section
variable {P:Program}{H:Type}{enc:TypeId×Value→H}{w:World}
theorem y0 {F:Nat→Prop}(hF:∀ b,¬ F b):∀ (cs:List CV) (ad:Addr),cs.all one=true→(∀ i c,cs[i]? = some c→∃ u,w.cell? (ad.add i)=some u∧bK w F c u)→ej w F cs ad
 | [],_,_,_=>by simp[ej]
 | c::cs,ad,h1,h=>by
  simp only[List.all_cons,Bool.and_eq_true] at h1;obtain⟨u,k1,k2⟩:=h 0 c rfl;rw[add_zero] at k1;simp only[ej];refine⟨⟨u,k1,hF _,k2⟩,h1.1,y0 hF cs _ h1.2 fun i d hi=>?_⟩;obtain⟨v,m1,m2⟩:=h (i+1) d (by simpa using hi);refine⟨v,?_,m2⟩;rw[add_add,Nat.add_comm];exact m1
theorem Fs {α:Type}(f:α→CV)(h:∀ x,one (f x)=true)(l:List α):(l.map f).all one=true:=by
 rw[List.all_eq_true];intro x hx;obtain⟨y,_,rfl⟩:=List.mem_map.1 hx;exact h y
theorem x8 {F:Nat→Prop}(cs:List CV)(h:cs=[]):bK w F (.au cs 0) (.slice none 0 0):=by
 subst h;simp only[bK];exact⟨none,0,rfl,Nat.le_refl _,Nat.zero_le _,.inl ⟨trivial,by simp⟩⟩
theorem sB {F:Nat→Prop}(hF:∀ b,¬ F b){t e:TypeId}{r:Reach}{b0:Nat}{v:Value}{d:DataW H}{ps:List MemPlace}(ht:P.underlying t=some (.slice e))(he:P.underlying e=some (.int .i64))(hc:P.cellsOf e=1)
  (Lg:Value.okWide P w r b0 t v) (h:DataW.Trod enc P w 0 (fun _=>true) true t v d ps):∃ l:List Int,bK w F (ints l) v∧l.length≤9223372036854775807:=by
 obtain⟨a,n,cap,rfl⟩:=okWide_slice ht Lg;obtain⟨fuel,hf⟩:=h;rcases open_ints ht he hc hf with ⟨Kc,_⟩ | ⟨a',len,Tt,zs,Kc,_,hl,hm,hz,_,KH,_⟩
 ·simp[Value.cells] at Kc;obtain⟨rfl,rfl,rfl⟩:=Kc;exact⟨[],x8 _ rfl,by simp⟩
 ·simp[Value.cells] at Kc;obtain⟨rfl,rfl,rfl⟩:=Kc;simp only[if_true] at hz;have hlen:(zs.take n).length=n:=by simp;omega
  refine⟨zs.take n,?_,by rw[hlen];simp only[maxLen] at hm;omega⟩;unfold ints;rw[hlen];simp only[bK];refine⟨_,cap,rfl,hl,hm,.inr ⟨a',rfl,y0 hF _ _ (Fs _ (fun _=>rfl) _) fun i c hi=>?_⟩⟩;rw[List.getElem?_map] at hi;obtain⟨z,Nq,rfl⟩:=Option.map_eq_some_iff.1 hi;rw[List.getElem?_take] at Nq;split at Nq
  ·rename_i Ko;have JS:i<zs.length:=by omega
   refine⟨_,KH i JS,?_⟩;have:zs.getD i 0=z:=by simp[List.getD,Nq]
   rw[this];simp[bK]
  ·cases Nq
theorem ae.calls {f:FuncId}{args:List CV}{b:Bool}(h:ae P f args (.bool b)){vs:List Value}(hv:bt w (fun _=>False) args vs)(hg:G3 w (fun _=>False):=by simp[G3,EG]):Calls P f vs.toArray w fun e w'=>e=.returned (.bool b)∧Below w.heap.size w w':=
 (h.2 (fun _=>False) vs w ⟨fun _ hb=>hb.elim,hg.mono fun _ hb=>hb.elim id id⟩ hv).mono fun e w' ⟨v,h1,h2,h3⟩=>by
  simp only[bK] at h3;subst h3;exact⟨h1,h2⟩
end
end Go.Can
/- Arguments as the contracts read them: a slice of structs of four integers. No function of the program is mentioned here. -/
namespace Go.Can
open Go.ChangeShapes Go.WideShapes Go.ChangeAt Go.RowKit
section
variable {P:Program}{H:Type}{enc:TypeId×Value→H}{w:World}
def q4 (e:Int×Int×Int×Int):List CV:=[.int .i64 e.1,.int .i64 e.2.1,.int .i64 e.2.2.1,.int .i64 e.2.2.2]
end
end Go.Can
