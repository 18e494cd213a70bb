/- A region that draws, run in one order: what the other orders do is the same, where the operations that are not ordered keep apart. No function of the program is mentioned here. -/
import Derived.Test.YtmnglemlimfpbaaGreatZ12
namespace Go.Can
open Go.RowKit
def Ac (P:Program)(pc:FuncId→List CV→Option CV):Prop:=∀ g cs r,pc g cs=some r→ah P g cs r
section
variable {P:Program}{C:Cx}{σ:Nat→Option OB}{s s':St}{a:Act}{w:World}{ops:Array Oper}{aj:List (Nat×TI)}{mt:jB}{pc:FuncId→List CV→Option CV}{call:fF}
theorem AS {o:Oper}(h:∀ t∈o.looksAt ops,assoc s'.env t=assoc s.env t):∀ x∈o.op.operands,ev s' x=ev s x:=fun x hx=>by
 cases x with
 | tmp t=>exact h t (List.mem_append_left _ (List.mem_filterMap.2 ⟨.tmp t,by simpa using hx,rfl⟩))
 | _=>rfl
theorem sO {o:Oper}(h:∀ t∈o.looksAt ops,assoc s'.env t=assoc s.env t):bK ops s' o=bK ops s o:=by
 unfold bK
 cases hg:o.guard with
 | none=>rfl
 | some q=>
  obtain⟨j,want⟩:=q
  simp only
  cases hj:(ops[j]?).bind (·.dst) with
  | none=>rfl
  | some t=>simp only;rw[h t (by simp[Oper.looksAt,hg,hj])]
theorem qA {c:Call}(h:∀ x∈c.operands,ev s' x=ev s x):iQ mt s' c=iQ mt s c:=by
 have ha:ym s' c.args.toList=ym s c.args.toList:=gZ _ fun x hx=>h x (by simp only[Call.operands,Array.mem_append];exact .inr (by simpa using hx))
 unfold iQ
 split
 ·rename_i f hf
  unfold aK
  rw[hf]
  simp only
  rw[h f (by simp[Call.operands,hf]),ha]
 ·rename_i r name hr
  rw[h r (by simp[Call.operands,hr]),ha]
 ·rfl
theorem Aa {op:Op}(h:∀ x∈op.operands,ev s' x=ev s x):pt aj s' op=pt aj s op:=by
 cases op<;>simp only[pt]<;>first | exact lv _ h | skip
 case makeSlice t l c=>rw[h l (by simp[Op.operands]),h c (by simp[Op.operands])]
theorem cells?_view {c:CV}(h:∀ o,names o c=true→assoc s'.heap o=assoc s.heap o):cells? s' c=cells? s c:=by
 unfold cells?
 split<;>first | rfl | skip
 rename_i o off n
 rw[h o (by simp[names])]
theorem BW {c:CV}(h:∀ o,names o c=true→assoc s'.heap o=assoc s.heap o):xP s' c=xP s c:=by
 unfold xP
 split<;>first | rfl | skip
 rename_i o off n
 rw[h o (by simp[names])]
theorem jq {o:Oper}(hd:aW C.nt o.dst=true)(h:aH C σ s a w){c:CV}{v:Value}(hv:VR w (FB C σ s.heap) σ c v):aH C σ (s.put o.dst c) (a.put o.dst v) w:=
 h.put (fun t e=>by rw[h.tm];rw[e] at hd;simpa [aW] using hd) hv
theorem eE {s:St}{H:List (Nat×Ob)}{n k:Nat}{d:Option Tmp}{r:Option CV}{w:List (Nat×Option Ob)}(hH:∀ p,assoc H p=jE (assoc s.heap) w p)(hn:n=s.nx+k):fs (cA ⟨s.env,H,n⟩ d r)=ap d ⟨r,w,k⟩ (fs s):=by
 unfold fs ap
 congr 1
 ·funext t;exact bW t
 ·funext p;rw[cV.1];exact hH p
 ·rw[cV.2];exact hn
def Cx.kf (C:Cx)(w:World)(σ:Nat→Option OB)(H rest:List (Nat×Ob))(nt:Nat)(hF:∀ b,FB C σ rest b→b<w.heap.size)(n:Nat):Cx:=
 ⟨w,FB C σ rest,fun b=>∃ o ob,assoc H o=some ob∧aJ σ o=some b,hF,nt,σ,n⟩
structure jA (H rest G:List (Nat×Ob)):Prop where
 l:∀ o ob,assoc H o=some ob→assoc G o=some ob
 r:∀ o ob,assoc rest o=some ob→assoc G o=some ob
 lr:∀ o ob,assoc G o=some ob→assoc H o=some ob∨assoc rest o=some ob
 d:∀ o ob ob',assoc H o=some ob→assoc rest o=some ob'→False
theorem iI {H rest G:List (Nat×Ob)}(hp:jA H rest G){b:Nat}:FB C σ G b↔FB C σ rest b∨∃ o ob,assoc H o=some ob∧aJ σ o=some b:=by
 constructor
 ·rintro (h | ⟨o,ob,ho,hb⟩)
  ·exact .inl (.inl h)
  ·rcases hp.lr o ob ho with h | h
   ·exact .inr ⟨o,ob,h,hb⟩
   ·exact .inl (.inr ⟨o,ob,h,hb⟩)
 ·rintro ((h | ⟨o,ob,ho,hb⟩) | ⟨o,ob,ho,hb⟩)
  ·exact .inl h
  ·exact .inr ⟨o,ob,hp.r o ob ho,hb⟩
  ·exact .inr ⟨o,ob,hp.l o ob ho,hb⟩
theorem aH.kf (h:aH C σ s a w){H rest:List (Nat×Ob)}(hp:jA H rest s.heap)(hF:∀ b,FB C σ rest b→b<w.heap.size)(nt:Nat){args:List CV}{vs:List Value}(hv:aQ w (FB C σ s.heap) σ args vs)(ha:args.length≤nt) :
  aH (C.kf w σ H rest nt hF s.nx) σ ⟨(enter args).env,H,s.nx⟩ { tmps:=vs.toArray++Array.replicate (nt-vs.toArray.size) undef,defers:=[] } w:=by
 have hl:=aQ.length _ _ hv
 have hFB:∀ b,FB (C.kf w σ H rest nt hF s.nx) σ H b→FB C σ s.heap b:=fun b hb=>by
  rw[iI hp]
  exact hb
 refine⟨rfl,by simp[Cx.kf];omega,rfl,rfl,rfl,Nat.le_refl _,fun _ _ _=>rfl,?_,?_,fun o o' ob ob' b h1 h2=>h.inj o o' ob ob' b (hp.l _ _ h1) (hp.l _ _ h2),h.nx,fun _ _=>rfl,Nat.le_refl _,fun o B b ho hB _=>(by rw[h.nx o ho] at hB;cases hB)⟩
 ·intro t c hc
  obtain⟨_,h2⟩:=eC args 0 t c hc
  obtain⟨v,h3,h4⟩:=aQ.get _ _ hv t c (by simpa using h2)
  refine⟨v,?_,VR.keep (bO.same hFB) _ _ (fun _ _=>rfl) h4⟩
  have hlt:=(List.getElem?_eq_some_iff.1 h3).1
  simp only
  rw[Array.getElem?_append_left (by simpa using hlt)]
  simpa using h3
 ·intro o ob ho
  obtain⟨B,m1,m2,m3,m4,m5⟩:=h.obj o ob (hp.l o ob ho)
  refine⟨B,m1,m2,m3,m4,fun b hb=>?_⟩
  obtain⟨cur,n1,n2,n3,n4,n5,n6⟩:=m5 b hb
  refine⟨cur,n1,n2,?_,.inl ⟨o,ob,ho,by simp[aJ,m1,hb]⟩,n5,aQ.keep (bO.same hFB) _ _ (fun _ _=>rfl) n6⟩
  rintro (hf | ⟨o',ob',ho',hb'⟩)
  ·exact n3 hf
  ·have:o'=o:=h.inj o' o ob' ob b (hp.r _ _ ho') (hp.l _ _ ho) hb' (by simp[aJ,m1,hb])
   subst this
   exact hp.d _ _ _ ho ho'
theorem aH.backF (h:aH C σ s a w){H rest:List (Nat×Ob)}(hp:jA H rest s.heap){hF:∀ b,FB C σ rest b→b<w.heap.size}{nt:Nat}{σ':Nat→Option OB}{s1:St}{a':Act}{w':World}(h':aH (C.kf w σ H rest nt hF s.nx) σ' s1 a' w')(hd:∀ o ob ob',assoc s1.heap o=some ob→assoc rest o=some ob'→False) :
  aH C σ' ⟨s.env,s1.heap++rest,s1.nx⟩ a w'∧∀ c v,VR w' (FB (C.kf w σ H rest nt hF s.nx) σ' s1.heap) σ' c v→VR w' (FB C σ' (s1.heap++rest)) σ' c v:=by
 have hown:∀ b,b<w.heap.size→(¬ ∃ o ob,assoc H o=some ob∧aJ σ o=some b)→w'.heap[b]? = w.heap[b]?:=fun b hb hn=>h'.frame b hb hn
 have hlt:∀ {o ob},assoc s.heap o=some ob→o<s.nx:=fun {o ob} ho=>by
  refine Nat.lt_of_not_le fun hle=>?_
  obtain⟨B,e1,_⟩:=h.obj o ob ho
  rw[h.nx o hle] at e1;cases e1
 have hsame:∀ {o},o<s.nx→σ' o=σ o:=fun {o} ho=>h'.ek o ho
 have hobj:∀ o ob b,assoc s1.heap o=some ob→aJ σ' o=some b→(∃ o ob,assoc H o=some ob∧aJ σ o=some b)∨w.heap.size≤b:=fun o ob b ho hb=>by
  obtain⟨B,m1,_,_,_,m5⟩:=h'.obj o ob ho
  obtain⟨cur,_,_,_,n4,_⟩:=m5 b (by simpa [aJ,m1] using hb)
  exact n4
 have hnot:∀ o ob b,assoc s1.heap o=some ob→aJ σ' o=some b→¬ FB C σ rest b:=fun o ob b ho hb=>by
  obtain⟨B,m1,_,_,_,m5⟩:=h'.obj o ob ho
  obtain⟨cur,_,_,n3,_⟩:=m5 b (by simpa [aJ,m1] using hb)
  exact n3
 have hrest:∀ {o ob b},assoc rest o=some ob→(aJ σ' o=some b↔aJ σ o=some b):=fun {o ob b} ho=>by
  unfold aJ;rw[hsame (hlt (hp.r _ _ ho))]
 have hFe:∀ b,FB C σ' (s1.heap++rest) b↔FB (C.kf w σ H rest nt hF s.nx) σ' s1.heap b:=fun b=>by
  constructor
  ·rintro (hb | ⟨o,ob,ho,hb⟩)
   ·exact .inl (.inl hb)
   ·rw[dj] at ho
    split at ho
    ·rename_i y hy;cases ho;exact .inr ⟨o,_,hy,hb⟩
    ·exact .inl (.inr ⟨o,ob,ho,(hrest ho).1 hb⟩)
  ·rintro ((hb | ⟨o,ob,ho,hb⟩) | ⟨o,ob,ho,hb⟩)
   ·exact .inl hb
   ·refine .inr ⟨o,ob,?_,(hrest ho).2 hb⟩
    rw[dj]
    split
    ·rename_i y hy;exact (hd _ _ _ hy ho).elim
    ·exact ho
   ·exact .inr ⟨o,ob,by rw[dj,ho],hb⟩
 have hkw:bO w w' (FB C σ s.heap) (FB C σ' (s1.heap++rest)):=by
  have hno:∀ b,¬ FB C σ s.heap b→¬ ∃ o ob,assoc H o=some ob∧aJ σ o=some b:=fun b hf hx=>hf ((iI hp).2 (.inr hx))
  have hF2:∀ b,b<w.heap.size→¬ FB C σ s.heap b→¬ FB C σ' (s1.heap++rest) b:=fun b hb hf hx=>by
   rw[hFe] at hx
   rcases hx with hx | ⟨o,ob,ho,hbb⟩
   ·exact hf ((iI hp).2 (.inl hx))
   ·rcases hobj o ob b ho hbb with h1 | h1
    ·exact hno b hf h1
    ·omega
  refine⟨fun ad u hf hu=>?_,fun r _ hf hu _=>?_⟩
  ·have hl:=World.block_lt_of_cell? w ad hu
   exact⟨by rw[World.cell?_of_block (w:=w) (hown ad.block hl (hno _ hf))];exact hu,hF2 _ hl hf⟩
  ·have hl:=(Array.getElem?_eq_some_iff.1 hu).1
   exact⟨by rw[hown r hl (hno _ hf)];exact hu,hF2 _ hl hf⟩
 have hownC:∀ b,(∃ o ob,assoc H o=some ob∧aJ σ o=some b)→C.own b∨C.w0.heap.size≤b:=fun b ⟨o,ob,ho,hb⟩=>by
  obtain⟨B,m1,_,_,_,m5⟩:=h.obj o ob (hp.l _ _ ho)
  obtain⟨cur,_,_,_,n4,_⟩:=m5 b (by simpa [aJ,m1] using hb)
  exact n4
 refine⟨⟨h.kO,h.tm,h'.os.trans h.os,h'.tape.trans h.tape,h'.output.trans h.output,Nat.le_trans h.size h'.size,?_,?_,?_,?_,h'.nx,fun o ho=>(h'.ek o (Nat.lt_of_lt_of_le ho h.low)).trans (h.ek o ho),Nat.le_trans h.low h'.low,fun o B b ho hB hb=>?_⟩,fun c v hv=>VR.keep (bO.same fun b hb=>(hFe b).1 hb) _ _ (fun _ _=>rfl) hv⟩
 ·intro b hb hno
  rw[hown b (Nat.lt_of_lt_of_le hb h.size) fun hx=>?_]
  ·exact h.frame b hb hno
  ·rcases hownC b hx with h1 | h1
   ·exact hno h1
   ·omega
 ·intro t c hc
  obtain⟨v,k1,k2⟩:=h.env t c hc
  refine⟨v,k1,VR.keep hkw _ _ (fun o ho=>?_) k2⟩
  refine h'.ek o (Nat.lt_of_not_le fun hle=>?_)
  obtain⟨B,hB⟩:=VR.refs _ _ o k2 ho
  rw[h.nx o hle] at hB;cases hB
 ·intro o ob ho
  rw[dj] at ho
  split at ho
  ·rename_i y hy
   cases ho
   obtain⟨B,m1,m2,m3,m4,m5⟩:=h'.obj o _ hy
   refine⟨B,m1,m2,m3,m4,fun b hb=>?_⟩
   obtain⟨cur,n1,n2,n3,n4,n5,n6⟩:=m5 b hb
   refine⟨cur,n1,n2,fun hf=>n3 (.inl hf),?_,n5,aQ.keep (bO.same fun b hb=>(hFe b).1 hb) _ _ (fun _ _=>rfl) n6⟩
   rcases n4 with n4 | n4
   ·exact hownC b n4
   ·exact .inr (Nat.le_trans h.size n4)
  ·have hs:=hp.r _ _ ho
   obtain⟨B,m1,m2,m3,m4,m5⟩:=h.obj o ob hs
   refine⟨B,by rw[hsame (hlt hs)];exact m1,m2,m3,m4,fun b hb=>?_⟩
   obtain⟨cur,n1,n2,n3,n4,n5,n6⟩:=m5 b hb
   have hbl:=(Array.getElem?_eq_some_iff.1 n1).1
   have hno:¬ ∃ o' ob',assoc H o'=some ob'∧aJ σ o'=some b:=by
    rintro⟨o',ob',ho',hb'⟩
    have:o'=o:=h.inj o' o ob' ob b (hp.l _ _ ho') hs hb' (by simp[aJ,m1,hb])
    subst this
    exact hp.d _ _ _ ho' ho
   refine⟨cur,by rw[hown b hbl hno];exact n1,n2,n3,n4,n5,aQ.keep hkw _ _ (fun p hpn=>?_) n6⟩
   refine h'.ek p (Nat.lt_of_not_le fun hle=>?_)
   obtain⟨B2,hB2⟩:=aQ.refs _ _ p n6 hpn
   rw[h.nx p hle] at hB2;cases hB2
 ·intro o o' ob ob' b ho ho' hb hb'
  rw[dj] at ho ho'
  have cross:∀ {p q x y},assoc s1.heap p=some x→aJ σ' p=some b→assoc rest q=some y→aJ σ' q=some b→False:=fun {p q x y} h1 h2 h3 h4=>
   hnot p x b h1 h2 (.inr ⟨q,y,h3,(hrest h3).1 h4⟩)
  cases c1:assoc s1.heap o with
  | some y=>
   cases c2:assoc s1.heap o' with
   | some y'=>exact h'.inj o o' y y' b c1 c2 hb hb'
   | none=>
    rw[c2] at ho'
    exact (cross c1 hb ho' hb').elim
  | none=>
   rw[c1] at ho
   cases c2:assoc s1.heap o' with
   | some y'=>exact (cross c2 hb' ho hb).elim
   | none=>
    rw[c2] at ho'
    exact h.inj o o' ob ob' b (hp.r _ _ ho) (hp.r _ _ ho') ((hrest ho).1 hb) ((hrest ho').1 hb')
 ·rcases Nat.lt_or_ge o s.nx with hl | hge
  ·rw[hsame hl] at hB;exact h.new o B b ho hB hb
  ·rcases h'.new o B b hge hB hb with n4 | n4
   ·exact hownC b n4
   ·exact .inr (Nat.le_trans h.size n4)
theorem pk (ht0:aF P aj){o:Oper}{g:FuncId}{cs:List CV}{R:CV→St→Prop}{H rest:List (Nat×Ob)}(hp:jA H rest s.heap)(he:tF P C s o g cs)(hb:Body P aj g cs H s.nx R)(hR:∀ r s1,R r s1→∀ o ob ob',assoc s1.heap o=some ob→assoc rest o=some ob'→False)(h:aH C σ s a w)(K:Act→World→Prop)(Q:Exit→Act→World→Prop)
  (hK:∀ r s1 v w' σ',R r s1→aH C σ' ⟨s.env,s1.heap++rest,s1.nx⟩ a w'→VR w' (FB C σ' (s1.heap++rest)) σ' r v→(∀ p,p<s.nx→σ' p=σ p)→K (a.put o.dst v) w'):o.wp P a w K Q:=by
 obtain⟨fn,code,hf,hbody,hn,hlen,hT⟩:=hb
 obtain⟨vs,ent,hall⟩:=he σ a w h
 have hF:∀ b,FB C σ rest b→b<w.heap.size:=fun b hb=>tC h b ((iI hp).2 (.inl hb))
 have h0:=h.kf hp hF fn.ntmps hall hlen
 have hcalls:Calls P g vs.toArray w fun e w'=>∃ v r s',e=.returned v∧R r s'∧∃ σ',aH C σ' ⟨s.env,s'.heap++rest,s'.nx⟩ a w'∧VR w' (FB C σ' (s'.heap++rest)) σ' r v∧(∀ p,p<s.nx→σ' p=σ p):=by
  refine calls_of_wp hf hbody (wp_mono (hT (C.kf w σ H rest fn.ntmps hF s.nx) rfl rfl _ _ ⟨_,h0⟩) fun e a' w' ⟨s1,q,σ1,hr1⟩=>?_)
  have fin:ae (C.kf w σ H rest fn.ntmps hF s.nx) (fun s'=>∃ r,bb aj fn s'=some r∧R r s') s1→a'.defers=[]∧∃ v,(results fn a'.tmps).run P w'=.ok v w'∧(∃ v_1 r s',Ending.returned v=.returned v_1∧R r s'∧∃ σ',aH C σ' ⟨s.env,s'.heap++rest,s'.nx⟩ a w'∧VR w' (FB C σ' (s'.heap++rest)) σ' r v_1∧(∀ p,p<s.nx→σ' p=σ p)):=fun⟨s2,⟨r,q1,q2⟩,hl⟩=>by
   obtain⟨σ2,hr2⟩:=hl _ _ ⟨σ1,hr1⟩
   obtain⟨v,k1,k2⟩:=gj (P:=P) ht0 hr2 q1
   obtain⟨b1,b2⟩:=h.backF hp hr2 (hR r s2 q2)
   exact⟨hr2.kO,v,k1,v,r,s2,rfl,q2,σ2,b1,b2 _ _ k2,hr2.ek⟩
  cases e with
  | normal=>exact fin q
  | ret=>exact fin q
  | exit _=>exact q.elim
  | goto _=>exact q.elim
  | panic _=>exact q.elim
  | outgrown=>exact q.elim
 unfold Oper.wp
 rw[ent]
 refine hcalls.mono fun e w' ⟨v,r,s',he,hR,σ',hr',hv,ho⟩=>?_
 subst he
 exact hK r s' v w' σ' hR hr' hv ho
theorem AY (ht:aF P aj)(hmt:m8 P mt)(hcl:jD P aj call)(tJ:Ac P pc){i m:Nat}{o:Oper}{E:Ef}{rs:List Nat}{nb:Bool}{ab:Option (Nat×Nat)}{lo up:Nat}(h:p9 aj mt ops call pc lo up m s o=some (E,rs,nb,ab))(hd:aW C.nt o.dst=true)(hi:ops[i]? = some o)
  (hag:Agree ⟨o.looksAt ops,rs,nb,ab⟩ (fs s') (fs s)) (hr:aH C σ s' a w) (hm:σ m=none) (hm0:C.n0≤m) (hmx:m<s'.nx) {Q':Exit→Act→World→Prop} (K:Act→World→Prop)
  (hK:∀ a' w' σ' s'',fs s''=ap o.dst E (fs s')→aH C σ' s'' a' w'→(∀ p,p≠m→p<s'.nx→σ' p=σ p)→K a' w'):wpOp P ops Q' i K a w:=by
 have hslots:∀ t∈o.looksAt ops,assoc s'.env t=assoc s.env t:=hag.1
 have hobj:∀ p∈rs,assoc s'.heap p=assoc s.heap p:=hag.2.1
 have hev:=AS hslots
 have hgd:=sO (ops:=ops) hslots
 have hd':∀ t,o.dst=some t→t<a.tmps.size:=fun t e=>by rw[hr.tm];rw[e] at hd;simpa [aW] using hd
 unfold p9 at h
 unfold wpOp
 simp only[hi]
 split at h
 ·cases h
 ·rename_i hg
  cases h
  rw[hg] at hgd
  have hw:Region.wanted o (yielded ops a.tmps)=false:=by
   unfold bK at hgd
   split at hgd
   ·cases hgd
   ·rename_i j want e
    split at hgd
    ·cases hgd
    rename_i t hj
    exact jh ⟨σ,hr⟩ e hj hgd
  rw[if_neg (by simp[hw])]
  exact hK _ _ σ (s'.put o.dst (.df [])) (p7 _ _ _) (hr.put hd' (by simp only[VR,aQ];exact⟨[],rfl,rfl⟩)) fun _ _ _=>rfl
 ·rename_i hg
  rw[hg] at hgd
  have hw:=dy (ops:=ops) ⟨σ,hr⟩ hgd
  rw[if_pos hw]
  refine .inl ?_
  split at h
  ·rename_i c hu
   have hop:=fW hu
   split at h
   ·rename_i g cs hc
    have hcv:iQ mt s' c=some (g,cs):=by
     rw[qA (fun x hx=>hev x (by rw[hop];exact hx)),hc]
    split at h
    ·rename_i r hp
     cases h
     split at hp
     ·rename_i htr
      have hP:=tJ g cs _ hp
      exact Aq (tF.to hmt hop hcv hP.1) htr hP hr _ _ fun v w' hr' hv=>hK _ _ σ (s'.put o.dst _) (p7 _ _ _) (jq hd hr' hv) fun _ _ _=>rfl
     ·cases hp
    ·split at h
     ·rename_i x H n hx
      split at h
      ·rename_i hn
       cases h
       obtain⟨hn,hin⟩:=hn
       have hB:=hcl _ _ _ _ _ _ _ hx
       have hE:Enters P g:=by
        obtain⟨fn,c,h1,h2,h3,_⟩:=hB
        exact⟨fn,h1,h3,by simp[h2]⟩
       have hnn:s'.nx=s.nx:=hag.2.2.1 rfl
       have hag4:∀ p,CG lo up (ed cs) p=true→assoc s'.heap p=assoc s.heap p:=fun p hp=>by
        simp only[CG,Bool.or_eq_true,decide_eq_true_eq,List.contains_eq_mem] at hp
        rcases hp with (hp | hp) | hp
        ·exact hag.2.2.2 _ rfl p (.inl hp)
        ·exact hag.2.2.2 _ rfl p (.inr hp)
        ·exact hobj p hp
       have hsub:∀ p,assoc (pK lo up (ed cs) s.heap) p=if CG lo up (ed cs) p then assoc s'.heap p else none:=fun p=>by
        rw[lz]
        split
        ·rename_i hp;rw[hag4 p hp]
        ·rfl
       have hparts:jA (pK lo up (ed cs) s.heap) (zy lo up (ed cs) s'.heap) s'.heap:=by
        refine⟨fun p y hp=>?_,fun p y hp=>?_,fun p y hp=>?_,fun p y z hp hq=>?_⟩
        ·rw[hsub] at hp
         split at hp
         ·exact hp
         ·cases hp
        ·rw[fk] at hp
         split at hp
         ·cases hp
         ·exact hp
        ·rw[hsub,fk]
         split
         ·exact .inl hp
         ·exact .inr hp
        ·rw[hsub] at hp
         rw[fk] at hq
         split at hp
         ·rename_i hi';rw[if_pos hi'] at hq;cases hq
         ·cases hp
       have hkeys:∀ p y,assoc H p=some y→CG lo up (ed cs) p=true:=fun p y hp=>by
        have:=List.all_eq_true.1 hin _ (a7 _ _ _ hp)
        exact this
       rw[← hnn] at hB
       refine pk ht hparts (tF.to hmt hop hcv hE) hB (fun r s1 hR p y z hp hq=>?_) hr _ _ fun r s1 v w' σ' hR hr' hv hold=>?_
       ·obtain⟨_,e1,_⟩:=hR
        rw[e1] at hp
        rw[fk,if_pos (hkeys p y hp)] at hq
        cases hq
       ·obtain⟨rfl,e1,e2⟩:=hR
        refine hK _ _ σ' (cA ⟨s'.env,s1.heap++zy lo up (ed cs) s'.heap,s1.nx⟩ o.dst (some r)) ?_ (jq hd hr' hv) fun p _ hlt=>hold p hlt
        refine eE (s:=s') (fun p=>?_) (by rw[e2,hnn];omega)
        rw[e1,dj,fk]
        have hdw:=EM (pK lo up (ed cs) s.heap) H p
        unfold jE at hdw ⊢
        by_cases hi':CG lo up (ed cs) p=true
        ·rw[if_pos hi']
         cases hc2:assoc (qy (pK lo up (ed cs) s.heap) H) p with
         | some y=>
          rw[hc2] at hdw
          simp only at hdw ⊢
          rw[hdw]
          cases assoc H p<;>rfl
         | none=>
          rw[hc2] at hdw
          simp only at hdw ⊢
          rw[hsub,if_pos hi'] at hdw
          rw[hdw]
          cases assoc H p<;>rfl
        ·rw[if_neg hi']
         have hH:assoc H p=none:=by
          cases hc2:assoc H p with
          | none=>rfl
          | some y=>exact absurd (hkeys p y hc2) hi'
         rw[hH]
         simp only
         cases hc2:assoc (qy (pK lo up (ed cs) s.heap) H) p with
         | none=>rfl
         | some y=>
          exfalso
          have hS:assoc (pK lo up (ed cs) s.heap) p=none:=by rw[hsub,if_neg hi']
          exact zQ hS hH hc2
      ·cases h
     ·cases h
   ·cases h
  ·split at h
   ·rename_i c hq
    cases h
    have hq':cQ aj s' o.op=some c:=by
     by_cases hl:(∃ t x,o.op=.load t x)∨∃ t x lo hi mx,o.op=.slice t x lo hi mx
     ·refine uL (s:=s) (fun x hx=>(hev x hx).symm) hq fun x hx v hv p ob hn hp=>?_
      rw[hobj p ?_]
      ·exact hp
      ·rcases hl with ⟨t,y,e⟩ | ⟨t,y,lo,hi',mx,e⟩
       ·have:DB s o.op=F3 s o.op:=by rw[e];rfl
        rw[this];exact AF hx hv hn
       ·have:DB s o.op=F3 s o.op:=by rw[e];rfl
        rw[this];exact AF hx hv hn
     ·rw[← qo (s:=s) o.op (fun x hx=>(hev x hx).symm) (fun t x e=>hl (.inl ⟨t,x,e⟩)) (fun t x lo hi mx e=>hl (.inr ⟨t,x,lo,hi,mx,e⟩))]
      exact hq
    obtain⟨z,k1,k2⟩:=vK ht hr o hq'
    unfold Oper.wp
    rw[k1]
    exact hK _ _ σ (s'.put o.dst c) (p7 _ _ _) (jq hd hr k2) fun _ _ _=>rfl
   ·split at h
    ·rename_i c rs' hv
     cases h
     unfold Bc at hv
     split at hv
     ·rename_i t u x hop
      split at hv
      ·rename_i c' hc
       cases hv
       have hx:ev s' x=ev s x:=hev x (by rw[hop];simp[Op.operands])
       have hc2:pj aj s' t u x=some c:=by
        rw[← hc]
        unfold pj
        rw[hx]
        cases hxv:ev s x with
        | none=>rfl
        | some v=>
         have:cells? s' v=cells? s v:=cells?_view fun p hp=>hobj p (by simp only[hxv];exact q9 hp)
         cases dm aj t with
         | none=>cases v<;>rfl
         | some d=>
          cases dm aj u with
          | none=>cases v<;>cases d<;>rfl
          | some d'=>cases v<;>cases d<;>cases d'<;>first | rfl | simp only[this]
       obtain⟨z,k1,k2⟩:=yJ ht hr hc2
       have k3:(execOp a.eval o).run P w=.ok (.value z) w:=by
        simp[execOp,hop,k1]
       unfold Oper.wp
       rw[k3]
       exact hK _ _ σ (s'.put o.dst c) (p7 _ _ _) (jq hd hr k2) fun _ _ _=>rfl
      ·cases hv
     ·cases hv
    split at h
    ·rename_i ob f hv
     cases h
     have hv':pt aj s' o.op=some (ob,f):=by rw[Aa hev,hv]
     obtain⟨z,w',B,k1,k2⟩:=B1 ht hr hm hm0 hmx hd' hv'
     unfold Oper.wp
     rw[k1]
     refine hK _ _ _ _ ?_ k2 fun p hp _=>by simp[sig,hp]
     exact eE (s:=s') (k:=0) (d:=o.dst) (r:=some (f m)) (fun p=>by simp only[assoc,jE];by_cases e:m=p<;>simp[e]) rfl
    ·split at h
     ·rename_i t x v hop
      split at h
      ·rename_i p ob hc
       cases h
       have hx:ev s' x=ev s x:=hev x (by rw[hop];simp[Op.operands])
       have hv:ev s' v=ev s v:=hev v (by rw[hop];simp[Op.operands])
       unfold IS at hc
       split at hc
       ·rename_i p' off c i' h1 h2 h3
        split at hc
        ·cases hc
        ·rename_i ob' hob
         split at hc
         ·cases hc
         ·rename_i htup
          split at hc
          ·rename_i hlen
           cases hc
           have hob':assoc s'.heap p=some ob':=by rw[hobj p (by simp)];exact hob
           have hst:mu aj s' t x v=some { s' with heap:=ou s'.heap p { ob' with cells:=eA ob'.cells off c.cells } }:=by
            unfold mu
            rw[hx,hv,h1,h2,h3]
            simp only[hob']
            rw[if_neg htup,if_pos hlen]
           obtain⟨w',k1,k2,_⟩:=vg ht hr hop hst
           unfold Oper.wp
           rw[k1]
           refine hK _ _ σ _ ?_ (k2.del undef) fun _ _ _=>rfl
           refine eE (s:=s') (k:=0) (d:=o.dst) (r:=none) (fun q=>?_) rfl
           rw[eD]
           simp only[jE,assoc]
           by_cases e:p=q
           ·rw[if_pos e,if_pos e,← e,hob'];rfl
           ·rw[if_neg e,if_neg e]
          ·cases hc
       ·cases hc
      ·cases h
     ·rename_i cl hop
      split at h
      ·rename_i x y t t' hcl2 ha hts
       split at h
       ·rename_i e
        subst e
        split at h
        ·rename_i p q hp hq
         split at h
         ·rename_i ob k rm hc
          cases h
          have toA:∀ {α:Type} {x:Array α} {l:List α},x.toList=l→x=l.toArray:=fun {α x l} e=>by rw[← e]
          have hargs:=toA ha
          have hx:ev s' x=some p:=by rw[hev x (by rw[hop];simp[Op.operands,Call.operands,hargs])];exact hp
          have hy:ev s' y=some q:=by rw[hev y (by rw[hop];simp[Op.operands,Call.operands,hargs])];exact hq
          have hn:s'.nx=s.nx:=hag.2.2.1 rfl
          have hc':px aj t p (xP s' p) (cells? s' q)=some (ob,k,rm):=by
           rw[BW (fun o' ho'=>hobj o' (List.mem_append_left _ (q9 ho'))),cells?_view (fun o' ho'=>hobj o' (List.mem_append_right _ (q9 ho')))]
           exact hc
          have happ:=Ab (d:=o.dst) hx hy hc'
          obtain⟨z,w',B,k1,k2⟩:=sY ht hr hd' hop hcl2 hargs (toA hts) happ
          unfold Oper.wp
          rw[k1]
          refine hK _ _ _ _ ?_ k2 fun p hp hlt=>by simp[sig,Nat.ne_of_lt hlt]
          have hpp:fs (cA ⟨s'.env,(s'.nx,ob)::GD s'.heap rm,s'.nx+1⟩ o.dst (some (.bw s'.nx 0 k)))=ap o.dst ⟨some (.bw s'.nx 0 k),(s'.nx,some ob)::rmL rm,1⟩ (fs s'):=by
           refine eE (s:=s') (k:=1) (fun r=>?_) rfl
           simp only[assoc,jE]
           by_cases e:s'.nx=r
           ·rw[if_pos e,if_pos e]
           ·rw[if_neg e,if_neg e]
            cases rm with
            | none=>simp only[GD,rmL,assoc]
            | some o2=>
             simp only[GD,rmL,eI,assoc]
             by_cases e2:o2=r
             ·rw[if_pos e2,if_pos e2]
             ·rw[if_neg e2,if_neg e2]
          rw[← hn]
          exact hpp
         ·cases h
        ·cases h
       ·cases h
      ·cases h
     ·cases h
end
end Go.Can
