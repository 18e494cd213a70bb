/- A region that draws, run in one order: what the other orders -/
import Derived.Test.YtmnglemlimfpbaaGreatZ12
namespace Go.Can
open Go.RowKit
def Cr (P:Program)(pc:FuncId→List CV→Option CV):Prop:=∀ g cs r,pc g cs=some r→ae P g cs r
section
variable {P:Program}{C:Cx}{σ:Nat→Option OB}{s s':St}{a:Act}{w:World}{ops:Array Oper}{aq:List (Nat×TI)}{mt:kq}{pc:FuncId→List CV→Option CV}{call:gf}
theorem Dc {o:Oper}(h:∀ t∈o.looksAt ops,assoc s'.env t=assoc s.env t):∀ x∈o.op.operands,ev s' x=ev s x:=fun x hx=>by
 cases x with
 | tmp t=>exact h t (List.mem_append_left _ (List.mem_filterMap.2 ⟨.tmp t,by simpa using hx,rfl⟩))
 | _=>rfl
theorem u5 {o:Oper}(h:∀ t∈o.looksAt ops,assoc s'.env t=assoc s.env t):bU ops s' o=bU ops s o:=by
 unfold bU
 cases hg:o.guard with
 | none=>rfl
 | some q=>
  obtain⟨j,want⟩:=q
  simp only
  cases hj:(ops[j]?).bind (·.dst) with
  | none=>rfl
  | some t=>simp only;rw[h t (by simp[Oper.looksAt,hg,hj])]
theorem ss {c:Call}(h:∀ x∈c.operands,ev s' x=ev s x):jz mt s' c=jz mt s c:=by
 have ha:Aw s' c.args.toList=Aw s c.args.toList:=iO _ fun x hx=>h x (by simp only[Call.operands,Array.mem_append];exact .inr yBo)
 unfold jz
 split
 ·rename_i f hf
  unfold bl
  rw[hf]
  simp only
  rw[h f (by simp[Call.operands,hf]),ha]
 ·rename_i r name hr
  rw[h r (by simp[Call.operands,hr]),ha]
 ·rfl
theorem Cn {op:Op}(h:∀ x∈op.operands,ev s' x=ev s x):qD aq s' op=qD aq s op:=by
 cases op<;>simp only[qD]<;>first | exact mI _ h | skip
 case makeSlice t l c=>rw[h l yAn,h c yAn]
theorem cells?_view {c:CV}(h:∀ o,names o c=true→assoc s'.heap o=assoc s.heap o):cells? s' c=cells? s c:=by
 unfold cells?
 split<;>first | rfl | skip
 rename_i o off n
 rw[h o (by simp[names])]
theorem D4 {c:CV}(h:∀ o,names o c=true→assoc s'.heap o=assoc s.heap o):zW s' c=zW s c:=by
 unfold zW
 split<;>first | rfl | skip
 rename_i o off n
 rw[h o (by simp[names])]
theorem j4 {o:Oper}(hd:aU C.nt o.dst=true)(h:aG C σ s a w){c:CV}{v:Value}(hv:VR w (FB C σ s.heap) σ c v):aG C σ (s.put o.dst c) (a.put o.dst v) w:=
 h.put (fun t e=>by rw[h.tm];rw[e] at hd;simpa [aU] using hd) hv
theorem eT {s:St}{H:List (Nat×Ob)}{n k:Nat}{d:Option Tmp}{r:Option CV}{w:List (Nat×Option Ob)}(hH:∀ p,assoc H p=ku (assoc s.heap) w p)(hn:n=s.nx+k):fs (eX ⟨s.env,H,n⟩ d r)=ap d ⟨r,w,k⟩ (fs s):=by
 unfold fs ap
 congr 1
 ·funext t;exact cj t
 ·funext p;rw[dh.1];exact hH p
 ·rw[dh.2];exact hn
def Cx.ll (C:Cx)(w:World)(σ:Nat→Option OB)(H rest:List (Nat×Ob))(nt:Nat)(hF:∀ b,FB C σ rest b→b<w.heap.size)(n:Nat):Cx:=
 ⟨w,FB C σ rest,fun b=>∃ o ob,assoc H o=some ob∧aV σ o=some b,hF,nt,σ,n⟩
structure mW (H rest G:List (Nat×Ob)):Prop where
 l:∀ o ob,assoc H o=some ob→assoc G o=some ob
 r:∀ o ob,assoc rest o=some ob→assoc G o=some ob
 lr:∀ o ob,assoc G o=some ob→assoc H o=some ob∨assoc rest o=some ob
 d:∀ o ob ob',assoc H o=some ob→assoc rest o=some ob'→False
theorem qK {H rest G:List (Nat×Ob)}(hp:mW H rest G){b:Nat}:FB C σ G b↔FB C σ rest b∨∃ o ob,assoc H o=some ob∧aV σ o=some b:=by
 constructor
 ·rintro (h | ⟨o,ob,ho,hb⟩)
  ·exact .inl (.inl h)
  ·rcases hp.lr o ob ho with h | h
   ·exact .inr ⟨o,ob,h,hb⟩
   ·exact .inl (.inr ⟨o,ob,h,hb⟩)
 ·rintro ((h | ⟨o,ob,ho,hb⟩) | ⟨o,ob,ho,hb⟩)
  ·exact .inl h
  ·exact .inr ⟨o,ob,hp.r o ob ho,hb⟩
  ·exact .inr ⟨o,ob,hp.l o ob ho,hb⟩
theorem aG.ll (h:aG C σ s a w){H rest:List (Nat×Ob)}(hp:mW H rest s.heap)(hF:∀ b,FB C σ rest b→b<w.heap.size)(nt:Nat){args:List CV}{vs:List Value}(hv:aS w (FB C σ s.heap) σ args vs)(ha:args.length≤nt) :
  aG (C.ll w σ H rest nt hF s.nx) σ ⟨(enter args).env,H,s.nx⟩ { tmps:=vs.toArray++Array.replicate (nt-vs.toArray.size) undef,defers:=[] } w:=by
 have hl:=aS.length _ _ hv
 have hFB:∀ b,FB (C.ll w σ H rest nt hF s.nx) σ H b→FB C σ s.heap b:=fun b hb=>by
  rw[qK hp]
  exact hb
 refine⟨rfl,by simp[Cx.ll];omega,rfl,rfl,rfl,Nat.le_refl _,fun _ _ _=>rfl,?_,?_,fun o o' ob ob' b h1 h2=>h.inj o o' ob ob' b (hp.l _ _ h1) (hp.l _ _ h2),h.nx,fun _ _=>rfl,Nat.le_refl _,fun o B b ho hB _=>(by rw[h.nx o ho] at hB;cases hB)⟩
 ·intro t c hc
  obtain⟨_,h2⟩:=fS args 0 t c hc
  obtain⟨v,h3,h4⟩:=aS.get _ _ hv t c (by simpa using h2)
  refine⟨v,?_,VR.bp (cF.same hFB) _ _ (fun _ _=>rfl) h4⟩
  have hlt:=(List.getElem?_eq_some_iff.1 h3).1
  simp only
  rw[Array.getElem?_append_left (by simpa using hlt)]
  simpa using h3
 ·intro o ob ho
  obtain⟨B,m1,m2,m3,m4,m5⟩:=h.obj o ob (hp.l o ob ho)
  refine⟨B,m1,m2,m3,m4,fun b hb=>?_⟩
  obtain⟨cur,n1,n2,n3,n4,n5,n6⟩:=m5 b hb
  refine⟨cur,n1,n2,?_,.inl ⟨o,ob,ho,by simp[aV,m1,hb]⟩,n5,aS.bp (cF.same hFB) _ _ (fun _ _=>rfl) n6⟩
  rintro (hf | ⟨o',ob',ho',hb'⟩)
  ·exact n3 hf
  ·have:o'=o:=h.inj o' o ob' ob b (hp.r _ _ ho') (hp.l _ _ ho) hb' (by simp[aV,m1,hb])
   subst this
   exact hp.d _ _ _ ho ho'
theorem aG.backF (h:aG C σ s a w){H rest:List (Nat×Ob)}(hp:mW H rest s.heap){hF:∀ b,FB C σ rest b→b<w.heap.size}{nt:Nat}{σ':Nat→Option OB}{s1:St}{a':Act}{w':World}(h':aG (C.ll w σ H rest nt hF s.nx) σ' s1 a' w')(hd:∀ o ob ob',assoc s1.heap o=some ob→assoc rest o=some ob'→False) :
  aG C σ' ⟨s.env,s1.heap++rest,s1.nx⟩ a w'∧∀ c v,VR w' (FB (C.ll w σ H rest nt hF s.nx) σ' s1.heap) σ' c v→VR w' (FB C σ' (s1.heap++rest)) σ' c v:=by
 have hown:∀ b,b<w.heap.size→(¬ ∃ o ob,assoc H o=some ob∧aV σ o=some b)→w'.heap[b]? = w.heap[b]?:=fun b hb hn=>h'.frame b hb hn
 have hlt:∀ {o ob},assoc s.heap o=some ob→o<s.nx:=fun {o ob} ho=>by
  refine Nat.lt_of_not_le fun hle=>?_
  obtain⟨B,e1,_⟩:=h.obj o ob ho
  rw[h.nx o hle] at e1;cases e1
 have hsame:∀ {o},o<s.nx→σ' o=σ o:=fun {o} ho=>h'.fj o ho
 have hobj:∀ o ob b,assoc s1.heap o=some ob→aV σ' o=some b→(∃ o ob,assoc H o=some ob∧aV σ o=some b)∨w.heap.size≤b:=fun o ob b ho hb=>by
  obtain⟨B,m1,_,_,_,m5⟩:=h'.obj o ob ho
  obtain⟨cur,_,_,_,n4,_⟩:=m5 b yBt
  exact n4
 have hnot:∀ o ob b,assoc s1.heap o=some ob→aV σ' o=some b→¬ FB C σ rest b:=fun o ob b ho hb=>by
  obtain⟨B,m1,_,_,_,m5⟩:=h'.obj o ob ho
  obtain⟨cur,_,_,n3,_⟩:=m5 b yBt
  exact n3
 have hrest:∀ {o ob b},assoc rest o=some ob→(aV σ' o=some b↔aV σ o=some b):=fun {o ob b} ho=>by
  unfold aV;rw[hsame (hlt (hp.r _ _ ho))]
 have hFe:∀ b,FB C σ' (s1.heap++rest) b↔FB (C.ll w σ H rest nt hF s.nx) σ' s1.heap b:=fun b=>by
  constructor
  ·rintro (hb | ⟨o,ob,ho,hb⟩)
   ·exact .inl (.inl hb)
   ·rw[fT] at ho
    split at ho
    ·rename_i y hy;cases ho;exact .inr ⟨o,_,hy,hb⟩
    ·exact .inl (.inr ⟨o,ob,ho,(hrest ho).1 hb⟩)
  ·rintro ((hb | ⟨o,ob,ho,hb⟩) | ⟨o,ob,ho,hb⟩)
   ·exact .inl hb
   ·refine .inr ⟨o,ob,?_,(hrest ho).2 hb⟩
    rw[fT]
    split
    ·rename_i y hy;exact (hd _ _ _ hy ho).elim
    ·exact ho
   ·exact .inr ⟨o,ob,by rw[fT,ho],hb⟩
 have hkw:cF w w' (FB C σ s.heap) (FB C σ' (s1.heap++rest)):=by
  have hno:∀ b,¬ FB C σ s.heap b→¬ ∃ o ob,assoc H o=some ob∧aV σ o=some b:=fun b hf hx=>hf ((qK hp).2 (.inr hx))
  have hF2:∀ b,b<w.heap.size→¬ FB C σ s.heap b→¬ FB C σ' (s1.heap++rest) b:=fun b hb hf hx=>by
   rw[hFe] at hx
   rcases hx with hx | ⟨o,ob,ho,hbb⟩
   ·exact hf ((qK hp).2 (.inl hx))
   ·rcases hobj o ob b ho hbb with h1 | h1
    ·exact hno b hf h1
    ·omega
  refine⟨fun ad u hf hu=>?_,fun r _ hf hu _=>?_⟩
  ·have hl:=World.block_lt_of_cell? w ad hu
   exact⟨by rw[World.cell?_of_block (w:=w) (hown ad.block hl (hno _ hf))];exact hu,hF2 _ hl hf⟩
  ·have hl:=(Array.getElem?_eq_some_iff.1 hu).1
   exact⟨by rw[hown r hl (hno _ hf)];exact hu,hF2 _ hl hf⟩
 have hownC:∀ b,(∃ o ob,assoc H o=some ob∧aV σ o=some b)→C.own b∨C.w0.heap.size≤b:=fun b ⟨o,ob,ho,hb⟩=>by
  obtain⟨B,m1,_,_,_,m5⟩:=h.obj o ob (hp.l _ _ ho)
  obtain⟨cur,_,_,_,n4,_⟩:=m5 b yBt
  exact n4
 refine⟨⟨h.nq,h.tm,h'.os.trans h.os,h'.tape.trans h.tape,h'.output.trans h.output,Nat.le_trans h.size h'.size,?_,?_,?_,?_,h'.nx,fun o ho=>(h'.fj o (Nat.lt_of_lt_of_le ho h.low)).trans (h.fj o ho),Nat.le_trans h.low h'.low,fun o B b ho hB hb=>?_⟩,fun c v hv=>VR.bp (cF.same fun b hb=>(hFe b).1 hb) _ _ (fun _ _=>rfl) hv⟩
 ·intro b hb hno
  rw[hown b (Nat.lt_of_lt_of_le hb h.size) fun hx=>?_]
  ·exact h.frame b hb hno
  ·rcases hownC b hx with h1 | h1
   ·exact hno h1
   ·omega
 ·intro t c hc
  obtain⟨v,k1,k2⟩:=h.env t c hc
  refine⟨v,k1,VR.bp hkw _ _ (fun o ho=>?_) k2⟩
  refine h'.fj o (Nat.lt_of_not_le fun hle=>?_)
  obtain⟨B,hB⟩:=VR.refs _ _ o k2 ho
  rw[h.nx o hle] at hB;cases hB
 ·intro o ob ho
  rw[fT] at ho
  split at ho
  ·rename_i y hy
   cases ho
   obtain⟨B,m1,m2,m3,m4,m5⟩:=h'.obj o _ hy
   refine⟨B,m1,m2,m3,m4,fun b hb=>?_⟩
   obtain⟨cur,n1,n2,n3,n4,n5,n6⟩:=m5 b hb
   refine⟨cur,n1,n2,fun hf=>n3 (.inl hf),?_,n5,aS.bp (cF.same fun b hb=>(hFe b).1 hb) _ _ (fun _ _=>rfl) n6⟩
   rcases n4 with n4 | n4
   ·exact hownC b n4
   ·exact .inr (Nat.le_trans h.size n4)
  ·have hs:=hp.r _ _ ho
   obtain⟨B,m1,m2,m3,m4,m5⟩:=h.obj o ob hs
   refine⟨B,by rw[hsame (hlt hs)];exact m1,m2,m3,m4,fun b hb=>?_⟩
   obtain⟨cur,n1,n2,n3,n4,n5,n6⟩:=m5 b hb
   have hbl:=(Array.getElem?_eq_some_iff.1 n1).1
   have hno:¬ ∃ o' ob',assoc H o'=some ob'∧aV σ o'=some b:=by
    rintro⟨o',ob',ho',hb'⟩
    have:o'=o:=h.inj o' o ob' ob b (hp.l _ _ ho') hs hb' (by simp[aV,m1,hb])
    subst this
    exact hp.d _ _ _ ho' ho
   refine⟨cur,by rw[hown b hbl hno];exact n1,n2,n3,n4,n5,aS.bp hkw _ _ (fun p hpn=>?_) n6⟩
   refine h'.fj p (Nat.lt_of_not_le fun hle=>?_)
   obtain⟨B2,hB2⟩:=aS.refs _ _ p n6 hpn
   rw[h.nx p hle] at hB2;cases hB2
 ·intro o o' ob ob' b ho ho' hb hb'
  rw[fT] at ho ho'
  have cross:∀ {p q x y},assoc s1.heap p=some x→aV σ' p=some b→assoc rest q=some y→aV σ' q=some b→False:=fun {p q x y} h1 h2 h3 h4=>
   hnot p x b h1 h2 (.inr ⟨q,y,h3,(hrest h3).1 h4⟩)
  cases c1:assoc s1.heap o with
  | some y=>
   cases c2:assoc s1.heap o' with
   | some y'=>exact h'.inj o o' y y' b c1 c2 hb hb'
   | none=>
    rw[c2] at ho'
    exact (cross c1 hb ho' hb').elim
  | none=>
   rw[c1] at ho
   cases c2:assoc s1.heap o' with
   | some y'=>exact (cross c2 hb' ho hb).elim
   | none=>
    rw[c2] at ho'
    exact h.inj o o' ob ob' b (hp.r _ _ ho) (hp.r _ _ ho') ((hrest ho).1 hb) ((hrest ho').1 hb')
 ·rcases Nat.lt_or_ge o s.nx with hl | hge
  ·rw[hsame hl] at hB;exact h.new o B b ho hB hb
  ·rcases h'.new o B b hge hB hb with n4 | n4
   ·exact hownC b n4
   ·exact .inr (Nat.le_trans h.size n4)
theorem oH (ht0:ay P aq){o:Oper}{g:FuncId}{cs:List CV}{R:CV→St→Prop}{H rest:List (Nat×Ob)}(hp:mW H rest s.heap)(he:xP P C s o g cs)(hb:Body P aq g cs H s.nx R)(hR:∀ r s1,R r s1→∀ o ob ob',assoc s1.heap o=some ob→assoc rest o=some ob'→False)(h:aG C σ s a w)(K:Act→World→Prop)(Q:Exit→Act→World→Prop)
  (hK:∀ r s1 v w' σ',R r s1→aG C σ' ⟨s.env,s1.heap++rest,s1.nx⟩ a w'→VR w' (FB C σ' (s1.heap++rest)) σ' r v→(∀ p,p<s.nx→σ' p=σ p)→K (a.put o.dst v) w'):o.wp P a w K Q:=by
 obtain⟨fn,code,hf,hbody,hn,hlen,hT⟩:=hb
 obtain⟨vs,ent,hall⟩:=he σ a w h
 have hF:∀ b,FB C σ rest b→b<w.heap.size:=fun b hb=>xO h b ((qK hp).2 (.inl hb))
 have h0:=h.ll hp hF fn.ntmps hall hlen
 have hcalls:Calls P g vs.toArray w fun e w'=>∃ v r s',e=.returned v∧R r s'∧∃ σ',aG C σ' ⟨s.env,s'.heap++rest,s'.nx⟩ a w'∧VR w' (FB C σ' (s'.heap++rest)) σ' r v∧(∀ p,p<s.nx→σ' p=σ p):=by
  refine calls_of_wp hf hbody (wp_mono (hT (C.ll w σ H rest fn.ntmps hF s.nx) rfl rfl _ _ ⟨_,h0⟩) fun e a' w' ⟨s1,q,σ1,hr1⟩=>?_)
  have fin:aa (C.ll w σ H rest fn.ntmps hF s.nx) (fun s'=>∃ r,bw aq fn s'=some r∧R r s') s1→a'.defers=[]∧∃ v,(results fn a'.tmps).run P w'=.ok v w'∧(∃ v_1 r s',Ending.returned v=.returned v_1∧R r s'∧∃ σ',aG C σ' ⟨s.env,s'.heap++rest,s'.nx⟩ a w'∧VR w' (FB C σ' (s'.heap++rest)) σ' r v_1∧(∀ p,p<s.nx→σ' p=σ p)):=fun⟨s2,⟨r,q1,q2⟩,hl⟩=>by
   obtain⟨σ2,hr2⟩:=hl _ _ ⟨σ1,hr1⟩
   obtain⟨v,k1,k2⟩:=jl (P:=P) ht0 hr2 q1
   obtain⟨b1,b2⟩:=h.backF hp hr2 (hR r s2 q2)
   exact⟨hr2.nq,v,k1,v,r,s2,rfl,q2,σ2,b1,b2 _ _ k2,hr2.fj⟩
  cases e with
  | normal=>exact fin q
  | ret=>exact fin q
  | exit _=>exact q.elim
  | goto _=>exact q.elim
  | panic _=>exact q.elim
  | outgrown=>exact q.elim
 unfold Oper.wp
 rw[ent]
 refine hcalls.mono fun e w' ⟨v,r,s',he,hR,σ',hr',hv,ho⟩=>?_
 subst he
 exact hK r s' v w' σ' hR hr' hv ho
theorem Df (ht:ay P aq)(hmt:oK P mt)(hcl:kr P aq call)(ln:Cr P pc){i m:Nat}{o:Oper}{E:Ef}{rs:List Nat}{nb:Bool}{ab:Option (Nat×Nat)}{lo up:Nat}(h:rD aq mt ops call pc lo up m s o=some (E,rs,nb,ab))(hd:aU C.nt o.dst=true)(hi:ops[i]? = some o)
  (hag:dI ⟨o.looksAt ops,rs,nb,ab⟩ (fs s') (fs s)) (hr:aG C σ s' a w) (hm:σ m=none) (hm0:C.n0≤m) (hmx:m<s'.nx) {Q':Exit→Act→World→Prop} (K:Act→World→Prop)
  (hK:∀ a' w' σ' s'',fs s''=ap o.dst E (fs s')→aG C σ' s'' a' w'→(∀ p,p≠m→p<s'.nx→σ' p=σ p)→K a' w'):wpOp P ops Q' i K a w:=by
 have hslots:∀ t∈o.looksAt ops,assoc s'.env t=assoc s.env t:=hag.1
 have hobj:∀ p∈rs,assoc s'.heap p=assoc s.heap p:=hag.2.1
 have hev:=Dc hslots
 have hgd:=u5 (ops:=ops) hslots
 have hd':∀ t,o.dst=some t→t<a.tmps.size:=fun t e=>by rw[hr.tm];rw[e] at hd;simpa [aU] using hd
 unfold rD at h
 unfold wpOp
 simp only[hi]
 split at h
 ·cases h
 ·rename_i hg
  cases h
  rw[hg] at hgd
  have hw:Region.wanted o (yielded ops a.tmps)=false:=by
   unfold bU at hgd
   split at hgd
   ·cases hgd
   ·rename_i j want e
    split at hgd
    ·cases hgd
    rename_i t hj
    exact jQ ⟨σ,hr⟩ e hj hgd
  rw[if_neg (by simp[hw])]
  exact hK _ _ σ (s'.put o.dst (.cr [])) (rz _ _ _) (hr.put hd' (by simp only[VR,aS];exact⟨[],rfl,rfl⟩)) fun _ _ _=>rfl
 ·rename_i hg
  rw[hg] at hgd
  have hw:=eQ (ops:=ops) ⟨σ,hr⟩ hgd
  rw[if_pos hw]
  refine .inl ?_
  split at h
  ·rename_i c hu
   have hop:=gM hu
   split at h
   ·rename_i g cs hc
    have hcv:jz mt s' c=some (g,cs):=by
     rw[ss (fun x hx=>hev x (by rw[hop];exact hx)),hc]
    split at h
    ·rename_i r hp
     cases h
     split at hp
     ·rename_i htr
      have hP:=ln g cs _ hp
      exact CH (xP.to hmt hop hcv hP.1) htr hP hr _ _ fun v w' hr' hv=>hK _ _ σ (s'.put o.dst _) (rz _ _ _) (j4 hd hr' hv) fun _ _ _=>rfl
     ·cases hp
    ·split at h
     ·rename_i x H n hx
      split at h
      ·rename_i hn
       cases h
       obtain⟨hn,hin⟩:=hn
       have hB:=hcl _ _ _ _ _ _ _ hx
       have hE:jA P g:=by
        obtain⟨fn,c,h1,h2,h3,_⟩:=hB
        exact⟨fn,h1,h3,by simp[h2]⟩
       have hnn:s'.nx=s.nx:=hag.2.2.1 rfl
       have hag4:∀ p,ES lo up (eI cs) p=true→assoc s'.heap p=assoc s.heap p:=fun p hp=>by
        simp only[ES,Bool.or_eq_true,decide_eq_true_eq,List.contains_eq_mem] at hp
        rcases hp with (hp | hp) | hp
        ·exact hag.2.2.2 _ rfl p (.inl hp)
        ·exact hag.2.2.2 _ rfl p (.inr hp)
        ·exact hobj p hp
       have hsub:∀ p,assoc (qV lo up (eI cs) s.heap) p=if ES lo up (eI cs) p then assoc s'.heap p else none:=fun p=>by
        rw[mJ]
        split
        ·rename_i hp;rw[hag4 p hp]
        ·rfl
       have hparts:mW (qV lo up (eI cs) s.heap) (BT lo up (eI cs) s'.heap) s'.heap:=by
        refine⟨fun p y hp=>?_,fun p y hp=>?_,fun p y hp=>?_,fun p y z hp hq=>?_⟩
        ·rw[hsub] at hp
         split at hp
         ·exact hp
         ·cases hp
        ·rw[fK] at hp
         split at hp
         ·cases hp
         ·exact hp
        ·rw[hsub,fK]
         split
         ·exact .inl hp
         ·exact .inr hp
        ·rw[hsub] at hp
         rw[fK] at hq
         split at hp
         ·rename_i hi';rw[if_pos hi'] at hq;cases hq
         ·cases hp
       have hkeys:∀ p y,assoc H p=some y→ES lo up (eI cs) p=true:=fun p y hp=>by
        have:=List.all_eq_true.1 hin _ (bB _ _ _ hp)
        exact this
       rw[← hnn] at hB
       refine oH ht hparts (xP.to hmt hop hcv hE) hB (fun r s1 hR p y z hp hq=>?_) hr _ _ fun r s1 v w' σ' hR hr' hv hold=>?_
       ·obtain⟨_,e1,_⟩:=hR
        rw[e1] at hp
        rw[fK,if_pos (hkeys p y hp)] at hq
        cases hq
       ·obtain⟨rfl,e1,e2⟩:=hR
        refine hK _ _ σ' (eX ⟨s'.env,s1.heap++BT lo up (eI cs) s'.heap,s1.nx⟩ o.dst (some r)) ?_ (j4 hd hr' hv) fun p _ hlt=>hold p hlt
        refine eT (s:=s') (fun p=>?_) (by rw[e2,hnn];omega)
        rw[e1,fT,fK]
        have hdw:=G5 (qV lo up (eI cs) s.heap) H p
        unfold ku at hdw ⊢
        by_cases hi':ES lo up (eI cs) p=true
        ·rw[if_pos hi']
         cases hc2:assoc (sq (qV lo up (eI cs) s.heap) H) p with
         | some y=>
          rw[hc2] at hdw
          simp only at hdw ⊢
          rw[hdw]
          cases assoc H p<;>rfl
         | none=>
          rw[hc2] at hdw
          simp only at hdw ⊢
          rw[hsub,if_pos hi'] at hdw
          rw[hdw]
          cases assoc H p<;>rfl
        ·rw[if_neg hi']
         have hH:assoc H p=none:=by
          cases hc2:assoc H p with
          | none=>rfl
          | some y=>exact absurd (hkeys p y hc2) hi'
         rw[hH]
         simp only
         cases hc2:assoc (sq (qV lo up (eI cs) s.heap) H) p with
         | none=>rfl
         | some y=>
          exfalso
          have hS:assoc (qV lo up (eI cs) s.heap) p=none:=by rw[hsub,if_neg hi']
          exact Ca hS hH hc2
      ·cases h
     ·cases h
   ·cases h
  ·split at h
   ·rename_i c hq
    cases h
    have hq':da aq s' o.op=some c:=by
     by_cases hl:(∃ t x,o.op=.load t x)∨∃ t x lo hi mx,o.op=.slice t x lo hi mx
     ·refine wQ (s:=s) (fun x hx=>(hev x hx).symm) hq fun x hx v hv p ob hn hp=>?_
      rw[hobj p ?_]
      ·exact hp
      ·rcases hl with ⟨t,y,e⟩ | ⟨t,y,lo,hi',mx,e⟩
       ·have:FQ s o.op=Ij s o.op:=by rw[e];rfl
        rw[this];exact CY hx hv hn
       ·have:FQ s o.op=Ij s o.op:=by rw[e];rfl
        rw[this];exact CY hx hv hn
     ·rw[← rX (s:=s) o.op (fun x hx=>(hev x hx).symm) (fun t x e=>hl (.inl ⟨t,x,e⟩)) (fun t x lo hi mx e=>hl (.inr ⟨t,x,lo,hi,mx,e⟩))]
      exact hq
    obtain⟨z,k1,k2⟩:=yi ht hr o hq'
    unfold Oper.wp
    rw[k1]
    exact hK _ _ σ (s'.put o.dst c) (rz _ _ _) (j4 hd hr k2) fun _ _ _=>rfl
   ·split at h
    ·rename_i c rs' hv
     cases h
     unfold Dj at hv
     split at hv
     ·rename_i t u x hop
      split at hv
      ·rename_i c' hc
       cases hv
       have hx:ev s' x=ev s x:=hev x (by rw[hop];simp[Op.operands])
       have hc2:qC aq s' t u x=some c:=by
        rw[← hc]
        unfold qC
        rw[hx]
        cases hxv:ev s x with
        | none=>rfl
        | some v=>
         have:cells? s' v=cells? s v:=cells?_view fun p hp=>hobj p (by simp only[hxv];exact sY hp)
         cases dz aq t with
         | none=>cases v<;>rfl
         | some d=>
          cases dz aq u with
          | none=>cases v<;>cases d<;>rfl
          | some d'=>cases v<;>cases d<;>cases d'<;>first | rfl | simp only[this]
       obtain⟨z,k1,k2⟩:=AW ht hr hc2
       have k3:(execOp a.eval o).run P w=.ok (.value z) w:=by
        simp[execOp,hop,k1]
       unfold Oper.wp
       rw[k3]
       exact hK _ _ σ (s'.put o.dst c) (rz _ _ _) (j4 hd hr k2) fun _ _ _=>rfl
      ·cases hv
     ·cases hv
    split at h
    ·rename_i ob f hv
     cases h
     have hv':qD aq s' o.op=some (ob,f):=by rw[Cn hev,hv]
     obtain⟨z,w',B,k1,k2⟩:=D8 ht hr hm hm0 hmx hd' hv'
     unfold Oper.wp
     rw[k1]
     refine hK _ _ _ _ ?_ k2 fun p hp _=>by simp[sig,hp]
     exact eT (s:=s') (k:=0) (d:=o.dst) (r:=some (f m)) (fun p=>by simp only[assoc,ku];by_cases e:m=p<;>simp[e]) rfl
    ·split at h
     ·rename_i t x v hop
      split at h
      ·rename_i p ob hc
       cases h
       have hx:ev s' x=ev s x:=hev x (by rw[hop];simp[Op.operands])
       have hv:ev s' v=ev s v:=hev v (by rw[hop];simp[Op.operands])
       unfold Lg at hc
       split at hc
       ·rename_i p' off c i' h1 h2 h3
        split at hc
        ·cases hc
        ·rename_i ob' hob
         split at hc
         ·cases hc
         ·rename_i htup
          split at hc
          ·rename_i hlen
           cases hc
           have hob':assoc s'.heap p=some ob':=by rw[hobj p yAa];exact hob
           have hst:nX aq s' t x v=some { s' with heap:=qQ s'.heap p { ob' with cells:=eO ob'.cells off c.cells } }:=by
            unfold nX
            rw[hx,hv,h1,h2,h3]
            simp only[hob']
            rw[if_neg htup,if_pos hlen]
           obtain⟨w',k1,k2,_⟩:=xC ht hr hop hst
           unfold Oper.wp
           rw[k1]
           refine hK _ _ σ _ ?_ (k2.del undef) fun _ _ _=>rfl
           refine eT (s:=s') (k:=0) (d:=o.dst) (r:=none) (fun q=>?_) rfl
           rw[eP]
           simp only[ku,assoc]
           by_cases e:p=q
           ·rw[if_pos e,if_pos e,← e,hob'];rfl
           ·rw[if_neg e,if_neg e]
          ·cases hc
       ·cases hc
      ·cases h
     ·rename_i cl hop
      split at h
      ·rename_i x y t t' hcl2 ha hts
       split at h
       ·rename_i e
        subst e
        split at h
        ·rename_i p q hp hq
         split at h
         ·rename_i ob k rm hc
          cases h
          have toA:∀ {α:Type} {x:Array α} {l:List α},x.toList=l→x=l.toArray:=fun {α x l} e=>by rw[← e]
          have hargs:=toA ha
          have hx:ev s' x=some p:=by rw[hev x (by rw[hop];simp[Op.operands,Call.operands,hargs])];exact hp
          have hy:ev s' y=some q:=by rw[hev y (by rw[hop];simp[Op.operands,Call.operands,hargs])];exact hq
          have hn:s'.nx=s.nx:=hag.2.2.1 rfl
          have hc':qH aq t p (zW s' p) (cells? s' q)=some (ob,k,rm):=by
           rw[D4 (fun o' ho'=>hobj o' (List.mem_append_left _ (sY ho'))),cells?_view (fun o' ho'=>hobj o' (List.mem_append_right _ (sY ho')))]
           exact hc
          have happ:=Cp (d:=o.dst) hx hy hc'
          obtain⟨z,w',B,k1,k2⟩:=vp ht hr hd' hop hcl2 hargs (toA hts) happ
          unfold Oper.wp
          rw[k1]
          refine hK _ _ _ _ ?_ k2 fun p hp hlt=>by simp[sig,Nat.ne_of_lt hlt]
          have hpp:fs (eX ⟨s'.env,(s'.nx,ob)::I5 s'.heap rm,s'.nx+1⟩ o.dst (some (.bx s'.nx 0 k)))=ap o.dst ⟨some (.bx s'.nx 0 k),(s'.nx,some ob)::rmL rm,1⟩ (fs s'):=by
           refine eT (s:=s') (k:=1) (fun r=>?_) rfl
           simp only[assoc,ku]
           by_cases e:s'.nx=r
           ·rw[if_pos e,if_pos e]
           ·rw[if_neg e,if_neg e]
            cases rm with
            | none=>simp only[I5,rmL,assoc]
            | some o2=>
             simp only[I5,rmL,eZ,assoc]
             by_cases e2:o2=r
             ·rw[if_pos e2,if_pos e2]
             ·rw[if_neg e2,if_neg e2]
          rw[← hn]
          exact hpp
         ·cases h
        ·cases h
       ·cases h
      ·cases h
     ·cases h
end
abbrev Er:=Ef×List Nat×Bool×Option (Nat×Nat)
instance : Inhabited Er := ⟨(⟨none, [], 0⟩, [], false, none)⟩
def gQ (o:Oper):Bool:=match o.op with
 | .alloc _=>true
 | .box _ _=>true
 | .buildSlice _ _ _=>true
 | .makeSlice _ _ _=>true
 | .store _ _ _=>true
 | .call c=>match c.callee with
  | .builtin .append=>true
  | .builtin _=>false
  | _=>true
 | _=>false
def lM (o:Oper):Bool:=!gQ o && match o.op with
 | .load _ _=>false
 | .slice _ _ _ _ _=>false
 | .convert _ _ _=>false
 | _=>true
def F0 (ops:Array Oper):List Nat→List Nat→Bool
 | _,[]=>true
 | pre,i::r=>(match ops[i]? with
   | some o=>o.after.all fun e=>!Region.binds .any e || pre.contains e.on
   | none=>false) && F0 ops (i::pre) r
def wW (ops:Array Oper)(dyn:List (Nat×Nat))(i j:Nat):Bool:=match ops[i]?,ops[j]? with
 | some oi,some oj=>nu ops ops.size j i || (oi.apart ops oj && (dyn.contains (i,j) || (!gQ oi && !gQ oj) || lM oi || lM oj))
 | _,_=>false
def uA (ops:Array Oper)(dyn:List (Nat×Nat)):List Nat→Bool
 | []=>true
 | i::r=>(r.all fun j=>wW ops dyn i j) && uA ops dyn r
def tU (ops:Array Oper)(ord:List Nat)(dyn:List (Nat×Nat)):Bool:=
 decide ord.Nodup && ((List.range ops.size).all fun j=>ord.contains j) && (ord.all fun i=>decide (i<ops.size)) && F0 ops [] ord && uA ops dyn ord
def BJ (w:List (Nat×Option Ob)):Option (Nat×Nat)→Bool
 | none=>true
 | some r=>w.all fun p=>decide (r.1≤p.1) && decide (p.1<r.2)
theorem iI (w:List (Nat×Option Ob)):BJ w none=true:=rfl
theorem nH (r:Option (Nat×Nat)):BJ [] r=true:=by cases r<;>rfl
def ml (x y:Er):Bool:=
 (x.1.w.all fun p=>!y.2.1.contains p.1 && (y.1.w.all fun q=>q.1 != p.1)) && (y.1.w.all fun q=>!x.2.1.contains q.1) && (!y.2.2.1 || x.1.k == 0) && (!x.2.2.1 || y.1.k == 0) && BJ x.1.w y.2.2.2 && BJ y.1.w x.2.2.2
def dynB (l:List (Nat×Er))(dyn:List (Nat×Nat)):Bool:=dyn.all fun p=>match assoc l p.1,assoc l p.2 with
 | some x,some y=>ml x y
 | _,_=>false
def Fe (aq:List (Nat×TI))(mt:kq)(nt:Nat)(ops:Array Oper)(call:gf)(pc:FuncId→List CV→Option CV)(N:Nat):List Nat→St→Option (List (Nat×Er)×St)
 | [],s=>some ([],s)
 | i::r,s=>match ops[i]? with
  | none=>none
  | some o=>if aU nt o.dst=true then match rD aq mt ops call pc N (N+ops.size) (N+i) s o with
    | none=>none
    | some x=>match Fe aq mt nt ops call pc N r (Lu o.dst x.1 s) with
     | none=>none
     | some (l,s')=>some ((i,x)::l,s')
   else none
def EZ (aq:List (Nat×TI))(mt:kq)(nt:Nat)(ops:Array Oper)(call:gf)(pc:FuncId→List CV→Option CV)(ord:List Nat)(dyn:List (Nat×Nat))(s:St):Option St:=
 match Fe aq mt nt ops call pc s.nx ord { s with nx:=s.nx+ops.size } with
 | none=>none
 | some (l,s')=>if dynB l dyn=true then some s' else none
section
variable {P:Program}{C:Cx}{s s':St}{ops:Array Oper}{aq:List (Nat×TI)}{mt:kq}{pc:FuncId→List CV→Option CV}{call:gf}
def oe (aq:List (Nat×TI))(mt:kq)(nt:Nat)(ops:Array Oper)(call:gf)(pc:FuncId→List CV→Option CV)(N:Nat)(res:Nat→Er):List Nat→St→St→Prop
 | [],s,s'=>s=s'
 | i::r,s,s'=>∃ o,ops[i]? = some o∧aU nt o.dst=true∧rD aq mt ops call pc N (N+ops.size) (N+i) s o=some (res i)∧oe aq mt nt ops call pc N res r (Lu o.dst (res i).1 s) s'
theorem oe.ext {nt N:Nat}{res res':Nat→Er}:∀ (l:List Nat) (s s':St),(∀ i∈l,res i=res' i)→oe aq mt nt ops call pc N res l s s'→oe aq mt nt ops call pc N res' l s s'
 | [],_,_,_,h=>h
 | i::r,s,s',he,⟨o,h1,h2,h3,h4⟩=>by
  have e:=he i yAa
  rw[e] at h3 h4
  exact⟨o,h1,h2,h3,oe.ext r _ s' (fun j hj=>he j (by simp[hj])) h4⟩
theorem Cy {nt N:Nat}:∀ (ord:List Nat) (s s':St) (l:List (Nat×Er)),ord.Nodup→Fe aq mt nt ops call pc N ord s=some (l,s')→oe aq mt nt ops call pc N (fun i=>(assoc l i).getD default) ord s s'
 | [],s,s',l,_,h=>by
  simp only[Fe,Option.some.injEq,Prod.mk.injEq] at h
  exact h.2
 | i::r,s,s',l,hn,h=>by
  rw[List.nodup_cons] at hn
  simp only[Fe] at h
  split at h
  ·cases h
  ·rename_i o ho
   split at h
   ·rename_i hd
    split at h
    ·cases h
    ·rename_i x hx
     split at h
     ·cases h
     ·rename_i l' s1 hr
      cases h
      have ih:=Cy r _ _ l' hn.2 hr
      have e0:((assoc ((i,x)::l') i).getD default)=x:=by simp[assoc]
      refine⟨o,ho,hd,by simp only[e0];exact hx,?_⟩
      simp only[e0]
      refine oe.ext r _ _ (fun j hj=>?_) ih
      have:i≠j:=fun e=>hn.1 (by subst e;exact hj)
      simp[assoc,this]
   ·cases h
theorem oe.at_ {nt N:Nat}{res:Nat→Er}:∀ (pre:List Nat) (i:Nat) (post:List Nat) (s s':St),oe aq mt nt ops call pc N res (pre++i::post) s s' →
  ∃ o sm,ops[i]? = some o∧aU nt o.dst=true∧rD aq mt ops call pc N (N+ops.size) (N+i) sm o=some (res i)∧fs sm=bH (bN ops) (fun j=>(res j).1) (fun _=>true) pre (fs s)
 | [],i,post,s,s',⟨o,h1,h2,h3,_⟩=>⟨o,s,h1,h2,h3,rfl⟩
 | k::pre,i,post,s,s',⟨o,h1,h2,h3,h4⟩=>by
  obtain⟨o',sm,k1,k2,k3,k4⟩:=oe.at_ pre i post _ s' h4
  refine⟨o',sm,k1,k2,k3,?_⟩
  rw[k4,yJ]
  have:bN ops k=o.dst:=by simp[bN,h1]
  simp only[bH,if_true,this]
theorem oe.fin {nt N:Nat}{res:Nat→Er}:∀ (l:List Nat) (s s':St),oe aq mt nt ops call pc N res l s s'→fs s'=bH (bN ops) (fun j=>(res j).1) (fun _=>true) l (fs s)
 | [],s,s',h=>by cases h;rfl
 | k::l,s,s',⟨o,h1,h2,h3,h4⟩=>by
  rw[oe.fin l _ s' h4,yJ]
  have:bN ops k=o.dst:=by simp[bN,h1]
  simp only[bH,if_true,this]
theorem gO {lo hi m:Nat}{o:Oper}{x:Er}(h:rD aq mt ops call pc lo hi m s o=some x)(hl:gQ o=false):x.1.w=[]∧x.1.k=0∧x.2.2.1=false∧x.2.2.2=none:=by
 unfold rD at h
 split at h
 ·cases h
 ·cases h;exact⟨rfl,rfl,rfl,rfl⟩
 ·split at h
  ·rename_i c hu
   have hop:=gM hu
   exfalso
   unfold cg at hu
   rw[hop] at hu
   simp only at hu
   simp only[gQ,hop] at hl
   cases hcl:c.callee<;>rw[hcl] at hu hl<;>simp at hu hl
  ·split at h
   ·cases h;exact⟨rfl,rfl,rfl,rfl⟩
   ·split at h
    ·cases h;exact⟨rfl,rfl,rfl,rfl⟩
    split at h
    ·rename_i ob f hv
     exfalso
     revert hl hv
     cases hop:o.op<;>simp[gQ,hop,qD,oc]
    ·split at h
     ·rename_i hop;simp[gQ,hop] at hl
     ·rename_i cl hop
      split at h
      ·rename_i hcl _ _
       simp[gQ,hop,hcl] at hl
      ·cases h
     ·cases h
theorem qb {lo hi m:Nat}{o:Oper}{x:Er}(h:rD aq mt ops call pc lo hi m s o=some x)(hl:lM o=true):x.2.1=[]:=by
 simp only[lM,Bool.and_eq_true,Bool.not_eq_true'] at hl
 obtain⟨hl,hs⟩:=hl
 unfold rD at h
 split at h
 ·cases h
 ·cases h;rfl
 ·split at h
  ·rename_i c hu
   have hop:=gM hu
   exfalso
   unfold cg at hu
   rw[hop] at hu
   simp only at hu
   simp only[gQ,hop] at hl
   cases hcl:c.callee<;>rw[hcl] at hu hl<;>simp at hu hl
  ·split at h
   ·cases h
    simp only
    unfold FQ
    split
    ·rename_i hop;simp[hop] at hs
    ·rename_i hop;simp[hop] at hs
    ·rfl
   ·split at h
    ·rename_i c' rs' hv
     exfalso
     unfold Dj at hv
     split at hv
     ·rename_i hop
      simp[hop] at hs
     ·cases hv
    split at h
    ·cases h;rfl
    ·split at h
     ·rename_i hop;simp[gQ,hop] at hl
     ·rename_i cl hop
      split at h
      ·rename_i hcl _ _
       simp[gQ,hop,hcl] at hl
      ·cases h
     ·cases h
theorem GB {d d':Option Tmp}{V V':List Nat}{x y:Er}(h:ml x y=true)(s1:∀ t,d=some t→t∉V')(s2:∀ t,d'=some t→t∉V)(s3:∀ t,d=some t→d'≠some t):EO d d' x.1 y.1 ⟨V,x.2.1,x.2.2.1,x.2.2.2⟩ ⟨V',y.2.1,y.2.2.1,y.2.2.2⟩:=by
 simp only[ml,Bool.and_eq_true,List.all_eq_true,Bool.not_eq_true',bne_iff_ne,Bool.or_eq_true,beq_iff_eq] at h
 obtain⟨⟨⟨⟨⟨h1,h2⟩,h3⟩,h4⟩,h5⟩,h6⟩:=h
 refine⟨s1,s2,s3,fun o z hz ho=>?_,fun o z hz ho=>?_,fun o z hz=>?_,fun hn=>?_,fun hn=>?_,fun rr hn=>?_,fun rr hn=>?_⟩
 ·have:=(h1 _ (bB _ _ _ hz)).1
  simp at this
  exact this ho
 ·have:=h2 _ (bB _ _ _ hz)
  simp at this
  exact this ho
 ·have:=(h1 _ (bB _ _ _ hz)).2
  cases h7:assoc y.1.w o with
  | none=>rfl
  | some u=>
   have h8:=this _ (bB _ _ _ h7)
   simp at h8
 ·rcases h3 with h3 | h3
  ·have hn':y.2.2.1=true:=hn
   rw[hn'] at h3;cases h3
  ·exact h3
 ·rcases h4 with h4 | h4
  ·have hn':x.2.2.1=true:=hn
   rw[hn'] at h4;cases h4
  ·exact h4
 ·have hn':y.2.2.2=Option.some rr:=hn
  rw[hn'] at h5
  simp only[BJ,List.all_eq_true,Bool.and_eq_true,decide_eq_true_eq] at h5
  exact fun o z hz=>h5 _ (bB _ _ _ hz)
 ·have hn':x.2.2.2=Option.some rr:=hn
  rw[hn'] at h6
  simp only[BJ,List.all_eq_true,Bool.and_eq_true,decide_eq_true_eq] at h6
  exact fun o z hz=>h6 _ (bB _ _ _ hz)
theorem rp:∀ (l acc:List Nat),F0 ops acc l=true→∀ pre i post,l=pre++i::post→∀ oi,ops[i]? = some oi→∀ e∈oi.after,Region.binds .any e=true→e.on∈acc∨e.on∈pre
 | [],_,_,pre,i,post,h,_,_,_,_,_=>by simp at h
 | k::r,acc,hx,pre,i,post,h,oi,hoi,e,he,hb=>by
  simp only[F0,Bool.and_eq_true] at hx
  cases pre with
  | nil=>
   simp only[List.nil_append,List.cons.injEq] at h
   obtain⟨rfl,_⟩:=h
   have h1:=hx.1
   rw[hoi] at h1
   simp only[Array.all_eq_true_iff_forall_mem] at h1
   have:=h1 e he
   simp only[hb,Bool.not_true,Bool.false_or,List.contains_eq_mem,decide_eq_true_eq] at this
   exact .inl this
  | cons p pre=>
   simp only[List.cons_append,List.cons.injEq] at h
   obtain⟨rfl,h⟩:=h
   rcases rp r (k::acc) hx.2 pre i post h oi hoi e he hb with h2 | h2
   ·rcases List.mem_cons.1 h2 with e2 | h2
    ·exact .inr (by simp[e2])
    ·exact .inl h2
   ·exact .inr (List.mem_cons_of_mem _ h2)
theorem kL {dyn:List (Nat×Nat)}:∀ (l:List Nat),uA ops dyn l=true→∀ pre i post,l=pre++i::post→∀ j∈post,wW ops dyn i j=true
 | [],_,pre,i,post,h,_,_=>by simp at h
 | k::r,hx,pre,i,post,h,j,hj=>by
  simp only[uA,Bool.and_eq_true,List.all_eq_true] at hx
  cases pre with
  | nil=>
   simp only[List.nil_append,List.cons.injEq] at h
   obtain⟨rfl,rfl⟩:=h
   exact hx.1 j hj
  | cons p pre=>
   simp only[List.cons_append,List.cons.injEq] at h
   exact kL r hx.2 pre i post h.2 j hj
theorem T.trace (ht:ay P aq)(hmt:oK P mt)(hcl:kr P aq call)(ln:Cr P pc)(hm:P.follows .mixedOrders=true){id:Nat}{ord:List Nat}{dyn:List (Nat×Nat)}(hS:tU ops ord dyn=true)(h:EZ aq mt C.nt ops call pc ord dyn s=Option.some s') :
  T P C (.region id ops true) s fun e x=>e=.normal∧x=s':=by
 intro a w ⟨σ,hr⟩
 unfold EZ at h
 split at h
 ·cases h
 rename_i l sF hrun
 split at h
 ·rename_i hdyn
  cases h
  simp only[tU,Bool.and_eq_true,decide_eq_true_eq,List.all_eq_true,List.contains_eq_mem] at hS
  obtain⟨⟨⟨⟨hn,hcov⟩,hlt⟩,hox⟩,hpx⟩:=hS
  have hcov':∀ j,j<ops.size→j∈ord:=fun j hj=>hcov j (List.mem_range.2 hj)
  have hT:=Cy ord _ _ l hn hrun
  generalize hres:(fun i=>(assoc l i).getD default)=res at hT
  let x0:FS:=fs { s with nx:=s.nx+ops.size }
  let V:Nat→Vw:=fun i=>⟨(match ops[i]? with | Option.some o=>o.looksAt ops | none=>[]),(res i).2.1,(res i).2.2.1,(res i).2.2.2⟩
  let R:Array Bool→FS→Act→World→Prop:=fun listed x a w=>∃ s σ',fs s=x∧aG C σ' s a w∧x0.n≤s.nx∧∀ j,j<ops.size→listed.getD j false=false→σ' (x0.n-ops.size+j)=none
  have hN:x0.n-ops.size=s.nx:=by simp only[x0,fs];omega
  have hlow:=hr.low
  have hstart:aG C σ { s with nx:=s.nx+ops.size } a { w with drawn:=w.drawn+1 }:=by
   obtain⟨σ2,h2⟩:Rel C s a { w with drawn:=w.drawn+1 }:=Rel.drew ⟨σ,hr⟩
   exact⟨hr.nq,hr.tm,hr.os,hr.tape,hr.output,hr.size,hr.frame,fun t c hc=>(by
    obtain⟨v,k1,k2⟩:=hr.env t c hc
    exact⟨v,k1,VR.bp mj c v (fun _ _=>rfl) k2⟩),fun o ob ho=>(by
    obtain⟨B,m1,m2,m3,m4,m5⟩:=hr.obj o ob ho
    refine⟨B,m1,m2,m3,m4,fun b hb=>?_⟩
    obtain⟨cur,n1,n2,n3,n4,n5,n6⟩:=m5 b hb
    exact⟨cur,n1,n2,n3,n4,n5,aS.bp mj _ _ (fun _ _=>rfl) n6⟩),hr.inj,fun o ho=>hr.nx o (by simp only at ho ⊢;omega),hr.fj,by simp only;omega,hr.new⟩
  refine wp_mono (Q:=fun e a' w'=>e=.normal∧Rel C s' a' w') (wp_region_any hm ?_) (fun e a' w' ⟨he,hr'⟩=>⟨s',⟨he,rfl⟩,hr'⟩)
  have hdst:∀ {k ok},ops[k]? = Option.some ok→bN ops k=ok.dst:=fun {k ok} h=>by simp[bN,h]
  refine wA (P:=P) (ops:=ops) (ord:=ord) (dst:=bN ops) (E:=fun j=>(res j).1) (V:=V) (x0:=x0) (R:=R) (Q':=fun e a' w'=>e=.normal∧Rel C s' a' w') hn hcov' hlt ?_ ?_ ?_ ?_ ops.size _ _ _ yAa ?_ ?_ ?_
  ·intro pre i post ho oi hoi e he hb
   rcases rp ord [] hox pre i post ho oi hoi e he hb with h1 | h1
   ·cases h1
   ·exact h1
  ·intro pre i post ho j hj
   have hp:=kL ord hpx pre i post ho j hj
   unfold wW at hp
   split at hp
   ·rename_i oi oj hoi hoj
    simp only[Bool.or_eq_true,Bool.and_eq_true] at hp
    rcases hp with hp | ⟨hap,hp⟩
    ·exact .inl (gw _ _ _ hp)
    ·refine .inr ?_
     obtain⟨a1,a2,a3⟩:=Oper.apart_spec hap
     obtain⟨o1,sm1,q1,q2,q3,q4⟩:=oe.at_ pre i post _ _ (ho ▸ hT)
     have:o1=oi:=Option.some.inj (q1.symm.trans hoi)
     subst this
     obtain⟨p1,p2,hpp⟩:=List.append_of_mem hj
     have ho2:ord=(pre++i::p1)++j::p2:=by rw[ho,hpp];simp
     obtain⟨o2,sm2,r1,r2,r3,r4⟩:=oe.at_ (pre++i::p1) j p2 _ _ (ho2 ▸ hT)
     have:o2=oj:=Option.some.inj (r1.symm.trans hoj)
     subst this
     have hV:V i=⟨o1.looksAt ops,(res i).2.1,(res i).2.2.1,(res i).2.2.2⟩:=by simp only[V,hoi]
     have hV':V j=⟨o2.looksAt ops,(res j).2.1,(res j).2.2.1,(res j).2.2.2⟩:=by simp only[V,hoj]
     rw[hV,hV',hdst hoi,hdst hoj]
     have hb:ml (res i) (res j)=true:=by
      rcases hp with ((hp | hp) | hp) | hp
      ·have hm:=List.all_eq_true.1 hdyn (i,j) (by simpa using hp)
       simp only at hm
       rw[← hres]
       split at hm
       ·rename_i x y h1 h2
        simp only[h1,h2,Option.getD_some]
        exact hm
       ·cases hm
      ·simp only[Bool.not_eq_true'] at hp
       obtain⟨u1,u2,u3,u4⟩:=gO q3 hp.1
       obtain⟨v1,v2,v3,v4⟩:=gO r3 hp.2
       simp[ml,iI,u1,u2,u3,u4,v1,v2,v3,v4]
      ·have hl:gQ o1=false:=by simp only[lM,Bool.and_eq_true,Bool.not_eq_true'] at hp;exact hp.1
       obtain⟨u1,u2,u3,u4⟩:=gO q3 hl
       simp[ml,nH,iI,u1,u2,u3,u4,qb q3 hp]
      ·have hl:gQ o2=false:=by simp only[lM,Bool.and_eq_true,Bool.not_eq_true'] at hp;exact hp.1
       obtain⟨u1,u2,u3,u4⟩:=gO r3 hl
       simp[ml,nH,iI,u1,u2,u3,u4,qb r3 hp]
     exact GB hb a1 a3 a2
   ·cases hp
  ·intro pre i post ho listed x a w K hsz hui ⟨s1,σ1,e1,hr1,hle,hfree⟩ hag hK
   obtain⟨o,sm,q1,q2,q3,q4⟩:=oe.at_ pre i post _ _ (ho ▸ hT)
   have hil:=hlt i (by rw[ho];simp)
   have hV:V i=⟨o.looksAt ops,(res i).2.1,(res i).2.2.1,(res i).2.2.2⟩:=by simp only[V,q1]
   subst e1
   rw[hV,← q4] at hag
   have hx0:x0.n=s.nx+ops.size:=rfl
   refine Df ht hmt hcl ln (m:=s.nx+i) q3 q2 q1 hag hr1 (by have:=hfree i hil hui;rwa [hN] at this) yA yA K fun a' w' σ' s'' h1 h2 h3=>?_
   refine hK a' w' ⟨s'',σ',by rw[h1,hdst q1],h2,?_,fun j hj hl=>?_⟩
   ·have:(fs s'').n=(fs s1).n+(res i).1.k:=by rw[h1];rfl
    simp only[fs] at this
    omega
   ·rw[hN]
    have hij:i≠j:=fun e=>by
     subst e
     rw[Array.getD_eq_getD_getElem?] at hl
     simp[hsz,hil] at hl
    rw[h3 (s.nx+j) yA yA]
    have:=hfree j hj yC
    rwa [hN] at this
  ·rintro listed a w ⟨s1,σ1,e1,hr1,_,_⟩
   refine⟨rfl,σ1,hr1.He ?_⟩
   rw[e1,oe.fin ord _ _ hT]
  ·intro j oj _ hl
   rw[jj] at hl;cases hl
  ·have:ord.length=ops.size:=by
    have h1:ord.Perm (List.range ops.size):=(List.perm_ext_iff_of_nodup hn List.nodup_range).2 fun j=>⟨fun hj=>List.mem_range.2 (hlt j hj),fun hj=>hcov' j (List.mem_range.1 hj)⟩
    simpa using h1.length_eq
   rw[← this,List.countP_eq_length]
   intro j _
   rw[jj];rfl
  ·refine⟨{ s with nx:=s.nx+ops.size },σ,?_,hstart,Nat.le_refl _,fun j hj _=>?_⟩
   ·rw[eU ord x0 (L':=fun _=>false) fun i _=>jj _ _,mr]
   ·rw[hN]
    exact hr.nx _ yA
 ·cases h
end
def renV (o q:Nat):CV→CV
 | .bx p off n=>if p=o then .bx q off n else .bx p off n
 | c=>c
def renOk (o q:Nat):CV→Bool
 | .bx p _ _=>p == o || decide (p<q)
 | c=>a8 q c
def renE (o q:Nat):List (Nat×CV)→List (Nat×CV)
 | []=>[]
 | (t,c)::r=>(t,renV o q c)::renE o q r
attribute [simp] renV renOk renE
end Go.Can
