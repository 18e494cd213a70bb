/- A region that draws, run in one order: what the other orders -/
import Derived.Test.YtlkmbdfhdknlgaaGreatDoorZ08
namespace Go.Can
open Go.RowKit
def wA (P:Program)(pc:FuncId→List CV→Option CV):Prop:=∀ g cs r,pc g cs=some r→ae P g cs r
section
variable {P:Program}{C:Cx}{σ:Nat→Option OB}{s s':St}{a:Act}{w:World}{ops:Array Oper}{av:List (Nat×TI)}{mt:hZ}{pc:FuncId→List CV→Option CV}{call:fL}
theorem yP {o:Oper}(h:∀ t∈o.looksAt ops,assoc s'.env t=assoc s.env t):∀ x∈o.op.operands,ev s' x=ev s x:=fun x hx=>by
 cases x with
 | tmp t=>exact h t (List.mem_append_left _ (List.mem_filterMap.2 ⟨.tmp t,by simpa using hx,rfl⟩))
 | _=>rfl
theorem pB {o:Oper}(h:∀ t∈o.looksAt ops,assoc s'.env t=assoc s.env t):b9 ops s' o=b9 ops s o:=by
 unfold b9
 cases hg:o.guard with
 | none=>rfl
 | some q=>
  obtain⟨j,want⟩:=q;simp only
  cases hj:(ops[j]?).bind (·.dst) with
  | none=>rfl
  | some t=>simp only;rw[h t (by simp[Oper.looksAt,hg,hj])]
theorem sM {c:Call}(h:∀ x∈c.operands,ev s' x=ev s x):iF mt s' c=iF mt s c:=by
 have ha:zk s' c.args.toList=zk s c.args.toList:=jG _ fun x hx=>h x (by simp only[Call.operands,Array.mem_append];exact .inr (by simpa using hx));unfold iF;split
 ·rename_i f hf;unfold bB;rw[hf];simp only;rw[h f (by simp[Call.operands,hf]),ha]
 ·rename_i r name hr;rw[h r (by simp[Call.operands,hr]),ha]
 ·rfl
theorem CQ {op:Op}(h:∀ x∈op.operands,ev s' x=ev s x):qQ av s' op=qQ av s op:=by
 cases op<;>simp only[qQ]<;>first | exact CP _ h | skip
 case makeSlice t l c=>rw[h l Qs,h c Qs]
theorem cells?_view {c:CV}(h:∀ o,names o c=true→assoc s'.heap o=assoc s.heap o):cells? s' c=cells? s c:=by
 unfold cells?;split<;>first | rfl | skip
 rename_i o off n;rw[h o (by simp[names])]
theorem EY {c:CV}(h:∀ o,names o c=true→assoc s'.heap o=assoc s.heap o):Ae s' c=Ae s c:=by
 unfold Ae;split<;>first | rfl | skip
 rename_i o off n;rw[h o (by simp[names])]
theorem jQ {o:Oper}(hd:bt C.nt o.dst=true)(h:aK C σ s a w){c:CV}{v:Value}(hv:VR w (FB C σ s.heap) σ c v):aK C σ (s.put o.dst c) (a.put o.dst v) w:=
 h.put (fun t e=>by rw[h.tm];rw[e] at hd;simpa [bt] using hd) hv
theorem gH {s:St}{H:List (Nat×Ob)}{n k:Nat}{d:Option Tmp}{r:Option CV}{w:List (Nat×Option Ob)}(hH:∀ p,assoc H p=ka (assoc s.heap) w p)(hn:n=s.nx+k):fs (qo ⟨s.env,H,n⟩ d r)=ap d ⟨r,w,k⟩ (fs s):=by
 unfold fs ap;congr 1
 ·funext t;exact vD t
 ·funext p;rw[og.1];exact hH p
 ·rw[og.2];exact hn
def Cx.kY (C:Cx)(w:World)(σ:Nat→Option OB)(H rest:List (Nat×Ob))(nt:Nat)(hF:IX w (FB C σ rest) (fun b=>∃ o ob,assoc H o=some ob∧aU σ o=some b))(n:Nat):Cx:=
 ⟨w,FB C σ rest,fun b=>∃ o ob,assoc H o=some ob∧aU σ o=some b,hF,nt,σ,n⟩
structure pe (H rest G:List (Nat×Ob)):Prop where
 l:∀ o ob,assoc H o=some ob→assoc G o=some ob
 r:∀ o ob,assoc rest o=some ob→assoc G o=some ob
 lr:∀ o ob,assoc G o=some ob→assoc H o=some ob∨assoc rest o=some ob
 d:∀ o ob Ov,assoc H o=some ob→assoc rest o=some Ov→False
theorem nL {H rest G:List (Nat×Ob)}(hp:pe H rest G){b:Nat}:FB C σ G b↔FB C σ rest b∨∃ o ob,assoc H o=some ob∧aU σ o=some b:=by
 constructor
 ·rintro (h | ⟨o,ob,ho,hb⟩)
  ·exact .inl (.inl h)
  ·rcases hp.lr o ob ho with h | h
   ·exact .inr ⟨o,ob,h,hb⟩
   ·exact .inl (.inr ⟨o,ob,h,hb⟩)
 ·rintro ((h | ⟨o,ob,ho,hb⟩) | ⟨o,ob,ho,hb⟩)
  ·exact .inl h
  ·exact .inr ⟨o,ob,hp.r o ob ho,hb⟩
  ·exact .inr ⟨o,ob,hp.l o ob ho,hb⟩
theorem aK.kY (h:aK C σ s a w){H rest:List (Nat×Ob)}(hp:pe H rest s.heap)(hF:IX w (FB C σ rest) (fun b=>∃ o ob,assoc H o=some ob∧aU σ o=some b))(nt:Nat){args:List CV}{vs:List Value}(hv:aT w (FB C σ s.heap) σ args vs)(ha:args.length≤nt) :
  aK (C.kY w σ H rest nt hF s.nx) σ ⟨(enter args).env,H,s.nx⟩ { tmps:=vs.toArray++Array.replicate (nt-vs.toArray.size) undef,defers:=[] } w:=by
 have hl:=aT.length _ _ hv;have TQ:∀ b,FB (C.kY w σ H rest nt hF s.nx) σ H b→FB C σ s.heap b:=fun b hb=>by
  rw[nL hp];exact hb
 refine⟨rfl,by simp[Cx.kY];omega,rfl,rfl,rfl,Nat.le_refl _,fun _ _ _=>rfl,?_,?_,fun o o' ob Ov b h1 h2=>h.inj o o' ob Ov b (hp.l _ _ h1) (hp.l _ _ h2),h.nx,fun _ _=>rfl,Nat.le_refl _,fun o B b ho hB _=>(by rw[h.nx o ho] at hB;cases hB)⟩
 ·intro t c hc;obtain⟨_,h2⟩:=fS args 0 t c hc;obtain⟨v,h3,h4⟩:=aT.get _ _ hv t c (by simpa using h2);refine⟨v,?_,VR.bl (cz.same TQ) _ _ (fun _ _=>rfl) h4⟩;have Oa:=(List.getElem?_eq_some_iff.1 h3).1;simp only;rw[Array.getElem?_append_left (by simpa using Oa)]
  simpa using h3
 ·intro o ob ho;obtain⟨B,m1,m2,m3,m4,m5⟩:=h.obj o ob (hp.l o ob ho);refine⟨B,m1,m2,m3,m4,fun b hb=>?_⟩;obtain⟨cur,n1,n2,n3,n4,n5,n6⟩:=m5 b hb;refine⟨cur,n1,n2,?_,.inl ⟨o,ob,ho,by simp[aU,m1,hb]⟩,n5,aT.bl (cz.same TQ) _ _ (fun _ _=>rfl) n6⟩;rintro (hf | ⟨o',Ov,OI,Oy⟩)
  ·exact n3 hf
  ·have:o'=o:=h.inj o' o Ov ob b (hp.r _ _ OI) (hp.l _ _ ho) Oy (by simp[aU,m1,hb]);subst this;exact hp.d _ _ _ ho OI
theorem aK.backF (h:aK C σ s a w){H rest:List (Nat×Ob)}(hp:pe H rest s.heap){hF:IX w (FB C σ rest) (fun b=>∃ o ob,assoc H o=some ob∧aU σ o=some b)}{nt:Nat}{σ':Nat→Option OB}{s1:St}{a':Act}{w':World}(h':aK (C.kY w σ H rest nt hF s.nx) σ' s1 a' w')(hd:∀ o ob Ov,assoc s1.heap o=some ob→assoc rest o=some Ov→False) :
  aK C σ' ⟨s.env,s1.heap++rest,s1.nx⟩ a w'∧∀ c v,VR w' (FB (C.kY w σ H rest nt hF s.nx) σ' s1.heap) σ' c v→VR w' (FB C σ' (s1.heap++rest)) σ' c v:=by
 have OC:∀ b,b<w.heap.size→(¬ ∃ o ob,assoc H o=some ob∧aU σ o=some b)→w'.heap[b]? = w.heap[b]?:=fun b hb hn=>h'.frame b hb hn;have Oa:∀ {o ob},assoc s.heap o=some ob→o<s.nx:=fun {o ob} ho=>by
  refine Nat.lt_of_not_le fun hle=>?_;obtain⟨B,e1,_⟩:=h.obj o ob ho;rw[h.nx o hle] at e1;cases e1
 have O1:∀ {o},o<s.nx→σ' o=σ o:=fun {o} ho=>h'.gO o ho;have QN:∀ o ob b,assoc s1.heap o=some ob→aU σ' o=some b→(∃ o ob,assoc H o=some ob∧aU σ o=some b)∨w.heap.size≤b:=fun o ob b ho hb=>by
  obtain⟨B,m1,_,_,_,m5⟩:=h'.obj o ob ho;obtain⟨cur,_,_,_,n4,_⟩:=m5 b Wb;exact n4
 have hnot:∀ o ob b,assoc s1.heap o=some ob→aU σ' o=some b→¬ FB C σ rest b:=fun o ob b ho hb=>by
  obtain⟨B,m1,_,_,_,m5⟩:=h'.obj o ob ho;obtain⟨cur,_,_,n3,_⟩:=m5 b Wb;exact n3
 have Qp:∀ {o ob b},assoc rest o=some ob→(aU σ' o=some b↔aU σ o=some b):=fun {o ob b} ho=>by
  unfold aU;rw[O1 (Oa (hp.r _ _ ho))]
 have hFe:∀ b,FB C σ' (s1.heap++rest) b↔FB (C.kY w σ H rest nt hF s.nx) σ' s1.heap b:=fun b=>by
  constructor
  ·rintro (hb | ⟨o,ob,ho,hb⟩)
   ·exact .inl (.inl hb)
   ·rw[gK] at ho;split at ho
    ·rename_i y hy;cases ho;exact .inr ⟨o,_,hy,hb⟩
    ·exact .inl (.inr ⟨o,ob,ho,(Qp ho).1 hb⟩)
  ·rintro ((hb | ⟨o,ob,ho,hb⟩) | ⟨o,ob,ho,hb⟩)
   ·exact .inl hb
   ·refine .inr ⟨o,ob,?_,(Qp ho).2 hb⟩;rw[gK];split
    ·rename_i y hy;exact (hd _ _ _ hy ho).elim
    ·exact ho
   ·exact .inr ⟨o,ob,by rw[gK,ho],hb⟩
 have hkw:cz w w' (FB C σ s.heap) (FB C σ' (s1.heap++rest)):=by
  have OY:∀ b,¬ FB C σ s.heap b→¬ ∃ o ob,assoc H o=some ob∧aU σ o=some b:=fun b hf hx=>hf ((nL hp).2 (.inr hx));have hF2:∀ b,b<w.heap.size→¬ FB C σ s.heap b→¬ FB C σ' (s1.heap++rest) b:=fun b hb hf hx=>by
   rw[hFe] at hx;rcases hx with hx | ⟨o,ob,ho,Rq⟩
   ·exact hf ((nL hp).2 (.inl hx))
   ·rcases QN o ob b ho Rq with h1 | h1
    ·exact OY b hf h1
    ·omega
  refine⟨fun ad u hf hu=>?_,fun r _ hf hu _=>?_⟩
  ·have hl:=World.block_lt_of_cell? w ad hu;exact⟨by rw[World.cell?_of_block (w:=w) (OC ad.block hl (OY _ hf))];exact hu,hF2 _ hl hf⟩
  ·have hl:=(Array.getElem?_eq_some_iff.1 hu).1;exact⟨by rw[OC r hl (OY _ hf)];exact hu,hF2 _ hl hf⟩
 have Uj:∀ b,(∃ o ob,assoc H o=some ob∧aU σ o=some b)→C.own b∨C.w0.heap.size≤b:=fun b ⟨o,ob,ho,hb⟩=>by
  obtain⟨B,m1,_,_,_,m5⟩:=h.obj o ob (hp.l _ _ ho);obtain⟨cur,_,_,_,n4,_⟩:=m5 b Wb;exact n4
 refine⟨⟨h.oA,h.tm,h'.os.trans h.os,h'.tape.trans h.tape,h'.output.trans h.output,Nat.le_trans h.size h'.size,?_,?_,?_,?_,h'.nx,fun o ho=>(h'.gO o (Nat.lt_of_lt_of_le ho h.low)).trans (h.gO o ho),Nat.le_trans h.low h'.low,fun o B b ho hB hb=>?_⟩,fun c v hv=>VR.bl (cz.same fun b hb=>(hFe b).1 hb) _ _ (fun _ _=>rfl) hv⟩
 ·intro b hb OY;rw[OC b (Nat.lt_of_lt_of_le hb h.size) fun hx=>?_]
  ·exact h.frame b hb OY
  ·rcases Uj b hx with h1 | h1
   ·exact OY h1
   ·omega
 ·intro t c hc;obtain⟨v,k1,k2⟩:=h.env t c hc;refine⟨v,k1,VR.bl hkw _ _ (fun o ho=>?_) k2⟩;refine h'.gO o (Nat.lt_of_not_le fun hle=>?_);obtain⟨B,hB⟩:=VR.refs _ _ o k2 ho;rw[h.nx o hle] at hB;cases hB
 ·intro o ob ho;rw[gK] at ho;split at ho
  ·rename_i y hy;cases ho;obtain⟨B,m1,m2,m3,m4,m5⟩:=h'.obj o _ hy;refine⟨B,m1,m2,m3,m4,fun b hb=>?_⟩;obtain⟨cur,n1,n2,n3,n4,n5,n6⟩:=m5 b hb;refine⟨cur,n1,n2,fun hf=>n3 (.inl hf),?_,n5,aT.bl (cz.same fun b hb=>(hFe b).1 hb) _ _ (fun _ _=>rfl) n6⟩;rcases n4 with n4 | n4
   ·exact Uj b n4
   ·exact .inr (Nat.le_trans h.size n4)
  ·have hs:=hp.r _ _ ho;obtain⟨B,m1,m2,m3,m4,m5⟩:=h.obj o ob hs;refine⟨B,by rw[O1 (Oa hs)];exact m1,m2,m3,m4,fun b hb=>?_⟩;obtain⟨cur,n1,n2,n3,n4,n5,n6⟩:=m5 b hb;have Qd:=(Array.getElem?_eq_some_iff.1 n1).1;have OY:¬ ∃ o' Ov,assoc H o'=some Ov∧aU σ o'=some b:=by
    rintro⟨o',Ov,OI,Oy⟩;have:o'=o:=h.inj o' o Ov ob b (hp.l _ _ OI) hs Oy (by simp[aU,m1,hb]);subst this;exact hp.d _ _ _ OI ho
   refine⟨cur,by rw[OC b Qd OY];exact n1,n2,n3,n4,n5,aT.bl hkw _ _ (fun p TE=>?_) n6⟩;refine h'.gO p (Nat.lt_of_not_le fun hle=>?_);obtain⟨B2,OR⟩:=aT.refs _ _ p n6 TE;rw[h.nx p hle] at OR;cases OR
 ·intro o o' ob Ov b ho OI hb Oy;rw[gK] at ho OI;have cross:∀ {p q x y},assoc s1.heap p=some x→aU σ' p=some b→assoc rest q=some y→aU σ' q=some b→False:=fun {p q x y} h1 h2 h3 h4=>
   hnot p x b h1 h2 (.inr ⟨q,y,h3,(Qp h3).1 h4⟩)
  cases c1:assoc s1.heap o with
  | some y=>
   cases c2:assoc s1.heap o' with
   | some y'=>exact h'.inj o o' y y' b c1 c2 hb Oy
   | none=>
    rw[c2] at OI;exact (cross c1 hb OI Oy).elim
  | none=>
   rw[c1] at ho
   cases c2:assoc s1.heap o' with
   | some y'=>exact (cross c2 Oy ho hb).elim
   | none=>
    rw[c2] at OI;exact h.inj o o' ob Ov b (hp.r _ _ ho) (hp.r _ _ OI) ((Qp ho).1 hb) ((Qp OI).1 Oy)
 ·rcases Nat.lt_or_ge o s.nx with hl | Rn
  ·rw[O1 hl] at hB;exact h.new o B b ho hB hb
  ·rcases h'.new o B b Rn hB hb with n4 | n4
   ·exact Uj b n4
   ·exact .inr (Nat.le_trans h.size n4)
theorem ug (Q8:aF P av){o:Oper}{g:FuncId}{cs:List CV}{R:CV→St→Prop}{H rest:List (Nat×Ob)}(hp:pe H rest s.heap)(he:pf P C s o g cs)(hb:Body P av g cs H s.nx R)(hR:∀ r s1,R r s1→∀ o ob Ov,assoc s1.heap o=some ob→assoc rest o=some Ov→False)(h:aK C σ s a w)(K:Act→World→Prop)(Q:Exit→Act→World→Prop)
  (hK:∀ r s1 v w' σ',R r s1→aK C σ' ⟨s.env,s1.heap++rest,s1.nx⟩ a w'→VR w' (FB C σ' (s1.heap++rest)) σ' r v→(∀ p,p<s.nx→σ' p=σ p)→K (a.put o.dst v) w'):o.wp P a w K Q:=by
 obtain⟨fn,code,hf,Qc,hn,hlen,hT⟩:=hb;obtain⟨vs,U1,ON⟩:=he σ a w h;have hF:IX w (FB C σ rest) (fun b=>∃ o ob,assoc H o=some ob∧aU σ o=some b):=⟨fun b hb=>Ee h b ((nL hp).2 (.inl hb)),h.gok.mono fun b hb=>(nL hp).2 hb⟩;have h0:=h.kY hp hF fn.ntmps ON hlen;have SM:Calls P g vs.toArray w fun e w'=>∃ v r s',e=.returned v∧R r s'∧∃ σ',aK C σ' ⟨s.env,s'.heap++rest,s'.nx⟩ a w'∧VR w' (FB C σ' (s'.heap++rest)) σ' r v∧(∀ p,p<s.nx→σ' p=σ p):=by
  refine calls_of_wp hf Qc (wp_mono (hT (C.kY w σ H rest fn.ntmps hF s.nx) rfl rfl _ _ ⟨_,h0⟩) fun e a' w' ⟨s1,q,σ1,OX⟩=>?_);have fin:aa (C.kY w σ H rest fn.ntmps hF s.nx) (fun s'=>∃ r,bm av fn s'=some r∧R r s') s1→a'.defers=[]∧∃ v,(results fn a'.tmps).run P w'=.ok v w'∧(∃ SQ r s',Ending.returned v=.returned SQ∧R r s'∧∃ σ',aK C σ' ⟨s.env,s'.heap++rest,s'.nx⟩ a w'∧VR w' (FB C σ' (s'.heap++rest)) σ' r SQ∧(∀ p,p<s.nx→σ' p=σ p)):=fun⟨s2,⟨r,q1,q2⟩,hl⟩=>by
   obtain⟨σ2,OF⟩:=hl _ _ ⟨σ1,OX⟩;obtain⟨v,k1,k2⟩:=iY (P:=P) Q8 OF q1;obtain⟨b1,b2⟩:=h.backF hp OF (hR r s2 q2);exact⟨OF.oA,v,k1,v,r,s2,rfl,q2,σ2,b1,b2 _ _ k2,OF.gO⟩
  cases e with
  | normal=>exact fin q
  | ret=>exact fin q
  | exit _=>exact q.elim
  | goto _=>exact q.elim
  | panic _=>exact q.elim
  | outgrown=>exact q.elim
 unfold Oper.wp;rw[U1];refine SM.mono fun e w' ⟨v,r,s',he,hR,σ',OS,hv,ho⟩=>?_;subst he;exact hK r s' v w' σ' hR OS hv ho
theorem J3 (ht:aF P av)(TG:iN P mt)(Og:gx P av call)(ji:wA P pc){i m:Nat}{o:Oper}{E:Ef}{rs:List Nat}{nb:Bool}{ab:Option (Nat×Nat)}{lo up:Nat}(h:vo av mt ops call pc lo up m s o=some (E,rs,nb,ab))(hd:bt C.nt o.dst=true)(hi:ops[i]? = some o)
  (P1:dV ⟨o.looksAt ops,rs,nb,ab⟩ (fs s') (fs s)) (hr:aK C σ s' a w) (hm:σ m=none) (Rx:C.n0≤m) (Qw:m<s'.nx) {Q':Exit→Act→World→Prop} (K:Act→World→Prop)
  (hK:∀ a' w' σ' Qu,fs Qu=ap o.dst E (fs s')→aK C σ' Qu a' w'→(∀ p,p≠m→p<s'.nx→σ' p=σ p)→K a' w'):wpOp P ops Q' i K a w:=by
 have QJ:∀ t∈o.looksAt ops,assoc s'.env t=assoc s.env t:=P1.1;have QN:∀ p∈rs,assoc s'.heap p=assoc s.heap p:=P1.2.1;have RA:=yP QJ;have Qy:=pB (ops:=ops) QJ;have OM:∀ t,o.dst=some t→t<a.tmps.size:=fun t e=>by rw[hr.tm];rw[e] at hd;simpa [bt] using hd
 unfold vo at h;unfold wpOp;simp only[hi];split at h
 ·cases h
 ·rename_i hg;cases h;rw[hg] at Qy;have hw:Region.wanted o (yielded ops a.tmps)=false:=by
   unfold b9 at Qy;split at Qy
   ·cases Qy
   ·rename_i j want e;split at Qy
    ·cases Qy
    rename_i t hj;exact lz ⟨σ,hr⟩ e hj Qy
  rw[if_neg (by simp[hw])];exact hK _ _ σ (s'.put o.dst (.dI [])) (nC _ _ _) (hr.put OM (by simp only[VR,aT];exact⟨[],rfl,rfl⟩)) fun _ _ _=>rfl
 ·rename_i hg;rw[hg] at Qy;have hw:=eO (ops:=ops) ⟨σ,hr⟩ Qy;rw[if_pos hw];refine .inl ?_;split at h
  ·rename_i c hu;have Ol:=gD hu;split at h
   ·rename_i g cs hc;have PD:iF mt s' c=some (g,cs):=by
     rw[sM (fun x hx=>RA x (by rw[Ol];exact hx)),hc]
    split at h
    ·rename_i r hp;cases h;split at hp
     ·rename_i Qh;have hP:=ji g cs _ hp;exact Dd (pf.to TG Ol PD hP.1) Qh hP hr _ _ fun v w' OS hv=>hK _ _ σ (s'.put o.dst _) (nC _ _ _) (jQ hd OS hv) fun _ _ _=>rfl
     ·cases hp
    ·split at h
     ·rename_i x H n hx;split at h
      ·rename_i hn;cases h;obtain⟨hn,Oo⟩:=hn;have hB:=Og _ _ _ _ _ _ _ hx;have hE:lq P g:=by
        obtain⟨fn,c,h1,h2,h3,_⟩:=hB;exact⟨fn,h1,h3,by simp[h2]⟩
       have Ul:s'.nx=s.nx:=P1.2.2.1 rfl;have hag4:∀ p,FO lo up (eD cs) p=true→assoc s'.heap p=assoc s.heap p:=fun p hp=>by
        simp only[FO,Bool.or_eq_true,decide_eq_true_eq,List.contains_eq_mem] at hp;rcases hp with (hp | hp) | hp
        ·exact P1.2.2.2 _ rfl p (.inl hp)
        ·exact P1.2.2.2 _ rfl p (.inr hp)
        ·exact QN p hp
       have Pf:∀ p,assoc (rA lo up (eD cs) s.heap) p=if FO lo up (eD cs) p then assoc s'.heap p else none:=fun p=>by
        rw[mu];split
        ·rename_i hp;rw[hag4 p hp]
        ·rfl
       have WA:pe (rA lo up (eD cs) s.heap) (Cm lo up (eD cs) s'.heap) s'.heap:=by
        refine⟨fun p y hp=>?_,fun p y hp=>?_,fun p y hp=>?_,fun p y z hp hq=>?_⟩
        ·rw[Pf] at hp;split at hp
         ·exact hp
         ·cases hp
        ·rw[fI] at hp;split at hp
         ·cases hp
         ·exact hp
        ·rw[Pf,fI];split
         ·exact .inl hp
         ·exact .inr hp
        ·rw[Pf] at hp;rw[fI] at hq;split at hp
         ·rename_i S8;rw[if_pos S8] at hq;cases hq
         ·cases hp
       have Rm:∀ p y,assoc H p=some y→FO lo up (eD cs) p=true:=fun p y hp=>by
        have:=List.all_eq_true.1 Oo _ (bG _ _ _ hp);exact this
       rw[← Ul] at hB;refine ug ht WA (pf.to TG Ol PD hE) hB (fun r s1 hR p y z hp hq=>?_) hr _ _ fun r s1 v w' σ' hR OS hv hold=>?_
       ·obtain⟨_,e1,_⟩:=hR;rw[e1] at hp;rw[fI,if_pos (Rm p y hp)] at hq;cases hq
       ·obtain⟨rfl,e1,e2⟩:=hR;refine hK _ _ σ' (qo ⟨s'.env,s1.heap++Cm lo up (eD cs) s'.heap,s1.nx⟩ o.dst (some r)) ?_ (jQ hd OS hv) fun p _ Oa=>hold p Oa;refine gH (s:=s') (fun p=>?_) (by rw[e2,Ul];omega);rw[e1,gK,fI];have V2:=H3 (rA lo up (eD cs) s.heap) H p;unfold ka at V2 ⊢;by_cases S8:FO lo up (eD cs) p=true
        ·rw[if_pos S8]
         cases P0:assoc (sL (rA lo up (eD cs) s.heap) H) p with
         | some y=>
          rw[P0] at V2;simp only at V2 ⊢;rw[V2];cases assoc H p<;>rfl
         | none=>
          rw[P0] at V2;simp only at V2 ⊢;rw[Pf,if_pos S8] at V2;rw[V2];cases assoc H p<;>rfl
        ·rw[if_neg S8];have hH:assoc H p=none:=by
          cases P0:assoc H p with
          | none=>rfl
          | some y=>exact absurd (Rm p y P0) S8
         rw[hH];simp only
         cases P0:assoc (sL (rA lo up (eD cs) s.heap) H) p with
         | none=>rfl
         | some y=>
          exfalso;have hS:assoc (rA lo up (eD cs) s.heap) p=none:=by rw[Pf,if_neg S8]
          exact CB hS hH P0
      ·cases h
     ·cases h
   ·cases h
  ·split at h
   ·rename_i c hq;cases h;have PE:fz av s' o.op=some c:=by
     by_cases hl:(∃ t x,o.op=.load t x)∨∃ t x lo hi mx,o.op=.slice t x lo hi mx
     ·refine EO (s:=s) (fun x hx=>(RA x hx).symm) hq fun x hx v hv p ob hn hp=>?_;rw[QN p ?_]
      ·exact hp
      ·rcases hl with ⟨t,y,e⟩ | ⟨t,y,lo,S8,mx,e⟩
       ·have:GK s o.op=Jo s o.op:=by rw[e];rfl
        rw[this];exact Dv hx hv hn
       ·have:GK s o.op=Jo s o.op:=by rw[e];rfl
        rw[this];exact Dv hx hv hn
     ·rw[← sE (s:=s) o.op (fun x hx=>(RA x hx).symm) (fun t x e=>hl (.inl ⟨t,x,e⟩)) (fun t x lo hi mx e=>hl (.inr ⟨t,x,lo,hi,mx,e⟩))];exact hq
    obtain⟨z,k1,k2⟩:=ym ht hr o PE;unfold Oper.wp;rw[k1];exact hK _ _ σ (s'.put o.dst c) (nC _ _ _) (jQ hd hr k2) fun _ _ _=>rfl
   ·split at h
    ·rename_i c rs' hv;cases h;unfold DV at hv;split at hv
     ·rename_i t u x Ol;split at hv
      ·rename_i c' hc;cases hv;have hx:ev s' x=ev s x:=RA x (by rw[Ol];simp[Op.operands]);have P0:qM av s' t u x=some c:=by
        rw[← hc];unfold qM;rw[hx]
        cases Yn:ev s x with
        | none=>rfl
        | some v=>
         have:cells? s' v=cells? s v:=cells?_view fun p hp=>QN p (by simp only[Yn];exact tU hp)
         cases dG av t with
         | none=>cases v<;>rfl
         | some d=>
          cases dG av u with
          | none=>cases v<;>cases d<;>rfl
          | some d'=>cases v<;>cases d<;>cases d'<;>first | rfl | simp only[this]
       obtain⟨z,k1,k2⟩:=Bi ht hr P0;have k3:(execOp a.eval o).run P w=.ok (.value z) w:=by
        simp[execOp,Ol,k1]
       unfold Oper.wp;rw[k3];exact hK _ _ σ (s'.put o.dst c) (nC _ _ _) (jQ hd hr k2) fun _ _ _=>rfl
      ·cases hv
     ·cases hv
    split at h
    ·rename_i ob f hv;cases h;have Tl:qQ av s' o.op=some (ob,f):=by rw[CQ RA,hv]
     obtain⟨z,w',B,k1,k2⟩:=E5 ht hr hm Rx Qw OM Tl;unfold Oper.wp;rw[k1];refine hK _ _ _ _ ?_ k2 fun p hp _=>by simp[sig,hp]
     exact gH (s:=s') (k:=0) (d:=o.dst) (r:=some (f m)) (fun p=>by simp only[assoc,ka];by_cases e:m=p<;>simp[e]) rfl
    ·split at h
     ·rename_i t x v Ol;split at h
      ·rename_i p ob hc;cases h;have hx:ev s' x=ev s x:=RA x (by rw[Ol];simp[Op.operands]);have hv:ev s' v=ev s v:=RA v (by rw[Ol];simp[Op.operands]);unfold My at hc;split at hc
       ·rename_i p' off c i' h1 h2 h3;split at hc
        ·cases hc
        ·rename_i Ov P7;split at hc
         ·cases hc
         ·rename_i Q6;split at hc
          ·rename_i hlen;cases hc;have YX:assoc s'.heap p=some Ov:=by rw[QN p N3];exact P7
           have OH:r9 av s' t x v=some { s' with heap:=sy s'.heap p { Ov with cells:=gA Ov.cells off c.cells } }:=by
            unfold r9;rw[hx,hv,h1,h2,h3];simp only[YX];rw[if_neg Q6,if_pos hlen]
           obtain⟨w',k1,k2,_⟩:=xF ht hr Ol OH;unfold Oper.wp;rw[k1];refine hK _ _ σ _ ?_ (k2.del undef) fun _ _ _=>rfl;refine gH (s:=s') (k:=0) (d:=o.dst) (r:=none) (fun q=>?_) rfl;rw[e9];simp only[ka,assoc];by_cases e:p=q
           ·rw[if_pos e,if_pos e,← e,YX];rfl
           ·rw[if_neg e,if_neg e]
          ·cases hc
       ·cases hc
      ·cases h
     ·rename_i cl Ol;split at h
      ·rename_i x y t t' RD ha PJ;split at h
       ·rename_i e;subst e;split at h
        ·rename_i p q hp hq;split at h
         ·rename_i ob k rm hc;cases h;have Wd:∀ {α:Type} {x:Array α} {l:List α},x.toList=l→x=l.toArray:=fun {α x l} e=>by rw[← e]
          have Of:=Wd ha;have hx:ev s' x=some p:=by rw[RA x (by rw[Ol];simp[Op.operands,Call.operands,Of])];exact hp
          have hy:ev s' y=some q:=by rw[RA y (by rw[Ol];simp[Op.operands,Call.operands,Of])];exact hq
          have hn:s'.nx=s.nx:=P1.2.2.1 rfl;have Tu:qT av t p (Ae s' p) (cells? s' q)=some (ob,k,rm):=by
           rw[EY (fun o' OI=>QN o' (List.mem_append_left _ (tU OI))),cells?_view (fun o' OI=>QN o' (List.mem_append_right _ (tU OI)))];exact hc
          have happ:=CR (d:=o.dst) hx hy Tu;obtain⟨z,w',B,k1,k2⟩:=vz ht hr OM Ol RD Of (Wd PJ) happ;unfold Oper.wp;rw[k1];refine hK _ _ _ _ ?_ k2 fun p hp Oa=>by simp[sig,Nat.ne_of_lt Oa]
          have hpp:fs (qo ⟨s'.env,(s'.nx,ob)::J5 s'.heap rm,s'.nx+1⟩ o.dst (some (.bp s'.nx 0 k)))=ap o.dst ⟨some (.bp s'.nx 0 k),(s'.nx,some ob)::rmL rm,1⟩ (fs s'):=by
           refine gH (s:=s') (k:=1) (fun r=>?_) rfl;simp only[assoc,ka];by_cases e:s'.nx=r
           ·rw[if_pos e,if_pos e]
           ·rw[if_neg e,if_neg e]
            cases rm with
            | none=>simp only[J5,rmL,assoc]
            | some o2=>
             simp only[J5,rmL,eT,assoc];by_cases e2:o2=r
             ·rw[if_pos e2,if_pos e2]
             ·rw[if_neg e2,if_neg e2]
          rw[← hn];exact hpp
         ·cases h
        ·cases h
       ·cases h
      ·cases h
     ·cases h
end
abbrev Er:=Ef×List Nat×Bool×Option (Nat×Nat)
instance : Inhabited Er := ⟨(⟨none, [], 0⟩, [], false, none)⟩
def iW (o:Oper):Bool:=match o.op with
 | .alloc _=>true
 | .box _ _=>true
 | .buildSlice _ _ _=>true
 | .makeSlice _ _ _=>true
 | .store _ _ _=>true
 | .call c=>match c.callee with
  | .builtin .append=>true
  | .builtin _=>false
  | _=>true
 | _=>false
def oX (o:Oper):Bool:=!iW o && match o.op with
 | .load _ _=>false
 | .slice _ _ _ _ _=>false
 | .convert _ _ _=>false
 | _=>true
def GU (ops:Array Oper):List Nat→List Nat→Bool
 | _,[]=>true
 | pre,i::r=>(match ops[i]? with
   | some o=>o.after.all fun e=>!Region.binds .any e || pre.contains e.on
   | none=>false) && GU ops (i::pre) r
def xd (ops:Array Oper)(dyn:List (Nat×Nat))(i j:Nat):Bool:=match ops[i]?,ops[j]? with
 | some oi,some oj=>oi.apart ops oj && (dyn.contains (i,j) || (!iW oi && !iW oj) || oX oi || oX oj)
 | _,_=>false
def He (ms:List (Nat×Nat)):List Edge→Nat→Nat
 | [],m=>m
 | e::l,m=>He ms l (if Region.binds .any e=true then m ||| (1 <<< e.on) ||| (assoc ms e.on).getD 0 else m)
def Hc (ops:Array Oper)(ms:List (Nat×Nat))(j:Nat):Nat:=match ops[j]? with
 | some o=>He ms o.after.toList 0
 | none=>0
def z9 (ops:Array Oper)(dyn:List (Nat×Nat))(b:Bool):List Nat→List (Nat×Nat)→List Nat→Bool
 | _,_,[]=>true
 | acc,ms,j::r=>let m:=Hc ops ms j
  (acc.all fun i=>m.testBit i || ((!b || ((ops[i]?).bind cg).isNone) && xd ops dyn i j)) && z9 ops dyn b (j::acc) ((j,m)::ms) r
def ur (ops:Array Oper)(b:Bool)(ord:List Nat)(dyn:List (Nat×Nat)):Bool:=
 decide ord.Nodup && ((List.range ops.size).all fun j=>ord.contains j) && (ord.all fun i=>decide (i<ops.size)) && GU ops [] ord && z9 ops dyn b [] [] ord
def B6 (w:List (Nat×Option Ob)):Option (Nat×Nat)→Bool
 | none=>true
 | some r=>w.all fun p=>decide (r.1≤p.1) && decide (p.1<r.2)
theorem oc (w:List (Nat×Option Ob)):B6 w none=true:=rfl
theorem uG (r:Option (Nat×Nat)):B6 [] r=true:=by cases r<;>rfl
def vb (x y:Er):Bool:=
 (x.1.w.all fun p=>!y.2.1.contains p.1 && (y.1.w.all fun q=>q.1 != p.1)) && (y.1.w.all fun q=>!x.2.1.contains q.1) && (!y.2.2.1 || x.1.k == 0) && (!x.2.2.1 || y.1.k == 0) && B6 x.1.w y.2.2.2 && B6 y.1.w x.2.2.2
section
variable {P:Program}{C:Cx}{s s':St}{ops:Array Oper}{av:List (Nat×TI)}{mt:hZ}{pc:FuncId→List CV→Option CV}{call:fL}
theorem EP {lo hi m:Nat}{o:Oper}{x:Er}(h:vo av mt ops call pc lo hi m s o=some x)(hl:iW o=false):x.1.w=[]∧x.1.k=0∧x.2.2.1=false∧x.2.2.2=none:=by
 unfold vo at h;split at h
 ·cases h
 ·cases h;exact⟨rfl,rfl,rfl,rfl⟩
 ·split at h
  ·rename_i c hu;have Ol:=gD hu;exfalso;unfold cg at hu;rw[Ol] at hu;simp only at hu;simp only[iW,Ol] at hl;cases Og:c.callee<;>rw[Og] at hu hl<;>simp at hu hl
  ·split at h
   ·cases h;exact⟨rfl,rfl,rfl,rfl⟩
   ·split at h
    ·cases h;exact⟨rfl,rfl,rfl,rfl⟩
    split at h
    ·rename_i ob f hv;exfalso;revert hl hv;cases Ol:o.op<;>simp[iW,Ol,qQ,Bn]
    ·split at h
     ·rename_i Ol;simp[iW,Ol] at hl
     ·rename_i cl Ol;split at h
      ·rename_i Og _ _;simp[iW,Ol,Og] at hl
      ·cases h
     ·cases h
theorem Gu {lo hi m:Nat}{o:Oper}{x:Er}(h:vo av mt ops call pc lo hi m s o=some x)(hl:oX o=true):x.2.1=[]:=by
 simp only[oX,Bool.and_eq_true,Bool.not_eq_true'] at hl;obtain⟨hl,hs⟩:=hl;unfold vo at h;split at h
 ·cases h
 ·cases h;rfl
 ·split at h
  ·rename_i c hu;have Ol:=gD hu;exfalso;unfold cg at hu;rw[Ol] at hu;simp only at hu;simp only[iW,Ol] at hl;cases Og:c.callee<;>rw[Og] at hu hl<;>simp at hu hl
  ·split at h
   ·cases h;simp only;unfold GK;split
    ·rename_i Ol;simp[Ol] at hs
    ·rename_i Ol;simp[Ol] at hs
    ·rfl
   ·split at h
    ·rename_i c' rs' hv;exfalso;unfold DV at hv;split at hv
     ·rename_i Ol;simp[Ol] at hs
     ·cases hv
    split at h
    ·cases h;rfl
    ·split at h
     ·rename_i Ol;simp[iW,Ol] at hl
     ·rename_i cl Ol;split at h
      ·rename_i Og _ _;simp[iW,Ol,Og] at hl
      ·cases h
     ·cases h
theorem Mg {d d':Option Tmp}{V V':List Nat}{x y:Er}(h:vb x y=true)(s1:∀ t,d=some t→t∉V')(s2:∀ t,d'=some t→t∉V)(s3:∀ t,d=some t→d'≠some t):FJ d d' x.1 y.1 ⟨V,x.2.1,x.2.2.1,x.2.2.2⟩ ⟨V',y.2.1,y.2.2.1,y.2.2.2⟩:=by
 simp only[vb,Bool.and_eq_true,List.all_eq_true,Bool.not_eq_true',bne_iff_ne,Bool.or_eq_true,beq_iff_eq] at h;obtain⟨⟨⟨⟨⟨h1,h2⟩,h3⟩,h4⟩,h5⟩,h6⟩:=h;refine⟨s1,s2,s3,fun o z hz ho=>?_,fun o z hz ho=>?_,fun o z hz=>?_,fun hn=>?_,fun hn=>?_,fun rr hn=>?_,fun rr hn=>?_⟩
 ·have:=(h1 _ (bG _ _ _ hz)).1;simp at this;exact this ho
 ·have:=h2 _ (bG _ _ _ hz);simp at this;exact this ho
 ·have:=(h1 _ (bG _ _ _ hz)).2
  cases h7:assoc y.1.w o with
  | none=>rfl
  | some u=>
   have h8:=this _ (bG _ _ _ h7);simp at h8
 ·rcases h3 with h3 | h3
  ·have Tp:y.2.2.1=true:=hn;rw[Tp] at h3;cases h3
  ·exact h3
 ·rcases h4 with h4 | h4
  ·have Tp:x.2.2.1=true:=hn;rw[Tp] at h4;cases h4
  ·exact h4
 ·have Tp:y.2.2.2=Option.some rr:=hn;rw[Tp] at h5;simp only[B6,List.all_eq_true,Bool.and_eq_true,decide_eq_true_eq] at h5;exact fun o z hz=>h5 _ (bG _ _ _ hz)
 ·have Tp:x.2.2.2=Option.some rr:=hn;rw[Tp] at h6;simp only[B6,List.all_eq_true,Bool.and_eq_true,decide_eq_true_eq] at h6;exact fun o z hz=>h6 _ (bG _ _ _ hz)
theorem xe:∀ (l acc:List Nat),GU ops acc l=true→∀ pre i post,l=pre++i::post→∀ oi,ops[i]? = some oi→∀ e∈oi.after,Region.binds .any e=true→e.on∈acc∨e.on∈pre
 | [],_,_,pre,i,post,h,_,_,_,_,_=>by simp at h
 | k::r,acc,hx,pre,i,post,h,oi,SY,e,he,hb=>by
  simp only[GU,Bool.and_eq_true] at hx
  cases pre with
  | nil=>
   simp only[List.nil_append,List.cons.injEq] at h;obtain⟨rfl,_⟩:=h;have h1:=hx.1;rw[SY] at h1;simp only[Array.all_eq_true_iff_forall_mem] at h1;have:=h1 e he;simp only[hb,Bool.not_true,Bool.false_or,List.contains_eq_mem,decide_eq_true_eq] at this;exact .inl this
  | cons p pre=>
   simp only[List.cons_append,List.cons.injEq] at h;obtain⟨rfl,h⟩:=h;rcases xe r (k::acc) hx.2 pre i post h oi SY e he hb with h2 | h2
   ·rcases List.mem_cons.1 h2 with e2 | h2
    ·exact .inr (by simp[e2])
    ·exact .inl h2
   ·exact .inr (List.mem_cons_of_mem _ h2)
def K9 (ops:Array Oper)(ms:List (Nat×Nat)):Prop:=∀ j m,assoc ms j=some m→∀ i,m.testBit i=true→BG ops j i
theorem Ao {ms:List (Nat×Nat)}{i:Nat}:∀ (l:List Edge) (m:Nat),(He ms l m).testBit i=true→m.testBit i=true∨∃ e∈l,Region.binds .any e=true∧(i=e.on∨∃ k,assoc ms e.on=some k∧k.testBit i=true)
 | [],m,h=>.inl h
 | e::l,m,h=>by
  rcases Ao l _ h with h | ⟨e',he,h⟩
  ·split at h
   ·rename_i hb;simp only[Nat.testBit_or,Bool.or_eq_true,Nat.one_shiftLeft,Nat.testBit_two_pow,decide_eq_true_eq] at h;rcases h with (h | h) | h
    ·exact .inl h
    ·exact .inr ⟨e,List.mem_cons_self,hb,.inl h.symm⟩
    ·cases hk:assoc ms e.on with
     | none=>rw[hk] at h;simp at h
     | some k=>rw[hk] at h;exact .inr ⟨e,List.mem_cons_self,hb,.inr ⟨k,hk,h⟩⟩
   ·exact .inl h
  ·exact .inr ⟨e',List.mem_cons_of_mem _ he,h⟩
theorem An {ms:List (Nat×Nat)}(h:K9 ops ms){j i:Nat}(hm:(Hc ops ms j).testBit i=true):BG ops j i:=by
 intro listed hc hj;unfold Hc at hm;split at hm
 ·rename_i o ho;rcases Ao _ _ hm with h0 | ⟨e,he,hb,h1⟩
  ·simp at h0
  ·have hl:=hj o ho e (by simpa using he) hb;rcases h1 with rfl | ⟨k,hk,hi⟩
   ·exact hl
   ·exact h e.on k hk i hi listed hc fun ok Om e' W0 Oy=>hc e.on ok Om hl e' W0 Oy
 ·simp at hm
theorem uQ {dyn:List (Nat×Nat)}{b:Bool}:∀ (l acc:List Nat) (ms:List (Nat×Nat)),K9 ops ms→z9 ops dyn b acc ms l=true→∀ pre j post,l=pre++j::post→∀ i,i∈acc∨i∈pre→BG ops j i∨((b=true→(ops[i]?).bind cg=none)∧xd ops dyn i j=true)
 | [],_,_,_,_,pre,j,post,h,_,_=>by simp at h
 | k::r,acc,ms,Py,hx,pre,j,post,h,i,hi=>by
  simp only[z9,Bool.and_eq_true,List.all_eq_true] at hx
  cases pre with
  | nil=>
   simp only[List.nil_append,List.cons.injEq] at h;obtain⟨rfl,rfl⟩:=h;have:=hx.1 i (hi.resolve_right List.not_mem_nil);simp only[Bool.or_eq_true,Bool.and_eq_true,Bool.not_eq_true',Option.isNone_iff_eq_none] at this;rcases this with h1 | ⟨h1,h2⟩
   ·exact .inl (An Py h1)
   ·exact .inr ⟨fun e=>h1.resolve_left (by rw[e];simp),h2⟩
  | cons p pre=>
   simp only[List.cons_append,List.cons.injEq] at h;obtain⟨rfl,h⟩:=h;refine uQ r (k::acc) _ (fun j' m' h' i' S8=>?_) hx.2 pre j post h i ?_
   ·simp only[assoc] at h';split at h'
    ·rename_i e;cases h';subst e;exact An Py S8
    ·exact Py j' m' h' i' S8
   ·rcases hi with hi | hi
    ·exact .inl (List.mem_cons_of_mem _ hi)
    ·rcases List.mem_cons.1 hi with rfl | hi
     ·exact .inl List.mem_cons_self
     ·exact .inr hi
end
def renV (o q:Nat):CV→CV
 | .bp p off n=>if p=o then .bp q off n else .bp p off n
 | c=>c
def renOk (o q:Nat):CV→Bool
 | .bp p _ _=>p == o || decide (p<q)
 | c=>ba q c
def renE (o q:Nat):List (Nat×CV)→List (Nat×CV)
 | []=>[]
 | (t,c)::r=>(t,renV o q c)::renE o q r
attribute [simp] renV renOk renE
end Go.Can
namespace Go.Can
section
variable {α:Type}{f:α→List CV}{n:Nat}
theorem aM (hf:∀ x,(f x).length=n):∀ m:List α,(m.flatMap f).length=m.length*n
 | []=>by simp
 | a::r=>by
  have ih:=aM hf r;simp only[List.flatMap_cons,List.length_append,hf,ih,List.length_cons,Nat.add_mul];omega
theorem oz (hf:∀ x,(f x).length=n):∀ (m:List α) (i:Nat),(m.flatMap f).take (i*n)=(m.take i).flatMap f
 | [],i=>by simp
 | a::r,0=>by simp
 | a::r,i+1=>by
  have ih:=oz hf r i;simp only[List.take_succ_cons,List.flatMap_cons,← ih];rw[show (i+1)*n=(f a).length+i*n by rw[hf,Nat.add_mul];omega,List.take_length_add_append]
theorem lQ (hf:∀ x,(f x).length=n):∀ (m:List α) (i:Nat),(m.flatMap f).drop (i*n)=(m.drop i).flatMap f
 | [],i=>by simp
 | a::r,0=>by simp
 | a::r,i+1=>by
  have ih:=lQ hf r i;simp only[List.drop_succ_cons,List.flatMap_cons,← ih];rw[show (i+1)*n=(f a).length+i*n by rw[hf,Nat.add_mul];omega,List.drop_length_add_append]
theorem aD (hf:∀ x,(f x).length=n){m:List α}{i:Nat}{e:α}(h:m[i]? = some e):(m.flatMap f).drop (i*n)=f e++(m.drop (i+1)).flatMap f:=by
 rw[lQ hf];obtain⟨hi,he⟩:=List.getElem?_eq_some_iff.1 h;rw[List.drop_eq_getElem_cons hi,he,List.flatMap_cons]
theorem AH (hf:∀ x,(f x).length=n){m:List α}{i k:Nat}{e e':α}{c:CV}(h:m[i]? = some e)(hk:k<n)(he:(f e).set k c=f e'):gA (m.flatMap f) (i*n+k) [c]=(m.set i e').flatMap f:=by
 obtain⟨hi,rfl⟩:=List.getElem?_eq_some_iff.1 h;have h1:m=m.take i++m[i]::m.drop (i+1):=by rw[← List.drop_eq_getElem_cons hi,List.take_append_drop]
 have hl:((m.take i).flatMap f).length=i*n:=by
  rw[aM hf,List.length_take,Nat.min_eq_left yA]
 unfold gA;rw[List.set_eq_take_append_cons_drop,if_pos hi,List.flatMap_append,List.flatMap_cons,← he];have hm:m.flatMap f=(m.take i).flatMap f++(f m[i]++(m.drop (i+1)).flatMap f):=by
  rw[← List.flatMap_cons,← List.flatMap_append,← List.drop_eq_getElem_cons hi,List.take_append_drop]
 rw[hm,← hl,List.take_length_add_append,List.append_assoc,List.append_assoc];congr 1;have Ot:k<(f m[i]).length:=by rw[hf];exact hk
 rw[List.set_eq_take_append_cons_drop,if_pos Ot];rw[List.take_append_of_le_length yA];simp only[List.length_singleton,List.append_assoc,List.cons_append,List.nil_append];congr 2;rw[Nat.add_assoc,List.drop_length_add_append,List.drop_append_of_le_length yA]
end
end Go.Can
namespace Go.aN
open Go.Can
inductive Ex where
 | zero
 | num (n:Nat)
 | nm (s:ByteArray)
 | un (k:Nat) (e:Ex)
 | bin (k:Nat) (a b:Ex)
 | loc (i:Nat)
 | jX (i:Nat)
abbrev I (n:Int):CV:=.int .i64 n
def eS:ByteArray:=⟨#[]⟩
def bM:Ex→List CV
 | .zero=>[I 0,I 0,.str eS,.az [] 0]
 | .num n=>[I 1,I n,.str eS,.az [] 0]
 | .nm s=>[I 2,I 0,.str s,.az [] 0]
 | .un k e=>[I (3+k),I 0,.str eS,.az (bM e) 1]
 | .bin k a b=>[I (5+k),I 0,.str eS,.az (bM a++bM b) 2]
 | .loc i=>[I 18,I i,.str eS,.az [] 0]
 | .jX i=>[I 19,I i,.str eS,.az [] 0]
theorem bK (e:Ex):(bM e).length=4:=by cases e<;>rfl
def Ex.op:Ex→Int
 | .zero=>0
 | .num _=>1
 | .nm _=>2
 | .un k _=>3+k
 | .bin k _ _=>5+k
 | .loc _=>18
 | .jX _=>19
def Ex.n:Ex→Int
 | .num n=>n
 | .loc i=>i
 | .jX i=>i
 | _=>0
def Ex.name:Ex→ByteArray
 | .nm s=>s
 | _=>eS
def Ex.args:Ex→List Ex
 | .un _ e=>[e]
 | .bin _ a b=>[a,b]
 | _=>[]
theorem bW (e:Ex):bM e=[I e.op,I e.n,.str e.name,.az (e.args.flatMap bM) e.args.length]:=by
 cases e<;>simp[bM,Ex.op,Ex.n,Ex.name,Ex.args]
structure Rf where
 name:ByteArray
 index:Option Ex
def oZ:Option Ex→CV
 | none=>.az [] 0
 | some e=>.az (bM e) 1
def kO (r:Rf):List CV:=[.str r.name,oZ r.index]
def kQ:List CV:=[.str eS,.az [] 0]
inductive Ar where
 | uX (r:Rf)
 | exp (e:Ex)
def oR:Ar→List CV
 | .uX r=>.bool true::kO r++bM .zero
 | .exp e=>.bool false::kQ++bM e
inductive Sm where
 | gP (name:ByteArray) (e:Ex)
 | iy (name:ByteArray) (e:Ex)
 | dU (go:Bool) (name:ByteArray) (args:List Ar)
 | dx (un:Bool) (r:Rf)
 | lu (e:Ex) (th el:List Sm)
 | cE (e:Ex) (th:List Sm)
 | jm
mutual
def ib:Sm→List CV
 | .gP s e=>[I 1,.str s]++bM e++kQ++[.az [] 0,.az [] 0,.az [] 0]
 | .iy s e=>[I 2,.str s]++bM e++kQ++[.az [] 0,.az [] 0,.az [] 0]
 | .dU g s l=>[I (if g then 4 else 3),.str s]++bM .zero++kQ++[.az (l.flatMap oR) l.length,.az [] 0,.az [] 0]
 | .dx u r=>[I (if u then 6 else 5),.str eS]++bM .zero++kO r++[.az [] 0,.az [] 0,.az [] 0]
 | .lu e th el=>[I 7,.str eS]++bM e++kQ++[.az [] 0,.az (bx th) th.length,.az (bx el) el.length]
 | .cE e th=>[I 8,.str eS]++bM e++kQ++[.az [] 0,.az (bx th) th.length,.az [] 0]
 | .jm=>[I 9,.str eS]++bM .zero++kQ++[.az [] 0,.az [] 0,.az [] 0]
def bx:List Sm→List CV
 | []=>[]
 | s::r=>ib s++bx r
end
theorem nY:∀ l:List Sm,bx l=l.flatMap ib
 | []=>rfl
 | s::r=>by rw[bx,nY r,List.flatMap_cons]
theorem kp (s:Sm):(ib s).length=11:=by
 cases s<;>simp[ib,bK,kQ,kO]
structure Pm where
 name:ByteArray
 mutex:Bool
def kT (p:Pm):List CV:=[.str p.name,.bool p.mutex]
structure Gl where
 name:ByteArray
 init:Int
def o0 (g:Gl):List CV:=[.str g.name,I g.init]
structure Mx where
 name:ByteArray
 re:Bool
 size:Nat
def eM (m:Mx):List CV:=[.str m.name,.bool m.re,I m.size]
structure Fu where
 name:ByteArray
 params:List Pm
 body:List Sm
def eZ (f:Fu):List CV:=[.str f.name,.az (f.params.flatMap kT) f.params.length,.az (bx f.body) f.body.length]
structure Pg where
 gs:List Gl
 ms:List Mx
 fs:List Fu
def eC (p:Pg):List CV:=[.az (p.gs.flatMap o0) p.gs.length,.az (p.ms.flatMap eM) p.ms.length,.az (p.fs.flatMap eZ) p.fs.length]
def xb (p:Pg):CV:=.agg (eC p)
structure Pl where
 param:Bool
 index:Nat
 at_:Option Ex
def pt (p:Pl):List CV:=[.bool p.param,I p.index,oZ p.at_]
def sF:List CV:=[.bool false,I 0,.az [] 0]
inductive In where
 | set (t:Nat) (g:Bool) (e:Ex)
 | call (go:Bool) (t:Nat) (ints:List Ex) (places:List Pl)
 | lock (un:Bool) (p:Pl)
 | branch (t:Nat) (e:Ex)
 | jump (t:Nat)
 | ret
def cU:In→List CV
 | .set t g e=>[I 1,I t,.bool g]++bM e++sF++[.az [] 0,.az [] 0]
 | .call g t l ps=>[I (if g then 3 else 2),I t,.bool false]++bM .zero++sF++[.az (l.flatMap bM) l.length,.az (ps.flatMap pt) ps.length]
 | .lock u p=>[I (if u then 5 else 4),I 0,.bool false]++bM .zero++pt p++[.az [] 0,.az [] 0]
 | .branch t e=>[I 6,I t,.bool false]++bM e++sF++[.az [] 0,.az [] 0]
 | .jump t=>[I 7,I t,.bool false]++bM .zero++sF++[.az [] 0,.az [] 0]
 | .ret=>[I 8,I 0,.bool false]++bM .zero++sF++[.az [] 0,.az [] 0]
theorem eg (x:In):(cU x).length=12:=by
 cases x<;>simp[cU,bK,sF,pt]
structure Pr where
 name:ByteArray
 ints:Nat
 bI:Nat
 locals:Nat
 code:List In
def jS (p:Pr):List CV:=[.str p.name,I p.ints,I p.bI,I p.locals,.az (p.code.flatMap cU) p.code.length]
structure Un where
 gs:List Int
 ms:List Mx
 ps:List Pr
 main:Nat
def bX (u:Un):List CV:=[ints u.gs,.az (u.ms.flatMap eM) u.ms.length,.az (u.ps.flatMap jS) u.ps.length,I u.main]
def cK (u:Un):CV:=.agg (bX u)
structure Is where
 proc:Nat
 bI:List Nat
def aB (l:List Nat):CV:=.az (l.map fun n:Nat=>I n) l.length
def cC (i:Is):List CV:=[I i.proc,aB i.bI]
structure Cl where
 is:List Is
 calls:List (List Int)
 roots:List Nat
def cD (c:Cl):List CV:=[.az (c.is.flatMap cC) c.is.length,.az (c.calls.map ints) c.calls.length,aB c.roots]
def eP (c:Cl):CV:=.agg (cD c)
end Go.aN
