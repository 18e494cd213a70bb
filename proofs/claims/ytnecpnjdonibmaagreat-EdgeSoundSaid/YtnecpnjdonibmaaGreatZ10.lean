/- A region that draws, run in one order: what the other orders -/
import Derived.Test.YtnecpnjdonibmaaGreatZ09
import Derived.Test.YtnecpnjdonibmaaGreatRows
import Derived.ProofKit
import Derived.Deep.Matrix
import Derived.Deep.Fields
namespace Go.Can
open Go.RowKit
def vp (P:Program)(pc:FuncId→List CV→Option CV):Prop:=∀ g cs r,pc g cs=some r→ae P g cs r
section
variable {P:Program}{C:Cx}{σ:Nat→Option OB}{s s':St}{a:Act}{w:World}{ops:Array Oper}{au:List (Nat×TI)}{mt:gL}{pc:FuncId→List CV→Option CV}{call:fe}
theorem yd {o:Oper}(h:∀ t∈o.looksAt ops,assoc s'.env t=assoc s.env t):∀ x∈o.op.operands,ev s' x=ev s x:=fun x hx=>by
 cases x with
 | tmp t=>exact h t (List.mem_append_left _ (List.mem_filterMap.2 ⟨.tmp t,by simpa using hx,rfl⟩))
 | _=>rfl
theorem ox {o:Oper}(h:∀ t∈o.looksAt ops,assoc s'.env t=assoc s.env t):bN ops s' o=bN ops s o:=by
 unfold bN
 cases hg:o.guard with
 | none=>rfl
 | some q=>
  obtain⟨j,want⟩:=q;simp only
  cases hj:(ops[j]?).bind (·.dst) with
  | none=>rfl
  | some t=>simp only;rw[h t (by simp[Oper.looksAt,hg,hj])]
theorem qV {c:Call}(h:∀ x∈c.operands,ev s' x=ev s x):ig mt s' c=ig mt s c:=by
 have ha:yN s' c.args.toList=yN s c.args.toList:=ju _ fun x hx=>h x (by simp only[Call.operands,Array.mem_append];exact .inr (by simpa using hx));unfold ig;split
 ·rename_i f hf;unfold bl;rw[hf];simp only;rw[h f (by simp[Call.operands,hf]),ha]
 ·rename_i r name hr;rw[h r (by simp[Call.operands,hr]),ha]
 ·rfl
theorem B5 {op:Op}(h:∀ x∈op.operands,ev s' x=ev s x):pM au s' op=pM au s op:=by
 cases op<;>simp only[pM]<;>first | exact B4 _ h | skip
 case makeSlice t l c=>rw[h l RZ,h c RZ]
theorem cells?_view {c:CV}(h:∀ o,names o c=true→assoc s'.heap o=assoc s.heap o):cells? s' c=cells? s c:=by
 unfold cells?;split<;>first | rfl | skip
 rename_i o off n;rw[h o (by simp[names])]
theorem Es {c:CV}(h:∀ o,names o c=true→assoc s'.heap o=assoc s.heap o):zw s' c=zw s c:=by
 unfold zw;split<;>first | rfl | skip
 rename_i o off n;rw[h o (by simp[names])]
theorem jz {o:Oper}(hd:aZ C.nt o.dst=true)(h:aL C σ s a w){c:CV}{v:Value}(hv:VR w (FB C σ s.heap) σ c v):aL C σ (s.put o.dst c) (a.put o.dst v) w:=
 h.put (fun t e=>by rw[h.tm];rw[e] at hd;simpa [aZ] using hd) hv
theorem gk {s:St}{H:List (Nat×Ob)}{n k:Nat}{d:Option Tmp}{r:Option CV}{w:List (Nat×Option Ob)}(hH:∀ p,assoc H p=jJ (assoc s.heap) w p)(hn:n=s.nx+k):fs (oZ ⟨s.env,H,n⟩ d r)=ap d ⟨r,w,k⟩ (fs s):=by
 unfold fs ap;congr 1
 ·funext t;exact uN t
 ·funext p;rw[mZ.1];exact hH p
 ·rw[mZ.2];exact hn
def Cx.kr (C:Cx)(w:World)(σ:Nat→Option OB)(H rest:List (Nat×Ob))(nt:Nat)(hF:∀ b,FB C σ rest b→b<w.heap.size)(n:Nat):Cx:=
 ⟨w,FB C σ rest,fun b=>∃ o ob,assoc H o=some ob∧aT σ o=some b,hF,nt,σ,n⟩
structure mL (H rest G:List (Nat×Ob)):Prop where
 l:∀ o ob,assoc H o=some ob→assoc G o=some ob
 r:∀ o ob,assoc rest o=some ob→assoc G o=some ob
 lr:∀ o ob,assoc G o=some ob→assoc H o=some ob∨assoc rest o=some ob
 d:∀ o ob P6,assoc H o=some ob→assoc rest o=some P6→False
theorem pW {H rest G:List (Nat×Ob)}(hp:mL H rest G){b:Nat}:FB C σ G b↔FB C σ rest b∨∃ o ob,assoc H o=some ob∧aT σ o=some b:=by
 constructor
 ·rintro (h | ⟨o,ob,ho,hb⟩)
  ·exact .inl (.inl h)
  ·rcases hp.lr o ob ho with h | h
   ·exact .inr ⟨o,ob,h,hb⟩
   ·exact .inl (.inr ⟨o,ob,h,hb⟩)
 ·rintro ((h | ⟨o,ob,ho,hb⟩) | ⟨o,ob,ho,hb⟩)
  ·exact .inl h
  ·exact .inr ⟨o,ob,hp.r o ob ho,hb⟩
  ·exact .inr ⟨o,ob,hp.l o ob ho,hb⟩
theorem aL.kr (h:aL C σ s a w){H rest:List (Nat×Ob)}(hp:mL H rest s.heap)(hF:∀ b,FB C σ rest b→b<w.heap.size)(nt:Nat){args:List CV}{vs:List Value}(hv:aN w (FB C σ s.heap) σ args vs)(ha:args.length≤nt) :
  aL (C.kr w σ H rest nt hF s.nx) σ ⟨(enter args).env,H,s.nx⟩ { tmps:=vs.toArray++Array.replicate (nt-vs.toArray.size) undef,defers:=[] } w:=by
 have hl:=aN.length _ _ hv;have U4:∀ b,FB (C.kr w σ H rest nt hF s.nx) σ H b→FB C σ s.heap b:=fun b hb=>by
  rw[pW hp];exact hb
 refine⟨rfl,by simp[Cx.kr];omega,rfl,rfl,rfl,Nat.le_refl _,fun _ _ _=>rfl,?_,?_,fun o o' ob P6 b h1 h2=>h.inj o o' ob P6 b (hp.l _ _ h1) (hp.l _ _ h2),h.nx,fun _ _=>rfl,Nat.le_refl _,fun o B b ho hB _=>(by rw[h.nx o ho] at hB;cases hB)⟩
 ·intro t c hc;obtain⟨_,h2⟩:=eI args 0 t c hc;obtain⟨v,h3,h4⟩:=aN.get _ _ hv t c (by simpa using h2);refine⟨v,?_,VR.bg (ck.same U4) _ _ (fun _ _=>rfl) h4⟩;have PQ:=(List.getElem?_eq_some_iff.1 h3).1;simp only;rw[Array.getElem?_append_left (by simpa using PQ)]
  simpa using h3
 ·intro o ob ho;obtain⟨B,m1,m2,m3,m4,m5⟩:=h.obj o ob (hp.l o ob ho);refine⟨B,m1,m2,m3,m4,fun b hb=>?_⟩;obtain⟨cur,n1,n2,n3,n4,n5,n6⟩:=m5 b hb;refine⟨cur,n1,n2,?_,.inl ⟨o,ob,ho,by simp[aT,m1,hb]⟩,n5,aN.bg (ck.same U4) _ _ (fun _ _=>rfl) n6⟩;rintro (hf | ⟨o',P6,Qu,P5⟩)
  ·exact n3 hf
  ·have:o'=o:=h.inj o' o P6 ob b (hp.r _ _ Qu) (hp.l _ _ ho) P5 (by simp[aT,m1,hb]);subst this;exact hp.d _ _ _ ho Qu
theorem aL.backF (h:aL C σ s a w){H rest:List (Nat×Ob)}(hp:mL H rest s.heap){hF:∀ b,FB C σ rest b→b<w.heap.size}{nt:Nat}{σ':Nat→Option OB}{s1:St}{a':Act}{w':World}(h':aL (C.kr w σ H rest nt hF s.nx) σ' s1 a' w')(hd:∀ o ob P6,assoc s1.heap o=some ob→assoc rest o=some P6→False) :
  aL C σ' ⟨s.env,s1.heap++rest,s1.nx⟩ a w'∧∀ c v,VR w' (FB (C.kr w σ H rest nt hF s.nx) σ' s1.heap) σ' c v→VR w' (FB C σ' (s1.heap++rest)) σ' c v:=by
 have Qd:∀ b,b<w.heap.size→(¬ ∃ o ob,assoc H o=some ob∧aT σ o=some b)→w'.heap[b]? = w.heap[b]?:=fun b hb hn=>h'.frame b hb hn;have PQ:∀ {o ob},assoc s.heap o=some ob→o<s.nx:=fun {o ob} ho=>by
  refine Nat.lt_of_not_le fun hle=>?_;obtain⟨B,e1,_⟩:=h.obj o ob ho;rw[h.nx o hle] at e1;cases e1
 have QB:∀ {o},o<s.nx→σ' o=σ o:=fun {o} ho=>h'.gy o ho;have Sj:∀ o ob b,assoc s1.heap o=some ob→aT σ' o=some b→(∃ o ob,assoc H o=some ob∧aT σ o=some b)∨w.heap.size≤b:=fun o ob b ho hb=>by
  obtain⟨B,m1,_,_,_,m5⟩:=h'.obj o ob ho;obtain⟨cur,_,_,_,n4,_⟩:=m5 b Ys;exact n4
 have hnot:∀ o ob b,assoc s1.heap o=some ob→aT σ' o=some b→¬ FB C σ rest b:=fun o ob b ho hb=>by
  obtain⟨B,m1,_,_,_,m5⟩:=h'.obj o ob ho;obtain⟨cur,_,_,n3,_⟩:=m5 b Ys;exact n3
 have Ts:∀ {o ob b},assoc rest o=some ob→(aT σ' o=some b↔aT σ o=some b):=fun {o ob b} ho=>by
  unfold aT;rw[QB (PQ (hp.r _ _ ho))]
 have hFe:∀ b,FB C σ' (s1.heap++rest) b↔FB (C.kr w σ H rest nt hF s.nx) σ' s1.heap b:=fun b=>by
  constructor
  ·rintro (hb | ⟨o,ob,ho,hb⟩)
   ·exact .inl (.inl hb)
   ·rw[gv] at ho;split at ho
    ·rename_i y hy;cases ho;exact .inr ⟨o,_,hy,hb⟩
    ·exact .inl (.inr ⟨o,ob,ho,(Ts ho).1 hb⟩)
  ·rintro ((hb | ⟨o,ob,ho,hb⟩) | ⟨o,ob,ho,hb⟩)
   ·exact .inl hb
   ·refine .inr ⟨o,ob,?_,(Ts ho).2 hb⟩;rw[gv];split
    ·rename_i y hy;exact (hd _ _ _ hy ho).elim
    ·exact ho
   ·exact .inr ⟨o,ob,by rw[gv,ho],hb⟩
 have hkw:ck w w' (FB C σ s.heap) (FB C σ' (s1.heap++rest)):=by
  have QN:∀ b,¬ FB C σ s.heap b→¬ ∃ o ob,assoc H o=some ob∧aT σ o=some b:=fun b hf hx=>hf ((pW hp).2 (.inr hx));have hF2:∀ b,b<w.heap.size→¬ FB C σ s.heap b→¬ FB C σ' (s1.heap++rest) b:=fun b hb hf hx=>by
   rw[hFe] at hx;rcases hx with hx | ⟨o,ob,ho,Sp⟩
   ·exact hf ((pW hp).2 (.inl hx))
   ·rcases Sj o ob b ho Sp with h1 | h1
    ·exact QN b hf h1
    ·omega
  refine⟨fun ad u hf hu=>?_,fun r _ hf hu _=>?_⟩
  ·have hl:=World.block_lt_of_cell? w ad hu;exact⟨by rw[World.cell?_of_block (w:=w) (Qd ad.block hl (QN _ hf))];exact hu,hF2 _ hl hf⟩
  ·have hl:=(Array.getElem?_eq_some_iff.1 hu).1;exact⟨by rw[Qd r hl (QN _ hf)];exact hu,hF2 _ hl hf⟩
 have Vu:∀ b,(∃ o ob,assoc H o=some ob∧aT σ o=some b)→C.own b∨C.w0.heap.size≤b:=fun b ⟨o,ob,ho,hb⟩=>by
  obtain⟨B,m1,_,_,_,m5⟩:=h.obj o ob (hp.l _ _ ho);obtain⟨cur,_,_,_,n4,_⟩:=m5 b Ys;exact n4
 refine⟨⟨h.mD,h.tm,h'.os.trans h.os,h'.tape.trans h.tape,h'.output.trans h.output,Nat.le_trans h.size h'.size,?_,?_,?_,?_,h'.nx,fun o ho=>(h'.gy o (Nat.lt_of_lt_of_le ho h.low)).trans (h.gy o ho),Nat.le_trans h.low h'.low,fun o B b ho hB hb=>?_⟩,fun c v hv=>VR.bg (ck.same fun b hb=>(hFe b).1 hb) _ _ (fun _ _=>rfl) hv⟩
 ·intro b hb QN;rw[Qd b (Nat.lt_of_lt_of_le hb h.size) fun hx=>?_]
  ·exact h.frame b hb QN
  ·rcases Vu b hx with h1 | h1
   ·exact QN h1
   ·omega
 ·intro t c hc;obtain⟨v,k1,k2⟩:=h.env t c hc;refine⟨v,k1,VR.bg hkw _ _ (fun o ho=>?_) k2⟩;refine h'.gy o (Nat.lt_of_not_le fun hle=>?_);obtain⟨B,hB⟩:=VR.refs _ _ o k2 ho;rw[h.nx o hle] at hB;cases hB
 ·intro o ob ho;rw[gv] at ho;split at ho
  ·rename_i y hy;cases ho;obtain⟨B,m1,m2,m3,m4,m5⟩:=h'.obj o _ hy;refine⟨B,m1,m2,m3,m4,fun b hb=>?_⟩;obtain⟨cur,n1,n2,n3,n4,n5,n6⟩:=m5 b hb;refine⟨cur,n1,n2,fun hf=>n3 (.inl hf),?_,n5,aN.bg (ck.same fun b hb=>(hFe b).1 hb) _ _ (fun _ _=>rfl) n6⟩;rcases n4 with n4 | n4
   ·exact Vu b n4
   ·exact .inr (Nat.le_trans h.size n4)
  ·have hs:=hp.r _ _ ho;obtain⟨B,m1,m2,m3,m4,m5⟩:=h.obj o ob hs;refine⟨B,by rw[QB (PQ hs)];exact m1,m2,m3,m4,fun b hb=>?_⟩;obtain⟨cur,n1,n2,n3,n4,n5,n6⟩:=m5 b hb;have Qf:=(Array.getElem?_eq_some_iff.1 n1).1;have QN:¬ ∃ o' P6,assoc H o'=some P6∧aT σ o'=some b:=by
    rintro⟨o',P6,Qu,P5⟩;have:o'=o:=h.inj o' o P6 ob b (hp.l _ _ Qu) hs P5 (by simp[aT,m1,hb]);subst this;exact hp.d _ _ _ Qu ho
   refine⟨cur,by rw[Qd b Qf QN];exact n1,n2,n3,n4,n5,aN.bg hkw _ _ (fun p XM=>?_) n6⟩;refine h'.gy p (Nat.lt_of_not_le fun hle=>?_);obtain⟨B2,Qw⟩:=aN.refs _ _ p n6 XM;rw[h.nx p hle] at Qw;cases Qw
 ·intro o o' ob P6 b ho Qu hb P5;rw[gv] at ho Qu;have cross:∀ {p q x y},assoc s1.heap p=some x→aT σ' p=some b→assoc rest q=some y→aT σ' q=some b→False:=fun {p q x y} h1 h2 h3 h4=>
   hnot p x b h1 h2 (.inr ⟨q,y,h3,(Ts h3).1 h4⟩)
  cases c1:assoc s1.heap o with
  | some y=>
   cases c2:assoc s1.heap o' with
   | some y'=>exact h'.inj o o' y y' b c1 c2 hb P5
   | none=>
    rw[c2] at Qu;exact (cross c1 hb Qu P5).elim
  | none=>
   rw[c1] at ho
   cases c2:assoc s1.heap o' with
   | some y'=>exact (cross c2 P5 ho hb).elim
   | none=>
    rw[c2] at Qu;exact h.inj o o' ob P6 b (hp.r _ _ ho) (hp.r _ _ Qu) ((Ts ho).1 hb) ((Ts Qu).1 P5)
 ·rcases Nat.lt_or_ge o s.nx with hl | SE
  ·rw[QB hl] at hB;exact h.new o B b ho hB hb
  ·rcases h'.new o B b SE hB hb with n4 | n4
   ·exact Vu b n4
   ·exact .inr (Nat.le_trans h.size n4)
theorem pF (Se:aB P au){o:Oper}{g:FuncId}{cs:List CV}{R:CV→St→Prop}{H rest:List (Nat×Ob)}(hp:mL H rest s.heap)(he:nw P C s o g cs)(hb:Body P au g cs H s.nx R)(hR:∀ r s1,R r s1→∀ o ob P6,assoc s1.heap o=some ob→assoc rest o=some P6→False)(h:aL C σ s a w)(K:Act→World→Prop)(Q:Exit→Act→World→Prop)
  (hK:∀ r s1 v w' σ',R r s1→aL C σ' ⟨s.env,s1.heap++rest,s1.nx⟩ a w'→VR w' (FB C σ' (s1.heap++rest)) σ' r v→(∀ p,p<s.nx→σ' p=σ p)→K (a.put o.dst v) w'):o.wp P a w K Q:=by
 obtain⟨fn,code,hf,Q9,hn,hlen,hT⟩:=hb;obtain⟨vs,U6,Qs⟩:=he σ a w h;have hF:∀ b,FB C σ rest b→b<w.heap.size:=fun b hb=>uV h b ((pW hp).2 (.inl hb));have h0:=h.kr hp hF fn.ntmps Qs hlen;have Uc:Calls P g vs.toArray w fun e w'=>∃ v r s',e=.returned v∧R r s'∧∃ σ',aL C σ' ⟨s.env,s'.heap++rest,s'.nx⟩ a w'∧VR w' (FB C σ' (s'.heap++rest)) σ' r v∧(∀ p,p<s.nx→σ' p=σ p):=by
  refine calls_of_wp hf Q9 (wp_mono (hT (C.kr w σ H rest fn.ntmps hF s.nx) rfl rfl _ _ ⟨_,h0⟩) fun e a' w' ⟨s1,q,σ1,QG⟩=>?_);have fin:aa (C.kr w σ H rest fn.ntmps hF s.nx) (fun s'=>∃ r,bD au fn s'=some r∧R r s') s1→a'.defers=[]∧∃ v,(results fn a'.tmps).run P w'=.ok v w'∧(∃ Tf r s',Ending.returned v=.returned Tf∧R r s'∧∃ σ',aL C σ' ⟨s.env,s'.heap++rest,s'.nx⟩ a w'∧VR w' (FB C σ' (s'.heap++rest)) σ' r Tf∧(∀ p,p<s.nx→σ' p=σ p)):=fun⟨s2,⟨r,q1,q2⟩,hl⟩=>by
   obtain⟨σ2,Qg⟩:=hl _ _ ⟨σ1,QG⟩;obtain⟨v,k1,k2⟩:=gr (P:=P) Se Qg q1;obtain⟨b1,b2⟩:=h.backF hp Qg (hR r s2 q2);exact⟨Qg.mD,v,k1,v,r,s2,rfl,q2,σ2,b1,b2 _ _ k2,Qg.gy⟩
  cases e with
  | normal=>exact fin q
  | ret=>exact fin q
  | exit _=>exact q.elim
  | goto _=>exact q.elim
  | panic _=>exact q.elim
  | outgrown=>exact q.elim
 unfold Oper.wp;rw[U6];refine Uc.mono fun e w' ⟨v,r,s',he,hR,σ',Qo,hv,ho⟩=>?_;subst he;exact hK r s' v w' σ' hR Qo hv ho
theorem Kc (ht:aB P au)(UW:iz P mt)(PX:fO P au call)(jN:vp P pc){i m:Nat}{o:Oper}{E:Ef}{rs:List Nat}{nb:Bool}{ab:Option (Nat×Nat)}{lo up:Nat}(h:uz au mt ops call pc lo up m s o=some (E,rs,nb,ab))(hd:aZ C.nt o.dst=true)(hi:ops[i]? = some o)
  (Rq:Agree ⟨o.looksAt ops,rs,nb,ab⟩ (fs s') (fs s)) (hr:aL C σ s' a w) (hm:σ m=none) (SQ:C.n0≤m) (QY:m<s'.nx) {Q':Exit→Act→World→Prop} (K:Act→World→Prop)
  (hK:∀ a' w' σ' R1,fs R1=ap o.dst E (fs s')→aL C σ' R1 a' w'→(∀ p,p≠m→p<s'.nx→σ' p=σ p)→K a' w'):wpOp P ops Q' i K a w:=by
 have Sg:∀ t∈o.looksAt ops,assoc s'.env t=assoc s.env t:=Rq.1;have Sj:∀ p∈rs,assoc s'.heap p=assoc s.heap p:=Rq.2.1;have VI:=yd Sg;have SS:=ox (ops:=ops) Sg;have Qk:∀ t,o.dst=some t→t<a.tmps.size:=fun t e=>by rw[hr.tm];rw[e] at hd;simpa [aZ] using hd
 unfold uz at h;unfold wpOp;simp only[hi];split at h
 ·cases h
 ·rename_i hg;cases h;rw[hg] at SS;have hw:Region.wanted o (yielded ops a.tmps)=false:=by
   unfold bN at SS;split at SS
   ·cases SS
   ·rename_i j want e;split at SS
    ·cases SS
    rename_i t hj;exact kI ⟨σ,hr⟩ e hj SS
  rw[if_neg (by simp[hw])];exact hK _ _ σ (s'.put o.dst (.dH [])) (mB _ _ _) (hr.put Qk (by simp only[VR,aN];exact⟨[],rfl,rfl⟩)) fun _ _ _=>rfl
 ·rename_i hg;rw[hg] at SS;have hw:=dw (ops:=ops) ⟨σ,hr⟩ SS;rw[if_pos hw];refine .inl ?_;split at h
  ·rename_i c hu;have P0:=fZ hu;split at h
   ·rename_i g cs hc;have hcv:ig mt s' c=some (g,cs):=by
     rw[qV (fun x hx=>VI x (by rw[P0];exact hx)),hc]
    split at h
    ·rename_i r hp;cases h;split at hp
     ·rename_i RQ;have hP:=jN g cs _ hp;exact CJ (nw.to UW P0 hcv hP.1) RQ hP hr _ _ fun v w' Qo hv=>hK _ _ σ (s'.put o.dst _) (mB _ _ _) (jz hd Qo hv) fun _ _ _=>rfl
     ·cases hp
    ·split at h
     ·rename_i x H n hx;split at h
      ·rename_i hn;cases h;obtain⟨hn,P4⟩:=hn;have hB:=PX _ _ _ _ _ _ _ hx;have hE:Enters P g:=by
        obtain⟨fn,c,h1,h2,h3,_⟩:=hB;exact⟨fn,h1,h3,by simp[h2]⟩
       have W8:s'.nx=s.nx:=Rq.2.2.1 rfl;have hag4:∀ p,Fy lo up (dV cs) p=true→assoc s'.heap p=assoc s.heap p:=fun p hp=>by
        simp only[Fy,Bool.or_eq_true,decide_eq_true_eq,List.contains_eq_mem] at hp;rcases hp with (hp | hp) | hp
        ·exact Rq.2.2.2 _ rfl p (.inl hp)
        ·exact Rq.2.2.2 _ rfl p (.inr hp)
        ·exact Sj p hp
       have QT:∀ p,assoc (qb lo up (dV cs) s.heap) p=if Fy lo up (dV cs) p then assoc s'.heap p else none:=fun p=>by
        rw[lJ];split
        ·rename_i hp;rw[hag4 p hp]
        ·rfl
       have XP:mL (qb lo up (dV cs) s.heap) (BC lo up (dV cs) s'.heap) s'.heap:=by
        refine⟨fun p y hp=>?_,fun p y hp=>?_,fun p y hp=>?_,fun p y z hp hq=>?_⟩
        ·rw[QT] at hp;split at hp
         ·exact hp
         ·cases hp
        ·rw[fa] at hp;split at hp
         ·cases hp
         ·exact hp
        ·rw[QT,fa];split
         ·exact .inl hp
         ·exact .inr hp
        ·rw[QT] at hp;rw[fa] at hq;split at hp
         ·rename_i UY;rw[if_pos UY] at hq;cases hq
         ·cases hp
       have SF:∀ p y,assoc H p=some y→Fy lo up (dV cs) p=true:=fun p y hp=>by
        have:=List.all_eq_true.1 P4 _ (bp _ _ _ hp);exact this
       rw[← W8] at hB;refine pF ht XP (nw.to UW P0 hcv hE) hB (fun r s1 hR p y z hp hq=>?_) hr _ _ fun r s1 v w' σ' hR Qo hv hold=>?_
       ·obtain⟨_,e1,_⟩:=hR;rw[e1] at hp;rw[fa,if_pos (SF p y hp)] at hq;cases hq
       ·obtain⟨rfl,e1,e2⟩:=hR;refine hK _ _ σ' (oZ ⟨s'.env,s1.heap++BC lo up (dV cs) s'.heap,s1.nx⟩ o.dst (some r)) ?_ (jz hd Qo hv) fun p _ PQ=>hold p PQ;refine gk (s:=s') (fun p=>?_) (by rw[e2,W8];omega);rw[e1,gv,fa];have Xf:=HZ (qb lo up (dV cs) s.heap) H p;unfold jJ at Xf ⊢;by_cases UY:Fy lo up (dV cs) p=true
        ·rw[if_pos UY]
         cases RE:assoc (qU (qb lo up (dV cs) s.heap) H) p with
         | some y=>
          rw[RE] at Xf;simp only at Xf ⊢;rw[Xf];cases assoc H p<;>rfl
         | none=>
          rw[RE] at Xf;simp only at Xf ⊢;rw[QT,if_pos UY] at Xf;rw[Xf];cases assoc H p<;>rfl
        ·rw[if_neg UY];have hH:assoc H p=none:=by
          cases RE:assoc H p with
          | none=>rfl
          | some y=>exact absurd (SF p y RE) UY
         rw[hH];simp only
         cases RE:assoc (qU (qb lo up (dV cs) s.heap) H) p with
         | none=>rfl
         | some y=>
          exfalso;have hS:assoc (qb lo up (dV cs) s.heap) p=none:=by rw[QT,if_neg UY]
          exact BQ hS hH RE
      ·cases h
     ·cases h
   ·cases h
  ·split at h
   ·rename_i c hq;cases h;have SO:eV au s' o.op=some c:=by
     by_cases hl:(∃ t x,o.op=.load t x)∨∃ t x lo hi mx,o.op=.slice t x lo hi mx
     ·refine Ec (s:=s) (fun x hx=>(VI x hx).symm) hq fun x hx v hv p ob hn hp=>?_;rw[Sj p ?_]
      ·exact hp
      ·rcases hl with ⟨t,y,e⟩ | ⟨t,y,lo,UY,mx,e⟩
       ·have:GL s o.op=Jv s o.op:=by rw[e];rfl
        rw[this];exact C5 hx hv hn
       ·have:GL s o.op=Jv s o.op:=by rw[e];rfl
        rw[this];exact C5 hx hv hn
     ·rw[← qK (s:=s) o.op (fun x hx=>(VI x hx).symm) (fun t x e=>hl (.inl ⟨t,x,e⟩)) (fun t x lo hi mx e=>hl (.inr ⟨t,x,lo,hi,mx,e⟩))];exact hq
    obtain⟨z,k1,k2⟩:=xL ht hr o SO;unfold Oper.wp;rw[k1];exact hK _ _ σ (s'.put o.dst c) (mB _ _ _) (jz hd hr k2) fun _ _ _=>rfl
   ·split at h
    ·rename_i c rs' hv;cases h;unfold Dt at hv;split at hv
     ·rename_i t u x P0;split at hv
      ·rename_i c' hc;cases hv;have hx:ev s' x=ev s x:=VI x (by rw[P0];simp[Op.operands]);have RE:pE au s' t u x=some c:=by
        rw[← hc];unfold pE;rw[hx]
        cases Y7:ev s x with
        | none=>rfl
        | some v=>
         have:cells? s' v=cells? s v:=cells?_view fun p hp=>Sj p (by simp only[Y7];exact sf hp)
         cases dq au t with
         | none=>cases v<;>rfl
         | some d=>
          cases dq au u with
          | none=>cases v<;>cases d<;>rfl
          | some d'=>cases v<;>cases d<;>cases d'<;>first | rfl | simp only[this]
       obtain⟨z,k1,k2⟩:=Aw ht hr RE;have k3:(execOp a.eval o).run P w=.ok (.value z) w:=by
        simp[execOp,P0,k1]
       unfold Oper.wp;rw[k3];exact hK _ _ σ (s'.put o.dst c) (mB _ _ _) (jz hd hr k2) fun _ _ _=>rfl
      ·cases hv
     ·cases hv
    split at h
    ·rename_i ob f hv;cases h;have Uy:pM au s' o.op=some (ob,f):=by rw[B5 VI,hv]
     obtain⟨z,w',B,k1,k2⟩:=Ew ht hr hm SQ QY Qk Uy;unfold Oper.wp;rw[k1];refine hK _ _ _ _ ?_ k2 fun p hp _=>by simp[sig,hp]
     exact gk (s:=s') (k:=0) (d:=o.dst) (r:=some (f m)) (fun p=>by simp only[assoc,jJ];by_cases e:m=p<;>simp[e]) rfl
    ·split at h
     ·rename_i t x v P0;split at h
      ·rename_i p ob hc;cases h;have hx:ev s' x=ev s x:=VI x (by rw[P0];simp[Op.operands]);have hv:ev s' v=ev s v:=VI v (by rw[P0];simp[Op.operands]);unfold M6 at hc;split at hc
       ·rename_i p' off c i' h1 h2 h3;split at hc
        ·cases hc
        ·rename_i P6 Rh;split at hc
         ·cases hc
         ·rename_i SB;split at hc
          ·rename_i hlen;cases hc;have ZG:assoc s'.heap p=some P6:=by rw[Sj p zX];exact Rh
           have Qa:qw au s' t x v=some { s' with heap:=oM s'.heap p { P6 with cells:=ic P6.cells off c.cells } }:=by
            unfold qw;rw[hx,hv,h1,h2,h3];simp only[ZG];rw[if_neg SB,if_pos hlen]
           obtain⟨w',k1,k2,_⟩:=wJ ht hr P0 Qa;unfold Oper.wp;rw[k1];refine hK _ _ σ _ ?_ (k2.del undef) fun _ _ _=>rfl;refine gk (s:=s') (k:=0) (d:=o.dst) (r:=none) (fun q=>?_) rfl;rw[eJ];simp only[jJ,assoc];by_cases e:p=q
           ·rw[if_pos e,if_pos e,← e,ZG];rfl
           ·rw[if_neg e,if_neg e]
          ·cases hc
       ·cases hc
      ·cases h
     ·rename_i cl P0;split at h
      ·rename_i x y t t' SY ha Rg;split at h
       ·rename_i e;subst e;split at h
        ·rename_i p q hp hq;split at h
         ·rename_i ob k rm hc;cases h;have Xq:∀ {α:Type} {x:Array α} {l:List α},x.toList=l→x=l.toArray:=fun {α x l} e=>by rw[← e]
          have PT:=Xq ha;have hx:ev s' x=some p:=by rw[VI x (by rw[P0];simp[Op.operands,Call.operands,PT])];exact hp
          have hy:ev s' y=some q:=by rw[VI y (by rw[P0];simp[Op.operands,Call.operands,PT])];exact hq
          have hn:s'.nx=s.nx:=Rq.2.2.1 rfl;have UM:pP au t p (zw s' p) (cells? s' q)=some (ob,k,rm):=by
           rw[Es (fun o' Qu=>Sj o' (List.mem_append_left _ (sf Qu))),cells?_view (fun o' Qu=>Sj o' (List.mem_append_right _ (sf Qu)))];exact hc
          have happ:=B6 (d:=o.dst) hx hy UM;obtain⟨z,w',B,k1,k2⟩:=uH ht hr Qk P0 SY PT (Xq Rg) happ;unfold Oper.wp;rw[k1];refine hK _ _ _ _ ?_ k2 fun p hp PQ=>by simp[sig,Nat.ne_of_lt PQ]
          have hpp:fs (oZ ⟨s'.env,(s'.nx,ob)::Kg s'.heap rm,s'.nx+1⟩ o.dst (some (.bj s'.nx 0 k)))=ap o.dst ⟨some (.bj s'.nx 0 k),(s'.nx,some ob)::rmL rm,1⟩ (fs s'):=by
           refine gk (s:=s') (k:=1) (fun r=>?_) rfl;simp only[assoc,jJ];by_cases e:s'.nx=r
           ·rw[if_pos e,if_pos e]
           ·rw[if_neg e,if_neg e]
            cases rm with
            | none=>simp only[Kg,rmL,assoc]
            | some o2=>
             simp only[Kg,rmL,ez,assoc];by_cases e2:o2=r
             ·rw[if_pos e2,if_pos e2]
             ·rw[if_neg e2,if_neg e2]
          rw[← hn];exact hpp
         ·cases h
        ·cases h
       ·cases h
      ·cases h
     ·cases h
end
abbrev Er:=Ef×List Nat×Bool×Option (Nat×Nat)
instance : Inhabited Er := ⟨(⟨none, [], 0⟩, [], false, none)⟩
def iJ (o:Oper):Bool:=match o.op with
 | .alloc _=>true
 | .box _ _=>true
 | .buildSlice _ _ _=>true
 | .makeSlice _ _ _=>true
 | .store _ _ _=>true
 | .call c=>match c.callee with
  | .builtin .append=>true
  | .builtin _=>false
  | _=>true
 | _=>false
def nU (o:Oper):Bool:=!iJ o && match o.op with
 | .load _ _=>false
 | .slice _ _ _ _ _=>false
 | .convert _ _ _=>false
 | _=>true
def GW (ops:Array Oper):List Nat→List Nat→Bool
 | _,[]=>true
 | pre,i::r=>(match ops[i]? with
   | some o=>o.after.all fun e=>!Region.binds .any e || pre.contains e.on
   | none=>false) && GW ops (i::pre) r
def vT (ops:Array Oper)(dyn:List (Nat×Nat))(i j:Nat):Bool:=match ops[i]?,ops[j]? with
 | some oi,some oj=>oi.apart ops oj && (dyn.contains (i,j) || (!iJ oi && !iJ oj) || nU oi || nU oj)
 | _,_=>false
def Hh (ms:List (Nat×Nat)):List Edge→Nat→Nat
 | [],m=>m
 | e::l,m=>Hh ms l (if Region.binds .any e=true then m ||| (1 <<< e.on) ||| (assoc ms e.on).getD 0 else m)
def Hg (ops:Array Oper)(ms:List (Nat×Nat))(j:Nat):Nat:=match ops[j]? with
 | some o=>Hh ms o.after.toList 0
 | none=>0
def zq (ops:Array Oper)(dyn:List (Nat×Nat))(b:Bool):List Nat→List (Nat×Nat)→List Nat→Bool
 | _,_,[]=>true
 | acc,ms,j::r=>let m:=Hg ops ms j
  (acc.all fun i=>m.testBit i || ((!b || ((ops[i]?).bind cc).isNone) && vT ops dyn i j)) && zq ops dyn b (j::acc) ((j,m)::ms) r
def sR (ops:Array Oper)(b:Bool)(ord:List Nat)(dyn:List (Nat×Nat)):Bool:=
 decide ord.Nodup && ((List.range ops.size).all fun j=>ord.contains j) && (ord.all fun i=>decide (i<ops.size)) && GW ops [] ord && zq ops dyn b [] [] ord
def Bn (w:List (Nat×Option Ob)):Option (Nat×Nat)→Bool
 | none=>true
 | some r=>w.all fun p=>decide (r.1≤p.1) && decide (p.1<r.2)
theorem mY (w:List (Nat×Option Ob)):Bn w none=true:=rfl
theorem tu (r:Option (Nat×Nat)):Bn [] r=true:=by cases r<;>rfl
def uk (x y:Er):Bool:=
 (x.1.w.all fun p=>!y.2.1.contains p.1 && (y.1.w.all fun q=>q.1 != p.1)) && (y.1.w.all fun q=>!x.2.1.contains q.1) && (!y.2.2.1 || x.1.k == 0) && (!x.2.2.1 || y.1.k == 0) && Bn x.1.w y.2.2.2 && Bn y.1.w x.2.2.2
section
variable {P:Program}{C:Cx}{s s':St}{ops:Array Oper}{au:List (Nat×TI)}{mt:gL}{pc:FuncId→List CV→Option CV}{call:fe}
theorem Ed {lo hi m:Nat}{o:Oper}{x:Er}(h:uz au mt ops call pc lo hi m s o=some x)(hl:iJ o=false):x.1.w=[]∧x.1.k=0∧x.2.2.1=false∧x.2.2.2=none:=by
 unfold uz at h;split at h
 ·cases h
 ·cases h;exact⟨rfl,rfl,rfl,rfl⟩
 ·split at h
  ·rename_i c hu;have P0:=fZ hu;exfalso;unfold cc at hu;rw[P0] at hu;simp only at hu;simp only[iJ,P0] at hl;cases PX:c.callee<;>rw[PX] at hu hl<;>simp at hu hl
  ·split at h
   ·cases h;exact⟨rfl,rfl,rfl,rfl⟩
   ·split at h
    ·cases h;exact⟨rfl,rfl,rfl,rfl⟩
    split at h
    ·rename_i ob f hv;exfalso;revert hl hv;cases P0:o.op<;>simp[iJ,P0,pM,AA]
    ·split at h
     ·rename_i P0;simp[iJ,P0] at hl
     ·rename_i cl P0;split at h
      ·rename_i PX _ _;simp[iJ,P0,PX] at hl
      ·cases h
     ·cases h
theorem Gm {lo hi m:Nat}{o:Oper}{x:Er}(h:uz au mt ops call pc lo hi m s o=some x)(hl:nU o=true):x.2.1=[]:=by
 simp only[nU,Bool.and_eq_true,Bool.not_eq_true'] at hl;obtain⟨hl,hs⟩:=hl;unfold uz at h;split at h
 ·cases h
 ·cases h;rfl
 ·split at h
  ·rename_i c hu;have P0:=fZ hu;exfalso;unfold cc at hu;rw[P0] at hu;simp only at hu;simp only[iJ,P0] at hl;cases PX:c.callee<;>rw[PX] at hu hl<;>simp at hu hl
  ·split at h
   ·cases h;simp only;unfold GL;split
    ·rename_i P0;simp[P0] at hs
    ·rename_i P0;simp[P0] at hs
    ·rfl
   ·split at h
    ·rename_i c' rs' hv;exfalso;unfold Dt at hv;split at hv
     ·rename_i P0;simp[P0] at hs
     ·cases hv
    split at h
    ·cases h;rfl
    ·split at h
     ·rename_i P0;simp[iJ,P0] at hl
     ·rename_i cl P0;split at h
      ·rename_i PX _ _;simp[iJ,P0,PX] at hl
      ·cases h
     ·cases h
theorem MG {d d':Option Tmp}{V V':List Nat}{x y:Er}(h:uk x y=true)(s1:∀ t,d=some t→t∉V')(s2:∀ t,d'=some t→t∉V)(s3:∀ t,d=some t→d'≠some t):Fm d d' x.1 y.1 ⟨V,x.2.1,x.2.2.1,x.2.2.2⟩ ⟨V',y.2.1,y.2.2.1,y.2.2.2⟩:=by
 simp only[uk,Bool.and_eq_true,List.all_eq_true,Bool.not_eq_true',bne_iff_ne,Bool.or_eq_true,beq_iff_eq] at h;obtain⟨⟨⟨⟨⟨h1,h2⟩,h3⟩,h4⟩,h5⟩,h6⟩:=h;refine⟨s1,s2,s3,fun o z hz ho=>?_,fun o z hz ho=>?_,fun o z hz=>?_,fun hn=>?_,fun hn=>?_,fun rr hn=>?_,fun rr hn=>?_⟩
 ·have:=(h1 _ (bp _ _ _ hz)).1;simp at this;exact this ho
 ·have:=h2 _ (bp _ _ _ hz);simp at this;exact this ho
 ·have:=(h1 _ (bp _ _ _ hz)).2
  cases h7:assoc y.1.w o with
  | none=>rfl
  | some u=>
   have h8:=this _ (bp _ _ _ h7);simp at h8
 ·rcases h3 with h3 | h3
  ·have UD:y.2.2.1=true:=hn;rw[UD] at h3;cases h3
  ·exact h3
 ·rcases h4 with h4 | h4
  ·have UD:x.2.2.1=true:=hn;rw[UD] at h4;cases h4
  ·exact h4
 ·have UD:y.2.2.2=Option.some rr:=hn;rw[UD] at h5;simp only[Bn,List.all_eq_true,Bool.and_eq_true,decide_eq_true_eq] at h5;exact fun o z hz=>h5 _ (bp _ _ _ hz)
 ·have UD:x.2.2.2=Option.some rr:=hn;rw[UD] at h6;simp only[Bn,List.all_eq_true,Bool.and_eq_true,decide_eq_true_eq] at h6;exact fun o z hz=>h6 _ (bp _ _ _ hz)
theorem vU:∀ (l acc:List Nat),GW ops acc l=true→∀ pre i post,l=pre++i::post→∀ oi,ops[i]? = some oi→∀ e∈oi.after,Region.binds .any e=true→e.on∈acc∨e.on∈pre
 | [],_,_,pre,i,post,h,_,_,_,_,_=>by simp at h
 | k::r,acc,hx,pre,i,post,h,oi,Uo,e,he,hb=>by
  simp only[GW,Bool.and_eq_true] at hx
  cases pre with
  | nil=>
   simp only[List.nil_append,List.cons.injEq] at h;obtain⟨rfl,_⟩:=h;have h1:=hx.1;rw[Uo] at h1;simp only[Array.all_eq_true_iff_forall_mem] at h1;have:=h1 e he;simp only[hb,Bool.not_true,Bool.false_or,List.contains_eq_mem,decide_eq_true_eq] at this;exact .inl this
  | cons p pre=>
   simp only[List.cons_append,List.cons.injEq] at h;obtain⟨rfl,h⟩:=h;rcases vU r (k::acc) hx.2 pre i post h oi Uo e he hb with h2 | h2
   ·rcases List.mem_cons.1 h2 with e2 | h2
    ·exact .inr (by simp[e2])
    ·exact .inl h2
   ·exact .inr (List.mem_cons_of_mem _ h2)
def Lr (ops:Array Oper)(ms:List (Nat×Nat)):Prop:=∀ j m,assoc ms j=some m→∀ i,m.testBit i=true→AV ops j i
theorem zK {ms:List (Nat×Nat)}{i:Nat}:∀ (l:List Edge) (m:Nat),(Hh ms l m).testBit i=true→m.testBit i=true∨∃ e∈l,Region.binds .any e=true∧(i=e.on∨∃ k,assoc ms e.on=some k∧k.testBit i=true)
 | [],m,h=>.inl h
 | e::l,m,h=>by
  rcases zK l _ h with h | ⟨e',he,h⟩
  ·split at h
   ·rename_i hb;simp only[Nat.testBit_or,Bool.or_eq_true,Nat.one_shiftLeft,Nat.testBit_two_pow,decide_eq_true_eq] at h;rcases h with (h | h) | h
    ·exact .inl h
    ·exact .inr ⟨e,List.mem_cons_self,hb,.inl h.symm⟩
    ·cases hk:assoc ms e.on with
     | none=>rw[hk] at h;simp at h
     | some k=>rw[hk] at h;exact .inr ⟨e,List.mem_cons_self,hb,.inr ⟨k,hk,h⟩⟩
   ·exact .inl h
  ·exact .inr ⟨e',List.mem_cons_of_mem _ he,h⟩
theorem zJ {ms:List (Nat×Nat)}(h:Lr ops ms){j i:Nat}(hm:(Hg ops ms j).testBit i=true):AV ops j i:=by
 intro listed hc hj;unfold Hg at hm;split at hm
 ·rename_i o ho;rcases zK _ _ hm with h0 | ⟨e,he,hb,h1⟩
  ·simp at h0
  ·have hl:=hj o ho e (by simpa using he) hb;rcases h1 with rfl | ⟨k,hk,hi⟩
   ·exact hl
   ·exact h e.on k hk i hi listed hc fun ok P9 e' he' P5=>hc e.on ok P9 hl e' he' P5
 ·simp at hm
theorem tO {dyn:List (Nat×Nat)}{b:Bool}:∀ (l acc:List Nat) (ms:List (Nat×Nat)),Lr ops ms→zq ops dyn b acc ms l=true→∀ pre j post,l=pre++j::post→∀ i,i∈acc∨i∈pre→AV ops j i∨((b=true→(ops[i]?).bind cc=none)∧vT ops dyn i j=true)
 | [],_,_,_,_,pre,j,post,h,_,_=>by simp at h
 | k::r,acc,ms,QZ,hx,pre,j,post,h,i,hi=>by
  simp only[zq,Bool.and_eq_true,List.all_eq_true] at hx
  cases pre with
  | nil=>
   simp only[List.nil_append,List.cons.injEq] at h;obtain⟨rfl,rfl⟩:=h;have:=hx.1 i (hi.resolve_right List.not_mem_nil);simp only[Bool.or_eq_true,Bool.and_eq_true,Bool.not_eq_true',Option.isNone_iff_eq_none] at this;rcases this with h1 | ⟨h1,h2⟩
   ·exact .inl (zJ QZ h1)
   ·exact .inr ⟨fun e=>h1.resolve_left (by rw[e];simp),h2⟩
  | cons p pre=>
   simp only[List.cons_append,List.cons.injEq] at h;obtain⟨rfl,h⟩:=h;refine tO r (k::acc) _ (fun j' m' h' i' UY=>?_) hx.2 pre j post h i ?_
   ·simp only[assoc] at h';split at h'
    ·rename_i e;cases h';subst e;exact zJ QZ UY
    ·exact QZ j' m' h' i' UY
   ·rcases hi with hi | hi
    ·exact .inl (List.mem_cons_of_mem _ hi)
    ·rcases List.mem_cons.1 hi with rfl | hi
     ·exact .inl List.mem_cons_self
     ·exact .inr hi
end
def renV (o q:Nat):CV→CV
 | .bj p off n=>if p=o then .bj q off n else .bj p off n
 | c=>c
def renOk (o q:Nat):CV→Bool
 | .bj p _ _=>p == o || decide (p<q)
 | c=>a7 q c
def renE (o q:Nat):List (Nat×CV)→List (Nat×CV)
 | []=>[]
 | (t,c)::r=>(t,renV o q c)::renE o q r
attribute [simp] renV renOk renE
end Go.Can
namespace Go.Can
section
variable {α:Type}{f:α→List CV}{n:Nat}
theorem bk (hf:∀ x,(f x).length=n):∀ m:List α,(m.flatMap f).length=m.length*n
 | []=>by simp
 | a::r=>by
  have ih:=bk hf r;simp only[List.flatMap_cons,List.length_append,hf,ih,List.length_cons,Nat.add_mul];omega
theorem EN (hf:∀ x,(f x).length=n):∀ (m:List α) (i:Nat),(m.flatMap f).take (i*n)=(m.take i).flatMap f
 | [],i=>by simp
 | a::r,0=>by simp
 | a::r,i+1=>by
  have ih:=EN hf r i;simp only[List.take_succ_cons,List.flatMap_cons,← ih];rw[show (i+1)*n=(f a).length+i*n by rw[hf,Nat.add_mul];omega,List.take_length_add_append]
theorem wD (hf:∀ x,(f x).length=n):∀ (m:List α) (i:Nat),(m.flatMap f).drop (i*n)=(m.drop i).flatMap f
 | [],i=>by simp
 | a::r,0=>by simp
 | a::r,i+1=>by
  have ih:=wD hf r i;simp only[List.drop_succ_cons,List.flatMap_cons,← ih];rw[show (i+1)*n=(f a).length+i*n by rw[hf,Nat.add_mul];omega,List.drop_length_add_append]
theorem aO (hf:∀ x,(f x).length=n){m:List α}{i:Nat}{e:α}(h:m[i]? = some e):(m.flatMap f).drop (i*n)=f e++(m.drop (i+1)).flatMap f:=by
 rw[wD hf];obtain⟨hi,he⟩:=List.getElem?_eq_some_iff.1 h;rw[List.drop_eq_getElem_cons hi,he,List.flatMap_cons]
end
open Go.ChangeShapes Go.WideShapes Go.ChangeAt Go.RowKit
section
variable {P:Program}{H:Type}{enc:TypeId×Value→H}{w:World}
theorem Hb {F:Nat→Prop}(hF:∀ b,¬ F b):∀ (cs:List CV) (ad:Addr),cs.all one=true→(∀ i c,cs[i]? = some c→∃ u,w.cell? (ad.add i)=some u∧ch w F c u)→fN w F cs ad
 | [],_,_,_=>by simp[fN]
 | c::cs,ad,h1,h=>by
  simp only[List.all_cons,Bool.and_eq_true] at h1;obtain⟨u,k1,k2⟩:=h 0 c rfl;rw[add_zero] at k1;simp only[fN];refine⟨⟨u,k1,hF _,k2⟩,h1.1,Hb hF cs _ h1.2 fun i d hi=>?_⟩;obtain⟨v,m1,m2⟩:=h (i+1) d WV;refine⟨v,?_,m2⟩;rw[add_add,Nat.add_comm];exact m1
theorem JI {α:Type}(f:α→CV)(h:∀ x,one (f x)=true)(l:List α):(l.map f).all one=true:=by
 rw[List.all_eq_true];intro x hx;obtain⟨y,_,rfl⟩:=List.mem_map.1 hx;exact h y
theorem IF {F:Nat→Prop}(cs:List CV)(h:cs=[]):ch w F (.az cs 0) (.slice none 0 0):=by
 subst h;simp only[ch];exact⟨none,0,rfl,Nat.le_refl _,Nat.zero_le _,.inl ⟨trivial,by simp⟩⟩
theorem vb {F:Nat→Prop}(hF:∀ b,¬ F b){t e:TypeId}{r:Reach}{b0:Nat}{v:Value}{d:DataW H}{ps:List MemPlace}(ht:P.underlying t=some (.slice e))(he:P.underlying e=some (.int .i64))(hc:P.cellsOf e=1)
  (Rw:Value.okWide P w r b0 t v) (h:DataW.Trod enc P w 0 (fun _=>true) true t v d ps):∃ l:List Int,ch w F (ints l) v∧l.length≤9223372036854775807:=by
 obtain⟨a,n,cap,rfl⟩:=okWide_slice ht Rw;obtain⟨fuel,hf⟩:=h;rcases open_ints ht he hc hf with ⟨Ql,_⟩ | ⟨a',len,cap',zs,Ql,_,hl,hm,hz,_,Q8,_⟩
 ·simp[Value.cells] at Ql;obtain⟨rfl,rfl,rfl⟩:=Ql;exact⟨[],IF _ rfl,by simp⟩
 ·simp[Value.cells] at Ql;obtain⟨rfl,rfl,rfl⟩:=Ql;simp only[if_true] at hz;have hlen:(zs.take n).length=n:=by simp;omega
  refine⟨zs.take n,?_,by rw[hlen];simp only[maxLen] at hm;omega⟩;unfold ints;rw[hlen];simp only[ch];refine⟨_,cap,rfl,hl,hm,.inr ⟨a',rfl,Hb hF _ _ (JI _ (fun _=>rfl) _) fun i c hi=>?_⟩⟩;rw[List.getElem?_map] at hi;obtain⟨z,TV,rfl⟩:=Option.map_eq_some_iff.1 hi;rw[List.getElem?_take] at TV;split at TV
  ·rename_i P4;have PQ:i<zs.length:=by omega
   refine⟨_,Q8 i PQ,?_⟩;have:zs.getD i 0=z:=by simp[List.getD,TV]
   rw[this];simp[ch]
  ·cases TV
theorem ae.calls {f:FuncId}{args:List CV}{b:Bool}(h:ae P f args (.bool b)){vs:List Value}(hv:bP w (fun _=>False) args vs):Calls P f vs.toArray w fun e w'=>e=.returned (.bool b)∧Below w.heap.size w w':=
 (h.2 (fun _=>False) vs w (fun _ hb=>hb.elim) hv).mono fun e w' ⟨v,h1,h2,h3⟩=>by
  simp only[ch] at h3;subst h3;exact⟨h1,h2⟩
end
end Go.Can
/- Arguments as the contracts read them: a slice of structs of four integers. No function of the program is mentioned here. -/
namespace Go.Can
open Go.ChangeShapes Go.WideShapes Go.ChangeAt Go.RowKit
section
variable {P:Program}{H:Type}{enc:TypeId×Value→H}{w:World}
def q4 (e:Int×Int×Int×Int):List CV:=[.int .i64 e.1,.int .i64 e.2.1,.int .i64 e.2.2.1,.int .i64 e.2.2.2]
end
end Go.Can
namespace Go.aP
open Go.Can
inductive Ex where
 | zero
 | num (n:Nat)
 | nm (s:ByteArray)
 | un (k:Nat) (e:Ex)
 | bin (k:Nat) (a b:Ex)
 | loc (i:Nat)
 | jE (i:Nat)
abbrev I (n:Int):CV:=.int .i64 n
def eS:ByteArray:=⟨#[]⟩
def bK:Ex→List CV
 | .zero=>[I 0,I 0,.str eS,.az [] 0]
 | .num n=>[I 1,I n,.str eS,.az [] 0]
 | .nm s=>[I 2,I 0,.str s,.az [] 0]
 | .un k e=>[I (3+k),I 0,.str eS,.az (bK e) 1]
 | .bin k a b=>[I (5+k),I 0,.str eS,.az (bK a++bK b) 2]
 | .loc i=>[I 18,I i,.str eS,.az [] 0]
 | .jE i=>[I 19,I i,.str eS,.az [] 0]
theorem bJ (e:Ex):(bK e).length=4:=by cases e<;>rfl
def Ex.op:Ex→Int
 | .zero=>0
 | .num _=>1
 | .nm _=>2
 | .un k _=>3+k
 | .bin k _ _=>5+k
 | .loc _=>18
 | .jE _=>19
def Ex.n:Ex→Int
 | .num n=>n
 | .loc i=>i
 | .jE i=>i
 | _=>0
def Ex.name:Ex→ByteArray
 | .nm s=>s
 | _=>eS
def Ex.args:Ex→List Ex
 | .un _ e=>[e]
 | .bin _ a b=>[a,b]
 | _=>[]
theorem bU (e:Ex):bK e=[I e.op,I e.n,.str e.name,.az (e.args.flatMap bK) e.args.length]:=by
 cases e<;>simp[bK,Ex.op,Ex.n,Ex.name,Ex.args]
structure Rf where
 name:ByteArray
 index:Option Ex
def nV:Option Ex→CV
 | none=>.az [] 0
 | some e=>.az (bK e) 1
def j9 (r:Rf):List CV:=[.str r.name,nV r.index]
def ke:List CV:=[.str eS,.az [] 0]
inductive Ar where
 | ua (r:Rf)
 | exp (e:Ex)
def nN:Ar→List CV
 | .ua r=>.bool true::j9 r++bK .zero
 | .exp e=>.bool false::ke++bK e
inductive Sm where
 | gA (name:ByteArray) (e:Ex)
 | hD (name:ByteArray) (e:Ex)
 | dI (go:Bool) (name:ByteArray) (args:List Ar)
 | di (un:Bool) (r:Rf)
 | kG (e:Ex) (th el:List Sm)
 | cC (e:Ex) (th:List Sm)
 | jb
mutual
def gM:Sm→List CV
 | .gA s e=>[I 1,.str s]++bK e++ke++[.az [] 0,.az [] 0,.az [] 0]
 | .hD s e=>[I 2,.str s]++bK e++ke++[.az [] 0,.az [] 0,.az [] 0]
 | .dI g s l=>[I (if g then 4 else 3),.str s]++bK .zero++ke++[.az (l.flatMap nN) l.length,.az [] 0,.az [] 0]
 | .di u r=>[I (if u then 6 else 5),.str eS]++bK .zero++j9 r++[.az [] 0,.az [] 0,.az [] 0]
 | .kG e th el=>[I 7,.str eS]++bK e++ke++[.az [] 0,.az (bz th) th.length,.az (bz el) el.length]
 | .cC e th=>[I 8,.str eS]++bK e++ke++[.az [] 0,.az (bz th) th.length,.az [] 0]
 | .jb=>[I 9,.str eS]++bK .zero++ke++[.az [] 0,.az [] 0,.az [] 0]
def bz:List Sm→List CV
 | []=>[]
 | s::r=>gM s++bz r
end
theorem mT:∀ l:List Sm,bz l=l.flatMap gM
 | []=>rfl
 | s::r=>by rw[bz,mT r,List.flatMap_cons]
theorem jR (s:Sm):(gM s).length=11:=by
 cases s<;>simp[gM,bJ,ke,j9]
structure Pm where
 name:ByteArray
 mutex:Bool
def kj (p:Pm):List CV:=[.str p.name,.bool p.mutex]
structure Gl where
 name:ByteArray
 init:Int
def nW (g:Gl):List CV:=[.str g.name,I g.init]
structure Mx where
 name:ByteArray
 re:Bool
 size:Nat
def eL (m:Mx):List CV:=[.str m.name,.bool m.re,I m.size]
structure Fu where
 name:ByteArray
 params:List Pm
 body:List Sm
def eF (f:Fu):List CV:=[.str f.name,.az (f.params.flatMap kj) f.params.length,.az (bz f.body) f.body.length]
structure Pg where
 gs:List Gl
 ms:List Mx
 fs:List Fu
def dU (p:Pg):List CV:=[.az (p.gs.flatMap nW) p.gs.length,.az (p.ms.flatMap eL) p.ms.length,.az (p.fs.flatMap eF) p.fs.length]
def vS (p:Pg):CV:=.agg (dU p)
structure Pl where
 param:Bool
 index:Nat
 at_:Option Ex
def l9 (p:Pl):List CV:=[.bool p.param,I p.index,nV p.at_]
def qL:List CV:=[.bool false,I 0,.az [] 0]
inductive In where
 | set (t:Nat) (g:Bool) (e:Ex)
 | call (go:Bool) (t:Nat) (ints:List Ex) (places:List Pl)
 | lock (un:Bool) (p:Pl)
 | branch (t:Nat) (e:Ex)
 | jump (t:Nat)
 | ret
def dd:In→List CV
 | .set t g e=>[I 1,I t,.bool g]++bK e++qL++[.az [] 0,.az [] 0]
 | .call g t l ps=>[I (if g then 3 else 2),I t,.bool false]++bK .zero++qL++[.az (l.flatMap bK) l.length,.az (ps.flatMap l9) ps.length]
 | .lock u p=>[I (if u then 5 else 4),I 0,.bool false]++bK .zero++l9 p++[.az [] 0,.az [] 0]
 | .branch t e=>[I 6,I t,.bool false]++bK e++qL++[.az [] 0,.az [] 0]
 | .jump t=>[I 7,I t,.bool false]++bK .zero++qL++[.az [] 0,.az [] 0]
 | .ret=>[I 8,I 0,.bool false]++bK .zero++qL++[.az [] 0,.az [] 0]
theorem fo (x:In):(dd x).length=12:=by
 cases x<;>simp[dd,bJ,qL,l9]
structure Pr where
 name:ByteArray
 ints:Nat
 bx:Nat
 locals:Nat
 code:List In
def nD (p:Pr):List CV:=[.str p.name,I p.ints,I p.bx,I p.locals,.az (p.code.flatMap dd) p.code.length]
structure Un where
 gs:List Int
 ms:List Mx
 ps:List Pr
 main:Nat
def dh (u:Un):List CV:=[ints u.gs,.az (u.ms.flatMap eL) u.ms.length,.az (u.ps.flatMap nD) u.ps.length,I u.main]
def ef (u:Un):CV:=.agg (dh u)
structure Is where
 proc:Nat
 bx:List Nat
def aA (l:List Nat):CV:=.az (l.map fun n:Nat=>I n) l.length
def df (i:Is):List CV:=[I i.proc,aA i.bx]
structure Cl where
 is:List Is
 calls:List (List Int)
 roots:List Nat
def fp (c:Cl):List CV:=[.az (c.is.flatMap df) c.is.length,.az (c.calls.map ints) c.calls.length,aA c.roots]
def jj (c:Cl):CV:=.agg (fp c)
end Go.aP
