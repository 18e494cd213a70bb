/- Further operations: conver -/
import Derived.Test.YtlkmbdfhdknlgaaGreatV09
import Derived.Laws.IdiomStrings
namespace Go.Can
open Go.RowKit List
section
variable {P:Program}{C:Cx}{σ:Nat->Option OB}{s:St}{a:Act}{w:World}{ops:Array Oper}{av:List (Nat×TI)}
def qh (P:Program)(C:Cx)(o:Oper)(s s':St):Prop:=∀ a w,Rel C s a w ->
 ∃ w',((∃ z,(execOp a.eval o).run P w=.ok (.value z) w'/\Rel C s' (a.put o.dst z) w')\/((execOp a.eval o).run P w=.ok .skip w'/\Rel C s' (a.put o.dst undef) w'))
theorem qh.le {o:Oper}{s1 s':St}(hl:Le C s s1)(h:qh P C o s1 s'):qh P C o s s':=λ a w hr=>h a w (hl a w hr)
theorem qh.JX (ht:aD P av){o:Oper}{s':St}(hd:bl C.nt o.dst=true)(h:nR av s o=some s'):qh P C o s s':=λ _ _ hr=>xh ht hr hd h
theorem l9 {o:Oper}{l:List Oper}{K:St->Prop}{s':St}(hg:bW ops s o=some true)(hx:qh P C o s s')(h:TL P C ops l s' K):TL P C ops (o::l) s K:=by
 intro a w Q hr hQ;have hw:Region.wanted o (yielded ops a.tmps)=true:=by
  unfold bW at hg;split at hg
  ·rename_i e;simp[Region.wanted,e]
  ·rename_i j want e;split at hg
   ·cases hg
   rename_i t hj;exact iR hr e hj hg
 unfold wpList;rw[if_pos hw];refine .inl ?_;obtain⟨w',h1 | h1⟩:=hx a w hr
 ·obtain⟨z,k1,k2⟩:=h1;unfold Oper.wp;rw[k1];exact h _ _ Q k2 hQ
 ·obtain⟨k1,k2⟩:=h1;unfold Oper.wp;rw[k1];exact h _ _ Q k2 hQ
def bytesOf:List CV->Option (List UInt8)
 | []=>some []
 | .int .u8 n::r=>if 0<=n/\n<256 then (bytesOf r).map (UInt8.ofNat n.toNat :: ·) else none
 | _=>none
theorem wu {F:Nat->Prop}:∀ (cs:List CV) (l:List UInt8) (us:List Value),bytesOf cs=some l->a7 w F σ cs us->us=l.map λ b=>Value.int .u8 (b.toNat:Int)
 | [],l,us,h,hr=>by
  simp only[bytesOf] at h;cases h
  simpa [a7] using hr
 | c::cs,l,us,h,hr=>by
  simp only[a7] at hr;obtain⟨v,r,rfl,h1,h2⟩:=hr;unfold bytesOf at h;split at h
  ·rename_i e;cases e
  ·rename_i n r' e;cases e;split at h
   ·rename_i hn;obtain⟨l',h3,rfl⟩:=Option.map_eq_some_iff.1 h;simp only[VR] at h1;subst h1;rw[wu cs l' r h3 h2];simp only[map_cons,cons.injEq,Value.int.injEq,true_and,and_true];have:(UInt8.ofNat n.toNat).toNat=n.toNat:=by
     have e:(UInt8.ofNat n.toNat).toNat=n.toNat % 256:=UInt8.toNat_ofNat';rw[e];omega
    rw[this];omega
   ·cases h
  ·cases h
def q8 (av:List (Nat×TI))(s:St)(a b:TypeId)(x:Operand):Option CV:=
 match ev s x,dM av a,dM av b with
 | some (.int _ n),some _,some (.int k)=>some (.int k (k.wrap n))
 | some (.str v),some _,some .str=>some (.str v)
 | some c,some (.sl e),some .str=>match dM av e,cells? s c with
  | some (.int .u8),some (cs,m)=>if cs.length=m then (bytesOf cs).map λ l=>.str ⟨l.toArray⟩ else none
  | _,_=>none
 | _,_,_=>none
theorem eY (ht:aD P av){t:TypeId}{d:TD}(h:dM av t=some d):∃ i,assoc av t=some i/\i.d=d/\∃ u,P.underlying t=some u/\ue u=d:=by
 obtain⟨i,h1,h2⟩:=Option.map_eq_some_iff.1 h;obtain⟨u,h3,h4⟩:=(ht t i h1).zJ;exact⟨i,h1,h2,u,h3,h4.trans h2⟩
theorem uv {t:TypeId}{k:IntKind}(ht:aD P av)(h:dM av t=some (.int k)):P.underlying t=some (.int k):=by
 obtain⟨_,_,_,u,h1,h2⟩:=eY ht h;cases u<;>simp only[ue] at h2<;>first | cases h2 | skip
 exact h1
theorem BI (ht:aD P av)(h:aO C σ s a w){t u:TypeId}{x:Operand}{c:CV}(hc:q8 av s t u x=some c):∃ z,(convert t u (a.eval x)).run P w=.ok z w/\VR w (FB C σ s.heap) σ c z:=by
 unfold q8 at hc;split at hc
 ·rename_i k0 n d k hx h1 h2;cases hc;have hv:=bG h hx;simp only[VR] at hv;obtain⟨_,_,_,ud,g1,_⟩:=eY ht h1;have g2:=uv ht h2;refine⟨.int k (k.wrap n),?_,dT _ _⟩;rw[hv];simp[convert,run_underlying g1,run_underlying g2,Conv.intToInt]
 ·rename_i v d hx h1 h2;cases hc;have hv:=bG h hx;simp only[VR] at hv;obtain⟨_,_,_,ud,g1,_⟩:=eY ht h1;obtain⟨i,i1,i2,_⟩:=eY ht h2;have g2:=ml (ht u i i1) i2;refine⟨.string v,?_,zG _⟩;rw[hv];simp[convert,run_underlying g1,run_underlying g2]
 ·rename_i c' e _ hx h1 h2;split at hc
  ·rename_i cs m he PQ;split at hc
   ·rename_i hlen;obtain⟨l,hl,rfl⟩:=Option.map_eq_some_iff.1 hc;obtain⟨i1,a1,a2,_⟩:=eY ht h1;obtain⟨i2,b1,b2,_⟩:=eY ht h2;have g1:=dI (ht t i1 a1) a2;have g2:=ml (ht u i2 b1) b2;have g3:=uv ht he;obtain⟨us,k1,_,k3⟩:=cells?_ok h (bG h hx) PQ;have UA:=wu _ _ _ hl k1;have PV:l.length=m:=by
     have:=a7.length _ _ k1;rw[UA,length_map] at this;omega
    refine⟨.string ⟨l.toArray⟩,?_,zG _⟩;rcases k3 with ⟨cp,e1,e2,e3⟩ | ⟨ad,cp,e1,e2⟩
    ·have:l=[]:=eq_nil_of_length_eq_zero yA;subst this;rw[e1,run_convert_bytes_string w t u e none 0 cp g1 g3 g2];rfl
    ·rw[e1];subst PV;refine run_convert_bytes_back w t u e ad cp l g1 g3 g2 λ j hj=>?_;refine e2 j _ ?_;rw[UA];simp[hj]
   ·cases hc
  ·cases hc
 ·cases hc
def qc (b:ByteArray):List CV:=b.data.toList.map λ x=>.int .u8 (x.toNat:Int)
theorem FQ {F:Nat->Prop}(b:ByteArray):ca w F (qc b) (b.data.toList.map λ x=>Value.int .u8 (x.toNat:Int))/\(qc b).all one=true:=by
 unfold qc;generalize b.data.toList=l
 induction l with
 | nil=>simp[ca]
 | cons x r ih=>
  simp only[map_cons,ca,all_cons,ih.2,Bool.and_true];exact⟨⟨_,_,rfl,by simp[cr],ih.1⟩,rfl⟩
theorem dX {o:Oper}(hd:bl C.nt o.dst=true)(h:aO C σ s a w){c:CV}{v:Value}(hv:VR w (FB C σ s.heap) σ c v):Rel C (s.put o.dst c) (a.put o.dst v) w:=
 ⟨σ,h.put (λ t e=>by rw[h.tm];rw[e] at hd;simpa [bl] using hd) hv⟩
theorem yG (ht:aD P av){o:Oper}{t u e:TypeId}{x:Operand}{b:ByteArray}(hd:bl C.nt o.dst=true)(ho:o.op=.convert t u x)(hx:ev s x=some (.str b))(h1:dM av t=some .str)(h2:dM av u=some (.sl e))(h3:dM av e=some (.int .u8))(hm:b.size<=1000000) :
  qh P C o s (s.put o.dst (.au (qc b) b.size)):=by
 rintro a w ⟨σ,h⟩;obtain⟨i1,a1,a2,_⟩:=eY ht h1;obtain⟨i2,b1,b2,_⟩:=eY ht h2;have g1:=ml (ht t i1 a1) a2;have g2:=dI (ht u i2 b1) b2;have g3:=uv ht h3;have hv:=bG h hx;simp only[VR] at hv;have P1:=run_bytes_of_string (P:=P) w t u e b g1 g2 g3;have hb:Below w.heap.size w (w.drew.alloc (.cells (bytesRow b (grownCap w b.size 0 e)) e ((bytesRow b (grownCap w b.size 0 e)).size,(bytesRow b (grownCap w b.size 0 e)).size+1))):=
  ⟨rfl,rfl,rfl,by simp,λ k hk=>heap_alloc_old w.drew _ k hk⟩
 have PW:(w.drew.alloc (.cells (bytesRow b (grownCap w b.size 0 e)) e ((bytesRow b (grownCap w b.size 0 e)).size,(bytesRow b (grownCap w b.size 0 e)).size+1))).heap[w.heap.size]? = some (.cells (bytesRow b (grownCap w b.size 0 e)) e ((bytesRow b (grownCap w b.size 0 e)).size,(bytesRow b (grownCap w b.size 0 e)).size+1)):=heap_alloc_new w.drew _;revert hb PW;generalize PT:(w.drew.alloc (.cells (bytesRow b (grownCap w b.size 0 e)) e ((bytesRow b (grownCap w b.size 0 e)).size,(bytesRow b (grownCap w b.size 0 e)).size+1)))=w';rw[PT] at P1;intro hb PW;refine⟨w',.inl ⟨.slice (some ⟨w.heap.size,0,none⟩) b.size (grownCap w b.size 0 e),by simp[execOp,ho,hv,P1],dX hd (h.below hb) ?_⟩⟩;obtain⟨k1,k2⟩:=FQ (w:=w') (F:=FB C σ s.heap) b;simp only[VR,cr];have SD:b.size<=grownCap w b.size 0 e:=grownCap_ge w b.size 0 e;refine⟨_,_,rfl,SD,grownCap_le_maxLen w _ _ _ (by simp only[maxLen];omega),.inr ⟨_,rfl,?_⟩⟩;refine iC _ _ _ k1 k2 (λ hf=>?_) λ j v hj=>?_
 ·have:=Ew h _ hf;simp at this
 ·rw[add_lit,Nat.zero_add,cell_of_row w' _ _ _ _ _ PW];rw[getElem?_map] at hj;obtain⟨y,hy,rfl⟩:=Option.map_eq_some_iff.1 hj;have OT:j<b.data.size:=by simpa using (List.getElem?_eq_some_iff.1 hy).1
  rw[bytesRow_at b _ j OT];have:y=b.data[j]:=by
   have:=(List.getElem?_eq_some_iff.1 hy).2
   simpa using this.symm
  rw[this]
def H8 (s:St)(o:Nat)(ob:Ob)(d:Option Tmp)(off n:Nat):St:=(s.cF o ob).put d (.au ((ob.cells.drop off).take (n*ob.sz)) n)
theorem DX (ht:aD P av){o:Oper}{t e:TypeId}{x:Operand}{p off n:Nat}{ob:Ob}(hd:bl C.nt o.dst=true)(ho:o.op=.convert t t x)(hx:ev s x=some (.bg p off n))(hn:0<n)(h2:dM av t=some (.sl e))(h3:dM av e=some (.int .u8))
  (QT:assoc s.heap p=some ob) (O1:trees ob.cells=true):qh P C o s (H8 s p ob o.dst off n):=by
 rintro a w ⟨σ,h⟩;obtain⟨i2,b1,b2,_⟩:=eY ht h2;have g2:=dI (ht t i2 b1) b2;have g3:=uv ht h3;have hv:=bG h hx;have T9:=hv;simp only[VR] at hv;obtain⟨B,hB,hv⟩:=hv;obtain⟨B',e1,e2,e3,e4,e5⟩:=h.obj p ob QT;rw[hB] at e1;cases e1
 cases Qo:B.j7 with
 | none=>rw[Qo] at hv;simp only at hv;omega
 | some b=>
  rw[Qo] at hv;simp only at hv;obtain⟨cap,hv,c1,c2,c3,c4⟩:=hv;obtain⟨cur,n1,n2,n3,n4,n5,n6⟩:=e5 b Qo;have OT:=(Array.getElem?_eq_some_iff.1 n1).1;have hsh:w.shape? b=some (ob.elem,cur.size):=by unfold World.shape?;rw[n1]
  let w':World:=w.freeze ⟨b,cur.size,none⟩ 1
  have PT:w'.heap=w.heap.modify b (λ | .cells c elem (lo,hi)=>.cells c elem (if lo == hi then (cur.size,cur.size+1) else (min lo cur.size,max hi (cur.size+1))) | o=>o):=rfl;have PD:∀ k,k≠b->w'.heap[k]? = w.heap[k]?:=λ k hk=>by
   rw[PT,Array.getElem?_modify,if_neg (Ne.symm hk)]
  have Qu:w'.heap[b]? = some (.cells cur ob.elem (cur.size,cur.size+1)):=by
   rw[PT,Array.getElem?_modify,if_pos rfl,n1];rfl
  have Rj:∀ ad,w'.cell? ad=w.cell? ad:=λ ad=>by
   by_cases hk:ad.block=b
   ·unfold World.cell?;rw[hk,Qu,n1]
   ·exact World.cell?_of_block (PD _ hk)
  have hk:∀ F:Nat->Prop,cY w w' F F:=λ F=>⟨λ ad u hf hu=>⟨by rw[Rj];exact hu,hf⟩,λ r x hf hu hx=>by
   have Pp:r≠b:=λ e=>by subst e;rw[n1] at hu;cases hu;exact hx _ _ _ rfl
   exact⟨by rw[PD r Pp];exact hu,hf⟩⟩
  have h':=h.cF QT O1;have Ze:∀ q y,assoc (s.cF p ob).heap q=some y->a9 σ q≠some b:=λ q y hq hb=>by
   obtain⟨Pp,z,hz,_⟩:=fU _ _ _ hq;exact Pp (h.inj q p z ob b hz QT hb (by simp[a9,hB,Qo]))
  have SH:aO C σ (s.cF p ob) a w':=by
   refine⟨h'.oz,h'.tm,h'.os,h'.tape,h'.output,?_,?_,?_,?_,h'.inj,h'.nx,h'.fX,h'.low,h'.new⟩
   ·rw[PT,Array.size_modify];exact h'.size
   ·intro k RU Uo;rw[PD k (λ e=>?_)]
    ·exact h'.frame k RU Uo
    ·subst e;rcases n4 with n4 | n4
     ·exact Uo n4
     ·omega
   ·intro t c hc;obtain⟨v,k1,k2⟩:=h'.env t c hc;exact⟨v,k1,VR.bL (hk _) c v (λ _ _=>rfl) k2⟩
   ·intro q y hq;obtain⟨B2,m1,m2,m3,m4,m5⟩:=h'.obj q y hq;refine⟨B2,m1,m2,m3,m4,λ b2 Q0=>?_⟩;obtain⟨Tx,q1,q2,q3,q4,q5,q6⟩:=m5 b2 Q0;have Pp:b2≠b:=λ e=>Ze q y hq (by simp[a9,m1,Q0,e]);exact⟨Tx,by rw[PD b2 Pp];exact q1,q2,q3,q4,q5,a7.bL (hk _) _ _ (λ _ _=>rfl) q6⟩
  have QQ:VR w' (FB C σ (s.cF p ob).heap) σ (.au ((ob.cells.drop off).take (n*ob.sz)) n) (a.eval x):=by
   cases x with
   | tmp t=>
    have X4:assoc (s.cF p ob).env t=some (.au ((ob.cells.drop off).take (n*ob.sz)) n):=by
     have QD:assoc s.env t=some (.bg p off n):=hx;have:∀ l:List (Nat×CV),assoc l t=some (.bg p off n)->assoc (wU p ob.cells ob.sz l) t=some (.au ((ob.cells.drop off).take (n*ob.sz)) n):=by
      intro l
      induction l with
      | nil=>intro h;cases h
      | cons y r ih=>
       obtain⟨k,c⟩:=y;intro hl;simp only[wU,assoc] at hl |-;split at hl
       ·rename_i e;cases hl;rw[if_pos e];simp[cK]
       ·rename_i e;rw[if_neg e];exact ih hl
     exact this s.env QD
    obtain⟨v,k1,k2⟩:=SH.env t _ X4;have:a.eval (.tmp t)=v:=by simp[Act.eval,k1]
    rw[this];exact k2
   | const v=>exact absurd hx (by
     simp only[ev];intro hc;have:=mS (w:=w) (F:=λ _=>False) hc;simp[cr] at this)
   | func f=>cases hx
   | global g=>
    simp only[ev,Option.bind_eq_some_iff,Option.map_eq_some_iff] at hx;obtain⟨_,_,_,_,h⟩:=hx;cases h
  have P1:(execOp a.eval o).run P w=.ok (.value (a.eval x)) w':=by
   rw[hv];simp[execOp,ho,hv,convert,run_underlying g2,run_underlying g3,markStringish,hsh,w']
  exact⟨w',.inl ⟨_,P1,dX hd SH QQ⟩⟩
theorem A9 (ht:aD P av){o:Oper}{t:TypeId}{x:Operand}{c:CV}{d:TD}(hd:bl C.nt o.dst=true)(ho:o.op=.makeInterface t x)(hx:ev s x=some c)(h1:dM av t=some d)(hn:d=.Mz->False):qh P C o s (s.put o.dst (.iface t [c])):=by
 rintro a w ⟨σ,h⟩;obtain⟨i1,a1,a2,u,g1,g2⟩:=eY ht h1;have hv:=bG h hx;refine⟨w,.inl ⟨.iface t (a.eval x),?_,dX hd h ?_⟩⟩
 ·have hu:(underlying t).run P w=.ok u w:=bH g1 w;have:(Instr.makeInterface t (a.eval x)).run P w=.ok (.iface t (a.eval x)) w:=by
   unfold Instr.makeInterface;simp only[Sem.run_bind,hu,Result.andThen_ok];cases u<;>first | rfl | (exact absurd g2.symm hn)
  simp[execOp,ho,this]
 ·simp only[VR,a7];exact⟨[a.eval x],rfl,a.eval x,[],rfl,hv,rfl⟩
theorem Nr (ht:aD P av){o:Oper}{cl:Call}{t e:TypeId}{x:Operand}(hd:bl C.nt o.dst=true)(ho:o.op=.call cl)(O2:cl.callee=.builtin .cap)(OX:cl.args=#[x])(Qt:cl.argTypes=#[t])(hx:ev s x=some .ak)(h1:dM av t=some (.sl e)):qh P C o s (s.put o.dst (.int .i64 0)):=by
 rintro a w ⟨σ,h⟩;obtain⟨i1,a1,a2,_⟩:=eY ht h1;have g1:=dI (ht t i1 a1) a2;have hv:=bG h hx;simp only[VR] at hv;refine⟨w,.inl ⟨.int .i64 0,?_,dX hd h (dT _ _)⟩⟩;simp[execOp,ho,resolve,O2,OX,Qt,invoke,builtin,Builtin.cap_,run_underlying g1,hv,goInt]
theorem aO.Dy (h:aO C σ s a w)(x:Obj):aO C (sig σ s.nx ⟨some w.heap.size,0,0⟩) ⟨s.env,s.heap,s.nx+1⟩ a (w.alloc x)/\¬ FB C (sig σ s.nx ⟨some w.heap.size,0,0⟩) s.heap w.heap.size:=by
 have hn:σ s.nx=none:=h.nx s.nx (Nat.le_refl _);have hg:w.grownBy (w.alloc x) none:=ou _;have hold:∀ {p x},assoc s.heap p=some x->p≠s.nx:=λ {p x} hp e=>by
  subst e;obtain⟨B',e1,_⟩:=h.obj _ _ hp;rw[hn] at e1;cases e1
 have T1:∀ {p},p≠s.nx->sig σ s.nx ⟨some w.heap.size,0,0⟩ p=σ p:=λ {p} hp=>by simp[sig,hp]
 have hF:∀ b',FB C (sig σ s.nx ⟨some w.heap.size,0,0⟩) s.heap b'->FB C σ s.heap b':=by
  rintro b' (hb | ⟨p,y,hp,hb⟩)
  ·exact .inl hb
  ·simp only[a9,T1 (hold hp)] at hb;exact .inr ⟨p,y,hp,hb⟩
 have hk:cY w (w.alloc x) (FB C σ s.heap) (FB C (sig σ s.nx ⟨some w.heap.size,0,0⟩) s.heap):=kP hg (λ b e=>by cases e) λ b' Pf=>.inl (hF b' Pf);refine⟨⟨h.oz,h.tm,h.os,h.tape,h.output,Nat.le_trans h.size hg.size,?_,?_,?_,?_,?_,?_,Nat.le_trans h.low (Nat.le_succ _),?_⟩,λ hf=>?_⟩
 ·intro k RU Uo;rw[hg.block k (Nat.lt_of_lt_of_le RU h.size) xr];exact h.frame k RU Uo
 ·intro t c hc;obtain⟨v,k1,k2⟩:=h.env t c hc;exact⟨v,k1,VR.bL hk c v (ux hn k2) k2⟩
 ·intro q y hq;obtain⟨B2,m1,m2,m3,m4,m5⟩:=h.obj q y hq;refine⟨B2,by rw[T1 (hold hq)];exact m1,m2,m3,m4,λ b2 Q0=>?_⟩;obtain⟨Tx,q1,q2,q3,q4,q5,q6⟩:=m5 b2 Q0;exact⟨Tx,by rw[hg.block b2 (Array.getElem?_eq_some_iff.1 q1).1 xr];exact q1,q2,q3,q4,q5,a7.bL hk _ _ (nV hn q6) q6⟩
 ·intro p q y z b' hp hq Te TU;simp only[a9,T1 (hold hp)] at Te;simp only[a9,T1 (hold hq)] at TU;exact h.inj p q y z b' hp hq Te TU
 ·intro p hp;have:p≠s.nx:=λ e=>by subst e;exact absurd hp xr
  rw[T1 this];exact h.nx p (Nat.le_of_succ_le hp)
 ·intro p hp;have:=h.low;rw[T1 (show p≠s.nx by omega)];exact h.fX p hp
 ·intro p B b' hp hB hb;by_cases e:p=s.nx
  ·subst e;rw[dN] at hB;cases hB;simp only[Option.some.injEq] at hb;subst hb;exact .inr h.size
  ·rw[T1 e] at hB;exact h.new p B b' hp hB hb
 ·have:=Ew h _ (hF _ hf);omega
theorem MO {o:Oper}{t:TypeId}(hd:bl C.nt o.dst=true)(ho:o.op=.makeMap t none):qh P C o s (St.put ⟨s.env,s.heap,s.nx+1⟩ o.dst (.mp s.nx [])):=by
 rintro a w ⟨σ,h⟩;obtain⟨h',hf⟩:=h.Dy (.map #[] 0);refine⟨w.alloc (.map #[] 0),.inl ⟨.map (some w.heap.size),?_,dX hd h' ?_⟩⟩
 ·simp[execOp,ho,Instr.makeMap]
 ·simp only[VR];exact⟨_,w.heap.size,#[],0,dN,rfl,rfl,heap_alloc_new w _,rfl,nodup_nil,hf⟩
theorem G4 (ht:aD P av){o:Oper}{t:TypeId}{x:Operand}{b:ByteArray}(hd:bl C.nt o.dst=true)(ho:o.op=.range t x)(hx:ev s x=some (.str b))(h1:dM av t=some .str):qh P C o s (St.put ⟨s.env,s.heap,s.nx+1⟩ o.dst (.iter s.nx b 0)):=by
 rintro a w ⟨σ,h⟩;obtain⟨i1,a1,a2,_⟩:=eY ht h1;have g1:=ml (ht t i1 a1) a2;have hv:=bG h hx;simp only[VR] at hv;obtain⟨h',hf⟩:=h.Dy (.stringIter b 0);refine⟨w.alloc (.stringIter b 0),.inl ⟨.pointer (some ⟨w.heap.size,0,none⟩),?_,dX hd h' ?_⟩⟩
 ·simp[execOp,ho,Instr.range,run_underlying g1,hv]
 ·simp only[VR];exact⟨_,w.heap.size,dN,rfl,rfl,heap_alloc_new w _,hf⟩
def vI (k:Nat):CV->Bool
 | .iter k' _ _=>k' == k
 | _=>false
def xM (k:Nat)(b:ByteArray)(p:Nat):List (Nat×CV)->List (Nat×CV)
 | []=>[]
 | (t,c)::r=>(t,if vI k c then .iter k b p else c)::xM k b p r
theorem tw {k:Nat}{b:ByteArray}{p:Nat}:∀ (l:List (Nat×CV)) (t:Nat) (c:CV),assoc (xM k b p l) t=some c->∃ d,assoc l t=some d/\c=if vI k d then .iter k b p else d
 | [],t,c,h=>by simp[xM,assoc] at h
 | (u,d)::r,t,c,h=>by
  simp only[xM,assoc] at h |-;split at h
  ·rename_i e;cases h;rw[if_pos e];exact⟨d,rfl,rfl⟩
  ·rename_i e;rw[if_neg e];exact tw r t c h
def Lm:CV->Bool
 | .mp _ _=>true
 | _=>false
def Hm (s:St)(k:Nat):Bool:=(s.env.all λ x=>lv x.2 || vI k x.2 || Lm x.2) && s.heap.all λ x=>jP x.2.cells
def Iu (s:St)(d:Option Tmp)(k:Nat)(b:ByteArray)(p:Nat):Option St:=
 if p<b.size then if Hm s k then some (St.put { s with env:=xM k b (p+(Utf8.decode b p).2) s.env } d (.bY [.bool true,.int .i64 p,.int .i32 (Utf8.decode b p).1])) else none
 else some (s.put d (.bY [.bool false]))
theorem cT {o:Oper}{x:Operand}{k p:Nat}{b:ByteArray}{s':St}(hd:bl C.nt o.dst=true)(ho:o.op=.next x true)(hx:ev s x=some (.iter k b p))(hk0:C.n0<=k)(hs:Iu s o.dst k b p=some s'):qh P C o s s':=by
 rintro a w ⟨σ,h⟩;have hv:=bG h hx;simp only[VR] at hv;obtain⟨B,r,hB,hb,hv,hr,hf⟩:=hv;have QX:w.heap[r]? = some (.stringIter b p):=hr;have Y2:=(Array.getElem?_eq_some_iff.1 hr).1;unfold Iu at hs;split at hs
 ·rename_i OT;split at hs
  ·rename_i O8;cases hs;simp only[Hm,Bool.and_eq_true,all_eq_true,Bool.or_eq_true] at O8;let w':World:={ w with heap:=w.heap.setIfInBounds r (.stringIter b (p+(Utf8.decode b p).2)) }
   have PD:∀ j,j≠r->w'.heap[j]? = w.heap[j]?:=λ j hj=>by
    simp[w',Ne.symm hj]
   have Qu:w'.heap[r]? = some (.stringIter b (p+(Utf8.decode b p).2)):=by
    simp[w',Y2]
   have O0:w'.heap.size=w.heap.size:=by simp[w']
   have Zr:∀ F:Nat->Prop,nj w w' F F:=λ F ad u hf hu=>by
    have Pp:ad.block≠r:=λ e=>by
     unfold World.cell? at hu;rw[e,hr] at hu;cases hu
    exact⟨by rw[World.cell?_of_block (PD _ Pp)];exact hu,hf⟩
   have h':aO C σ { s with env:=xM k b (p+(Utf8.decode b p).2) s.env } a w':=by
    refine⟨h.oz,h.tm,h.os,h.tape,h.output,by rw[O0];exact h.size,?_,?_,?_,h.inj,h.nx,h.fX,h.low,h.new⟩
    ·intro j hj1 Xg;rw[PD j (λ e=>?_)]
     ·exact h.frame j hj1 Xg
     ·subst e;rcases h.new k B j hk0 hB hb with n4 | n4
      ·exact Xg n4
      ·omega
    ·intro t c hc;obtain⟨d,PG,rfl⟩:=tw _ _ _ hc;obtain⟨v,k1,k2⟩:=h.env t d PG;refine⟨v,k1,?_⟩;by_cases hi:vI k d=true
     ·rw[if_pos hi];cases d<;>simp only[vI,Bool.false_eq_true] at hi;rename_i k' b' p';have:k'=k:=by simpa using hi
      subst this;simp only[VR] at k2 |-;obtain⟨B2,r2,q1,q2,q3,q4,q5⟩:=k2;rw[hB] at q1;cases q1;rw[hb] at q2;cases q2;exact⟨B,r,hB,hb,q3,Qu,q5⟩
     ·rw[if_neg hi];rcases O8.1 _ (bF _ _ _ PG) with (q | q) | q
      ·exact VR.oo (Zr _) _ _ q k2
      ·exact absurd q hi
      ·cases d<;>simp only[Lm,Bool.false_eq_true] at q;simp only[VR] at k2 |-;obtain⟨B2,r2,arr,clock,q1,q2,q3,q4,q5,q6,q7⟩:=k2;have Pp:r2≠r:=λ e=>by rw[e,hr] at q4;cases q4
       exact⟨B2,r2,arr,clock,q1,q2,q3,by rw[PD r2 Pp];exact q4,q5,q6,q7⟩
    ·intro q y hq;obtain⟨B2,m1,m2,m3,m4,m5⟩:=h.obj q y hq;refine⟨B2,m1,m2,m3,m4,λ b2 Q0=>?_⟩;obtain⟨Tx,q1,q2,q3,q4,q5,q6⟩:=m5 b2 Q0;have Pp:b2≠r:=λ e=>by subst e;rw[hr] at q1;cases q1
     exact⟨Tx,by rw[PD b2 Pp];exact q1,q2,q3,q4,q5,a7.oo (Zr _) _ _ (O8.2 _ (bF _ _ _ hq)) q6⟩
   refine⟨w',.inl ⟨.tuple #[.bool true,goInt p,.int .i32 (Utf8.decode b p).1],?_,dX hd h' ?_⟩⟩
   ·simp[execOp,ho,hv,Instr.next,getObj,setObj,Sem.run,QX,OT,w']
   ·simp only[VR,a7];exact⟨[_,_,_],rfl,_,_,rfl,rfl,_,_,rfl,rfl,_,_,rfl,rfl,rfl⟩
  ·cases hs
 ·rename_i SD;cases hs;refine⟨w,.inl ⟨.tuple #[.bool false],?_,dX hd h ?_⟩⟩
  ·simp[execOp,ho,hv,Instr.next,getObj,Sem.run,QX,SD]
  ·simp only[VR,a7];exact⟨[_],rfl,_,_,rfl,rfl,rfl⟩
end
section
variable {P:Program}{C:Cx}{s:St}{ops:Array Oper}{av:List (Nat×TI)}
def Es (av:List (Nat×TI))(s:St)(d:Option Tmp)(x y:Operand)(t it:TypeId):Option St:=
 match dM av t,dM av it,ev s x,ev s y with
 | some (.sl e),some (.int .i64),some (.bg p 0 n),some (.int .i64 mi)=>match assoc av e,assoc s.heap p with
  | some ie,some ob=>if 0<ie.size/\0<ie.bytes/\ob.elem=e/\ob.sz=ie.size/\n*ie.size=ob.cells.length/\(n+mi.toNat)*ie.bytes<=140737488355328/\0<mi then some (AppZ s d p n mi.toNat ob ie.zero) else none
  | _,_=>none
 | _,_,_,_=>none
theorem BO (ht:aD P av){o:Oper}{cl:Call}{t it:TypeId}{x y:Operand}{s':St}(hd:bl C.nt o.dst=true)(ho:o.op=.call cl)(O2:cl.callee=.builtin .append)(OX:cl.args=#[x,y])(Qt:cl.argTypes=#[t,it])(h:Es av s o.dst x y t it=some s'):qh P C o s s':=by
 unfold Es at h;split at h
 ·rename_i e p n mi h1 h2 h3 h4;split at h
  ·rename_i ie ob h5 h6;split at h
   ·rename_i hc;cases h;obtain⟨c1,c2,c3,c4,c5,c6,c7⟩:=hc;obtain⟨ii,PH,Qn⟩:=Option.map_eq_some_iff.1 h2;have hm:((mi.toNat:Nat):Int)=mi:=by omega
    intro a w hr;obtain⟨z,w',s',k1,k2,k3⟩:=KT (P:=P) (C:=C) (s:=s) ht (m:=mi.toNat) hd ho O2 OX Qt h1 h5 PH Qn h3 (by rw[hm];exact h4) h6 c1 c2 c3 c4 c5 c6 yA rfl a w hr;cases k2;exact⟨w',.inl ⟨z,k1,k3⟩⟩
   ·cases h
  ·cases h
 ·cases h
def Nx (av:List (Nat×TI))(s:St)(o:Oper)(x y:Operand)(t it:TypeId):Option St:=
 match Es av s o.dst x y t it with
 | some s'=>some s'
 | none=>match x,ev s x with
  | .tmp tx,some .ak=>match dM av t with
   | some (.sl e)=>match assoc av e with
    | some ie=>match assoc s.env tx with
     | some .ak=>Es av (s.own tx e ie.size) o.dst x y t it
     | _=>none
    | none=>none
   | _=>none
  | _,some (.bg p _ n)=>match assoc s.heap p with
   | some ob=>nR av (s.cut p ob (n*ob.sz)) o
   | none=>none
  | _,_=>none
theorem KR (ht:aD P av){o:Oper}{cl:Call}{t it:TypeId}{x y:Operand}{s':St}(hd:bl C.nt o.dst=true)(ho:o.op=.call cl)(O2:cl.callee=.builtin .append)(OX:cl.args=#[x,y])(Qt:cl.argTypes=#[t,it])(h:Nx av s o x y t it=some s'):qh P C o s s':=by
 unfold Nx at h;split at h
 ·rename_i s1 h1;cases h;exact BO ht hd ho O2 OX Qt h1
 ·split at h
  ·rename_i tx _ hx;split at h
   ·rename_i e h1;split at h
    ·rename_i ie h2;split at h
     ·rename_i h3;exact qh.le (Le.own tx e ie.size h3) (BO ht hd ho O2 OX Qt h)
     ·cases h
    ·cases h
   ·cases h
  ·rename_i p _ n _ hx;split at h
   ·rename_i ob h1;exact qh.le (Le.cut _ h1) (qh.JX ht hd h)
   ·cases h
  ·cases h
def Dr (n0:Nat)(av:List (Nat×TI))(s:St)(o:Oper):Option St:=
 match o.op with
 | .convert t u x=>match q8 av s t u x with
  | some c=>some (s.put o.dst c)
  | none=>match ev s x,dM av t,dM av u with
   | some (.str b),some .str,some (.sl e)=>match dM av e with
    | some (.int .u8)=>if b.size<=1000000 then some (s.put o.dst (.au (qc b) b.size)) else none
    | _=>none
   | some (.bg p off n),some (.sl e),_=>if t=u/\0<n then match dM av e,assoc s.heap p with
     | some (.int .u8),some ob=>if trees ob.cells=true then some (H8 s p ob o.dst off n) else none
     | _,_=>none
    else none
   | _,_,_=>none
 | .makeInterface t x=>match ev s x,dM av t with
  | some _,some .Mz=>none
  | some c,some _=>some (s.put o.dst (.iface t [c]))
  | _,_=>none
 | .makeMap _ none=>some (St.put ⟨s.env,s.heap,s.nx+1⟩ o.dst (.mp s.nx []))
 | .range t x=>match ev s x,dM av t with
  | some (.str b),some .str=>some (St.put ⟨s.env,s.heap,s.nx+1⟩ o.dst (.iter s.nx b 0))
  | _,_=>none
 | .next x true=>match ev s x with
  | some (.iter k b p)=>if n0<=k then Iu s o.dst k b p else none
  | _=>none
 | .call cl=>match cl.callee with
  | .builtin .append=>match cl.args.toList,cl.argTypes.toList with
   | [x,y],[t,it]=>Nx av s o x y t it
   | _,_=>none
  | .builtin .cap=>match cl.args.toList,cl.argTypes.toList with
   | [x],[t]=>match ev s x,dM av t with
    | some .ak,some (.sl _)=>some (s.put o.dst (.int .i64 0))
    | _,_=>none
   | _,_=>none
  | _=>none
 | _=>none
theorem zP (ht:aD P av){o:Oper}{s':St}(hd:bl C.nt o.dst=true)(h:Dr C.n0 av s o=some s'):qh P C o s s':=by
 have WL:∀ {α:Type} {x:Array α} {l:List α},x.toList=l->x=l.toArray:=λ {α x l} e=>by rw[<- e]
 unfold Dr at h;split at h
 ·rename_i t u x ho;split at h
  ·rename_i c hc;cases h;rintro a w ⟨σ,hr⟩;obtain⟨z,k1,k2⟩:=BI ht hr hc;exact⟨w,.inl ⟨z,by simp[execOp,ho,k1],dX hd hr k2⟩⟩
  ·split at h
   ·rename_i b e hx h1 h2;split at h
    ·rename_i h3;split at h
     ·rename_i hm;cases h;exact yG ht hd ho hx h1 h2 h3 hm
     ·cases h
    ·cases h
   ·rename_i p off n e _ hx h1;split at h
    ·rename_i hc;obtain⟨rfl,hn⟩:=hc;split at h
     ·rename_i ob h3 h4;split at h
      ·rename_i h5;cases h;exact DX ht hd ho hx hn h1 h3 h4 h5
      ·cases h
     ·cases h
    ·cases h
   ·cases h
 ·rename_i t x ho;split at h
  ·cases h
  ·rename_i c d hn hx h1;cases h;exact A9 ht hd ho hx h1 (λ e=>hn e)
  ·cases h
 ·rename_i t ho;cases h;exact MO hd ho
 ·rename_i t x ho;split at h
  ·rename_i b hx h1;cases h;exact G4 ht hd ho hx h1
  ·cases h
 ·rename_i x ho;split at h
  ·rename_i k b p hx;split at h
   ·rename_i hk;exact cT hd ho hx hk h
   ·cases h
  ·cases h
 ·rename_i cl ho;split at h
  ·rename_i O2;split at h
   ·rename_i x y t it ha Qt;exact KR ht hd ho O2 (WL ha) (WL Qt) h
   ·cases h
  ·rename_i O2;split at h
   ·rename_i x t ha Qt;split at h
    ·rename_i e hx h1;cases h;exact Nr ht hd ho O2 (WL ha) (WL Qt) hx h1
    ·cases h
   ·cases h
  ·cases h
 ·cases h
end
def cB (o:Oper):Option Call:=match o.op with
 | .call c=>match c.callee with
  | .builtin _=>none
  | _=>some c
 | _=>none
theorem gN {o:Oper}{c:Call}(h:cB o=some c):o.op=.call c:=by
 unfold cB at h;split at h
 ·rename_i c' Pj;split at h
  ·cases h
  ·cases h;exact Pj
 ·cases h
abbrev fW:=FuncId->List CV->List (Nat×Ob)->Nat->Option (CV×List (Nat×Ob)×Nat)
section
variable {P:Program}{C:Cx}{s:St}{av:List (Nat×TI)}{ops:Array Oper}{call:fW}
def gF (P:Program)(av:List (Nat×TI))(call:fW):Prop:=∀ g cs H n x H' n',call g cs H n=some (x,H',n')->Body P av g cs H n λ r s'=>r=x/\s'.heap=H'/\s'.nx=n'
theorem TL.again {id:Nat}{l:List Oper}{s':St}(h:TL P C l.toArray l s λ x=>x=s'):T P C (.region id l.toArray false) s λ e x=>e=.normal/\x=s':=
 T.region λ a w Q hr hQ=>h a w Q hr λ x a' w' hx Pu=>hQ x a' w' ⟨rfl,hx⟩ Pu
end
def vE (g:CV->Option CV):List CV->Option (List CV)
 | []=>some []
 | c::cs=>match g c with
  | some d=>match vE g cs with
   | some ds=>some (d::ds)
   | none=>none
  | none=>none
def deep (H:List (Nat×Ob)):Nat->CV->Option CV
 | 0,_=>none
 | f+1,c=>if tree c then some c else match c with
  | .bg o off n=>match assoc H o with
   | some ob=>match (if trees ob.cells then some ob.cells else vE (deep H f) ob.cells) with
    | some cells=>some (.au ((cells.drop off).take (n*ob.sz)) n)
    | none=>none
   | none=>none
  | .ax o off=>match assoc H o with
   | some ob=>match (if trees ob.cells then some ob.cells else vE (deep H f) ob.cells) with
    | some cells=>some (.de (cells.drop off))
    | none=>none
   | none=>none
  | .agg cs=>match vE (deep H f) cs with
   | some ds=>some (.agg ds)
   | none=>none
  | .iface t cs=>match vE (deep H f) cs with
   | some ds=>some (.iface t ds)
   | none=>none
  | .fn g cs=>match vE (deep H f) cs with
   | some ds=>some (.fn g ds)
   | none=>none
  | .bY cs=>match vE (deep H f) cs with
   | some ds=>some (.bY ds)
   | none=>none
  | _=>none
section
variable {P:Program}{C:Cx}{σ:Nat->Option OB}{s:St}{a:Act}{w:World}{ops:Array Oper}{av:List (Nat×TI)}
theorem oS {F F':Nat->Prop}{g:CV->Option CV}(hg:∀ c d v,g c=some d->VR w F σ c v->cr w F' d v/\one d=one c):∀ (cs ds:List CV) (vs:List Value),vE g cs=some ds->a7 w F σ cs vs->ca w F' ds vs/\ds.all one=cs.all one
 | [],ds,vs,h,hv=>by
  simp only[vE] at h;cases h;exact⟨by simpa [a7,ca] using hv,rfl⟩
 | c::cs,ds,vs,h,hv=>by
  simp only[vE] at h;split at h
  ·rename_i d h1;split at h
   ·rename_i ds' h2;cases h;simp only[a7,ca] at hv |-;obtain⟨v,r,e,k1,k2⟩:=hv;obtain⟨q1,q2⟩:=hg c d v h1 k1;obtain⟨q3,q4⟩:=oS hg cs ds' r h2 k2;exact⟨⟨v,r,e,q1,q3⟩,by simp only[all_cons,q2,q4]⟩
   ·cases h
  ·cases h
theorem Ea (h:aO C σ s a w):∀ (f:Nat) (c d:CV) (v:Value),deep s.heap f c=some d->VR w (FB C σ s.heap) σ c v->cr w C.F d v/\one d=one c
 | 0,_,_,_,h,_=>by simp[deep] at h
 | f+1,c,d,v,hd,hv=>by
  have ih:=Ea h f;have hk:nj w w (FB C σ s.heap) C.F:=λ ad u hf hu=>⟨hu,λ hF=>hf (.inl hF)⟩;have obj:∀ {o ob B b cells},assoc s.heap o=some ob->σ o=some B->B.j7=some b->(if trees ob.cells then some ob.cells else vE (deep s.heap f) ob.cells)=some cells->∀ k,fx w C.F (cells.drop k) ⟨b,k,none⟩:=λ {o ob B b cells} ho hB hb ht k=>by
   obtain⟨B',e1,_,_,e4,e5⟩:=h.obj o ob ho;rw[hB] at e1;cases e1;obtain⟨cur,k1,k2,k3,k4,k5,k6⟩:=e5 b hb;have h1:ca w C.F cells (cur.toList.take ob.cells.length)/\cells.all one=true:=by
    split at ht
    ·rename_i O1;cases ht;exact⟨ca.bL hk _ _ (a7.eI _ _ O1 k6),e4⟩
    ·obtain⟨q1,q2⟩:=oS ih _ _ _ ht k6;exact⟨q1,q2.trans e4⟩
   have hl:cells.length=ob.cells.length:=by
    rw[<- ca.length _ _ h1.1,a7.length _ _ k6]
   have h2:fx w C.F cells ⟨b,0,none⟩:=iC _ _ _ h1.1 h1.2 k3 λ j u hu=>by
    rw[add_lit,Nat.zero_add,cell_of_row w b j cur _ _ k1];rw[getElem?_take] at hu;split at hu
    ·simpa using hu
    ·cases hu
   have:=h2.drop k;rwa [add_lit,Nat.zero_add] at this
  simp only[deep] at hd;split at hd
  ·rename_i ht;cases hd;exact⟨cr.bL hk _ _ (VR.eI _ _ ht hv),rfl⟩
  ·split at hd
   ·rename_i o off n _;split at hd
    ·rename_i ob ho;split at hd
     ·rename_i cells hc;cases hd;refine⟨?_,rfl⟩;simp only[VR] at hv;obtain⟨B,hB,hv⟩:=hv;split at hv
      ·obtain⟨rfl,rfl,rfl⟩:=hv;simp only[cr];exact⟨none,0,rfl,Nat.le_refl _,Nat.zero_le _,.inl ⟨trivial,by simp⟩⟩
      ·rename_i b hb;obtain⟨cap,rfl,h1,h2,_⟩:=hv;simp only[cr];exact⟨_,cap,rfl,h1,h2,.inr ⟨_,rfl,fx.take _ _ _ (obj ho hB hb hc off)⟩⟩
     ·cases hd
    ·cases hd
   ·rename_i o off _;split at hd
    ·rename_i ob ho;split at hd
     ·rename_i cells hc;cases hd;refine⟨?_,rfl⟩;simp only[VR] at hv;obtain⟨B,b,hB,hb,rfl⟩:=hv;simp only[cr];exact⟨_,rfl,obj ho hB hb hc off⟩
     ·cases hd
    ·cases hd
   ·rename_i cs;split at hd
    ·rename_i ds Xm;cases hd;simp only[VR] at hv;obtain⟨vs,e,r,h1⟩:=hv;obtain⟨q1,q2⟩:=oS ih _ _ _ Xm r;simp only[cr];exact⟨⟨vs,e,q1,q2.trans h1⟩,rfl⟩
    ·cases hd
   ·rename_i t cs;split at hd
    ·rename_i ds Xm;cases hd;simp only[VR] at hv;obtain⟨vs,e,r⟩:=hv;obtain⟨q1,q2⟩:=oS ih _ _ _ Xm r;simp only[cr];exact⟨⟨vs,e,q1⟩,rfl⟩
    ·cases hd
   ·rename_i g cs;split at hd
    ·rename_i ds Xm;cases hd;simp only[VR] at hv;obtain⟨vs,e,r⟩:=hv;obtain⟨q1,q2⟩:=oS ih _ _ _ Xm r;simp only[cr];exact⟨⟨vs,e,q1⟩,rfl⟩
    ·cases hd
   ·rename_i cs;split at hd
    ·rename_i ds Xm;cases hd;simp only[VR] at hv;obtain⟨vs,e,r⟩:=hv;obtain⟨q1,q2⟩:=oS ih _ _ _ Xm r;simp only[cr];exact⟨⟨vs,e,q1⟩,rfl⟩
    ·cases hd
   ·cases hd
def doneD (av:List (Nat×TI))(f:Func)(r:CV):Exit->St->Prop
 | .normal,s=>∃ r0 k,bQ av f s=some r0/\deep s.heap k r0=some r
 | .ret,s=>∃ r0 k,bQ av f s=some r0/\deep s.heap k r0=some r
 | _,_=>False
theorem af.JY (RQ : aD P av) {f : FuncId} {fn : Func} {c : Code} {args : List CV} {r : CV} (hf : P.funcs[f]? = some fn) (hb : fn.body = some c) (hn : (fn.name == "runtime.NumGoroutine") = false)
  (ha:args.length<=fn.ntmps) (h:∀ C:Cx,C.nt=fn.ntmps->C.n0=0->T P C c (enter args) (doneD av fn r)):af P f args r:=by
 refine⟨⟨fn,hf,hn,by simp[hb]⟩,λ F vs w hF hv=>?_⟩;have hl:=ca.length _ _ hv;let C:Cx:=⟨w,F,λ _=>False,hF,fn.ntmps,λ _=>none,0⟩
 have h0:aO C (λ _=>none) (enter args) { tmps:=vs.toArray++Array.replicate (fn.ntmps-vs.toArray.size) undef,defers:=[] } w:=by
  refine⟨rfl,by simp[C];omega,rfl,rfl,rfl,Nat.le_refl _,λ _ _ _=>rfl,?_,?_,?_,λ _ _=>rfl,λ _ h=>absurd h (Nat.not_lt_zero _),Nat.zero_le _,λ _ _ _ _ h=>by cases h⟩
  ·intro t c hc;obtain⟨_,h2⟩:=gj args 0 t c hc;obtain⟨v,h3,h4⟩:=ca.get _ _ hv t c yC;refine⟨v,?_,VR.cS _ _ (cr.bL (cY.same λ b hb=>?_).1 c v h4)⟩
   ·have OT:=(List.getElem?_eq_some_iff.1 h3).1;simp only;rw[Array.getElem?_append_left (by simpa using OT)]
    simpa using h3
   ·rcases hb with hF | ⟨o,ob,ho,_⟩
    ·exact hF
    ·simp[enter,assoc] at ho
  ·intro o ob ho;simp[enter,assoc] at ho
  ·intro o o' ob Pe b ho;simp[enter,assoc] at ho
 refine calls_of_wp hf hb (wp_mono (h C rfl rfl _ _ ⟨_,h0⟩) λ e a' w' ⟨s',q,σ,hr⟩=>?_);have fin:(∃ r0 k,bQ av fn s'=some r0/\deep s'.heap k r0=some r)->a'.defers=[]/\∃ v,(results fn a'.tmps).run P w'=.ok v w'/\(∃ TA,Ending.returned v=.returned TA/\Below w.heap.size w w'/\cr w' F r TA):=λ⟨r0,k,hq,hd⟩=>by
  obtain⟨v,k1,k2⟩:=jv (P:=P) RQ hr hq;exact⟨hr.oz,v,k1,v,rfl,⟨hr.os,hr.tape,hr.output,hr.size,λ k hk=>hr.frame k hk (λ hx=>hx)⟩,(Ea hr _ _ _ _ hd k2).1⟩
 cases e with
 | normal=>exact fin q
 | ret=>exact fin q
 | exit _=>exact q.elim
 | goto _=>exact q.elim
 | panic _=>exact q.elim
 | outgrown=>exact q.elim
def yn (P:Program)(C:Cx)(s:St)(o:Oper)(g:FuncId)(cs:List CV):Prop:=
 ∀ σ a w,aO C σ s a w->∃ vs:List Value,(execOp a.eval o).run P w=.ok (.enter g vs.toArray) w/\a7 w (FB C σ s.heap) σ cs vs
theorem yn.value {o:Oper}{c:Call}{g:FuncId}{cs:List CV}(ho:o.op=.call c)(Pc:bJ s c=some (g,cs))(he:kC P g):yn P C s o g cs:=by
 intro σ a w hr;obtain⟨fn,h1,h2,h3⟩:=he;unfold bJ at Pc;split at Pc
 ·rename_i f Rs;split at Pc
  ·rename_i g' QC QH hfe PQ;cases Pc;have T9:=bG hr hfe;simp only[VR] at T9;obtain⟨us,e,hu⟩:=T9;have OX:=p8 hr _ _ PQ;refine⟨c.args.toList.map a.eval++us,?_,a7.append _ _ _ _ OX hu⟩;have e2:(c.args.toList.map a.eval).toArray=c.args.map a.eval:=by rw[<- map_toArray]
   simp only[execOp,ho,resolve,Rs,e,Deferred.ofValue,Sem.run_bind,Sem.run_pure,Result.andThen_ok,invoke,callFunc,run_program,h1,h2,h3,Bool.false_eq_true,if_false];rw[<- e2];simp
  ·cases Pc
 ·cases Pc
structure zH (P:Program)(t:TypeId)(name:String)(g:FuncId):Prop where
 row:∃ i m,P.info? t=some i/\i.methods.find? (·.name == name)=some m/\m.path.toList=[]/\m.path.isEmpty=true/\m.func=some (g,false)
 zJ:∃ d,P.underlying t=some d/\∀ e,d≠.pointer e
abbrev iO:=List ((Nat×String)×FuncId)
def j0 (P:Program)(mt:iO):Prop:=∀ x∈mt,zH P x.1.1 x.1.2 x.2
def AG:iO->Nat->String->Option FuncId
 | [],_,_=>none
 | ((t,n),g)::r,u,m=>if t=u/\n=m then some g else AG r u m
theorem xP:∀ (mt:iO) (u:Nat) (m:String) (g:FuncId),AG mt u m=some g->((u,m),g)∈mt
 | [],_,_,_,h=>by simp[AG] at h
 | ((t,n),g')::r,u,m,g,h=>by
  simp only[AG] at h;split at h
  ·rename_i e;obtain⟨rfl,rfl⟩:=e;cases h;exact mem_cons_self
  ·exact mem_cons_of_mem _ (xP r u m g h)
def jE (mt:iO)(s:St)(c:Call):Option (FuncId×List CV):=match c.callee with
 | .value _=>bJ s c
 | .invoke r name=>match ev s r,Bk s c.args.toList with
  | some (.iface t [x]),some cs=>match AG mt t name with
   | some g=>some (g,x::cs)
   | none=>none
  | _,_=>none
 | _=>none
theorem Cr {t:TypeId}{name:String}{g:FuncId}(h:zH P t name g)(v:Value)(n:Nat)(w:World):(method (n+1) t v name).run P w=.ok (g,v) w:=by
 obtain⟨⟨i,m,h1,h2,h3,h4,h5⟩,d,h6,h7⟩:=h;unfold method;simp only[Sem.run_bind,uZ h1,Result.andThen_ok,h2,h3,follow,Sem.run_pure,h5,receiverAt,bH h6,Place.get]
theorem yn.to {mt:iO}(R6:j0 P mt){o:Oper}{c:Call}{g:FuncId}{cs:List CV}(ho:o.op=.call c)(Pc:jE mt s c=some (g,cs))(he:kC P g):yn P C s o g cs:=by
 unfold jE at Pc;split at Pc
 ·exact yn.value ho Pc he
 ·rename_i r name Rs;split at Pc
  ·rename_i t x QH hr PQ;split at Pc
   ·rename_i g' hm;cases Pc;intro σ a w h;obtain⟨fn,h1,h2,h3⟩:=he;have hv:=bG h hr;simp only[VR,a7] at hv;obtain⟨vs,e,v,r',rfl,hv,rfl⟩:=hv;simp only[Oy] at e;have OX:=p8 h _ _ PQ;refine⟨v::c.args.toList.map a.eval,?_,by simp only[a7];exact⟨v,_,rfl,hv,OX⟩⟩;have e2:(c.args.toList.map a.eval).toArray=c.args.map a.eval:=by rw[<- map_toArray]
    have Tb:=Cr (R6 _ (xP _ _ _ _ hm)) v (P.types.size+99) w;have hme':(method (P.types.size+Made.depth) t v name).run P w=.ok (g,v) w:=Tb;have hex:(#[Value.iface t v]++c.args.map a.eval)[0]? = some (Value.iface t v):=by rw[Array.getElem?_append_left xr];rfl
    have hex2:(#[Value.iface t v]++c.args.map a.eval).extract 1 (#[Value.iface t v]++c.args.map a.eval).size=c.args.map a.eval:=by
     apply Array.ext';simp[take_of_length_le]
    simp only[execOp,ho,resolve,Rs,e,Sem.run_bind,Sem.run_pure,Result.andThen_ok,invoke,hex,hex2,callMethod,run_program,hme',callFunc,h1,h2,h3,Bool.false_eq_true,if_false];rw[<- e2];simp
   ·cases Pc
  ·cases Pc
 ·cases Pc
theorem eH {o:Oper}(hr:Rel C s a w)(hg:bW ops s o=some true):Region.wanted o (yielded ops a.tmps)=true:=by
 unfold bW at hg;split at hg
 ·rename_i e;simp[Region.wanted,e]
 ·rename_i j want e;split at hg
  ·cases hg
  rename_i t hj;exact iR hr e hj hg
theorem callE (RQ:aD P av){o:Oper}{l:List Oper}{g:FuncId}{cs:List CV}{K:St->Prop}{R:CV->St->Prop}(hd:bl C.nt o.dst=true)(hg:bW ops s o=some true)(he:yn P C s o g cs)(hb:Body P av g cs s.heap s.nx R)
  (hK:∀ r s',R r s'->TL P C ops l (St.put ⟨s.env,s'.heap,s'.nx⟩ o.dst r) K):TL P C ops (o::l) s K:=by
 intro a w Q hr hQ;have hw:=eH (ops:=ops) hr hg;obtain⟨σ,hr⟩:=hr;unfold wpList;rw[if_pos hw];refine .inl ?_;obtain⟨fn,code,hf,Qw,hn,hlen,hT⟩:=hb;obtain⟨vs,I7,PJ⟩:=he σ a w hr;have hF:=JM hr;have h0:=hr.inner hF fn.ntmps PJ hlen;have Tv:Calls P g vs.toArray w λ e w'=>∃ v r s',e=.returned v/\R r s'/\∃ σ',aO C σ' ⟨s.env,s'.heap,s'.nx⟩ a w'/\VR w' (FB C σ' s'.heap) σ' r v:=by
  refine calls_of_wp hf Qw (wp_mono (hT (C.inner w σ s.heap fn.ntmps hF s.nx) rfl rfl _ _ ⟨_,h0⟩) λ e a' w' ⟨s1,q,σ1,Qg⟩=>?_);have fin:aa (C.inner w σ s.heap fn.ntmps hF s.nx) (λ s'=>∃ r,bQ av fn s'=some r/\R r s') s1->a'.defers=[]/\∃ v,(results fn a'.tmps).run P w'=.ok v w'/\(∃ TA r s',Ending.returned v=.returned TA/\R r s'/\∃ σ',aO C σ' ⟨s.env,s'.heap,s'.nx⟩ a w'/\VR w' (FB C σ' s'.heap) σ' r TA):=λ⟨s2,⟨r,q1,q2⟩,hl⟩=>by
   obtain⟨σ2,PL⟩:=hl _ _ ⟨σ1,Qg⟩;obtain⟨v,k1,k2⟩:=jv (P:=P) RQ PL q1;exact⟨PL.oz,v,k1,v,r,s2,rfl,q2,σ2,hr.back PL,k2⟩
  cases e with
  | normal=>exact fin q
  | ret=>exact fin q
  | exit _=>exact q.elim
  | goto _=>exact q.elim
  | panic _=>exact q.elim
  | outgrown=>exact q.elim
 unfold Oper.wp;rw[I7];refine Tv.mono λ e w' ⟨v,r,s',he,hR,σ',Pu,hv⟩=>?_;subst he;refine hK r s' hR _ w' Q ⟨σ',Pu.put ?_ hv⟩ hQ;intro t e;rw[Pu.tm];rw[e] at hd
 simpa [bl] using hd
theorem DE {o:Oper}{g:FuncId}{cs:List CV}{r:CV}(he:yn P C s o g cs)(ht:trees cs=true)(hp:af P g cs r)(h:aO C σ s a w)(K:Act->World->Prop)(Q:Exit->Act->World->Prop)
  (hK:∀ v w',aO C σ s a w'->VR w' (FB C σ s.heap) σ r v->K (a.put o.dst v) w'):o.wp P a w K Q:=by
 obtain⟨vs,I7,PJ⟩:=he σ a w h;unfold Oper.wp;rw[I7];refine (hp.2 (FB C σ s.heap) _ w (Dm h) (a7.eI _ _ ht PJ)).mono λ e w' ⟨v,he,hb,hv⟩=>?_;subst he;exact hK v w' (h.below hb) (VR.cS _ _ hv)
theorem pureE {o:Oper}{l:List Oper}{g:FuncId}{cs:List CV}{r:CV}{K:St->Prop}(hd:bl C.nt o.dst=true)(hg:bW ops s o=some true)(he:yn P C s o g cs)(ht:trees cs=true)(hp:af P g cs r)(h:TL P C ops l (s.put o.dst r) K):TL P C ops (o::l) s K:=by
 intro a w Q hr hQ;have hw:=eH (ops:=ops) hr hg;obtain⟨σ,hr⟩:=hr;unfold wpList;rw[if_pos hw];refine .inl (DE he ht hp hr _ _ λ v w' Pu hv=>h _ _ Q (dX hd Pu hv) hQ)
end
end Go.Can
