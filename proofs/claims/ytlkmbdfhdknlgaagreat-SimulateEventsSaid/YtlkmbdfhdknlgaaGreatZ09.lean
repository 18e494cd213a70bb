/- Further operations: conver -/
import Derived.Test.YtlkmbdfhdknlgaaGreatZ08
import Derived.Laws.IdiomStrings
namespace Go.Can
open Go.RowKit List
section
variable {P:Program}{C:Cx}{σ:Nat->Option OB}{s:St}{a:Act}{w:World}{ops:Array Oper}{av:List (Nat×TI)}
def qU (P:Program)(C:Cx)(o:Oper)(s s':St):Prop:=∀ a w,Rel C s a w ->
 ∃ w',((∃ z,(execOp a.eval o).run P w=.ok (.value z) w'/\Rel C s' (a.put o.dst z) w')\/((execOp a.eval o).run P w=.ok .skip w'/\Rel C s' (a.put o.dst undef) w'))
theorem qU.le {o:Oper}{s1 s':St}(hl:Le C s s1)(h:qU P C o s1 s'):qU P C o s s':=λ a w hr=>h a w (hl a w hr)
theorem qU.MN (ht:aD P av){o:Oper}{s':St}(hd:bm C.nt o.dst=true)(h:oB av s o=some s'):qU P C o s s':=λ _ _ hr=>yQ ht hr hd h
theorem mK {o:Oper}{l:List Oper}{K:St->Prop}{s':St}(hg:bY ops s o=some true)(hx:qU P C o s s')(h:TL P C ops l s' K):TL P C ops (o::l) s K:=by
 intro a w Q hr hQ;have hw:Region.wanted o (yielded ops a.tmps)=true:=by
  unfold bY at hg;split at hg
  ·rename_i e;simp[Region.wanted,e]
  ·rename_i j want e;split at hg
   ·cases hg
   rename_i t hj;exact j7 hr e hj hg
 unfold wpList;rw[if_pos hw];refine .inl ?_;obtain⟨w',h1 | h1⟩:=hx a w hr
 ·obtain⟨z,k1,k2⟩:=h1;unfold Oper.wp;rw[k1];exact h _ _ Q k2 hQ
 ·obtain⟨k1,k2⟩:=h1;unfold Oper.wp;rw[k1];exact h _ _ Q k2 hQ
def bytesOf:List CV->Option (List UInt8)
 | []=>some []
 | .int .u8 n::r=>if 0<=n/\n<256 then (bytesOf r).map (UInt8.ofNat n.toNat :: ·) else none
 | _=>none
theorem xX {F:Nat->Prop}:∀ (cs:List CV) (l:List UInt8) (us:List Value),bytesOf cs=some l->a6 w F σ cs us->us=l.map λ b=>Value.int .u8 (b.toNat:Int)
 | [],l,us,h,hr=>by
  simp only[bytesOf] at h;cases h
  simpa [a6] using hr
 | c::cs,l,us,h,hr=>by
  simp only[a6] at hr;obtain⟨v,r,rfl,h1,h2⟩:=hr;unfold bytesOf at h;split at h
  ·rename_i e;cases e
  ·rename_i n r' e;cases e;split at h
   ·rename_i hn;obtain⟨l',h3,rfl⟩:=Option.map_eq_some_iff.1 h;simp only[VR] at h1;subst h1;rw[xX cs l' r h3 h2];simp only[map_cons,cons.injEq,Value.int.injEq,true_and,and_true];have:(UInt8.ofNat n.toNat).toNat=n.toNat:=by
     have e:(UInt8.ofNat n.toNat).toNat=n.toNat % 256:=UInt8.toNat_ofNat';rw[e];omega
    rw[this];omega
   ·cases h
  ·cases h
def sI (av:List (Nat×TI))(s:St)(a b:TypeId)(x:Operand):Option CV:=
 match ev s x,dM av a,dM av b with
 | some (.int _ n),some _,some (.int k)=>some (.int k (k.wrap n))
 | some (.str v),some _,some .str=>some (.str v)
 | some c,some (.sl e),some .str=>match dM av e,cells? s c with
  | some (.int .u8),some (cs,m)=>if cs.length=m then (bytesOf cs).map λ l=>.str ⟨l.toArray⟩ else none
  | _,_=>none
 | _,_,_=>none
theorem fq (ht:aD P av){t:TypeId}{d:TD}(h:dM av t=some d):∃ i,assoc av t=some i/\i.d=d/\∃ u,P.underlying t=some u/\vi u=d:=by
 obtain⟨i,h1,h2⟩:=Option.map_eq_some_iff.1 h;obtain⟨u,h3,h4⟩:=(ht t i h1).Bw;exact⟨i,h1,h2,u,h3,h4.trans h2⟩
theorem vB {t:TypeId}{k:IntKind}(ht:aD P av)(h:dM av t=some (.int k)):P.underlying t=some (.int k):=by
 obtain⟨_,_,_,u,h1,h2⟩:=fq ht h;cases u<;>simp only[vi] at h2<;>first | cases h2 | skip
 exact h1
theorem Dt (ht:aD P av)(h:aQ C σ s a w){t u:TypeId}{x:Operand}{c:CV}(hc:sI av s t u x=some c):∃ z,(convert t u (a.eval x)).run P w=.ok z w/\VR w (FB C σ s.heap) σ c z:=by
 unfold sI at hc;split at hc
 ·rename_i k0 n d k hx h1 h2;cases hc;have hv:=bF h hx;simp only[VR] at hv;obtain⟨_,_,_,ud,g1,_⟩:=fq ht h1;have g2:=vB ht h2;refine⟨.int k (k.wrap n),?_,dU _ _⟩;rw[hv];simp[convert,run_underlying g1,run_underlying g2,Conv.intToInt]
 ·rename_i v d hx h1 h2;cases hc;have hv:=bF h hx;simp only[VR] at hv;obtain⟨_,_,_,ud,g1,_⟩:=fq ht h1;obtain⟨i,i1,i2,_⟩:=fq ht h2;have g2:=mZ (ht u i i1) i2;refine⟨.string v,?_,Br _⟩;rw[hv];simp[convert,run_underlying g1,run_underlying g2]
 ·rename_i c' e _ hx h1 h2;split at hc
  ·rename_i cs m he Sw;split at hc
   ·rename_i hlen;obtain⟨l,hl,rfl⟩:=Option.map_eq_some_iff.1 hc;obtain⟨i1,a1,a2,_⟩:=fq ht h1;obtain⟨i2,b1,b2,_⟩:=fq ht h2;have g1:=dI (ht t i1 a1) a2;have g2:=mZ (ht u i2 b1) b2;have g3:=vB ht he;obtain⟨us,k1,_,k3⟩:=cells?_ok h (bF h hx) Sw;have Xx:=xX _ _ _ hl k1;have Tg:l.length=m:=by
     have:=a6.length _ _ k1;rw[Xx,length_map] at this;omega
    refine⟨.string ⟨l.toArray⟩,?_,Br _⟩;rcases k3 with ⟨cp,e1,e2,e3⟩ | ⟨ad,cp,e1,e2⟩
    ·have:l=[]:=eq_nil_of_length_eq_zero yA;subst this;rw[e1,run_convert_bytes_string w t u e none 0 cp g1 g3 g2];rfl
    ·rw[e1];subst Tg;refine run_convert_bytes_back w t u e ad cp l g1 g3 g2 λ j hj=>?_;refine e2 j _ ?_;rw[Xx];simp[hj]
   ·cases hc
  ·cases hc
 ·cases hc
def qO (b:ByteArray):List CV:=b.data.toList.map λ x=>.int .u8 (x.toNat:Int)
theorem H8 {F:Nat->Prop}(b:ByteArray):bZ w F (qO b) (b.data.toList.map λ x=>Value.int .u8 (x.toNat:Int))/\(qO b).all one=true:=by
 unfold qO;generalize b.data.toList=l
 induction l with
 | nil=>simp[bZ]
 | cons x r ih=>
  simp only[map_cons,bZ,all_cons,ih.2,Bool.and_true];exact⟨⟨_,_,rfl,by simp[cr],ih.1⟩,rfl⟩
theorem ec {o:Oper}(hd:bm C.nt o.dst=true)(h:aQ C σ s a w){c:CV}{v:Value}(hv:VR w (FB C σ s.heap) σ c v):Rel C (s.put o.dst c) (a.put o.dst v) w:=
 ⟨σ,h.put (λ t e=>by rw[h.tm];rw[e] at hd;simpa [bm] using hd) hv⟩
theorem Ad (ht:aD P av){o:Oper}{t u e:TypeId}{x:Operand}{b:ByteArray}(hd:bm C.nt o.dst=true)(ho:o.op=.convert t u x)(hx:ev s x=some (.str b))(h1:dM av t=some .str)(h2:dM av u=some (.sl e))(h3:dM av e=some (.int .u8))(hm:b.size<=1000000) :
  qU P C o s (s.put o.dst (.ax (qO b) b.size)):=by
 rintro a w ⟨σ,h⟩;obtain⟨i1,a1,a2,_⟩:=fq ht h1;obtain⟨i2,b1,b2,_⟩:=fq ht h2;have g1:=mZ (ht t i1 a1) a2;have g2:=dI (ht u i2 b1) b2;have g3:=vB ht h3;have hv:=bF h hx;simp only[VR] at hv;have T5:=run_bytes_of_string (P:=P) w t u e b g1 g2 g3;have hb:Below w.heap.size w (w.drew.alloc (.cells (bytesRow b (grownCap w b.size 0 e)) e ((bytesRow b (grownCap w b.size 0 e)).size,(bytesRow b (grownCap w b.size 0 e)).size+1))):=
  ⟨rfl,rfl,rfl,by simp,λ k hk=>heap_alloc_old w.drew _ k hk⟩
 have Su:(w.drew.alloc (.cells (bytesRow b (grownCap w b.size 0 e)) e ((bytesRow b (grownCap w b.size 0 e)).size,(bytesRow b (grownCap w b.size 0 e)).size+1))).heap[w.heap.size]? = some (.cells (bytesRow b (grownCap w b.size 0 e)) e ((bytesRow b (grownCap w b.size 0 e)).size,(bytesRow b (grownCap w b.size 0 e)).size+1)):=heap_alloc_new w.drew _;revert hb Su;generalize SC:(w.drew.alloc (.cells (bytesRow b (grownCap w b.size 0 e)) e ((bytesRow b (grownCap w b.size 0 e)).size,(bytesRow b (grownCap w b.size 0 e)).size+1)))=w';rw[SC] at T5;intro hb Su;refine⟨w',.inl ⟨.slice (some ⟨w.heap.size,0,none⟩) b.size (grownCap w b.size 0 e),by simp[execOp,ho,hv,T5],ec hd (h.below hb) ?_⟩⟩;obtain⟨k1,k2⟩:=H8 (w:=w') (F:=FB C σ s.heap) b;simp only[VR,cr];have VV:b.size<=grownCap w b.size 0 e:=grownCap_ge w b.size 0 e;refine⟨_,_,rfl,VV,grownCap_le_maxLen w _ _ _ (by simp only[maxLen];omega),.inr ⟨_,rfl,?_⟩⟩;refine iO _ _ _ k1 k2 (λ hf=>?_) λ j v hj=>?_
 ·have:=G0 h _ hf;simp at this
 ·rw[add_lit,Nat.zero_add,cell_of_row w' _ _ _ _ _ Su];rw[getElem?_map] at hj;obtain⟨y,hy,rfl⟩:=Option.map_eq_some_iff.1 hj;have RS:j<b.data.size:=by simpa using (List.getElem?_eq_some_iff.1 hy).1
  rw[bytesRow_at b _ j RS];have:y=b.data[j]:=by
   have:=(List.getElem?_eq_some_iff.1 hy).2
   simpa using this.symm
  rw[this]
def KM (s:St)(o:Nat)(ob:Ob)(d:Option Tmp)(off n:Nat):St:=(s.dn o ob).put d (.ax ((ob.cells.drop off).take (n*ob.sz)) n)
theorem Gb (ht:aD P av){o:Oper}{t e:TypeId}{x:Operand}{p off n:Nat}{ob:Ob}(hd:bm C.nt o.dst=true)(ho:o.op=.convert t t x)(hx:ev s x=some (.bb p off n))(hn:0<n)(h2:dM av t=some (.sl e))(h3:dM av e=some (.int .u8))
  (TU:assoc s.heap p=some ob) (Sa:trees ob.cells=true):qU P C o s (KM s p ob o.dst off n):=by
 rintro a w ⟨σ,h⟩;obtain⟨i2,b1,b2,_⟩:=fq ht h2;have g2:=dI (ht t i2 b1) b2;have g3:=vB ht h3;have hv:=bF h hx;have W2:=hv;simp only[VR] at hv;obtain⟨B,hB,hv⟩:=hv;obtain⟨B',e1,e2,e3,e4,e5⟩:=h.obj p ob TU;rw[hB] at e1;cases e1
 cases Td:B.kf with
 | none=>rw[Td] at hv;simp only at hv;omega
 | some b=>
  rw[Td] at hv;simp only at hv;obtain⟨cap,hv,c1,c2,c3,c4⟩:=hv;obtain⟨cur,n1,n2,n3,n4,n5,n6⟩:=e5 b Td;have RS:=(Array.getElem?_eq_some_iff.1 n1).1;have ZX:w.shape? b=some (ob.elem,cur.size):=by unfold World.shape?;rw[n1]
  let w':World:=w.freeze ⟨b,cur.size,none⟩ 1
  have SC:w'.heap=w.heap.modify b (λ | .cells c elem (lo,hi)=>.cells c elem (if lo == hi then (cur.size,cur.size+1) else (min lo cur.size,max hi (cur.size+1))) | o=>o):=rfl;have Sp:∀ k,k≠b->w'.heap[k]? = w.heap[k]?:=λ k hk=>by
   rw[SC,Array.getElem?_modify,if_neg (Ne.symm hk)]
  have TR:w'.heap[b]? = some (.cells cur ob.elem (cur.size,cur.size+1)):=by
   rw[SC,Array.getElem?_modify,if_pos rfl,n1];rfl
  have Ue:∀ ad,w'.cell? ad=w.cell? ad:=λ ad=>by
   by_cases hk:ad.block=b
   ·unfold World.cell?;rw[hk,TR,n1]
   ·exact World.cell?_of_block (Sp _ hk)
  have hk:∀ F:Nat->Prop,cO w w' F F:=λ F=>⟨λ ad u hf hu=>⟨by rw[Ue];exact hu,hf⟩,λ r x hf hu hx=>by
   have Sb:r≠b:=λ e=>by subst e;rw[n1] at hu;cases hu;exact hx _ _ _ rfl
   exact⟨by rw[Sp r Sb];exact hu,hf⟩⟩
  have h':=h.dn TU Sa;have hnb:∀ q y,assoc (s.dn p ob).heap q=some y->a7 σ q≠some b:=λ q y hq hb=>by
   obtain⟨Sb,z,hz,_⟩:=gr _ _ _ hq;exact Sb (h.inj q p z ob b hz TU hb (by simp[a7,hB,Td]))
  have Vx:aQ C σ (s.dn p ob) a w':=by
   refine⟨h'.pQ,h'.tm,h'.os,h'.tape,h'.output,?_,?_,?_,?_,h'.inj,h'.nx,h'.gA,h'.low,h'.new⟩
   ·rw[SC,Array.size_modify];exact h'.size
   ·intro k V6 Xg;rw[Sp k (λ e=>?_)]
    ·exact h'.frame k V6 Xg
    ·subst e;rcases n4 with n4 | n4
     ·exact Xg n4
     ·omega
   ·intro t c hc;obtain⟨v,k1,k2⟩:=h'.env t c hc;exact⟨v,k1,VR.bG (hk _) c v (λ _ _=>rfl) k2⟩
   ·intro q y hq;obtain⟨B2,m1,m2,m3,m4,m5⟩:=h'.obj q y hq;refine⟨B2,m1,m2,m3,m4,λ b2 TG=>?_⟩;obtain⟨Wq,q1,q2,q3,q4,q5,q6⟩:=m5 b2 TG;have Sb:b2≠b:=λ e=>hnb q y hq (by simp[a7,m1,TG,e]);exact⟨Wq,by rw[Sp b2 Sb];exact q1,q2,q3,q4,q5,a6.bG (hk _) _ _ (λ _ _=>rfl) q6⟩
  have Uh:VR w' (FB C σ (s.dn p ob).heap) σ (.ax ((ob.cells.drop off).take (n*ob.sz)) n) (a.eval x):=by
   cases x with
   | tmp t=>
    have hfz:assoc (s.dn p ob).env t=some (.ax ((ob.cells.drop off).take (n*ob.sz)) n):=by
     have TM:assoc s.env t=some (.bb p off n):=hx;have:∀ l:List (Nat×CV),assoc l t=some (.bb p off n)->assoc (yw p ob.cells ob.sz l) t=some (.ax ((ob.cells.drop off).take (n*ob.sz)) n):=by
      intro l
      induction l with
      | nil=>intro h;cases h
      | cons y r ih=>
       obtain⟨k,c⟩:=y;intro hl;simp only[yw,assoc] at hl |-;split at hl
       ·rename_i e;cases hl;rw[if_pos e];simp[cw]
       ·rename_i e;rw[if_neg e];exact ih hl
     exact this s.env TM
    obtain⟨v,k1,k2⟩:=Vx.env t _ hfz;have:a.eval (.tmp t)=v:=by simp[Act.eval,k1]
    rw[this];exact k2
   | const v=>exact absurd hx (by
     simp only[ev];intro hc;have:=nK (w:=w) (F:=λ _=>False) hc;simp[cr] at this)
   | func f=>cases hx
   | global g=>
    simp only[ev,Option.bind_eq_some_iff,Option.map_eq_some_iff] at hx;obtain⟨_,_,_,_,h⟩:=hx;cases h
  have T5:(execOp a.eval o).run P w=.ok (.value (a.eval x)) w':=by
   rw[hv];simp[execOp,ho,hv,convert,run_underlying g2,run_underlying g3,markStringish,ZX,w']
  exact⟨w',.inl ⟨_,T5,ec hd Vx Uh⟩⟩
theorem CU (ht:aD P av){o:Oper}{t:TypeId}{x:Operand}{c:CV}{d:TD}(hd:bm C.nt o.dst=true)(ho:o.op=.makeInterface t x)(hx:ev s x=some c)(h1:dM av t=some d)(hn:d=.PH->False):qU P C o s (s.put o.dst (.iface t [c])):=by
 rintro a w ⟨σ,h⟩;obtain⟨i1,a1,a2,u,g1,g2⟩:=fq ht h1;have hv:=bF h hx;refine⟨w,.inl ⟨.iface t (a.eval x),?_,ec hd h ?_⟩⟩
 ·have hu:(underlying t).run P w=.ok u w:=bz g1 w;have:(Instr.makeInterface t (a.eval x)).run P w=.ok (.iface t (a.eval x)) w:=by
   unfold Instr.makeInterface;simp only[Sem.run_bind,hu,Result.andThen_ok];cases u<;>first | rfl | (exact absurd g2.symm hn)
  simp[execOp,ho,this]
 ·simp only[VR,a6];exact⟨[a.eval x],rfl,a.eval x,[],rfl,hv,rfl⟩
theorem Qz (ht:aD P av){o:Oper}{cl:Call}{t e:TypeId}{x:Operand}(hd:bm C.nt o.dst=true)(ho:o.op=.call cl)(RY:cl.callee=.builtin .cap)(RV:cl.args=#[x])(Tj:cl.argTypes=#[t])(hx:ev s x=some .aj)(h1:dM av t=some (.sl e)):qU P C o s (s.put o.dst (.int .i64 0)):=by
 rintro a w ⟨σ,h⟩;obtain⟨i1,a1,a2,_⟩:=fq ht h1;have g1:=dI (ht t i1 a1) a2;have hv:=bF h hx;simp only[VR] at hv;refine⟨w,.inl ⟨.int .i64 0,?_,ec hd h (dU _ _)⟩⟩;simp[execOp,ho,resolve,RY,RV,Tj,invoke,builtin,Builtin.cap_,run_underlying g1,hv,goInt]
theorem aQ.FI (h:aQ C σ s a w)(x:Obj):aQ C (sig σ s.nx ⟨some w.heap.size,0,0⟩) ⟨s.env,s.heap,s.nx+1⟩ a (w.alloc x)/\¬ FB C (sig σ s.nx ⟨some w.heap.size,0,0⟩) s.heap w.heap.size:=by
 have hn:σ s.nx=none:=h.nx s.nx (Nat.le_refl _);have hg:w.grownBy (w.alloc x) none:=oX _;have hold:∀ {p x},assoc s.heap p=some x->p≠s.nx:=λ {p x} hp e=>by
  subst e;obtain⟨B',e1,_⟩:=h.obj _ _ hp;rw[hn] at e1;cases e1
 have WW:∀ {p},p≠s.nx->sig σ s.nx ⟨some w.heap.size,0,0⟩ p=σ p:=λ {p} hp=>by simp[sig,hp]
 have hF:∀ b',FB C (sig σ s.nx ⟨some w.heap.size,0,0⟩) s.heap b'->FB C σ s.heap b':=by
  rintro b' (hb | ⟨p,y,hp,hb⟩)
  ·exact .inl hb
  ·simp only[a7,WW (hold hp)] at hb;exact .inr ⟨p,y,hp,hb⟩
 have hk:cO w (w.alloc x) (FB C σ s.heap) (FB C (sig σ s.nx ⟨some w.heap.size,0,0⟩) s.heap):=ll hg (λ b e=>by cases e) λ b' Sf=>.inl (hF b' Sf);refine⟨⟨h.pQ,h.tm,h.os,h.tape,h.output,Nat.le_trans h.size hg.size,?_,?_,?_,?_,?_,?_,Nat.le_trans h.low (Nat.le_succ _),?_⟩,λ hf=>?_⟩
 ·intro k V6 Xg;rw[hg.block k (Nat.lt_of_lt_of_le V6 h.size) xr];exact h.frame k V6 Xg
 ·intro t c hc;obtain⟨v,k1,k2⟩:=h.env t c hc;exact⟨v,k1,VR.bG hk c v (vE hn k2) k2⟩
 ·intro q y hq;obtain⟨B2,m1,m2,m3,m4,m5⟩:=h.obj q y hq;refine⟨B2,by rw[WW (hold hq)];exact m1,m2,m3,m4,λ b2 TG=>?_⟩;obtain⟨Wq,q1,q2,q3,q4,q5,q6⟩:=m5 b2 TG;exact⟨Wq,by rw[hg.block b2 (Array.getElem?_eq_some_iff.1 q1).1 xr];exact q1,q2,q3,q4,q5,a6.bG hk _ _ (oE hn q6) q6⟩
 ·intro p q y z b' hp hq V8 WN;simp only[a7,WW (hold hp)] at V8;simp only[a7,WW (hold hq)] at WN;exact h.inj p q y z b' hp hq V8 WN
 ·intro p hp;have:p≠s.nx:=λ e=>by subst e;exact absurd hp xr
  rw[WW this];exact h.nx p (Nat.le_of_succ_le hp)
 ·intro p hp;have:=h.low;rw[WW (show p≠s.nx by omega)];exact h.gA p hp
 ·intro p B b' hp hB hb;by_cases e:p=s.nx
  ·subst e;rw[dN] at hB;cases hB;simp only[Option.some.injEq] at hb;subst hb;exact .inr h.size
  ·rw[WW e] at hB;exact h.new p B b' hp hB hb
 ·have:=G0 h _ (hF _ hf);omega
theorem PX {o:Oper}{t:TypeId}(hd:bm C.nt o.dst=true)(ho:o.op=.makeMap t none):qU P C o s (St.put ⟨s.env,s.heap,s.nx+1⟩ o.dst (.mp s.nx [])):=by
 rintro a w ⟨σ,h⟩;obtain⟨h',hf⟩:=h.FI (.map #[] 0);refine⟨w.alloc (.map #[] 0),.inl ⟨.map (some w.heap.size),?_,ec hd h' ?_⟩⟩
 ·simp[execOp,ho,Instr.makeMap]
 ·simp only[VR];exact⟨_,w.heap.size,#[],0,dN,rfl,rfl,heap_alloc_new w _,rfl,nodup_nil,hf⟩
theorem Jx (ht:aD P av){o:Oper}{t:TypeId}{x:Operand}{b:ByteArray}(hd:bm C.nt o.dst=true)(ho:o.op=.range t x)(hx:ev s x=some (.str b))(h1:dM av t=some .str):qU P C o s (St.put ⟨s.env,s.heap,s.nx+1⟩ o.dst (.iter s.nx b 0)):=by
 rintro a w ⟨σ,h⟩;obtain⟨i1,a1,a2,_⟩:=fq ht h1;have g1:=mZ (ht t i1 a1) a2;have hv:=bF h hx;simp only[VR] at hv;obtain⟨h',hf⟩:=h.FI (.stringIter b 0);refine⟨w.alloc (.stringIter b 0),.inl ⟨.pointer (some ⟨w.heap.size,0,none⟩),?_,ec hd h' ?_⟩⟩
 ·simp[execOp,ho,Instr.range,run_underlying g1,hv]
 ·simp only[VR];exact⟨_,w.heap.size,dN,rfl,rfl,heap_alloc_new w _,hf⟩
def xu (k:Nat):CV->Bool
 | .iter k' _ _=>k' == k
 | _=>false
def zk (k:Nat)(b:ByteArray)(p:Nat):List (Nat×CV)->List (Nat×CV)
 | []=>[]
 | (t,c)::r=>(t,if xu k c then .iter k b p else c)::zk k b p r
theorem u7 {k:Nat}{b:ByteArray}{p:Nat}:∀ (l:List (Nat×CV)) (t:Nat) (c:CV),assoc (zk k b p l) t=some c->∃ d,assoc l t=some d/\c=if xu k d then .iter k b p else d
 | [],t,c,h=>by simp[zk,assoc] at h
 | (u,d)::r,t,c,h=>by
  simp only[zk,assoc] at h |-;split at h
  ·rename_i e;cases h;rw[if_pos e];exact⟨d,rfl,rfl⟩
  ·rename_i e;rw[if_neg e];exact u7 r t c h
def On:CV->Bool
 | .mp _ _=>true
 | _=>false
def JU (s:St)(k:Nat):Bool:=(s.env.all λ x=>lX x.2 || xu k x.2 || On x.2) && s.heap.all λ x=>jT x.2.cells
def K8 (s:St)(d:Option Tmp)(k:Nat)(b:ByteArray)(p:Nat):Option St:=
 if p<b.size then if JU s k then some (St.put { s with env:=zk k b (p+(Utf8.decode b p).2) s.env } d (.cB [.bool true,.int .i64 p,.int .i32 (Utf8.decode b p).1])) else none
 else some (s.put d (.cB [.bool false]))
theorem cL {o:Oper}{x:Operand}{k p:Nat}{b:ByteArray}{s':St}(hd:bm C.nt o.dst=true)(ho:o.op=.next x true)(hx:ev s x=some (.iter k b p))(Zo:C.n0<=k)(hs:K8 s o.dst k b p=some s'):qU P C o s s':=by
 rintro a w ⟨σ,h⟩;have hv:=bF h hx;simp only[VR] at hv;obtain⟨B,r,hB,hb,hv,hr,hf⟩:=hv;have TW:w.heap[r]? = some (.stringIter b p):=hr;have XG:=(Array.getElem?_eq_some_iff.1 hr).1;unfold K8 at hs;split at hs
 ·rename_i RS;split at hs
  ·rename_i Sg;cases hs;simp only[JU,Bool.and_eq_true,all_eq_true,Bool.or_eq_true] at Sg;let w':World:={ w with heap:=w.heap.setIfInBounds r (.stringIter b (p+(Utf8.decode b p).2)) }
   have Sp:∀ j,j≠r->w'.heap[j]? = w.heap[j]?:=λ j hj=>by
    simp[w',Ne.symm hj]
   have TR:w'.heap[r]? = some (.stringIter b (p+(Utf8.decode b p).2)):=by
    simp[w',XG]
   have R0:w'.heap.size=w.heap.size:=by simp[w']
   have hkc:∀ F:Nat->Prop,nY w w' F F:=λ F ad u hf hu=>by
    have Sb:ad.block≠r:=λ e=>by
     unfold World.cell? at hu;rw[e,hr] at hu;cases hu
    exact⟨by rw[World.cell?_of_block (Sp _ Sb)];exact hu,hf⟩
   have h':aQ C σ { s with env:=zk k b (p+(Utf8.decode b p).2) s.env } a w':=by
    refine⟨h.pQ,h.tm,h.os,h.tape,h.output,by rw[R0];exact h.size,?_,?_,?_,h.inj,h.nx,h.gA,h.low,h.new⟩
    ·intro j hj1 hj2;rw[Sp j (λ e=>?_)]
     ·exact h.frame j hj1 hj2
     ·subst e;rcases h.new k B j Zo hB hb with n4 | n4
      ·exact hj2 n4
      ·omega
    ·intro t c hc;obtain⟨d,Ss,rfl⟩:=u7 _ _ _ hc;obtain⟨v,k1,k2⟩:=h.env t d Ss;refine⟨v,k1,?_⟩;by_cases hi:xu k d=true
     ·rw[if_pos hi];cases d<;>simp only[xu,Bool.false_eq_true] at hi;rename_i k' b' p';have:k'=k:=by simpa using hi
      subst this;simp only[VR] at k2 |-;obtain⟨B2,r2,q1,q2,q3,q4,q5⟩:=k2;rw[hB] at q1;cases q1;rw[hb] at q2;cases q2;exact⟨B,r,hB,hb,q3,TR,q5⟩
     ·rw[if_neg hi];rcases Sg.1 _ (bx _ _ _ Ss) with (q | q) | q
      ·exact VR.oV (hkc _) _ _ q k2
      ·exact absurd q hi
      ·cases d<;>simp only[On,Bool.false_eq_true] at q;simp only[VR] at k2 |-;obtain⟨B2,r2,arr,clock,q1,q2,q3,q4,q5,q6,q7⟩:=k2;have Sb:r2≠r:=λ e=>by rw[e,hr] at q4;cases q4
       exact⟨B2,r2,arr,clock,q1,q2,q3,by rw[Sp r2 Sb];exact q4,q5,q6,q7⟩
    ·intro q y hq;obtain⟨B2,m1,m2,m3,m4,m5⟩:=h.obj q y hq;refine⟨B2,m1,m2,m3,m4,λ b2 TG=>?_⟩;obtain⟨Wq,q1,q2,q3,q4,q5,q6⟩:=m5 b2 TG;have Sb:b2≠r:=λ e=>by subst e;rw[hr] at q1;cases q1
     exact⟨Wq,by rw[Sp b2 Sb];exact q1,q2,q3,q4,q5,a6.oV (hkc _) _ _ (Sg.2 _ (bx _ _ _ hq)) q6⟩
   refine⟨w',.inl ⟨.tuple #[.bool true,goInt p,.int .i32 (Utf8.decode b p).1],?_,ec hd h' ?_⟩⟩
   ·simp[execOp,ho,hv,Instr.next,getObj,setObj,Sem.run,TW,RS,w']
   ·simp only[VR,a6];exact⟨[_,_,_],rfl,_,_,rfl,rfl,_,_,rfl,rfl,_,_,rfl,rfl,rfl⟩
  ·cases hs
 ·rename_i VV;cases hs;refine⟨w,.inl ⟨.tuple #[.bool false],?_,ec hd h ?_⟩⟩
  ·simp[execOp,ho,hv,Instr.next,getObj,Sem.run,TW,VV]
  ·simp only[VR,a6];exact⟨[_],rfl,_,_,rfl,rfl,rfl⟩
end
section
variable {P:Program}{C:Cx}{s:St}{ops:Array Oper}{av:List (Nat×TI)}
def GS (av:List (Nat×TI))(s:St)(d:Option Tmp)(x y:Operand)(t it:TypeId):Option St:=
 match dM av t,dM av it,ev s x,ev s y with
 | some (.sl e),some (.int .i64),some (.bb p 0 n),some (.int .i64 mi)=>match assoc av e,assoc s.heap p with
  | some ie,some ob=>if 0<ie.size/\0<ie.bytes/\ob.elem=e/\ob.sz=ie.size/\n*ie.size=ob.cells.length/\(n+mi.toNat)*ie.bytes<=140737488355328/\0<mi then some (AppZ s d p n mi.toNat ob ie.zero) else none
  | _,_=>none
 | _,_,_,_=>none
theorem DC (ht:aD P av){o:Oper}{cl:Call}{t it:TypeId}{x y:Operand}{s':St}(hd:bm C.nt o.dst=true)(ho:o.op=.call cl)(RY:cl.callee=.builtin .append)(RV:cl.args=#[x,y])(Tj:cl.argTypes=#[t,it])(h:GS av s o.dst x y t it=some s'):qU P C o s s':=by
 unfold GS at h;split at h
 ·rename_i e p n mi h1 h2 h3 h4;split at h
  ·rename_i ie ob h5 h6;split at h
   ·rename_i hc;cases h;obtain⟨c1,c2,c3,c4,c5,c6,c7⟩:=hc;obtain⟨ii,Sz,Tc⟩:=Option.map_eq_some_iff.1 h2;have hm:((mi.toNat:Nat):Int)=mi:=by omega
    intro a w hr;obtain⟨z,w',s',k1,k2,k3⟩:=NO (P:=P) (C:=C) (s:=s) ht (m:=mi.toNat) hd ho RY RV Tj h1 h5 Sz Tc h3 (by rw[hm];exact h4) h6 c1 c2 c3 c4 c5 c6 yA rfl a w hr;cases k2;exact⟨w',.inl ⟨z,k1,k3⟩⟩
   ·cases h
  ·cases h
 ·cases h
def QF (av:List (Nat×TI))(s:St)(o:Oper)(x y:Operand)(t it:TypeId):Option St:=
 match GS av s o.dst x y t it with
 | some s'=>some s'
 | none=>match x,ev s x with
  | .tmp tx,some .aj=>match dM av t with
   | some (.sl e)=>match assoc av e with
    | some ie=>match assoc s.env tx with
     | some .aj=>GS av (s.own tx e ie.size) o.dst x y t it
     | _=>none
    | none=>none
   | _=>none
  | _,some (.bb p _ n)=>match assoc s.heap p with
   | some ob=>oB av (s.cut p ob (n*ob.sz)) o
   | none=>none
  | _,_=>none
theorem NM (ht:aD P av){o:Oper}{cl:Call}{t it:TypeId}{x y:Operand}{s':St}(hd:bm C.nt o.dst=true)(ho:o.op=.call cl)(RY:cl.callee=.builtin .append)(RV:cl.args=#[x,y])(Tj:cl.argTypes=#[t,it])(h:QF av s o x y t it=some s'):qU P C o s s':=by
 unfold QF at h;split at h
 ·rename_i s1 h1;cases h;exact DC ht hd ho RY RV Tj h1
 ·split at h
  ·rename_i tx _ hx;split at h
   ·rename_i e h1;split at h
    ·rename_i ie h2;split at h
     ·rename_i h3;exact qU.le (Le.own tx e ie.size h3) (DC ht hd ho RY RV Tj h)
     ·cases h
    ·cases h
   ·cases h
  ·rename_i p _ n _ hx;split at h
   ·rename_i ob h1;exact qU.le (Le.cut _ h1) (qU.MN ht hd h)
   ·cases h
  ·cases h
def Fv (n0:Nat)(av:List (Nat×TI))(s:St)(o:Oper):Option St:=
 match o.op with
 | .convert t u x=>match sI av s t u x with
  | some c=>some (s.put o.dst c)
  | none=>match ev s x,dM av t,dM av u with
   | some (.str b),some .str,some (.sl e)=>match dM av e with
    | some (.int .u8)=>if b.size<=1000000 then some (s.put o.dst (.ax (qO b) b.size)) else none
    | _=>none
   | some (.bb p off n),some (.sl e),_=>if t=u/\0<n then match dM av e,assoc s.heap p with
     | some (.int .u8),some ob=>if trees ob.cells=true then some (KM s p ob o.dst off n) else none
     | _,_=>none
    else none
   | _,_,_=>none
 | .makeInterface t x=>match ev s x,dM av t with
  | some _,some .PH=>none
  | some c,some _=>some (s.put o.dst (.iface t [c]))
  | _,_=>none
 | .makeMap _ none=>some (St.put ⟨s.env,s.heap,s.nx+1⟩ o.dst (.mp s.nx []))
 | .range t x=>match ev s x,dM av t with
  | some (.str b),some .str=>some (St.put ⟨s.env,s.heap,s.nx+1⟩ o.dst (.iter s.nx b 0))
  | _,_=>none
 | .next x true=>match ev s x with
  | some (.iter k b p)=>if n0<=k then K8 s o.dst k b p else none
  | _=>none
 | .call cl=>match cl.callee with
  | .builtin .append=>match cl.args.toList,cl.argTypes.toList with
   | [x,y],[t,it]=>QF av s o x y t it
   | _,_=>none
  | .builtin .cap=>match cl.args.toList,cl.argTypes.toList with
   | [x],[t]=>match ev s x,dM av t with
    | some .aj,some (.sl _)=>some (s.put o.dst (.int .i64 0))
    | _,_=>none
   | _,_=>none
  | _=>none
 | _=>none
theorem BB (ht:aD P av){o:Oper}{s':St}(hd:bm C.nt o.dst=true)(h:Fv C.n0 av s o=some s'):qU P C o s s':=by
 have ZJ:∀ {α:Type} {x:Array α} {l:List α},x.toList=l->x=l.toArray:=λ {α x l} e=>by rw[<- e]
 unfold Fv at h;split at h
 ·rename_i t u x ho;split at h
  ·rename_i c hc;cases h;rintro a w ⟨σ,hr⟩;obtain⟨z,k1,k2⟩:=Dt ht hr hc;exact⟨w,.inl ⟨z,by simp[execOp,ho,k1],ec hd hr k2⟩⟩
  ·split at h
   ·rename_i b e hx h1 h2;split at h
    ·rename_i h3;split at h
     ·rename_i hm;cases h;exact Ad ht hd ho hx h1 h2 h3 hm
     ·cases h
    ·cases h
   ·rename_i p off n e _ hx h1;split at h
    ·rename_i hc;obtain⟨rfl,hn⟩:=hc;split at h
     ·rename_i ob h3 h4;split at h
      ·rename_i h5;cases h;exact Gb ht hd ho hx hn h1 h3 h4 h5
      ·cases h
     ·cases h
    ·cases h
   ·cases h
 ·rename_i t x ho;split at h
  ·cases h
  ·rename_i c d hn hx h1;cases h;exact CU ht hd ho hx h1 (λ e=>hn e)
  ·cases h
 ·rename_i t ho;cases h;exact PX hd ho
 ·rename_i t x ho;split at h
  ·rename_i b hx h1;cases h;exact Jx ht hd ho hx h1
  ·cases h
 ·rename_i x ho;split at h
  ·rename_i k b p hx;split at h
   ·rename_i hk;exact cL hd ho hx hk h
   ·cases h
  ·cases h
 ·rename_i cl ho;split at h
  ·rename_i RY;split at h
   ·rename_i x y t it ha Tj;exact NM ht hd ho RY (ZJ ha) (ZJ Tj) h
   ·cases h
  ·rename_i RY;split at h
   ·rename_i x t ha Tj;split at h
    ·rename_i e hx h1;cases h;exact Qz ht hd ho RY (ZJ ha) (ZJ Tj) hx h1
    ·cases h
   ·cases h
  ·cases h
 ·cases h
end
def ct (o:Oper):Option Call:=match o.op with
 | .call c=>match c.callee with
  | .builtin _=>none
  | _=>some c
 | _=>none
theorem hU {o:Oper}{c:Call}(h:ct o=some c):o.op=.call c:=by
 unfold ct at h;split at h
 ·rename_i c' R5;split at h
  ·cases h
  ·cases h;exact R5
 ·cases h
abbrev gv:=FuncId->List CV->List (Nat×Ob)->Nat->Option (CV×List (Nat×Ob)×Nat)
section
variable {P:Program}{C:Cx}{s:St}{av:List (Nat×TI)}{ops:Array Oper}{call:gv}
def gT (P:Program)(av:List (Nat×TI))(call:gv):Prop:=∀ g cs H n x H' n',call g cs H n=some (x,H',n')->Body P av g cs H n λ r s'=>r=x/\s'.heap=H'/\s'.nx=n'
theorem TL.again {id:Nat}{l:List Oper}{s':St}(h:TL P C l.toArray l s λ x=>x=s'):T P C (.region id l.toArray false) s λ e x=>e=.normal/\x=s':=
 T.region λ a w Q hr hQ=>h a w Q hr λ x a' w' hx So=>hQ x a' w' ⟨rfl,hx⟩ So
end
def xn (g:CV->Option CV):List CV->Option (List CV)
 | []=>some []
 | c::cs=>match g c with
  | some d=>match xn g cs with
   | some ds=>some (d::ds)
   | none=>none
  | none=>none
def deep (H:List (Nat×Ob)):Nat->CV->Option CV
 | 0,_=>none
 | f+1,c=>if tree c then some c else match c with
  | .bb o off n=>match assoc H o with
   | some ob=>match (if trees ob.cells then some ob.cells else xn (deep H f) ob.cells) with
    | some cells=>some (.ax ((cells.drop off).take (n*ob.sz)) n)
    | none=>none
   | none=>none
  | .aw o off=>match assoc H o with
   | some ob=>match (if trees ob.cells then some ob.cells else xn (deep H f) ob.cells) with
    | some cells=>some (.cQ (cells.drop off))
    | none=>none
   | none=>none
  | .agg cs=>match xn (deep H f) cs with
   | some ds=>some (.agg ds)
   | none=>none
  | .iface t cs=>match xn (deep H f) cs with
   | some ds=>some (.iface t ds)
   | none=>none
  | .fn g cs=>match xn (deep H f) cs with
   | some ds=>some (.fn g ds)
   | none=>none
  | .cB cs=>match xn (deep H f) cs with
   | some ds=>some (.cB ds)
   | none=>none
  | _=>none
section
variable {P:Program}{C:Cx}{σ:Nat->Option OB}{s:St}{a:Act}{w:World}{ops:Array Oper}{av:List (Nat×TI)}
theorem pM {F F':Nat->Prop}{g:CV->Option CV}(hg:∀ c d v,g c=some d->VR w F σ c v->cr w F' d v/\one d=one c):∀ (cs ds:List CV) (vs:List Value),xn g cs=some ds->a6 w F σ cs vs->bZ w F' ds vs/\ds.all one=cs.all one
 | [],ds,vs,h,hv=>by
  simp only[xn] at h;cases h;exact⟨by simpa [a6,bZ] using hv,rfl⟩
 | c::cs,ds,vs,h,hv=>by
  simp only[xn] at h;split at h
  ·rename_i d h1;split at h
   ·rename_i ds' h2;cases h;simp only[a6,bZ] at hv |-;obtain⟨v,r,e,k1,k2⟩:=hv;obtain⟨q1,q2⟩:=hg c d v h1 k1;obtain⟨q3,q4⟩:=pM hg cs ds' r h2 k2;exact⟨⟨v,r,e,q1,q3⟩,by simp only[all_cons,q2,q4]⟩
   ·cases h
  ·cases h
theorem Gz (h:aQ C σ s a w):∀ (f:Nat) (c d:CV) (v:Value),deep s.heap f c=some d->VR w (FB C σ s.heap) σ c v->cr w C.F d v/\one d=one c
 | 0,_,_,_,h,_=>by simp[deep] at h
 | f+1,c,d,v,hd,hv=>by
  have ih:=Gz h f;have hk:nY w w (FB C σ s.heap) C.F:=λ ad u hf hu=>⟨hu,λ hF=>hf (.inl hF)⟩;have obj:∀ {o ob B b cells},assoc s.heap o=some ob->σ o=some B->B.kf=some b->(if trees ob.cells then some ob.cells else xn (deep s.heap f) ob.cells)=some cells->∀ k,fF w C.F (cells.drop k) ⟨b,k,none⟩:=λ {o ob B b cells} ho hB hb ht k=>by
   obtain⟨B',e1,_,_,e4,e5⟩:=h.obj o ob ho;rw[hB] at e1;cases e1;obtain⟨cur,k1,k2,k3,k4,k5,k6⟩:=e5 b hb;have h1:bZ w C.F cells (cur.toList.take ob.cells.length)/\cells.all one=true:=by
    split at ht
    ·rename_i Sa;cases ht;exact⟨bZ.bG hk _ _ (a6.eX _ _ Sa k6),e4⟩
    ·obtain⟨q1,q2⟩:=pM ih _ _ _ ht k6;exact⟨q1,q2.trans e4⟩
   have hl:cells.length=ob.cells.length:=by
    rw[<- bZ.length _ _ h1.1,a6.length _ _ k6]
   have h2:fF w C.F cells ⟨b,0,none⟩:=iO _ _ _ h1.1 h1.2 k3 λ j u hu=>by
    rw[add_lit,Nat.zero_add,cell_of_row w b j cur _ _ k1];rw[getElem?_take] at hu;split at hu
    ·simpa using hu
    ·cases hu
   have:=h2.drop k;rwa [add_lit,Nat.zero_add] at this
  simp only[deep] at hd;split at hd
  ·rename_i ht;cases hd;exact⟨cr.bG hk _ _ (VR.eX _ _ ht hv),rfl⟩
  ·split at hd
   ·rename_i o off n _;split at hd
    ·rename_i ob ho;split at hd
     ·rename_i cells hc;cases hd;refine⟨?_,rfl⟩;simp only[VR] at hv;obtain⟨B,hB,hv⟩:=hv;split at hv
      ·obtain⟨rfl,rfl,rfl⟩:=hv;simp only[cr];exact⟨none,0,rfl,Nat.le_refl _,Nat.zero_le _,.inl ⟨trivial,by simp⟩⟩
      ·rename_i b hb;obtain⟨cap,rfl,h1,h2,_⟩:=hv;simp only[cr];exact⟨_,cap,rfl,h1,h2,.inr ⟨_,rfl,fF.take _ _ _ (obj ho hB hb hc off)⟩⟩
     ·cases hd
    ·cases hd
   ·rename_i o off _;split at hd
    ·rename_i ob ho;split at hd
     ·rename_i cells hc;cases hd;refine⟨?_,rfl⟩;simp only[VR] at hv;obtain⟨B,b,hB,hb,rfl⟩:=hv;simp only[cr];exact⟨_,rfl,obj ho hB hb hc off⟩
     ·cases hd
    ·cases hd
   ·rename_i cs;split at hd
    ·rename_i ds hds;cases hd;simp only[VR] at hv;obtain⟨vs,e,r,h1⟩:=hv;obtain⟨q1,q2⟩:=pM ih _ _ _ hds r;simp only[cr];exact⟨⟨vs,e,q1,q2.trans h1⟩,rfl⟩
    ·cases hd
   ·rename_i t cs;split at hd
    ·rename_i ds hds;cases hd;simp only[VR] at hv;obtain⟨vs,e,r⟩:=hv;obtain⟨q1,q2⟩:=pM ih _ _ _ hds r;simp only[cr];exact⟨⟨vs,e,q1⟩,rfl⟩
    ·cases hd
   ·rename_i g cs;split at hd
    ·rename_i ds hds;cases hd;simp only[VR] at hv;obtain⟨vs,e,r⟩:=hv;obtain⟨q1,q2⟩:=pM ih _ _ _ hds r;simp only[cr];exact⟨⟨vs,e,q1⟩,rfl⟩
    ·cases hd
   ·rename_i cs;split at hd
    ·rename_i ds hds;cases hd;simp only[VR] at hv;obtain⟨vs,e,r⟩:=hv;obtain⟨q1,q2⟩:=pM ih _ _ _ hds r;simp only[cr];exact⟨⟨vs,e,q1⟩,rfl⟩
    ·cases hd
   ·cases hd
def doneD (av:List (Nat×TI))(f:Func)(r:CV):Exit->St->Prop
 | .normal,s=>∃ r0 k,bL av f s=some r0/\deep s.heap k r0=some r
 | .ret,s=>∃ r0 k,bL av f s=some r0/\deep s.heap k r0=some r
 | _,_=>False
theorem ae.MO (Uu : aD P av) {f : FuncId} {fn : Func} {c : Code} {args : List CV} {r : CV} (hf : P.funcs[f]? = some fn) (hb : fn.body = some c) (hn : (fn.name == "runtime.NumGoroutine") = false)
  (ha:args.length<=fn.ntmps) (h:∀ C:Cx,C.nt=fn.ntmps->C.n0=0->T P C c (enter args) (doneD av fn r)):ae P f args r:=by
 refine⟨⟨fn,hf,hn,by simp[hb]⟩,λ F vs w hF hv=>?_⟩;have hl:=bZ.length _ _ hv;let C:Cx:=⟨w,F,λ _=>False,hF,fn.ntmps,λ _=>none,0⟩
 have h0:aQ C (λ _=>none) (enter args) { tmps:=vs.toArray++Array.replicate (fn.ntmps-vs.toArray.size) undef,defers:=[] } w:=by
  refine⟨rfl,by simp[C];omega,rfl,rfl,rfl,Nat.le_refl _,λ _ _ _=>rfl,?_,?_,?_,λ _ _=>rfl,λ _ h=>absurd h (Nat.not_lt_zero _),Nat.zero_le _,λ _ _ _ _ h=>by cases h⟩
  ·intro t c hc;obtain⟨_,h2⟩:=gD args 0 t c hc;obtain⟨v,h3,h4⟩:=bZ.get _ _ hv t c yC;refine⟨v,?_,VR.cK _ _ (cr.bG (cO.same λ b hb=>?_).1 c v h4)⟩
   ·have RS:=(List.getElem?_eq_some_iff.1 h3).1;simp only;rw[Array.getElem?_append_left (by simpa using RS)]
    simpa using h3
   ·rcases hb with hF | ⟨o,ob,ho,_⟩
    ·exact hF
    ·simp[enter,assoc] at ho
  ·intro o ob ho;simp[enter,assoc] at ho
  ·intro o o' ob R9 b ho;simp[enter,assoc] at ho
 refine calls_of_wp hf hb (wp_mono (h C rfl rfl _ _ ⟨_,h0⟩) λ e a' w' ⟨s',q,σ,hr⟩=>?_);have fin:(∃ r0 k,bL av fn s'=some r0/\deep s'.heap k r0=some r)->a'.defers=[]/\∃ v,(results fn a'.tmps).run P w'=.ok v w'/\(∃ Wu,Ending.returned v=.returned Wu/\Below w.heap.size w w'/\cr w' F r Wu):=λ⟨r0,k,hq,hd⟩=>by
  obtain⟨v,k1,k2⟩:=jA (P:=P) Uu hr hq;exact⟨hr.pQ,v,k1,v,rfl,⟨hr.os,hr.tape,hr.output,hr.size,λ k hk=>hr.frame k hk (λ hx=>hx)⟩,(Gz hr _ _ _ _ hd k2).1⟩
 cases e with
 | normal=>exact fin q
 | ret=>exact fin q
 | exit _=>exact q.elim
 | goto _=>exact q.elim
 | panic _=>exact q.elim
 | outgrown=>exact q.elim
def qu (P:Program)(C:Cx)(s:St)(o:Oper)(g:FuncId)(cs:List CV):Prop:=
 ∀ σ a w,aQ C σ s a w->∃ vs:List Value,(execOp a.eval o).run P w=.ok (.enter g vs.toArray) w/\a6 w (FB C σ s.heap) σ cs vs
theorem qu.value {o:Oper}{c:Call}{g:FuncId}{cs:List CV}(ho:o.op=.call c)(Se:bM s c=some (g,cs))(he:kW P g):qu P C s o g cs:=by
 intro σ a w hr;obtain⟨fn,h1,h2,h3⟩:=he;unfold bM at Se;split at Se
 ·rename_i f Um;split at Se
  ·rename_i g' Tv Tz hfe Sw;cases Se;have W2:=bF hr hfe;simp only[VR] at W2;obtain⟨us,e,hu⟩:=W2;have RV:=qJ hr _ _ Sw;refine⟨c.args.toList.map a.eval++us,?_,a6.append _ _ _ _ RV hu⟩;have e2:(c.args.toList.map a.eval).toArray=c.args.map a.eval:=by rw[<- map_toArray]
   simp only[execOp,ho,resolve,Um,e,Deferred.ofValue,Sem.run_bind,Sem.run_pure,Result.andThen_ok,invoke,callFunc,run_program,h1,h2,h3,Bool.false_eq_true,if_false];rw[<- e2];simp
  ·cases Se
 ·cases Se
structure Bs (P:Program)(t:TypeId)(name:String)(g:FuncId):Prop where
 row:∃ i m,P.info? t=some i/\i.methods.find? (·.name == name)=some m/\m.path.toList=[]/\m.path.isEmpty=true/\m.func=some (g,false)
 Bw:∃ d,P.underlying t=some d/\∀ e,d≠.pointer e
abbrev iX:=List ((Nat×String)×FuncId)
def j5 (P:Program)(mt:iX):Prop:=∀ x∈mt,Bs P x.1.1 x.1.2 x.2
def Cw:iX->Nat->String->Option FuncId
 | [],_,_=>none
 | ((t,n),g)::r,u,m=>if t=u/\n=m then some g else Cw r u m
theorem zn:∀ (mt:iX) (u:Nat) (m:String) (g:FuncId),Cw mt u m=some g->((u,m),g)∈mt
 | [],_,_,_,h=>by simp[Cw] at h
 | ((t,n),g')::r,u,m,g,h=>by
  simp only[Cw] at h;split at h
  ·rename_i e;obtain⟨rfl,rfl⟩:=e;cases h;exact mem_cons_self
  ·exact mem_cons_of_mem _ (zn r u m g h)
def jL (mt:iX)(s:St)(c:Call):Option (FuncId×List CV):=match c.callee with
 | .value _=>bM s c
 | .invoke r name=>match ev s r,C6 s c.args.toList with
  | some (.iface t [x]),some cs=>match Cw mt t name with
   | some g=>some (g,x::cs)
   | none=>none
  | _,_=>none
 | _=>none
theorem Ed {t:TypeId}{name:String}{g:FuncId}(h:Bs P t name g)(v:Value)(n:Nat)(w:World):(method (n+1) t v name).run P w=.ok (g,v) w:=by
 obtain⟨⟨i,m,h1,h2,h3,h4,h5⟩,d,h6,h7⟩:=h;unfold method;simp only[Sem.run_bind,wE h1,Result.andThen_ok,h2,h3,follow,Sem.run_pure,h5,receiverAt,bz h6,Place.get]
theorem qu.to {mt:iX}(UX:j5 P mt){o:Oper}{c:Call}{g:FuncId}{cs:List CV}(ho:o.op=.call c)(Se:jL mt s c=some (g,cs))(he:kW P g):qu P C s o g cs:=by
 unfold jL at Se;split at Se
 ·exact qu.value ho Se he
 ·rename_i r name Um;split at Se
  ·rename_i t x Tz hr Sw;split at Se
   ·rename_i g' hm;cases Se;intro σ a w h;obtain⟨fn,h1,h2,h3⟩:=he;have hv:=bF h hr;simp only[VR,a6] at hv;obtain⟨vs,e,v,r',rfl,hv,rfl⟩:=hv;simp only[Rz] at e;have RV:=qJ h _ _ Sw;refine⟨v::c.args.toList.map a.eval,?_,by simp only[a6];exact⟨v,_,rfl,hv,RV⟩⟩;have e2:(c.args.toList.map a.eval).toArray=c.args.map a.eval:=by rw[<- map_toArray]
    have YK:=Ed (UX _ (zn _ _ _ _ hm)) v (P.types.size+99) w;have hme':(method (P.types.size+Made.depth) t v name).run P w=.ok (g,v) w:=YK;have hex:(#[Value.iface t v]++c.args.map a.eval)[0]? = some (Value.iface t v):=by rw[Array.getElem?_append_left xr];rfl
    have hex2:(#[Value.iface t v]++c.args.map a.eval).extract 1 (#[Value.iface t v]++c.args.map a.eval).size=c.args.map a.eval:=by
     apply Array.ext';simp[take_of_length_le]
    simp only[execOp,ho,resolve,Um,e,Sem.run_bind,Sem.run_pure,Result.andThen_ok,invoke,hex,hex2,callMethod,run_program,hme',callFunc,h1,h2,h3,Bool.false_eq_true,if_false];rw[<- e2];simp
   ·cases Se
  ·cases Se
 ·cases Se
theorem eU {o:Oper}(hr:Rel C s a w)(hg:bY ops s o=some true):Region.wanted o (yielded ops a.tmps)=true:=by
 unfold bY at hg;split at hg
 ·rename_i e;simp[Region.wanted,e]
 ·rename_i j want e;split at hg
  ·cases hg
  rename_i t hj;exact j7 hr e hj hg
theorem callE (Uu:aD P av){o:Oper}{l:List Oper}{g:FuncId}{cs:List CV}{K:St->Prop}{R:CV->St->Prop}(hd:bm C.nt o.dst=true)(hg:bY ops s o=some true)(he:qu P C s o g cs)(hb:Body P av g cs s.heap s.nx R)
  (hK:∀ r s',R r s'->TL P C ops l (St.put ⟨s.env,s'.heap,s'.nx⟩ o.dst r) K):TL P C ops (o::l) s K:=by
 intro a w Q hr hQ;have hw:=eU (ops:=ops) hr hg;obtain⟨σ,hr⟩:=hr;unfold wpList;rw[if_pos hw];refine .inl ?_;obtain⟨fn,code,hf,Tm,hn,hlen,hT⟩:=hb;obtain⟨vs,Iy,Tn⟩:=he σ a w hr;have hF:=MC hr;have h0:=hr.inner hF fn.ntmps Tn hlen;have Wp:Calls P g vs.toArray w λ e w'=>∃ v r s',e=.returned v/\R r s'/\∃ σ',aQ C σ' ⟨s.env,s'.heap,s'.nx⟩ a w'/\VR w' (FB C σ' s'.heap) σ' r v:=by
  refine calls_of_wp hf Tm (wp_mono (hT (C.inner w σ s.heap fn.ntmps hF s.nx) rfl rfl _ _ ⟨_,h0⟩) λ e a' w' ⟨s1,q,σ1,Tk⟩=>?_);have fin:aa (C.inner w σ s.heap fn.ntmps hF s.nx) (λ s'=>∃ r,bL av fn s'=some r/\R r s') s1->a'.defers=[]/\∃ v,(results fn a'.tmps).run P w'=.ok v w'/\(∃ Wu r s',Ending.returned v=.returned Wu/\R r s'/\∃ σ',aQ C σ' ⟨s.env,s'.heap,s'.nx⟩ a w'/\VR w' (FB C σ' s'.heap) σ' r Wu):=λ⟨s2,⟨r,q1,q2⟩,hl⟩=>by
   obtain⟨σ2,Sx⟩:=hl _ _ ⟨σ1,Tk⟩;obtain⟨v,k1,k2⟩:=jA (P:=P) Uu Sx q1;exact⟨Sx.pQ,v,k1,v,r,s2,rfl,q2,σ2,hr.back Sx,k2⟩
  cases e with
  | normal=>exact fin q
  | ret=>exact fin q
  | exit _=>exact q.elim
  | goto _=>exact q.elim
  | panic _=>exact q.elim
  | outgrown=>exact q.elim
 unfold Oper.wp;rw[Iy];refine Wp.mono λ e w' ⟨v,r,s',he,hR,σ',So,hv⟩=>?_;subst he;refine hK r s' hR _ w' Q ⟨σ',So.put ?_ hv⟩ hQ;intro t e;rw[So.tm];rw[e] at hd
 simpa [bm] using hd
theorem FQ {o:Oper}{g:FuncId}{cs:List CV}{r:CV}(he:qu P C s o g cs)(ht:trees cs=true)(hp:ae P g cs r)(h:aQ C σ s a w)(K:Act->World->Prop)(Q:Exit->Act->World->Prop)
  (hK:∀ v w',aQ C σ s a w'->VR w' (FB C σ s.heap) σ r v->K (a.put o.dst v) w'):o.wp P a w K Q:=by
 obtain⟨vs,Iy,Tn⟩:=he σ a w h;unfold Oper.wp;rw[Iy];refine (hp.2 (FB C σ s.heap) _ w (Fp h) (a6.eX _ _ ht Tn)).mono λ e w' ⟨v,he,hb,hv⟩=>?_;subst he;exact hK v w' (h.below hb) (VR.cK _ _ hv)
theorem pureE {o:Oper}{l:List Oper}{g:FuncId}{cs:List CV}{r:CV}{K:St->Prop}(hd:bm C.nt o.dst=true)(hg:bY ops s o=some true)(he:qu P C s o g cs)(ht:trees cs=true)(hp:ae P g cs r)(h:TL P C ops l (s.put o.dst r) K):TL P C ops (o::l) s K:=by
 intro a w Q hr hQ;have hw:=eU (ops:=ops) hr hg;obtain⟨σ,hr⟩:=hr;unfold wpList;rw[if_pos hw];refine .inl (FQ he ht hp hr _ _ λ v w' So hv=>h _ _ Q (ec hd So hv) hQ)
end
end Go.Can
