/- Further operations: conversions, interfaces, maps that are o -/
import Derived.Test.YtnecpnjdonibmaaGreatZ07
import Derived.Laws.IdiomStrings
namespace Go.Can
open Go.RowKit
section
variable {P:Program}{C:Cx}{σ:Nat→Option OB}{s:St}{a:Act}{w:World}{ops:Array Oper}{au:List (Nat×TI)}
def q8 (P:Program)(C:Cx)(o:Oper)(s s':St):Prop:=∀ a w,Rel C s a w →
 ∃ w',((∃ z,(execOp a.eval o).run P w=.ok (.value z) w'∧Rel C s' (a.put o.dst z) w')∨((execOp a.eval o).run P w=.ok .skip w'∧Rel C s' (a.put o.dst undef) w'))
theorem q8.le {o:Oper}{s1 s':St}(hl:Le C s s1)(h:q8 P C o s1 s'):q8 P C o s s':=fun a w hr=>h a w (hl a w hr)
theorem q8.JL (ht:aB P au){o:Oper}{s':St}(hd:aZ C.nt o.dst=true)(h:me au s o=some s'):q8 P C o s s':=fun _ _ hr=>vF ht hr hd h
theorem kX {o:Oper}{l:List Oper}{K:St→Prop}{s':St}(hg:bN ops s o=some true)(hx:q8 P C o s s')(h:TL P C ops l s' K):TL P C ops (o::l) s K:=by
 intro a w Q hr hQ;have hw:Region.wanted o (yielded ops a.tmps)=true:=by
  unfold bN at hg;split at hg
  ·rename_i e;simp[Region.wanted,e]
  ·rename_i j want e;split at hg
   ·cases hg
   rename_i t hj;exact kI hr e hj hg
 unfold wpList;rw[if_pos hw];refine .inl ?_;obtain⟨w',h1 | h1⟩:=hx a w hr
 ·obtain⟨z,k1,k2⟩:=h1;unfold Oper.wp;rw[k1];exact h _ _ Q k2 hQ
 ·obtain⟨k1,k2⟩:=h1;unfold Oper.wp;rw[k1];exact h _ _ Q k2 hQ
def bytesOf:List CV→Option (List UInt8)
 | []=>some []
 | .int .u8 n::r=>if 0≤n∧n<256 then (bytesOf r).map (UInt8.ofNat n.toNat :: ·) else none
 | _=>none
theorem uK {F:Nat→Prop}:∀ (cs:List CV) (l:List UInt8) (us:List Value),bytesOf cs=some l→aN w F σ cs us→us=l.map fun b=>Value.int .u8 (b.toNat:Int)
 | [],l,us,h,hr=>by
  simp only[bytesOf] at h;cases h
  simpa [aN] using hr
 | c::cs,l,us,h,hr=>by
  simp only[aN] at hr;obtain⟨v,r,rfl,h1,h2⟩:=hr;unfold bytesOf at h;split at h
  ·rename_i e;cases e
  ·rename_i n r' e;cases e;split at h
   ·rename_i hn;obtain⟨l',h3,rfl⟩:=Option.map_eq_some_iff.1 h;simp only[VR] at h1;subst h1;rw[uK cs l' r h3 h2];simp only[List.map_cons,List.cons.injEq,Value.int.injEq,true_and,and_true];have:(UInt8.ofNat n.toNat).toNat=n.toNat:=by
     have e:(UInt8.ofNat n.toNat).toNat=n.toNat % 256:=UInt8.toNat_ofNat';rw[e];omega
    rw[this];omega
   ·cases h
  ·cases h
def pE (au:List (Nat×TI))(s:St)(a b:TypeId)(x:Operand):Option CV:=
 match ev s x,dq au a,dq au b with
 | some (.int _ n),some _,some (.int k)=>some (.int k (k.wrap n))
 | some (.str v),some _,some .str=>some (.str v)
 | some c,some (.sl e),some .str=>match dq au e,cells? s c with
  | some (.int .u8),some (cs,m)=>if cs.length=m then (bytesOf cs).map fun l=>.str ⟨l.toArray⟩ else none
  | _,_=>none
 | _,_,_=>none
theorem dW (ht:aB P au){t:TypeId}{d:TD}(h:dq au t=some d):∃ i,assoc au t=some i∧i.d=d∧∃ u,P.underlying t=some u∧rh u=d:=by
 obtain⟨i,h1,h2⟩:=Option.map_eq_some_iff.1 h;obtain⟨u,h3,h4⟩:=(ht t i h1).AM;exact⟨i,h1,h2,u,h3,h4.trans h2⟩
theorem rQ {t:TypeId}{k:IntKind}(ht:aB P au)(h:dq au t=some (.int k)):P.underlying t=some (.int k):=by
 obtain⟨_,_,_,u,h1,h2⟩:=dW ht h;cases u<;>simp only[rh] at h2<;>first | cases h2 | skip
 exact h1
theorem Aw (ht:aB P au)(h:aL C σ s a w){t u:TypeId}{x:Operand}{c:CV}(hc:pE au s t u x=some c):∃ z,(convert t u (a.eval x)).run P w=.ok z w∧VR w (FB C σ s.heap) σ c z:=by
 unfold pE at hc;split at hc
 ·rename_i k0 n d k hx h1 h2;cases hc;have hv:=bL h hx;simp only[VR] at hv;obtain⟨_,_,_,ud,g1,_⟩:=dW ht h1;have g2:=rQ ht h2;refine⟨.int k (k.wrap n),?_,dn _ _⟩;rw[hv];simp[convert,run_underlying g1,run_underlying g2,Conv.intToInt]
 ·rename_i v d hx h1 h2;cases hc;have hv:=bL h hx;simp only[VR] at hv;obtain⟨_,_,_,ud,g1,_⟩:=dW ht h1;obtain⟨i,i1,i2,_⟩:=dW ht h2;have g2:=ll (ht u i i1) i2;refine⟨.string v,?_,yG _⟩;rw[hv];simp[convert,run_underlying g1,run_underlying g2]
 ·rename_i c' e _ hx h1 h2;split at hc
  ·rename_i cs m he Ql;split at hc
   ·rename_i hlen;obtain⟨l,hl,rfl⟩:=Option.map_eq_some_iff.1 hc;obtain⟨i1,a1,a2,_⟩:=dW ht h1;obtain⟨i2,b1,b2,_⟩:=dW ht h2;have g1:=dr (ht t i1 a1) a2;have g2:=ll (ht u i2 b1) b2;have g3:=rQ ht he;obtain⟨us,k1,_,k3⟩:=cells?_ok h (bL h hx) Ql;have Vh:=uK _ _ _ hl k1;have TK:l.length=m:=by
     have:=aN.length _ _ k1;rw[Vh,List.length_map] at this;omega
    refine⟨.string ⟨l.toArray⟩,?_,yG _⟩;rcases k3 with ⟨cp,e1,e2,e3⟩ | ⟨ad,cp,e1,e2⟩
    ·have:l=[]:=List.eq_nil_of_length_eq_zero yA;subst this;rw[e1,run_convert_bytes_string w t u e none 0 cp g1 g3 g2];rfl
    ·rw[e1];subst TK;refine run_convert_bytes_back w t u e ad cp l g1 g3 g2 fun j hj=>?_;refine e2 j _ ?_;rw[Vh];simp[hj]
   ·cases hc
  ·cases hc
 ·cases hc
def oD (b:ByteArray):List CV:=b.data.toList.map fun x=>.int .u8 (x.toNat:Int)
theorem E7 {F:Nat→Prop}(b:ByteArray):bP w F (oD b) (b.data.toList.map fun x=>Value.int .u8 (x.toNat:Int))∧(oD b).all one=true:=by
 unfold oD;generalize b.data.toList=l
 induction l with
 | nil=>simp[bP]
 | cons x r ih=>
  simp only[List.map_cons,bP,List.all_cons,ih.2,Bool.and_true];exact⟨⟨_,_,rfl,by simp[ch],ih.1⟩,rfl⟩
theorem eN {o:Oper}(hd:aZ C.nt o.dst=true)(h:aL C σ s a w){c:CV}{v:Value}(hv:VR w (FB C σ s.heap) σ c v):Rel C (s.put o.dst c) (a.put o.dst v) w:=
 ⟨σ,h.put (fun t e=>by rw[h.tm];rw[e] at hd;simpa [aZ] using hd) hv⟩
theorem xy (ht:aB P au){o:Oper}{t u e:TypeId}{x:Operand}{b:ByteArray}(hd:aZ C.nt o.dst=true)(ho:o.op=.convert t u x)(hx:ev s x=some (.str b))(h1:dq au t=some .str)(h2:dq au u=some (.sl e))(h3:dq au e=some (.int .u8))(hm:b.size≤1000000) :
  q8 P C o s (s.put o.dst (.az (oD b) b.size)):=by
 rintro a w ⟨σ,h⟩;obtain⟨i1,a1,a2,_⟩:=dW ht h1;obtain⟨i2,b1,b2,_⟩:=dW ht h2;have g1:=ll (ht t i1 a1) a2;have g2:=dr (ht u i2 b1) b2;have g3:=rQ ht h3;have hv:=bL h hx;simp only[VR] at hv;have QP:=run_bytes_of_string (P:=P) w t u e b g1 g2 g3;have hb:Below w.heap.size w (w.drew.alloc (.cells (bytesRow b (grownCap w b.size 0 e)) e ((bytesRow b (grownCap w b.size 0 e)).size,(bytesRow b (grownCap w b.size 0 e)).size+1))):=
  ⟨rfl,rfl,rfl,by simp,fun k hk=>heap_alloc_old w.drew _ k hk⟩
 have QM:(w.drew.alloc (.cells (bytesRow b (grownCap w b.size 0 e)) e ((bytesRow b (grownCap w b.size 0 e)).size,(bytesRow b (grownCap w b.size 0 e)).size+1))).heap[w.heap.size]? = some (.cells (bytesRow b (grownCap w b.size 0 e)) e ((bytesRow b (grownCap w b.size 0 e)).size,(bytesRow b (grownCap w b.size 0 e)).size+1)):=heap_alloc_new w.drew _;revert hb QM;generalize Qr:(w.drew.alloc (.cells (bytesRow b (grownCap w b.size 0 e)) e ((bytesRow b (grownCap w b.size 0 e)).size,(bytesRow b (grownCap w b.size 0 e)).size+1)))=w';rw[Qr] at QP;intro hb QM;refine⟨w',.inl ⟨.slice (some ⟨w.heap.size,0,none⟩) b.size (grownCap w b.size 0 e),by simp[execOp,ho,hv,QP],eN hd (h.below hb) ?_⟩⟩;obtain⟨k1,k2⟩:=E7 (w:=w') (F:=FB C σ s.heap) b;simp only[VR,ch];have SE:b.size≤grownCap w b.size 0 e:=grownCap_ge w b.size 0 e;refine⟨_,_,rfl,SE,grownCap_le_maxLen w _ _ _ (by simp only[maxLen];omega),.inr ⟨_,rfl,?_⟩⟩;refine fw _ _ _ k1 k2 (fun hf=>?_) fun j v hj=>?_
 ·have:=uV h _ hf;simp at this
 ·rw[add_lit,Nat.zero_add,cell_of_row w' _ _ _ _ _ QM];rw[List.getElem?_map] at hj;obtain⟨y,hy,rfl⟩:=Option.map_eq_some_iff.1 hj;have PQ:j<b.data.size:=by simpa using (List.getElem?_eq_some_iff.1 hy).1
  rw[bytesRow_at b _ j PQ];have:y=b.data[j]:=by
   have:=(List.getElem?_eq_some_iff.1 hy).2
   simpa using this.symm
  rw[this]
def K6 (s:St)(o:Nat)(ob:Ob)(d:Option Tmp)(off n:Nat):St:=(s.dz o ob).put d (.az ((ob.cells.drop off).take (n*ob.sz)) n)
theorem JW (ht:aB P au){o:Oper}{t e:TypeId}{x:Operand}{p off n:Nat}{ob:Ob}(hd:aZ C.nt o.dst=true)(ho:o.op=.convert t t x)(hx:ev s x=some (.bj p off n))(hn:0<n)(h2:dq au t=some (.sl e))(h3:dq au e=some (.int .u8))
  (Rh:assoc s.heap p=some ob) (RQ:trees ob.cells=true):q8 P C o s (K6 s p ob o.dst off n):=by
 rintro a w ⟨σ,h⟩;obtain⟨i2,b1,b2,_⟩:=dW ht h2;have g2:=dr (ht t i2 b1) b2;have g3:=rQ ht h3;have hv:=bL h hx;have YJ:=hv;simp only[VR] at hv;obtain⟨B,hB,hv⟩:=hv;obtain⟨B',e1,e2,e3,e4,e5⟩:=h.obj p ob Rh;rw[hB] at e1;cases e1
 cases hblk:B.iQ with
 | none=>rw[hblk] at hv;simp only at hv;omega
 | some b=>
  rw[hblk] at hv;simp only at hv;obtain⟨cap,hv,c1,c2,c3,c4⟩:=hv;obtain⟨cur,n1,n2,n3,n4,n5,n6⟩:=e5 b hblk;have PQ:=(Array.getElem?_eq_some_iff.1 n1).1;have Ws:w.shape? b=some (ob.elem,cur.size):=by unfold World.shape?;rw[n1]
  let w':World:=w.freeze ⟨b,cur.size,none⟩ 1
  have Qr:w'.heap=w.heap.modify b (fun | .cells c elem (lo,hi)=>.cells c elem (if lo == hi then (cur.size,cur.size+1) else (min lo cur.size,max hi (cur.size+1))) | o=>o):=rfl;have Qj:∀ k,k≠b→w'.heap[k]? = w.heap[k]?:=fun k hk=>by
   rw[Qr,Array.getElem?_modify,if_neg (Ne.symm hk)]
  have RH:w'.heap[b]? = some (.cells cur ob.elem (cur.size,cur.size+1)):=by
   rw[Qr,Array.getElem?_modify,if_pos rfl,n1];rfl
  have Q8:∀ ad,w'.cell? ad=w.cell? ad:=fun ad=>by
   by_cases hk:ad.block=b
   ·unfold World.cell?;rw[hk,RH,n1]
   ·exact World.cell?_of_block (Qj _ hk)
  have hk:∀ F:Nat→Prop,ck w w' F F:=fun F=>⟨fun ad u hf hu=>⟨by rw[Q8];exact hu,hf⟩,fun r x hf hu hx=>by
   have P3:r≠b:=fun e=>by subst e;rw[n1] at hu;cases hu;exact hx _ _ _ rfl
   exact⟨by rw[Qj r P3];exact hu,hf⟩⟩
  have h':=h.dz Rh RQ;have Wz:∀ q y,assoc (s.dz p ob).heap q=some y→aT σ q≠some b:=fun q y hq hb=>by
   obtain⟨P3,z,hz,_⟩:=fb _ _ _ hq;exact P3 (h.inj q p z ob b hz Rh hb (by simp[aT,hB,hblk]))
  have Te:aL C σ (s.dz p ob) a w':=by
   refine⟨h'.mD,h'.tm,h'.os,h'.tape,h'.output,?_,?_,?_,?_,h'.inj,h'.nx,h'.gy,h'.low,h'.new⟩
   ·rw[Qr,Array.size_modify];exact h'.size
   ·intro k VC UX;rw[Qj k (fun e=>?_)]
    ·exact h'.frame k VC UX
    ·subst e;rcases n4 with n4 | n4
     ·exact UX n4
     ·omega
   ·intro t c hc;obtain⟨v,k1,k2⟩:=h'.env t c hc;exact⟨v,k1,VR.bg (hk _) c v (fun _ _=>rfl) k2⟩
   ·intro q y hq;obtain⟨B2,m1,m2,m3,m4,m5⟩:=h'.obj q y hq;refine⟨B2,m1,m2,m3,m4,fun b2 Re=>?_⟩;obtain⟨Ue,q1,q2,q3,q4,q5,q6⟩:=m5 b2 Re;have P3:b2≠b:=fun e=>Wz q y hq (by simp[aT,m1,Re,e]);exact⟨Ue,by rw[Qj b2 P3];exact q1,q2,q3,q4,q5,aN.bg (hk _) _ _ (fun _ _=>rfl) q6⟩
  have Rw:VR w' (FB C σ (s.dz p ob).heap) σ (.az ((ob.cells.drop off).take (n*ob.sz)) n) (a.eval x):=by
   cases x with
   | tmp t=>
    have YI:assoc (s.dz p ob).env t=some (.az ((ob.cells.drop off).take (n*ob.sz)) n):=by
     have RD:assoc s.env t=some (.bj p off n):=hx;have:∀ l:List (Nat×CV),assoc l t=some (.bj p off n)→assoc (vl p ob.cells ob.sz l) t=some (.az ((ob.cells.drop off).take (n*ob.sz)) n):=by
      intro l
      induction l with
      | nil=>intro h;cases h
      | cons y r ih=>
       obtain⟨k,c⟩:=y;intro hl;simp only[vl,assoc] at hl ⊢;split at hl
       ·rename_i e;cases hl;rw[if_pos e];simp[cB]
       ·rename_i e;rw[if_neg e];exact ih hl
     exact this s.env RD
    obtain⟨v,k1,k2⟩:=Te.env t _ YI;have:a.eval (.tmp t)=v:=by simp[Act.eval,k1]
    rw[this];exact k2
   | const v=>exact absurd hx (by
     simp only[ev];intro hc;have:=oC (w:=w) (F:=fun _=>False) hc;simp[ch] at this)
   | func f=>cases hx
   | global g=>cases hx
  have QP:(execOp a.eval o).run P w=.ok (.value (a.eval x)) w':=by
   rw[hv];simp[execOp,ho,hv,convert,run_underlying g2,run_underlying g3,markStringish,Ws,w']
  exact⟨w',.inl ⟨_,QP,eN hd Te Rw⟩⟩
theorem gF (ht:aB P au){o:Oper}{t:TypeId}{x:Operand}{c:CV}{d:TD}(hd:aZ C.nt o.dst=true)(ho:o.op=.makeInterface t x)(hx:ev s x=some c)(h1:dq au t=some d)(hn:d=.Ml→False):q8 P C o s (s.put o.dst (.iface t [c])):=by
 rintro a w ⟨σ,h⟩;obtain⟨i1,a1,a2,u,g1,g2⟩:=dW ht h1;have hv:=bL h hx;refine⟨w,.inl ⟨.iface t (a.eval x),?_,eN hd h ?_⟩⟩
 ·have hu:(underlying t).run P w=.ok u w:=bu g1 w;have:(Instr.makeInterface t (a.eval x)).run P w=.ok (.iface t (a.eval x)) w:=by
   unfold Instr.makeInterface;simp only[Sem.run_bind,hu,Result.andThen_ok];cases u<;>first | rfl | (exact absurd g2.symm hn)
  simp[execOp,ho,this]
 ·simp only[VR,aN];exact⟨[a.eval x],rfl,a.eval x,[],rfl,hv,rfl⟩
theorem Ng (ht:aB P au){o:Oper}{cl:Call}{t e:TypeId}{x:Operand}(hd:aZ C.nt o.dst=true)(ho:o.op=.call cl)(PX:cl.callee=.builtin .cap)(PT:cl.args=#[x])(Rg:cl.argTypes=#[t])(hx:ev s x=some .ai)(h1:dq au t=some (.sl e)):q8 P C o s (s.put o.dst (.int .i64 0)):=by
 rintro a w ⟨σ,h⟩;obtain⟨i1,a1,a2,_⟩:=dW ht h1;have g1:=dr (ht t i1 a1) a2;have hv:=bL h hx;simp only[VR] at hv;refine⟨w,.inl ⟨.int .i64 0,?_,eN hd h (dn _ _)⟩⟩;simp[execOp,ho,resolve,PX,PT,Rg,invoke,builtin,Builtin.cap_,run_underlying g1,hv,goInt]
theorem aL.CA (h:aL C σ s a w)(x:Obj):aL C (sig σ s.nx ⟨some w.heap.size,0,0⟩) ⟨s.env,s.heap,s.nx+1⟩ a (w.alloc x)∧¬ FB C (sig σ s.nx ⟨some w.heap.size,0,0⟩) s.heap w.heap.size:=by
 have hn:σ s.nx=none:=h.nx s.nx (Nat.le_refl _);have hg:w.grownBy (w.alloc x) none:=mA _;have hold:∀ {p x},assoc s.heap p=some x→p≠s.nx:=fun {p x} hp e=>by
  subst e;obtain⟨B',e1,_⟩:=h.obj _ _ hp;rw[hn] at e1;cases e1
 have UA:∀ {p},p≠s.nx→sig σ s.nx ⟨some w.heap.size,0,0⟩ p=σ p:=fun {p} hp=>by simp[sig,hp]
 have hF:∀ b',FB C (sig σ s.nx ⟨some w.heap.size,0,0⟩) s.heap b'→FB C σ s.heap b':=by
  rintro b' (hb | ⟨p,y,hp,hb⟩)
  ·exact .inl hb
  ·simp only[aT,UA (hold hp)] at hb;exact .inr ⟨p,y,hp,hb⟩
 have hk:ck w (w.alloc x) (FB C σ s.heap) (FB C (sig σ s.nx ⟨some w.heap.size,0,0⟩) s.heap):=jT hg (fun b e=>by cases e) fun b' P5=>.inl (hF b' P5);refine⟨⟨h.mD,h.tm,h.os,h.tape,h.output,Nat.le_trans h.size hg.size,?_,?_,?_,?_,?_,?_,Nat.le_trans h.low (Nat.le_succ _),?_⟩,fun hf=>?_⟩
 ·intro k VC UX;rw[hg.block k (Nat.lt_of_lt_of_le VC h.size) zX];exact h.frame k VC UX
 ·intro t c hc;obtain⟨v,k1,k2⟩:=h.env t c hc;exact⟨v,k1,VR.bg hk c v (rX hn k2) k2⟩
 ·intro q y hq;obtain⟨B2,m1,m2,m3,m4,m5⟩:=h.obj q y hq;refine⟨B2,by rw[UA (hold hq)];exact m1,m2,m3,m4,fun b2 Re=>?_⟩;obtain⟨Ue,q1,q2,q3,q4,q5,q6⟩:=m5 b2 Re;exact⟨Ue,by rw[hg.block b2 (Array.getElem?_eq_some_iff.1 q1).1 zX];exact q1,q2,q3,q4,q5,aN.bg hk _ _ (mh hn q6) q6⟩
 ·intro p q y z b' hp hq TO Uu;simp only[aT,UA (hold hp)] at TO;simp only[aT,UA (hold hq)] at Uu;exact h.inj p q y z b' hp hq TO Uu
 ·intro p hp;have:p≠s.nx:=fun e=>by subst e;exact absurd hp zX
  rw[UA this];exact h.nx p (Nat.le_of_succ_le hp)
 ·intro p hp;have:=h.low;rw[UA (show p≠s.nx by omega)];exact h.gy p hp
 ·intro p B b' hp hB hb;by_cases e:p=s.nx
  ·subst e;rw[de] at hB;cases hB;simp only[Option.some.injEq] at hb;subst hb;exact .inr h.size
  ·rw[UA e] at hB;exact h.new p B b' hp hB hb
 ·have:=uV h _ (hF _ hf);omega
theorem Mw {o:Oper}{t:TypeId}(hd:aZ C.nt o.dst=true)(ho:o.op=.makeMap t none):q8 P C o s (St.put ⟨s.env,s.heap,s.nx+1⟩ o.dst (.mp s.nx [])):=by
 rintro a w ⟨σ,h⟩;obtain⟨h',hf⟩:=h.CA (.map #[] 0);refine⟨w.alloc (.map #[] 0),.inl ⟨.map (some w.heap.size),?_,eN hd h' ?_⟩⟩
 ·simp[execOp,ho,Instr.makeMap]
 ·simp only[VR];exact⟨_,w.heap.size,#[],0,de,rfl,rfl,heap_alloc_new w _,rfl,List.nodup_nil,hf⟩
theorem GM (ht:aB P au){o:Oper}{t:TypeId}{x:Operand}{b:ByteArray}(hd:aZ C.nt o.dst=true)(ho:o.op=.range t x)(hx:ev s x=some (.str b))(h1:dq au t=some .str):q8 P C o s (St.put ⟨s.env,s.heap,s.nx+1⟩ o.dst (.iter s.nx b 0)):=by
 rintro a w ⟨σ,h⟩;obtain⟨i1,a1,a2,_⟩:=dW ht h1;have g1:=ll (ht t i1 a1) a2;have hv:=bL h hx;simp only[VR] at hv;obtain⟨h',hf⟩:=h.CA (.stringIter b 0);refine⟨w.alloc (.stringIter b 0),.inl ⟨.pointer (some ⟨w.heap.size,0,none⟩),?_,eN hd h' ?_⟩⟩
 ·simp[execOp,ho,Instr.range,run_underlying g1,hv]
 ·simp only[VR];exact⟨_,w.heap.size,de,rfl,rfl,heap_alloc_new w _,hf⟩
def uj (k:Nat):CV→Bool
 | .iter k' _ _=>k' == k
 | _=>false
def vZ (k:Nat)(b:ByteArray)(p:Nat):List (Nat×CV)→List (Nat×CV)
 | []=>[]
 | (t,c)::r=>(t,if uj k c then .iter k b p else c)::vZ k b p r
theorem qW {k:Nat}{b:ByteArray}{p:Nat}:∀ (l:List (Nat×CV)) (t:Nat) (c:CV),assoc (vZ k b p l) t=some c→∃ d,assoc l t=some d∧c=if uj k d then .iter k b p else d
 | [],t,c,h=>by simp[vZ,assoc] at h
 | (u,d)::r,t,c,h=>by
  simp only[vZ,assoc] at h ⊢;split at h
  ·rename_i e;cases h;rw[if_pos e];exact⟨d,rfl,rfl⟩
  ·rename_i e;rw[if_neg e];exact qW r t c h
def K3:CV→Bool
 | .mp _ _=>true
 | _=>false
def G5 (s:St)(k:Nat):Bool:=(s.env.all fun x=>km x.2 || uj k x.2 || K3 x.2) && s.heap.all fun x=>jg x.2.cells
def Ie (s:St)(d:Option Tmp)(k:Nat)(b:ByteArray)(p:Nat):Option St:=
 if p<b.size then if G5 s k then some (St.put { s with env:=vZ k b (p+(Utf8.decode b p).2) s.env } d (.dH [.bool true,.int .i64 p,.int .i32 (Utf8.decode b p).1])) else none
 else some (s.put d (.dH [.bool false]))
theorem cu {o:Oper}{x:Operand}{k p:Nat}{b:ByteArray}{s':St}(hd:aZ C.nt o.dst=true)(ho:o.op=.next x true)(hx:ev s x=some (.iter k b p))(hk0:C.n0≤k)(hs:Ie s o.dst k b p=some s'):q8 P C o s s':=by
 rintro a w ⟨σ,h⟩;have hv:=bL h hx;simp only[VR] at hv;obtain⟨B,r,hB,hb,hv,hr,hf⟩:=hv;have RK:w.heap[r]? = some (.stringIter b p):=hr;have Uj:=(Array.getElem?_eq_some_iff.1 hr).1;unfold Ie at hs;split at hs
 ·rename_i PQ;split at hs
  ·rename_i P9;cases hs;simp only[G5,Bool.and_eq_true,List.all_eq_true,Bool.or_eq_true] at P9;let w':World:={ w with heap:=w.heap.setIfInBounds r (.stringIter b (p+(Utf8.decode b p).2)) }
   have Qj:∀ j,j≠r→w'.heap[j]? = w.heap[j]?:=fun j hj=>by
    simp[w',Ne.symm hj]
   have RH:w'.heap[r]? = some (.stringIter b (p+(Utf8.decode b p).2)):=by
    simp[w',Uj]
   have PZ:w'.heap.size=w.heap.size:=by simp[w']
   have ZY:∀ F:Nat→Prop,lQ w w' F F:=fun F ad u hf hu=>by
    have P3:ad.block≠r:=fun e=>by
     unfold World.cell? at hu;rw[e,hr] at hu;cases hu
    exact⟨by rw[World.cell?_of_block (Qj _ P3)];exact hu,hf⟩
   have h':aL C σ { s with env:=vZ k b (p+(Utf8.decode b p).2) s.env } a w':=by
    refine⟨h.mD,h.tm,h.os,h.tape,h.output,by rw[PZ];exact h.size,?_,?_,?_,h.inj,h.nx,h.gy,h.low,h.new⟩
    ·intro j hj1 X4;rw[Qj j (fun e=>?_)]
     ·exact h.frame j hj1 X4
     ·subst e;rcases h.new k B j hk0 hB hb with n4 | n4
      ·exact X4 n4
      ·omega
    ·intro t c hc;obtain⟨d,Qk,rfl⟩:=qW _ _ _ hc;obtain⟨v,k1,k2⟩:=h.env t d Qk;refine⟨v,k1,?_⟩;by_cases hi:uj k d=true
     ·rw[if_pos hi];cases d<;>simp only[uj,Bool.false_eq_true] at hi;rename_i k' b' p';have:k'=k:=by simpa using hi
      subst this;simp only[VR] at k2 ⊢;obtain⟨B2,r2,q1,q2,q3,q4,q5⟩:=k2;rw[hB] at q1;cases q1;rw[hb] at q2;cases q2;exact⟨B,r,hB,hb,q3,RH,q5⟩
     ·rw[if_neg hi];rcases P9.1 _ (bp _ _ _ Qk) with (q | q) | q
      ·exact VR.mv (ZY _) _ _ q k2
      ·exact absurd q hi
      ·cases d<;>simp only[K3,Bool.false_eq_true] at q;simp only[VR] at k2 ⊢;obtain⟨B2,r2,arr,clock,q1,q2,q3,q4,q5,q6,q7⟩:=k2;have P3:r2≠r:=fun e=>by rw[e,hr] at q4;cases q4
       exact⟨B2,r2,arr,clock,q1,q2,q3,by rw[Qj r2 P3];exact q4,q5,q6,q7⟩
    ·intro q y hq;obtain⟨B2,m1,m2,m3,m4,m5⟩:=h.obj q y hq;refine⟨B2,m1,m2,m3,m4,fun b2 Re=>?_⟩;obtain⟨Ue,q1,q2,q3,q4,q5,q6⟩:=m5 b2 Re;have P3:b2≠r:=fun e=>by subst e;rw[hr] at q1;cases q1
     exact⟨Ue,by rw[Qj b2 P3];exact q1,q2,q3,q4,q5,aN.mv (ZY _) _ _ (P9.2 _ (bp _ _ _ hq)) q6⟩
   refine⟨w',.inl ⟨.tuple #[.bool true,goInt p,.int .i32 (Utf8.decode b p).1],?_,eN hd h' ?_⟩⟩
   ·simp[execOp,ho,hv,Instr.next,getObj,setObj,Sem.run,RK,PQ,w']
   ·simp only[VR,aN];exact⟨[_,_,_],rfl,_,_,rfl,rfl,_,_,rfl,rfl,_,_,rfl,rfl,rfl⟩
  ·cases hs
 ·rename_i SE;cases hs;refine⟨w,.inl ⟨.tuple #[.bool false],?_,eN hd h ?_⟩⟩
  ·simp[execOp,ho,hv,Instr.next,getObj,Sem.run,RK,SE]
  ·simp only[VR,aN];exact⟨[_],rfl,_,_,rfl,rfl,rfl⟩
end
section
variable {P:Program}{C:Cx}{s:St}{ops:Array Oper}{au:List (Nat×TI)}
def DF (au:List (Nat×TI))(s:St)(d:Option Tmp)(x y:Operand)(t it:TypeId):Option St:=
 match dq au t,dq au it,ev s x,ev s y with
 | some (.sl e),some (.int .i64),some (.bj p 0 n),some (.int .i64 mi)=>match assoc au e,assoc s.heap p with
  | some ie,some ob=>if 0<ie.size∧0<ie.bytes∧ob.elem=e∧ob.sz=ie.size∧n*ie.size=ob.cells.length∧(n+mi.toNat)*ie.bytes≤140737488355328∧0<mi then some (AppZ s d p n mi.toNat ob ie.zero) else none
  | _,_=>none
 | _,_,_,_=>none
theorem AB (ht:aB P au){o:Oper}{cl:Call}{t it:TypeId}{x y:Operand}{s':St}(hd:aZ C.nt o.dst=true)(ho:o.op=.call cl)(PX:cl.callee=.builtin .append)(PT:cl.args=#[x,y])(Rg:cl.argTypes=#[t,it])(h:DF au s o.dst x y t it=some s'):q8 P C o s s':=by
 unfold DF at h;split at h
 ·rename_i e p n mi h1 h2 h3 h4;split at h
  ·rename_i ie ob h5 h6;split at h
   ·rename_i hc;cases h;obtain⟨c1,c2,c3,c4,c5,c6,c7⟩:=hc;obtain⟨ii,Qm,Q6⟩:=Option.map_eq_some_iff.1 h2;have hm:((mi.toNat:Nat):Int)=mi:=by omega
    intro a w hr;obtain⟨z,w',s',k1,k2,k3⟩:=KA (P:=P) (C:=C) (s:=s) ht (m:=mi.toNat) hd ho PX PT Rg h1 h5 Qm Q6 h3 (by rw[hm];exact h4) h6 c1 c2 c3 c4 c5 c6 yA rfl a w hr;cases k2;exact⟨w',.inl ⟨z,k1,k3⟩⟩
   ·cases h
  ·cases h
 ·cases h
def Nj (au:List (Nat×TI))(s:St)(o:Oper)(x y:Operand)(t it:TypeId):Option St:=
 match DF au s o.dst x y t it with
 | some s'=>some s'
 | none=>match x,ev s x with
  | .tmp tx,some .ai=>match dq au t with
   | some (.sl e)=>match assoc au e with
    | some ie=>match assoc s.env tx with
     | some .ai=>DF au (s.own tx e ie.size) o.dst x y t it
     | _=>none
    | none=>none
   | _=>none
  | _,some (.bj p _ n)=>match assoc s.heap p with
   | some ob=>me au (s.cut p ob (n*ob.sz)) o
   | none=>none
  | _,_=>none
theorem Kz (ht:aB P au){o:Oper}{cl:Call}{t it:TypeId}{x y:Operand}{s':St}(hd:aZ C.nt o.dst=true)(ho:o.op=.call cl)(PX:cl.callee=.builtin .append)(PT:cl.args=#[x,y])(Rg:cl.argTypes=#[t,it])(h:Nj au s o x y t it=some s'):q8 P C o s s':=by
 unfold Nj at h;split at h
 ·rename_i s1 h1;cases h;exact AB ht hd ho PX PT Rg h1
 ·split at h
  ·rename_i tx _ hx;split at h
   ·rename_i e h1;split at h
    ·rename_i ie h2;split at h
     ·rename_i h3;exact q8.le (Le.own tx e ie.size h3) (AB ht hd ho PX PT Rg h)
     ·cases h
    ·cases h
   ·cases h
  ·rename_i p _ n _ hx;split at h
   ·rename_i ob h1;exact q8.le (Le.cut _ h1) (q8.JL ht hd h)
   ·cases h
  ·cases h
def Cp (n0:Nat)(au:List (Nat×TI))(s:St)(o:Oper):Option St:=
 match o.op with
 | .convert t u x=>match pE au s t u x with
  | some c=>some (s.put o.dst c)
  | none=>match ev s x,dq au t,dq au u with
   | some (.str b),some .str,some (.sl e)=>match dq au e with
    | some (.int .u8)=>if b.size≤1000000 then some (s.put o.dst (.az (oD b) b.size)) else none
    | _=>none
   | some (.bj p off n),some (.sl e),_=>if t=u∧0<n then match dq au e,assoc s.heap p with
     | some (.int .u8),some ob=>if trees ob.cells=true then some (K6 s p ob o.dst off n) else none
     | _,_=>none
    else none
   | _,_,_=>none
 | .makeInterface t x=>match ev s x,dq au t with
  | some _,some .Ml=>none
  | some c,some _=>some (s.put o.dst (.iface t [c]))
  | _,_=>none
 | .makeMap _ none=>some (St.put ⟨s.env,s.heap,s.nx+1⟩ o.dst (.mp s.nx []))
 | .range t x=>match ev s x,dq au t with
  | some (.str b),some .str=>some (St.put ⟨s.env,s.heap,s.nx+1⟩ o.dst (.iter s.nx b 0))
  | _,_=>none
 | .next x true=>match ev s x with
  | some (.iter k b p)=>if n0≤k then Ie s o.dst k b p else none
  | _=>none
 | .call cl=>match cl.callee with
  | .builtin .append=>match cl.args.toList,cl.argTypes.toList with
   | [x,y],[t,it]=>Nj au s o x y t it
   | _,_=>none
  | .builtin .cap=>match cl.args.toList,cl.argTypes.toList with
   | [x],[t]=>match ev s x,dq au t with
    | some .ai,some (.sl _)=>some (s.put o.dst (.int .i64 0))
    | _,_=>none
   | _,_=>none
  | _=>none
 | _=>none
theorem yP (ht:aB P au){o:Oper}{s':St}(hd:aZ C.nt o.dst=true)(h:Cp C.n0 au s o=some s'):q8 P C o s s':=by
 have Xq:∀ {α:Type} {x:Array α} {l:List α},x.toList=l→x=l.toArray:=fun {α x l} e=>by rw[← e]
 unfold Cp at h;split at h
 ·rename_i t u x ho;split at h
  ·rename_i c hc;cases h;rintro a w ⟨σ,hr⟩;obtain⟨z,k1,k2⟩:=Aw ht hr hc;exact⟨w,.inl ⟨z,by simp[execOp,ho,k1],eN hd hr k2⟩⟩
  ·split at h
   ·rename_i b e hx h1 h2;split at h
    ·rename_i h3;split at h
     ·rename_i hm;cases h;exact xy ht hd ho hx h1 h2 h3 hm
     ·cases h
    ·cases h
   ·rename_i p off n e _ hx h1;split at h
    ·rename_i hc;obtain⟨rfl,hn⟩:=hc;split at h
     ·rename_i ob h3 h4;split at h
      ·rename_i h5;cases h;exact JW ht hd ho hx hn h1 h3 h4 h5
      ·cases h
     ·cases h
    ·cases h
   ·cases h
 ·rename_i t x ho;split at h
  ·cases h
  ·rename_i c d hn hx h1;cases h;exact gF ht hd ho hx h1 (fun e=>hn e)
  ·cases h
 ·rename_i t ho;cases h;exact Mw hd ho
 ·rename_i t x ho;split at h
  ·rename_i b hx h1;cases h;exact GM ht hd ho hx h1
  ·cases h
 ·rename_i x ho;split at h
  ·rename_i k b p hx;split at h
   ·rename_i hk;exact cu hd ho hx hk h
   ·cases h
  ·cases h
 ·rename_i cl ho;split at h
  ·rename_i PX;split at h
   ·rename_i x y t it ha Rg;exact Kz ht hd ho PX (Xq ha) (Xq Rg) h
   ·cases h
  ·rename_i PX;split at h
   ·rename_i x t ha Rg;split at h
    ·rename_i e hx h1;cases h;exact Ng ht hd ho PX (Xq ha) (Xq Rg) hx h1
    ·cases h
   ·cases h
  ·cases h
 ·cases h
end
def cc (o:Oper):Option Call:=match o.op with
 | .call c=>match c.callee with
  | .builtin _=>none
  | _=>some c
 | _=>none
theorem fZ {o:Oper}{c:Call}(h:cc o=some c):o.op=.call c:=by
 unfold cc at h;split at h
 ·rename_i c' P0;split at h
  ·cases h
  ·cases h;exact P0
 ·cases h
abbrev fe:=FuncId→List CV→List (Nat×Ob)→Nat→Option (CV×List (Nat×Ob)×Nat)
section
variable {P:Program}{C:Cx}{s:St}{au:List (Nat×TI)}{ops:Array Oper}{call:fe}
def fO (P:Program)(au:List (Nat×TI))(call:fe):Prop:=∀ g cs H n x H' n',call g cs H n=some (x,H',n')→Body P au g cs H n fun r s'=>r=x∧s'.heap=H'∧s'.nx=n'
theorem TL.again {id:Nat}{l:List Oper}{s':St}(h:TL P C l.toArray l s fun x=>x=s'):T P C (.region id l.toArray false) s fun e x=>e=.normal∧x=s':=
 T.region fun a w Q hr hQ=>h a w Q hr fun x a' w' hx Qo=>hQ x a' w' ⟨rfl,hx⟩ Qo
end
def uf (g:CV→Option CV):List CV→Option (List CV)
 | []=>some []
 | c::cs=>match g c with
  | some d=>match uf g cs with
   | some ds=>some (d::ds)
   | none=>none
  | none=>none
def deep (H:List (Nat×Ob)):Nat→CV→Option CV
 | 0,_=>none
 | f+1,c=>if tree c then some c else match c with
  | .bj o off n=>match assoc H o with
   | some ob=>match (if trees ob.cells then some ob.cells else uf (deep H f) ob.cells) with
    | some cells=>some (.az ((cells.drop off).take (n*ob.sz)) n)
    | none=>none
   | none=>none
  | .av o off=>match assoc H o with
   | some ob=>match (if trees ob.cells then some ob.cells else uf (deep H f) ob.cells) with
    | some cells=>some (.cA (cells.drop off))
    | none=>none
   | none=>none
  | .agg cs=>match uf (deep H f) cs with
   | some ds=>some (.agg ds)
   | none=>none
  | .iface t cs=>match uf (deep H f) cs with
   | some ds=>some (.iface t ds)
   | none=>none
  | .fn g cs=>match uf (deep H f) cs with
   | some ds=>some (.fn g ds)
   | none=>none
  | .dH cs=>match uf (deep H f) cs with
   | some ds=>some (.dH ds)
   | none=>none
  | _=>none
section
variable {P:Program}{C:Cx}{σ:Nat→Option OB}{s:St}{a:Act}{w:World}{ops:Array Oper}{au:List (Nat×TI)}
theorem nc {F F':Nat→Prop}{g:CV→Option CV}(hg:∀ c d v,g c=some d→VR w F σ c v→ch w F' d v∧one d=one c):∀ (cs ds:List CV) (vs:List Value),uf g cs=some ds→aN w F σ cs vs→bP w F' ds vs∧ds.all one=cs.all one
 | [],ds,vs,h,hv=>by
  simp only[uf] at h;cases h;exact⟨by simpa [aN,bP] using hv,rfl⟩
 | c::cs,ds,vs,h,hv=>by
  simp only[uf] at h;split at h
  ·rename_i d h1;split at h
   ·rename_i ds' h2;cases h;simp only[aN,bP] at hv ⊢;obtain⟨v,r,e,k1,k2⟩:=hv;obtain⟨q1,q2⟩:=hg c d v h1 k1;obtain⟨q3,q4⟩:=nc hg cs ds' r h2 k2;exact⟨⟨v,r,e,q1,q3⟩,by simp only[List.all_cons,q2,q4]⟩
   ·cases h
  ·cases h
theorem Dr (h:aL C σ s a w):∀ (f:Nat) (c d:CV) (v:Value),deep s.heap f c=some d→VR w (FB C σ s.heap) σ c v→ch w C.F d v∧one d=one c
 | 0,_,_,_,h,_=>by simp[deep] at h
 | f+1,c,d,v,hd,hv=>by
  have ih:=Dr h f;have hk:lQ w w (FB C σ s.heap) C.F:=fun ad u hf hu=>⟨hu,fun hF=>hf (.inl hF)⟩;have obj:∀ {o ob B b cells},assoc s.heap o=some ob→σ o=some B→B.iQ=some b→(if trees ob.cells then some ob.cells else uf (deep s.heap f) ob.cells)=some cells→∀ k,fN w C.F (cells.drop k) ⟨b,k,none⟩:=fun {o ob B b cells} ho hB hb ht k=>by
   obtain⟨B',e1,_,_,e4,e5⟩:=h.obj o ob ho;rw[hB] at e1;cases e1;obtain⟨cur,k1,k2,k3,k4,k5,k6⟩:=e5 b hb;have h1:bP w C.F cells (cur.toList.take ob.cells.length)∧cells.all one=true:=by
    split at ht
    ·rename_i RQ;cases ht;exact⟨bP.bg hk _ _ (aN.dG _ _ RQ k6),e4⟩
    ·obtain⟨q1,q2⟩:=nc ih _ _ _ ht k6;exact⟨q1,q2.trans e4⟩
   have hl:cells.length=ob.cells.length:=by
    rw[← bP.length _ _ h1.1,aN.length _ _ k6]
   have h2:fN w C.F cells ⟨b,0,none⟩:=fw _ _ _ h1.1 h1.2 k3 fun j u hu=>by
    rw[add_lit,Nat.zero_add,cell_of_row w b j cur _ _ k1];rw[List.getElem?_take] at hu;split at hu
    ·simpa using hu
    ·cases hu
   have:=h2.drop k;rwa [add_lit,Nat.zero_add] at this
  simp only[deep] at hd;split at hd
  ·rename_i ht;cases hd;exact⟨ch.bg hk _ _ (VR.dG _ _ ht hv),rfl⟩
  ·split at hd
   ·rename_i o off n _;split at hd
    ·rename_i ob ho;split at hd
     ·rename_i cells hc;cases hd;refine⟨?_,rfl⟩;simp only[VR] at hv;obtain⟨B,hB,hv⟩:=hv;split at hv
      ·obtain⟨rfl,rfl,rfl⟩:=hv;simp only[ch];exact⟨none,0,rfl,Nat.le_refl _,Nat.zero_le _,.inl ⟨trivial,by simp⟩⟩
      ·rename_i b hb;obtain⟨cap,rfl,h1,h2,_⟩:=hv;simp only[ch];exact⟨_,cap,rfl,h1,h2,.inr ⟨_,rfl,fN.take _ _ _ (obj ho hB hb hc off)⟩⟩
     ·cases hd
    ·cases hd
   ·rename_i o off _;split at hd
    ·rename_i ob ho;split at hd
     ·rename_i cells hc;cases hd;refine⟨?_,rfl⟩;simp only[VR] at hv;obtain⟨B,b,hB,hb,rfl⟩:=hv;simp only[ch];exact⟨_,rfl,obj ho hB hb hc off⟩
     ·cases hd
    ·cases hd
   ·rename_i cs;split at hd
    ·rename_i ds Yf;cases hd;simp only[VR] at hv;obtain⟨vs,e,r,h1⟩:=hv;obtain⟨q1,q2⟩:=nc ih _ _ _ Yf r;simp only[ch];exact⟨⟨vs,e,q1,q2.trans h1⟩,rfl⟩
    ·cases hd
   ·rename_i t cs;split at hd
    ·rename_i ds Yf;cases hd;simp only[VR] at hv;obtain⟨vs,e,r⟩:=hv;obtain⟨q1,q2⟩:=nc ih _ _ _ Yf r;simp only[ch];exact⟨⟨vs,e,q1⟩,rfl⟩
    ·cases hd
   ·rename_i g cs;split at hd
    ·rename_i ds Yf;cases hd;simp only[VR] at hv;obtain⟨vs,e,r⟩:=hv;obtain⟨q1,q2⟩:=nc ih _ _ _ Yf r;simp only[ch];exact⟨⟨vs,e,q1⟩,rfl⟩
    ·cases hd
   ·rename_i cs;split at hd
    ·rename_i ds Yf;cases hd;simp only[VR] at hv;obtain⟨vs,e,r⟩:=hv;obtain⟨q1,q2⟩:=nc ih _ _ _ Yf r;simp only[ch];exact⟨⟨vs,e,q1⟩,rfl⟩
    ·cases hd
   ·cases hd
def doneD (au:List (Nat×TI))(f:Func)(r:CV):Exit→St→Prop
 | .normal,s=>∃ r0 k,bD au f s=some r0∧deep s.heap k r0=some r
 | .ret,s=>∃ r0 k,bD au f s=some r0∧deep s.heap k r0=some r
 | _,_=>False
theorem ae.JM (Se : aB P au) {f : FuncId} {fn : Func} {c : Code} {args : List CV} {r : CV} (hf : P.funcs[f]? = some fn) (hb : fn.body = some c) (hn : (fn.name == "runtime.NumGoroutine") = false)
  (ha:args.length≤fn.ntmps) (h:∀ C:Cx,C.nt=fn.ntmps→C.n0=0→T P C c (enter args) (doneD au fn r)):ae P f args r:=by
 refine⟨⟨fn,hf,hn,by simp[hb]⟩,fun F vs w hF hv=>?_⟩;have hl:=bP.length _ _ hv;let C:Cx:=⟨w,F,fun _=>False,hF,fn.ntmps,fun _=>none,0⟩
 have h0:aL C (fun _=>none) (enter args) { tmps:=vs.toArray++Array.replicate (fn.ntmps-vs.toArray.size) undef,defers:=[] } w:=by
  refine⟨rfl,by simp[C];omega,rfl,rfl,rfl,Nat.le_refl _,fun _ _ _=>rfl,?_,?_,?_,fun _ _=>rfl,fun _ h=>absurd h (Nat.not_lt_zero _),Nat.zero_le _,fun _ _ _ _ h=>by cases h⟩
  ·intro t c hc;obtain⟨_,h2⟩:=eI args 0 t c hc;obtain⟨v,h3,h4⟩:=bP.get _ _ hv t c (by simpa using h2);refine⟨v,?_,VR.cm _ _ (ch.bg (ck.same fun b hb=>?_).1 c v h4)⟩
   ·have PQ:=(List.getElem?_eq_some_iff.1 h3).1;simp only;rw[Array.getElem?_append_left (by simpa using PQ)]
    simpa using h3
   ·rcases hb with hF | ⟨o,ob,ho,_⟩
    ·exact hF
    ·simp[enter,assoc] at ho
  ·intro o ob ho;simp[enter,assoc] at ho
  ·intro o o' ob P6 b ho;simp[enter,assoc] at ho
 refine calls_of_wp hf hb (wp_mono (h C rfl rfl _ _ ⟨_,h0⟩) fun e a' w' ⟨s',q,σ,hr⟩=>?_);have fin:(∃ r0 k,bD au fn s'=some r0∧deep s'.heap k r0=some r)→a'.defers=[]∧∃ v,(results fn a'.tmps).run P w'=.ok v w'∧(∃ Tf,Ending.returned v=.returned Tf∧Below w.heap.size w w'∧ch w' F r Tf):=fun⟨r0,k,hq,hd⟩=>by
  obtain⟨v,k1,k2⟩:=gr (P:=P) Se hr hq;exact⟨hr.mD,v,k1,v,rfl,⟨hr.os,hr.tape,hr.output,hr.size,fun k hk=>hr.frame k hk (fun hx=>hx)⟩,(Dr hr _ _ _ _ hd k2).1⟩
 cases e with
 | normal=>exact fin q
 | ret=>exact fin q
 | exit _=>exact q.elim
 | goto _=>exact q.elim
 | panic _=>exact q.elim
 | outgrown=>exact q.elim
def nw (P:Program)(C:Cx)(s:St)(o:Oper)(g:FuncId)(cs:List CV):Prop:=
 ∀ σ a w,aL C σ s a w→∃ vs:List Value,(execOp a.eval o).run P w=.ok (.enter g vs.toArray) w∧aN w (FB C σ s.heap) σ cs vs
theorem nw.value {o:Oper}{c:Call}{g:FuncId}{cs:List CV}(ho:o.op=.call c)(Qb:bl s c=some (g,cs))(he:Enters P g):nw P C s o g cs:=by
 intro σ a w hr;obtain⟨fn,h1,h2,h3⟩:=he;unfold bl at Qb;split at Qb
 ·rename_i f R4;split at Qb
  ·rename_i g' Rk Rs hfe Ql;cases Qb;have YJ:=bL hr hfe;simp only[VR] at YJ;obtain⟨us,e,hu⟩:=YJ;have PT:=oB hr _ _ Ql;refine⟨c.args.toList.map a.eval++us,?_,aN.append _ _ _ _ PT hu⟩;have e2:(c.args.toList.map a.eval).toArray=c.args.map a.eval:=by rw[← List.map_toArray]
   simp only[execOp,ho,resolve,R4,e,Deferred.ofValue,Sem.run_bind,Sem.run_pure,Result.andThen_ok,invoke,callFunc,run_program,h1,h2,h3,Bool.false_eq_true,if_false];rw[← e2];simp
  ·cases Qb
 ·cases Qb
structure yH (P:Program)(t:TypeId)(name:String)(g:FuncId):Prop where
 row:∃ i m,P.info? t=some i∧i.methods.find? (·.name == name)=some m∧m.path.toList=[]∧m.path.isEmpty=true∧m.func=some (g,false)
 AM:∃ d,P.underlying t=some d∧∀ e,d≠.pointer e
abbrev gL:=List ((Nat×String)×FuncId)
def iz (P:Program)(mt:gL):Prop:=∀ x∈mt,yH P x.1.1 x.1.2 x.2
def wu:gL→Nat→String→Option FuncId
 | [],_,_=>none
 | ((t,n),g)::r,u,m=>if t=u∧n=m then some g else wu r u m
theorem wg:∀ (mt:gL) (u:Nat) (m:String) (g:FuncId),wu mt u m=some g→((u,m),g)∈mt
 | [],_,_,_,h=>by simp[wu] at h
 | ((t,n),g')::r,u,m,g,h=>by
  simp only[wu] at h;split at h
  ·rename_i e;obtain⟨rfl,rfl⟩:=e;cases h;exact List.mem_cons_self
  ·exact List.mem_cons_of_mem _ (wg r u m g h)
def ig (mt:gL)(s:St)(c:Call):Option (FuncId×List CV):=match c.callee with
 | .value _=>bl s c
 | .invoke r name=>match ev s r,yN s c.args.toList with
  | some (.iface t [x]),some cs=>match wu mt t name with
   | some g=>some (g,x::cs)
   | none=>none
  | _,_=>none
 | _=>none
theorem Bm {t:TypeId}{name:String}{g:FuncId}(h:yH P t name g)(v:Value)(n:Nat)(w:World):(method (n+1) t v name).run P w=.ok (g,v) w:=by
 obtain⟨⟨i,m,h1,h2,h3,h4,h5⟩,d,h6,h7⟩:=h;unfold method;simp only[Sem.run_bind,s7 h1,Result.andThen_ok,h2,h3,follow,Sem.run_pure,h5,receiverAt,bu h6,Place.get]
theorem nw.to {mt:gL}(UW:iz P mt){o:Oper}{c:Call}{g:FuncId}{cs:List CV}(ho:o.op=.call c)(Qb:ig mt s c=some (g,cs))(he:Enters P g):nw P C s o g cs:=by
 unfold ig at Qb;split at Qb
 ·exact nw.value ho Qb he
 ·rename_i r name R4;split at Qb
  ·rename_i t x Rs hr Ql;split at Qb
   ·rename_i g' hm;cases Qb;intro σ a w h;obtain⟨fn,h1,h2,h3⟩:=he;have hv:=bL h hr;simp only[VR,aN] at hv;obtain⟨vs,e,v,r',rfl,hv,rfl⟩:=hv;simp only[ifv] at e;have PT:=oB h _ _ Ql;refine⟨v::c.args.toList.map a.eval,?_,by simp only[aN];exact⟨v,_,rfl,hv,PT⟩⟩;have e2:(c.args.toList.map a.eval).toArray=c.args.map a.eval:=by rw[← List.map_toArray]
    have ZP:=Bm (UW _ (wg _ _ _ _ hm)) v (P.types.size+99) w;have hme':(method (P.types.size+Made.depth) t v name).run P w=.ok (g,v) w:=ZP;have hex:(#[Value.iface t v]++c.args.map a.eval)[0]? = some (Value.iface t v):=by rw[Array.getElem?_append_left zX];rfl
    have hex2:(#[Value.iface t v]++c.args.map a.eval).extract 1 (#[Value.iface t v]++c.args.map a.eval).size=c.args.map a.eval:=by
     apply Array.ext';simp[List.take_of_length_le]
    simp only[execOp,ho,resolve,R4,e,Sem.run_bind,Sem.run_pure,Result.andThen_ok,invoke,hex,hex2,callMethod,run_program,hme',callFunc,h1,h2,h3,Bool.false_eq_true,if_false];rw[← e2];simp
   ·cases Qb
  ·cases Qb
 ·cases Qb
theorem dw {o:Oper}(hr:Rel C s a w)(hg:bN ops s o=some true):Region.wanted o (yielded ops a.tmps)=true:=by
 unfold bN at hg;split at hg
 ·rename_i e;simp[Region.wanted,e]
 ·rename_i j want e;split at hg
  ·cases hg
  rename_i t hj;exact kI hr e hj hg
theorem callE (Se:aB P au){o:Oper}{l:List Oper}{g:FuncId}{cs:List CV}{K:St→Prop}{R:CV→St→Prop}(hd:aZ C.nt o.dst=true)(hg:bN ops s o=some true)(he:nw P C s o g cs)(hb:Body P au g cs s.heap s.nx R)
  (hK:∀ r s',R r s'→TL P C ops l (St.put ⟨s.env,s'.heap,s'.nx⟩ o.dst r) K):TL P C ops (o::l) s K:=by
 intro a w Q hr hQ;have hw:=dw (ops:=ops) hr hg;obtain⟨σ,hr⟩:=hr;unfold wpList;rw[if_pos hw];refine .inl ?_;obtain⟨fn,code,hf,Q9,hn,hlen,hT⟩:=hb;obtain⟨vs,U6,Qs⟩:=he σ a w hr;have hF:∀ b,C.F b→b<w.heap.size:=fun b hb=>Nat.lt_of_lt_of_le (C.hF b hb) hr.size;have h0:=hr.inner hF fn.ntmps Qs hlen;have Uc:Calls P g vs.toArray w fun e w'=>∃ v r s',e=.returned v∧R r s'∧∃ σ',aL C σ' ⟨s.env,s'.heap,s'.nx⟩ a w'∧VR w' (FB C σ' s'.heap) σ' r v:=by
  refine calls_of_wp hf Q9 (wp_mono (hT (C.inner w σ s.heap fn.ntmps hF s.nx) rfl rfl _ _ ⟨_,h0⟩) fun e a' w' ⟨s1,q,σ1,QG⟩=>?_);have fin:aa (C.inner w σ s.heap fn.ntmps hF s.nx) (fun s'=>∃ r,bD au fn s'=some r∧R r s') s1→a'.defers=[]∧∃ v,(results fn a'.tmps).run P w'=.ok v w'∧(∃ Tf r s',Ending.returned v=.returned Tf∧R r s'∧∃ σ',aL C σ' ⟨s.env,s'.heap,s'.nx⟩ a w'∧VR w' (FB C σ' s'.heap) σ' r Tf):=fun⟨s2,⟨r,q1,q2⟩,hl⟩=>by
   obtain⟨σ2,Qg⟩:=hl _ _ ⟨σ1,QG⟩;obtain⟨v,k1,k2⟩:=gr (P:=P) Se Qg q1;exact⟨Qg.mD,v,k1,v,r,s2,rfl,q2,σ2,hr.back Qg,k2⟩
  cases e with
  | normal=>exact fin q
  | ret=>exact fin q
  | exit _=>exact q.elim
  | goto _=>exact q.elim
  | panic _=>exact q.elim
  | outgrown=>exact q.elim
 unfold Oper.wp;rw[U6];refine Uc.mono fun e w' ⟨v,r,s',he,hR,σ',Qo,hv⟩=>?_;subst he;refine hK r s' hR _ w' Q ⟨σ',Qo.put ?_ hv⟩ hQ;intro t e;rw[Qo.tm];rw[e] at hd
 simpa [aZ] using hd
theorem CJ {o:Oper}{g:FuncId}{cs:List CV}{r:CV}(he:nw P C s o g cs)(ht:trees cs=true)(hp:ae P g cs r)(h:aL C σ s a w)(K:Act→World→Prop)(Q:Exit→Act→World→Prop)
  (hK:∀ v w',aL C σ s a w'→VR w' (FB C σ s.heap) σ r v→K (a.put o.dst v) w'):o.wp P a w K Q:=by
 obtain⟨vs,U6,Qs⟩:=he σ a w h;unfold Oper.wp;rw[U6];refine (hp.2 (FB C σ s.heap) _ w (uV h) (aN.dG _ _ ht Qs)).mono fun e w' ⟨v,he,hb,hv⟩=>?_;subst he;exact hK v w' (h.below hb) (VR.cm _ _ hv)
theorem KT {o:Oper}{l:List Oper}{g:FuncId}{cs:List CV}{r:CV}{K:St→Prop}(hd:aZ C.nt o.dst=true)(hg:bN ops s o=some true)(he:nw P C s o g cs)(ht:trees cs=true)(hp:ae P g cs r)(h:TL P C ops l (s.put o.dst r) K):TL P C ops (o::l) s K:=by
 intro a w Q hr hQ;have hw:=dw (ops:=ops) hr hg;obtain⟨σ,hr⟩:=hr;unfold wpList;rw[if_pos hw];refine .inl (CJ he ht hp hr _ _ fun v w' Qo hv=>h _ _ Q (eN hd Qo hv) hQ)
end
end Go.Can
