/- Further operations: conversions, interfaces, maps that are o -/
import Derived.Test.YtlkmbdfhdknlgaaGreatDoorZ06
import Derived.Laws.IdiomStrings
namespace Go.Can
open Go.RowKit
section
variable {P:Program}{C:Cx}{σ:Nat→Option OB}{s:St}{a:Act}{w:World}{ops:Array Oper}{av:List (Nat×TI)}
def sR (P:Program)(C:Cx)(o:Oper)(s s':St):Prop:=∀ a w,Rel C s a w →
 ∃ w',((∃ z,(execOp a.eval o).run P w=.ok (.value z) w'∧Rel C s' (a.put o.dst z) w')∨((execOp a.eval o).run P w=.ok .skip w'∧Rel C s' (a.put o.dst undef) w'))
theorem sR.le {o:Oper}{s1 s':St}(hl:Le C s s1)(h:sR P C o s1 s'):sR P C o s s':=fun a w hr=>h a w (hl a w hr)
theorem sR.JD (ht:aF P av){o:Oper}{s':St}(hd:bt C.nt o.dst=true)(h:mX av s o=some s'):sR P C o s s':=fun _ _ hr=>wM ht hr hd h
theorem kA {o:Oper}{l:List Oper}{K:St→Prop}{s':St}(hg:b9 ops s o=some true)(hx:sR P C o s s')(h:TL P C ops l s' K):TL P C ops (o::l) s K:=by
 intro a w Q hr hQ;have hw:Region.wanted o (yielded ops a.tmps)=true:=by
  unfold b9 at hg;split at hg
  ·rename_i e;simp[Region.wanted,e]
  ·rename_i j want e;split at hg
   ·cases hg
   rename_i t hj;exact lz hr e hj hg
 unfold wpList;rw[if_pos hw];refine .inl ?_;obtain⟨w',h1 | h1⟩:=hx a w hr
 ·obtain⟨z,k1,k2⟩:=h1;unfold Oper.wp;rw[k1];exact h _ _ Q k2 hQ
 ·obtain⟨k1,k2⟩:=h1;unfold Oper.wp;rw[k1];exact h _ _ Q k2 hQ
def bytesOf:List CV→Option (List UInt8)
 | []=>some []
 | .int .u8 n::r=>if 0≤n∧n<256 then (bytesOf r).map (UInt8.ofNat n.toNat :: ·) else none
 | _=>none
theorem vC {F:Nat→Prop}:∀ (cs:List CV) (l:List UInt8) (us:List Value),bytesOf cs=some l→aT w F σ cs us→us=l.map fun b=>Value.int .u8 (b.toNat:Int)
 | [],l,us,h,hr=>by
  simp only[bytesOf] at h;cases h
  simpa [aT] using hr
 | c::cs,l,us,h,hr=>by
  simp only[aT] at hr;obtain⟨v,r,rfl,h1,h2⟩:=hr;unfold bytesOf at h;split at h
  ·rename_i e;cases e
  ·rename_i n r' e;cases e;split at h
   ·rename_i hn;obtain⟨l',h3,rfl⟩:=Option.map_eq_some_iff.1 h;simp only[VR] at h1;subst h1;rw[vC cs l' r h3 h2];simp only[List.map_cons,List.cons.injEq,Value.int.injEq,true_and,and_true];have:(UInt8.ofNat n.toNat).toNat=n.toNat:=by
     have e:(UInt8.ofNat n.toNat).toNat=n.toNat % 256:=UInt8.toNat_ofNat';rw[e];omega
    rw[this];omega
   ·cases h
  ·cases h
def qM (av:List (Nat×TI))(s:St)(a b:TypeId)(x:Operand):Option CV:=
 match ev s x,dG av a,dG av b with
 | some (.int _ n),some _,some (.int k)=>some (.int k (k.wrap n))
 | some (.str v),some _,some .str=>some (.str v)
 | some c,some (.sl e),some .str=>match dG av e,cells? s c with
  | some (.int .u8),some (cs,m)=>if cs.length=m then (bytesOf cs).map fun l=>.str ⟨l.toArray⟩ else none
  | _,_=>none
 | _,_,_=>none
theorem eF (ht:aF P av){t:TypeId}{d:TD}(h:dG av t=some d):∃ i,assoc av t=some i∧i.d=d∧∃ u,P.underlying t=some u∧sT u=d:=by
 obtain⟨i,h1,h2⟩:=Option.map_eq_some_iff.1 h;obtain⟨u,h3,h4⟩:=(ht t i h1).Bw;exact⟨i,h1,h2,u,h3,h4.trans h2⟩
theorem tu {t:TypeId}{k:IntKind}(ht:aF P av)(h:dG av t=some (.int k)):P.underlying t=some (.int k):=by
 obtain⟨_,_,_,u,h1,h2⟩:=eF ht h;cases u<;>simp only[sT] at h2<;>first | cases h2 | skip
 exact h1
theorem Bi (ht:aF P av)(h:aK C σ s a w){t u:TypeId}{x:Operand}{c:CV}(hc:qM av s t u x=some c):∃ z,(convert t u (a.eval x)).run P w=.ok z w∧VR w (FB C σ s.heap) σ c z:=by
 unfold qM at hc;split at hc
 ·rename_i k0 n d k hx h1 h2;cases hc;have hv:=bO h hx;simp only[VR] at hv;obtain⟨_,_,_,ud,g1,_⟩:=eF ht h1;have g2:=tu ht h2;refine⟨.int k (k.wrap n),?_,dO _ _⟩;rw[hv];simp[convert,run_underlying g1,run_underlying g2,Conv.intToInt]
 ·rename_i v d hx h1 h2;cases hc;have hv:=bO h hx;simp only[VR] at hv;obtain⟨_,_,_,ud,g1,_⟩:=eF ht h1;obtain⟨i,i1,i2,_⟩:=eF ht h2;have g2:=lZ (ht u i i1) i2;refine⟨.string v,?_,zf _⟩;rw[hv];simp[convert,run_underlying g1,run_underlying g2]
 ·rename_i c' e _ hx h1 h2;split at hc
  ·rename_i cs m he OJ;split at hc
   ·rename_i hlen;obtain⟨l,hl,rfl⟩:=Option.map_eq_some_iff.1 hc;obtain⟨i1,a1,a2,_⟩:=eF ht h1;obtain⟨i2,b1,b2,_⟩:=eF ht h2;have g1:=dK (ht t i1 a1) a2;have g2:=lZ (ht u i2 b1) b2;have g3:=tu ht he;obtain⟨us,k1,_,k3⟩:=cells?_ok h (bO h hx) OJ;have T7:=vC _ _ _ hl k1;have Re:l.length=m:=by
     have:=aT.length _ _ k1;rw[T7,List.length_map] at this;omega
    refine⟨.string ⟨l.toArray⟩,?_,zf _⟩;rcases k3 with ⟨cp,e1,e2,e3⟩ | ⟨ad,cp,e1,e2⟩
    ·have:l=[]:=List.eq_nil_of_length_eq_zero yA;subst this;rw[e1,run_convert_bytes_string w t u e none 0 cp g1 g3 g2];rfl
    ·rw[e1];subst Re;refine run_convert_bytes_back w t u e ad cp l g1 g3 g2 fun j hj=>?_;refine e2 j _ ?_;rw[T7];simp[hj]
   ·cases hc
  ·cases hc
 ·cases hc
def pO (b:ByteArray):List CV:=b.data.toList.map fun x=>.int .u8 (x.toNat:Int)
theorem Fv {F:Nat→Prop}(b:ByteArray):bP w F (pO b) (b.data.toList.map fun x=>Value.int .u8 (x.toNat:Int))∧(pO b).all one=true:=by
 unfold pO;generalize b.data.toList=l
 induction l with
 | nil=>simp[bP]
 | cons x r ih=>
  simp only[List.map_cons,bP,List.all_cons,ih.2,Bool.and_true];exact⟨⟨_,_,rfl,by simp[bZ],ih.1⟩,rfl⟩
theorem fj {o:Oper}(hd:bt C.nt o.dst=true)(h:aK C σ s a w){c:CV}{v:Value}(hv:VR w (FB C σ s.heap) σ c v):Rel C (s.put o.dst c) (a.put o.dst v) w:=
 ⟨σ,h.put (fun t e=>by rw[h.tm];rw[e] at hd;simpa [bt] using hd) hv⟩
theorem x6 (ht:aF P av){o:Oper}{t u e:TypeId}{x:Operand}{b:ByteArray}(hd:bt C.nt o.dst=true)(ho:o.op=.convert t u x)(hx:ev s x=some (.str b))(h1:dG av t=some .str)(h2:dG av u=some (.sl e))(h3:dG av e=some (.int .u8))(hm:b.size≤1000000) :
  sR P C o s (s.put o.dst (.az (pO b) b.size)):=by
 rintro a w ⟨σ,h⟩;obtain⟨i1,a1,a2,_⟩:=eF ht h1;obtain⟨i2,b1,b2,_⟩:=eF ht h2;have g1:=lZ (ht t i1 a1) a2;have g2:=dK (ht u i2 b1) b2;have g3:=tu ht h3;have hv:=bO h hx;simp only[VR] at hv;have Pz:=run_bytes_of_string (P:=P) w t u e b g1 g2 g3;have hb:Below w.heap.size w (w.drew.alloc (.cells (bytesRow b (grownCap w b.size 0 e)) e ((bytesRow b (grownCap w b.size 0 e)).size,(bytesRow b (grownCap w b.size 0 e)).size+1))):=
  ⟨rfl,rfl,rfl,by simp,fun k hk=>heap_alloc_old w.drew _ k hk⟩
 have O6:(w.drew.alloc (.cells (bytesRow b (grownCap w b.size 0 e)) e ((bytesRow b (grownCap w b.size 0 e)).size,(bytesRow b (grownCap w b.size 0 e)).size+1))).heap[w.heap.size]? = some (.cells (bytesRow b (grownCap w b.size 0 e)) e ((bytesRow b (grownCap w b.size 0 e)).size,(bytesRow b (grownCap w b.size 0 e)).size+1)):=heap_alloc_new w.drew _;revert hb O6;generalize OU:(w.drew.alloc (.cells (bytesRow b (grownCap w b.size 0 e)) e ((bytesRow b (grownCap w b.size 0 e)).size,(bytesRow b (grownCap w b.size 0 e)).size+1)))=w';rw[OU] at Pz;intro hb O6;refine⟨w',.inl ⟨.slice (some ⟨w.heap.size,0,none⟩) b.size (grownCap w b.size 0 e),by simp[execOp,ho,hv,Pz],fj hd (h.below hb) ?_⟩⟩;obtain⟨k1,k2⟩:=Fv (w:=w') (F:=FB C σ s.heap) b;simp only[VR,bZ];have Rn:b.size≤grownCap w b.size 0 e:=grownCap_ge w b.size 0 e;refine⟨_,_,rfl,Rn,grownCap_le_maxLen w _ _ _ (by simp only[maxLen];omega),.inr ⟨_,rfl,?_⟩⟩;refine ia _ _ _ k1 k2 (fun hf=>?_) fun j v hj=>?_
 ·have:=Ee h _ hf;simp at this
 ·rw[add_lit,Nat.zero_add,cell_of_row w' _ _ _ _ _ O6];rw[List.getElem?_map] at hj;obtain⟨y,hy,rfl⟩:=Option.map_eq_some_iff.1 hj;have Oa:j<b.data.size:=by simpa using (List.getElem?_eq_some_iff.1 hy).1
  rw[bytesRow_at b _ j Oa];have:y=b.data[j]:=by
   have:=(List.getElem?_eq_some_iff.1 hy).2
   simpa using this.symm
  rw[this]
def HN (s:St)(o:Nat)(ob:Ob)(d:Option Tmp)(off n:Nat):St:=(s.cV o ob).put d (.az ((ob.cells.drop off).take (n*ob.sz)) n)
theorem Dx (ht:aF P av){o:Oper}{t e:TypeId}{x:Operand}{p off n:Nat}{ob:Ob}(hd:bt C.nt o.dst=true)(ho:o.op=.convert t t x)(hx:ev s x=some (.bp p off n))(hn:0<n)(h2:dG av t=some (.sl e))(h3:dG av e=some (.int .u8))
  (P7:assoc s.heap p=some ob) (Qh:trees ob.cells=true):sR P C o s (HN s p ob o.dst off n):=by
 rintro a w ⟨σ,h⟩;obtain⟨i2,b1,b2,_⟩:=eF ht h2;have g2:=dK (ht t i2 b1) b2;have g3:=tu ht h3;have hv:=bO h hx;have XK:=hv;simp only[VR] at hv;obtain⟨B,hB,hv⟩:=hv;obtain⟨B',e1,e2,e3,e4,e5⟩:=h.obj p ob P7;rw[hB] at e1;cases e1
 cases Px:B.jI with
 | none=>rw[Px] at hv;simp only at hv;omega
 | some b=>
  rw[Px] at hv;simp only at hv;obtain⟨cap,hv,c1,c2,c3,c4⟩:=hv;obtain⟨cur,n1,n2,n3,n4,n5,n6⟩:=e5 b Px;have Oa:=(Array.getElem?_eq_some_iff.1 n1).1;have Ws:w.shape? b=some (ob.elem,cur.size):=by unfold World.shape?;rw[n1]
  let w':World:=w.freeze ⟨b,cur.size,none⟩ 1
  have OU:w'.heap=w.heap.modify b (fun | .cells c elem (lo,hi)=>.cells c elem (if lo == hi then (cur.size,cur.size+1) else (min lo cur.size,max hi (cur.size+1))) | o=>o):=rfl;have OK:∀ k,k≠b→w'.heap[k]? = w.heap[k]?:=fun k hk=>by
   rw[OU,Array.getElem?_modify,if_neg (Ne.symm hk)]
  have P5:w'.heap[b]? = some (.cells cur ob.elem (cur.size,cur.size+1)):=by
   rw[OU,Array.getElem?_modify,if_pos rfl,n1];rfl
  have OW:∀ ad,w'.cell? ad=w.cell? ad:=fun ad=>by
   by_cases hk:ad.block=b
   ·unfold World.cell?;rw[hk,P5,n1]
   ·exact World.cell?_of_block (OK _ hk)
  have hk:∀ F:Nat→Prop,cz w w' F F:=fun F=>⟨fun ad u hf hu=>⟨by rw[OW];exact hu,hf⟩,fun r x hf hu hx=>by
   have Ok:r≠b:=fun e=>by subst e;rw[n1] at hu;cases hu;exact hx _ _ _ rfl
   exact⟨by rw[OK r Ok];exact hu,hf⟩⟩
  have h':=h.cV P7 Qh;have Y3:∀ q y,assoc (s.cV p ob).heap q=some y→aU σ q≠some b:=fun q y hq hb=>by
   obtain⟨Ok,z,hz,_⟩:=fJ _ _ _ hq;exact Ok (h.inj q p z ob b hz P7 hb (by simp[aU,hB,Px]))
  have Q4:aK C σ (s.cV p ob) a w':=by
   refine⟨h'.oA,h'.tm,h'.os,h'.tape,h'.output,?_,?_,?_,?_,h'.inj,h'.nx,h'.gO,h'.low,h'.new⟩
   ·rw[OU,Array.size_modify];exact h'.size
   ·intro k SK Ry;rw[OK k (fun e=>?_)]
    ·exact h'.frame k SK Ry
    ·subst e;rcases n4 with n4 | n4
     ·exact Ry n4
     ·omega
   ·intro t c hc;obtain⟨v,k1,k2⟩:=h'.env t c hc;exact⟨v,k1,VR.bl (hk _) c v (fun _ _=>rfl) k2⟩
   ·intro q y hq;obtain⟨B2,m1,m2,m3,m4,m5⟩:=h'.obj q y hq;refine⟨B2,m1,m2,m3,m4,fun b2 O2=>?_⟩;obtain⟨SO,q1,q2,q3,q4,q5,q6⟩:=m5 b2 O2;have Ok:b2≠b:=fun e=>Y3 q y hq (by simp[aU,m1,O2,e]);exact⟨SO,by rw[OK b2 Ok];exact q1,q2,q3,q4,q5,aT.bl (hk _) _ _ (fun _ _=>rfl) q6⟩
  have PI:VR w' (FB C σ (s.cV p ob).heap) σ (.az ((ob.cells.drop off).take (n*ob.sz)) n) (a.eval x):=by
   cases x with
   | tmp t=>
    have Qq:assoc (s.cV p ob).env t=some (.az ((ob.cells.drop off).take (n*ob.sz)) n):=by
     have O9:assoc s.env t=some (.bp p off n):=hx;have:∀ l:List (Nat×CV),assoc l t=some (.bp p off n)→assoc (wu p ob.cells ob.sz l) t=some (.az ((ob.cells.drop off).take (n*ob.sz)) n):=by
      intro l
      induction l with
      | nil=>intro h;cases h
      | cons y r ih=>
       obtain⟨k,c⟩:=y;intro hl;simp only[wu,assoc] at hl ⊢;split at hl
       ·rename_i e;cases hl;rw[if_pos e];simp[bQ]
       ·rename_i e;rw[if_neg e];exact ih hl
     exact this s.env O9
    obtain⟨v,k1,k2⟩:=Q4.env t _ Qq;have:a.eval (.tmp t)=v:=by simp[Act.eval,k1]
    rw[this];exact k2
   | const v=>exact absurd hx (by
     simp only[ev];intro hc;have:=pM (w:=w) (F:=fun _=>False) hc;simp[bZ] at this)
   | func f=>cases hx
   | global g=>
    simp only[ev,Option.bind_eq_some_iff,Option.map_eq_some_iff] at hx;obtain⟨_,_,_,_,h⟩:=hx;cases h
  have Pz:(execOp a.eval o).run P w=.ok (.value (a.eval x)) w':=by
   rw[hv];simp[execOp,ho,hv,convert,run_underlying g2,run_underlying g3,markStringish,Ws,w']
  exact⟨w',.inl ⟨_,Pz,fj hd Q4 PI⟩⟩
theorem gU (ht:aF P av){o:Oper}{t:TypeId}{x:Operand}{c:CV}{d:TD}(hd:bt C.nt o.dst=true)(ho:o.op=.makeInterface t x)(hx:ev s x=some c)(h1:dG av t=some d)(hn:d=.oth→False):sR P C o s (s.put o.dst (.iface t [c])):=by
 rintro a w ⟨σ,h⟩;obtain⟨i1,a1,a2,u,g1,g2⟩:=eF ht h1;have hv:=bO h hx;refine⟨w,.inl ⟨.iface t (a.eval x),?_,fj hd h ?_⟩⟩
 ·have hu:(underlying t).run P w=.ok u w:=bC g1 w;have:(Instr.makeInterface t (a.eval x)).run P w=.ok (.iface t (a.eval x)) w:=by
   unfold Instr.makeInterface;simp only[Sem.run_bind,hu,Result.andThen_ok];cases u<;>first | rfl | (exact absurd g2.symm hn)
  simp[execOp,ho,this]
 ·simp only[VR,aT];exact⟨[a.eval x],rfl,a.eval x,[],rfl,hv,rfl⟩
theorem MJ (ht:aF P av){o:Oper}{cl:Call}{t e:TypeId}{x:Operand}(hd:bt C.nt o.dst=true)(ho:o.op=.call cl)(Og:cl.callee=.builtin .cap)(Of:cl.args=#[x])(PJ:cl.argTypes=#[t])(hx:ev s x=some .aj)(h1:dG av t=some (.sl e)):sR P C o s (s.put o.dst (.int .i64 0)):=by
 rintro a w ⟨σ,h⟩;obtain⟨i1,a1,a2,_⟩:=eF ht h1;have g1:=dK (ht t i1 a1) a2;have hv:=bO h hx;simp only[VR] at hv;refine⟨w,.inl ⟨.int .i64 0,?_,fj hd h (dO _ _)⟩⟩;simp[execOp,ho,resolve,Og,Of,PJ,invoke,builtin,Builtin.cap_,run_underlying g1,hv,goInt]
theorem aK.C3 (h:aK C σ s a w)(x:Obj):aK C (sig σ s.nx ⟨some w.heap.size,0,0⟩) ⟨s.env,s.heap,s.nx+1⟩ a (w.alloc x)∧¬ FB C (sig σ s.nx ⟨some w.heap.size,0,0⟩) s.heap w.heap.size:=by
 have hn:σ s.nx=none:=h.nx s.nx (Nat.le_refl _);have hg:w.grownBy (w.alloc x) none:=nB _;have hold:∀ {p x},assoc s.heap p=some x→p≠s.nx:=fun {p x} hp e=>by
  subst e;obtain⟨B',e1,_⟩:=h.obj _ _ hp;rw[hn] at e1;cases e1
 have Tm:∀ {p},p≠s.nx→sig σ s.nx ⟨some w.heap.size,0,0⟩ p=σ p:=fun {p} hp=>by simp[sig,hp]
 have hF:∀ b',FB C (sig σ s.nx ⟨some w.heap.size,0,0⟩) s.heap b'→FB C σ s.heap b':=by
  rintro b' (hb | ⟨p,y,hp,hb⟩)
  ·exact .inl hb
  ·simp only[aU,Tm (hold hp)] at hb;exact .inr ⟨p,y,hp,hb⟩
 have hk:cz w (w.alloc x) (FB C σ s.heap) (FB C (sig σ s.nx ⟨some w.heap.size,0,0⟩) s.heap):=kr hg (fun b e=>by cases e) fun b' Oy=>.inl (hF b' Oy);refine⟨⟨h.oA,h.tm,h.os,h.tape,h.output,Nat.le_trans h.size hg.size,?_,?_,?_,?_,?_,?_,Nat.le_trans h.low (Nat.le_succ _),?_⟩,fun hf=>?_⟩
 ·intro k SK Ry;rw[hg.block k (Nat.lt_of_lt_of_le SK h.size) N3];exact h.frame k SK Ry
 ·intro t c hc;obtain⟨v,k1,k2⟩:=h.env t c hc;exact⟨v,k1,VR.bl hk c v (tB hn k2) k2⟩
 ·intro q y hq;obtain⟨B2,m1,m2,m3,m4,m5⟩:=h.obj q y hq;refine⟨B2,by rw[Tm (hold hq)];exact m1,m2,m3,m4,fun b2 O2=>?_⟩;obtain⟨SO,q1,q2,q3,q4,q5,q6⟩:=m5 b2 O2;exact⟨SO,by rw[hg.block b2 (Array.getElem?_eq_some_iff.1 q1).1 N3];exact q1,q2,q3,q4,q5,aT.bl hk _ _ (m8 hn q6) q6⟩
 ·intro p q y z b' hp hq Sp Te;simp only[aU,Tm (hold hp)] at Sp;simp only[aU,Tm (hold hq)] at Te;exact h.inj p q y z b' hp hq Sp Te
 ·intro p hp;have:p≠s.nx:=fun e=>by subst e;exact absurd hp N3
  rw[Tm this];exact h.nx p (Nat.le_of_succ_le hp)
 ·intro p hp;have:=h.low;rw[Tm (show p≠s.nx by omega)];exact h.gO p hp
 ·intro p B b' hp hB hb;by_cases e:p=s.nx
  ·subst e;rw[dr] at hB;cases hB;simp only[Option.some.injEq] at hb;subst hb;exact .inr h.size
  ·rw[Tm e] at hB;exact h.new p B b' hp hB hb
 ·have:=Ee h _ (hF _ hf);omega
theorem L9 {o:Oper}{t:TypeId}(hd:bt C.nt o.dst=true)(ho:o.op=.makeMap t none):sR P C o s (St.put ⟨s.env,s.heap,s.nx+1⟩ o.dst (.mp s.nx [])):=by
 rintro a w ⟨σ,h⟩;obtain⟨h',hf⟩:=h.C3 (.map #[] 0);refine⟨w.alloc (.map #[] 0),.inl ⟨.map (some w.heap.size),?_,fj hd h' ?_⟩⟩
 ·simp[execOp,ho,Instr.makeMap]
 ·simp only[VR];exact⟨_,w.heap.size,#[],0,dr,rfl,rfl,heap_alloc_new w _,rfl,List.nodup_nil,hf⟩
theorem GM (ht:aF P av){o:Oper}{t:TypeId}{x:Operand}{b:ByteArray}(hd:bt C.nt o.dst=true)(ho:o.op=.range t x)(hx:ev s x=some (.str b))(h1:dG av t=some .str):sR P C o s (St.put ⟨s.env,s.heap,s.nx+1⟩ o.dst (.iter s.nx b 0)):=by
 rintro a w ⟨σ,h⟩;obtain⟨i1,a1,a2,_⟩:=eF ht h1;have g1:=lZ (ht t i1 a1) a2;have hv:=bO h hx;simp only[VR] at hv;obtain⟨h',hf⟩:=h.C3 (.stringIter b 0);refine⟨w.alloc (.stringIter b 0),.inl ⟨.pointer (some ⟨w.heap.size,0,none⟩),?_,fj hd h' ?_⟩⟩
 ·simp[execOp,ho,Instr.range,run_underlying g1,hv]
 ·simp only[VR];exact⟨_,w.heap.size,dr,rfl,rfl,heap_alloc_new w _,hf⟩
def va (k:Nat):CV→Bool
 | .iter k' _ _=>k' == k
 | _=>false
def xk (k:Nat)(b:ByteArray)(p:Nat):List (Nat×CV)→List (Nat×CV)
 | []=>[]
 | (t,c)::r=>(t,if va k c then .iter k b p else c)::xk k b p r
theorem sN {k:Nat}{b:ByteArray}{p:Nat}:∀ (l:List (Nat×CV)) (t:Nat) (c:CV),assoc (xk k b p l) t=some c→∃ d,assoc l t=some d∧c=if va k d then .iter k b p else d
 | [],t,c,h=>by simp[xk,assoc] at h
 | (u,d)::r,t,c,h=>by
  simp only[xk,assoc] at h ⊢;split at h
  ·rename_i e;cases h;rw[if_pos e];exact⟨d,rfl,rfl⟩
  ·rename_i e;rw[if_neg e];exact sN r t c h
def KP:CV→Bool
 | .mp _ _=>true
 | _=>false
def G3 (s:St)(k:Nat):Bool:=(s.env.all fun x=>kW x.2 || va k x.2 || KP x.2) && s.heap.all fun x=>jr x.2.cells
def Ie (s:St)(d:Option Tmp)(k:Nat)(b:ByteArray)(p:Nat):Option St:=
 if p<b.size then if G3 s k then some (St.put { s with env:=xk k b (p+(Utf8.decode b p).2) s.env } d (.dI [.bool true,.int .i64 p,.int .i32 (Utf8.decode b p).1])) else none
 else some (s.put d (.dI [.bool false]))
theorem bF {o:Oper}{x:Operand}{k p:Nat}{b:ByteArray}{s':St}(hd:bt C.nt o.dst=true)(ho:o.op=.next x true)(hx:ev s x=some (.iter k b p))(hk0:C.n0≤k)(hs:Ie s o.dst k b p=some s'):sR P C o s s':=by
 rintro a w ⟨σ,h⟩;have hv:=bO h hx;simp only[VR] at hv;obtain⟨B,r,hB,hb,hv,hr,hf⟩:=hv;have P9:w.heap[r]? = some (.stringIter b p):=hr;have O5:=(Array.getElem?_eq_some_iff.1 hr).1;unfold Ie at hs;split at hs
 ·rename_i Oa;split at hs
  ·rename_i Om;cases hs;simp only[G3,Bool.and_eq_true,List.all_eq_true,Bool.or_eq_true] at Om;let w':World:={ w with heap:=w.heap.setIfInBounds r (.stringIter b (p+(Utf8.decode b p).2)) }
   have OK:∀ j,j≠r→w'.heap[j]? = w.heap[j]?:=fun j hj=>by
    simp[w',Ne.symm hj]
   have P5:w'.heap[r]? = some (.stringIter b (p+(Utf8.decode b p).2)):=by
    simp[w',O5]
   have Oh:w'.heap.size=w.heap.size:=by simp[w']
   have WM:∀ F:Nat→Prop,mD w w' F F:=fun F ad u hf hu=>by
    have Ok:ad.block≠r:=fun e=>by
     unfold World.cell? at hu;rw[e,hr] at hu;cases hu
    exact⟨by rw[World.cell?_of_block (OK _ Ok)];exact hu,hf⟩
   have h':aK C σ { s with env:=xk k b (p+(Utf8.decode b p).2) s.env } a w':=by
    refine⟨h.oA,h.tm,h.os,h.tape,h.output,by rw[Oh];exact h.size,?_,?_,?_,h.inj,h.nx,h.gO,h.low,h.new⟩
    ·intro j hj1 Ut;rw[OK j (fun e=>?_)]
     ·exact h.frame j hj1 Ut
     ·subst e;rcases h.new k B j hk0 hB hb with n4 | n4
      ·exact Ut n4
      ·omega
    ·intro t c hc;obtain⟨d,OM,rfl⟩:=sN _ _ _ hc;obtain⟨v,k1,k2⟩:=h.env t d OM;refine⟨v,k1,?_⟩;by_cases hi:va k d=true
     ·rw[if_pos hi];cases d<;>simp only[va,Bool.false_eq_true] at hi;rename_i k' b' p';have:k'=k:=by simpa using hi
      subst this;simp only[VR] at k2 ⊢;obtain⟨B2,r2,q1,q2,q3,q4,q5⟩:=k2;rw[hB] at q1;cases q1;rw[hb] at q2;cases q2;exact⟨B,r,hB,hb,q3,P5,q5⟩
     ·rw[if_neg hi];rcases Om.1 _ (bG _ _ _ OM) with (q | q) | q
      ·exact VR.nw (WM _) _ _ q k2
      ·exact absurd q hi
      ·cases d<;>simp only[KP,Bool.false_eq_true] at q;simp only[VR] at k2 ⊢;obtain⟨B2,r2,arr,clock,q1,q2,q3,q4,q5,q6,q7⟩:=k2;have Ok:r2≠r:=fun e=>by rw[e,hr] at q4;cases q4
       exact⟨B2,r2,arr,clock,q1,q2,q3,by rw[OK r2 Ok];exact q4,q5,q6,q7⟩
    ·intro q y hq;obtain⟨B2,m1,m2,m3,m4,m5⟩:=h.obj q y hq;refine⟨B2,m1,m2,m3,m4,fun b2 O2=>?_⟩;obtain⟨SO,q1,q2,q3,q4,q5,q6⟩:=m5 b2 O2;have Ok:b2≠r:=fun e=>by subst e;rw[hr] at q1;cases q1
     exact⟨SO,by rw[OK b2 Ok];exact q1,q2,q3,q4,q5,aT.nw (WM _) _ _ (Om.2 _ (bG _ _ _ hq)) q6⟩
   refine⟨w',.inl ⟨.tuple #[.bool true,goInt p,.int .i32 (Utf8.decode b p).1],?_,fj hd h' ?_⟩⟩
   ·simp[execOp,ho,hv,Instr.next,getObj,setObj,Sem.run,P9,Oa,w']
   ·simp only[VR,aT];exact⟨[_,_,_],rfl,_,_,rfl,rfl,_,_,rfl,rfl,_,_,rfl,rfl,rfl⟩
  ·cases hs
 ·rename_i Rn;cases hs;refine⟨w,.inl ⟨.tuple #[.bool false],?_,fj hd h ?_⟩⟩
  ·simp[execOp,ho,hv,Instr.next,getObj,Sem.run,P9,Rn]
  ·simp only[VR,aT];exact⟨[_],rfl,_,_,rfl,rfl,rfl⟩
end
section
variable {P:Program}{C:Cx}{s:St}{ops:Array Oper}{av:List (Nat×TI)}
def D9 (av:List (Nat×TI))(s:St)(d:Option Tmp)(x y:Operand)(t it:TypeId):Option St:=
 match dG av t,dG av it,ev s x,ev s y with
 | some (.sl e),some (.int .i64),some (.bp p 0 n),some (.int .i64 mi)=>match assoc av e,assoc s.heap p with
  | some ie,some ob=>if 0<ie.size∧0<ie.bytes∧ob.elem=e∧ob.sz=ie.size∧n*ie.size=ob.cells.length∧(n+mi.toNat)*ie.bytes≤140737488355328∧0<mi then some (AppZ s d p n mi.toNat ob ie.zero) else none
  | _,_=>none
 | _,_,_,_=>none
theorem Bo (ht:aF P av){o:Oper}{cl:Call}{t it:TypeId}{x y:Operand}{s':St}(hd:bt C.nt o.dst=true)(ho:o.op=.call cl)(Og:cl.callee=.builtin .append)(Of:cl.args=#[x,y])(PJ:cl.argTypes=#[t,it])(h:D9 av s o.dst x y t it=some s'):sR P C o s s':=by
 unfold D9 at h;split at h
 ·rename_i e p n mi h1 h2 h3 h4;split at h
  ·rename_i ie ob h5 h6;split at h
   ·rename_i hc;cases h;obtain⟨c1,c2,c3,c4,c5,c6,c7⟩:=hc;obtain⟨ii,OL,Pe⟩:=Option.map_eq_some_iff.1 h2;have hm:((mi.toNat:Nat):Int)=mi:=by omega
    intro a w hr;obtain⟨z,w',s',k1,k2,k3⟩:=Km (P:=P) (C:=C) (s:=s) ht (m:=mi.toNat) hd ho Og Of PJ h1 h5 OL Pe h3 (by rw[hm];exact h4) h6 c1 c2 c3 c4 c5 c6 yA rfl a w hr;cases k2;exact⟨w',.inl ⟨z,k1,k3⟩⟩
   ·cases h
  ·cases h
 ·cases h
def MO (av:List (Nat×TI))(s:St)(o:Oper)(x y:Operand)(t it:TypeId):Option St:=
 match D9 av s o.dst x y t it with
 | some s'=>some s'
 | none=>match x,ev s x with
  | .tmp tx,some .aj=>match dG av t with
   | some (.sl e)=>match assoc av e with
    | some ie=>match assoc s.env tx with
     | some .aj=>D9 av (s.own tx e ie.size) o.dst x y t it
     | _=>none
    | none=>none
   | _=>none
  | _,some (.bp p _ n)=>match assoc s.heap p with
   | some ob=>mX av (s.cut p ob (n*ob.sz)) o
   | none=>none
  | _,_=>none
theorem Kl (ht:aF P av){o:Oper}{cl:Call}{t it:TypeId}{x y:Operand}{s':St}(hd:bt C.nt o.dst=true)(ho:o.op=.call cl)(Og:cl.callee=.builtin .append)(Of:cl.args=#[x,y])(PJ:cl.argTypes=#[t,it])(h:MO av s o x y t it=some s'):sR P C o s s':=by
 unfold MO at h;split at h
 ·rename_i s1 h1;cases h;exact Bo ht hd ho Og Of PJ h1
 ·split at h
  ·rename_i tx _ hx;split at h
   ·rename_i e h1;split at h
    ·rename_i ie h2;split at h
     ·rename_i h3;exact sR.le (Le.own tx e ie.size h3) (Bo ht hd ho Og Of PJ h)
     ·cases h
    ·cases h
   ·cases h
  ·rename_i p _ n _ hx;split at h
   ·rename_i ob h1;exact sR.le (Le.cut _ h1) (sR.JD ht hd h)
   ·cases h
  ·cases h
def CW (n0:Nat)(av:List (Nat×TI))(s:St)(o:Oper):Option St:=
 match o.op with
 | .convert t u x=>match qM av s t u x with
  | some c=>some (s.put o.dst c)
  | none=>match ev s x,dG av t,dG av u with
   | some (.str b),some .str,some (.sl e)=>match dG av e with
    | some (.int .u8)=>if b.size≤1000000 then some (s.put o.dst (.az (pO b) b.size)) else none
    | _=>none
   | some (.bp p off n),some (.sl e),_=>if t=u∧0<n then match dG av e,assoc s.heap p with
     | some (.int .u8),some ob=>if trees ob.cells=true then some (HN s p ob o.dst off n) else none
     | _,_=>none
    else none
   | _,_,_=>none
 | .makeInterface t x=>match ev s x,dG av t with
  | some _,some .oth=>none
  | some c,some _=>some (s.put o.dst (.iface t [c]))
  | _,_=>none
 | .makeMap _ none=>some (St.put ⟨s.env,s.heap,s.nx+1⟩ o.dst (.mp s.nx []))
 | .range t x=>match ev s x,dG av t with
  | some (.str b),some .str=>some (St.put ⟨s.env,s.heap,s.nx+1⟩ o.dst (.iter s.nx b 0))
  | _,_=>none
 | .next x true=>match ev s x with
  | some (.iter k b p)=>if n0≤k then Ie s o.dst k b p else none
  | _=>none
 | .call cl=>match cl.callee with
  | .builtin .append=>match cl.args.toList,cl.argTypes.toList with
   | [x,y],[t,it]=>MO av s o x y t it
   | _,_=>none
  | .builtin .cap=>match cl.args.toList,cl.argTypes.toList with
   | [x],[t]=>match ev s x,dG av t with
    | some .aj,some (.sl _)=>some (s.put o.dst (.int .i64 0))
    | _,_=>none
   | _,_=>none
  | _=>none
 | _=>none
theorem zm (ht:aF P av){o:Oper}{s':St}(hd:bt C.nt o.dst=true)(h:CW C.n0 av s o=some s'):sR P C o s s':=by
 have Wd:∀ {α:Type} {x:Array α} {l:List α},x.toList=l→x=l.toArray:=fun {α x l} e=>by rw[← e]
 unfold CW at h;split at h
 ·rename_i t u x ho;split at h
  ·rename_i c hc;cases h;rintro a w ⟨σ,hr⟩;obtain⟨z,k1,k2⟩:=Bi ht hr hc;exact⟨w,.inl ⟨z,by simp[execOp,ho,k1],fj hd hr k2⟩⟩
  ·split at h
   ·rename_i b e hx h1 h2;split at h
    ·rename_i h3;split at h
     ·rename_i hm;cases h;exact x6 ht hd ho hx h1 h2 h3 hm
     ·cases h
    ·cases h
   ·rename_i p off n e _ hx h1;split at h
    ·rename_i hc;obtain⟨rfl,hn⟩:=hc;split at h
     ·rename_i ob h3 h4;split at h
      ·rename_i h5;cases h;exact Dx ht hd ho hx hn h1 h3 h4 h5
      ·cases h
     ·cases h
    ·cases h
   ·cases h
 ·rename_i t x ho;split at h
  ·cases h
  ·rename_i c d hn hx h1;cases h;exact gU ht hd ho hx h1 (fun e=>hn e)
  ·cases h
 ·rename_i t ho;cases h;exact L9 hd ho
 ·rename_i t x ho;split at h
  ·rename_i b hx h1;cases h;exact GM ht hd ho hx h1
  ·cases h
 ·rename_i x ho;split at h
  ·rename_i k b p hx;split at h
   ·rename_i hk;exact bF hd ho hx hk h
   ·cases h
  ·cases h
 ·rename_i cl ho;split at h
  ·rename_i Og;split at h
   ·rename_i x y t it ha PJ;exact Kl ht hd ho Og (Wd ha) (Wd PJ) h
   ·cases h
  ·rename_i Og;split at h
   ·rename_i x t ha PJ;split at h
    ·rename_i e hx h1;cases h;exact MJ ht hd ho Og (Wd ha) (Wd PJ) hx h1
    ·cases h
   ·cases h
  ·cases h
 ·cases h
end
def cg (o:Oper):Option Call:=match o.op with
 | .call c=>match c.callee with
  | .builtin _=>none
  | _=>some c
 | _=>none
theorem gD {o:Oper}{c:Call}(h:cg o=some c):o.op=.call c:=by
 unfold cg at h;split at h
 ·rename_i c' Ol;split at h
  ·cases h
  ·cases h;exact Ol
 ·cases h
abbrev fL:=FuncId→List CV→List (Nat×Ob)→Nat→Option (CV×List (Nat×Ob)×Nat)
section
variable {P:Program}{C:Cx}{s:St}{av:List (Nat×TI)}{ops:Array Oper}{call:fL}
def gx (P:Program)(av:List (Nat×TI))(call:fL):Prop:=∀ g cs H n x H' n',call g cs H n=some (x,H',n')→Body P av g cs H n fun r s'=>r=x∧s'.heap=H'∧s'.nx=n'
theorem TL.again {id:Nat}{l:List Oper}{s':St}(h:TL P C l.toArray l s fun x=>x=s'):T P C (.region id l.toArray false) s fun e x=>e=.normal∧x=s':=
 T.region fun a w Q hr hQ=>h a w Q hr fun x a' w' hx OS=>hQ x a' w' ⟨rfl,hx⟩ OS
end
def u5 (g:CV→Option CV):List CV→Option (List CV)
 | []=>some []
 | c::cs=>match g c with
  | some d=>match u5 g cs with
   | some ds=>some (d::ds)
   | none=>none
  | none=>none
def deep (H:List (Nat×Ob)):Nat→CV→Option CV
 | 0,_=>none
 | f+1,c=>if tree c then some c else match c with
  | .bp o off n=>match assoc H o with
   | some ob=>match (if trees ob.cells then some ob.cells else u5 (deep H f) ob.cells) with
    | some cells=>some (.az ((cells.drop off).take (n*ob.sz)) n)
    | none=>none
   | none=>none
  | .aq o off=>match assoc H o with
   | some ob=>match (if trees ob.cells then some ob.cells else u5 (deep H f) ob.cells) with
    | some cells=>some (.cF (cells.drop off))
    | none=>none
   | none=>none
  | .agg cs=>match u5 (deep H f) cs with
   | some ds=>some (.agg ds)
   | none=>none
  | .iface t cs=>match u5 (deep H f) cs with
   | some ds=>some (.iface t ds)
   | none=>none
  | .fn g cs=>match u5 (deep H f) cs with
   | some ds=>some (.fn g ds)
   | none=>none
  | .dI cs=>match u5 (deep H f) cs with
   | some ds=>some (.dI ds)
   | none=>none
  | _=>none
section
variable {P:Program}{C:Cx}{σ:Nat→Option OB}{s:St}{a:Act}{w:World}{ops:Array Oper}{av:List (Nat×TI)}
theorem ou {F F':Nat→Prop}{g:CV→Option CV}(hg:∀ c d v,g c=some d→VR w F σ c v→bZ w F' d v∧one d=one c):∀ (cs ds:List CV) (vs:List Value),u5 g cs=some ds→aT w F σ cs vs→bP w F' ds vs∧ds.all one=cs.all one
 | [],ds,vs,h,hv=>by
  simp only[u5] at h;cases h;exact⟨by simpa [aT,bP] using hv,rfl⟩
 | c::cs,ds,vs,h,hv=>by
  simp only[u5] at h;split at h
  ·rename_i d h1;split at h
   ·rename_i ds' h2;cases h;simp only[aT,bP] at hv ⊢;obtain⟨v,r,e,k1,k2⟩:=hv;obtain⟨q1,q2⟩:=hg c d v h1 k1;obtain⟨q3,q4⟩:=ou hg cs ds' r h2 k2;exact⟨⟨v,r,e,q1,q3⟩,by simp only[List.all_cons,q2,q4]⟩
   ·cases h
  ·cases h
theorem DT (h:aK C σ s a w):∀ (f:Nat) (c d:CV) (v:Value),deep s.heap f c=some d→VR w (FB C σ s.heap) σ c v→bZ w C.F d v∧one d=one c
 | 0,_,_,_,h,_=>by simp[deep] at h
 | f+1,c,d,v,hd,hv=>by
  have ih:=DT h f;have hk:mD w w (FB C σ s.heap) C.F:=fun ad u hf hu=>⟨hu,fun hF=>hf (.inl hF)⟩;have obj:∀ {o ob B b cells},assoc s.heap o=some ob→σ o=some B→B.jI=some b→(if trees ob.cells then some ob.cells else u5 (deep s.heap f) ob.cells)=some cells→∀ k,fa w C.F (cells.drop k) ⟨b,k,none⟩:=fun {o ob B b cells} ho hB hb ht k=>by
   obtain⟨B',e1,_,_,e4,e5⟩:=h.obj o ob ho;rw[hB] at e1;cases e1;obtain⟨cur,k1,k2,k3,k4,k5,k6⟩:=e5 b hb;have h1:bP w C.F cells (cur.toList.take ob.cells.length)∧cells.all one=true:=by
    split at ht
    ·rename_i Qh;cases ht;exact⟨bP.bl hk _ _ (aT.ec _ _ Qh k6),e4⟩
    ·obtain⟨q1,q2⟩:=ou ih _ _ _ ht k6;exact⟨q1,q2.trans e4⟩
   have hl:cells.length=ob.cells.length:=by
    rw[← bP.length _ _ h1.1,aT.length _ _ k6]
   have h2:fa w C.F cells ⟨b,0,none⟩:=ia _ _ _ h1.1 h1.2 k3 fun j u hu=>by
    rw[add_lit,Nat.zero_add,cell_of_row w b j cur _ _ k1];rw[List.getElem?_take] at hu;split at hu
    ·simpa using hu
    ·cases hu
   have:=h2.drop k;rwa [add_lit,Nat.zero_add] at this
  simp only[deep] at hd;split at hd
  ·rename_i ht;cases hd;exact⟨bZ.bl hk _ _ (VR.ec _ _ ht hv),rfl⟩
  ·split at hd
   ·rename_i o off n _;split at hd
    ·rename_i ob ho;split at hd
     ·rename_i cells hc;cases hd;refine⟨?_,rfl⟩;simp only[VR] at hv;obtain⟨B,hB,hv⟩:=hv;split at hv
      ·obtain⟨rfl,rfl,rfl⟩:=hv;simp only[bZ];exact⟨none,0,rfl,Nat.le_refl _,Nat.zero_le _,.inl ⟨trivial,by simp⟩⟩
      ·rename_i b hb;obtain⟨cap,rfl,h1,h2,_⟩:=hv;simp only[bZ];exact⟨_,cap,rfl,h1,h2,.inr ⟨_,rfl,fa.take _ _ _ (obj ho hB hb hc off)⟩⟩
     ·cases hd
    ·cases hd
   ·rename_i o off _;split at hd
    ·rename_i ob ho;split at hd
     ·rename_i cells hc;cases hd;refine⟨?_,rfl⟩;simp only[VR] at hv;obtain⟨B,b,hB,hb,rfl⟩:=hv;simp only[bZ];exact⟨_,rfl,obj ho hB hb hc off⟩
     ·cases hd
    ·cases hd
   ·rename_i cs;split at hd
    ·rename_i ds W2;cases hd;simp only[VR] at hv;obtain⟨vs,e,r,h1⟩:=hv;obtain⟨q1,q2⟩:=ou ih _ _ _ W2 r;simp only[bZ];exact⟨⟨vs,e,q1,q2.trans h1⟩,rfl⟩
    ·cases hd
   ·rename_i t cs;split at hd
    ·rename_i ds W2;cases hd;simp only[VR] at hv;obtain⟨vs,e,r⟩:=hv;obtain⟨q1,q2⟩:=ou ih _ _ _ W2 r;simp only[bZ];exact⟨⟨vs,e,q1⟩,rfl⟩
    ·cases hd
   ·rename_i g cs;split at hd
    ·rename_i ds W2;cases hd;simp only[VR] at hv;obtain⟨vs,e,r⟩:=hv;obtain⟨q1,q2⟩:=ou ih _ _ _ W2 r;simp only[bZ];exact⟨⟨vs,e,q1⟩,rfl⟩
    ·cases hd
   ·rename_i cs;split at hd
    ·rename_i ds W2;cases hd;simp only[VR] at hv;obtain⟨vs,e,r⟩:=hv;obtain⟨q1,q2⟩:=ou ih _ _ _ W2 r;simp only[bZ];exact⟨⟨vs,e,q1⟩,rfl⟩
    ·cases hd
   ·cases hd
def doneD (av:List (Nat×TI))(f:Func)(r:CV):Exit→St→Prop
 | .normal,s=>∃ r0 k,bm av f s=some r0∧deep s.heap k r0=some r
 | .ret,s=>∃ r0 k,bm av f s=some r0∧deep s.heap k r0=some r
 | _,_=>False
theorem ae.JF (Q8 : aF P av) {f : FuncId} {fn : Func} {c : Code} {args : List CV} {r : CV} (hf : P.funcs[f]? = some fn) (hb : fn.body = some c) (hn : (fn.name == "runtime.NumGoroutine") = false)
  (ha:args.length≤fn.ntmps) (h:∀ C:Cx,C.nt=fn.ntmps→C.n0=0→T P C c (enter args) (doneD av fn r)):ae P f args r:=by
 refine⟨⟨fn,hf,hn,by simp[hb]⟩,fun F vs w hF hv=>?_⟩;have hl:=bP.length _ _ hv;let C:Cx:=⟨w,F,fun _=>False,hF,fn.ntmps,fun _=>none,0⟩
 have h0:aK C (fun _=>none) (enter args) { tmps:=vs.toArray++Array.replicate (fn.ntmps-vs.toArray.size) undef,defers:=[] } w:=by
  refine⟨rfl,by simp[C];omega,rfl,rfl,rfl,Nat.le_refl _,fun _ _ _=>rfl,?_,?_,?_,fun _ _=>rfl,fun _ h=>absurd h (Nat.not_lt_zero _),Nat.zero_le _,fun _ _ _ _ h=>by cases h⟩
  ·intro t c hc;obtain⟨_,h2⟩:=fS args 0 t c hc;obtain⟨v,h3,h4⟩:=bP.get _ _ hv t c (by simpa using h2);refine⟨v,?_,VR.cA _ _ (bZ.bl (cz.same fun b hb=>?_).1 c v h4)⟩
   ·have Oa:=(List.getElem?_eq_some_iff.1 h3).1;simp only;rw[Array.getElem?_append_left (by simpa using Oa)]
    simpa using h3
   ·rcases hb with hF | ⟨o,ob,ho,_⟩
    ·exact hF
    ·simp[enter,assoc] at ho
  ·intro o ob ho;simp[enter,assoc] at ho
  ·intro o o' ob Ov b ho;simp[enter,assoc] at ho
 refine calls_of_wp hf hb (wp_mono (h C rfl rfl _ _ ⟨_,h0⟩) fun e a' w' ⟨s',q,σ,hr⟩=>?_);have fin:(∃ r0 k,bm av fn s'=some r0∧deep s'.heap k r0=some r)→a'.defers=[]∧∃ v,(results fn a'.tmps).run P w'=.ok v w'∧(∃ SQ,Ending.returned v=.returned SQ∧Below w.heap.size w w'∧bZ w' F r SQ):=fun⟨r0,k,hq,hd⟩=>by
  obtain⟨v,k1,k2⟩:=iY (P:=P) Q8 hr hq;exact⟨hr.oA,v,k1,v,rfl,⟨hr.os,hr.tape,hr.output,hr.size,fun k hk=>hr.frame k hk (fun hx=>hx)⟩,(DT hr _ _ _ _ hd k2).1⟩
 cases e with
 | normal=>exact fin q
 | ret=>exact fin q
 | exit _=>exact q.elim
 | goto _=>exact q.elim
 | panic _=>exact q.elim
 | outgrown=>exact q.elim
def pf (P:Program)(C:Cx)(s:St)(o:Oper)(g:FuncId)(cs:List CV):Prop:=
 ∀ σ a w,aK C σ s a w→∃ vs:List Value,(execOp a.eval o).run P w=.ok (.enter g vs.toArray) w∧aT w (FB C σ s.heap) σ cs vs
theorem pf.value {o:Oper}{c:Call}{g:FuncId}{cs:List CV}(ho:o.op=.call c)(OG:bB s c=some (g,cs))(he:lq P g):pf P C s o g cs:=by
 intro σ a w hr;obtain⟨fn,h1,h2,h3⟩:=he;unfold bB at OG;split at OG
 ·rename_i f Qb;split at OG
  ·rename_i g' PQ PO V0 OJ;cases OG;have XK:=bO hr V0;simp only[VR] at XK;obtain⟨us,e,hu⟩:=XK;have Of:=pG hr _ _ OJ;refine⟨c.args.toList.map a.eval++us,?_,aT.append _ _ _ _ Of hu⟩;have e2:(c.args.toList.map a.eval).toArray=c.args.map a.eval:=by rw[← List.map_toArray]
   simp only[execOp,ho,resolve,Qb,e,Deferred.ofValue,Sem.run_bind,Sem.run_pure,Result.andThen_ok,invoke,callFunc,run_program,h1,h2,h3,Bool.false_eq_true,if_false];rw[← e2];simp
  ·cases OG
 ·cases OG
structure zg (P:Program)(t:TypeId)(name:String)(g:FuncId):Prop where
 row:∃ i m,P.info? t=some i∧i.methods.find? (·.name == name)=some m∧m.path.toList=[]∧m.path.isEmpty=true∧m.func=some (g,false)
 Bw:∃ d,P.underlying t=some d∧∀ e,d≠.pointer e
abbrev hZ:=List ((Nat×String)×FuncId)
def iN (P:Program)(mt:hZ):Prop:=∀ x∈mt,zg P x.1.1 x.1.2 x.2
def xp:hZ→Nat→String→Option FuncId
 | [],_,_=>none
 | ((t,n),g)::r,u,m=>if t=u∧n=m then some g else xp r u m
theorem xo:∀ (mt:hZ) (u:Nat) (m:String) (g:FuncId),xp mt u m=some g→((u,m),g)∈mt
 | [],_,_,_,h=>by simp[xp] at h
 | ((t,n),g')::r,u,m,g,h=>by
  simp only[xp] at h;split at h
  ·rename_i e;obtain⟨rfl,rfl⟩:=e;cases h;exact List.mem_cons_self
  ·exact List.mem_cons_of_mem _ (xo r u m g h)
def iF (mt:hZ)(s:St)(c:Call):Option (FuncId×List CV):=match c.callee with
 | .value _=>bB s c
 | .invoke r name=>match ev s r,zk s c.args.toList with
  | some (.iface t [x]),some cs=>match xp mt t name with
   | some g=>some (g,x::cs)
   | none=>none
  | _,_=>none
 | _=>none
theorem B3 {t:TypeId}{name:String}{g:FuncId}(h:zg P t name g)(v:Value)(n:Nat)(w:World):(method (n+1) t v name).run P w=.ok (g,v) w:=by
 obtain⟨⟨i,m,h1,h2,h3,h4,h5⟩,d,h6,h7⟩:=h;unfold method;simp only[Sem.run_bind,uB h1,Result.andThen_ok,h2,h3,follow,Sem.run_pure,h5,receiverAt,bC h6,Place.get]
theorem pf.to {mt:hZ}(TG:iN P mt){o:Oper}{c:Call}{g:FuncId}{cs:List CV}(ho:o.op=.call c)(OG:iF mt s c=some (g,cs))(he:lq P g):pf P C s o g cs:=by
 unfold iF at OG;split at OG
 ·exact pf.value ho OG he
 ·rename_i r name Qb;split at OG
  ·rename_i t x PO hr OJ;split at OG
   ·rename_i g' hm;cases OG;intro σ a w h;obtain⟨fn,h1,h2,h3⟩:=he;have hv:=bO h hr;simp only[VR,aT] at hv;obtain⟨vs,e,v,r',rfl,hv,rfl⟩:=hv;simp only[ifv] at e;have Of:=pG h _ _ OJ;refine⟨v::c.args.toList.map a.eval,?_,by simp only[aT];exact⟨v,_,rfl,hv,Of⟩⟩;have e2:(c.args.toList.map a.eval).toArray=c.args.map a.eval:=by rw[← List.map_toArray]
    have hme:=B3 (TG _ (xo _ _ _ _ hm)) v (P.types.size+99) w;have hme':(method (P.types.size+Made.depth) t v name).run P w=.ok (g,v) w:=hme;have hex:(#[Value.iface t v]++c.args.map a.eval)[0]? = some (Value.iface t v):=by rw[Array.getElem?_append_left N3];rfl
    have hex2:(#[Value.iface t v]++c.args.map a.eval).extract 1 (#[Value.iface t v]++c.args.map a.eval).size=c.args.map a.eval:=by
     apply Array.ext';simp[List.take_of_length_le]
    simp only[execOp,ho,resolve,Qb,e,Sem.run_bind,Sem.run_pure,Result.andThen_ok,invoke,hex,hex2,callMethod,run_program,hme',callFunc,h1,h2,h3,Bool.false_eq_true,if_false];rw[← e2];simp
   ·cases OG
  ·cases OG
 ·cases OG
theorem eO {o:Oper}(hr:Rel C s a w)(hg:b9 ops s o=some true):Region.wanted o (yielded ops a.tmps)=true:=by
 unfold b9 at hg;split at hg
 ·rename_i e;simp[Region.wanted,e]
 ·rename_i j want e;split at hg
  ·cases hg
  rename_i t hj;exact lz hr e hj hg
theorem callE (Q8:aF P av){o:Oper}{l:List Oper}{g:FuncId}{cs:List CV}{K:St→Prop}{R:CV→St→Prop}(hd:bt C.nt o.dst=true)(hg:b9 ops s o=some true)(he:pf P C s o g cs)(hb:Body P av g cs s.heap s.nx R)
  (hK:∀ r s',R r s'→TL P C ops l (St.put ⟨s.env,s'.heap,s'.nx⟩ o.dst r) K):TL P C ops (o::l) s K:=by
 intro a w Q hr hQ;have hw:=eO (ops:=ops) hr hg;obtain⟨σ,hr⟩:=hr;unfold wpList;rw[if_pos hw];refine .inl ?_;obtain⟨fn,code,hf,Qc,hn,hlen,hT⟩:=hb;obtain⟨vs,U1,ON⟩:=he σ a w hr;have hF:=Jt hr;have h0:=hr.inner hF fn.ntmps ON hlen;have SM:Calls P g vs.toArray w fun e w'=>∃ v r s',e=.returned v∧R r s'∧∃ σ',aK C σ' ⟨s.env,s'.heap,s'.nx⟩ a w'∧VR w' (FB C σ' s'.heap) σ' r v:=by
  refine calls_of_wp hf Qc (wp_mono (hT (C.inner w σ s.heap fn.ntmps hF s.nx) rfl rfl _ _ ⟨_,h0⟩) fun e a' w' ⟨s1,q,σ1,OX⟩=>?_);have fin:aa (C.inner w σ s.heap fn.ntmps hF s.nx) (fun s'=>∃ r,bm av fn s'=some r∧R r s') s1→a'.defers=[]∧∃ v,(results fn a'.tmps).run P w'=.ok v w'∧(∃ SQ r s',Ending.returned v=.returned SQ∧R r s'∧∃ σ',aK C σ' ⟨s.env,s'.heap,s'.nx⟩ a w'∧VR w' (FB C σ' s'.heap) σ' r SQ):=fun⟨s2,⟨r,q1,q2⟩,hl⟩=>by
   obtain⟨σ2,OF⟩:=hl _ _ ⟨σ1,OX⟩;obtain⟨v,k1,k2⟩:=iY (P:=P) Q8 OF q1;exact⟨OF.oA,v,k1,v,r,s2,rfl,q2,σ2,hr.back OF,k2⟩
  cases e with
  | normal=>exact fin q
  | ret=>exact fin q
  | exit _=>exact q.elim
  | goto _=>exact q.elim
  | panic _=>exact q.elim
  | outgrown=>exact q.elim
 unfold Oper.wp;rw[U1];refine SM.mono fun e w' ⟨v,r,s',he,hR,σ',OS,hv⟩=>?_;subst he;refine hK r s' hR _ w' Q ⟨σ',OS.put ?_ hv⟩ hQ;intro t e;rw[OS.tm];rw[e] at hd
 simpa [bt] using hd
theorem Dd {o:Oper}{g:FuncId}{cs:List CV}{r:CV}(he:pf P C s o g cs)(ht:trees cs=true)(hp:ae P g cs r)(h:aK C σ s a w)(K:Act→World→Prop)(Q:Exit→Act→World→Prop)
  (hK:∀ v w',aK C σ s a w'→VR w' (FB C σ s.heap) σ r v→K (a.put o.dst v) w'):o.wp P a w K Q:=by
 obtain⟨vs,U1,ON⟩:=he σ a w h;unfold Oper.wp;rw[U1];refine (hp.2 (FB C σ s.heap) _ w (CT h) (aT.ec _ _ ht ON)).mono fun e w' ⟨v,he,hb,hv⟩=>?_;subst he;exact hK v w' (h.below hb) (VR.cA _ _ hv)
theorem KA {o:Oper}{l:List Oper}{g:FuncId}{cs:List CV}{r:CV}{K:St→Prop}(hd:bt C.nt o.dst=true)(hg:b9 ops s o=some true)(he:pf P C s o g cs)(ht:trees cs=true)(hp:ae P g cs r)(h:TL P C ops l (s.put o.dst r) K):TL P C ops (o::l) s K:=by
 intro a w Q hr hQ;have hw:=eO (ops:=ops) hr hg;obtain⟨σ,hr⟩:=hr;unfold wpList;rw[if_pos hw];refine .inl (Dd he ht hp hr _ _ fun v w' OS hv=>h _ _ Q (fj hd OS hv) hQ)
end
end Go.Can
