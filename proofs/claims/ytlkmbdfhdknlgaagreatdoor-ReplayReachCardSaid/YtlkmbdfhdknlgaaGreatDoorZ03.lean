/- Stores, new blocks and appends: how the relation is carried  -/
import Derived.Test.YtlkmbdfhdknlgaaGreatDoorZ02
import Derived.Maps.AppendAt
namespace Go.Can
open Go.RowKit
section
variable {P:Program}{C:Cx}{σ:Nat→Option OB}{s:St}{a:Act}{w:World}
theorem pV (H:List (Nat×Ob))(o:Nat)(x:Ob):FB C σ (sy H o x)=FB C σ H:=by
 funext b;apply propext;unfold FB;constructor
 ·rintro (h | ⟨p,ob,h,hb⟩)
  ·exact .inl h
  ·rw[e9] at h;split at h
   ·rename_i e;subst e;obtain⟨y,hy,_⟩:=Option.map_eq_some_iff.1 h;exact .inr ⟨o,y,hy,hb⟩
   ·exact .inr ⟨p,ob,h,hb⟩
 ·rintro (h | ⟨p,ob,h,hb⟩)
  ·exact .inl h
  ·by_cases e:o=p
   ·subst e;exact .inr ⟨o,x,by rw[e9,if_pos rfl,h];rfl,hb⟩
   ·exact .inr ⟨p,ob,by rw[e9,if_neg e];exact h,hb⟩
theorem Fb {F:Nat→Prop}{b:Nat}{cs:Array Value}(hb:F b):cz w (w.setRow b cs) F F:=
 ⟨fun ad u hf hu=>⟨by rw[World.cell?_of_block (w:=w) (setRow_other w b ad.block cs (fun e=>hf (e ▸ hb)))];exact hu,hf⟩,
  fun r _ hf hu _=>⟨by rw[setRow_other w b r cs (fun e=>hf (e ▸ hb))];exact hu,hf⟩⟩
theorem KH {F F':Nat→Prop}(hF:∀ b,F' b→F b∨w.heap.size≤b)(o:Obj):cz w (w.alloc o) F F':=by
 refine⟨fun ad u hf hu=>?_,fun r _ hf hu _=>?_⟩
 ·have Oa:=World.block_lt_of_cell? w ad hu;refine⟨by rw[World.cell?_alloc_lt w o ad Oa];exact hu,fun h=>?_⟩;rcases hF _ h with h | h
  ·exact hf h
  ·omega
 ·have Oa:=(Array.getElem?_eq_some_iff.1 hu).1;refine⟨by rw[heap_alloc_old w o r Oa];exact hu,fun h=>?_⟩;rcases hF _ h with h | h
  ·exact hf h
  ·omega
theorem u7 {F:Nat→Prop}:cz w w.drew F F:=⟨fun _ _ hf hu=>⟨hu,hf⟩,fun _ _ hf hu _=>⟨hu,hf⟩⟩
theorem kr {w':World}{row:Option Nat}{F F':Nat→Prop}(hg:w.grownBy w' row)(hr:∀ b,row=some b→F b)(hF:∀ b,F' b→F b∨w.heap.size≤b):cz w w' F F':=by
 refine⟨fun ad u hf hu=>?_,fun r _ hf hu _=>?_⟩
 ·have Oa:=World.block_lt_of_cell? w ad hu;refine⟨by rw[World.cell?_of_block (w:=w) (hg.block ad.block Oa (fun e=>hf (hr _ e.symm)))];exact hu,fun h=>?_⟩;rcases hF _ h with h | h
  ·exact hf h
  ·omega
 ·have Oa:=(Array.getElem?_eq_some_iff.1 hu).1;refine⟨by rw[hg.block r Oa (fun e=>hf (hr _ e.symm))];exact hu,fun h=>?_⟩;rcases hF _ h with h | h
  ·exact hf h
  ·omega
mutual
theorem VR.refs {F:Nat→Prop}:∀ (c:CV) (v:Value) (o:Nat),VR w F σ c v→aJ o c=false→∃ B,σ o=some B
 | .int _ _,_,_,_,h=>by simp[aJ] at h
 | .bool _,_,_,_,h=>by simp[aJ] at h
 | .str _,_,_,_,h=>by simp[aJ] at h
 | .aj,_,_,_,h=>by simp[aJ] at h
 | .bw,_,_,_,h=>by simp[aJ] at h
 | .cr,_,_,_,h=>by simp[aJ] at h
 | .iter p _ _,v,o,hv,h=>by
  simp only[aJ,bne_eq_false_iff_eq] at h;subst h;simp only[VR] at hv;obtain⟨B,r,hB,_⟩:=hv;exact⟨B,hB⟩
 | .mp p _,v,o,hv,h=>by
  simp only[aJ,bne_eq_false_iff_eq] at h;subst h;simp only[VR] at hv;obtain⟨B,r,arr,clock,hB,_⟩:=hv;exact⟨B,hB⟩
 | .az _ _,_,_,_,h=>by simp[aJ] at h
 | .cF _,_,_,_,h=>by simp[aJ] at h
 | .agg cs,v,o,hv,h=>by
  simp only[VR] at hv;obtain⟨vs,_,r,_⟩:=hv;exact aT.refs cs vs o r (by simpa [aJ] using h)
 | .fn _ cs,v,o,hv,h=>by
  simp only[VR] at hv;obtain⟨vs,_,r⟩:=hv;exact aT.refs cs vs o r (by simpa [aJ] using h)
 | .iface _ cs,v,o,hv,h=>by
  simp only[VR] at hv;obtain⟨vs,_,r⟩:=hv;exact aT.refs cs vs o r (by simpa [aJ] using h)
 | .dI cs,v,o,hv,h=>by
  simp only[VR] at hv;obtain⟨vs,_,r⟩:=hv;exact aT.refs cs vs o r (by simpa [aJ] using h)
 | .bp p _ _,v,o,hv,h=>by
  simp only[VR] at hv;obtain⟨B,hB,_⟩:=hv;have:p=o:=by simpa [aJ] using h
  subst this;exact⟨B,hB⟩
 | .aq p _,v,o,hv,h=>by
  simp only[VR] at hv;obtain⟨B,b,hB,_⟩:=hv;have:p=o:=by simpa [aJ] using h
  subst this;exact⟨B,hB⟩
theorem aT.refs {F:Nat→Prop}:∀ (cs:List CV) (vs:List Value) (o:Nat),aT w F σ cs vs→dL o cs=false→∃ B,σ o=some B
 | [],_,_,_,h=>by simp[dL] at h
 | c::cs,vs,o,hv,h=>by
  simp only[aT] at hv;obtain⟨v,r,_,h1,h2⟩:=hv;simp only[dL,Bool.and_eq_false_iff] at h;rcases h with h | h
  ·exact VR.refs c v o h1 h
  ·exact aT.refs cs r o h2 h
end
theorem aK.write (h:aK C σ s a w){o:Nat}{ob:Ob}{B:OB}{b:Nat}(ho:assoc s.heap o=some ob)(hB:σ o=some B)(hb:B.jI=some b){PO:List CV}{UK:List Value}
  (hl:UK.length=B.room) (SJ:PO.length≤UK.length) (hr:aT w (FB C σ s.heap) σ PO (UK.take PO.length)) (h1:PO.all one=true) :
  aK C σ { s with heap:=sy s.heap o { ob with cells:=PO } } a (w.setRow b UK.toArray):=by
 obtain⟨B',e1,e2,e3,_,e5⟩:=h.obj o ob ho;rw[hB] at e1;cases e1;obtain⟨cur,k1,k2,k3,k4,k5,k6⟩:=e5 b hb;have hFb:FB C σ s.heap b:=.inr ⟨o,ob,ho,by simp[aU,hB,hb]⟩;have hk:cz w (w.setRow b UK.toArray) (FB C σ s.heap) (FB C σ s.heap):=Fb hFb;refine⟨h.oA,h.tm,h.os,h.tape,h.output,by rw[size_setRow];exact h.size,?_,?_,?_,?_,h.nx,h.gO,h.low,h.new⟩
 ·intro b' Oy OC;rw[setRow_other w b b' _ (fun e=>?_)]
  ·exact h.frame b' Oy OC
  ·subst e;rcases k4 with k4 | k4
   ·exact OC k4
   ·omega
 ·intro t c hc;obtain⟨v,h1,h2⟩:=h.env t c hc;simp only[pV];exact⟨v,h1,VR.bl hk c v (fun _ _=>rfl) h2⟩
 ·intro o' Ov OI;rw[e9] at OI;split at OI
  ·rename_i e;subst e;rw[ho] at OI;cases OI;refine⟨B,hB,e2,(fun hn=>by rw[hb] at hn;cases hn),h1,fun b' Oy=>?_⟩;rw[hb] at Oy;cases Oy;refine⟨UK.toArray,setRow_heap w b cur _ _ _ k1,by simpa using hl,k3,k4,by simpa using SJ,?_⟩;simp only[pV];exact aT.bl hk _ _ (fun _ _=>rfl) (by simpa using hr)
  ·rename_i e;obtain⟨B',m1,m2,m3,m4,m5⟩:=h.obj o' Ov OI;refine⟨B',m1,m2,m3,m4,fun b' Oy=>?_⟩;obtain⟨cur',n1,n2,n3,n4,n5,n6⟩:=m5 b' Oy;have Ok:b'≠b:=fun eb=>e (h.inj o o' ob Ov b ho OI (by simp[aU,hB,hb]) (by simp[aU,m1,Oy,eb]));refine⟨cur',by rw[setRow_other w b b' _ Ok];exact n1,n2,n3,n4,n5,?_⟩;simp only[pV];exact aT.bl hk _ _ (fun _ _=>rfl) n6
 ·intro o1 o2 ob1 ob2 b' h1 h2 h3 h4;have:∀ {p:Nat} {x y:Ob},assoc (sy s.heap o x) p=some y→∃ z,assoc s.heap p=some z:=fun {p x y} hp=>by
   rw[e9] at hp;split at hp
   ·rename_i e;subst e;obtain⟨z,hz,_⟩:=Option.map_eq_some_iff.1 hp;exact⟨z,hz⟩
   ·exact⟨_,hp⟩
  obtain⟨z1,Su⟩:=this h1;obtain⟨z2,O0⟩:=this h2;exact h.inj o1 o2 z1 z2 b' Su O0 h3 h4
def sig (σ:Nat→Option OB)(o:Nat)(B:OB):Nat→Option OB:=fun p=>if p=o then some B else σ p
theorem tB {F:Nat→Prop}{c:CV}{v:Value}{o:Nat}{B:OB}(hn:σ o=none)(h:VR w F σ c v):∀ p,aJ p c=false→sig σ o B p=σ p:=fun p hp=>by
 obtain⟨B',Qr⟩:=VR.refs c v p h hp;unfold sig;split
 ·rename_i e;subst e;rw[hn] at Qr;cases Qr
 ·rfl
theorem m8 {F:Nat→Prop}{cs:List CV}{vs:List Value}{o:Nat}{B:OB}(hn:σ o=none)(h:aT w F σ cs vs):∀ p,dL p cs=false→sig σ o B p=σ p:=fun p hp=>by
 obtain⟨B',Qr⟩:=aT.refs cs vs p h hp;unfold sig;split
 ·rename_i e;subst e;rw[hn] at Qr;cases Qr
 ·rfl
theorem aK.DJ (h:aK C σ s a w){m nx':Nat}(hn:σ m=none)(Rx:C.n0≤m)(Qw:m<nx')(hxx:s.nx≤nx'){w':World}(hg:w.grownBy w' none){ob:Ob}{B:OB}(Oh:B.sz=ob.sz)(h1:ob.cells.all one=true)(R4:B.jI=none→ob.cells=[])
  (P4:∀ b,B.jI=some b→w.heap.size≤b∧∃ cur:Array Value,w'.heap[b]? = some (.cells cur ob.elem (0,0))∧cur.size=B.room∧ob.cells.length≤cur.size∧aT w (FB C σ s.heap) σ ob.cells (cur.toList.take ob.cells.length)) :
  aK C (sig σ m B) { s with heap:=(m,ob)::s.heap,nx:=nx' } a w'∧(∀ c v,VR w (FB C σ s.heap) σ c v→VR w' (FB C (sig σ m B) ((m,ob)::s.heap)) (sig σ m B) c v):=by
 have hold:∀ {p x},assoc s.heap p=some x→p≠m:=fun {p x} hp e=>by
  subst e;obtain⟨B',e1,_⟩:=h.obj _ _ hp;rw[hn] at e1;cases e1
 have Ud:sig σ m B m=some B:=by simp[sig]
 have hs:∀ {p},p≠m→sig σ m B p=σ p:=fun {p} hp=>by simp[sig,hp]
 have hF:∀ b,FB C (sig σ m B) ((m,ob)::s.heap) b→FB C σ s.heap b∨w.heap.size≤b:=by
  rintro b (hb | ⟨p,x,hp,hb⟩)
  ·exact .inl (.inl hb)
  ·simp only[assoc] at hp;split at hp
   ·rename_i e;subst e;simp only[aU,Ud,Option.bind_some] at hb;exact .inr (P4 b hb).1
   ·have:=hold hp;simp only[aU,hs this] at hb;exact .inl (.inr ⟨p,x,hp,hb⟩)
 have hk:cz w w' (FB C σ s.heap) (FB C (sig σ m B) ((m,ob)::s.heap)):=kr hg (fun b e=>by cases e) hF;refine⟨⟨h.oA,h.tm,hg.os.trans h.os,hg.tape.trans h.tape,hg.output.trans h.output,Nat.le_trans h.size hg.size,?_,?_,?_,?_,?_,?_,Nat.le_trans h.low hxx,fun o B' b ho Qr hb=>?_⟩,fun c v hv=>VR.bl hk c v (tB hn hv) hv⟩
 ·intro b hb OC;rw[hg.block b (Nat.lt_of_lt_of_le hb h.size) N3];exact h.frame b hb OC
 ·intro t c hc;obtain⟨v,k1,k2⟩:=h.env t c hc;exact⟨v,k1,VR.bl hk c v (tB hn k2) k2⟩
 ·intro p x hp;simp only[assoc] at hp;split at hp
  ·rename_i e;subst e;cases hp;refine⟨B,Ud,Oh,R4,h1,fun b hb=>?_⟩;obtain⟨k0,cur,k1,k2,k3,k4⟩:=P4 b hb;refine⟨cur,k1,k2,fun hf=>?_,.inr (Nat.le_trans h.size k0),k3,aT.bl hk _ _ (m8 hn k4) k4⟩;have:=C.hF.1 b hf;have:=h.size;omega
  ·have Ok:=hold hp;obtain⟨B',m1,m2,m3,m4,m5⟩:=h.obj p x hp;refine⟨B',by rw[hs Ok];exact m1,m2,m3,m4,fun b hb=>?_⟩;obtain⟨cur,n1,n2,n3,n4,n5,n6⟩:=m5 b hb;exact⟨cur,by rw[hg.block b (Array.getElem?_eq_some_iff.1 n1).1 N3];exact n1,n2,n3,n4,n5,aT.bl hk _ _ (m8 hn n6) n6⟩
 ·intro p q x y b hp hq Sp Te;have key:∀ {r z},assoc s.heap r=some z→aU σ r=some b→b<w.heap.size:=fun {r z} hr W9=>by
   obtain⟨B',m1,_,_,_,m5⟩:=h.obj r z hr;obtain⟨cur,n1,_⟩:=m5 b (by simpa [aU,m1] using W9);exact (Array.getElem?_eq_some_iff.1 n1).1
  simp only[assoc] at hp hq;split at hp<;>split at hq
  ·rename_i e1 e2;rw[← e1,← e2]
  ·rename_i e1 e2;subst e1;have:=hold hq;simp only[aU,Ud,Option.bind_some] at Sp;have k1:=(P4 b Sp).1;have k2:=key hq (by simpa only[aU,hs this] using Te);omega
  ·rename_i e1 e2;subst e2;have:=hold hp;simp only[aU,Ud,Option.bind_some] at Te;have k1:=(P4 b Te).1;have k2:=key hp (by simpa only[aU,hs this] using Sp);omega
  ·have m1:=hold hp;have m2:=hold hq;exact h.inj p q x y b hp hq (by simpa only[aU,hs m1] using Sp) (by simpa only[aU,hs m2] using Te)
 ·intro p hp;have:p≠m:=fun e=>by subst e;exact absurd hp (by simp only;omega)
  rw[hs this];exact h.nx p (Nat.le_trans hxx hp)
 ·intro p hp;have:=h.low;rw[hs (show p≠m by omega)];exact h.gO p hp
 ·by_cases e:o=m
  ·subst e;rw[Ud] at Qr;cases Qr;exact .inr (Nat.le_trans h.size (P4 b hb).1)
  ·rw[hs e] at Qr;exact h.new o B' b ho Qr hb
theorem aK.fresh (h:aK C σ s a w){w':World}(hg:w.grownBy w' none){ob:Ob}{B:OB}(Oh:B.sz=ob.sz)(h1:ob.cells.all one=true)(R4:B.jI=none→ob.cells=[])
  (P4:∀ b,B.jI=some b→w.heap.size≤b∧∃ cur:Array Value,w'.heap[b]? = some (.cells cur ob.elem (0,0))∧cur.size=B.room∧ob.cells.length≤cur.size∧aT w (FB C σ s.heap) σ ob.cells (cur.toList.take ob.cells.length)) :
  aK C (sig σ s.nx B) { s with heap:=(s.nx,ob)::s.heap,nx:=s.nx+1 } a w'∧(∀ c v,VR w (FB C σ s.heap) σ c v→VR w' (FB C (sig σ s.nx B) ((s.nx,ob)::s.heap)) (sig σ s.nx B) c v):=
 h.DJ (h.nx s.nx (Nat.le_refl _)) h.low (Nat.lt_succ_self _) (Nat.le_succ _) hg Oh h1 R4 P4
theorem nB (o:Obj):w.grownBy (w.alloc o) none:=World.grownBy_alloc w o none
def r9 (av:List (Nat×TI))(s:St)(t:TypeId)(x:Operand)(v:Operand):Option St:=
 match ev s x,ev s v,assoc av t with
 | some (.aq o off),some c,some i=>
  match assoc s.heap o with
  | none=>none
  | some ob=>if dR c then none else if c.cells.length=i.size∧off+c.cells.length≤ob.cells.length then some { s with heap:=sy s.heap o { ob with cells:=gA ob.cells off c.cells } } else none
 | _,_,_=>none
theorem fE (cells:List CV)(off:Nat)(cs:List CV)(h:off+cs.length≤cells.length):(gA cells off cs).length=cells.length:=by
 simp[gA];omega
theorem xF {av:List (Nat×TI)}(ht:aF P av)(h:aK C σ s a w){o:Oper}{t:TypeId}{x v:Operand}(ho:o.op=.store t x v){s':St}(hc:r9 av s t x v=some s') :
  ∃ w',(execOp a.eval o).run P w=.ok .skip w'∧aK C σ s' a w'∧w'.heap.size=w.heap.size:=by
 unfold r9 at hc;split at hc
 ·rename_i Ov off c i hx hv hi;split at hc
  ·cases hc
  rename_i ob P7;split at hc
  ·cases hc
  rename_i Q6;split at hc
  ·rename_i hlen;cases hc;have kx:=bO h hx;have kv:=bO h hv;simp only[VR] at kx;obtain⟨B,b,hB,hb,kx⟩:=kx;obtain⟨B',e1,e2,_,e4,e5⟩:=h.obj _ ob P7;rw[hB] at e1;cases e1;obtain⟨cur,k1,k2,k3,k4,k5,k6⟩:=e5 b hb;obtain⟨f1,f2⟩:=VR.flat c _ (fun cs e=>by subst e;simp[dR] at Q6) (fun k s p e=>by subst e;simp[dR] at Q6) kv;have fl:=aT.length _ _ f1;obtain⟨f,z,g1,g2,_⟩:=(ht t i hi).info;have OH:=run_storeCells_at P b off ob.elem (a.eval v).cells.toList 0 cur w k1 (by rw[fl];omega) (aT.iA _ _ f2 f1);simp only[Nat.add_zero] at OH;refine⟨_,?_,h.write P7 hB hb (UK:=cur.toList.take off++(a.eval v).cells.toList++cur.toList.drop (off+(a.eval v).cells.toList.length)) ?_ ?_ ?_ (qI off e4 f2),by simp⟩
   ·have Oh:(a.eval v).cells.size=f.size:=by rw[g2,← hlen.1,← fl];simp
    simp only[execOp,ho,Instr.storeAt,kx,Instr.sureAddr,storeVar,Sem.run_bind,Sem.run_pure,Result.andThen_ok,cL g1];rw[if_neg (by simp[Oh])];simp only[OH,Result.andThen_ok]
   ·simp[fl];omega
   ·rw[fE _ _ _ hlen.2];simp[fl];omega
   ·rw[fE _ _ _ hlen.2];have:=ua k6 off f1;have e:(cur.toList.take off++(a.eval v).cells.toList++cur.toList.drop (off+(a.eval v).cells.toList.length)).take ob.cells.length =
      (cur.toList.take ob.cells.length).take off++(a.eval v).cells.toList++(cur.toList.take ob.cells.length).drop (off+(a.eval v).cells.toList.length):=by
     have Og:ob.cells.length≤cur.toList.length:=by simpa using k5
     generalize (a.eval v).cells.toList=us at *;rw[List.take_append,List.take_append];simp only[List.length_append,List.length_take,List.take_take,List.drop_take];rw[Nat.min_eq_right (show off≤ob.cells.length by omega),Nat.min_eq_left (show off≤cur.toList.length by omega),List.take_of_length_le (show us.length≤ob.cells.length-off by omega)];congr 2
     ·rw[Nat.min_eq_left (show off≤ob.cells.length by omega)]
    rw[e];exact this
  ·cases hc
 ·cases hc
end
def aS (z:List CV):Nat→List CV
 | 0=>[]
 | n+1=>z++aS z n
theorem e8 (z:List CV)(n:Nat):(aS z n).length=n*z.length:=by
 induction n with
 | zero=>simp[aS]
 | succ n ih=>simp[aS,ih,Nat.succ_mul,Nat.add_comm]
theorem CE (z:List CV)(n i:Nat)(h:i<n*z.length):(aS z n)[i]? = z[i % z.length]?:=by
 induction n generalizing i with
 | zero=>simp at h
 | succ n ih=>
  simp only[aS];rw[List.getElem?_append];split
  ·rename_i hi;rw[Nat.mod_eq_of_lt hi]
  ·rename_i hi;rw[ih _ (by rw[Nat.succ_mul] at h;omega)];have Q9:0<z.length:=by
    rcases Nat.eq_zero_or_pos z.length with e | e
    ·rw[e] at h;simp at h
    ·exact e
   congr 1
   conv=>rhs;rw[show i=(i-z.length)+z.length by omega]
   rw[Nat.add_mod_right]
theorem CD (c:CV)(n:Nat):aS [c] n=List.replicate n c:=by
 induction n with
 | zero=>rfl
 | succ n ih=>simp[aS,ih,List.replicate_succ]
section
variable {P:Program}{C:Cx}{σ:Nat→Option OB}{s:St}{a:Act}{w:World}
theorem lv {F:Nat→Prop}{zs:Array Value}{z:List CV}(h:aT w F σ z zs.toList)(n:Nat):aT w F σ (aS z n) (madeCells zs (n*zs.size)).toList:=by
 have hl:=aT.length _ _ h;have SJ:zs.size=z.length:=by simpa using hl
 refine aT.yv _ _ (by simp[size_madeCells,e8,SJ]) fun i c hi=>?_;have Oa:i<n*z.length:=by
  have:=(List.getElem?_eq_some_iff.1 hi).1;rwa [e8] at this
 rw[CE z n i Oa] at hi;obtain⟨v,k1,k2⟩:=aT.get _ _ h _ _ hi;refine⟨v,?_,k2⟩;have WJ:i<n*zs.size:=by rw[SJ];exact Oa
 simp only[madeCells,Array.toList_map,Array.toList_range,List.getElem?_map,List.getElem?_range WJ,Option.map_some];rw[SJ] at *;have:zs[i % z.length]? = some v:=by simpa using k1
 simp[getElem!_def,this]
theorem jB {z:List CV}(h:z.all one=true)(n:Nat):(aS z n).all one=true:=by
 induction n with
 | zero=>rfl
 | succ n ih=>simp[aS,List.all_append,h,ih]
def St.new (s:St)(e:TypeId)(sz:Nat)(cs:List CV):St:={ s with heap:=(s.nx,⟨e,sz,cs⟩)::s.heap,nx:=s.nx+1 }
theorem qU (h:aK C σ s a w){e:TypeId}{sz:Nat}{cs:List CV}{us:Array Value}(hr:aT w (FB C σ s.heap) σ cs us.toList)(h1:cs.all one=true) :
  aK C (sig σ s.nx ⟨some w.heap.size,us.size,sz⟩) (s.new e sz cs) a (w.alloc (.cells us e)):=by
 have hl:=aT.length _ _ hr;refine (h.fresh (nB _) (ob:=⟨e,sz,cs⟩) (B:=⟨some w.heap.size,us.size,sz⟩) rfl h1 N3 fun b hb=>?_).1;simp only[Option.some.injEq] at hb;subst hb;exact⟨Nat.le_refl _,us,heap_alloc_new w _,rfl,by simp only;simp at hl;omega,by simp only;rw[← hl,List.take_of_length_le (Nat.le_refl _)];exact hr⟩
def DY (av:List (Nat×TI))(s:St)(d:Option Tmp)(t:TypeId)(l c:Operand):Option St:=
 match dG av t,ev s l,ev s c with
 | some (.sl e),some (.int _ n),some (.int _ m)=>
  match assoc av e with
  | some ie=>if n=m∧0≤n∧(ie.bytes:Int)*n≤281474976710656∧n≤9223372036854775807 then some ((s.new e ie.size (aS ie.zero n.toNat)).put d (.bp s.nx 0 n.toNat)) else none
  | none=>none
 | _,_,_=>none
theorem dr {o:Nat}{B:OB}:sig σ o B o=some B:=by simp[sig]
theorem Ig {av:List (Nat×TI)}(ht:aF P av)(h:aK C σ s a w){o:Oper}{t:TypeId}{l c:Operand}(hd:∀ t,o.dst=some t→t<a.tmps.size)(ho:o.op=.makeSlice t l c){s':St}(hc:DY av s o.dst t l c=some s') :
  ∃ z w',(execOp a.eval o).run P w=.ok (.value z) w'∧Rel C s' (a.put o.dst z) w':=by
 unfold DY at hc;split at hc
 ·rename_i e k n k' m OM hl hm;obtain⟨it,Oq,OM⟩:=Option.map_eq_some_iff.1 OM;split at hc
  ·rename_i ie Oe;split at hc
   ·rename_i hb;obtain⟨rfl,h0,UD,V9⟩:=hb;cases hc;obtain⟨f,z,g1,g2,g3,g4,g5⟩:=(ht e ie Oe).info;obtain⟨k1,k2⟩:=cS (w:=w) (F:=FB C σ s.heap) _ _ g5;have kl:=bO h hl;have kc:=bO h hm;simp only[VR] at kl kc;have Oh:f.size=z.cells.size:=by rw[g2,← (ht e ie Oe).len,← bP.length _ _ k1];simp
    have hz:=lv (σ:=σ) (aT.cA _ _ k1) n.toNat;have hr:=run_make (P:=P) w t e f z (dK (ht t it Oq) OM) g1 g4 k k' n n h0 (Int.le_refl _) (by rw[g3];exact UD) V9;have O6:=qU h (e:=e) (sz:=ie.size) hz (jB k2 n.toNat);have YL:z.cells.size=ie.size:=by rw[← Oh,g2]
    rw[Oh] at hr;refine⟨.slice (some ⟨w.heap.size,0,none⟩) n.toNat n.toNat,_,by simp only[execOp,ho,kl,kc,Sem.run_bind,hr,Result.andThen_ok,Sem.run_pure],_,O6.put hd ?_⟩;simp only[VR];refine⟨_,dr,n.toNat,rfl,Nat.le_refl _,by simp only[maxLen];omega,?_,fun _=>?_⟩
    ·simp[size_madeCells,YL]
    ·simp[size_madeCells,YL]
   ·cases hc
  ·cases hc
 ·cases hc
def y8 (av:List (Nat×TI))(s:St)(d:Option Tmp)(e:TypeId):Option St:=
 match assoc av e with
 | some ie=>some ((s.new e 0 ie.zero).put d (.aq s.nx 0))
 | none=>none
theorem Fx {av:List (Nat×TI)}(ht:aF P av)(h:aK C σ s a w){o:Oper}{e:TypeId}(hd:∀ t,o.dst=some t→t<a.tmps.size)(ho:o.op=.alloc e){s':St}(hc:y8 av s o.dst e=some s') :
  ∃ z w',(execOp a.eval o).run P w=.ok (.value z) w'∧Rel C s' (a.put o.dst z) w':=by
 unfold y8 at hc;split at hc
 ·rename_i ie Oe;cases hc;obtain⟨f,z,g1,_,_,g4,g5⟩:=(ht e ie Oe).info;obtain⟨k1,k2⟩:=cS (w:=w) (F:=FB C σ s.heap) _ _ g5;have O6:=qU h (e:=e) (sz:=0) (aT.cA _ _ k1) k2;refine⟨.pointer (some ⟨w.heap.size,0,none⟩),_,?_,_,O6.put hd ?_⟩
  ·simp[execOp,ho,Instr.alloc,iU g1 g4,newVar,newRow]
  ·simp only[VR];exact⟨_,_,dr,rfl,rfl⟩
 ·cases hc
def Kh (s:St)(d:Option Tmp)(e:TypeId)(x:Operand):Option St:=
 match ev s x with
 | some c=>if dR c then none else some ((s.new e 0 c.cells).put d (.aq s.nx 0))
 | none=>none
theorem Kg (h:aK C σ s a w){o:Oper}{e:TypeId}{x:Operand}(hd:∀ t,o.dst=some t→t<a.tmps.size)(ho:o.op=.box e x){s':St}(hc:Kh s o.dst e x=some s') :
  ∃ z w',(execOp a.eval o).run P w=.ok (.value z) w'∧Rel C s' (a.put o.dst z) w':=by
 unfold Kh at hc;split at hc
 ·rename_i c hx;split at hc
  ·cases hc
  rename_i Q6;cases hc;obtain⟨f1,f2⟩:=VR.flat c _ (fun cs e=>by subst e;simp[dR] at Q6) (fun k s p e=>by subst e;simp[dR] at Q6) (bO h hx);have O6:=qU h (e:=e) (sz:=0) f1 f2;refine⟨.pointer (some ⟨w.heap.size,0,none⟩),_,?_,_,O6.put hd ?_⟩
  ·simp[execOp,ho,Instr.box,newVar,newRow]
  ·simp only[VR];exact⟨_,_,dr,rfl,rfl⟩
 ·cases hc
def kI (av:List (Nat×TI))(s:St)(d:Option Tmp)(t:TypeId)(len:Nat)(parts:List (Nat×Operand)):Option St:=
 match dG av t with
 | some (.sl e)=>
  match assoc av e,gZ s parts with
  | some ie,some cs=>
   if len*ie.size≤16777216∧len≤16777216 then
    match mI (fun i=>some (i*ie.size,ie.size)) (aS ie.zero len) cs with
    | some out=>some ((s.new e ie.size out).put d (.bp s.nx 0 len))
    | none=>none
   else none
  | _,_=>none
 | _=>none
theorem mq (place:Nat→Option (Nat×Nat)):∀ (ps:List (Nat×CV)) (cells out:List CV),mI place cells ps=some out→out.length=cells.length
 | [],cells,out,h=>by simp only[mI] at h;cases h;rfl
 | (i,c)::ps,cells,out,h=>by
  simp only[mI] at h;split at h
  ·cases h
  ·split at h
   ·cases h
   ·rename_i Oh;simp only[ne_eq,gt_iff_lt,Bool.or_eq_true,decide_eq_true_eq,not_or,Decidable.not_not,Nat.not_lt] at Oh;rw[mq place ps _ out h,fE _ _ _ Oh.2]
theorem vw {av:List (Nat×TI)}(ht:aF P av)(h:aK C σ s a w){o:Oper}{t:TypeId}{len:Nat}{parts:Array (Nat×Operand)}(hd:∀ t,o.dst=some t→t<a.tmps.size)(ho:o.op=.buildSlice t len parts){s':St}
  (hc:kI av s o.dst t len parts.toList=some s'):∃ z w',(execOp a.eval o).run P w=.ok (.value z) w'∧Rel C s' (a.put o.dst z) w':=by
 unfold kI at hc;split at hc
 ·rename_i e OM;obtain⟨it,Oq,OM⟩:=Option.map_eq_some_iff.1 OM;split at hc
  ·rename_i ie cs Oe OJ;split at hc
   ·rename_i hb;split at hc
    ·rename_i out R2;cases hc;obtain⟨f,z,g1,g2,g3,g4,g5⟩:=(ht e ie Oe).info;obtain⟨k1,k2⟩:=cS (w:=w) (F:=FB C σ s.heap) _ _ g5;have Oh:z.cells.size=ie.size:=by rw[← (ht e ie Oe).len,← bP.length _ _ k1];simp
     have hz:=lv (σ:=σ) (aT.cA _ _ k1) len;obtain⟨l1,l2⟩:=lV h _ _ OJ;obtain⟨us,m1,m2,m3⟩:=nH _ cs (parts.toList.map fun p=>(p.1,a.eval p.2)) _ out (madeCells z.cells (len*z.cells.size)) (by simpa using l1) l2 hz (jB k2 len) R2;have O6:=qU h (e:=e) (sz:=ie.size) m2 m3;have T7:us.size=len*ie.size:=by
      have:=aT.length _ _ m2;rw[mq _ _ _ _ R2,e8,(ht e ie Oe).len] at this
      simpa using this
     have hp:(parts.map fun (x:Nat×Operand)=>(x.1,a.eval x.2)).toList=parts.toList.map fun (p:Nat×Operand)=>(p.1,a.eval p.2):=by simp
     rw[Oh] at m1;refine⟨.slice (some ⟨w.heap.size,0,none⟩) len len,_,?_,_,O6.put hd ?_⟩
     ·simp only[execOp,ho,Instr.buildSlice,Sem.run_bind,bC (dK (ht t it Oq) OM),Result.andThen_ok,cL g1,g2,hp];rw[if_neg (by have:=hb.1;omega)];by_cases h0:len*ie.size=0
      ·have e0:madeCells z.cells 0=#[]:=by simp[madeCells]
       have e2:(Array.range 0).map (fun _=>(default:Value))=#[]:=by simp[Array.range_zero']
       rw[h0,e0] at m1;simp[h0,e2,m1,newRow]
      ·have e1:(Array.range (len*ie.size)).map (fun x=>z.cells[x % z.cells.size]!)=madeCells z.cells (len*ie.size):=rfl;simp[h0,iU g1 g4,e1,m1,newRow]
     ·simp only[VR];exact⟨_,dr,len,rfl,Nat.le_refl _,by have:=hb.2;simp only[maxLen];omega,by simp[T7],fun _=>T7.symm⟩
    ·cases hc
   ·cases hc
  ·cases hc
 ·cases hc
def cells? (s:St):CV→Option (List CV×Nat)
 | .az cs n=>some (cs,n)
 | .aj=>some ([],0)
 | .bp o off n=>match assoc s.heap o with
  | some ob=>some ((ob.cells.drop off).take (n*ob.sz),n)
  | none=>none
 | _=>none
def K7 (w:World)(u:Value)(m:Nat)(us:List Value):Prop:=
 (∃ c,u=.slice none 0 c∧m=0∧us=[])∨(∃ ad c,u=.slice (some ad) m c∧∀ j x,us[j]? = some x→w.cell? (ad.add j)=some x)
theorem cells?_ok (h:aK C σ s a w){c:CV}{v:Value}{cs:List CV}{m:Nat}(hv:VR w (FB C σ s.heap) σ c v)(hm:cells? s c=some (cs,m)) :
  ∃ us,aT w (FB C σ s.heap) σ cs us∧cs.all one=true∧K7 w v m us:=by
 unfold cells? at hm;split at hm
 ·cases hm;simp only[VR,bZ] at hv;obtain⟨A,cap,rfl,_,_,h4⟩:=hv;rcases h4 with ⟨rfl,rfl⟩ | ⟨ad,rfl,hmr⟩
  ·refine⟨[],by simp[aT],rfl,?_⟩
   cases A with
   | none=>exact .inl ⟨_,rfl,rfl,rfl⟩
   | some ad=>exact .inr ⟨ad,cap,rfl,by simp⟩
  ·obtain⟨us,h1,_,h3⟩:=fa.cells _ _ hmr;exact⟨us,aT.cA _ _ h1,fa.LX _ _ hmr,.inr ⟨ad,cap,rfl,h3⟩⟩
 ·cases hm;simp only[VR] at hv;subst hv;exact⟨[],by simp[aT],rfl,.inl ⟨_,rfl,rfl,rfl⟩⟩
 ·rename_i o off n;split at hm
  ·rename_i ob ho;cases hm;simp only[VR] at hv;obtain⟨B,hB,hv⟩:=hv;split at hv
   ·obtain⟨rfl,rfl,rfl⟩:=hv;exact⟨[],by simp[aT],by simp,.inl ⟨_,rfl,rfl,rfl⟩⟩
   ·rename_i b hb;obtain⟨cap,rfl,_⟩:=hv;obtain⟨us,h1,h2,h3⟩:=(G0 h ho hB hb).drop off;rw[add_lit,Nat.zero_add] at h3;refine⟨us.take (m*ob.sz),aT.take _ _ _ h1,?_,.inr ⟨_,cap,rfl,fun j x hx=>?_⟩⟩
    ·rw[List.all_eq_true] at h2 ⊢;exact fun x hx=>h2 x (List.mem_of_mem_take hx)
    ·rw[List.getElem?_take] at hx;split at hx
     ·exact h3 j x hx
     ·cases hx
  ·cases hm
 ·cases hm
theorem sX (base:Nat)(t ty e:TypeId)(i:TypeInfo)(size:Nat)(ht:P.underlying t=some (.slice e))(hi:P.info? e=some i)
  (v:Value) (n:Nat) (xs:List Value) (OC:w.ownsRow base e size v n xs) (c:Nat):(Builtin.append_ #[t,t] ty #[v,.slice none 0 c]).run P w=.ok v w:=by
 rcases OC.2 with ⟨rfl,rfl⟩ | ⟨g,cap,cur,rfl,_,_,Y2,_⟩
 ·simp[Builtin.append_,run_underlying ht,sizeOf,typeInfo,hi,Builtin.lenOf,Builtin.firstCells]
 ·simp[Builtin.append_,run_underlying ht,sizeOf,typeInfo,hi,Builtin.lenOf,Builtin.firstCells,Y2,storeCells]
theorem ni {t ty e:TypeId}{i:TypeInfo}{z:Value}{size bytes:Nat}(ht:P.underlying t=some (.slice e))(hi:P.info? e=some i)(hz:i.zero=some z)
  (Uc:i.size=size) (UD:i.bytes=bytes) (T6:z.cells.size=size) (Oh:0<size) {v u:Value} {n m:Nat} {xs us:List Value} (OC:w.ownsRow 0 e size v n xs)
  (hl:us.length=m*size) (hs:K7 w u m us) (h1:∀ u∈us,u.oneCell'=true) (V9:n+m≤maxLen) (RH:(n+m)*bytes≤140737488355328) :
  ∃ v' w',(Builtin.append_ #[t,t] ty #[v,u]).run P w=.ok v' w'∧w'.ownsRow 0 e size v' (n+m) (xs++us)∧w.grownBy w' v.ownBlock∧(v'.ownBlock=v.ownBlock∨v'.ownBlock=some w.heap.size):=by
 rcases hs with ⟨c,rfl,rfl,rfl⟩ | ⟨ad,c,rfl,hc⟩
 ·exact⟨v,w,sX 0 t ty e i size ht hi v n xs OC c,by simpa using OC,World.grownBy.refl w _,.inl rfl⟩
 ·obtain⟨v',w',k1,k2,k3,_,k5⟩:=run_append_own_at (P:=P) w 0 t ty e i z size bytes ht hi hz Uc UD T6 Oh v n xs OC ad m c us hl hc h1 V9 RH (Nat.zero_le _);exact⟨v',w',k1,k2,k3,k5⟩
theorem nk {w':World}{e:TypeId}{size:Nat}{v:Value}{k:Nat}{ys:List Value}(h:w'.ownsRow 0 e size v k ys) :
  ∃ B:OB,B.sz=size∧B.jI=v.ownBlock∧(B.jI=none→v=.slice none 0 0∧k=0∧ys=[])∧
   ∀ b,B.jI=some b→∃ cap,∃ cur:Array Value,v=.slice (some ⟨b,0,none⟩) k cap∧w'.heap[b]? = some (.cells cur e (0,0))∧k≤cap∧cap≤maxLen∧cur.size=B.room∧cap*size=B.room∧cur.toList.take ys.length=ys:=by
 have hl:=h.1;rcases h.2 with ⟨rfl,rfl⟩ | ⟨g,cap,cur,rfl,_,hg,h1,h2,h3,h4⟩
 ·exact⟨⟨none,0,size⟩,rfl,rfl,fun _=>⟨rfl,rfl,List.eq_nil_of_length_eq_zero (by simpa using hl)⟩,fun b hb=>by cases hb⟩
 ·refine⟨⟨some g,cur.size,size⟩,rfl,rfl,fun hb=>(by cases hb),fun b hb=>?_⟩;simp only[Option.some.injEq] at hb;subst hb;exact⟨cap,cur,rfl,hg,h1,h2,rfl,h3.symm,by rw[hl];exact h4⟩
theorem aK.grow (h:aK C σ s a w){o:Nat}{ob:Ob}{B B':OB}(ho:assoc s.heap o=some ob)(hB:σ o=some B){w':World}(hg:w.grownBy w' B.jI)(Oh:B'.sz=ob.sz){PO:List CV}
  (Px:∀ g,B'.jI=some g→B.jI=some g∨g=w.heap.size) (h1:PO.all one=true) (R4:B'.jI=none→PO=[])
  (P4:∀ g,B'.jI=some g→∃ cur:Array Value,w'.heap[g]? = some (.cells cur ob.elem (0,0))∧cur.size=B'.room∧PO.length≤cur.size∧aT w (FB C σ s.heap) σ PO (cur.toList.take PO.length)) :
  aK C (sig σ s.nx B') { env:=s.env,heap:=(s.nx,{ ob with cells:=PO })::j5 s.heap o,nx:=s.nx+1 } a w':=by
 obtain⟨B0,e1,e2,e3,e4,e5⟩:=h.obj o ob ho;rw[hB] at e1;cases e1;have hn:σ s.nx=none:=h.nx s.nx (Nat.le_refl _);have Ud:sig σ s.nx B' s.nx=some B':=by simp[sig]
 have hs:∀ {p},p≠s.nx→sig σ s.nx B' p=σ p:=fun {p} hp=>by simp[sig,hp]
 have hold:∀ {p x},assoc s.heap p=some x→p≠s.nx:=fun {p x} hp e=>by
  subst e;obtain⟨B2,m1,_⟩:=h.obj _ _ hp;rw[hn] at m1;cases m1
 have Vb:∀ {p y},assoc ((s.nx,({ ob with cells:=PO }:Ob))::j5 s.heap o) p=some y→(p=s.nx∧y={ ob with cells:=PO })∨(p≠s.nx∧p≠o∧assoc s.heap p=some y):=fun {p y} hp=>by
  simp only[assoc] at hp;split at hp
  ·rename_i e;cases hp;exact .inl ⟨e.symm,rfl⟩
  ·rename_i e;rw[eT] at hp;split at hp
   ·cases hp
   ·rename_i e2;exact .inr ⟨Ne.symm e,Ne.symm e2,hp⟩
 have Oa:∀ {r z b},assoc s.heap r=some z→aU σ r=some b→b<w.heap.size:=fun {r z b} hr W9=>by
  obtain⟨B2,m1,_,_,_,m5⟩:=h.obj r z hr;obtain⟨cur,n1,_⟩:=m5 b (by simpa [aU,m1] using W9);exact (Array.getElem?_eq_some_iff.1 n1).1
 have hF:∀ b,FB C (sig σ s.nx B') ((s.nx,({ ob with cells:=PO }:Ob))::j5 s.heap o) b→FB C σ s.heap b∨w.heap.size≤b:=by
  rintro b (hb | ⟨p,x,hp,hb⟩)
  ·exact .inl (.inl hb)
  ·rcases Vb hp with ⟨rfl,_⟩ | ⟨Ok,_,R1⟩
   ·simp only[aU,Ud,Option.bind_some] at hb;rcases Px b hb with hb | rfl
    ·exact .inl (.inr ⟨o,ob,ho,by simp[aU,hB,hb]⟩)
    ·exact .inr (Nat.le_refl _)
   ·simp only[aU,hs Ok] at hb;exact .inl (.inr ⟨p,x,R1,hb⟩)
 have hk:cz w w' (FB C σ s.heap) (FB C (sig σ s.nx B') ((s.nx,({ ob with cells:=PO }:Ob))::j5 s.heap o)):=kr hg (fun b e=>.inr ⟨o,ob,ho,by simp[aU,hB,e]⟩) hF;refine⟨h.oA,h.tm,hg.os.trans h.os,hg.tape.trans h.tape,hg.output.trans h.output,Nat.le_trans h.size hg.size,?_,?_,?_,?_,?_,?_,Nat.le_trans h.low (Nat.le_succ _),fun p B2 b hp OR hb=>?_⟩
 ·intro b hb OC;rw[hg.block b (Nat.lt_of_lt_of_le hb h.size) (fun e=>?_)]
  ·exact h.frame b hb OC
  ·obtain⟨cur,_,_,_,n4,_⟩:=e5 b e.symm;rcases n4 with n4 | n4
   ·exact OC n4
   ·omega
 ·intro t c hc;obtain⟨v,k3,k4⟩:=h.env t c hc;exact⟨v,k3,VR.bl hk c v (tB hn k4) k4⟩
 ·intro p x hp;rcases Vb hp with ⟨rfl,rfl⟩ | ⟨Ok,OY,R1⟩
  ·refine⟨B',Ud,Oh,R4,h1,fun g hgb=>?_⟩;obtain⟨cur,k1,k2,k3,k4⟩:=P4 g hgb;refine⟨cur,k1,k2,?_,?_,k3,aT.bl hk _ _ (m8 hn k4) k4⟩
   ·rcases Px g hgb with hb | rfl
    ·obtain⟨_,_,_,n3,_⟩:=e5 g hb;exact n3
    ·intro hf;have:=C.hF.1 _ hf;have:=h.size;omega
   ·rcases Px g hgb with hb | rfl
    ·obtain⟨_,_,_,_,n4,_⟩:=e5 g hb;exact n4
    ·exact .inr h.size
  ·obtain⟨B2,m1,m2,m3,m4,m5⟩:=h.obj p x R1;refine⟨B2,by rw[hs Ok];exact m1,m2,m3,m4,fun b hb=>?_⟩;obtain⟨cur,n1,n2,n3,n4,n5,n6⟩:=m5 b hb;have Y3:some b≠B.jI:=fun e=>OY (h.inj p o x ob b R1 ho (by simp[aU,m1,hb]) (by simp[aU,hB,e]));exact⟨cur,by rw[hg.block b (Array.getElem?_eq_some_iff.1 n1).1 Y3];exact n1,n2,n3,n4,n5,aT.bl hk _ _ (m8 hn n6) n6⟩
 ·intro p q x y b hp hq Sp Te;rcases Vb hp with ⟨rfl,rfl⟩ | ⟨TF,OY,R1⟩<;>rcases Vb hq with ⟨e,rfl⟩ | ⟨hnq,hnoq,PE⟩
  ·exact e.symm
  ·simp only[aU,Ud,Option.bind_some] at Sp;have ZG:aU σ q=some b:=by simpa only[aU,hs hnq] using Te
   rcases Px b Sp with hb | rfl
   ·exact absurd (h.inj q o y ob b PE ho ZG (by simp[aU,hB,hb])) hnoq
   ·have:=Oa PE ZG;omega
  ·subst e;simp only[aU,Ud,Option.bind_some] at Te;have ZH:aU σ p=some b:=by simpa only[aU,hs TF] using Sp
   rcases Px b Te with hb | rfl
   ·exact absurd (h.inj p o x ob b R1 ho ZH (by simp[aU,hB,hb])) OY
   ·have:=Oa R1 ZH;omega
  ·exact h.inj p q x y b R1 PE (by simpa only[aU,hs TF] using Sp) (by simpa only[aU,hs hnq] using Te)
 ·intro p hp;have:p≠s.nx:=fun e=>by subst e;exact absurd hp N3
  rw[hs this];exact h.nx p (Nat.le_of_succ_le hp)
 ·intro p hp;have:=h.low;rw[hs (show p≠s.nx by omega)];exact h.gO p hp
 ·by_cases e:p=s.nx
  ·subst e;rw[Ud] at OR;cases OR;rcases Px b hb with hb | rfl
   ·obtain⟨_,_,_,_,n4,_⟩:=e5 b hb;exact n4
   ·exact .inr h.size
  ·rw[hs e] at OR;exact h.new p B2 b hp OR hb
def oE (av:List (Nat×TI))(s:St)(d:Option Tmp)(t:TypeId)(x y:Operand):Option St:=
 match dG av t,ev s x,ev s y with
 | some (.sl e),some p,some q=>
  match assoc av e,cells? s q with
  | some ie,some (news,m)=>
   if 0<ie.size∧0<ie.bytes∧news.length=m*ie.size then
    match p with
    | .aj=>if m*ie.bytes≤140737488355328 then some ((s.new e ie.size news).put d (.bp s.nx 0 m)) else none
    | .bp o off n=>match assoc s.heap o with
     | none=>none
     | some ob=>if off=0∧ob.elem=e∧ob.sz=ie.size∧n*ie.size=ob.cells.length∧(n+m)*ie.bytes≤140737488355328 then
       some (St.put { env:=s.env,heap:=(s.nx,{ ob with cells:=ob.cells++news })::j5 s.heap o,nx:=s.nx+1 } d (.bp s.nx 0 (n+m)))
      else none
    | _=>none
   else none
  | _,_=>none
 | _,_,_=>none
theorem bG {α:Type}:∀ (l:List (Nat×α)) (t:Nat) (x:α),assoc l t=some x→(t,x)∈l
 | [],_,_,h=>by simp[assoc] at h
 | (k,v)::r,t,x,h=>by
  simp only[assoc] at h;split at h
  ·rename_i e;subst e;cases h;exact List.mem_cons_self
  ·exact List.mem_cons_of_mem _ (bG r t x h)
theorem vz {av:List (Nat×TI)}(ht:aF P av)(h:aK C σ s a w){o:Oper}{cl:Call}{t:TypeId}{x y:Operand}(hd:∀ t,o.dst=some t→t<a.tmps.size)(ho:o.op=.call cl)(Og:cl.callee=.builtin .append)(Of:cl.args=#[x,y])(PJ:cl.argTypes=#[t,t])
  {s':St} (hc:oE av s o.dst t x y=some s'):∃ z w' B,(execOp a.eval o).run P w=.ok (.value z) w'∧aK C (sig σ s.nx B) s' (a.put o.dst z) w':=by
 unfold oE at hc;split at hc
 ·rename_i e p q OM hp hq;obtain⟨it,Oq,OM⟩:=Option.map_eq_some_iff.1 OM;split at hc
  ·rename_i ie news m Oe OJ;split at hc
   ·rename_i hb;obtain⟨f,z,g1,g2,g3,g4,g5⟩:=(ht e ie Oe).info;obtain⟨k1,k2⟩:=cS (w:=w) (F:=FB C σ s.heap) _ _ g5;have T6:z.cells.size=ie.size:=by rw[← (ht e ie Oe).len,← bP.length _ _ k1];simp
    have hu:=dK (ht t it Oq) OM;obtain⟨us,u1,u2,u3⟩:=cells?_ok h (bO h hq) OJ;have ul:=aT.length _ _ u1;have uo:=aT.iA _ _ u2 u1;have hx:=bO h hp;have Pz:∀ {v' w'},(Builtin.append_ #[t,t] o.type #[a.eval x,a.eval y]).run P w=.ok v' w'→(execOp a.eval o).run P w=.ok (.value v') w':=fun {v' w'} hr=>by
     simp[execOp,ho,resolve,Og,Of,PJ,invoke,builtin,hr]
    split at hc
    ·split at hc
     ·rename_i UD;cases hc;simp only[VR] at hx;have hm:0+m≤maxLen:=by
       have:m≤m*ie.bytes:=Nat.le_mul_of_pos_right m hb.2.1;simp only[maxLen];omega
      obtain⟨v',w',r1,r2,r3,r4⟩:=ni (P:=P) (ty:=o.type) hu g1 g4 g2 g3 T6 hb.1 (World.ownsRow_nil w 0 e ie.size) (by rw[ul];exact hb.2.2) u3 uo hm (by rw[Nat.zero_add];exact UD);rw[← hx] at r1;rw[Nat.zero_add,List.nil_append] at r2;obtain⟨B,b1,b2,b3,b4⟩:=nk r2;have Vn:=h.fresh (ob:=⟨e,ie.size,news⟩) (B:=B) r3 b1 u2 (fun hn=>by
       have:=(b3 hn).2.2;rw[this] at ul;exact List.eq_nil_of_length_eq_zero ul.symm) fun b Oy=>by
        obtain⟨cap,cur,e1,e2,e3,e4,e5,e6,e7⟩:=b4 b Oy;have Qd:b=w.heap.size:=by
         rw[b2] at Oy;rcases r4 with r4 | r4<;>rw[r4] at Oy
         ·simp[Value.ownBlock] at Oy
         ·simpa using Oy.symm
        refine⟨by omega,cur,e2,e5,?_,?_⟩
        ·simp only;rw[e5,← e6,hb.2.2];exact Nat.mul_le_mul_right _ e3
        ·simp only;rw[← ul,e7];exact u1
      refine⟨v',w',B,Pz r1,Vn.1.put hd ?_⟩;simp only[VR];refine⟨B,dr,?_⟩;split
      ·rename_i hn;obtain⟨e1,e2,_⟩:=b3 hn;exact⟨e1,trivial,e2⟩
      ·rename_i b Oy;obtain⟨cap,cur,e1,e2,e3,e4,e5,e6,e7⟩:=b4 b Oy;refine⟨cap,e1,e3,e4,?_,fun _=>?_⟩<;>rw[b1]<;>omega
     ·cases hc
    ·rename_i Ov off n;split at hc
     ·cases hc
     rename_i ob P7;split at hc
     ·rename_i PE;obtain⟨rfl,rfl,q3,q4,q5⟩:=PE;cases hc;simp only[VR] at hx;obtain⟨B,hB,hx⟩:=hx;obtain⟨B0,e1,e2,e3,e4,e5⟩:=h.obj _ ob P7;rw[hB] at e1;cases e1;have hm:n+m≤maxLen:=by
       have:n+m≤(n+m)*ie.bytes:=Nat.le_mul_of_pos_right _ hb.2.1;simp only[maxLen];omega
      have OC:∃ xs,w.ownsRow 0 ob.elem ie.size (a.eval x) n xs∧aT w (FB C σ s.heap) σ ob.cells xs∧(a.eval x).ownBlock=B.jI:=by
       split at hx
       ·rename_i hn;obtain⟨e,_,rfl⟩:=hx;rw[e,e3 hn,hn];exact⟨[],World.ownsRow_nil w 0 _ _,by simp[aT],rfl⟩
       ·rename_i b Rq;obtain⟨cap,e,c1,c2,c3,c4⟩:=hx;obtain⟨cur,n1,n2,n3,n4,n5,n6⟩:=e5 b Rq;rw[e,Rq];have Qk:=c4 trivial;refine⟨cur.toList.take ob.cells.length,⟨?_,.inr ⟨b,cap,cur,rfl,Nat.zero_le _,n1,c1,c2,?_,by rw[q4]⟩⟩,n6,rfl⟩
        ·rw[List.length_take,q4];simp;omega
        ·rw[n2,← Qk,e2,q3]
      obtain⟨xs,x1,x2,x3⟩:=OC;have xl:=aT.length _ _ x2;obtain⟨v',w',r1,r2,r3,r4⟩:=ni (P:=P) (ty:=o.type) hu g1 g4 g2 g3 T6 hb.1 x1 (by rw[ul];exact hb.2.2) u3 uo hm q5;rw[x3] at r3 r4;obtain⟨B',b1,b2,b3,b4⟩:=nk r2;have Vn:=h.grow (B':=B') P7 hB r3 (by rw[b1,q3]) (PO:=ob.cells++news) (fun g hg=>by
        rw[b2] at hg;rcases r4 with r4 | r4<;>rw[r4] at hg
        ·exact .inl hg
        ·exact .inr (by simpa using hg.symm)) (by simp[e4,u2]) (fun hn=>by
        have:=(b3 hn).2.2;obtain⟨y1,y2⟩:=List.append_eq_nil_iff.1 this;rw[y1] at xl;rw[y2] at ul;rw[List.eq_nil_of_length_eq_zero xl.symm,List.eq_nil_of_length_eq_zero ul.symm];rfl) fun b Oy=>by
        obtain⟨cap,cur,e1,e2,e3,e4,e5,e6,e7⟩:=b4 b Oy;have hlen:(ob.cells++news).length=(xs++us).length:=by simp[xl,ul]
        refine⟨cur,e2,e5,?_,?_⟩
        ·rw[e5,← e6,List.length_append,← q4,hb.2.2,← Nat.add_mul];exact Nat.mul_le_mul_right _ e3
        ·rw[hlen,e7];exact aT.append _ _ _ _ x2 u1
      refine⟨v',w',B',Pz r1,Vn.put hd ?_⟩;simp only[VR];refine⟨B',dr,?_⟩;split
      ·rename_i hn;obtain⟨e1,e2,_⟩:=b3 hn;exact⟨e1,trivial,e2⟩
      ·rename_i b Oy;obtain⟨cap,cur,e1,e2,e3,e4,e5,e6,e7⟩:=b4 b Oy;refine⟨cap,e1,e3,e4,?_,fun _=>?_⟩<;>rw[b1]<;>omega
     ·cases hc
    ·cases hc
   ·cases hc
  ·cases hc
 ·cases hc
end
end Go.Can
