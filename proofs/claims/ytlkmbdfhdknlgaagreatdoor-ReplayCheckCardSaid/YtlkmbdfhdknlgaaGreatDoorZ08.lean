/- Further operations: conversions, interfaces, maps that are o -/
import Derived.Test.YtlkmbdfhdknlgaaGreatDoorZ07
import Derived.Laws.IdiomStrings
namespace Go.Can
open Go.RowKit
section
variable {P:Program}{C:Cx}{σ:Nat→Option OB}{s:St}{a:Act}{w:World}{ops:Array Oper}{ak:List (Nat×TI)}
def p5 (P:Program)(C:Cx)(o:Oper)(s s':St):Prop:=∀ a w,Rel C s a w →
 ∃ w',((∃ z,(execOp a.eval o).run P w=.ok (.value z) w'∧Rel C s' (a.put o.dst z) w')∨((execOp a.eval o).run P w=.ok .skip w'∧Rel C s' (a.put o.dst undef) w'))
theorem p5.le {o:Oper}{s1 s':St}(hl:Le C s s1)(h:p5 P C o s1 s'):p5 P C o s s':=fun a w hr=>h a w (hl a w hr)
theorem p5.Fy (ht:ay P ak){o:Oper}{s':St}(hd:a9 C.nt o.dst=true)(h:lj ak s o=some s'):p5 P C o s s':=fun _ _ hr=>sY ht hr hd h
theorem jl {o:Oper}{l:List Oper}{K:St→Prop}{s':St}(hg:bM ops s o=some true)(hx:p5 P C o s s')(h:TL P C ops l s' K):TL P C ops (o::l) s K:=by
 intro a w Q hr hQ;have hw:Region.wanted o (yielded ops a.tmps)=true:=by
  unfold bM at hg;split at hg
  ·rename_i e;simp[Region.wanted,e]
  ·rename_i j want e;split at hg
   ·cases hg
   rename_i t hj;exact jU hr e hj hg
 unfold wpList;rw[if_pos hw];refine .inl ?_;obtain⟨w',h1 | h1⟩:=hx a w hr
 ·obtain⟨z,k1,k2⟩:=h1;unfold Oper.wp;rw[k1];exact h _ _ Q k2 hQ
 ·obtain⟨k1,k2⟩:=h1;unfold Oper.wp;rw[k1];exact h _ _ Q k2 hQ
def bytesOf:List CV→Option (List UInt8)
 | []=>some []
 | .int .u8 n::r=>if 0≤n∧n<256 then (bytesOf r).map (UInt8.ofNat n.toNat :: ·) else none
 | _=>none
theorem r6 {F:Nat→Prop}:∀ (cs:List CV) (l:List UInt8) (us:List Value),bytesOf cs=some l→aG w F σ cs us→us=l.map fun b=>Value.int .u8 (b.toNat:Int)
 | [],l,us,h,hr=>by
  simp only[bytesOf] at h;cases h
  simpa [aG] using hr
 | c::cs,l,us,h,hr=>by
  simp only[aG] at hr;obtain⟨v,r,rfl,h1,h2⟩:=hr;unfold bytesOf at h;split at h
  ·rename_i e;cases e
  ·rename_i n r' e;cases e;split at h
   ·rename_i hn;obtain⟨l',h3,rfl⟩:=Option.map_eq_some_iff.1 h;simp only[VR] at h1;subst h1;rw[r6 cs l' r h3 h2];simp only[List.map_cons,List.cons.injEq,Value.int.injEq,true_and,and_true];have:(UInt8.ofNat n.toNat).toNat=n.toNat:=by
     have e:(UInt8.ofNat n.toNat).toNat=n.toNat % 256:=UInt8.toNat_ofNat';rw[e];omega
    rw[this];omega
   ·cases h
  ·cases h
def oE (ak:List (Nat×TI))(s:St)(a b:TypeId)(x:Operand):Option CV:=
 match ev s x,cY ak a,cY ak b with
 | some (.int _ n),some _,some (.int k)=>some (.int k (k.wrap n))
 | some (.str v),some _,some .str=>some (.str v)
 | some c,some (.sl e),some .str=>match cY ak e,cells? s c with
  | some (.int .u8),some (cs,m)=>if cs.length=m then (bytesOf cs).map fun l=>.str ⟨l.toArray⟩ else none
  | _,_=>none
 | _,_,_=>none
theorem dK (ht:ay P ak){t:TypeId}{d:TD}(h:cY ak t=some d):∃ i,assoc ak t=some i∧i.d=d∧∃ u,P.underlying t=some u∧p7 u=d:=by
 obtain⟨i,h1,h2⟩:=Option.map_eq_some_iff.1 h;obtain⟨u,h3,h4⟩:=(ht t i h1).yd;exact⟨i,h1,h2,u,h3,h4.trans h2⟩
theorem qg {t:TypeId}{k:IntKind}(ht:ay P ak)(h:cY ak t=some (.int k)):P.underlying t=some (.int k):=by
 obtain⟨_,_,_,u,h1,h2⟩:=dK ht h;cases u<;>simp only[p7] at h2<;>first | cases h2 | skip
 exact h1
theorem xV (ht:ay P ak)(h:aB C σ s a w){t u:TypeId}{x:Operand}{c:CV}(hc:oE ak s t u x=some c):∃ z,(convert t u (a.eval x)).run P w=.ok z w∧VR w (FB C σ s.heap) σ c z:=by
 unfold oE at hc;split at hc
 ·rename_i k0 n d k hx h1 h2;cases hc;have hv:=bD h hx;simp only[VR] at hv;obtain⟨_,_,_,ud,g1,_⟩:=dK ht h1;have g2:=qg ht h2;refine⟨.int k (k.wrap n),?_,de _ _⟩;rw[hv];simp[convert,run_underlying g1,run_underlying g2,Conv.intToInt]
 ·rename_i v d hx h1 h2;cases hc;have hv:=bD h hx;simp only[VR] at hv;obtain⟨_,_,_,ud,g1,_⟩:=dK ht h1;obtain⟨i,i1,i2,_⟩:=dK ht h2;have g2:=kq (ht u i i1) i2;refine⟨.string v,?_,vA _⟩;rw[hv];simp[convert,run_underlying g1,run_underlying g2]
 ·rename_i c' e _ hx h1 h2;split at hc
  ·rename_i cs m he Kr;split at hc
   ·rename_i hlen;obtain⟨l,hl,rfl⟩:=Option.map_eq_some_iff.1 hc;obtain⟨i1,a1,a2,_⟩:=dK ht h1;obtain⟨i2,b1,b2,_⟩:=dK ht h2;have g1:=da (ht t i1 a1) a2;have g2:=kq (ht u i2 b1) b2;have g3:=qg ht he;obtain⟨us,k1,_,k3⟩:=cells?_ok h (bD h hx) Kr;have Pb:=r6 _ _ _ hl k1;have MD:l.length=m:=by
     have:=aG.length _ _ k1;rw[Pb,List.length_map] at this;omega
    refine⟨.string ⟨l.toArray⟩,?_,vA _⟩;rcases k3 with ⟨cp,e1,e2,e3⟩ | ⟨ad,cp,e1,e2⟩
    ·have:l=[]:=List.eq_nil_of_length_eq_zero yA;subst this;rw[e1,run_convert_bytes_string w t u e none 0 cp g1 g3 g2];rfl
    ·rw[e1];subst MD;refine run_convert_bytes_back w t u e ad cp l g1 g3 g2 fun j hj=>?_;refine e2 j _ ?_;rw[Pb];simp[hj]
   ·cases hc
  ·cases hc
 ·cases hc
def nw (b:ByteArray):List CV:=b.data.toList.map fun x=>.int .u8 (x.toNat:Int)
theorem BD {F:Nat→Prop}(b:ByteArray):bt w F (nw b) (b.data.toList.map fun x=>Value.int .u8 (x.toNat:Int))∧(nw b).all one=true:=by
 unfold nw;generalize b.data.toList=l
 induction l with
 | nil=>simp[bt]
 | cons x r ih=>
  simp only[List.map_cons,bt,List.all_cons,ih.2,Bool.and_true];exact⟨⟨_,_,rfl,by simp[bK],ih.1⟩,rfl⟩
theorem ep {o:Oper}(hd:a9 C.nt o.dst=true)(h:aB C σ s a w){c:CV}{v:Value}(hv:VR w (FB C σ s.heap) σ c v):Rel C (s.put o.dst c) (a.put o.dst v) w:=
 ⟨σ,h.put (fun t e=>by rw[h.tm];rw[e] at hd;simpa [a9] using hd) hv⟩
theorem uA (ht:ay P ak){o:Oper}{t u e:TypeId}{x:Operand}{b:ByteArray}(hd:a9 C.nt o.dst=true)(ho:o.op=.convert t u x)(hx:ev s x=some (.str b))(h1:cY ak t=some .str)(h2:cY ak u=some (.sl e))(h3:cY ak e=some (.int .u8))(hm:b.size≤1000000) :
  p5 P C o s (s.put o.dst (.au (nw b) b.size)):=by
 rintro a w ⟨σ,h⟩;obtain⟨i1,a1,a2,_⟩:=dK ht h1;obtain⟨i2,b1,b2,_⟩:=dK ht h2;have g1:=kq (ht t i1 a1) a2;have g2:=da (ht u i2 b1) b2;have g3:=qg ht h3;have hv:=bD h hx;simp only[VR] at hv;have K6:=run_bytes_of_string (P:=P) w t u e b g1 g2 g3;have hb:Below w.heap.size w (w.drew.alloc (.cells (bytesRow b (grownCap w b.size 0 e)) e ((bytesRow b (grownCap w b.size 0 e)).size,(bytesRow b (grownCap w b.size 0 e)).size+1))):=
  ⟨rfl,rfl,rfl,by simp,fun k hk=>heap_alloc_old w.drew _ k hk⟩
 have KM:(w.drew.alloc (.cells (bytesRow b (grownCap w b.size 0 e)) e ((bytesRow b (grownCap w b.size 0 e)).size,(bytesRow b (grownCap w b.size 0 e)).size+1))).heap[w.heap.size]? = some (.cells (bytesRow b (grownCap w b.size 0 e)) e ((bytesRow b (grownCap w b.size 0 e)).size,(bytesRow b (grownCap w b.size 0 e)).size+1)):=heap_alloc_new w.drew _;revert hb KM;generalize KA:(w.drew.alloc (.cells (bytesRow b (grownCap w b.size 0 e)) e ((bytesRow b (grownCap w b.size 0 e)).size,(bytesRow b (grownCap w b.size 0 e)).size+1)))=w';rw[KA] at K6;intro hb KM;refine⟨w',.inl ⟨.slice (some ⟨w.heap.size,0,none⟩) b.size (grownCap w b.size 0 e),by simp[execOp,ho,hv,K6],ep hd (h.below hb) ?_⟩⟩;obtain⟨k1,k2⟩:=BD (w:=w') (F:=FB C σ s.heap) b;simp only[VR,bK];have MN:b.size≤grownCap w b.size 0 e:=grownCap_ge w b.size 0 e;refine⟨_,_,rfl,MN,grownCap_le_maxLen w _ _ _ (by simp only[maxLen];omega),.inr ⟨_,rfl,?_⟩⟩;refine gj _ _ _ k1 k2 (fun hf=>?_) fun j v hj=>?_
 ·have:=Az h _ hf;simp at this
 ·rw[add_lit,Nat.zero_add,cell_of_row w' _ _ _ _ _ KM];rw[List.getElem?_map] at hj;obtain⟨y,hy,rfl⟩:=Option.map_eq_some_iff.1 hj;have yN:j<b.data.size:=by simpa using (List.getElem?_eq_some_iff.1 hy).1
  rw[bytesRow_at b _ j yN];have:y=b.data[j]:=by
   have:=(List.getElem?_eq_some_iff.1 hy).2
   simpa using this.symm
  rw[this]
def DN (s:St)(o:Nat)(ob:Ob)(d:Option Tmp)(off n:Nat):St:=(s.dC o ob).put d (.au ((ob.cells.drop off).take (n*ob.sz)) n)
theorem zY (ht:ay P ak){o:Oper}{t e:TypeId}{x:Operand}{p off n:Nat}{ob:Ob}(hd:a9 C.nt o.dst=true)(ho:o.op=.convert t t x)(hx:ev s x=some (.bw p off n))(hn:0<n)(h2:cY ak t=some (.sl e))(h3:cY ak e=some (.int .u8))
  (LB:assoc s.heap p=some ob) (LN:trees ob.cells=true):p5 P C o s (DN s p ob o.dst off n):=by
 rintro a w ⟨σ,h⟩;obtain⟨i2,b1,b2,_⟩:=dK ht h2;have g2:=da (ht t i2 b1) b2;have g3:=qg ht h3;have hv:=bD h hx;have Sb:=hv;simp only[VR] at hv;obtain⟨B,hB,hv⟩:=hv;obtain⟨B',e1,e2,e3,e4,e5⟩:=h.obj p ob LB;rw[hB] at e1;cases e1
 cases KZ:B.iI with
 | none=>rw[KZ] at hv;simp only at hv;omega
 | some b=>
  rw[KZ] at hv;simp only at hv;obtain⟨cap,hv,c1,c2,c3,c4⟩:=hv;obtain⟨cur,n1,n2,n3,n4,n5,n6⟩:=e5 b KZ;have yN:=(Array.getElem?_eq_some_iff.1 n1).1;have Zg:w.shape? b=some (ob.elem,cur.size):=by unfold World.shape?;rw[n1]
  let w':World:=w.freeze ⟨b,cur.size,none⟩ 1
  have KA:w'.heap=w.heap.modify b (fun | .cells c elem (lo,hi)=>.cells c elem (if lo == hi then (cur.size,cur.size+1) else (min lo cur.size,max hi (cur.size+1))) | o=>o):=rfl;have Ko:∀ k,k≠b→w'.heap[k]? = w.heap[k]?:=fun k hk=>by
   rw[KA,Array.getElem?_modify,if_neg (Ne.symm hk)]
  have LA:w'.heap[b]? = some (.cells cur ob.elem (cur.size,cur.size+1)):=by
   rw[KA,Array.getElem?_modify,if_pos rfl,n1];rfl
  have KW:∀ ad,w'.cell? ad=w.cell? ad:=fun ad=>by
   by_cases hk:ad.block=b
   ·unfold World.cell?;rw[hk,LA,n1]
   ·exact World.cell?_of_block (Ko _ hk)
  have hk:∀ F:Nat→Prop,b9 w w' F F:=fun F=>⟨fun ad u hf hu=>⟨by rw[KW];exact hu,hf⟩,fun r x hf hu hx=>by
   have F0:r≠b:=fun e=>by subst e;rw[n1] at hu;cases hu;exact hx _ _ _ rfl
   exact⟨by rw[Ko r F0];exact hu,hf⟩⟩
  have h':=h.dC LB LN;have Tl:∀ q y,assoc (s.dC p ob).heap q=some y→aH σ q≠some b:=fun q y hq hb=>by
   obtain⟨F0,z,hz,_⟩:=eN _ _ _ hq;exact F0 (h.inj q p z ob b hz LB hb (by simp[aH,hB,KZ]))
  have Ni:aB C σ (s.dC p ob) a w':=by
   refine⟨h'.me,h'.tm,h'.os,h'.tape,h'.output,?_,?_,?_,?_,h'.inj,h'.nx,h'.fM,h'.low,h'.new⟩
   ·rw[KA,Array.size_modify];exact h'.size
   ·intro k N6 MX;rw[Ko k (fun e=>?_)]
    ·exact h'.frame k N6 MX
    ·subst e;rcases n4 with n4 | n4
     ·exact MX n4
     ·omega
   ·intro t c hc;obtain⟨v,k1,k2⟩:=h'.env t c hc;exact⟨v,k1,VR.a7 (hk _) c v (fun _ _=>rfl) k2⟩
   ·intro q y hq;obtain⟨B2,m1,m2,m3,m4,m5⟩:=h'.obj q y hq;refine⟨B2,m1,m2,m3,m4,fun b2 K0=>?_⟩;obtain⟨Od,q1,q2,q3,q4,q5,q6⟩:=m5 b2 K0;have F0:b2≠b:=fun e=>Tl q y hq (by simp[aH,m1,K0,e]);exact⟨Od,by rw[Ko b2 F0];exact q1,q2,q3,q4,q5,aG.a7 (hk _) _ _ (fun _ _=>rfl) q6⟩
  have KQ:VR w' (FB C σ (s.dC p ob).heap) σ (.au ((ob.cells.drop off).take (n*ob.sz)) n) (a.eval x):=by
   cases x with
   | tmp t=>
    have LY:assoc (s.dC p ob).env t=some (.au ((ob.cells.drop off).take (n*ob.sz)) n):=by
     have K5:assoc s.env t=some (.bw p off n):=hx;have:∀ l:List (Nat×CV),assoc l t=some (.bw p off n)→assoc (sL p ob.cells ob.sz l) t=some (.au ((ob.cells.drop off).take (n*ob.sz)) n):=by
      intro l
      induction l with
      | nil=>intro h;cases h
      | cons y r ih=>
       obtain⟨k,c⟩:=y;intro hl;simp only[sL,assoc] at hl ⊢;split at hl
       ·rename_i e;cases hl;rw[if_pos e];simp[bZ]
       ·rename_i e;rw[if_neg e];exact ih hl
     exact this s.env K5
    obtain⟨v,k1,k2⟩:=Ni.env t _ LY;have:a.eval (.tmp t)=v:=by simp[Act.eval,k1]
    rw[this];exact k2
   | const v=>exact absurd hx (by
     simp only[ev];intro hc;have:=nu (w:=w) (F:=fun _=>False) hc;simp[bK] at this)
   | func f=>cases hx
   | global g=>
    simp only[ev,Option.bind_eq_some_iff,Option.map_eq_some_iff] at hx;obtain⟨_,_,_,_,h⟩:=hx;cases h
  have K6:(execOp a.eval o).run P w=.ok (.value (a.eval x)) w':=by
   rw[hv];simp[execOp,ho,hv,convert,run_underlying g2,run_underlying g3,markStringish,Zg,w']
  exact⟨w',.inl ⟨_,K6,ep hd Ni KQ⟩⟩
theorem fT (ht:ay P ak){o:Oper}{t:TypeId}{x:Operand}{c:CV}{d:TD}(hd:a9 C.nt o.dst=true)(ho:o.op=.makeInterface t x)(hx:ev s x=some c)(h1:cY ak t=some d)(hn:d=.oth→False):p5 P C o s (s.put o.dst (.iface t [c])):=by
 rintro a w ⟨σ,h⟩;obtain⟨i1,a1,a2,u,g1,g2⟩:=dK ht h1;have hv:=bD h hx;refine⟨w,.inl ⟨.iface t (a.eval x),?_,ep hd h ?_⟩⟩
 ·have hu:(underlying t).run P w=.ok u w:=bp g1 w;have:(Instr.makeInterface t (a.eval x)).run P w=.ok (.iface t (a.eval x)) w:=by
   unfold Instr.makeInterface;simp only[Sem.run_bind,hu,Result.andThen_ok];cases u<;>first | rfl | (exact absurd g2.symm hn)
  simp[execOp,ho,this]
 ·simp only[VR,aG];exact⟨[a.eval x],rfl,a.eval x,[],rfl,hv,rfl⟩
theorem Iy (ht:ay P ak){o:Oper}{cl:Call}{t e:TypeId}{x:Operand}(hd:a9 C.nt o.dst=true)(ho:o.op=.call cl)(De:cl.callee=.builtin .cap)(AW:cl.args=#[x])(Lg:cl.argTypes=#[t])(hx:ev s x=some .ag)(h1:cY ak t=some (.sl e)):p5 P C o s (s.put o.dst (.int .i64 0)):=by
 rintro a w ⟨σ,h⟩;obtain⟨i1,a1,a2,_⟩:=dK ht h1;have g1:=da (ht t i1 a1) a2;have hv:=bD h hx;simp only[VR] at hv;refine⟨w,.inl ⟨.int .i64 0,?_,ep hd h (de _ _)⟩⟩;simp[execOp,ho,resolve,De,AW,Lg,invoke,builtin,Builtin.cap_,run_underlying g1,hv,goInt]
theorem aB.zy (h:aB C σ s a w)(x:Obj):aB C (sig σ s.nx ⟨some w.heap.size,0,0⟩) ⟨s.env,s.heap,s.nx+1⟩ a (w.alloc x)∧¬ FB C (sig σ s.nx ⟨some w.heap.size,0,0⟩) s.heap w.heap.size:=by
 have hn:σ s.nx=none:=h.nx s.nx (Nat.le_refl _);have hg:w.grownBy (w.alloc x) none:=lG _;have hold:∀ {p x},assoc s.heap p=some x→p≠s.nx:=fun {p x} hp e=>by
  subst e;obtain⟨B',e1,_⟩:=h.obj _ _ hp;rw[hn] at e1;cases e1
 have OA:∀ {p},p≠s.nx→sig σ s.nx ⟨some w.heap.size,0,0⟩ p=σ p:=fun {p} hp=>by simp[sig,hp]
 have hF:∀ b',FB C (sig σ s.nx ⟨some w.heap.size,0,0⟩) s.heap b'→FB C σ s.heap b':=by
  rintro b' (hb | ⟨p,y,hp,hb⟩)
  ·exact .inl hb
  ·simp only[aH,OA (hold hp)] at hb;exact .inr ⟨p,y,hp,hb⟩
 have hk:b9 w (w.alloc x) (FB C σ s.heap) (FB C (sig σ s.nx ⟨some w.heap.size,0,0⟩) s.heap):=jj hg (fun b e=>by cases e) fun b' Kc=>.inl (hF b' Kc);refine⟨⟨h.me,h.tm,h.os,h.tape,h.output,Nat.le_trans h.size hg.size,?_,?_,?_,?_,?_,?_,Nat.le_trans h.low (Nat.le_succ _),?_⟩,fun hf=>?_⟩
 ·intro k N6 MX;rw[hg.block k (Nat.lt_of_lt_of_le N6 h.size) j5];exact h.frame k N6 MX
 ·intro t c hc;obtain⟨v,k1,k2⟩:=h.env t c hc;exact⟨v,k1,VR.a7 hk c v (qj hn k2) k2⟩
 ·intro q y hq;obtain⟨B2,m1,m2,m3,m4,m5⟩:=h.obj q y hq;refine⟨B2,by rw[OA (hold hq)];exact m1,m2,m3,m4,fun b2 K0=>?_⟩;obtain⟨Od,q1,q2,q3,q4,q5,q6⟩:=m5 b2 K0;exact⟨Od,by rw[hg.block b2 (Array.getElem?_eq_some_iff.1 q1).1 j5];exact q1,q2,q3,q4,q5,aG.a7 hk _ _ (ln hn q6) q6⟩
 ·intro p q y z b' hp hq NU Ov;simp only[aH,OA (hold hp)] at NU;simp only[aH,OA (hold hq)] at Ov;exact h.inj p q y z b' hp hq NU Ov
 ·intro p hp;have:p≠s.nx:=fun e=>by subst e;exact absurd hp j5
  rw[OA this];exact h.nx p (Nat.le_of_succ_le hp)
 ·intro p hp;have:=h.low;rw[OA (show p≠s.nx by omega)];exact h.fM p hp
 ·intro p B b' hp hB hb;by_cases e:p=s.nx
  ·subst e;rw[cN] at hB;cases hB;simp only[Option.some.injEq] at hb;subst hb;exact .inr h.size
  ·rw[OA e] at hB;exact h.new p B b' hp hB hb
 ·have:=Az h _ (hF _ hf);omega
theorem HU {o:Oper}{t:TypeId}(hd:a9 C.nt o.dst=true)(ho:o.op=.makeMap t none):p5 P C o s (St.put ⟨s.env,s.heap,s.nx+1⟩ o.dst (.mp s.nx [])):=by
 rintro a w ⟨σ,h⟩;obtain⟨h',hf⟩:=h.zy (.map #[] 0);refine⟨w.alloc (.map #[] 0),.inl ⟨.map (some w.heap.size),?_,ep hd h' ?_⟩⟩
 ·simp[execOp,ho,Instr.makeMap]
 ·simp only[VR];exact⟨_,w.heap.size,#[],0,cN,rfl,rfl,heap_alloc_new w _,rfl,List.nodup_nil,hf⟩
theorem CN (ht:ay P ak){o:Oper}{t:TypeId}{x:Operand}{b:ByteArray}(hd:a9 C.nt o.dst=true)(ho:o.op=.range t x)(hx:ev s x=some (.str b))(h1:cY ak t=some .str):p5 P C o s (St.put ⟨s.env,s.heap,s.nx+1⟩ o.dst (.iter s.nx b 0)):=by
 rintro a w ⟨σ,h⟩;obtain⟨i1,a1,a2,_⟩:=dK ht h1;have g1:=kq (ht t i1 a1) a2;have hv:=bD h hx;simp only[VR] at hv;obtain⟨h',hf⟩:=h.zy (.stringIter b 0);refine⟨w.alloc (.stringIter b 0),.inl ⟨.pointer (some ⟨w.heap.size,0,none⟩),?_,ep hd h' ?_⟩⟩
 ·simp[execOp,ho,Instr.range,run_underlying g1,hv]
 ·simp only[VR];exact⟨_,w.heap.size,cN,rfl,rfl,heap_alloc_new w _,hf⟩
def rE (k:Nat):CV→Bool
 | .iter k' _ _=>k' == k
 | _=>false
def tG (k:Nat)(b:ByteArray)(p:Nat):List (Nat×CV)→List (Nat×CV)
 | []=>[]
 | (t,c)::r=>(t,if rE k c then .iter k b p else c)::tG k b p r
theorem pX {k:Nat}{b:ByteArray}{p:Nat}:∀ (l:List (Nat×CV)) (t:Nat) (c:CV),assoc (tG k b p l) t=some c→∃ d,assoc l t=some d∧c=if rE k d then .iter k b p else d
 | [],t,c,h=>by simp[tG,assoc] at h
 | (u,d)::r,t,c,h=>by
  simp only[tG,assoc] at h ⊢;split at h
  ·rename_i e;cases h;rw[if_pos e];exact⟨d,rfl,rfl⟩
  ·rename_i e;rw[if_neg e];exact pX r t c h
def GH:CV→Bool
 | .mp _ _=>true
 | _=>false
def C7 (s:St)(k:Nat):Bool:=(s.env.all fun x=>jD x.2 || rE k x.2 || GH x.2) && s.heap.all fun x=>ik x.2.cells
def D8 (s:St)(d:Option Tmp)(k:Nat)(b:ByteArray)(p:Nat):Option St:=
 if p<b.size then if C7 s k then some (St.put { s with env:=tG k b (p+(Utf8.decode b p).2) s.env } d (.db [.bool true,.int .i64 p,.int .i32 (Utf8.decode b p).1])) else none
 else some (s.put d (.db [.bool false]))
theorem bX {o:Oper}{x:Operand}{k p:Nat}{b:ByteArray}{s':St}(hd:a9 C.nt o.dst=true)(ho:o.op=.next x true)(hx:ev s x=some (.iter k b p))(Wl:C.n0≤k)(hs:D8 s o.dst k b p=some s'):p5 P C o s s':=by
 rintro a w ⟨σ,h⟩;have hv:=bD h hx;simp only[VR] at hv;obtain⟨B,r,hB,hb,hv,hr,hf⟩:=hv;have LG:w.heap[r]? = some (.stringIter b p):=hr;have Lc:=(Array.getElem?_eq_some_iff.1 hr).1;unfold D8 at hs;split at hs
 ·rename_i yN;split at hs
  ·rename_i Kb;cases hs;simp only[C7,Bool.and_eq_true,List.all_eq_true,Bool.or_eq_true] at Kb;let w':World:={ w with heap:=w.heap.setIfInBounds r (.stringIter b (p+(Utf8.decode b p).2)) }
   have Ko:∀ j,j≠r→w'.heap[j]? = w.heap[j]?:=fun j hj=>by
    simp[w',Ne.symm hj]
   have LA:w'.heap[r]? = some (.stringIter b (p+(Utf8.decode b p).2)):=by
    simp[w',Lc]
   have CX:w'.heap.size=w.heap.size:=by simp[w']
   have Rm:∀ F:Nat→Prop,kP w w' F F:=fun F ad u hf hu=>by
    have F0:ad.block≠r:=fun e=>by
     unfold World.cell? at hu;rw[e,hr] at hu;cases hu
    exact⟨by rw[World.cell?_of_block (Ko _ F0)];exact hu,hf⟩
   have h':aB C σ { s with env:=tG k b (p+(Utf8.decode b p).2) s.env } a w':=by
    refine⟨h.me,h.tm,h.os,h.tape,h.output,by rw[CX];exact h.size,?_,?_,?_,h.inj,h.nx,h.fM,h.low,h.new⟩
    ·intro j Wn Px;rw[Ko j (fun e=>?_)]
     ·exact h.frame j Wn Px
     ·subst e;rcases h.new k B j Wl hB hb with n4 | n4
      ·exact Px n4
      ·omega
    ·intro t c hc;obtain⟨d,Ks,rfl⟩:=pX _ _ _ hc;obtain⟨v,k1,k2⟩:=h.env t d Ks;refine⟨v,k1,?_⟩;by_cases hi:rE k d=true
     ·rw[if_pos hi];cases d<;>simp only[rE,Bool.false_eq_true] at hi;rename_i k' b' p';have:k'=k:=by simpa using hi
      subst this;simp only[VR] at k2 ⊢;obtain⟨B2,r2,q1,q2,q3,q4,q5⟩:=k2;rw[hB] at q1;cases q1;rw[hb] at q2;cases q2;exact⟨B,r,hB,hb,q3,LA,q5⟩
     ·rw[if_neg hi];rcases Kb.1 _ (br _ _ _ Ks) with (q | q) | q
      ·exact VR.lD (Rm _) _ _ q k2
      ·exact absurd q hi
      ·cases d<;>simp only[GH,Bool.false_eq_true] at q;simp only[VR] at k2 ⊢;obtain⟨B2,r2,arr,clock,q1,q2,q3,q4,q5,q6,q7⟩:=k2;have F0:r2≠r:=fun e=>by rw[e,hr] at q4;cases q4
       exact⟨B2,r2,arr,clock,q1,q2,q3,by rw[Ko r2 F0];exact q4,q5,q6,q7⟩
    ·intro q y hq;obtain⟨B2,m1,m2,m3,m4,m5⟩:=h.obj q y hq;refine⟨B2,m1,m2,m3,m4,fun b2 K0=>?_⟩;obtain⟨Od,q1,q2,q3,q4,q5,q6⟩:=m5 b2 K0;have F0:b2≠r:=fun e=>by subst e;rw[hr] at q1;cases q1
     exact⟨Od,by rw[Ko b2 F0];exact q1,q2,q3,q4,q5,aG.lD (Rm _) _ _ (Kb.2 _ (br _ _ _ hq)) q6⟩
   refine⟨w',.inl ⟨.tuple #[.bool true,goInt p,.int .i32 (Utf8.decode b p).1],?_,ep hd h' ?_⟩⟩
   ·simp[execOp,ho,hv,Instr.next,getObj,setObj,Sem.run,LG,yN,w']
   ·simp only[VR,aG];exact⟨[_,_,_],rfl,_,_,rfl,rfl,_,_,rfl,rfl,_,_,rfl,rfl,rfl⟩
  ·cases hs
 ·rename_i MN;cases hs;refine⟨w,.inl ⟨.tuple #[.bool false],?_,ep hd h ?_⟩⟩
  ·simp[execOp,ho,hv,Instr.next,getObj,Sem.run,LG,MN]
  ·simp only[VR,aG];exact⟨[_],rfl,_,_,rfl,rfl,rfl⟩
end
section
variable {P:Program}{C:Cx}{s:St}{ops:Array Oper}{ak:List (Nat×TI)}
def Aw (ak:List (Nat×TI))(s:St)(d:Option Tmp)(x y:Operand)(t it:TypeId):Option St:=
 match cY ak t,cY ak it,ev s x,ev s y with
 | some (.sl e),some (.int .i64),some (.bw p 0 n),some (.int .i64 mi)=>match assoc ak e,assoc s.heap p with
  | some ie,some ob=>if 0<ie.size∧0<ie.bytes∧ob.elem=e∧ob.sz=ie.size∧n*ie.size=ob.cells.length∧(n+mi.toNat)*ie.bytes≤140737488355328∧0<mi then some (AppZ s d p n mi.toNat ob ie.zero) else none
  | _,_=>none
 | _,_,_,_=>none
theorem xZ (ht:ay P ak){o:Oper}{cl:Call}{t it:TypeId}{x y:Operand}{s':St}(hd:a9 C.nt o.dst=true)(ho:o.op=.call cl)(De:cl.callee=.builtin .append)(AW:cl.args=#[x,y])(Lg:cl.argTypes=#[t,it])(h:Aw ak s o.dst x y t it=some s'):p5 P C o s s':=by
 unfold Aw at h;split at h
 ·rename_i e p n mi h1 h2 h3 h4;split at h
  ·rename_i ie ob h5 h6;split at h
   ·rename_i hc;cases h;obtain⟨c1,c2,c3,c4,c5,c6,c7⟩:=hc;obtain⟨ii,Kp,KK⟩:=Option.map_eq_some_iff.1 h2;have hm:((mi.toNat:Nat):Int)=mi:=by omega
    intro a w hr;obtain⟨z,w',s',k1,k2,k3⟩:=Gg (P:=P) (C:=C) (s:=s) ht (m:=mi.toNat) hd ho De AW Lg h1 h5 Kp KK h3 (by rw[hm];exact h4) h6 c1 c2 c3 c4 c5 c6 yA rfl a w hr;cases k2;exact⟨w',.inl ⟨z,k1,k3⟩⟩
   ·cases h
  ·cases h
 ·cases h
def ID (ak:List (Nat×TI))(s:St)(o:Oper)(x y:Operand)(t it:TypeId):Option St:=
 match Aw ak s o.dst x y t it with
 | some s'=>some s'
 | none=>match x,ev s x with
  | .tmp tx,some .ag=>match cY ak t with
   | some (.sl e)=>match assoc ak e with
    | some ie=>match assoc s.env tx with
     | some .ag=>Aw ak (s.own tx e ie.size) o.dst x y t it
     | _=>none
    | none=>none
   | _=>none
  | _,some (.bw p _ n)=>match assoc s.heap p with
   | some ob=>lj ak (s.cut p ob (n*ob.sz)) o
   | none=>none
  | _,_=>none
theorem Gf (ht:ay P ak){o:Oper}{cl:Call}{t it:TypeId}{x y:Operand}{s':St}(hd:a9 C.nt o.dst=true)(ho:o.op=.call cl)(De:cl.callee=.builtin .append)(AW:cl.args=#[x,y])(Lg:cl.argTypes=#[t,it])(h:ID ak s o x y t it=some s'):p5 P C o s s':=by
 unfold ID at h;split at h
 ·rename_i s1 h1;cases h;exact xZ ht hd ho De AW Lg h1
 ·split at h
  ·rename_i tx _ hx;split at h
   ·rename_i e h1;split at h
    ·rename_i ie h2;split at h
     ·rename_i h3;exact p5.le (Le.own tx e ie.size h3) (xZ ht hd ho De AW Lg h)
     ·cases h
    ·cases h
   ·cases h
  ·rename_i p _ n _ hx;split at h
   ·rename_i ob h1;exact p5.le (Le.cut _ h1) (p5.Fy ht hd h)
   ·cases h
  ·cases h
def zt (n0:Nat)(ak:List (Nat×TI))(s:St)(o:Oper):Option St:=
 match o.op with
 | .convert t u x=>match oE ak s t u x with
  | some c=>some (s.put o.dst c)
  | none=>match ev s x,cY ak t,cY ak u with
   | some (.str b),some .str,some (.sl e)=>match cY ak e with
    | some (.int .u8)=>if b.size≤1000000 then some (s.put o.dst (.au (nw b) b.size)) else none
    | _=>none
   | some (.bw p off n),some (.sl e),_=>if t=u∧0<n then match cY ak e,assoc s.heap p with
     | some (.int .u8),some ob=>if trees ob.cells=true then some (DN s p ob o.dst off n) else none
     | _,_=>none
    else none
   | _,_,_=>none
 | .makeInterface t x=>match ev s x,cY ak t with
  | some _,some .oth=>none
  | some c,some _=>some (s.put o.dst (.iface t [c]))
  | _,_=>none
 | .makeMap _ none=>some (St.put ⟨s.env,s.heap,s.nx+1⟩ o.dst (.mp s.nx []))
 | .range t x=>match ev s x,cY ak t with
  | some (.str b),some .str=>some (St.put ⟨s.env,s.heap,s.nx+1⟩ o.dst (.iter s.nx b 0))
  | _,_=>none
 | .next x true=>match ev s x with
  | some (.iter k b p)=>if n0≤k then D8 s o.dst k b p else none
  | _=>none
 | .call cl=>match cl.callee with
  | .builtin .append=>match cl.args.toList,cl.argTypes.toList with
   | [x,y],[t,it]=>ID ak s o x y t it
   | _,_=>none
  | .builtin .cap=>match cl.args.toList,cl.argTypes.toList with
   | [x],[t]=>match ev s x,cY ak t with
    | some .ag,some (.sl _)=>some (s.put o.dst (.int .i64 0))
    | _,_=>none
   | _,_=>none
  | _=>none
 | _=>none
theorem vH (ht:ay P ak){o:Oper}{s':St}(hd:a9 C.nt o.dst=true)(h:zt C.n0 ak s o=some s'):p5 P C o s s':=by
 have QS:∀ {α:Type} {x:Array α} {l:List α},x.toList=l→x=l.toArray:=fun {α x l} e=>by rw[← e]
 unfold zt at h;split at h
 ·rename_i t u x ho;split at h
  ·rename_i c hc;cases h;rintro a w ⟨σ,hr⟩;obtain⟨z,k1,k2⟩:=xV ht hr hc;exact⟨w,.inl ⟨z,by simp[execOp,ho,k1],ep hd hr k2⟩⟩
  ·split at h
   ·rename_i b e hx h1 h2;split at h
    ·rename_i h3;split at h
     ·rename_i hm;cases h;exact uA ht hd ho hx h1 h2 h3 hm
     ·cases h
    ·cases h
   ·rename_i p off n e _ hx h1;split at h
    ·rename_i hc;obtain⟨rfl,hn⟩:=hc;split at h
     ·rename_i ob h3 h4;split at h
      ·rename_i h5;cases h;exact zY ht hd ho hx hn h1 h3 h4 h5
      ·cases h
     ·cases h
    ·cases h
   ·cases h
 ·rename_i t x ho;split at h
  ·cases h
  ·rename_i c d hn hx h1;cases h;exact fT ht hd ho hx h1 (fun e=>hn e)
  ·cases h
 ·rename_i t ho;cases h;exact HU hd ho
 ·rename_i t x ho;split at h
  ·rename_i b hx h1;cases h;exact CN ht hd ho hx h1
  ·cases h
 ·rename_i x ho;split at h
  ·rename_i k b p hx;split at h
   ·rename_i hk;exact bX hd ho hx hk h
   ·cases h
  ·cases h
 ·rename_i cl ho;split at h
  ·rename_i De;split at h
   ·rename_i x y t it ha Lg;exact Gf ht hd ho De (QS ha) (QS Lg) h
   ·cases h
  ·rename_i De;split at h
   ·rename_i x t ha Lg;split at h
    ·rename_i e hx h1;cases h;exact Iy ht hd ho De (QS ha) (QS Lg) hx h1
    ·cases h
   ·cases h
  ·cases h
 ·cases h
end
def bR (o:Oper):Option Call:=match o.op with
 | .call c=>match c.callee with
  | .builtin _=>none
  | _=>some c
 | _=>none
theorem fB {o:Oper}{c:Call}(h:bR o=some c):o.op=.call c:=by
 unfold bR at h;split at h
 ·rename_i c' Fm;split at h
  ·cases h
  ·cases h;exact Fm
 ·cases h
abbrev eP:=FuncId→List CV→List (Nat×Ob)→Nat→Option (CV×List (Nat×Ob)×Nat)
section
variable {P:Program}{C:Cx}{s:St}{ak:List (Nat×TI)}{ops:Array Oper}{call:eP}
def fv (P:Program)(ak:List (Nat×TI))(call:eP):Prop:=∀ g cs H n x H' n',call g cs H n=some (x,H',n')→Body P ak g cs H n fun r s'=>r=x∧s'.heap=H'∧s'.nx=n'
theorem TL.again {id:Nat}{l:List Oper}{s':St}(h:TL P C l.toArray l s fun x=>x=s'):T P C (.region id l.toArray false) s fun e x=>e=.normal∧x=s':=
 T.region fun a w Q hr hQ=>h a w Q hr fun x a' w' hx KF=>hQ x a' w' ⟨rfl,hx⟩ KF
end
def rA (g:CV→Option CV):List CV→Option (List CV)
 | []=>some []
 | c::cs=>match g c with
  | some d=>match rA g cs with
   | some ds=>some (d::ds)
   | none=>none
  | none=>none
def deep (H:List (Nat×Ob)):Nat→CV→Option CV
 | 0,_=>none
 | f+1,c=>if tree c then some c else match c with
  | .bw o off n=>match assoc H o with
   | some ob=>match (if trees ob.cells then some ob.cells else rA (deep H f) ob.cells) with
    | some cells=>some (.au ((cells.drop off).take (n*ob.sz)) n)
    | none=>none
   | none=>none
  | .ai o off=>match assoc H o with
   | some ob=>match (if trees ob.cells then some ob.cells else rA (deep H f) ob.cells) with
    | some cells=>some (.cc (cells.drop off))
    | none=>none
   | none=>none
  | .agg cs=>match rA (deep H f) cs with
   | some ds=>some (.agg ds)
   | none=>none
  | .iface t cs=>match rA (deep H f) cs with
   | some ds=>some (.iface t ds)
   | none=>none
  | .fn g cs=>match rA (deep H f) cs with
   | some ds=>some (.fn g ds)
   | none=>none
  | .db cs=>match rA (deep H f) cs with
   | some ds=>some (.db ds)
   | none=>none
  | _=>none
section
variable {P:Program}{C:Cx}{σ:Nat→Option OB}{s:St}{a:Act}{w:World}{ops:Array Oper}{ak:List (Nat×TI)}
theorem ma {F F':Nat→Prop}{g:CV→Option CV}(hg:∀ c d v,g c=some d→VR w F σ c v→bK w F' d v∧one d=one c):∀ (cs ds:List CV) (vs:List Value),rA g cs=some ds→aG w F σ cs vs→bt w F' ds vs∧ds.all one=cs.all one
 | [],ds,vs,h,hv=>by
  simp only[rA] at h;cases h;exact⟨by simpa [aG,bt] using hv,rfl⟩
 | c::cs,ds,vs,h,hv=>by
  simp only[rA] at h;split at h
  ·rename_i d h1;split at h
   ·rename_i Xi h2;cases h;simp only[aG,bt] at hv ⊢;obtain⟨v,r,e,k1,k2⟩:=hv;obtain⟨q1,q2⟩:=hg c d v h1 k1;obtain⟨q3,q4⟩:=ma hg cs Xi r h2 k2;exact⟨⟨v,r,e,q1,q3⟩,by simp only[List.all_cons,q2,q4]⟩
   ·cases h
  ·cases h
theorem Ag (h:aB C σ s a w):∀ (f:Nat) (c d:CV) (v:Value),deep s.heap f c=some d→VR w (FB C σ s.heap) σ c v→bK w C.F d v∧one d=one c
 | 0,_,_,_,h,_=>by simp[deep] at h
 | f+1,c,d,v,hd,hv=>by
  have ih:=Ag h f;have hk:kP w w (FB C σ s.heap) C.F:=fun ad u hf hu=>⟨hu,fun hF=>hf (.inl hF)⟩;have obj:∀ {o ob B b cells},assoc s.heap o=some ob→σ o=some B→B.iI=some b→(if trees ob.cells then some ob.cells else rA (deep s.heap f) ob.cells)=some cells→∀ k,ej w C.F (cells.drop k) ⟨b,k,none⟩:=fun {o ob B b cells} ho hB hb ht k=>by
   obtain⟨B',e1,_,_,e4,e5⟩:=h.obj o ob ho;rw[hB] at e1;cases e1;obtain⟨cur,k1,k2,k3,k4,k5,k6⟩:=e5 b hb;have h1:bt w C.F cells (cur.toList.take ob.cells.length)∧cells.all one=true:=by
    split at ht
    ·rename_i LN;cases ht;exact⟨bt.a7 hk _ _ (aG.dx _ _ LN k6),e4⟩
    ·obtain⟨q1,q2⟩:=ma ih _ _ _ ht k6;exact⟨q1,q2.trans e4⟩
   have hl:cells.length=ob.cells.length:=by
    rw[← bt.length _ _ h1.1,aG.length _ _ k6]
   have h2:ej w C.F cells ⟨b,0,none⟩:=gj _ _ _ h1.1 h1.2 k3 fun j u hu=>by
    rw[add_lit,Nat.zero_add,cell_of_row w b j cur _ _ k1];rw[List.getElem?_take] at hu;split at hu
    ·simpa using hu
    ·cases hu
   have:=h2.drop k;rwa [add_lit,Nat.zero_add] at this
  simp only[deep] at hd;split at hd
  ·rename_i ht;cases hd;exact⟨bK.a7 hk _ _ (VR.dx _ _ ht hv),rfl⟩
  ·split at hd
   ·rename_i o off n _;split at hd
    ·rename_i ob ho;split at hd
     ·rename_i cells hc;cases hd;refine⟨?_,rfl⟩;simp only[VR] at hv;obtain⟨B,hB,hv⟩:=hv;split at hv
      ·obtain⟨rfl,rfl,rfl⟩:=hv;simp only[bK];exact⟨none,0,rfl,Nat.le_refl _,Nat.zero_le _,.inl ⟨trivial,by simp⟩⟩
      ·rename_i b hb;obtain⟨cap,rfl,h1,h2,_⟩:=hv;simp only[bK];exact⟨_,cap,rfl,h1,h2,.inr ⟨_,rfl,ej.take _ _ _ (obj ho hB hb hc off)⟩⟩
     ·cases hd
    ·cases hd
   ·rename_i o off _;split at hd
    ·rename_i ob ho;split at hd
     ·rename_i cells hc;cases hd;refine⟨?_,rfl⟩;simp only[VR] at hv;obtain⟨B,b,hB,hb,rfl⟩:=hv;simp only[bK];exact⟨_,rfl,obj ho hB hb hc off⟩
     ·cases hd
    ·cases hd
   ·rename_i cs;split at hd
    ·rename_i ds Rz;cases hd;simp only[VR] at hv;obtain⟨vs,e,r,h1⟩:=hv;obtain⟨q1,q2⟩:=ma ih _ _ _ Rz r;simp only[bK];exact⟨⟨vs,e,q1,q2.trans h1⟩,rfl⟩
    ·cases hd
   ·rename_i t cs;split at hd
    ·rename_i ds Rz;cases hd;simp only[VR] at hv;obtain⟨vs,e,r⟩:=hv;obtain⟨q1,q2⟩:=ma ih _ _ _ Rz r;simp only[bK];exact⟨⟨vs,e,q1⟩,rfl⟩
    ·cases hd
   ·rename_i g cs;split at hd
    ·rename_i ds Rz;cases hd;simp only[VR] at hv;obtain⟨vs,e,r⟩:=hv;obtain⟨q1,q2⟩:=ma ih _ _ _ Rz r;simp only[bK];exact⟨⟨vs,e,q1⟩,rfl⟩
    ·cases hd
   ·rename_i cs;split at hd
    ·rename_i ds Rz;cases hd;simp only[VR] at hv;obtain⟨vs,e,r⟩:=hv;obtain⟨q1,q2⟩:=ma ih _ _ _ Rz r;simp only[bK];exact⟨⟨vs,e,q1⟩,rfl⟩
    ·cases hd
   ·cases hd
def doneD (ak:List (Nat×TI))(f:Func)(r:CV):Exit→St→Prop
 | .normal,s=>∃ r0 k,bf ak f s=some r0∧deep s.heap k r0=some r
 | .ret,s=>∃ r0 k,bf ak f s=some r0∧deep s.heap k r0=some r
 | _,_=>False
theorem ae.FA (Mw : ay P ak) {f : FuncId} {fn : Func} {c : Code} {args : List CV} {r : CV} (hf : P.funcs[f]? = some fn) (hb : fn.body = some c) (hn : (fn.name == "runtime.NumGoroutine") = false)
  (ha:args.length≤fn.ntmps) (h:∀ C:Cx,C.nt=fn.ntmps→C.n0=0→T P C c (enter args) (doneD ak fn r)):ae P f args r:=by
 refine⟨⟨fn,hf,hn,by simp[hb]⟩,fun F vs w hF hv=>?_⟩;have hl:=bt.length _ _ hv;let C:Cx:=⟨w,F,fun _=>False,hF,fn.ntmps,fun _=>none,0⟩
 have h0:aB C (fun _=>none) (enter args) { tmps:=vs.toArray++Array.replicate (fn.ntmps-vs.toArray.size) undef,defers:=[] } w:=by
  refine⟨rfl,by simp[C];omega,rfl,rfl,rfl,Nat.le_refl _,fun _ _ _=>rfl,?_,?_,?_,fun _ _=>rfl,fun _ h=>absurd h (Nat.not_lt_zero _),Nat.zero_le _,fun _ _ _ _ h=>by cases h⟩
  ·intro t c hc;obtain⟨_,h2⟩:=eW args 0 t c hc;obtain⟨v,h3,h4⟩:=bt.get _ _ hv t c (by simpa using h2);refine⟨v,?_,VR.ca _ _ (bK.a7 (b9.same fun b hb=>?_).1 c v h4)⟩
   ·have yN:=(List.getElem?_eq_some_iff.1 h3).1;simp only;rw[Array.getElem?_append_left (by simpa using yN)]
    simpa using h3
   ·rcases hb with hF | ⟨o,ob,ho,_⟩
    ·exact hF
    ·simp[enter,assoc] at ho
  ·intro o ob ho;simp[enter,assoc] at ho
  ·intro o o' ob Ka b ho;simp[enter,assoc] at ho
 refine calls_of_wp hf hb (wp_mono (h C rfl rfl _ _ ⟨_,h0⟩) fun e a' w' ⟨s',q,σ,hr⟩=>?_);have fin:(∃ r0 k,bf ak fn s'=some r0∧deep s'.heap k r0=some r)→a'.defers=[]∧∃ v,(results fn a'.tmps).run P w'=.ok v w'∧(∃ Og,Ending.returned v=.returned Og∧Below w.heap.size w w'∧bK w' F r Og):=fun⟨r0,k,hq,hd⟩=>by
  obtain⟨v,k1,k2⟩:=gW (P:=P) Mw hr hq;exact⟨hr.me,v,k1,v,rfl,⟨hr.os,hr.tape,hr.output,hr.size,fun k hk=>hr.frame k hk (fun hx=>hx)⟩,(Ag hr _ _ _ _ hd k2).1⟩
 cases e with
 | normal=>exact fin q
 | ret=>exact fin q
 | exit _=>exact q.elim
 | goto _=>exact q.elim
 | panic _=>exact q.elim
 | outgrown=>exact q.elim
def uq (P:Program)(C:Cx)(s:St)(o:Oper)(g:FuncId)(cs:List CV):Prop:=
 ∀ σ a w,aB C σ s a w→∃ vs:List Value,(execOp a.eval o).run P w=.ok (.enter g vs.toArray) w∧aG w (FB C σ s.heap) σ cs vs
theorem uq.value {o:Oper}{c:Call}{g:FuncId}{cs:List CV}(ho:o.op=.call c)(Kj:bl s c=some (g,cs))(he:jR P g):uq P C s o g cs:=by
 intro σ a w hr;obtain⟨fn,h1,h2,h3⟩:=he;unfold bl at Kj;split at Kj
 ·rename_i f LI;split at Kj
  ·rename_i g' Ll Lk UF Kr;cases Kj;have Sb:=bD hr UF;simp only[VR] at Sb;obtain⟨us,e,hu⟩:=Sb;have AW:=nq hr _ _ Kr;refine⟨c.args.toList.map a.eval++us,?_,aG.append _ _ _ _ AW hu⟩;have e2:(c.args.toList.map a.eval).toArray=c.args.map a.eval:=by rw[← List.map_toArray]
   simp only[execOp,ho,resolve,LI,e,Deferred.ofValue,Sem.run_bind,Sem.run_pure,Result.andThen_ok,invoke,callFunc,run_program,h1,h2,h3,Bool.false_eq_true,if_false];rw[← e2];simp
  ·cases Kj
 ·cases Kj
structure vB (P:Program)(t:TypeId)(name:String)(g:FuncId):Prop where
 row:∃ i m,P.info? t=some i∧i.methods.find? (·.name == name)=some m∧m.path.toList=[]∧m.path.isEmpty=true∧m.func=some (g,false)
 yd:∃ d,P.underlying t=some d∧∀ e,d≠.pointer e
abbrev gh:=List ((Nat×String)×FuncId)
def gM (P:Program)(mt:gh):Prop:=∀ x∈mt,vB P x.1.1 x.1.2 x.2
def tK:gh→Nat→String→Option FuncId
 | [],_,_=>none
 | ((t,n),g)::r,u,m=>if t=u∧n=m then some g else tK r u m
theorem tJ:∀ (mt:gh) (u:Nat) (m:String) (g:FuncId),tK mt u m=some g→((u,m),g)∈mt
 | [],_,_,_,h=>by simp[tK] at h
 | ((t,n),g')::r,u,m,g,h=>by
  simp only[tK] at h;split at h
  ·rename_i e;obtain⟨rfl,rfl⟩:=e;cases h;exact List.mem_cons_self
  ·exact List.mem_cons_of_mem _ (tJ r u m g h)
def gG (mt:gh)(s:St)(c:Call):Option (FuncId×List CV):=match c.callee with
 | .value _=>bl s c
 | .invoke r name=>match ev s r,vF s c.args.toList with
  | some (.iface t [x]),some cs=>match tK mt t name with
   | some g=>some (g,x::cs)
   | none=>none
  | _,_=>none
 | _=>none
theorem yH {t:TypeId}{name:String}{g:FuncId}(h:vB P t name g)(v:Value)(n:Nat)(w:World):(method (n+1) t v name).run P w=.ok (g,v) w:=by
 obtain⟨⟨i,m,h1,h2,h3,h4,h5⟩,d,h6,h7⟩:=h;unfold method;simp only[Sem.run_bind,qP h1,Result.andThen_ok,h2,h3,follow,Sem.run_pure,h5,receiverAt,bp h6,Place.get]
theorem uq.to {mt:gh}(OT:gM P mt){o:Oper}{c:Call}{g:FuncId}{cs:List CV}(ho:o.op=.call c)(Kj:gG mt s c=some (g,cs))(he:jR P g):uq P C s o g cs:=by
 unfold gG at Kj;split at Kj
 ·exact uq.value ho Kj he
 ·rename_i r name LI;split at Kj
  ·rename_i t x Lk hr Kr;split at Kj
   ·rename_i g' hm;cases Kj;intro σ a w h;obtain⟨fn,h1,h2,h3⟩:=he;have hv:=bD h hr;simp only[VR,aG] at hv;obtain⟨vs,e,v,r',rfl,hv,rfl⟩:=hv;simp only[ifv] at e;have AW:=nq h _ _ Kr;refine⟨v::c.args.toList.map a.eval,?_,by simp only[aG];exact⟨v,_,rfl,hv,AW⟩⟩;have e2:(c.args.toList.map a.eval).toArray=c.args.map a.eval:=by rw[← List.map_toArray]
    have V4:=yH (OT _ (tJ _ _ _ _ hm)) v (P.types.size+99) w;have V3:(method (P.types.size+Made.depth) t v name).run P w=.ok (g,v) w:=V4;have hex:(#[Value.iface t v]++c.args.map a.eval)[0]? = some (Value.iface t v):=by rw[Array.getElem?_append_left j5];rfl
    have WD:(#[Value.iface t v]++c.args.map a.eval).extract 1 (#[Value.iface t v]++c.args.map a.eval).size=c.args.map a.eval:=by
     apply Array.ext';simp[List.take_of_length_le]
    simp only[execOp,ho,resolve,LI,e,Sem.run_bind,Sem.run_pure,Result.andThen_ok,invoke,hex,WD,callMethod,run_program,V3,callFunc,h1,h2,h3,Bool.false_eq_true,if_false];rw[← e2];simp
   ·cases Kj
  ·cases Kj
 ·cases Kj
theorem dR {o:Oper}(hr:Rel C s a w)(hg:bM ops s o=some true):Region.wanted o (yielded ops a.tmps)=true:=by
 unfold bM at hg;split at hg
 ·rename_i e;simp[Region.wanted,e]
 ·rename_i j want e;split at hg
  ·cases hg
  rename_i t hj;exact jU hr e hj hg
theorem callE (Mw:ay P ak){o:Oper}{l:List Oper}{g:FuncId}{cs:List CV}{K:St→Prop}{R:CV→St→Prop}(hd:a9 C.nt o.dst=true)(hg:bM ops s o=some true)(he:uq P C s o g cs)(hb:Body P ak g cs s.heap s.nx R)
  (hK:∀ r s',R r s'→TL P C ops l (St.put ⟨s.env,s'.heap,s'.nx⟩ o.dst r) K):TL P C ops (o::l) s K:=by
 intro a w Q hr hQ;have hw:=dR (ops:=ops) hr hg;obtain⟨σ,hr⟩:=hr;unfold wpList;rw[if_pos hw];refine .inl ?_;obtain⟨fn,code,hf,LJ,hn,hlen,hT⟩:=hb;obtain⟨vs,P5,Kq⟩:=he σ a w hr;have hF:=Fj hr;have h0:=hr.inner hF fn.ntmps Kq hlen;have Oa:Calls P g vs.toArray w fun e w'=>∃ v r s',e=.returned v∧R r s'∧∃ σ',aB C σ' ⟨s.env,s'.heap,s'.nx⟩ a w'∧VR w' (FB C σ' s'.heap) σ' r v:=by
  refine calls_of_wp hf LJ (wp_mono (hT (C.inner w σ s.heap fn.ntmps hF s.nx) rfl rfl _ _ ⟨_,h0⟩) fun e a' w' ⟨s1,q,σ1,KL⟩=>?_);have fin:aa (C.inner w σ s.heap fn.ntmps hF s.nx) (fun s'=>∃ r,bf ak fn s'=some r∧R r s') s1→a'.defers=[]∧∃ v,(results fn a'.tmps).run P w'=.ok v w'∧(∃ Og r s',Ending.returned v=.returned Og∧R r s'∧∃ σ',aB C σ' ⟨s.env,s'.heap,s'.nx⟩ a w'∧VR w' (FB C σ' s'.heap) σ' r Og):=fun⟨s2,⟨r,q1,q2⟩,hl⟩=>by
   obtain⟨σ2,Kl⟩:=hl _ _ ⟨σ1,KL⟩;obtain⟨v,k1,k2⟩:=gW (P:=P) Mw Kl q1;exact⟨Kl.me,v,k1,v,r,s2,rfl,q2,σ2,hr.back Kl,k2⟩
  cases e with
  | normal=>exact fin q
  | ret=>exact fin q
  | exit _=>exact q.elim
  | goto _=>exact q.elim
  | panic _=>exact q.elim
  | outgrown=>exact q.elim
 unfold Oper.wp;rw[P5];refine Oa.mono fun e w' ⟨v,r,s',he,hR,σ',KF,hv⟩=>?_;subst he;refine hK r s' hR _ w' Q ⟨σ',KF.put ?_ hv⟩ hQ;intro t e;rw[KF.tm];rw[e] at hd
 simpa [a9] using hd
theorem zG {o:Oper}{g:FuncId}{cs:List CV}{r:CV}(he:uq P C s o g cs)(ht:trees cs=true)(hp:ae P g cs r)(h:aB C σ s a w)(K:Act→World→Prop)(Q:Exit→Act→World→Prop)
  (hK:∀ v w',aB C σ s a w'→VR w' (FB C σ s.heap) σ r v→K (a.put o.dst v) w'):o.wp P a w K Q:=by
 obtain⟨vs,P5,Kq⟩:=he σ a w h;unfold Oper.wp;rw[P5];refine (hp.2 (FB C σ s.heap) _ w (zq h) (aG.dx _ _ ht Kq)).mono fun e w' ⟨v,he,hb,hv⟩=>?_;subst he;exact hK v w' (h.below hb) (VR.ca _ _ hv)
theorem Gt {o:Oper}{l:List Oper}{g:FuncId}{cs:List CV}{r:CV}{K:St→Prop}(hd:a9 C.nt o.dst=true)(hg:bM ops s o=some true)(he:uq P C s o g cs)(ht:trees cs=true)(hp:ae P g cs r)(h:TL P C ops l (s.put o.dst r) K):TL P C ops (o::l) s K:=by
 intro a w Q hr hQ;have hw:=dR (ops:=ops) hr hg;obtain⟨σ,hr⟩:=hr;unfold wpList;rw[if_pos hw];refine .inl (zG he ht hp hr _ _ fun v w' KF hv=>h _ _ Q (ep hd KF hv) hQ)
end
end Go.Can
