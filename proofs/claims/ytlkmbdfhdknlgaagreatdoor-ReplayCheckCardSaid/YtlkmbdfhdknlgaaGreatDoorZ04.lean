/- make, new variables, composites of slices, append, copy: wha -/
import Derived.Test.YtlkmbdfhdknlgaaGreatDoorZ03
namespace Go.Can
open Go.RowKit
def aS (z:List CV):Nat→List CV
 | 0=>[]
 | n+1=>z++aS z n
theorem ef (z:List CV)(n:Nat):(aS z n).length=n*z.length:=by
 induction n with
 | zero=>simp[aS]
 | succ n ih=>simp[aS,ih,Nat.succ_mul,Nat.add_comm]
theorem zf (z:List CV)(n i:Nat)(h:i<n*z.length):(aS z n)[i]? = z[i % z.length]?:=by
 induction n generalizing i with
 | zero=>simp at h
 | succ n ih=>
  simp only[aS];rw[List.getElem?_append];split
  ·rename_i hi;rw[Nat.mod_eq_of_lt hi]
  ·rename_i hi;rw[ih _ (by rw[Nat.succ_mul] at h;omega)];have Nv:0<z.length:=by
    rcases Nat.eq_zero_or_pos z.length with e | e
    ·rw[e] at h;simp at h
    ·exact e
   congr 1
   conv=>rhs;rw[show i=(i-z.length)+z.length by omega]
   rw[Nat.add_mod_right]
theorem ze (c:CV)(n:Nat):aS [c] n=List.replicate n c:=by
 induction n with
 | zero=>rfl
 | succ n ih=>simp[aS,ih,List.replicate_succ]
section
variable {P:Program}{C:Cx}{σ:Nat→Option OB}{s:St}{a:Act}{w:World}
theorem jT {F:Nat→Prop}{zs:Array Value}{z:List CV}(h:aG w F σ z zs.toList)(n:Nat):aG w F σ (aS z n) (madeCells zs (n*zs.size)).toList:=by
 have hl:=aG.length _ _ h;have N5:zs.size=z.length:=by simpa using hl
 refine aG.uX _ _ (by simp[size_madeCells,ef,N5]) fun i c hi=>?_;have yN:i<n*z.length:=by
  have:=(List.getElem?_eq_some_iff.1 hi).1;rwa [ef] at this
 rw[zf z n i yN] at hi;obtain⟨v,k1,k2⟩:=aG.get _ _ h _ _ hi;refine⟨v,?_,k2⟩;have Rk:i<n*zs.size:=by rw[N5];exact yN
 simp only[madeCells,Array.toList_map,Array.toList_range,List.getElem?_map,List.getElem?_range Rk,Option.map_some];rw[N5] at *;have:zs[i % z.length]? = some v:=by simpa using k1
 simp[getElem!_def,this]
theorem iz {z:List CV}(h:z.all one=true)(n:Nat):(aS z n).all one=true:=by
 induction n with
 | zero=>rfl
 | succ n ih=>simp[aS,List.all_append,h,ih]
def St.new (s:St)(e:TypeId)(sz:Nat)(cs:List CV):St:={ s with heap:=(s.nx,⟨e,sz,cs⟩)::s.heap,nx:=s.nx+1 }
theorem oK (h:aB C σ s a w){e:TypeId}{sz:Nat}{cs:List CV}{us:Array Value}(hr:aG w (FB C σ s.heap) σ cs us.toList)(h1:cs.all one=true) :
  aB C (sig σ s.nx ⟨some w.heap.size,us.size,sz⟩) (s.new e sz cs) a (w.alloc (.cells us e)):=by
 have hl:=aG.length _ _ hr;refine (h.fresh (lG _) (ob:=⟨e,sz,cs⟩) (B:=⟨some w.heap.size,us.size,sz⟩) rfl h1 j5 fun b hb=>?_).1;simp only[Option.some.injEq] at hb;subst hb;exact⟨Nat.le_refl _,us,heap_alloc_new w _,rfl,by simp only;simp at hl;omega,by simp only;rw[← hl,List.take_of_length_le (Nat.le_refl _)];exact hr⟩
def Am (ak:List (Nat×TI))(s:St)(d:Option Tmp)(t:TypeId)(l c:Operand):Option St:=
 match cY ak t,ev s l,ev s c with
 | some (.sl e),some (.int _ n),some (.int _ m)=>
  match assoc ak e with
  | some ie=>if n=m∧0≤n∧(ie.bytes:Int)*n≤281474976710656∧n≤9223372036854775807 then some ((s.new e ie.size (aS ie.zero n.toNat)).put d (.bw s.nx 0 n.toNat)) else none
  | none=>none
 | _,_,_=>none
theorem cN {o:Nat}{B:OB}:sig σ o B o=some B:=by simp[sig]
theorem D9 {ak:List (Nat×TI)}(ht:ay P ak)(h:aB C σ s a w){o:Oper}{t:TypeId}{l c:Operand}(hd:∀ t,o.dst=some t→t<a.tmps.size)(ho:o.op=.makeSlice t l c){s':St}(hc:Am ak s o.dst t l c=some s') :
  ∃ z w',(execOp a.eval o).run P w=.ok (.value z) w'∧Rel C s' (a.put o.dst z) w':=by
 unfold Am at hc;split at hc
 ·rename_i e k n k' m Ks hl hm;obtain⟨it,Fl,Ks⟩:=Option.map_eq_some_iff.1 Ks;split at hc
  ·rename_i ie CW;split at hc
   ·rename_i hb;obtain⟨rfl,h0,PJ,QP⟩:=hb;cases hc;obtain⟨f,z,g1,g2,g3,g4,g5⟩:=(ht e ie CW).info;obtain⟨k1,k2⟩:=cw (w:=w) (F:=FB C σ s.heap) _ _ g5;have kl:=bD h hl;have kc:=bD h hm;simp only[VR] at kl kc;have CX:f.size=z.cells.size:=by rw[g2,← (ht e ie CW).len,← bt.length _ _ k1];simp
    have hz:=jT (σ:=σ) (aG.ca _ _ k1) n.toNat;have hr:=run_make (P:=P) w t e f z (da (ht t it Fl) Ks) g1 g4 k k' n n h0 (Int.le_refl _) (by rw[g3];exact PJ) QP;have KM:=oK h (e:=e) (sz:=ie.size) hz (iz k2 n.toNat);have S0:z.cells.size=ie.size:=by rw[← CX,g2]
    rw[CX] at hr;refine⟨.slice (some ⟨w.heap.size,0,none⟩) n.toNat n.toNat,_,by simp only[execOp,ho,kl,kc,Sem.run_bind,hr,Result.andThen_ok,Sem.run_pure],_,KM.put hd ?_⟩;simp only[VR];refine⟨_,cN,n.toNat,rfl,Nat.le_refl _,by simp only[maxLen];omega,?_,fun _=>?_⟩
    ·simp[size_madeCells,S0]
    ·simp[size_madeCells,S0]
   ·cases hc
  ·cases hc
 ·cases hc
def vu (ak:List (Nat×TI))(s:St)(d:Option Tmp)(e:TypeId):Option St:=
 match assoc ak e with
 | some ie=>some ((s.new e 0 ie.zero).put d (.ai s.nx 0))
 | none=>none
theorem BF {ak:List (Nat×TI)}(ht:ay P ak)(h:aB C σ s a w){o:Oper}{e:TypeId}(hd:∀ t,o.dst=some t→t<a.tmps.size)(ho:o.op=.alloc e){s':St}(hc:vu ak s o.dst e=some s') :
  ∃ z w',(execOp a.eval o).run P w=.ok (.value z) w'∧Rel C s' (a.put o.dst z) w':=by
 unfold vu at hc;split at hc
 ·rename_i ie CW;cases hc;obtain⟨f,z,g1,_,_,g4,g5⟩:=(ht e ie CW).info;obtain⟨k1,k2⟩:=cw (w:=w) (F:=FB C σ s.heap) _ _ g5;have KM:=oK h (e:=e) (sz:=0) (aG.ca _ _ k1) k2;refine⟨.pointer (some ⟨w.heap.size,0,none⟩),_,?_,_,KM.put hd ?_⟩
  ·simp[execOp,ho,Instr.alloc,gT g1 g4,newVar,newRow]
  ·simp only[VR];exact⟨_,_,cN,rfl,rfl⟩
 ·cases hc
def Gb (s:St)(d:Option Tmp)(e:TypeId)(x:Operand):Option St:=
 match ev s x with
 | some c=>if dn c then none else some ((s.new e 0 c.cells).put d (.ai s.nx 0))
 | none=>none
theorem Ga (h:aB C σ s a w){o:Oper}{e:TypeId}{x:Operand}(hd:∀ t,o.dst=some t→t<a.tmps.size)(ho:o.op=.box e x){s':St}(hc:Gb s o.dst e x=some s') :
  ∃ z w',(execOp a.eval o).run P w=.ok (.value z) w'∧Rel C s' (a.put o.dst z) w':=by
 unfold Gb at hc;split at hc
 ·rename_i c hx;split at hc
  ·cases hc
  rename_i Mu;cases hc;obtain⟨f1,f2⟩:=VR.flat c _ (fun cs e=>by subst e;simp[dn] at Mu) (fun k s p e=>by subst e;simp[dn] at Mu) (bD h hx);have KM:=oK h (e:=e) (sz:=0) f1 f2;refine⟨.pointer (some ⟨w.heap.size,0,none⟩),_,?_,_,KM.put hd ?_⟩
  ·simp[execOp,ho,Instr.box,newVar,newRow]
  ·simp only[VR];exact⟨_,_,cN,rfl,rfl⟩
 ·cases hc
def jr (ak:List (Nat×TI))(s:St)(d:Option Tmp)(t:TypeId)(len:Nat)(parts:List (Nat×Operand)):Option St:=
 match cY ak t with
 | some (.sl e)=>
  match assoc ak e,fZ s parts with
  | some ie,some cs=>
   if len*ie.size≤16777216∧len≤16777216 then
    match kT (fun i=>some (i*ie.size,ie.size)) (aS ie.zero len) cs with
    | some out=>some ((s.new e ie.size out).put d (.bw s.nx 0 len))
    | none=>none
   else none
  | _,_=>none
 | _=>none
theorem kH (place:Nat→Option (Nat×Nat)):∀ (ps:List (Nat×CV)) (cells out:List CV),kT place cells ps=some out→out.length=cells.length
 | [],cells,out,h=>by simp only[kT] at h;cases h;rfl
 | (i,c)::ps,cells,out,h=>by
  simp only[kT] at h;split at h
  ·cases h
  ·split at h
   ·cases h
   ·rename_i CX;simp only[ne_eq,gt_iff_lt,Bool.or_eq_true,decide_eq_true_eq,not_or,Decidable.not_not,Nat.not_lt] at CX;rw[kH place ps _ out h,eI _ _ _ CX.2]
theorem rW {ak:List (Nat×TI)}(ht:ay P ak)(h:aB C σ s a w){o:Oper}{t:TypeId}{len:Nat}{parts:Array (Nat×Operand)}(hd:∀ t,o.dst=some t→t<a.tmps.size)(ho:o.op=.buildSlice t len parts){s':St}
  (hc:jr ak s o.dst t len parts.toList=some s'):∃ z w',(execOp a.eval o).run P w=.ok (.value z) w'∧Rel C s' (a.put o.dst z) w':=by
 unfold jr at hc;split at hc
 ·rename_i e Ks;obtain⟨it,Fl,Ks⟩:=Option.map_eq_some_iff.1 Ks;split at hc
  ·rename_i ie cs CW Kr;split at hc
   ·rename_i hb;split at hc
    ·rename_i out Nx;cases hc;obtain⟨f,z,g1,g2,g3,g4,g5⟩:=(ht e ie CW).info;obtain⟨k1,k2⟩:=cw (w:=w) (F:=FB C σ s.heap) _ _ g5;have CX:z.cells.size=ie.size:=by rw[← (ht e ie CW).len,← bt.length _ _ k1];simp
     have hz:=jT (σ:=σ) (aG.ca _ _ k1) len;obtain⟨l1,l2⟩:=kg h _ _ Kr;obtain⟨us,m1,m2,m3⟩:=lJ _ cs (parts.toList.map fun p=>(p.1,a.eval p.2)) _ out (madeCells z.cells (len*z.cells.size)) (by simpa using l1) l2 hz (iz k2 len) Nx;have KM:=oK h (e:=e) (sz:=ie.size) m2 m3;have Pb:us.size=len*ie.size:=by
      have:=aG.length _ _ m2;rw[kH _ _ _ _ Nx,ef,(ht e ie CW).len] at this
      simpa using this
     have hp:(parts.map fun (x:Nat×Operand)=>(x.1,a.eval x.2)).toList=parts.toList.map fun (p:Nat×Operand)=>(p.1,a.eval p.2):=by simp
     rw[CX] at m1;refine⟨.slice (some ⟨w.heap.size,0,none⟩) len len,_,?_,_,KM.put hd ?_⟩
     ·simp only[execOp,ho,Instr.buildSlice,Sem.run_bind,bp (da (ht t it Fl) Ks),Result.andThen_ok,ch g1,g2,hp];rw[if_neg (by have:=hb.1;omega)];by_cases h0:len*ie.size=0
      ·have e0:madeCells z.cells 0=#[]:=by simp[madeCells]
       have e2:(Array.range 0).map (fun _=>(default:Value))=#[]:=by simp[Array.range_zero']
       rw[h0,e0] at m1;simp[h0,e2,m1,newRow]
      ·have e1:(Array.range (len*ie.size)).map (fun x=>z.cells[x % z.cells.size]!)=madeCells z.cells (len*ie.size):=rfl;simp[h0,gT g1 g4,e1,m1,newRow]
     ·simp only[VR];exact⟨_,cN,len,rfl,Nat.le_refl _,by have:=hb.2;simp only[maxLen];omega,by simp[Pb],fun _=>Pb.symm⟩
    ·cases hc
   ·cases hc
  ·cases hc
 ·cases hc
def cells? (s:St):CV→Option (List CV×Nat)
 | .au cs n=>some (cs,n)
 | .ag=>some ([],0)
 | .bw o off n=>match assoc s.heap o with
  | some ob=>some ((ob.cells.drop off).take (n*ob.sz),n)
  | none=>none
 | _=>none
def GZ (w:World)(u:Value)(m:Nat)(us:List Value):Prop:=
 (∃ c,u=.slice none 0 c∧m=0∧us=[])∨(∃ ad c,u=.slice (some ad) m c∧∀ j x,us[j]? = some x→w.cell? (ad.add j)=some x)
theorem cells?_ok (h:aB C σ s a w){c:CV}{v:Value}{cs:List CV}{m:Nat}(hv:VR w (FB C σ s.heap) σ c v)(hm:cells? s c=some (cs,m)) :
  ∃ us,aG w (FB C σ s.heap) σ cs us∧cs.all one=true∧GZ w v m us:=by
 unfold cells? at hm;split at hm
 ·cases hm;simp only[VR,bK] at hv;obtain⟨A,cap,rfl,_,_,h4⟩:=hv;rcases h4 with ⟨rfl,rfl⟩ | ⟨ad,rfl,UB⟩
  ·refine⟨[],by simp[aG],rfl,?_⟩
   cases A with
   | none=>exact .inl ⟨_,rfl,rfl,rfl⟩
   | some ad=>exact .inr ⟨ad,cap,rfl,by simp⟩
  ·obtain⟨us,h1,_,h3⟩:=ej.cells _ _ UB;exact⟨us,aG.ca _ _ h1,ej.HJ _ _ UB,.inr ⟨ad,cap,rfl,h3⟩⟩
 ·cases hm;simp only[VR] at hv;subst hv;exact⟨[],by simp[aG],rfl,.inl ⟨_,rfl,rfl,rfl⟩⟩
 ·rename_i o off n;split at hm
  ·rename_i ob ho;cases hm;simp only[VR] at hv;obtain⟨B,hB,hv⟩:=hv;split at hv
   ·obtain⟨rfl,rfl,rfl⟩:=hv;exact⟨[],by simp[aG],by simp,.inl ⟨_,rfl,rfl,rfl⟩⟩
   ·rename_i b hb;obtain⟨cap,rfl,_⟩:=hv;obtain⟨us,h1,h2,h3⟩:=(C4 h ho hB hb).drop off;rw[add_lit,Nat.zero_add] at h3;refine⟨us.take (m*ob.sz),aG.take _ _ _ h1,?_,.inr ⟨_,cap,rfl,fun j x hx=>?_⟩⟩
    ·rw[List.all_eq_true] at h2 ⊢;exact fun x hx=>h2 x (List.mem_of_mem_take hx)
    ·rw[List.getElem?_take] at hx;split at hx
     ·exact h3 j x hx
     ·cases hx
  ·cases hm
 ·cases hm
theorem p9 (base:Nat)(t ty e:TypeId)(i:TypeInfo)(size:Nat)(ht:P.underlying t=some (.slice e))(hi:P.info? e=some i)
  (v:Value) (n:Nat) (xs:List Value) (Kg:w.ownsRow base e size v n xs) (c:Nat):(Builtin.append_ #[t,t] ty #[v,.slice none 0 c]).run P w=.ok v w:=by
 rcases Kg.2 with ⟨rfl,rfl⟩ | ⟨g,cap,cur,rfl,_,_,Tk,_⟩
 ·simp[Builtin.append_,run_underlying ht,sizeOf,typeInfo,hi,Builtin.lenOf,Builtin.firstCells]
 ·simp[Builtin.append_,run_underlying ht,sizeOf,typeInfo,hi,Builtin.lenOf,Builtin.firstCells,Tk,storeCells]
theorem lu {t ty e:TypeId}{i:TypeInfo}{z:Value}{size bytes:Nat}(ht:P.underlying t=some (.slice e))(hi:P.info? e=some i)(hz:i.zero=some z)
  (Pf:i.size=size) (PJ:i.bytes=bytes) (O9:z.cells.size=size) (CX:0<size) {v u:Value} {n m:Nat} {xs us:List Value} (Kg:w.ownsRow 0 e size v n xs)
  (hl:us.length=m*size) (hs:GZ w u m us) (h1:∀ u∈us,u.oneCell'=true) (QP:n+m≤maxLen) (M8:(n+m)*bytes≤140737488355328) :
  ∃ v' w',(Builtin.append_ #[t,t] ty #[v,u]).run P w=.ok v' w'∧w'.ownsRow 0 e size v' (n+m) (xs++us)∧w.grownBy w' v.ownBlock∧(v'.ownBlock=v.ownBlock∨v'.ownBlock=some w.heap.size):=by
 rcases hs with ⟨c,rfl,rfl,rfl⟩ | ⟨ad,c,rfl,hc⟩
 ·exact⟨v,w,p9 0 t ty e i size ht hi v n xs Kg c,by simpa using Kg,World.grownBy.refl w _,.inl rfl⟩
 ·obtain⟨v',w',k1,k2,k3,_,k5⟩:=run_append_own_at (P:=P) w 0 t ty e i z size bytes ht hi hz Pf PJ O9 CX v n xs Kg ad m c us hl hc h1 QP M8 (Nat.zero_le _);exact⟨v',w',k1,k2,k3,k5⟩
theorem lv {w':World}{e:TypeId}{size:Nat}{v:Value}{k:Nat}{ys:List Value}(h:w'.ownsRow 0 e size v k ys) :
  ∃ B:OB,B.sz=size∧B.iI=v.ownBlock∧(B.iI=none→v=.slice none 0 0∧k=0∧ys=[])∧
   ∀ b,B.iI=some b→∃ cap,∃ cur:Array Value,v=.slice (some ⟨b,0,none⟩) k cap∧w'.heap[b]? = some (.cells cur e (0,0))∧k≤cap∧cap≤maxLen∧cur.size=B.room∧cap*size=B.room∧cur.toList.take ys.length=ys:=by
 have hl:=h.1;rcases h.2 with ⟨rfl,rfl⟩ | ⟨g,cap,cur,rfl,_,hg,h1,h2,h3,h4⟩
 ·exact⟨⟨none,0,size⟩,rfl,rfl,fun _=>⟨rfl,rfl,List.eq_nil_of_length_eq_zero (by simpa using hl)⟩,fun b hb=>by cases hb⟩
 ·refine⟨⟨some g,cur.size,size⟩,rfl,rfl,fun hb=>(by cases hb),fun b hb=>?_⟩;simp only[Option.some.injEq] at hb;subst hb;exact⟨cap,cur,rfl,hg,h1,h2,rfl,h3.symm,by rw[hl];exact h4⟩
theorem aB.grow (h:aB C σ s a w){o:Nat}{ob:Ob}{B B':OB}(ho:assoc s.heap o=some ob)(hB:σ o=some B){w':World}(hg:w.grownBy w' B.iI)(CX:B'.sz=ob.sz){Lk:List CV}
  (KZ:∀ g,B'.iI=some g→B.iI=some g∨g=w.heap.size) (h1:Lk.all one=true) (Nz:B'.iI=none→Lk=[])
  (Lz:∀ g,B'.iI=some g→∃ cur:Array Value,w'.heap[g]? = some (.cells cur ob.elem (0,0))∧cur.size=B'.room∧Lk.length≤cur.size∧aG w (FB C σ s.heap) σ Lk (cur.toList.take Lk.length)) :
  aB C (sig σ s.nx B') { env:=s.env,heap:=(s.nx,{ ob with cells:=Lk })::iY s.heap o,nx:=s.nx+1 } a w':=by
 obtain⟨B0,e1,e2,e3,e4,e5⟩:=h.obj o ob ho;rw[hB] at e1;cases e1;have hn:σ s.nx=none:=h.nx s.nx (Nat.le_refl _);have Ph:sig σ s.nx B' s.nx=some B':=by simp[sig]
 have hs:∀ {p},p≠s.nx→sig σ s.nx B' p=σ p:=fun {p} hp=>by simp[sig,hp]
 have hold:∀ {p x},assoc s.heap p=some x→p≠s.nx:=fun {p x} hp e=>by
  subst e;obtain⟨B2,m1,_⟩:=h.obj _ _ hp;rw[hn] at m1;cases m1
 have QW:∀ {p y},assoc ((s.nx,({ ob with cells:=Lk }:Ob))::iY s.heap o) p=some y→(p=s.nx∧y={ ob with cells:=Lk })∨(p≠s.nx∧p≠o∧assoc s.heap p=some y):=fun {p y} hp=>by
  simp only[assoc] at hp;split at hp
  ·rename_i e;cases hp;exact .inl ⟨e.symm,rfl⟩
  ·rename_i e;rw[dW] at hp;split at hp
   ·cases hp
   ·rename_i e2;exact .inr ⟨Ne.symm e,Ne.symm e2,hp⟩
 have yN:∀ {r z b},assoc s.heap r=some z→aH σ r=some b→b<w.heap.size:=fun {r z b} hr TW=>by
  obtain⟨B2,m1,_,_,_,m5⟩:=h.obj r z hr;obtain⟨cur,n1,_⟩:=m5 b (by simpa [aH,m1] using TW);exact (Array.getElem?_eq_some_iff.1 n1).1
 have hF:∀ b,FB C (sig σ s.nx B') ((s.nx,({ ob with cells:=Lk }:Ob))::iY s.heap o) b→FB C σ s.heap b∨w.heap.size≤b:=by
  rintro b (hb | ⟨p,x,hp,hb⟩)
  ·exact .inl (.inl hb)
  ·rcases QW hp with ⟨rfl,_⟩ | ⟨F0,_,N3⟩
   ·simp only[aH,Ph,Option.bind_some] at hb;rcases KZ b hb with hb | rfl
    ·exact .inl (.inr ⟨o,ob,ho,by simp[aH,hB,hb]⟩)
    ·exact .inr (Nat.le_refl _)
   ·simp only[aH,hs F0] at hb;exact .inl (.inr ⟨p,x,N3,hb⟩)
 have hk:b9 w w' (FB C σ s.heap) (FB C (sig σ s.nx B') ((s.nx,({ ob with cells:=Lk }:Ob))::iY s.heap o)):=jj hg (fun b e=>.inr ⟨o,ob,ho,by simp[aH,hB,e]⟩) hF;refine⟨h.me,h.tm,hg.os.trans h.os,hg.tape.trans h.tape,hg.output.trans h.output,Nat.le_trans h.size hg.size,?_,?_,?_,?_,?_,?_,Nat.le_trans h.low (Nat.le_succ _),fun p B2 b hp Kw hb=>?_⟩
 ·intro b hb Kg;rw[hg.block b (Nat.lt_of_lt_of_le hb h.size) (fun e=>?_)]
  ·exact h.frame b hb Kg
  ·obtain⟨cur,_,_,_,n4,_⟩:=e5 b e.symm;rcases n4 with n4 | n4
   ·exact Kg n4
   ·omega
 ·intro t c hc;obtain⟨v,k3,k4⟩:=h.env t c hc;exact⟨v,k3,VR.a7 hk c v (qj hn k4) k4⟩
 ·intro p x hp;rcases QW hp with ⟨rfl,rfl⟩ | ⟨F0,KD,N3⟩
  ·refine⟨B',Ph,CX,Nz,h1,fun g WA=>?_⟩;obtain⟨cur,k1,k2,k3,k4⟩:=Lz g WA;refine⟨cur,k1,k2,?_,?_,k3,aG.a7 hk _ _ (ln hn k4) k4⟩
   ·rcases KZ g WA with hb | rfl
    ·obtain⟨_,_,_,n3,_⟩:=e5 g hb;exact n3
    ·intro hf;have:=C.hF.1 _ hf;have:=h.size;omega
   ·rcases KZ g WA with hb | rfl
    ·obtain⟨_,_,_,_,n4,_⟩:=e5 g hb;exact n4
    ·exact .inr h.size
  ·obtain⟨B2,m1,m2,m3,m4,m5⟩:=h.obj p x N3;refine⟨B2,by rw[hs F0];exact m1,m2,m3,m4,fun b hb=>?_⟩;obtain⟨cur,n1,n2,n3,n4,n5,n6⟩:=m5 b hb;have Tl:some b≠B.iI:=fun e=>KD (h.inj p o x ob b N3 ho (by simp[aH,m1,hb]) (by simp[aH,hB,e]));exact⟨cur,by rw[hg.block b (Array.getElem?_eq_some_iff.1 n1).1 Tl];exact n1,n2,n3,n4,n5,aG.a7 hk _ _ (ln hn n6) n6⟩
 ·intro p q x y b hp hq NU Ov;rcases QW hp with ⟨rfl,rfl⟩ | ⟨OS,KD,N3⟩<;>rcases QW hq with ⟨e,rfl⟩ | ⟨X4,VW,MQ⟩
  ·exact e.symm
  ·simp only[aH,Ph,Option.bind_some] at NU;have TY:aH σ q=some b:=by simpa only[aH,hs X4] using Ov
   rcases KZ b NU with hb | rfl
   ·exact absurd (h.inj q o y ob b MQ ho TY (by simp[aH,hB,hb])) VW
   ·have:=yN MQ TY;omega
  ·subst e;simp only[aH,Ph,Option.bind_some] at Ov;have TZ:aH σ p=some b:=by simpa only[aH,hs OS] using NU
   rcases KZ b Ov with hb | rfl
   ·exact absurd (h.inj p o x ob b N3 ho TZ (by simp[aH,hB,hb])) KD
   ·have:=yN N3 TZ;omega
  ·exact h.inj p q x y b N3 MQ (by simpa only[aH,hs OS] using NU) (by simpa only[aH,hs X4] using Ov)
 ·intro p hp;have:p≠s.nx:=fun e=>by subst e;exact absurd hp j5
  rw[hs this];exact h.nx p (Nat.le_of_succ_le hp)
 ·intro p hp;have:=h.low;rw[hs (show p≠s.nx by omega)];exact h.fM p hp
 ·by_cases e:p=s.nx
  ·subst e;rw[Ph] at Kw;cases Kw;rcases KZ b hb with hb | rfl
   ·obtain⟨_,_,_,_,n4,_⟩:=e5 b hb;exact n4
   ·exact .inr h.size
  ·rw[hs e] at Kw;exact h.new p B2 b hp Kw hb
def mh (ak:List (Nat×TI))(s:St)(d:Option Tmp)(t:TypeId)(x y:Operand):Option St:=
 match cY ak t,ev s x,ev s y with
 | some (.sl e),some p,some q=>
  match assoc ak e,cells? s q with
  | some ie,some (news,m)=>
   if 0<ie.size∧0<ie.bytes∧news.length=m*ie.size then
    match p with
    | .ag=>if m*ie.bytes≤140737488355328 then some ((s.new e ie.size news).put d (.bw s.nx 0 m)) else none
    | .bw o off n=>match assoc s.heap o with
     | none=>none
     | some ob=>if off=0∧ob.elem=e∧ob.sz=ie.size∧n*ie.size=ob.cells.length∧(n+m)*ie.bytes≤140737488355328 then
       some (St.put { env:=s.env,heap:=(s.nx,{ ob with cells:=ob.cells++news })::iY s.heap o,nx:=s.nx+1 } d (.bw s.nx 0 (n+m)))
      else none
    | _=>none
   else none
  | _,_=>none
 | _,_,_=>none
theorem br {α:Type}:∀ (l:List (Nat×α)) (t:Nat) (x:α),assoc l t=some x→(t,x)∈l
 | [],_,_,h=>by simp[assoc] at h
 | (k,v)::r,t,x,h=>by
  simp only[assoc] at h;split at h
  ·rename_i e;subst e;cases h;exact List.mem_cons_self
  ·exact List.mem_cons_of_mem _ (br r t x h)
theorem rX {ak:List (Nat×TI)}(ht:ay P ak)(h:aB C σ s a w){o:Oper}{cl:Call}{t:TypeId}{x y:Operand}(hd:∀ t,o.dst=some t→t<a.tmps.size)(ho:o.op=.call cl)(De:cl.callee=.builtin .append)(AW:cl.args=#[x,y])(Lg:cl.argTypes=#[t,t])
  {s':St} (hc:mh ak s o.dst t x y=some s'):∃ z w' B,(execOp a.eval o).run P w=.ok (.value z) w'∧aB C (sig σ s.nx B) s' (a.put o.dst z) w':=by
 unfold mh at hc;split at hc
 ·rename_i e p q Ks hp hq;obtain⟨it,Fl,Ks⟩:=Option.map_eq_some_iff.1 Ks;split at hc
  ·rename_i ie news m CW Kr;split at hc
   ·rename_i hb;obtain⟨f,z,g1,g2,g3,g4,g5⟩:=(ht e ie CW).info;obtain⟨k1,k2⟩:=cw (w:=w) (F:=FB C σ s.heap) _ _ g5;have O9:z.cells.size=ie.size:=by rw[← (ht e ie CW).len,← bt.length _ _ k1];simp
    have hu:=da (ht t it Fl) Ks;obtain⟨us,u1,u2,u3⟩:=cells?_ok h (bD h hq) Kr;have ul:=aG.length _ _ u1;have uo:=aG.gC _ _ u2 u1;have hx:=bD h hp;have K6:∀ {v' w'},(Builtin.append_ #[t,t] o.type #[a.eval x,a.eval y]).run P w=.ok v' w'→(execOp a.eval o).run P w=.ok (.value v') w':=fun {v' w'} hr=>by
     simp[execOp,ho,resolve,De,AW,Lg,invoke,builtin,hr]
    split at hc
    ·split at hc
     ·rename_i PJ;cases hc;simp only[VR] at hx;have hm:0+m≤maxLen:=by
       have:m≤m*ie.bytes:=Nat.le_mul_of_pos_right m hb.2.1;simp only[maxLen];omega
      obtain⟨v',w',r1,r2,r3,r4⟩:=lu (P:=P) (ty:=o.type) hu g1 g4 g2 g3 O9 hb.1 (World.ownsRow_nil w 0 e ie.size) (by rw[ul];exact hb.2.2) u3 uo hm (by rw[Nat.zero_add];exact PJ);rw[← hx] at r1;rw[Nat.zero_add,List.nil_append] at r2;obtain⟨B,b1,b2,b3,b4⟩:=lv r2;have Qj:=h.fresh (ob:=⟨e,ie.size,news⟩) (B:=B) r3 b1 u2 (fun hn=>by
       have:=(b3 hn).2.2;rw[this] at ul;exact List.eq_nil_of_length_eq_zero ul.symm) fun b Kc=>by
        obtain⟨cap,cur,e1,e2,e3,e4,e5,e6,e7⟩:=b4 b Kc;have Nh:b=w.heap.size:=by
         rw[b2] at Kc;rcases r4 with r4 | r4<;>rw[r4] at Kc
         ·simp[Value.ownBlock] at Kc
         ·simpa using Kc.symm
        refine⟨by omega,cur,e2,e5,?_,?_⟩
        ·simp only;rw[e5,← e6,hb.2.2];exact Nat.mul_le_mul_right _ e3
        ·simp only;rw[← ul,e7];exact u1
      refine⟨v',w',B,K6 r1,Qj.1.put hd ?_⟩;simp only[VR];refine⟨B,cN,?_⟩;split
      ·rename_i hn;obtain⟨e1,e2,_⟩:=b3 hn;exact⟨e1,trivial,e2⟩
      ·rename_i b Kc;obtain⟨cap,cur,e1,e2,e3,e4,e5,e6,e7⟩:=b4 b Kc;refine⟨cap,e1,e3,e4,?_,fun _=>?_⟩<;>rw[b1]<;>omega
     ·cases hc
    ·rename_i Ka off n;split at hc
     ·cases hc
     rename_i ob LB;split at hc
     ·rename_i MQ;obtain⟨rfl,rfl,q3,q4,q5⟩:=MQ;cases hc;simp only[VR] at hx;obtain⟨B,hB,hx⟩:=hx;obtain⟨B0,e1,e2,e3,e4,e5⟩:=h.obj _ ob LB;rw[hB] at e1;cases e1;have hm:n+m≤maxLen:=by
       have:n+m≤(n+m)*ie.bytes:=Nat.le_mul_of_pos_right _ hb.2.1;simp only[maxLen];omega
      have Kg:∃ xs,w.ownsRow 0 ob.elem ie.size (a.eval x) n xs∧aG w (FB C σ s.heap) σ ob.cells xs∧(a.eval x).ownBlock=B.iI:=by
       split at hx
       ·rename_i hn;obtain⟨e,_,rfl⟩:=hx;rw[e,e3 hn,hn];exact⟨[],World.ownsRow_nil w 0 _ _,by simp[aG],rfl⟩
       ·rename_i b MH;obtain⟨cap,e,c1,c2,c3,c4⟩:=hx;obtain⟨cur,n1,n2,n3,n4,n5,n6⟩:=e5 b MH;rw[e,MH];have LQ:=c4 trivial;refine⟨cur.toList.take ob.cells.length,⟨?_,.inr ⟨b,cap,cur,rfl,Nat.zero_le _,n1,c1,c2,?_,by rw[q4]⟩⟩,n6,rfl⟩
        ·rw[List.length_take,q4];simp;omega
        ·rw[n2,← LQ,e2,q3]
      obtain⟨xs,x1,x2,x3⟩:=Kg;have xl:=aG.length _ _ x2;obtain⟨v',w',r1,r2,r3,r4⟩:=lu (P:=P) (ty:=o.type) hu g1 g4 g2 g3 O9 hb.1 x1 (by rw[ul];exact hb.2.2) u3 uo hm q5;rw[x3] at r3 r4;obtain⟨B',b1,b2,b3,b4⟩:=lv r2;have Qj:=h.grow (B':=B') LB hB r3 (by rw[b1,q3]) (Lk:=ob.cells++news) (fun g hg=>by
        rw[b2] at hg;rcases r4 with r4 | r4<;>rw[r4] at hg
        ·exact .inl hg
        ·exact .inr (by simpa using hg.symm)) (by simp[e4,u2]) (fun hn=>by
        have:=(b3 hn).2.2;obtain⟨y1,y2⟩:=List.append_eq_nil_iff.1 this;rw[y1] at xl;rw[y2] at ul;rw[List.eq_nil_of_length_eq_zero xl.symm,List.eq_nil_of_length_eq_zero ul.symm];rfl) fun b Kc=>by
        obtain⟨cap,cur,e1,e2,e3,e4,e5,e6,e7⟩:=b4 b Kc;have hlen:(ob.cells++news).length=(xs++us).length:=by simp[xl,ul]
        refine⟨cur,e2,e5,?_,?_⟩
        ·rw[e5,← e6,List.length_append,← q4,hb.2.2,← Nat.add_mul];exact Nat.mul_le_mul_right _ e3
        ·rw[hlen,e7];exact aG.append _ _ _ _ x2 u1
      refine⟨v',w',B',K6 r1,Qj.put hd ?_⟩;simp only[VR];refine⟨B',cN,?_⟩;split
      ·rename_i hn;obtain⟨e1,e2,_⟩:=b3 hn;exact⟨e1,trivial,e2⟩
      ·rename_i b Kc;obtain⟨cap,cur,e1,e2,e3,e4,e5,e6,e7⟩:=b4 b Kc;refine⟨cap,e1,e3,e4,?_,fun _=>?_⟩<;>rw[b1]<;>omega
     ·cases hc
    ·cases hc
   ·cases hc
  ·cases hc
 ·cases hc
end
end Go.Can
