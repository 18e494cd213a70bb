/- make, new variables, compo -/
import Derived.Test.YtlkmbdfhdknlgaaGreatV04
namespace Go.Can
open Go.RowKit List
def aS (z:List CV):Nat->List CV
 | 0=>[]
 | n+1=>z++aS z n
theorem fE (z:List CV)(n:Nat):(aS z n).length=n*z.length:=by
 induction n with
 | zero=>simp[aS]
 | succ n ih=>simp[aS,ih,Nat.succ_mul,Nat.add_comm]
theorem C9 (z:List CV)(n i:Nat)(h:i<n*z.length):(aS z n)[i]? = z[i % z.length]?:=by
 induction n generalizing i with
 | zero=>simp at h
 | succ n ih=>
  simp only[aS];rw[getElem?_append];split
  ·rename_i hi;rw[Nat.mod_eq_of_lt hi]
  ·rename_i hi;rw[ih _ (by rw[Nat.succ_mul] at h;omega)];have VN:0<z.length:=by
    rcases Nat.eq_zero_or_pos z.length with e | e
    ·rw[e] at h;simp at h
    ·exact e
   congr 1
   conv=>rhs;rw[show i=(i-z.length)+z.length by omega]
   rw[Nat.add_mod_right]
theorem C8 (c:CV)(n:Nat):aS [c] n=replicate n c:=by
 induction n with
 | zero=>rfl
 | succ n ih=>simp[aS,ih,replicate_succ]
section
variable {P:Program}{C:Cx}{σ:Nat->Option OB}{s:St}{a:Act}{w:World}
theorem lP {F:Nat->Prop}{zs:Array Value}{z:List CV}(h:a7 w F σ z zs.toList)(n:Nat):a7 w F σ (aS z n) (madeCells zs (n*zs.size)).toList:=by
 have hl:=a7.length _ _ h;have Tq:zs.size=z.length:=by simpa using hl
 refine a7.y4 _ _ (by simp[size_madeCells,fE,Tq]) λ i c hi=>?_;have OT:i<n*z.length:=by
  have:=(List.getElem?_eq_some_iff.1 hi).1;rwa [fE] at this
 rw[C9 z n i OT] at hi;obtain⟨v,k1,k2⟩:=a7.get _ _ h _ _ hi;refine⟨v,?_,k2⟩;have Xd:i<n*zs.size:=by rw[Tq];exact OT
 simp only[madeCells,Array.toList_map,Array.toList_range,getElem?_map,getElem?_range Xd,Option.map_some];rw[Tq] at *;have:zs[i % z.length]? = some v:=by simpa using k1
 simp[getElem!_def,this]
theorem j3 {z:List CV}(h:z.all one=true)(n:Nat):(aS z n).all one=true:=by
 induction n with
 | zero=>rfl
 | succ n ih=>simp[aS,all_append,h,ih]
def St.new (s:St)(e:TypeId)(sz:Nat)(cs:List CV):St:={ s with heap:=(s.nx,⟨e,sz,cs⟩)::s.heap,nx:=s.nx+1 }
theorem rv (h:aO C σ s a w){e:TypeId}{sz:Nat}{cs:List CV}{us:Array Value}(hr:a7 w (FB C σ s.heap) σ cs us.toList)(h1:cs.all one=true) :
  aO C (sig σ s.nx ⟨some w.heap.size,us.size,sz⟩) (s.new e sz cs) a (w.alloc (.cells us e)):=by
 have hl:=a7.length _ _ hr;refine (h.fresh (ou _) (ob:=⟨e,sz,cs⟩) (B:=⟨some w.heap.size,us.size,sz⟩) rfl h1 xr λ b hb=>?_).1;simp only[Option.some.injEq] at hb;subst hb;exact⟨Nat.le_refl _,us,heap_alloc_new w _,rfl,by simp only;simp at hl;omega,by simp only;rw[<- hl,take_of_length_le (Nat.le_refl _)];exact hr⟩
def Eg (av:List (Nat×TI))(s:St)(d:Option Tmp)(t:TypeId)(l c:Operand):Option St:=
 match dM av t,ev s l,ev s c with
 | some (.sl e),some (.int _ n),some (.int _ m)=>
  match assoc av e with
  | some ie=>if n=m/\0<=n/\(ie.bytes:Int)*n<=281474976710656/\n<=9223372036854775807 then some ((s.new e ie.size (aS ie.zero n.toNat)).put d (.bg s.nx 0 n.toNat)) else none
  | none=>none
 | _,_,_=>none
theorem dN {o:Nat}{B:OB}:sig σ o B o=some B:=by simp[sig]
theorem Iv {av:List (Nat×TI)}(ht:aD P av)(h:aO C σ s a w){o:Oper}{t:TypeId}{l c:Operand}(hd:∀ t,o.dst=some t->t<a.tmps.size)(ho:o.op=.makeSlice t l c){s':St}(hc:Eg av s o.dst t l c=some s') :
  ∃ z w',(execOp a.eval o).run P w=.ok (.value z) w'/\Rel C s' (a.put o.dst z) w':=by
 unfold Eg at hc;split at hc
 ·rename_i e k n k' m PG hl hm;obtain⟨it,Ps,PG⟩:=Option.map_eq_some_iff.1 PG;split at hc
  ·rename_i ie OV;split at hc
   ·rename_i hb;obtain⟨rfl,h0,Uq,WD⟩:=hb;cases hc;obtain⟨f,z,g1,g2,g3,g4,g5⟩:=(ht e ie OV).info;obtain⟨k1,k2⟩:=dt (w:=w) (F:=FB C σ s.heap) _ _ g5;have kl:=bG h hl;have kc:=bG h hm;simp only[VR] at kl kc;have O0:f.size=z.cells.size:=by rw[g2,<- (ht e ie OV).len,<- ca.length _ _ k1];simp
    have hz:=lP (σ:=σ) (a7.cS _ _ k1) n.toNat;have hr:=run_make (P:=P) w t e f z (dI (ht t it Ps) PG) g1 g4 k k' n n h0 (Int.le_refl _) (by rw[g3];exact Uq) WD;have PW:=rv h (e:=e) (sz:=ie.size) hz (j3 k2 n.toNat);have Y1:z.cells.size=ie.size:=by rw[<- O0,g2]
    rw[O0] at hr;refine⟨.slice (some ⟨w.heap.size,0,none⟩) n.toNat n.toNat,_,by simp only[execOp,ho,kl,kc,Sem.run_bind,hr,Result.andThen_ok,Sem.run_pure],_,PW.put hd ?_⟩;simp only[VR];refine⟨_,dN,n.toNat,rfl,Nat.le_refl _,by simp only[maxLen];omega,?_,λ _=>?_⟩
    ·simp[size_madeCells,Y1]
    ·simp[size_madeCells,Y1]
   ·cases hc
  ·cases hc
 ·cases hc
def zD (av:List (Nat×TI))(s:St)(d:Option Tmp)(e:TypeId):Option St:=
 match assoc av e with
 | some ie=>some ((s.new e 0 ie.zero).put d (.ax s.nx 0))
 | none=>none
theorem FT {av:List (Nat×TI)}(ht:aD P av)(h:aO C σ s a w){o:Oper}{e:TypeId}(hd:∀ t,o.dst=some t->t<a.tmps.size)(ho:o.op=.alloc e){s':St}(hc:zD av s o.dst e=some s') :
  ∃ z w',(execOp a.eval o).run P w=.ok (.value z) w'/\Rel C s' (a.put o.dst z) w':=by
 unfold zD at hc;split at hc
 ·rename_i ie OV;cases hc;obtain⟨f,z,g1,_,_,g4,g5⟩:=(ht e ie OV).info;obtain⟨k1,k2⟩:=dt (w:=w) (F:=FB C σ s.heap) _ _ g5;have PW:=rv h (e:=e) (sz:=0) (a7.cS _ _ k1) k2;refine⟨.pointer (some ⟨w.heap.size,0,none⟩),_,?_,_,PW.put hd ?_⟩
  ·simp[execOp,ho,Instr.alloc,ig g1 g4,newVar,newRow]
  ·simp only[VR];exact⟨_,_,dN,rfl,rfl⟩
 ·cases hc
def KL (s:St)(d:Option Tmp)(e:TypeId)(x:Operand):Option St:=
 match ev s x with
 | some c=>if ez c then none else some ((s.new e 0 c.cells).put d (.ax s.nx 0))
 | none=>none
theorem KK (h:aO C σ s a w){o:Oper}{e:TypeId}{x:Operand}(hd:∀ t,o.dst=some t->t<a.tmps.size)(ho:o.op=.box e x){s':St}(hc:KL s o.dst e x=some s') :
  ∃ z w',(execOp a.eval o).run P w=.ok (.value z) w'/\Rel C s' (a.put o.dst z) w':=by
 unfold KL at hc;split at hc
 ·rename_i c hx;split at hc
  ·cases hc
  rename_i RP;cases hc;obtain⟨f1,f2⟩:=VR.flat c _ (λ cs e=>by subst e;simp[ez] at RP) (λ k s p e=>by subst e;simp[ez] at RP) (bG h hx);have PW:=rv h (e:=e) (sz:=0) f1 f2;refine⟨.pointer (some ⟨w.heap.size,0,none⟩),_,?_,_,PW.put hd ?_⟩
  ·simp[execOp,ho,Instr.box,newVar,newRow]
  ·simp only[VR];exact⟨_,_,dN,rfl,rfl⟩
 ·cases hc
def kZ (av:List (Nat×TI))(s:St)(d:Option Tmp)(t:TypeId)(len:Nat)(parts:List (Nat×Operand)):Option St:=
 match dM av t with
 | some (.sl e)=>
  match assoc av e,iy s parts with
  | some ie,some cs=>
   if len*ie.size<=16777216/\len<=16777216 then
    match nw (λ i=>some (i*ie.size,ie.size)) (aS ie.zero len) cs with
    | some out=>some ((s.new e ie.size out).put d (.bg s.nx 0 len))
    | none=>none
   else none
  | _,_=>none
 | _=>none
theorem mU (place:Nat->Option (Nat×Nat)):∀ (ps:List (Nat×CV)) (cells out:List CV),nw place cells ps=some out->out.length=cells.length
 | [],cells,out,h=>by simp only[nw] at h;cases h;rfl
 | (i,c)::ps,cells,out,h=>by
  simp only[nw] at h;split at h
  ·cases h
  ·split at h
   ·cases h
   ·rename_i O0;simp only[ne_eq,gt_iff_lt,Bool.or_eq_true,decide_eq_true_eq,not_or,Decidable.not_not,Nat.not_lt] at O0;rw[mU place ps _ out h,fO _ _ _ O0.2]
theorem vY {av:List (Nat×TI)}(ht:aD P av)(h:aO C σ s a w){o:Oper}{t:TypeId}{len:Nat}{parts:Array (Nat×Operand)}(hd:∀ t,o.dst=some t->t<a.tmps.size)(ho:o.op=.buildSlice t len parts){s':St}
  (hc:kZ av s o.dst t len parts.toList=some s'):∃ z w',(execOp a.eval o).run P w=.ok (.value z) w'/\Rel C s' (a.put o.dst z) w':=by
 unfold kZ at hc;split at hc
 ·rename_i e PG;obtain⟨it,Ps,PG⟩:=Option.map_eq_some_iff.1 PG;split at hc
  ·rename_i ie cs OV PQ;split at hc
   ·rename_i hb;split at hc
    ·rename_i out SS;cases hc;obtain⟨f,z,g1,g2,g3,g4,g5⟩:=(ht e ie OV).info;obtain⟨k1,k2⟩:=dt (w:=w) (F:=FB C σ s.heap) _ _ g5;have O0:z.cells.size=ie.size:=by rw[<- (ht e ie OV).len,<- ca.length _ _ k1];simp
     have hz:=lP (σ:=σ) (a7.cS _ _ k1) len;obtain⟨l1,l2⟩:=me h _ _ PQ;obtain⟨us,m1,m2,m3⟩:=oB _ cs (parts.toList.map λ p=>(p.1,a.eval p.2)) _ out (madeCells z.cells (len*z.cells.size)) (by simpa using l1) l2 hz (j3 k2 len) SS;have PW:=rv h (e:=e) (sz:=ie.size) m2 m3;have UA:us.size=len*ie.size:=by
      have:=a7.length _ _ m2;rw[mU _ _ _ _ SS,fE,(ht e ie OV).len] at this
      simpa using this
     have hp:(parts.map λ (x:Nat×Operand)=>(x.1,a.eval x.2)).toList=parts.toList.map λ (p:Nat×Operand)=>(p.1,a.eval p.2):=by simp
     rw[O0] at m1;refine⟨.slice (some ⟨w.heap.size,0,none⟩) len len,_,?_,_,PW.put hd ?_⟩
     ·simp only[execOp,ho,Instr.buildSlice,Sem.run_bind,bH (dI (ht t it Ps) PG),Result.andThen_ok,db g1,g2,hp];rw[if_neg (by have:=hb.1;omega)];by_cases h0:len*ie.size=0
      ·have e0:madeCells z.cells 0=#[]:=by simp[madeCells]
       have e2:(Array.range 0).map (λ _=>(default:Value))=#[]:=by simp[Array.range_zero']
       rw[h0,e0] at m1;simp[h0,e2,m1,newRow]
      ·have e1:(Array.range (len*ie.size)).map (λ x=>z.cells[x % z.cells.size]!)=madeCells z.cells (len*ie.size):=rfl;simp[h0,ig g1 g4,e1,m1,newRow]
     ·simp only[VR];exact⟨_,dN,len,rfl,Nat.le_refl _,by have:=hb.2;simp only[maxLen];omega,by simp[UA],λ _=>UA.symm⟩
    ·cases hc
   ·cases hc
  ·cases hc
 ·cases hc
def cells? (s:St):CV->Option (List CV×Nat)
 | .au cs n=>some (cs,n)
 | .ak=>some ([],0)
 | .bg o off n=>match assoc s.heap o with
  | some ob=>some ((ob.cells.drop off).take (n*ob.sz),n)
  | none=>none
 | _=>none
def LM (w:World)(u:Value)(m:Nat)(us:List Value):Prop:=
 (∃ c,u=.slice none 0 c/\m=0/\us=[])\/(∃ ad c,u=.slice (some ad) m c/\∀ j x,us[j]? = some x->w.cell? (ad.add j)=some x)
theorem cells?_ok (h:aO C σ s a w){c:CV}{v:Value}{cs:List CV}{m:Nat}(hv:VR w (FB C σ s.heap) σ c v)(hm:cells? s c=some (cs,m)) :
  ∃ us,a7 w (FB C σ s.heap) σ cs us/\cs.all one=true/\LM w v m us:=by
 unfold cells? at hm;split at hm
 ·cases hm;simp only[VR,cr] at hv;obtain⟨A,cap,rfl,_,_,h4⟩:=hv;rcases h4 with ⟨rfl,rfl⟩ | ⟨ad,rfl,hmr⟩
  ·refine⟨[],by simp[a7],rfl,?_⟩
   cases A with
   | none=>exact .inl ⟨_,rfl,rfl,rfl⟩
   | some ad=>exact .inr ⟨ad,cap,rfl,by simp⟩
  ·obtain⟨us,h1,_,h3⟩:=fx.cells _ _ hmr;exact⟨us,a7.cS _ _ h1,fx.MA _ _ hmr,.inr ⟨ad,cap,rfl,h3⟩⟩
 ·cases hm;simp only[VR] at hv;subst hv;exact⟨[],by simp[a7],rfl,.inl ⟨_,rfl,rfl,rfl⟩⟩
 ·rename_i o off n;split at hm
  ·rename_i ob ho;cases hm;simp only[VR] at hv;obtain⟨B,hB,hv⟩:=hv;split at hv
   ·obtain⟨rfl,rfl,rfl⟩:=hv;exact⟨[],by simp[a7],by simp,.inl ⟨_,rfl,rfl,rfl⟩⟩
   ·rename_i b hb;obtain⟨cap,rfl,_⟩:=hv;obtain⟨us,h1,h2,h3⟩:=(Hi h ho hB hb).drop off;rw[add_lit,Nat.zero_add] at h3;refine⟨us.take (m*ob.sz),a7.take _ _ _ h1,?_,.inr ⟨_,cap,rfl,λ j x hx=>?_⟩⟩
    ·rw[all_eq_true] at h2 |-;exact λ x hx=>h2 x (mem_of_mem_take hx)
    ·rw[getElem?_take] at hx;split at hx
     ·exact h3 j x hx
     ·cases hx
  ·cases hm
 ·cases hm
theorem ug (base:Nat)(t ty e:TypeId)(i:TypeInfo)(size:Nat)(ht:P.underlying t=some (.slice e))(hi:P.info? e=some i)
  (v:Value) (n:Nat) (xs:List Value) (Po:w.ownsRow base e size v n xs) (c:Nat):(Builtin.append_ #[t,t] ty #[v,.slice none 0 c]).run P w=.ok v w:=by
 rcases Po.2 with ⟨rfl,rfl⟩ | ⟨g,cap,cur,rfl,_,_,Zd,_⟩
 ·simp[Builtin.append_,run_underlying ht,sizeOf,typeInfo,hi,Builtin.lenOf,Builtin.firstCells]
 ·simp[Builtin.append_,run_underlying ht,sizeOf,typeInfo,hi,Builtin.lenOf,Builtin.firstCells,Zd,storeCells]
theorem nY {t ty e:TypeId}{i:TypeInfo}{z:Value}{size bytes:Nat}(ht:P.underlying t=some (.slice e))(hi:P.info? e=some i)(hz:i.zero=some z)
  (UG:i.size=size) (Uq:i.bytes=bytes) (VH:z.cells.size=size) (O0:0<size) {v u:Value} {n m:Nat} {xs us:List Value} (Po:w.ownsRow 0 e size v n xs)
  (hl:us.length=m*size) (hs:LM w u m us) (h1:∀ u∈us,u.oneCell'=true) (WD:n+m<=maxLen) (Sw:(n+m)*bytes<=140737488355328) :
  ∃ v' w',(Builtin.append_ #[t,t] ty #[v,u]).run P w=.ok v' w'/\w'.ownsRow 0 e size v' (n+m) (xs++us)/\w.grownBy w' v.ownBlock/\(v'.ownBlock=v.ownBlock\/v'.ownBlock=some w.heap.size):=by
 rcases hs with ⟨c,rfl,rfl,rfl⟩ | ⟨ad,c,rfl,hc⟩
 ·exact⟨v,w,ug 0 t ty e i size ht hi v n xs Po c,by simpa using Po,World.grownBy.refl w _,.inl rfl⟩
 ·obtain⟨v',w',k1,k2,k3,_,k5⟩:=run_append_own_at (P:=P) w 0 t ty e i z size bytes ht hi hz UG Uq VH O0 v n xs Po ad m c us hl hc h1 WD Sw (Nat.zero_le _);exact⟨v',w',k1,k2,k3,k5⟩
theorem oa {w':World}{e:TypeId}{size:Nat}{v:Value}{k:Nat}{ys:List Value}(h:w'.ownsRow 0 e size v k ys) :
  ∃ B:OB,B.sz=size/\B.j7=v.ownBlock/\(B.j7=none->v=.slice none 0 0/\k=0/\ys=[])/\
   ∀ b,B.j7=some b->∃ cap,∃ cur:Array Value,v=.slice (some ⟨b,0,none⟩) k cap/\w'.heap[b]? = some (.cells cur e (0,0))/\k<=cap/\cap<=maxLen/\cur.size=B.room/\cap*size=B.room/\cur.toList.take ys.length=ys:=by
 have hl:=h.1;rcases h.2 with ⟨rfl,rfl⟩ | ⟨g,cap,cur,rfl,_,hg,h1,h2,h3,h4⟩
 ·exact⟨⟨none,0,size⟩,rfl,rfl,λ _=>⟨rfl,rfl,eq_nil_of_length_eq_zero yBz⟩,λ b hb=>by cases hb⟩
 ·refine⟨⟨some g,cur.size,size⟩,rfl,rfl,λ hb=>(by cases hb),λ b hb=>?_⟩;simp only[Option.some.injEq] at hb;subst hb;exact⟨cap,cur,rfl,hg,h1,h2,rfl,h3.symm,by rw[hl];exact h4⟩
theorem aO.grow (h:aO C σ s a w){o:Nat}{ob:Ob}{B B':OB}(ho:assoc s.heap o=some ob)(hB:σ o=some B){w':World}(hg:w.grownBy w' B.j7)(O0:B'.sz=ob.sz){QH:List CV}
  (Qo:∀ g,B'.j7=some g->B.j7=some g\/g=w.heap.size) (h1:QH.all one=true) (SV:B'.j7=none->QH=[])
  (QR:∀ g,B'.j7=some g->∃ cur:Array Value,w'.heap[g]? = some (.cells cur ob.elem (0,0))/\cur.size=B'.room/\QH.length<=cur.size/\a7 w (FB C σ s.heap) σ QH (cur.toList.take QH.length)) :
  aO C (sig σ s.nx B') { env:=s.env,heap:=(s.nx,{ ob with cells:=QH })::jU s.heap o,nx:=s.nx+1 } a w':=by
 obtain⟨B0,e1,e2,e3,e4,e5⟩:=h.obj o ob ho;rw[hB] at e1;cases e1;have hn:σ s.nx=none:=h.nx s.nx (Nat.le_refl _);have SP:sig σ s.nx B' s.nx=some B':=by simp[sig]
 have hs:∀ {p},p≠s.nx->sig σ s.nx B' p=σ p:=λ {p} hp=>by simp[sig,hp]
 have hold:∀ {p x},assoc s.heap p=some x->p≠s.nx:=λ {p x} hp e=>by
  subst e;obtain⟨B2,m1,_⟩:=h.obj _ _ hp;rw[hn] at m1;cases m1
 have WT:∀ {p y},assoc ((s.nx,({ ob with cells:=QH }:Ob))::jU s.heap o) p=some y->(p=s.nx/\y={ ob with cells:=QH })\/(p≠s.nx/\p≠o/\assoc s.heap p=some y):=λ {p y} hp=>by
  simp only[assoc] at hp;split at hp
  ·rename_i e;cases hp;exact .inl ⟨e.symm,rfl⟩
  ·rename_i e;rw[fv] at hp;split at hp
   ·cases hp
   ·rename_i e2;exact .inr ⟨Ne.symm e,Ne.symm e2,hp⟩
 have OT:∀ {r z b},assoc s.heap r=some z->a9 σ r=some b->b<w.heap.size:=λ {r z b} hr U1=>by
  obtain⟨B2,m1,_,_,_,m5⟩:=h.obj r z hr;obtain⟨cur,n1,_⟩:=m5 b (by simpa [a9,m1] using U1);exact (Array.getElem?_eq_some_iff.1 n1).1
 have hF:∀ b,FB C (sig σ s.nx B') ((s.nx,({ ob with cells:=QH }:Ob))::jU s.heap o) b->FB C σ s.heap b\/w.heap.size<=b:=by
  rintro b (hb | ⟨p,x,hp,hb⟩)
  ·exact .inl (.inl hb)
  ·rcases WT hp with ⟨rfl,_⟩ | ⟨Pp,_,SR⟩
   ·simp only[a9,SP,Option.bind_some] at hb;rcases Qo b hb with hb | rfl
    ·exact .inl (.inr ⟨o,ob,ho,by simp[a9,hB,hb]⟩)
    ·exact .inr (Nat.le_refl _)
   ·simp only[a9,hs Pp] at hb;exact .inl (.inr ⟨p,x,SR,hb⟩)
 have hk:cY w w' (FB C σ s.heap) (FB C (sig σ s.nx B') ((s.nx,({ ob with cells:=QH }:Ob))::jU s.heap o)):=kP hg (λ b e=>.inr ⟨o,ob,ho,by simp[a9,hB,e]⟩) hF;refine⟨h.oz,h.tm,hg.os.trans h.os,hg.tape.trans h.tape,hg.output.trans h.output,Nat.le_trans h.size hg.size,?_,?_,?_,?_,?_,?_,Nat.le_trans h.low (Nat.le_succ _),λ p B2 b hp PO hb=>?_⟩
 ·intro b hb Po;rw[hg.block b (Nat.lt_of_lt_of_le hb h.size) (λ e=>?_)]
  ·exact h.frame b hb Po
  ·obtain⟨cur,_,_,_,n4,_⟩:=e5 b e.symm;rcases n4 with n4 | n4
   ·exact Po n4
   ·omega
 ·intro t c hc;obtain⟨v,k3,k4⟩:=h.env t c hc;exact⟨v,k3,VR.bL hk c v (ux hn k4) k4⟩
 ·intro p x hp;rcases WT hp with ⟨rfl,rfl⟩ | ⟨Pp,Qc,SR⟩
  ·refine⟨B',SP,O0,SV,h1,λ g hgb=>?_⟩;obtain⟨cur,k1,k2,k3,k4⟩:=QR g hgb;refine⟨cur,k1,k2,?_,?_,k3,a7.bL hk _ _ (nV hn k4) k4⟩
   ·rcases Qo g hgb with hb | rfl
    ·obtain⟨_,_,_,n3,_⟩:=e5 g hb;exact n3
    ·intro hf;have:=C.hF.1 _ hf;have:=h.size;omega
   ·rcases Qo g hgb with hb | rfl
    ·obtain⟨_,_,_,_,n4,_⟩:=e5 g hb;exact n4
    ·exact .inr h.size
  ·obtain⟨B2,m1,m2,m3,m4,m5⟩:=h.obj p x SR;refine⟨B2,by rw[hs Pp];exact m1,m2,m3,m4,λ b hb=>?_⟩;obtain⟨cur,n1,n2,n3,n4,n5,n6⟩:=m5 b hb;have Ze:some b≠B.j7:=λ e=>Qc (h.inj p o x ob b SR ho (by simp[a9,m1,hb]) (by simp[a9,hB,e]));exact⟨cur,by rw[hg.block b (Array.getElem?_eq_some_iff.1 n1).1 Ze];exact n1,n2,n3,n4,n5,a7.bL hk _ _ (nV hn n6) n6⟩
 ·intro p q x y b hp hq Te TU;rcases WT hp with ⟨rfl,rfl⟩ | ⟨Uk,Qc,SR⟩<;>rcases WT hq with ⟨e,rfl⟩ | ⟨hnq,hnoq,QS⟩
  ·exact e.symm
  ·simp only[a9,SP,Option.bind_some] at Te;have ZT:a9 σ q=some b:=by simpa only[a9,hs hnq] using TU
   rcases Qo b Te with hb | rfl
   ·exact absurd (h.inj q o y ob b QS ho ZT (by simp[a9,hB,hb])) hnoq
   ·have:=OT QS ZT;omega
  ·subst e;simp only[a9,SP,Option.bind_some] at TU;have ZU:a9 σ p=some b:=by simpa only[a9,hs Uk] using Te
   rcases Qo b TU with hb | rfl
   ·exact absurd (h.inj p o x ob b SR ho ZU (by simp[a9,hB,hb])) Qc
   ·have:=OT SR ZU;omega
  ·exact h.inj p q x y b SR QS (by simpa only[a9,hs Uk] using Te) (by simpa only[a9,hs hnq] using TU)
 ·intro p hp;have:p≠s.nx:=λ e=>by subst e;exact absurd hp xr
  rw[hs this];exact h.nx p (Nat.le_of_succ_le hp)
 ·intro p hp;have:=h.low;rw[hs (show p≠s.nx by omega)];exact h.fX p hp
 ·by_cases e:p=s.nx
  ·subst e;rw[SP] at PO;cases PO;rcases Qo b hb with hb | rfl
   ·obtain⟨_,_,_,_,n4,_⟩:=e5 b hb;exact n4
   ·exact .inr h.size
  ·rw[hs e] at PO;exact h.new p B2 b hp PO hb
def pa (av:List (Nat×TI))(s:St)(d:Option Tmp)(t:TypeId)(x y:Operand):Option St:=
 match dM av t,ev s x,ev s y with
 | some (.sl e),some p,some q=>
  match assoc av e,cells? s q with
  | some ie,some (news,m)=>
   if 0<ie.size/\0<ie.bytes/\news.length=m*ie.size then
    match p with
    | .ak=>if m*ie.bytes<=140737488355328 then some ((s.new e ie.size news).put d (.bg s.nx 0 m)) else none
    | .bg o off n=>match assoc s.heap o with
     | none=>none
     | some ob=>if off=0/\ob.elem=e/\ob.sz=ie.size/\n*ie.size=ob.cells.length/\(n+m)*ie.bytes<=140737488355328 then
       some (St.put { env:=s.env,heap:=(s.nx,{ ob with cells:=ob.cells++news })::jU s.heap o,nx:=s.nx+1 } d (.bg s.nx 0 (n+m)))
      else none
    | _=>none
   else none
  | _,_=>none
 | _,_,_=>none
theorem bF {α:Type}:∀ (l:List (Nat×α)) (t:Nat) (x:α),assoc l t=some x->(t,x)∈l
 | [],_,_,h=>by simp[assoc] at h
 | (k,v)::r,t,x,h=>by
  simp only[assoc] at h;split at h
  ·rename_i e;subst e;cases h;exact mem_cons_self
  ·exact mem_cons_of_mem _ (bF r t x h)
theorem vZ {av:List (Nat×TI)}(ht:aD P av)(h:aO C σ s a w){o:Oper}{cl:Call}{t:TypeId}{x y:Operand}(hd:∀ t,o.dst=some t->t<a.tmps.size)(ho:o.op=.call cl)(O2:cl.callee=.builtin .append)(OX:cl.args=#[x,y])(Qt:cl.argTypes=#[t,t])
  {s':St} (hc:pa av s o.dst t x y=some s'):∃ z w' B,(execOp a.eval o).run P w=.ok (.value z) w'/\aO C (sig σ s.nx B) s' (a.put o.dst z) w':=by
 unfold pa at hc;split at hc
 ·rename_i e p q PG hp hq;obtain⟨it,Ps,PG⟩:=Option.map_eq_some_iff.1 PG;split at hc
  ·rename_i ie news m OV PQ;split at hc
   ·rename_i hb;obtain⟨f,z,g1,g2,g3,g4,g5⟩:=(ht e ie OV).info;obtain⟨k1,k2⟩:=dt (w:=w) (F:=FB C σ s.heap) _ _ g5;have VH:z.cells.size=ie.size:=by rw[<- (ht e ie OV).len,<- ca.length _ _ k1];simp
    have hu:=dI (ht t it Ps) PG;obtain⟨us,u1,u2,u3⟩:=cells?_ok h (bG h hq) PQ;have ul:=a7.length _ _ u1;have uo:=a7.ja _ _ u2 u1;have hx:=bG h hp;have P1:∀ {v' w'},(Builtin.append_ #[t,t] o.type #[a.eval x,a.eval y]).run P w=.ok v' w'->(execOp a.eval o).run P w=.ok (.value v') w':=λ {v' w'} hr=>by
     simp[execOp,ho,resolve,O2,OX,Qt,invoke,builtin,hr]
    split at hc
    ·split at hc
     ·rename_i Uq;cases hc;simp only[VR] at hx;have hm:0+m<=maxLen:=by
       have:m<=m*ie.bytes:=Nat.le_mul_of_pos_right m hb.2.1;simp only[maxLen];omega
      obtain⟨v',w',r1,r2,r3,r4⟩:=nY (P:=P) (ty:=o.type) hu g1 g4 g2 g3 VH hb.1 (World.ownsRow_nil w 0 e ie.size) (by rw[ul];exact hb.2.2) u3 uo hm (by rw[Nat.zero_add];exact Uq);rw[<- hx] at r1;rw[Nat.zero_add,nil_append] at r2;obtain⟨B,b1,b2,b3,b4⟩:=oa r2;have PB:=h.fresh (ob:=⟨e,ie.size,news⟩) (B:=B) r3 b1 u2 (λ hn=>by
       have:=(b3 hn).2.2;rw[this] at ul;exact eq_nil_of_length_eq_zero ul.symm) λ b Pf=>by
        obtain⟨cap,cur,e1,e2,e3,e4,e5,e6,e7⟩:=b4 b Pf;have S8:b=w.heap.size:=by
         rw[b2] at Pf;rcases r4 with r4 | r4<;>rw[r4] at Pf
         ·simp[Value.ownBlock] at Pf
         ·simpa using Pf.symm
        refine⟨by omega,cur,e2,e5,?_,?_⟩
        ·simp only;rw[e5,<- e6,hb.2.2];exact Nat.mul_le_mul_right _ e3
        ·simp only;rw[<- ul,e7];exact u1
      refine⟨v',w',B,P1 r1,PB.1.put hd ?_⟩;simp only[VR];refine⟨B,dN,?_⟩;split
      ·rename_i hn;obtain⟨e1,e2,_⟩:=b3 hn;exact⟨e1,trivial,e2⟩
      ·rename_i b Pf;obtain⟨cap,cur,e1,e2,e3,e4,e5,e6,e7⟩:=b4 b Pf;refine⟨cap,e1,e3,e4,?_,λ _=>?_⟩<;>rw[b1]<;>omega
     ·cases hc
    ·rename_i Pe off n;split at hc
     ·cases hc
     rename_i ob QT;split at hc
     ·rename_i QS;obtain⟨rfl,rfl,q3,q4,q5⟩:=QS;cases hc;simp only[VR] at hx;obtain⟨B,hB,hx⟩:=hx;obtain⟨B0,e1,e2,e3,e4,e5⟩:=h.obj _ ob QT;rw[hB] at e1;cases e1;have hm:n+m<=maxLen:=by
       have:n+m<=(n+m)*ie.bytes:=Nat.le_mul_of_pos_right _ hb.2.1;simp only[maxLen];omega
      have Po:∃ xs,w.ownsRow 0 ob.elem ie.size (a.eval x) n xs/\a7 w (FB C σ s.heap) σ ob.cells xs/\(a.eval x).ownBlock=B.j7:=by
       split at hx
       ·rename_i hn;obtain⟨e,_,rfl⟩:=hx;rw[e,e3 hn,hn];exact⟨[],World.ownsRow_nil w 0 _ _,by simp[a7],rfl⟩
       ·rename_i b Tf;obtain⟨cap,e,c1,c2,c3,c4⟩:=hx;obtain⟨cur,n1,n2,n3,n4,n5,n6⟩:=e5 b Tf;rw[e,Tf];have Rw:=c4 trivial;refine⟨cur.toList.take ob.cells.length,⟨?_,.inr ⟨b,cap,cur,rfl,Nat.zero_le _,n1,c1,c2,?_,by rw[q4]⟩⟩,n6,rfl⟩
        ·rw[length_take,q4];simp;omega
        ·rw[n2,<- Rw,e2,q3]
      obtain⟨xs,x1,x2,x3⟩:=Po;have xl:=a7.length _ _ x2;obtain⟨v',w',r1,r2,r3,r4⟩:=nY (P:=P) (ty:=o.type) hu g1 g4 g2 g3 VH hb.1 x1 (by rw[ul];exact hb.2.2) u3 uo hm q5;rw[x3] at r3 r4;obtain⟨B',b1,b2,b3,b4⟩:=oa r2;have PB:=h.grow (B':=B') QT hB r3 (by rw[b1,q3]) (QH:=ob.cells++news) (λ g hg=>by
        rw[b2] at hg;rcases r4 with r4 | r4<;>rw[r4] at hg
        ·exact .inl hg
        ·exact .inr (by simpa using hg.symm)) (by simp[e4,u2]) (λ hn=>by
        have:=(b3 hn).2.2;obtain⟨y1,y2⟩:=append_eq_nil_iff.1 this;rw[y1] at xl;rw[y2] at ul;rw[eq_nil_of_length_eq_zero xl.symm,eq_nil_of_length_eq_zero ul.symm];rfl) λ b Pf=>by
        obtain⟨cap,cur,e1,e2,e3,e4,e5,e6,e7⟩:=b4 b Pf;have hlen:(ob.cells++news).length=(xs++us).length:=by simp[xl,ul]
        refine⟨cur,e2,e5,?_,?_⟩
        ·rw[e5,<- e6,length_append,<- q4,hb.2.2,<- Nat.add_mul];exact Nat.mul_le_mul_right _ e3
        ·rw[hlen,e7];exact a7.append _ _ _ _ x2 u1
      refine⟨v',w',B',P1 r1,PB.put hd ?_⟩;simp only[VR];refine⟨B',dN,?_⟩;split
      ·rename_i hn;obtain⟨e1,e2,_⟩:=b3 hn;exact⟨e1,trivial,e2⟩
      ·rename_i b Pf;obtain⟨cap,cur,e1,e2,e3,e4,e5,e6,e7⟩:=b4 b Pf;refine⟨cap,e1,e3,e4,?_,λ _=>?_⟩<;>rw[b1]<;>omega
     ·cases hc
    ·cases hc
   ·cases hc
  ·cases hc
 ·cases hc
end
end Go.Can
