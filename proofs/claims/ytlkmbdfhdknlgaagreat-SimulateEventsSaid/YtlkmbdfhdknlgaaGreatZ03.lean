/- The operations that turn n -/
import Derived.Test.YtlkmbdfhdknlgaaGreatZ02
namespace Go.Can
open Go.RowKit List
def pZ (w:World)(F:Nat->Prop)(σ:Nat->Option OB)(cs:List CV)(ad:Addr):Prop:=
 ∃ us:List Value,a6 w F σ cs us/\cs.all one=true/\∀ j u,us[j]? = some u->w.cell? (ad.add j)=some u
theorem pZ.drop {w:World}{F:Nat->Prop}{σ:Nat->Option OB}{cs:List CV}{ad:Addr}(k:Nat)(h:pZ w F σ cs ad):pZ w F σ (cs.drop k) (ad.add k):=by
 obtain⟨us,h1,h2,h3⟩:=h;refine⟨us.drop k,a6.drop k cs us h1,?_,λ j u hu=>?_⟩
 ·rw[all_eq_true] at h2 |-;exact λ x hx=>h2 x (mem_of_mem_drop hx)
 ·rw[getElem?_drop] at hu;rw[add_add];exact h3 _ u hu
def ib (s:St):CV->Option (List CV)
 | .cQ cs=>some cs
 | .aw o off=>(assoc s.heap o).map (·.cells.drop off)
 | _=>none
section
variable {P:Program}{C:Cx}{σ:Nat->Option OB}{s:St}{a:Act}{w:World}
theorem JN (h:aQ C σ s a w){o:Nat}{ob:Ob}{B:OB}{b:Nat}(ho:assoc s.heap o=some ob)(hB:σ o=some B)(hb:B.kf=some b) :
  pZ w (FB C σ s.heap) σ ob.cells ⟨b,0,none⟩:=by
 obtain⟨B',e1,_,_,e4,e5⟩:=h.obj o ob ho;rw[hB] at e1;cases e1;obtain⟨cur,k1,k2,k3,k4,k5,k6⟩:=e5 b hb;refine⟨_,k6,e4,λ j u hu=>?_⟩;rw[add_lit,Nat.zero_add,cell_of_row w b j cur _ _ k1];rw[getElem?_take] at hu;split at hu
 ·simpa using hu
 ·cases hu
theorem CC (h:aQ C σ s a w){c:CV}{v:Value}{cs:List CV}(hv:VR w (FB C σ s.heap) σ c v)(hm:ib s c=some cs) :
  ∃ ad,v=.pointer (some ad)/\pZ w (FB C σ s.heap) σ cs ad:=by
 unfold ib at hm;split at hm
 ·rename_i Tz;cases hm;simp only[VR,cr] at hv;obtain⟨ad,e,hm⟩:=hv;obtain⟨us,h1,_,h3⟩:=fF.cells _ _ hm;exact⟨ad,e,us,a6.cK _ _ h1,fF.PJ _ _ hm,h3⟩
 ·rename_i o off;obtain⟨ob,ho,rfl⟩:=Option.map_eq_some_iff.1 hm;simp only[VR] at hv;obtain⟨B,b,hB,hb,rfl⟩:=hv;refine⟨_,rfl,?_⟩;have:=(JN h ho hB hb).drop off;rw[add_lit,Nat.zero_add] at this;exact this
 ·cases hm
theorem yV {t:TypeId}{i:TI}(hT:cA P t i)(w:World):(isAgg t).run P w=.ok i.agg w:=by
 obtain⟨d,h1,h2⟩:=hT.Bw;simp only[isAgg,Sem.run_bind,bz h1,Result.andThen_ok];unfold TI.agg;rw[<- h2];cases d<;>rfl
def mS (i:TI)(cs:List CV):Option CV:=
 if i.agg then (if i.size<=cs.length then some (.agg (cs.take i.size)) else none) else cs.head?
theorem Dr {t:TypeId}{i:TI}(hT:cA P t i){F:Nat->Prop}{cs:List CV}{ad:Addr}{c:CV}(hm:pZ w F σ cs ad)(hc:mS i cs=some c) :
  ∃ v,(loadVar t ad).run P w=.ok v w/\VR w F σ c v:=by
 obtain⟨us,h1,h2,h3⟩:=hm;obtain⟨f,z,e1,e2,_⟩:=hT.info;unfold mS at hc;simp only[loadVar,Sem.run_bind,yV hT,Result.andThen_ok];split at hc
 ·rename_i ha;split at hc
  ·rename_i hl;cases hc;rw[ha];have hlen:=a6.length _ _ h1;have h4:(loadCells ad i.size).run P w=.ok (us.take i.size).toArray w:=by
    have:=run_loadCells_list (P:=P) w ad (us.take i.size) (λ j v hv=>by
     rw[getElem?_take] at hv;split at hv
     ·exact h3 j v hv
     ·cases hv)
    rwa [length_take,Nat.min_eq_left yA] at this
   refine⟨.agg (us.take i.size).toArray,by simp[cP e1,e2,h4],?_⟩;simp only[VR];refine⟨us.take i.size,rfl,a6.take _ _ _ h1,?_⟩;rw[all_eq_true] at h2 |-;exact λ x hx=>h2 x (mem_of_mem_take hx)
  ·cases hc
 ·rename_i ha;rw[Bool.not_eq_true] at ha;rw[ha];obtain⟨v,k1,k2⟩:=a6.get _ _ h1 0 c (by rwa [<- head?_eq_getElem?]);have:=h3 0 v k1;rw[add_zero] at this;exact⟨v,by simp[this],k2⟩
def Bh (av:List (Nat×TI))(t:TypeId)(x:CV)(i:Int):Option CV:=
 match assoc av t with
 | none=>none
 | some it=>
  match it.d with
  | .sl e=>
   match assoc av e with
   | none=>none
   | some ie=>
    match x with
    | .ax cs n=>if 0<=i/\i<n then some (.cQ (cs.drop (i.toNat*ie.size))) else none
    | .bb o off n=>if 0<=i/\i<n then some (.aw o (off+i.toNat*ie.size)) else none
    | _=>none
  | .arr n e=>
   match assoc av e with
   | none=>none
   | some ie=>
    match x with
    | .cQ cs=>if 0<=i/\i<n then some (.cQ (cs.drop (i.toNat*ie.size))) else none
    | .aw o off=>if 0<=i/\i<n then some (.aw o (off+i.toNat*ie.size)) else none
    | _=>none
  | _=>none
theorem dI {t e:TypeId}{i:TI}(hT:cA P t i)(hd:i.d=.sl e):P.underlying t=some (.slice e):=by
 obtain⟨d,h1,h2⟩:=hT.Bw;rw[hd] at h2;cases d<;>simp only[vi] at h2<;>first | cases h2 | skip
 exact h1
theorem pv {t e:TypeId}{n:Nat}{i:TI}(hT:cA P t i)(hd:i.d=.arr n e):P.underlying t=some (.array n e):=by
 obtain⟨d,h1,h2⟩:=hT.Bw;rw[hd] at h2;cases d<;>simp only[vi] at h2<;>first | cases h2 | skip
 exact h1
theorem sZ {t:TypeId}{fs:List (Nat×TypeId)}{i:TI}(hT:cA P t i)(hd:i.d=.bB fs):∃ fields,P.underlying t=some (.struct fields)/\fields.toList.map (λ f=>(f.offset,f.type))=fs:=by
 obtain⟨d,h1,h2⟩:=hT.Bw;rw[hd] at h2;cases d<;>simp only[vi] at h2<;>first | cases h2 | skip
 exact⟨_,h1,rfl⟩
theorem IU {t:TypeId}{i:TI}(hT:cA P t i)(hd:i.d=.bool):P.underlying t=some .bool:=by
 obtain⟨d,h1,h2⟩:=hT.Bw;rw[hd] at h2;cases d<;>simp only[vi] at h2<;>first | cases h2 | skip
 exact h1
theorem zL {av:List (Nat×TI)}(ht:aD P av){F:Nat->Prop}{t:TypeId}{x c:CV}{v:Value}{i:Int}{k:IntKind}(hv:VR w F σ x v)(hc:Bh av t x i=some c) :
  ∃ u,(∀ w',(Instr.indexAt t v (.int k i)).run P w'=.ok u w')/\VR w F σ c u:=by
 unfold Bh at hc;split at hc
 ·cases hc
 rename_i it Sk;have hT:=ht t it Sk;split at hc
 ·rename_i e hd;split at hc
  ·cases hc
  rename_i ie RU;obtain⟨f,z,e1,e2,_⟩:=(ht e ie RU).info;have hu:=dI hT hd;split at hc
  ·rename_i cs n;split at hc
   ·rename_i hb;cases hc;simp only[VR,cr] at hv;obtain⟨A,cap,rfl,_,_,h4⟩:=hv;rcases h4 with ⟨h4,_⟩ | ⟨ad,rfl,hm⟩
    ·omega
    ·refine⟨.pointer (some (ad.add (i.toNat*ie.size))),?_,by simp only[VR,cr];exact⟨_,rfl,fF.drop _ _ _ hm⟩⟩;intro w';simp[Instr.indexAt,asIntOf,bz hu,cP e1,e2,hb]
   ·cases hc
  ·rename_i o off n;split at hc
   ·rename_i hb;cases hc;simp only[VR] at hv;obtain⟨B,hB,hv⟩:=hv;split at hv
    ·obtain⟨rfl,_,h0⟩:=hv;omega
    ·rename_i b Sf;obtain⟨cap,rfl,_⟩:=hv;refine⟨.pointer (some ⟨b,off+i.toNat*ie.size,none⟩),?_,by simp only[VR];exact⟨B,b,hB,Sf,rfl⟩⟩;intro w';simp[Instr.indexAt,asIntOf,bz hu,cP e1,e2,hb,add_lit]
   ·cases hc
  ·cases hc
 ·rename_i n e hd;split at hc
  ·cases hc
  rename_i ie RU;obtain⟨f,z,e1,e2,_⟩:=(ht e ie RU).info;have hu:=pv hT hd;split at hc
  ·rename_i cs;split at hc
   ·rename_i hb;cases hc;simp only[VR,cr] at hv;obtain⟨ad,rfl,hm⟩:=hv;refine⟨.pointer (some (ad.add (i.toNat*ie.size))),?_,by simp only[VR,cr];exact⟨_,rfl,fF.drop _ _ _ hm⟩⟩;intro w';simp[Instr.indexAt,asIntOf,bz hu,cP e1,e2,hb,Instr.sureAddr]
   ·cases hc
  ·rename_i o off;split at hc
   ·rename_i hb;cases hc;simp only[VR] at hv;obtain⟨B,b,hB,Sf,rfl⟩:=hv;refine⟨.pointer (some ⟨b,off+i.toNat*ie.size,none⟩),?_,by simp only[VR];exact⟨B,b,hB,Sf,rfl⟩⟩;intro w';simp[Instr.indexAt,asIntOf,bz hu,cP e1,e2,hb,Instr.sureAddr,add_lit]
   ·cases hc
  ·cases hc
 ·cases hc
def nN (av:List (Nat×TI))(t:TypeId)(x:CV)(f:Nat):Option CV:=
 match assoc av t with
 | none=>none
 | some it=>
  match it.d with
  | .bB fs=>
   match fs[f]? with
   | none=>none
   | some (off,ft)=>
    match assoc av ft with
    | none=>none
    | some ie=>
     if ie.size=0 then none else
     match x with
     | .cQ cs=>some (.cQ (cs.drop off))
     | .aw o p=>some (.aw o (p+off))
     | _=>none
  | _=>none
theorem qo {av:List (Nat×TI)}(ht:aD P av){F:Nat->Prop}{t:TypeId}{x c:CV}{v:Value}{f:Nat}(hv:VR w F σ x v)(hc:nN av t x f=some c) :
  ∃ u,(∀ w',(Instr.fieldAt t v f).run P w'=.ok u w')/\VR w F σ c u:=by
 unfold nN at hc;split at hc
 ·cases hc
 rename_i it Sk;have hT:=ht t it Sk;split at hc
 ·rename_i fs hd;split at hc
  ·cases hc
  rename_i off ft hf;split at hc
  ·cases hc
  rename_i ie RU;obtain⟨g,z,e1,e2,_⟩:=(ht ft ie RU).info;obtain⟨fields,hu,Th⟩:=sZ hT hd;have hf':∃ fl:Field,fields[f]? = some fl/\fl.offset=off/\fl.type=ft:=by
   rw[<- Th,getElem?_map] at hf;obtain⟨fl,h1,h2⟩:=Option.map_eq_some_iff.1 hf;simp only[Prod.mk.injEq] at h2;exact⟨fl,by simpa using h1,h2⟩
  obtain⟨fl,WH,rfl,rfl⟩:=hf';split at hc
  ·cases hc
  rename_i hz;split at hc
  ·rename_i cs;cases hc;simp only[VR,cr] at hv;obtain⟨ad,rfl,hm⟩:=hv;refine⟨.pointer (some (ad.add fl.offset)),?_,by simp only[VR,cr];exact⟨_,rfl,fF.drop _ _ _ hm⟩⟩;intro w';simp[Instr.fieldAt,bz hu,WH,Instr.sureAddr,fieldPlace,cP e1,e2,hz]
  ·rename_i o p;cases hc;simp only[VR] at hv;obtain⟨B,b,hB,Sf,rfl⟩:=hv;refine⟨.pointer (some ⟨b,p+fl.offset,none⟩),?_,by simp only[VR];exact⟨B,b,hB,Sf,rfl⟩⟩;intro w';simp[Instr.fieldAt,bz hu,WH,Instr.sureAddr,fieldPlace,cP e1,e2,hz,add_lit]
  ·cases hc
 ·cases hc
theorem FU {t:TypeId}{i:TI}(hT:cA P t i){F:Nat->Prop}{cs:List CV}{vs:List Value}{c:CV}(h1:a6 w F σ cs vs)(h2:cs.all one=true)(off:Nat)(hc:mS i (cs.drop off)=some c) :
  ∃ v,(part t vs.toArray off).run P w=.ok v w/\VR w F σ c v:=by
 obtain⟨f,z,e1,e2,_⟩:=hT.info;have h1':=a6.drop off _ _ h1;have Vx:(cs.drop off).all one=true:=by
  rw[all_eq_true] at h2 |-;exact λ x hx=>h2 x (mem_of_mem_drop hx)
 unfold mS at hc;simp only[part,Sem.run_bind,yV hT,Result.andThen_ok];split at hc
 ·rename_i ha;split at hc
  ·rename_i hl;cases hc;rw[ha];refine⟨.agg ((vs.drop off).take i.size).toArray,?_,?_⟩
   ·simp[cP e1,e2,take_drop]
   ·simp only[VR];refine⟨_,rfl,a6.take _ _ _ h1',?_⟩;rw[all_eq_true] at Vx |-;exact λ x hx=>Vx x (mem_of_mem_take hx)
  ·cases hc
 ·rename_i ha;rw[Bool.not_eq_true] at ha;rw[ha];obtain⟨v,k1,k2⟩:=a6.get _ _ h1' 0 c (by rwa [<- head?_eq_getElem?]);rw[getElem?_drop] at k1;refine⟨v,?_,k2⟩;have:vs.toArray[off]? = some v:=by simpa using k1
  simp[this]
def Bj (av:List (Nat×TI))(t:TypeId)(x:CV)(f:Nat):Option CV:=
 match assoc av t with
 | none=>none
 | some it=>
  match it.d with
  | .bB fs=>
   match fs[f]? with
   | none=>none
   | some (off,ft)=>
    match assoc av ft with
    | none=>none
    | some ie=>
     match x with
     | .agg cs=>mS ie (cs.drop off)
     | _=>none
  | _=>none
theorem H6 {av:List (Nat×TI)}(ht:aD P av){F:Nat->Prop}{t:TypeId}{x c:CV}{v:Value}{f:Nat}(hv:VR w F σ x v)(hc:Bj av t x f=some c) :
  ∃ u,(Instr.field t v f).run P w=.ok u w/\VR w F σ c u:=by
 unfold Bj at hc;split at hc
 ·cases hc
 rename_i it Sk;have hT:=ht t it Sk;split at hc
 ·rename_i fs hd;split at hc
  ·cases hc
  rename_i off ft hf;split at hc
  ·cases hc
  rename_i ie RU;obtain⟨fields,hu,Th⟩:=sZ hT hd;have hf':∃ fl:Field,fields[f]? = some fl/\fl.offset=off/\fl.type=ft:=by
   rw[<- Th,getElem?_map] at hf;obtain⟨fl,h1,h2⟩:=Option.map_eq_some_iff.1 hf;simp only[Prod.mk.injEq] at h2;exact⟨fl,by simpa using h1,h2⟩
  obtain⟨fl,WH,rfl,rfl⟩:=hf';split at hc
  ·rename_i cs;simp only[VR] at hv;obtain⟨vs,rfl,h1,h2⟩:=hv;obtain⟨u,k1,k2⟩:=FU (P:=P) (ht _ _ RU) h1 h2 fl.offset hc;exact⟨u,by simp[Instr.field,bz hu,WH,asAgg,k1],k2⟩
  ·cases hc
 ·cases hc
def vT (av:List (Nat×TI))(t:TypeId)(x:CV)(i:Int):Option CV:=
 match x with
 | .str s=>match assoc av t with
  | some it=>match it.d with
   | .str=>if 0<=i then (s[i.toNat]?).map λ b=>.int .u8 b.toNat else none
   | _=>none
  | none=>none
 | .agg cs=>match assoc av t with
  | some it=>match it.d with
   | .arr n e=>match assoc av e with
    | some ie=>if 0<=i/\i<n then mS ie (cs.drop (i.toNat*ie.size)) else none
    | none=>none
   | _=>none
  | none=>none
 | _=>none
theorem mZ {t:TypeId}{i:TI}(hT:cA P t i)(hd:i.d=.str):P.underlying t=some .string:=by
 obtain⟨d,h1,h2⟩:=hT.Bw;rw[hd] at h2;cases d<;>simp only[vi] at h2<;>first | cases h2 | skip
 exact h1
theorem E8 {av:List (Nat×TI)}(ht:aD P av){F:Nat->Prop}{t:TypeId}{x c:CV}{v:Value}{i:Int}{k:IntKind}(hv:VR w F σ x v)(hc:vT av t x i=some c) :
  ∃ u,(Instr.index t v (.int k i)).run P w=.ok u w/\VR w F σ c u:=by
 unfold vT at hc;split at hc
 ·rename_i s';split at hc
  ·rename_i it Sk;split at hc
   ·rename_i hd;split at hc
    ·rename_i h0;obtain⟨b,hb,rfl⟩:=Option.map_eq_some_iff.1 hc;simp only[VR] at hv;subst hv;exact⟨.int .u8 b.toNat,by simp[Instr.index,asIntOf,bz (mZ (ht t it Sk) hd),h0,hb],dU _ _⟩
    ·cases hc
   ·cases hc
  ·cases hc
 ·rename_i cs;split at hc
  ·rename_i it Sk;split at hc
   ·rename_i n e hd;split at hc
    ·rename_i ie RU;split at hc
     ·rename_i hb;simp only[VR] at hv;obtain⟨vs,rfl,h1,h2⟩:=hv;obtain⟨f,z,e1,e2,_⟩:=(ht e ie RU).info;obtain⟨u,k1,k2⟩:=FU (P:=P) (ht e ie RU) h1 h2 _ hc;exact⟨u,by simp[Instr.index,asIntOf,bz (pv (ht t it Sk) hd),hb,cP e1,e2,k1],k2⟩
     ·cases hc
    ·cases hc
   ·cases hc
  ·cases hc
 ·cases hc
end
end Go.Can
/- Cuts, lengths, least and greatest, composites: what each yields, and that the model yields the same. No function of the program is mentioned here. -/
namespace Go.Can
open Go.RowKit List
section
variable {P:Program}{C:Cx}{σ:Nat->Option OB}{s:St}{a:Act}{w:World}
theorem Lz {F:Nat->Prop}{A:Option Addr}{cap:Nat}(h:cap<=maxLen):VR w F σ (.ax [] 0) (.slice A 0 cap):=by simp[VR,cr];exact⟨A,cap,⟨rfl,rfl⟩,h⟩
def Nz (av:List (Nat×TI))(t:TypeId)(x:CV):Option CV:=
 match assoc av t with
 | none=>none
 | some it=>match it.d,x with
  | .str,.str s=>some (.int .i64 s.size)
  | .sl _,.ax _ n=>some (.int .i64 n)
  | .sl _,.bb _ _ n=>some (.int .i64 n)
  | .sl _,.aj=>some (.int .i64 0)
  | .arr n _,_=>some (.int .i64 n)
  | _,_=>none
theorem Ny {av:List (Nat×TI)}(ht:aD P av){F:Nat->Prop}{t ty:TypeId}{x c:CV}{v:Value}(hv:VR w F σ x v)(hc:Nz av t x=some c) :
  ∃ u,(Builtin.len_ #[t] ty #[v]).run P w=.ok u w/\VR w F σ c u:=by
 unfold Nz at hc;split at hc
 ·cases hc
 rename_i it Sk;have hT:=ht t it Sk;split at hc
 ·rename_i hd;cases hc;simp only[VR] at hv;subst hv;exact⟨_,by simp[Builtin.len_,bz (mZ hT hd),goInt],dU _ _⟩
 ·rename_i e cs n hd;cases hc;simp only[VR,cr] at hv;obtain⟨A,cap,rfl,_⟩:=hv;exact⟨_,by simp[Builtin.len_,bz (dI hT hd),goInt],dU _ _⟩
 ·rename_i e o off n hd;cases hc;simp only[VR] at hv;obtain⟨B,_,hv⟩:=hv;split at hv
  ·obtain⟨rfl,_,rfl⟩:=hv;exact⟨_,by simp[Builtin.len_,bz (dI hT hd),goInt],dU _ _⟩
  ·obtain⟨cap,rfl,_⟩:=hv;exact⟨_,by simp[Builtin.len_,bz (dI hT hd),goInt],dU _ _⟩
 ·rename_i e hd;cases hc;simp only[VR] at hv;subst hv;exact⟨_,by simp[Builtin.len_,bz (dI hT hd),goInt],dU _ _⟩
 ·rename_i n e hd;cases hc;exact⟨_,by simp[Builtin.len_,bz (pv hT hd),goInt],dU _ _⟩
 ·cases hc
def mb (f:Int->Int->Int)(k:IntKind):Int->List CV->Option CV
 | x,[]=>some (.int k x)
 | x,.int _ y::r=>mb f k (f x y) r
 | _,_=>none
def P6 (x y:Int):Int:=if y<x then y else x
def imax (x y:Int):Int:=if y > x then y else x
theorem GC {F:Nat->Prop}{k:IntKind}:∀ (cs:List CV) (x:Int) (vs:List Value) (c:CV),a6 w F σ cs vs->mb P6 k x cs=some c ->
  ∃ u,(vs.foldlM Builtin.min2 (.int k x)).run P w=.ok u w/\VR w F σ c u
 | [],x,vs,c,hv,hc=>by
  simp only[a6,mb] at hv hc;subst hv;cases hc;exact⟨_,by simp,dU _ _⟩
 | d::cs,x,vs,c,hv,hc=>by
  unfold mb at hc;split at hc
  ·rename_i e;cases e
  ·rename_i e;cases e;simp only[a6] at hv;obtain⟨v,r,rfl,h1,h2⟩:=hv;simp only[VR] at h1;subst h1;obtain⟨u,k1,k2⟩:=GC cs _ r c h2 hc;exact⟨u,by simp only[foldlM_cons,Builtin.min2,Sem.run_bind,Sem.run_pure,Result.andThen_ok];exact k1,k2⟩
  ·cases hc
theorem GD {F:Nat->Prop}{k:IntKind}:∀ (cs:List CV) (x:Int) (vs:List Value) (c:CV),a6 w F σ cs vs->mb imax k x cs=some c ->
  ∃ u,(vs.foldlM Builtin.max2 (.int k x)).run P w=.ok u w/\VR w F σ c u
 | [],x,vs,c,hv,hc=>by
  simp only[a6,mb] at hv hc;subst hv;cases hc;exact⟨_,by simp,dU _ _⟩
 | d::cs,x,vs,c,hv,hc=>by
  unfold mb at hc;split at hc
  ·rename_i e;cases e
  ·rename_i e;cases e;simp only[a6] at hv;obtain⟨v,r,rfl,h1,h2⟩:=hv;simp only[VR] at h1;subst h1;obtain⟨u,k1,k2⟩:=GD cs _ r c h2 hc;exact⟨u,by simp only[foldlM_cons,Builtin.max2,Sem.run_bind,Sem.run_pure,Result.andThen_ok];exact k1,k2⟩
  ·cases hc
def dM (av:List (Nat×TI))(t:TypeId):Option TD:=(assoc av t).map (·.d)
def dK (s:St)(x:Option Operand)(d:Nat):Option Nat:=
 match x with
 | none=>some d
 | some o=>match ev s o with
  | some (.int _ i)=>if 0<=i then some i.toNat else none
  | _=>none
def ma (av:List (Nat×TI))(s:St)(t:TypeId)(x:CV)(lo hi:Option Operand):Option CV:=
 match x with
 | .str b=>match dM av t with
  | some .str=>match dK s hi b.size,dK s lo 0 with
   | some h,some l=>if l<=h/\h<=b.size then some (.str (b.extract l h)) else none
   | _,_=>none
  | _=>none
 | .ax cs n=>match dM av t with
  | some (.sl e)=>match assoc av e with
   | some ie=>match dK s hi n,dK s lo 0 with
    | some h,some l=>if l<=h/\h<=n then some (.ax ((cs.drop (l*ie.size)).take ((h-l)*ie.size)) (h-l)) else none
    | _,_=>none
   | none=>none
  | _=>none
 | .aj=>match dM av t with
  | some (.sl e)=>match assoc av e with
   | some _=>match dK s hi 0,dK s lo 0 with
    | some h,some l=>if l=0/\h=0 then some .aj else none
    | _,_=>none
   | none=>none
  | _=>none
 | .bb o off n=>match dM av t with
  | some (.sl e)=>match assoc av e,assoc s.heap o with
   | some ie,some ob=>match dK s hi n,dK s lo 0 with
    | some h,some l=>if l<=h/\h<=n/\ie.size=ob.sz then (if l=0 then some (.bb o off h) else if h=l then some (.ax [] 0) else some (.bb o (off+l*ie.size) (h-l))) else none
    | _,_=>none
   | _,_=>none
  | _=>none
 | .aw o f=>match dM av t with
  | some (.arr n e)=>match assoc av e,assoc s.heap o with
   | some _,some ob=>match lo,hi with
    | none,none=>if 0<f/\0<n/\n<=1000000/\ob.sz=0/\f<=ob.cells.length then some (.bb o f n) else none
    | _,_=>none
   | _,_=>none
  | _=>none
 | _=>none
theorem mT (h:aQ C σ s a w){x:Option Operand}{d n:Nat}(hb:dK s x d=some n) :
  (x=none/\n=d)\/∃ o k i,x=some o/\a.eval o=.int k i/\0<=i/\n=i.toNat:=by
 unfold dK at hb;split at hb
 ·cases hb;exact .inl ⟨rfl,rfl⟩
 ·rename_i o;split at hb
  ·rename_i k i he;split at hb
   ·rename_i h0;cases hb;have:=bF h he;simp only[VR] at this;exact .inr ⟨o,k,i,rfl,this,h0,rfl⟩
   ·cases hb
  ·cases hb
theorem fG (h:aQ C σ s a w){lo hi:Option Operand}{len cap l n:Nat}{isSlice:Bool}(hh:dK s hi len=some n)(hl:dK s lo 0=some l)(h1:l<=n)(h2:n<=cap) :
  (Instr.sliceBounds isSlice len cap (lo.map a.eval) (hi.map a.eval) none).run P w=.ok (l,n,cap) w:=by
 have e1:∀ (k:IntKind) (i:Int) (y:Nat) (code:BoundsCode),0<=i->i.toNat<=y->(Instr.sliceBound (.int k i) y code).run P w=.ok i.toNat w:=λ k i y code h0 h1=>by
  simp only[Instr.sliceBound,asIntOf,pure_bind];rw[if_pos ⟨h0,by omega⟩];rfl
 rcases mT h hh with ⟨rfl,rfl⟩ | ⟨oh,kh,ih,rfl,eh,h0,rfl⟩<;>rcases mT h hl with ⟨rfl,rfl⟩ | ⟨ol,kl,il,rfl,el,h0',rfl⟩
 ·simp[Instr.sliceBounds]
 ·simp[Instr.sliceBounds,el,e1 _ _ _ _ h0' h1]
 ·simp[Instr.sliceBounds,eh,e1 _ _ _ _ h0 h2]
 ·simp[Instr.sliceBounds,eh,el,e1 _ _ _ _ h0 h2,e1 _ _ _ _ h0' h1]
theorem HZ {av:List (Nat×TI)}(ht:aD P av)(h:aQ C σ s a w){t:TypeId}{x c:CV}{v:Value}{lo hi:Option Operand}(hv:VR w (FB C σ s.heap) σ x v)(hc:ma av s t x lo hi=some c) :
  ∃ u,(Instr.sliceAt t v (lo.map a.eval) (hi.map a.eval) none).run P w=.ok u w/\VR w (FB C σ s.heap) σ c u:=by
 unfold ma at hc;split at hc
 ·rename_i b;split at hc
  ·rename_i hd;obtain⟨it,Sk,hd⟩:=Option.map_eq_some_iff.1 hd;split at hc
   ·rename_i hh l Zq Ts;split at hc
    ·rename_i hb;cases hc;simp only[VR] at hv;subst hv;exact⟨_,by simp[Instr.sliceAt,Instr.slice,bz (mZ (ht t it Sk) hd),fG h Zq Ts hb.1 hb.2],Br _⟩
    ·cases hc
   ·cases hc
  ·cases hc
 ·rename_i cs n;split at hc
  ·rename_i e hd;obtain⟨it,Sk,hd⟩:=Option.map_eq_some_iff.1 hd;split at hc
   ·rename_i ie RU;split at hc
    ·rename_i hh l Zq Ts;split at hc
     ·rename_i hb;cases hc;obtain⟨f,z,e1,e2,_⟩:=(ht e ie RU).info;simp only[VR,cr] at hv;obtain⟨A,cap,rfl,h1,h2,h3⟩:=hv;refine⟨.slice (if cap=l then A else A.map (·.add (l*ie.size))) (hh-l) (cap-l),?_,?_⟩
      ·simp[Instr.sliceAt,Instr.slice,bz (dI (ht t it Sk) hd),fG h Zq Ts hb.1 (Nat.le_trans hb.2 h1),cP e1,e2]
      ·simp only[VR,cr];refine⟨_,_,rfl,by omega,by omega,?_⟩;rcases h3 with ⟨h3,rfl⟩ | ⟨ad,rfl,hm⟩
       ·exact .inl ⟨by omega,by simp⟩
       ·by_cases UY:hh=l
        ·exact .inl ⟨by omega,by simp[UY]⟩
        ·refine .inr ⟨ad.add (l*ie.size),?_,fF.take _ _ _ (fF.drop _ _ _ hm)⟩;rw[if_neg yA];rfl
     ·cases hc
    ·cases hc
   ·cases hc
  ·cases hc
 ·split at hc
  ·rename_i e hd;obtain⟨it,Sk,hd⟩:=Option.map_eq_some_iff.1 hd;split at hc
   ·rename_i ie RU;split at hc
    ·rename_i hh l Zq Ts;split at hc
     ·rename_i hb;obtain⟨rfl,rfl⟩:=hb;cases hc;obtain⟨f,z,e1,e2,_⟩:=(ht e ie RU).info;simp only[VR] at hv;subst hv;refine⟨.slice none 0 0,?_,by simp[VR]⟩;simp[Instr.sliceAt,Instr.slice,bz (dI (ht t it Sk) hd),fG h Zq Ts (Nat.le_refl _) (Nat.le_refl _),cP e1]
     ·cases hc
    ·cases hc
   ·cases hc
  ·cases hc
 ·rename_i o off n;split at hc
  ·rename_i e hd;obtain⟨it,Sk,hd⟩:=Option.map_eq_some_iff.1 hd;split at hc
   ·rename_i ie ob RU TU;split at hc
    ·rename_i hh l Zq Ts;split at hc
     ·rename_i hb;obtain⟨f,z,e1,e2,_⟩:=(ht e ie RU).info;obtain⟨B,hB,R0,_⟩:=h.obj o ob TU;simp only[VR] at hv;obtain⟨B',Uf,hv⟩:=hv;rw[hB] at Uf;cases Uf;split at hv
      ·obtain⟨rfl,rfl,rfl⟩:=hv;have:hh=0/\l=0:=by omega
       obtain⟨rfl,rfl⟩:=this;cases hc;rename_i TO;refine⟨.slice none 0 0,?_,by simp only[VR];exact⟨B,hB,by rw[TO];simp⟩⟩;simp[Instr.sliceAt,Instr.slice,bz (dI (ht t it Sk) hd),fG h Zq Ts (Nat.le_refl _) (Nat.le_refl _),cP e1]
      ·rename_i b TO;obtain⟨cap,rfl,h1,h2,h3,h4⟩:=hv;refine⟨.slice (if cap=l then some ⟨b,off,none⟩ else some ((⟨b,off,none⟩:Addr).add (l*ie.size))) (hh-l) (cap-l),?_,?_⟩
       ·simp[Instr.sliceAt,Instr.slice,bz (dI (ht t it Sk) hd),fG h Zq Ts hb.1 (Nat.le_trans hb.2.1 h1),cP e1,e2]
       ·split at hc
        ·rename_i UY;subst UY;cases hc;simp only[VR];refine⟨B,hB,?_⟩;rw[TO];exact⟨cap,by simp[add_zero],by omega,h2,h3,h4⟩
        ·split at hc
         ·rename_i hl;cases hc;rw[hl,Nat.sub_self];exact Lz yA
         ·rename_i UY hl;cases hc;simp only[VR];refine⟨B,hB,?_⟩;rw[TO];have hm:(cap-l)*B.sz+l*B.sz=cap*B.sz:=by rw[<- Nat.add_mul];congr 1;omega
          rw[if_neg yA,add_lit];have hs:ie.size=B.sz:=by omega
          refine⟨cap-l,rfl,by omega,by omega,by rw[hs];omega,λ h0=>?_⟩;have hz:l*B.sz=0:=by rw[hs] at h0;omega
          have ho:off=0:=by omega
          have:=h4 ho;omega
     ·cases hc
    ·cases hc
   ·cases hc
  ·cases hc
 ·rename_i o f;split at hc
  ·rename_i n e hd;obtain⟨it,Sk,hd⟩:=Option.map_eq_some_iff.1 hd;split at hc
   ·rename_i ie ob RU TU;split at hc
    ·split at hc
     ·rename_i hb;cases hc;have g2:=pv (ht t it Sk) hd;obtain⟨fi,z,g3,_⟩:=(ht e ie RU).info;obtain⟨B,hB,R0,_,_,h5⟩:=h.obj o ob TU;simp only[VR] at hv;obtain⟨B',b,Uf,V9,rfl⟩:=hv;rw[hB] at Uf;cases Uf;obtain⟨cur,n1,n2,_,_,n5,_⟩:=h5 b V9;refine⟨.slice (some ⟨b,f,none⟩) n n,?_,?_⟩
      ·have WX:(Instr.sliceBounds false n n none none none).run P w=.ok (0,n,n) w:=by simp[Instr.sliceBounds]
       have Sb:¬ n=0:=by omega
       simp[Instr.sliceAt,bz g2,Instr.sureAddr,WX,cP g3,Sb,add_zero]
      ·simp only[VR];refine⟨B,hB,?_⟩;rw[V9];exact⟨n,rfl,Nat.le_refl _,by simp only[maxLen];omega,by rw[R0,hb.2.2.2.1];omega,λ h0=>by omega⟩
     ·cases hc
    ·cases hc
   ·cases hc
  ·cases hc
 ·cases hc
def gP (cells:List CV)(off:Nat)(cs:List CV):List CV:=cells.take off++cs++cells.drop (off+cs.length)
def n8 (place:Nat->Option (Nat×Nat))(cells:List CV):List (Nat×CV)->Option (List CV)
 | []=>some cells
 | (i,c)::rest=>
  match place i with
  | none=>none
  | some (off,size)=>if c.cells.length≠size || off+c.cells.length > cells.length then none else n8 place (gP cells off c.cells) rest
theorem zx {α:Type}:∀ (xs:List α) (j off:Nat) (arr:Array α),(xs.zipIdx j).foldl (λ cs (c,k)=>cs.setIfInBounds (off+k) c) arr =
  (if off+j+xs.length<=arr.size then (arr.toList.take (off+j)++xs++arr.toList.drop (off+j+xs.length)).toArray else (xs.zipIdx j).foldl (λ cs (c,k)=>cs.setIfInBounds (off+k) c) arr)
 | [],j,off,arr=>by simp
 | x::xs,j,off,arr=>by
  split
  ·rename_i hl;simp only[zipIdx_cons,foldl_cons];rw[zx xs (j+1) off];have hs:off+(j+1)+xs.length<=(arr.setIfInBounds (off+j) x).size:=by simp at hl |-;omega
   rw[if_pos hs];have RS:off+j<arr.toList.length:=by simp at hl |-;omega
   congr 1;apply ext_getElem?;intro n;simp only[Array.toList_setIfInBounds,append_assoc];simp only[getElem?_append,getElem?_take,getElem?_drop,getElem?_set,length_take,length_set,length_cons,cons_append,getElem?_cons];have Wk:off+j+(xs.length+1)<=arr.toList.length:=by simpa using hl
   simp only[Nat.min_eq_left (show off+(j+1)<=arr.toList.length by omega),Nat.min_eq_left (show off+j<=arr.toList.length by omega)];by_cases h1:n<off+j
   ·simp[show n<off+(j+1) by omega,h1,show off+j≠n by omega]
   ·by_cases h2:n=off+j
    ·subst h2;have hlt':off+j<arr.size:=by simpa using RS
     simp[show off+j<off+(j+1) by omega,hlt']
    ·have h3:¬ n<off+(j+1):=by omega
     simp only[h1,h3,if_false,show n-(off+j)≠0 by omega];have e1:n-(off+j)-1=n-(off+(j+1)):=by omega
     rw[e1];split
     ·rfl
     ·have e2:off+(j+1)+xs.length+(n-(off+(j+1))-xs.length)=off+j+(xs.length+1)+(n-(off+(j+1))-xs.length):=by omega
      rw[e2,if_neg yA]
  ·rfl
theorem vS {F:Nat->Prop}{cells:List CV}{vs:List Value}(h:a6 w F σ cells vs)(off:Nat){cs:List CV}{us:List Value}(hc:a6 w F σ cs us) :
  a6 w F σ (gP cells off cs) (vs.take off++us++vs.drop (off+us.length)):=by
 unfold gP;rw[<- a6.length _ _ hc];exact a6.append _ _ _ _ (a6.append _ _ _ _ (a6.take _ _ _ h) hc) (a6.drop _ _ _ h)
theorem sB {cells cs:List CV}(off:Nat)(h1:cells.all one=true)(h2:cs.all one=true):(gP cells off cs).all one=true:=by
 unfold gP;rw[all_eq_true] at h1 h2 |-;intro x hx;rcases mem_append.1 hx with hx | hx
 ·rcases mem_append.1 hx with hx | hx
  ·exact h1 x (mem_of_mem_take hx)
  ·exact h2 x hx
 ·exact h1 x (mem_of_mem_drop hx)
def eF:CV->Bool
 | .cB _=>true
 | .iter _ _ _=>true
 | _=>false
def iJ (s:St):List (Nat×Operand)->Option (List (Nat×CV))
 | []=>some []
 | (i,x)::r=>match ev s x,iJ s r with
  | some c,some cs=>if eF c then none else some ((i,c)::cs)
  | _,_=>none
theorem pd {F:Nat->Prop}(place:Nat->Option (Nat×Nat)):∀ (ps:List (Nat×CV)) (qs:List (Nat×Value)) (cells out:List CV) (vs:Array Value),ps.length=qs.length ->
  (∀ (j:Nat) i c,ps[j]? = some (i,c)->eF c=false/\∃ v,qs[j]? = some (i,v)/\VR w F σ c v)->a6 w F σ cells vs.toList->cells.all one=true->n8 place cells ps=some out ->
  ∃ us,Instr.fill place vs qs=some us/\a6 w F σ out us.toList/\out.all one=true
 | [],[],cells,out,vs,_,_,h1,h2,hc=>by simp only[n8] at hc;cases hc;exact⟨vs,rfl,h1,h2⟩
 | [],_::_,_,_,_,hl,_,_,_,_=>by simp at hl
 | _::_,[],_,_,_,hl,_,_,_,_=>by simp at hl
 | (i,c)::ps,(i',v)::qs,cells,out,vs,hl,hq,h1,h2,hc=>by
  obtain⟨hn,v',UH,hr⟩:=hq 0 i c rfl;simp at UH;obtain⟨rfl,rfl⟩:=UH;simp only[n8] at hc;split at hc
  ·cases hc
  rename_i off size hp;split at hc
  ·cases hc
  rename_i R0;simp only[ne_eq,gt_iff_lt,Bool.or_eq_true,decide_eq_true_eq,not_or,Decidable.not_not,Nat.not_lt] at R0;have hf:=VR.flat c v (λ cs e=>by subst e;simp[eF] at hn) (λ k s p e=>by subst e;simp[eF] at hn) hr;have hlen:v.cells.size=c.cells.length:=by simpa using a6.length _ _ hf.1
  have hlc:vs.size=cells.length:=by simpa using a6.length _ _ h1
  obtain⟨us,k1,k2⟩:=pd place ps qs (gP cells off c.cells) out (vs.toList.take off++v.cells.toList++vs.toList.drop (off+v.cells.toList.length)).toArray ZC
   (λ j i c hj=>by simpa using hq (j+1) i c (by simpa using hj)) (by simpa using vS h1 off hf.1) (sB off h2 hf.2) hc
  refine⟨us,?_,k2⟩;simp only[Instr.fill,hp];rw[if_neg SO];have:=zx v.cells.toList 0 off vs;rw[if_pos SO] at this;have e:v.cells.zipIdx.foldl (λ cs (x:Value×Nat)=>cs.setIfInBounds (off+x.2) x.1) vs=(v.cells.toList.zipIdx 0).foldl (λ cs (x:Value×Nat)=>cs.setIfInBounds (off+x.2) x.1) vs:=by
   rw[<- Array.foldl_toList,Array.toList_zipIdx]
  rw[e,this]
  simpa using k1
theorem mO (h:aQ C σ s a w):∀ (xs:List (Nat×Operand)) (ps:List (Nat×CV)),iJ s xs=some ps->ps.length=xs.length/\
  ∀ (j:Nat) i c,ps[j]? = some (i,c)->eF c=false/\∃ v,(xs.map λ (p:Nat×Operand)=>(p.1,a.eval p.2))[j]? = some (i,v)/\VR w (FB C σ s.heap) σ c v
 | [],ps,hp=>by simp only[iJ] at hp;cases hp;exact⟨rfl,by simp⟩
 | (i,x)::r,ps,hp=>by
  simp only[iJ] at hp;split at hp
  ·rename_i c cs h1 h2;split at hp
   ·cases hp
   ·rename_i hn;cases hp;obtain⟨k1,k2⟩:=mO h r cs h2;refine⟨by simp[k1],λ j i' c' hj=>?_⟩
    cases j with
    | zero=>simp at hj;obtain⟨rfl,rfl⟩:=hj;exact⟨by simpa using hn,a.eval x,rfl,bF h h1⟩
    | succ j=>simpa using k2 j i' c' (by simpa using hj)
  ·cases hp
def pS (av:List (Nat×TI)):List (Nat×TypeId)->Option (List (Nat×Nat))
 | []=>some []
 | (off,t)::r=>match assoc av t,pS av r with
  | some i,some ps=>some ((off,i.size)::ps)
  | _,_=>none
def uE (av:List (Nat×TI))(s:St)(t:TypeId)(parts:List (Nat×Operand)):Option CV:=
 match assoc av t with
 | none=>none
 | some it=>match it.d with
  | .bB fs=>match pS av fs,iJ s parts with
   | some ps,some cs=>(n8 (ps[·]?) it.zero cs).map CV.agg
   | _,_=>none
  | .arr _ e=>match assoc av e,iJ s parts with
   | some ie,some cs=>(n8 (λ i=>some (i*ie.size,ie.size)) it.zero cs).map CV.agg
   | _,_=>none
  | _=>none
theorem iA {t:TypeId}{f:TypeInfo}{z:Value}(h:P.info? t=some f)(hz:f.zero=some z)(w:World):(zeroValue t).run P w=.ok z w:=by
 simp[zeroValue,wE h,hz]
theorem oH {av:List (Nat×TI)}(ht:aD P av):∀ (fs:List Field) (ps:List (Nat×Nat)),pS av (fs.map λ f=>(f.offset,f.type))=some ps ->
  (fs.mapM λ f=>do pure (f.offset,<- sizeOf f.type):Sem (List (Nat×Nat))).run P w=.ok ps w
 | [],ps,h=>by simp only[map_nil,pS] at h;cases h;simp
 | f::fs,ps,h=>by
  simp only[map_cons,pS] at h;split at h
  ·rename_i i TA h1 h2;cases h;obtain⟨g,z,e1,e2,_⟩:=(ht _ i h1).info;have:=oH ht fs TA h2;simp only[mapM_cons,Sem.run_bind,cP e1,e2,this,Result.andThen_ok,Sem.run_pure]
  ·cases h
theorem H9 {av:List (Nat×TI)}(ht:aD P av)(h:aQ C σ s a w){t:TypeId}{parts:List (Nat×Operand)}{c:CV}(hc:uE av s t parts=some c) :
  ∃ u,(Instr.build t (parts.map λ (p:Nat×Operand)=>(p.1,a.eval p.2)).toArray).run P w=.ok u w/\VR w (FB C σ s.heap) σ c u:=by
 unfold uE at hc;split at hc
 ·cases hc
 rename_i it Sk;have hT:=ht t it Sk;obtain⟨f,z,e1,_,_,e4,e5⟩:=hT.info;obtain⟨k1,k2⟩:=dk (w:=w) (F:=FB C σ s.heap) _ _ e5;split at hc
 ·rename_i fs hd;obtain⟨fields,hu,rfl⟩:=sZ hT hd;split at hc
  ·rename_i ps cs TC Sw;obtain⟨out,hf,rfl⟩:=Option.map_eq_some_iff.1 hc;obtain⟨l1,l2⟩:=mO h _ _ Sw;obtain⟨us,m1,m2,m3⟩:=pd (ps[·]?) cs (parts.map λ p=>(p.1,a.eval p.2)) it.zero out z.cells (by simpa using l1) l2 (a6.cK _ _ k1) k2 hf;refine⟨.agg us,?_,by simp only[VR];exact⟨us.toList,by simp,m2,m3⟩⟩;have hm:=oH (w:=w) ht fields.toList ps TC;have Z9:(fields.mapM λ f=>do pure (f.offset,<- sizeOf f.type):Sem (Array (Nat×Nat))).run P w=.ok ps.toArray w:=by
    rw[Array.mapM_eq_mapM_toList];simp only[Sem.run_map,hm,Result.andThen_ok]
   simp only[Instr.build,Sem.run_bind,iA e1 e4,bz hu,Result.andThen_ok,Z9,getElem?_toArray,m1];rfl
  ·cases hc
 ·rename_i n e hd;split at hc
  ·rename_i ie cs RU Sw;obtain⟨out,hf,rfl⟩:=Option.map_eq_some_iff.1 hc;obtain⟨l1,l2⟩:=mO h _ _ Sw;obtain⟨g,zz,g1,g2,_⟩:=(ht e ie RU).info;obtain⟨us,m1,m2,m3⟩:=pd _ cs (parts.map λ p=>(p.1,a.eval p.2)) it.zero out z.cells (by simpa using l1) l2 (a6.cK _ _ k1) k2 hf;refine⟨.agg us,?_,by simp only[VR];exact⟨us.toList,by simp,m2,m3⟩⟩;simp only[Instr.build,Sem.run_bind,iA e1 e4,bz (pv hT hd),Result.andThen_ok,cP g1,g2,m1];rfl
  ·cases hc
 ·cases hc
end
end Go.Can
