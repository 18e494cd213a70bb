/- The operations that turn n -/
import Derived.Test.YtlkmbdfhdknlgaaGreatV02
namespace Go.Can
open Go.RowKit List
def pd (w:World)(F:Nat->Prop)(σ:Nat->Option OB)(cs:List CV)(ad:Addr):Prop:=
 ∃ us:List Value,a7 w F σ cs us/\cs.all one=true/\∀ j u,us[j]? = some u->w.cell? (ad.add j)=some u
theorem pd.drop {w:World}{F:Nat->Prop}{σ:Nat->Option OB}{cs:List CV}{ad:Addr}(k:Nat)(h:pd w F σ cs ad):pd w F σ (cs.drop k) (ad.add k):=by
 obtain⟨us,h1,h2,h3⟩:=h;refine⟨us.drop k,a7.drop k cs us h1,?_,λ j u hu=>?_⟩
 ·rw[all_eq_true] at h2 |-;exact λ x hx=>h2 x (mem_of_mem_drop hx)
 ·rw[getElem?_drop] at hu;rw[add_add];exact h3 _ u hu
def gS (s:St):CV->Option (List CV)
 | .de cs=>some cs
 | .ax o off=>(assoc s.heap o).map (·.cells.drop off)
 | _=>none
section
variable {P:Program}{C:Cx}{σ:Nat->Option OB}{s:St}{a:Act}{w:World}
theorem Hi (h:aO C σ s a w){o:Nat}{ob:Ob}{B:OB}{b:Nat}(ho:assoc s.heap o=some ob)(hB:σ o=some B)(hb:B.j7=some b) :
  pd w (FB C σ s.heap) σ ob.cells ⟨b,0,none⟩:=by
 obtain⟨B',e1,_,_,e4,e5⟩:=h.obj o ob ho;rw[hB] at e1;cases e1;obtain⟨cur,k1,k2,k3,k4,k5,k6⟩:=e5 b hb;refine⟨_,k6,e4,λ j u hu=>?_⟩;rw[add_lit,Nat.zero_add,cell_of_row w b j cur _ _ k1];rw[getElem?_take] at hu;split at hu
 ·simpa using hu
 ·cases hu
theorem AL (h:aO C σ s a w){c:CV}{v:Value}{cs:List CV}(hv:VR w (FB C σ s.heap) σ c v)(hm:gS s c=some cs) :
  ∃ ad,v=.pointer (some ad)/\pd w (FB C σ s.heap) σ cs ad:=by
 unfold gS at hm;split at hm
 ·rename_i QH;cases hm;simp only[VR,cr] at hv;obtain⟨ad,e,hm⟩:=hv;obtain⟨us,h1,_,h3⟩:=fx.cells _ _ hm;exact⟨ad,e,us,a7.cS _ _ h1,fx.MA _ _ hm,h3⟩
 ·rename_i o off;obtain⟨ob,ho,rfl⟩:=Option.map_eq_some_iff.1 hm;simp only[VR] at hv;obtain⟨B,b,hB,hb,rfl⟩:=hv;refine⟨_,rfl,?_⟩;have:=(Hi h ho hB hb).drop off;rw[add_lit,Nat.zero_add] at this;exact this
 ·cases hm
theorem xp {t:TypeId}{i:TI}(hT:cE P t i)(w:World):(isAgg t).run P w=.ok i.agg w:=by
 obtain⟨d,h1,h2⟩:=hT.zJ;simp only[isAgg,Sem.run_bind,bH h1,Result.andThen_ok];unfold TI.agg;rw[<- h2];cases d<;>rfl
def mf (i:TI)(cs:List CV):Option CV:=
 if i.agg then (if i.size<=cs.length then some (.agg (cs.take i.size)) else none) else cs.head?
theorem BF {t:TypeId}{i:TI}(hT:cE P t i){F:Nat->Prop}{cs:List CV}{ad:Addr}{c:CV}(hm:pd w F σ cs ad)(hc:mf i cs=some c) :
  ∃ v,(loadVar t ad).run P w=.ok v w/\VR w F σ c v:=by
 obtain⟨us,h1,h2,h3⟩:=hm;obtain⟨f,z,e1,e2,_⟩:=hT.info;unfold mf at hc;simp only[loadVar,Sem.run_bind,xp hT,Result.andThen_ok];split at hc
 ·rename_i ha;split at hc
  ·rename_i hl;cases hc;rw[ha];have hlen:=a7.length _ _ h1;have h4:(loadCells ad i.size).run P w=.ok (us.take i.size).toArray w:=by
    have:=run_loadCells_list (P:=P) w ad (us.take i.size) (λ j v hv=>by
     rw[getElem?_take] at hv;split at hv
     ·exact h3 j v hv
     ·cases hv)
    rwa [length_take,Nat.min_eq_left yA] at this
   refine⟨.agg (us.take i.size).toArray,by simp[db e1,e2,h4],?_⟩;simp only[VR];refine⟨us.take i.size,rfl,a7.take _ _ _ h1,?_⟩;rw[all_eq_true] at h2 |-;exact λ x hx=>h2 x (mem_of_mem_take hx)
  ·cases hc
 ·rename_i ha;rw[Bool.not_eq_true] at ha;rw[ha];obtain⟨v,k1,k2⟩:=a7.get _ _ h1 0 c (by rwa [<- head?_eq_getElem?]);have:=h3 0 v k1;rw[add_zero] at this;exact⟨v,by simp[this],k2⟩
def zx (av:List (Nat×TI))(t:TypeId)(x:CV)(i:Int):Option CV:=
 match assoc av t with
 | none=>none
 | some it=>
  match it.d with
  | .sl e=>
   match assoc av e with
   | none=>none
   | some ie=>
    match x with
    | .au cs n=>if 0<=i/\i<n then some (.de (cs.drop (i.toNat*ie.size))) else none
    | .bg o off n=>if 0<=i/\i<n then some (.ax o (off+i.toNat*ie.size)) else none
    | _=>none
  | .arr n e=>
   match assoc av e with
   | none=>none
   | some ie=>
    match x with
    | .de cs=>if 0<=i/\i<n then some (.de (cs.drop (i.toNat*ie.size))) else none
    | .ax o off=>if 0<=i/\i<n then some (.ax o (off+i.toNat*ie.size)) else none
    | _=>none
  | _=>none
theorem dI {t e:TypeId}{i:TI}(hT:cE P t i)(hd:i.d=.sl e):P.underlying t=some (.slice e):=by
 obtain⟨d,h1,h2⟩:=hT.zJ;rw[hd] at h2;cases d<;>simp only[ue] at h2<;>first | cases h2 | skip
 exact h1
theorem oH {t e:TypeId}{n:Nat}{i:TI}(hT:cE P t i)(hd:i.d=.arr n e):P.underlying t=some (.array n e):=by
 obtain⟨d,h1,h2⟩:=hT.zJ;rw[hd] at h2;cases d<;>simp only[ue] at h2<;>first | cases h2 | skip
 exact h1
theorem rK {t:TypeId}{fs:List (Nat×TypeId)}{i:TI}(hT:cE P t i)(hd:i.d=.bI fs):∃ fields,P.underlying t=some (.struct fields)/\fields.toList.map (λ f=>(f.offset,f.type))=fs:=by
 obtain⟨d,h1,h2⟩:=hT.zJ;rw[hd] at h2;cases d<;>simp only[ue] at h2<;>first | cases h2 | skip
 exact⟨_,h1,rfl⟩
theorem Gu {t:TypeId}{i:TI}(hT:cE P t i)(hd:i.d=.bool):P.underlying t=some .bool:=by
 obtain⟨d,h1,h2⟩:=hT.zJ;rw[hd] at h2;cases d<;>simp only[ue] at h2<;>first | cases h2 | skip
 exact h1
theorem yg {av:List (Nat×TI)}(ht:aD P av){F:Nat->Prop}{t:TypeId}{x c:CV}{v:Value}{i:Int}{k:IntKind}(hv:VR w F σ x v)(hc:zx av t x i=some c) :
  ∃ u,(∀ w',(Instr.indexAt t v (.int k i)).run P w'=.ok u w')/\VR w F σ c u:=by
 unfold zx at hc;split at hc
 ·cases hc
 rename_i it Ps;have hT:=ht t it Ps;split at hc
 ·rename_i e hd;split at hc
  ·cases hc
  rename_i ie OV;obtain⟨f,z,e1,e2,_⟩:=(ht e ie OV).info;have hu:=dI hT hd;split at hc
  ·rename_i cs n;split at hc
   ·rename_i hb;cases hc;simp only[VR,cr] at hv;obtain⟨A,cap,rfl,_,_,h4⟩:=hv;rcases h4 with ⟨h4,_⟩ | ⟨ad,rfl,hm⟩
    ·omega
    ·refine⟨.pointer (some (ad.add (i.toNat*ie.size))),?_,by simp only[VR,cr];exact⟨_,rfl,fx.drop _ _ _ hm⟩⟩;intro w';simp[Instr.indexAt,asIntOf,bH hu,db e1,e2,hb]
   ·cases hc
  ·rename_i o off n;split at hc
   ·rename_i hb;cases hc;simp only[VR] at hv;obtain⟨B,hB,hv⟩:=hv;split at hv
    ·obtain⟨rfl,_,h0⟩:=hv;omega
    ·rename_i b Pf;obtain⟨cap,rfl,_⟩:=hv;refine⟨.pointer (some ⟨b,off+i.toNat*ie.size,none⟩),?_,by simp only[VR];exact⟨B,b,hB,Pf,rfl⟩⟩;intro w';simp[Instr.indexAt,asIntOf,bH hu,db e1,e2,hb,add_lit]
   ·cases hc
  ·cases hc
 ·rename_i n e hd;split at hc
  ·cases hc
  rename_i ie OV;obtain⟨f,z,e1,e2,_⟩:=(ht e ie OV).info;have hu:=oH hT hd;split at hc
  ·rename_i cs;split at hc
   ·rename_i hb;cases hc;simp only[VR,cr] at hv;obtain⟨ad,rfl,hm⟩:=hv;refine⟨.pointer (some (ad.add (i.toNat*ie.size))),?_,by simp only[VR,cr];exact⟨_,rfl,fx.drop _ _ _ hm⟩⟩;intro w';simp[Instr.indexAt,asIntOf,bH hu,db e1,e2,hb,Instr.sureAddr]
   ·cases hc
  ·rename_i o off;split at hc
   ·rename_i hb;cases hc;simp only[VR] at hv;obtain⟨B,b,hB,Pf,rfl⟩:=hv;refine⟨.pointer (some ⟨b,off+i.toNat*ie.size,none⟩),?_,by simp only[VR];exact⟨B,b,hB,Pf,rfl⟩⟩;intro w';simp[Instr.indexAt,asIntOf,bH hu,db e1,e2,hb,Instr.sureAddr,add_lit]
   ·cases hc
  ·cases hc
 ·cases hc
def mV (av:List (Nat×TI))(t:TypeId)(x:CV)(f:Nat):Option CV:=
 match assoc av t with
 | none=>none
 | some it=>
  match it.d with
  | .bI fs=>
   match fs[f]? with
   | none=>none
   | some (off,ft)=>
    match assoc av ft with
    | none=>none
    | some ie=>
     if ie.size=0 then none else
     match x with
     | .de cs=>some (.de (cs.drop off))
     | .ax o p=>some (.ax o (p+off))
     | _=>none
  | _=>none
theorem pH {av:List (Nat×TI)}(ht:aD P av){F:Nat->Prop}{t:TypeId}{x c:CV}{v:Value}{f:Nat}(hv:VR w F σ x v)(hc:mV av t x f=some c) :
  ∃ u,(∀ w',(Instr.fieldAt t v f).run P w'=.ok u w')/\VR w F σ c u:=by
 unfold mV at hc;split at hc
 ·cases hc
 rename_i it Ps;have hT:=ht t it Ps;split at hc
 ·rename_i fs hd;split at hc
  ·cases hc
  rename_i off ft hf;split at hc
  ·cases hc
  rename_i ie OV;obtain⟨g,z,e1,e2,_⟩:=(ht ft ie OV).info;obtain⟨fields,hu,Qq⟩:=rK hT hd;have Xk:∃ fl:Field,fields[f]? = some fl/\fl.offset=off/\fl.type=ft:=by
   rw[<- Qq,getElem?_map] at hf;obtain⟨fl,h1,h2⟩:=Option.map_eq_some_iff.1 hf;simp only[Prod.mk.injEq] at h2;exact⟨fl,by simpa using h1,h2⟩
  obtain⟨fl,SF,rfl,rfl⟩:=Xk;split at hc
  ·cases hc
  rename_i hz;split at hc
  ·rename_i cs;cases hc;simp only[VR,cr] at hv;obtain⟨ad,rfl,hm⟩:=hv;refine⟨.pointer (some (ad.add fl.offset)),?_,by simp only[VR,cr];exact⟨_,rfl,fx.drop _ _ _ hm⟩⟩;intro w';simp[Instr.fieldAt,bH hu,SF,Instr.sureAddr,fieldPlace,db e1,e2,hz]
  ·rename_i o p;cases hc;simp only[VR] at hv;obtain⟨B,b,hB,Pf,rfl⟩:=hv;refine⟨.pointer (some ⟨b,p+fl.offset,none⟩),?_,by simp only[VR];exact⟨B,b,hB,Pf,rfl⟩⟩;intro w';simp[Instr.fieldAt,bH hu,SF,Instr.sureAddr,fieldPlace,db e1,e2,hz,add_lit]
  ·cases hc
 ·cases hc
theorem DH {t:TypeId}{i:TI}(hT:cE P t i){F:Nat->Prop}{cs:List CV}{vs:List Value}{c:CV}(h1:a7 w F σ cs vs)(h2:cs.all one=true)(off:Nat)(hc:mf i (cs.drop off)=some c) :
  ∃ v,(part t vs.toArray off).run P w=.ok v w/\VR w F σ c v:=by
 obtain⟨f,z,e1,e2,_⟩:=hT.info;have h1':=a7.drop off _ _ h1;have SH:(cs.drop off).all one=true:=by
  rw[all_eq_true] at h2 |-;exact λ x hx=>h2 x (mem_of_mem_drop hx)
 unfold mf at hc;simp only[part,Sem.run_bind,xp hT,Result.andThen_ok];split at hc
 ·rename_i ha;split at hc
  ·rename_i hl;cases hc;rw[ha];refine⟨.agg ((vs.drop off).take i.size).toArray,?_,?_⟩
   ·simp[db e1,e2,take_drop]
   ·simp only[VR];refine⟨_,rfl,a7.take _ _ _ h1',?_⟩;rw[all_eq_true] at SH |-;exact λ x hx=>SH x (mem_of_mem_take hx)
  ·cases hc
 ·rename_i ha;rw[Bool.not_eq_true] at ha;rw[ha];obtain⟨v,k1,k2⟩:=a7.get _ _ h1' 0 c (by rwa [<- head?_eq_getElem?]);rw[getElem?_drop] at k1;refine⟨v,?_,k2⟩;have:vs.toArray[off]? = some v:=by simpa using k1
  simp[this]
def zA (av:List (Nat×TI))(t:TypeId)(x:CV)(f:Nat):Option CV:=
 match assoc av t with
 | none=>none
 | some it=>
  match it.d with
  | .bI fs=>
   match fs[f]? with
   | none=>none
   | some (off,ft)=>
    match assoc av ft with
    | none=>none
    | some ie=>
     match x with
     | .agg cs=>mf ie (cs.drop off)
     | _=>none
  | _=>none
theorem FO {av:List (Nat×TI)}(ht:aD P av){F:Nat->Prop}{t:TypeId}{x c:CV}{v:Value}{f:Nat}(hv:VR w F σ x v)(hc:zA av t x f=some c) :
  ∃ u,(Instr.field t v f).run P w=.ok u w/\VR w F σ c u:=by
 unfold zA at hc;split at hc
 ·cases hc
 rename_i it Ps;have hT:=ht t it Ps;split at hc
 ·rename_i fs hd;split at hc
  ·cases hc
  rename_i off ft hf;split at hc
  ·cases hc
  rename_i ie OV;obtain⟨fields,hu,Qq⟩:=rK hT hd;have Xk:∃ fl:Field,fields[f]? = some fl/\fl.offset=off/\fl.type=ft:=by
   rw[<- Qq,getElem?_map] at hf;obtain⟨fl,h1,h2⟩:=Option.map_eq_some_iff.1 hf;simp only[Prod.mk.injEq] at h2;exact⟨fl,by simpa using h1,h2⟩
  obtain⟨fl,SF,rfl,rfl⟩:=Xk;split at hc
  ·rename_i cs;simp only[VR] at hv;obtain⟨vs,rfl,h1,h2⟩:=hv;obtain⟨u,k1,k2⟩:=DH (P:=P) (ht _ _ OV) h1 h2 fl.offset hc;exact⟨u,by simp[Instr.field,bH hu,SF,asAgg,k1],k2⟩
  ·cases hc
 ·cases hc
def uJ (av:List (Nat×TI))(t:TypeId)(x:CV)(i:Int):Option CV:=
 match x with
 | .str s=>match assoc av t with
  | some it=>match it.d with
   | .str=>if 0<=i then (s[i.toNat]?).map λ b=>.int .u8 b.toNat else none
   | _=>none
  | none=>none
 | .agg cs=>match assoc av t with
  | some it=>match it.d with
   | .arr n e=>match assoc av e with
    | some ie=>if 0<=i/\i<n then mf ie (cs.drop (i.toNat*ie.size)) else none
    | none=>none
   | _=>none
  | none=>none
 | _=>none
theorem ml {t:TypeId}{i:TI}(hT:cE P t i)(hd:i.d=.str):P.underlying t=some .string:=by
 obtain⟨d,h1,h2⟩:=hT.zJ;rw[hd] at h2;cases d<;>simp only[ue] at h2<;>first | cases h2 | skip
 exact h1
theorem Db {av:List (Nat×TI)}(ht:aD P av){F:Nat->Prop}{t:TypeId}{x c:CV}{v:Value}{i:Int}{k:IntKind}(hv:VR w F σ x v)(hc:uJ av t x i=some c) :
  ∃ u,(Instr.index t v (.int k i)).run P w=.ok u w/\VR w F σ c u:=by
 unfold uJ at hc;split at hc
 ·rename_i s';split at hc
  ·rename_i it Ps;split at hc
   ·rename_i hd;split at hc
    ·rename_i h0;obtain⟨b,hb,rfl⟩:=Option.map_eq_some_iff.1 hc;simp only[VR] at hv;subst hv;exact⟨.int .u8 b.toNat,by simp[Instr.index,asIntOf,bH (ml (ht t it Ps) hd),h0,hb],dT _ _⟩
    ·cases hc
   ·cases hc
  ·cases hc
 ·rename_i cs;split at hc
  ·rename_i it Ps;split at hc
   ·rename_i n e hd;split at hc
    ·rename_i ie OV;split at hc
     ·rename_i hb;simp only[VR] at hv;obtain⟨vs,rfl,h1,h2⟩:=hv;obtain⟨f,z,e1,e2,_⟩:=(ht e ie OV).info;obtain⟨u,k1,k2⟩:=DH (P:=P) (ht e ie OV) h1 h2 _ hc;exact⟨u,by simp[Instr.index,asIntOf,bH (oH (ht t it Ps) hd),hb,db e1,e2,k1],k2⟩
     ·cases hc
    ·cases hc
   ·cases hc
  ·cases hc
 ·cases hc
end
end Go.Can
/- Cuts, lengths, least and greatest, composites: what each yields, and that the model yields the same. No function of the program is mentioned here. -/
namespace Go.Can
open Go.RowKit List
section
variable {P:Program}{C:Cx}{σ:Nat->Option OB}{s:St}{a:Act}{w:World}
theorem IN {F:Nat->Prop}{A:Option Addr}{cap:Nat}(h:cap<=maxLen):VR w F σ (.au [] 0) (.slice A 0 cap):=by simp[VR,cr];exact⟨A,cap,⟨rfl,rfl⟩,h⟩
def KG (av:List (Nat×TI))(t:TypeId)(x:CV):Option CV:=
 match assoc av t with
 | none=>none
 | some it=>match it.d,x with
  | .str,.str s=>some (.int .i64 s.size)
  | .sl _,.au _ n=>some (.int .i64 n)
  | .sl _,.bg _ _ n=>some (.int .i64 n)
  | .sl _,.ak=>some (.int .i64 0)
  | .arr n _,_=>some (.int .i64 n)
  | _,_=>none
theorem KF {av:List (Nat×TI)}(ht:aD P av){F:Nat->Prop}{t ty:TypeId}{x c:CV}{v:Value}(hv:VR w F σ x v)(hc:KG av t x=some c) :
  ∃ u,(Builtin.len_ #[t] ty #[v]).run P w=.ok u w/\VR w F σ c u:=by
 unfold KG at hc;split at hc
 ·cases hc
 rename_i it Ps;have hT:=ht t it Ps;split at hc
 ·rename_i hd;cases hc;simp only[VR] at hv;subst hv;exact⟨_,by simp[Builtin.len_,bH (ml hT hd),goInt],dT _ _⟩
 ·rename_i e cs n hd;cases hc;simp only[VR,cr] at hv;obtain⟨A,cap,rfl,_⟩:=hv;exact⟨_,by simp[Builtin.len_,bH (dI hT hd),goInt],dT _ _⟩
 ·rename_i e o off n hd;cases hc;simp only[VR] at hv;obtain⟨B,_,hv⟩:=hv;split at hv
  ·obtain⟨rfl,_,rfl⟩:=hv;exact⟨_,by simp[Builtin.len_,bH (dI hT hd),goInt],dT _ _⟩
  ·obtain⟨cap,rfl,_⟩:=hv;exact⟨_,by simp[Builtin.len_,bH (dI hT hd),goInt],dT _ _⟩
 ·rename_i e hd;cases hc;simp only[VR] at hv;subst hv;exact⟨_,by simp[Builtin.len_,bH (dI hT hd),goInt],dT _ _⟩
 ·rename_i n e hd;cases hc;exact⟨_,by simp[Builtin.len_,bH (oH hT hd),goInt],dT _ _⟩
 ·cases hc
def lK (f:Int->Int->Int)(k:IntKind):Int->List CV->Option CV
 | x,[]=>some (.int k x)
 | x,.int _ y::r=>lK f k (f x y) r
 | _,_=>none
def MY (x y:Int):Int:=if y<x then y else x
def imax (x y:Int):Int:=if y > x then y else x
theorem Ed {F:Nat->Prop}{k:IntKind}:∀ (cs:List CV) (x:Int) (vs:List Value) (c:CV),a7 w F σ cs vs->lK MY k x cs=some c ->
  ∃ u,(vs.foldlM Builtin.min2 (.int k x)).run P w=.ok u w/\VR w F σ c u
 | [],x,vs,c,hv,hc=>by
  simp only[a7,lK] at hv hc;subst hv;cases hc;exact⟨_,by simp,dT _ _⟩
 | d::cs,x,vs,c,hv,hc=>by
  unfold lK at hc;split at hc
  ·rename_i e;cases e
  ·rename_i e;cases e;simp only[a7] at hv;obtain⟨v,r,rfl,h1,h2⟩:=hv;simp only[VR] at h1;subst h1;obtain⟨u,k1,k2⟩:=Ed cs _ r c h2 hc;exact⟨u,by simp only[foldlM_cons,Builtin.min2,Sem.run_bind,Sem.run_pure,Result.andThen_ok];exact k1,k2⟩
  ·cases hc
theorem Ee {F:Nat->Prop}{k:IntKind}:∀ (cs:List CV) (x:Int) (vs:List Value) (c:CV),a7 w F σ cs vs->lK imax k x cs=some c ->
  ∃ u,(vs.foldlM Builtin.max2 (.int k x)).run P w=.ok u w/\VR w F σ c u
 | [],x,vs,c,hv,hc=>by
  simp only[a7,lK] at hv hc;subst hv;cases hc;exact⟨_,by simp,dT _ _⟩
 | d::cs,x,vs,c,hv,hc=>by
  unfold lK at hc;split at hc
  ·rename_i e;cases e
  ·rename_i e;cases e;simp only[a7] at hv;obtain⟨v,r,rfl,h1,h2⟩:=hv;simp only[VR] at h1;subst h1;obtain⟨u,k1,k2⟩:=Ee cs _ r c h2 hc;exact⟨u,by simp only[foldlM_cons,Builtin.max2,Sem.run_bind,Sem.run_pure,Result.andThen_ok];exact k1,k2⟩
  ·cases hc
def dM (av:List (Nat×TI))(t:TypeId):Option TD:=(assoc av t).map (·.d)
def dJ (s:St)(x:Option Operand)(d:Nat):Option Nat:=
 match x with
 | none=>some d
 | some o=>match ev s o with
  | some (.int _ i)=>if 0<=i then some i.toNat else none
  | _=>none
def lJ (av:List (Nat×TI))(s:St)(t:TypeId)(x:CV)(lo hi:Option Operand):Option CV:=
 match x with
 | .str b=>match dM av t with
  | some .str=>match dJ s hi b.size,dJ s lo 0 with
   | some h,some l=>if l<=h/\h<=b.size then some (.str (b.extract l h)) else none
   | _,_=>none
  | _=>none
 | .au cs n=>match dM av t with
  | some (.sl e)=>match assoc av e with
   | some ie=>match dJ s hi n,dJ s lo 0 with
    | some h,some l=>if l<=h/\h<=n then some (.au ((cs.drop (l*ie.size)).take ((h-l)*ie.size)) (h-l)) else none
    | _,_=>none
   | none=>none
  | _=>none
 | .ak=>match dM av t with
  | some (.sl e)=>match assoc av e with
   | some _=>match dJ s hi 0,dJ s lo 0 with
    | some h,some l=>if l=0/\h=0 then some .ak else none
    | _,_=>none
   | none=>none
  | _=>none
 | .bg o off n=>match dM av t with
  | some (.sl e)=>match assoc av e,assoc s.heap o with
   | some ie,some ob=>match dJ s hi n,dJ s lo 0 with
    | some h,some l=>if l<=h/\h<=n/\ie.size=ob.sz then (if l=0 then some (.bg o off h) else if h=l then some (.au [] 0) else some (.bg o (off+l*ie.size) (h-l))) else none
    | _,_=>none
   | _,_=>none
  | _=>none
 | .ax o f=>match dM av t with
  | some (.arr n e)=>match assoc av e,assoc s.heap o with
   | some _,some ob=>match lo,hi with
    | none,none=>if 0<f/\0<n/\n<=1000000/\ob.sz=0/\f<=ob.cells.length then some (.bg o f n) else none
    | _,_=>none
   | _,_=>none
  | _=>none
 | _=>none
theorem mg (h:aO C σ s a w){x:Option Operand}{d n:Nat}(hb:dJ s x d=some n) :
  (x=none/\n=d)\/∃ o k i,x=some o/\a.eval o=.int k i/\0<=i/\n=i.toNat:=by
 unfold dJ at hb;split at hb
 ·cases hb;exact .inl ⟨rfl,rfl⟩
 ·rename_i o;split at hb
  ·rename_i k i he;split at hb
   ·rename_i h0;cases hb;have:=bG h he;simp only[VR] at this;exact .inr ⟨o,k,i,rfl,this,h0,rfl⟩
   ·cases hb
  ·cases hb
theorem fz (h:aO C σ s a w){lo hi:Option Operand}{len cap l n:Nat}{isSlice:Bool}(hh:dJ s hi len=some n)(hl:dJ s lo 0=some l)(h1:l<=n)(h2:n<=cap) :
  (Instr.sliceBounds isSlice len cap (lo.map a.eval) (hi.map a.eval) none).run P w=.ok (l,n,cap) w:=by
 have e1:∀ (k:IntKind) (i:Int) (y:Nat) (code:BoundsCode),0<=i->i.toNat<=y->(Instr.sliceBound (.int k i) y code).run P w=.ok i.toNat w:=λ k i y code h0 h1=>by
  simp only[Instr.sliceBound,asIntOf,pure_bind];rw[if_pos ⟨h0,by omega⟩];rfl
 rcases mg h hh with ⟨rfl,rfl⟩ | ⟨oh,kh,ih,rfl,eh,h0,rfl⟩<;>rcases mg h hl with ⟨rfl,rfl⟩ | ⟨ol,kl,il,rfl,el,h0',rfl⟩
 ·simp[Instr.sliceBounds]
 ·simp[Instr.sliceBounds,el,e1 _ _ _ _ h0' h1]
 ·simp[Instr.sliceBounds,eh,e1 _ _ _ _ h0 h2]
 ·simp[Instr.sliceBounds,eh,el,e1 _ _ _ _ h0 h2,e1 _ _ _ _ h0' h1]
theorem FL {av:List (Nat×TI)}(ht:aD P av)(h:aO C σ s a w){t:TypeId}{x c:CV}{v:Value}{lo hi:Option Operand}(hv:VR w (FB C σ s.heap) σ x v)(hc:lJ av s t x lo hi=some c) :
  ∃ u,(Instr.sliceAt t v (lo.map a.eval) (hi.map a.eval) none).run P w=.ok u w/\VR w (FB C σ s.heap) σ c u:=by
 unfold lJ at hc;split at hc
 ·rename_i b;split at hc
  ·rename_i hd;obtain⟨it,Ps,hd⟩:=Option.map_eq_some_iff.1 hd;split at hc
   ·rename_i hh l Wv Rd;split at hc
    ·rename_i hb;cases hc;simp only[VR] at hv;subst hv;exact⟨_,by simp[Instr.sliceAt,Instr.slice,bH (ml (ht t it Ps) hd),fz h Wv Rd hb.1 hb.2],zG _⟩
    ·cases hc
   ·cases hc
  ·cases hc
 ·rename_i cs n;split at hc
  ·rename_i e hd;obtain⟨it,Ps,hd⟩:=Option.map_eq_some_iff.1 hd;split at hc
   ·rename_i ie OV;split at hc
    ·rename_i hh l Wv Rd;split at hc
     ·rename_i hb;cases hc;obtain⟨f,z,e1,e2,_⟩:=(ht e ie OV).info;simp only[VR,cr] at hv;obtain⟨A,cap,rfl,h1,h2,h3⟩:=hv;refine⟨.slice (if cap=l then A else A.map (·.add (l*ie.size))) (hh-l) (cap-l),?_,?_⟩
      ·simp[Instr.sliceAt,Instr.slice,bH (dI (ht t it Ps) hd),fz h Wv Rd hb.1 (Nat.le_trans hb.2 h1),db e1,e2]
      ·simp only[VR,cr];refine⟨_,_,rfl,by omega,by omega,?_⟩;rcases h3 with ⟨h3,rfl⟩ | ⟨ad,rfl,hm⟩
       ·exact .inl ⟨by omega,by simp⟩
       ·by_cases Re:hh=l
        ·exact .inl ⟨by omega,by simp[Re]⟩
        ·refine .inr ⟨ad.add (l*ie.size),?_,fx.take _ _ _ (fx.drop _ _ _ hm)⟩;rw[if_neg yA];rfl
     ·cases hc
    ·cases hc
   ·cases hc
  ·cases hc
 ·split at hc
  ·rename_i e hd;obtain⟨it,Ps,hd⟩:=Option.map_eq_some_iff.1 hd;split at hc
   ·rename_i ie OV;split at hc
    ·rename_i hh l Wv Rd;split at hc
     ·rename_i hb;obtain⟨rfl,rfl⟩:=hb;cases hc;obtain⟨f,z,e1,e2,_⟩:=(ht e ie OV).info;simp only[VR] at hv;subst hv;refine⟨.slice none 0 0,?_,by simp[VR]⟩;simp[Instr.sliceAt,Instr.slice,bH (dI (ht t it Ps) hd),fz h Wv Rd (Nat.le_refl _) (Nat.le_refl _),db e1]
     ·cases hc
    ·cases hc
   ·cases hc
  ·cases hc
 ·rename_i o off n;split at hc
  ·rename_i e hd;obtain⟨it,Ps,hd⟩:=Option.map_eq_some_iff.1 hd;split at hc
   ·rename_i ie ob OV QT;split at hc
    ·rename_i hh l Wv Rd;split at hc
     ·rename_i hb;obtain⟨f,z,e1,e2,_⟩:=(ht e ie OV).info;obtain⟨B,hB,O0,_⟩:=h.obj o ob QT;simp only[VR] at hv;obtain⟨B',Rm,hv⟩:=hv;rw[hB] at Rm;cases Rm;split at hv
      ·obtain⟨rfl,rfl,rfl⟩:=hv;have:hh=0/\l=0:=by omega
       obtain⟨rfl,rfl⟩:=this;cases hc;rename_i S8;refine⟨.slice none 0 0,?_,by simp only[VR];exact⟨B,hB,by rw[S8];simp⟩⟩;simp[Instr.sliceAt,Instr.slice,bH (dI (ht t it Ps) hd),fz h Wv Rd (Nat.le_refl _) (Nat.le_refl _),db e1]
      ·rename_i b S8;obtain⟨cap,rfl,h1,h2,h3,h4⟩:=hv;refine⟨.slice (if cap=l then some ⟨b,off,none⟩ else some ((⟨b,off,none⟩:Addr).add (l*ie.size))) (hh-l) (cap-l),?_,?_⟩
       ·simp[Instr.sliceAt,Instr.slice,bH (dI (ht t it Ps) hd),fz h Wv Rd hb.1 (Nat.le_trans hb.2.1 h1),db e1,e2]
       ·split at hc
        ·rename_i Re;subst Re;cases hc;simp only[VR];refine⟨B,hB,?_⟩;rw[S8];exact⟨cap,by simp[add_zero],by omega,h2,h3,h4⟩
        ·split at hc
         ·rename_i hl;cases hc;rw[hl,Nat.sub_self];exact IN yA
         ·rename_i Re hl;cases hc;simp only[VR];refine⟨B,hB,?_⟩;rw[S8];have hm:(cap-l)*B.sz+l*B.sz=cap*B.sz:=by rw[<- Nat.add_mul];congr 1;omega
          rw[if_neg yA,add_lit];have hs:ie.size=B.sz:=by omega
          refine⟨cap-l,rfl,by omega,by omega,by rw[hs];omega,λ h0=>?_⟩;have hz:l*B.sz=0:=by rw[hs] at h0;omega
          have ho:off=0:=by omega
          have:=h4 ho;omega
     ·cases hc
    ·cases hc
   ·cases hc
  ·cases hc
 ·rename_i o f;split at hc
  ·rename_i n e hd;obtain⟨it,Ps,hd⟩:=Option.map_eq_some_iff.1 hd;split at hc
   ·rename_i ie ob OV QT;split at hc
    ·split at hc
     ·rename_i hb;cases hc;have g2:=oH (ht t it Ps) hd;obtain⟨fi,z,g3,_⟩:=(ht e ie OV).info;obtain⟨B,hB,O0,_,_,h5⟩:=h.obj o ob QT;simp only[VR] at hv;obtain⟨B',b,Rm,Tf,rfl⟩:=hv;rw[hB] at Rm;cases Rm;obtain⟨cur,n1,n2,_,_,n5,_⟩:=h5 b Tf;refine⟨.slice (some ⟨b,f,none⟩) n n,?_,?_⟩
      ·have T2:(Instr.sliceBounds false n n none none none).run P w=.ok (0,n,n) w:=by simp[Instr.sliceBounds]
       have Pp:¬ n=0:=by omega
       simp[Instr.sliceAt,bH g2,Instr.sureAddr,T2,db g3,Pp,add_zero]
      ·simp only[VR];refine⟨B,hB,?_⟩;rw[Tf];exact⟨n,rfl,Nat.le_refl _,by simp only[maxLen];omega,by rw[O0,hb.2.2.2.1];omega,λ h0=>by omega⟩
     ·cases hc
    ·cases hc
   ·cases hc
  ·cases hc
 ·cases hc
def gC (cells:List CV)(off:Nat)(cs:List CV):List CV:=cells.take off++cs++cells.drop (off+cs.length)
def nw (place:Nat->Option (Nat×Nat))(cells:List CV):List (Nat×CV)->Option (List CV)
 | []=>some cells
 | (i,c)::rest=>
  match place i with
  | none=>none
  | some (off,size)=>if c.cells.length≠size || off+c.cells.length > cells.length then none else nw place (gC cells off c.cells) rest
theorem xW {α:Type}:∀ (xs:List α) (j off:Nat) (arr:Array α),(xs.zipIdx j).foldl (λ cs (c,k)=>cs.setIfInBounds (off+k) c) arr =
  (if off+j+xs.length<=arr.size then (arr.toList.take (off+j)++xs++arr.toList.drop (off+j+xs.length)).toArray else (xs.zipIdx j).foldl (λ cs (c,k)=>cs.setIfInBounds (off+k) c) arr)
 | [],j,off,arr=>by simp
 | x::xs,j,off,arr=>by
  split
  ·rename_i hl;simp only[zipIdx_cons,foldl_cons];rw[xW xs (j+1) off];have hs:off+(j+1)+xs.length<=(arr.setIfInBounds (off+j) x).size:=by simp at hl |-;omega
   rw[if_pos hs];have OT:off+j<arr.toList.length:=by simp at hl |-;omega
   congr 1;apply ext_getElem?;intro n;simp only[Array.toList_setIfInBounds,append_assoc];simp only[getElem?_append,getElem?_take,getElem?_drop,getElem?_set,length_take,length_set,length_cons,cons_append,getElem?_cons];have Tq:off+j+(xs.length+1)<=arr.toList.length:=by simpa using hl
   simp only[Nat.min_eq_left (show off+(j+1)<=arr.toList.length by omega),Nat.min_eq_left (show off+j<=arr.toList.length by omega)];by_cases h1:n<off+j
   ·simp[show n<off+(j+1) by omega,h1,show off+j≠n by omega]
   ·by_cases h2:n=off+j
    ·subst h2;have Xd:off+j<arr.size:=by simpa using OT
     simp[show off+j<off+(j+1) by omega,Xd]
    ·have h3:¬ n<off+(j+1):=by omega
     simp only[h1,h3,if_false,show n-(off+j)≠0 by omega];have e1:n-(off+j)-1=n-(off+(j+1)):=by omega
     rw[e1];split
     ·rfl
     ·have e2:off+(j+1)+xs.length+(n-(off+(j+1))-xs.length)=off+j+(xs.length+1)+(n-(off+(j+1))-xs.length):=by omega
      rw[e2,if_neg yA]
  ·rfl
theorem uH {F:Nat->Prop}{cells:List CV}{vs:List Value}(h:a7 w F σ cells vs)(off:Nat){cs:List CV}{us:List Value}(hc:a7 w F σ cs us) :
  a7 w F σ (gC cells off cs) (vs.take off++us++vs.drop (off+us.length)):=by
 unfold gC;rw[<- a7.length _ _ hc];exact a7.append _ _ _ _ (a7.append _ _ _ _ (a7.take _ _ _ h) hc) (a7.drop _ _ _ h)
theorem qW {cells cs:List CV}(off:Nat)(h1:cells.all one=true)(h2:cs.all one=true):(gC cells off cs).all one=true:=by
 unfold gC;rw[all_eq_true] at h1 h2 |-;intro x hx;rcases mem_append.1 hx with hx | hx
 ·rcases mem_append.1 hx with hx | hx
  ·exact h1 x (mem_of_mem_take hx)
  ·exact h2 x hx
 ·exact h1 x (mem_of_mem_drop hx)
def ez:CV->Bool
 | .bY _=>true
 | .iter _ _ _=>true
 | _=>false
def iy (s:St):List (Nat×Operand)->Option (List (Nat×CV))
 | []=>some []
 | (i,x)::r=>match ev s x,iy s r with
  | some c,some cs=>if ez c then none else some ((i,c)::cs)
  | _,_=>none
theorem oB {F:Nat->Prop}(place:Nat->Option (Nat×Nat)):∀ (ps:List (Nat×CV)) (qs:List (Nat×Value)) (cells out:List CV) (vs:Array Value),ps.length=qs.length ->
  (∀ (j:Nat) i c,ps[j]? = some (i,c)->ez c=false/\∃ v,qs[j]? = some (i,v)/\VR w F σ c v)->a7 w F σ cells vs.toList->cells.all one=true->nw place cells ps=some out ->
  ∃ us,Instr.fill place vs qs=some us/\a7 w F σ out us.toList/\out.all one=true
 | [],[],cells,out,vs,_,_,h1,h2,hc=>by simp only[nw] at hc;cases hc;exact⟨vs,rfl,h1,h2⟩
 | [],_::_,_,_,_,hl,_,_,_,_=>by simp at hl
 | _::_,[],_,_,_,hl,_,_,_,_=>by simp at hl
 | (i,c)::ps,(i',v)::qs,cells,out,vs,hl,hq,h1,h2,hc=>by
  obtain⟨hn,v',RM,hr⟩:=hq 0 i c rfl;simp at RM;obtain⟨rfl,rfl⟩:=RM;simp only[nw] at hc;split at hc
  ·cases hc
  rename_i off size hp;split at hc
  ·cases hc
  rename_i O0;simp only[ne_eq,gt_iff_lt,Bool.or_eq_true,decide_eq_true_eq,not_or,Decidable.not_not,Nat.not_lt] at O0;have hf:=VR.flat c v (λ cs e=>by subst e;simp[ez] at hn) (λ k s p e=>by subst e;simp[ez] at hn) hr;have hlen:v.cells.size=c.cells.length:=by simpa using a7.length _ _ hf.1
  have hlc:vs.size=cells.length:=by simpa using a7.length _ _ h1
  obtain⟨us,k1,k2⟩:=oB place ps qs (gC cells off c.cells) out (vs.toList.take off++v.cells.toList++vs.toList.drop (off+v.cells.toList.length)).toArray yBz
   (λ j i c hj=>by simpa using hq (j+1) i c (by simpa using hj)) (by simpa using uH h1 off hf.1) (qW off h2 hf.2) hc
  refine⟨us,?_,k2⟩;simp only[Instr.fill,hp];rw[if_neg PA];have:=xW v.cells.toList 0 off vs;rw[if_pos PA] at this;have e:v.cells.zipIdx.foldl (λ cs (x:Value×Nat)=>cs.setIfInBounds (off+x.2) x.1) vs=(v.cells.toList.zipIdx 0).foldl (λ cs (x:Value×Nat)=>cs.setIfInBounds (off+x.2) x.1) vs:=by
   rw[<- Array.foldl_toList,Array.toList_zipIdx]
  rw[e,this]
  simpa using k1
theorem me (h:aO C σ s a w):∀ (xs:List (Nat×Operand)) (ps:List (Nat×CV)),iy s xs=some ps->ps.length=xs.length/\
  ∀ (j:Nat) i c,ps[j]? = some (i,c)->ez c=false/\∃ v,(xs.map λ (p:Nat×Operand)=>(p.1,a.eval p.2))[j]? = some (i,v)/\VR w (FB C σ s.heap) σ c v
 | [],ps,hp=>by simp only[iy] at hp;cases hp;exact⟨rfl,by simp⟩
 | (i,x)::r,ps,hp=>by
  simp only[iy] at hp;split at hp
  ·rename_i c cs h1 h2;split at hp
   ·cases hp
   ·rename_i hn;cases hp;obtain⟨k1,k2⟩:=me h r cs h2;refine⟨by simp[k1],λ j i' c' hj=>?_⟩
    cases j with
    | zero=>simp at hj;obtain⟨rfl,rfl⟩:=hj;exact⟨by simpa using hn,a.eval x,rfl,bG h h1⟩
    | succ j=>simpa using k2 j i' c' (by simpa using hj)
  ·cases hp
def oV (av:List (Nat×TI)):List (Nat×TypeId)->Option (List (Nat×Nat))
 | []=>some []
 | (off,t)::r=>match assoc av t,oV av r with
  | some i,some ps=>some ((off,i.size)::ps)
  | _,_=>none
def sF (av:List (Nat×TI))(s:St)(t:TypeId)(parts:List (Nat×Operand)):Option CV:=
 match assoc av t with
 | none=>none
 | some it=>match it.d with
  | .bI fs=>match oV av fs,iy s parts with
   | some ps,some cs=>(nw (ps[·]?) it.zero cs).map CV.agg
   | _,_=>none
  | .arr _ e=>match assoc av e,iy s parts with
   | some ie,some cs=>(nw (λ i=>some (i*ie.size,ie.size)) it.zero cs).map CV.agg
   | _,_=>none
  | _=>none
theorem ig {t:TypeId}{f:TypeInfo}{z:Value}(h:P.info? t=some f)(hz:f.zero=some z)(w:World):(zeroValue t).run P w=.ok z w:=by
 simp[zeroValue,uZ h,hz]
theorem nW {av:List (Nat×TI)}(ht:aD P av):∀ (fs:List Field) (ps:List (Nat×Nat)),oV av (fs.map λ f=>(f.offset,f.type))=some ps ->
  (fs.mapM λ f=>do pure (f.offset,<- sizeOf f.type):Sem (List (Nat×Nat))).run P w=.ok ps w
 | [],ps,h=>by simp only[map_nil,oV] at h;cases h;simp
 | f::fs,ps,h=>by
  simp only[map_cons,oV] at h;split at h
  ·rename_i i QI h1 h2;cases h;obtain⟨g,z,e1,e2,_⟩:=(ht _ i h1).info;have:=nW ht fs QI h2;simp only[mapM_cons,Sem.run_bind,db e1,e2,this,Result.andThen_ok,Sem.run_pure]
  ·cases h
theorem FR {av:List (Nat×TI)}(ht:aD P av)(h:aO C σ s a w){t:TypeId}{parts:List (Nat×Operand)}{c:CV}(hc:sF av s t parts=some c) :
  ∃ u,(Instr.build t (parts.map λ (p:Nat×Operand)=>(p.1,a.eval p.2)).toArray).run P w=.ok u w/\VR w (FB C σ s.heap) σ c u:=by
 unfold sF at hc;split at hc
 ·cases hc
 rename_i it Ps;have hT:=ht t it Ps;obtain⟨f,z,e1,_,_,e4,e5⟩:=hT.info;obtain⟨k1,k2⟩:=dt (w:=w) (F:=FB C σ s.heap) _ _ e5;split at hc
 ·rename_i fs hd;obtain⟨fields,hu,rfl⟩:=rK hT hd;split at hc
  ·rename_i ps cs Qp PQ;obtain⟨out,hf,rfl⟩:=Option.map_eq_some_iff.1 hc;obtain⟨l1,l2⟩:=me h _ _ PQ;obtain⟨us,m1,m2,m3⟩:=oB (ps[·]?) cs (parts.map λ p=>(p.1,a.eval p.2)) it.zero out z.cells (by simpa using l1) l2 (a7.cS _ _ k1) k2 hf;refine⟨.agg us,?_,by simp only[VR];exact⟨us.toList,by simp,m2,m3⟩⟩;have hm:=nW (w:=w) ht fields.toList ps Qp;have Xb:(fields.mapM λ f=>do pure (f.offset,<- sizeOf f.type):Sem (Array (Nat×Nat))).run P w=.ok ps.toArray w:=by
    rw[Array.mapM_eq_mapM_toList];simp only[Sem.run_map,hm,Result.andThen_ok]
   simp only[Instr.build,Sem.run_bind,ig e1 e4,bH hu,Result.andThen_ok,Xb,getElem?_toArray,m1];rfl
  ·cases hc
 ·rename_i n e hd;split at hc
  ·rename_i ie cs OV PQ;obtain⟨out,hf,rfl⟩:=Option.map_eq_some_iff.1 hc;obtain⟨l1,l2⟩:=me h _ _ PQ;obtain⟨g,zz,g1,g2,_⟩:=(ht e ie OV).info;obtain⟨us,m1,m2,m3⟩:=oB _ cs (parts.map λ p=>(p.1,a.eval p.2)) it.zero out z.cells (by simpa using l1) l2 (a7.cS _ _ k1) k2 hf;refine⟨.agg us,?_,by simp only[VR];exact⟨us.toList,by simp,m2,m3⟩⟩;simp only[Instr.build,Sem.run_bind,ig e1 e4,bH (oH hT hd),Result.andThen_ok,db g1,g2,m1];rfl
  ·cases hc
 ·cases hc
end
end Go.Can
