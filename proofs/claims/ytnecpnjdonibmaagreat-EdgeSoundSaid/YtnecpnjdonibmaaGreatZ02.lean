/- The operations that turn nothing in memory: what each yields -/
import Derived.Test.YtnecpnjdonibmaaGreatZ01
namespace Go.Can
open Go.RowKit
def ny (w:World)(F:Nat→Prop)(σ:Nat→Option OB)(cs:List CV)(ad:Addr):Prop:=
 ∃ us:List Value,aN w F σ cs us∧cs.all one=true∧∀ j u,us[j]? = some u→w.cell? (ad.add j)=some u
theorem ny.drop {w:World}{F:Nat→Prop}{σ:Nat→Option OB}{cs:List CV}{ad:Addr}(k:Nat)(h:ny w F σ cs ad):ny w F σ (cs.drop k) (ad.add k):=by
 obtain⟨us,h1,h2,h3⟩:=h;refine⟨us.drop k,aN.drop k cs us h1,?_,fun j u hu=>?_⟩
 ·rw[List.all_eq_true] at h2 ⊢;exact fun x hx=>h2 x (List.mem_of_mem_drop hx)
 ·rw[List.getElem?_drop] at hu;rw[add_add];exact h3 _ u hu
def gh (s:St):CV→Option (List CV)
 | .cA cs=>some cs
 | .av o off=>(assoc s.heap o).map (·.cells.drop off)
 | _=>none
section
variable {P:Program}{C:Cx}{σ:Nat→Option OB}{s:St}{a:Act}{w:World}
theorem G2 (h:aL C σ s a w){o:Nat}{ob:Ob}{B:OB}{b:Nat}(ho:assoc s.heap o=some ob)(hB:σ o=some B)(hb:B.iQ=some b) :
  ny w (FB C σ s.heap) σ ob.cells ⟨b,0,none⟩:=by
 obtain⟨B',e1,_,_,e4,e5⟩:=h.obj o ob ho;rw[hB] at e1;cases e1;obtain⟨cur,k1,k2,k3,k4,k5,k6⟩:=e5 b hb;refine⟨_,k6,e4,fun j u hu=>?_⟩;rw[add_lit,Nat.zero_add,cell_of_row w b j cur _ _ k1];rw[List.getElem?_take] at hu;split at hu
 ·simpa using hu
 ·cases hu
theorem zI (h:aL C σ s a w){c:CV}{v:Value}{cs:List CV}(hv:VR w (FB C σ s.heap) σ c v)(hm:gh s c=some cs) :
  ∃ ad,v=.pointer (some ad)∧ny w (FB C σ s.heap) σ cs ad:=by
 unfold gh at hm;split at hm
 ·rename_i Rs;cases hm;simp only[VR,ch] at hv;obtain⟨ad,e,hm⟩:=hv;obtain⟨us,h1,_,h3⟩:=fN.cells _ _ hm;exact⟨ad,e,us,aN.cm _ _ h1,fN.Mm _ _ hm,h3⟩
 ·rename_i o off;obtain⟨ob,ho,rfl⟩:=Option.map_eq_some_iff.1 hm;simp only[VR] at hv;obtain⟨B,b,hB,hb,rfl⟩:=hv;refine⟨_,rfl,?_⟩;have:=(G2 h ho hB hb).drop off;rw[add_lit,Nat.zero_add] at this;exact this
 ·cases hm
theorem vI {t:TypeId}{i:TI}(hT:cg P t i)(w:World):(isAgg t).run P w=.ok i.agg w:=by
 obtain⟨d,h1,h2⟩:=hT.AM;simp only[isAgg,Sem.run_bind,bu h1,Result.andThen_ok];unfold TI.agg;rw[← h2];cases d<;>rfl
def lj (i:TI)(cs:List CV):Option CV:=
 if i.agg then (if i.size≤cs.length then some (.agg (cs.take i.size)) else none) else cs.head?
theorem Aq {t:TypeId}{i:TI}(hT:cg P t i){F:Nat→Prop}{cs:List CV}{ad:Addr}{c:CV}(hm:ny w F σ cs ad)(hc:lj i cs=some c) :
  ∃ v,(loadVar t ad).run P w=.ok v w∧VR w F σ c v:=by
 obtain⟨us,h1,h2,h3⟩:=hm;obtain⟨f,z,e1,e2,_⟩:=hT.info;unfold lj at hc;simp only[loadVar,Sem.run_bind,vI hT,Result.andThen_ok];split at hc
 ·rename_i ha;split at hc
  ·rename_i hl;cases hc;rw[ha];have hlen:=aN.length _ _ h1;have h4:(loadCells ad i.size).run P w=.ok (us.take i.size).toArray w:=by
    have:=run_loadCells_list (P:=P) w ad (us.take i.size) (fun j v hv=>by
     rw[List.getElem?_take] at hv;split at hv
     ·exact h3 j v hv
     ·cases hv)
    rwa [List.length_take,Nat.min_eq_left yA] at this
   refine⟨.agg (us.take i.size).toArray,by simp[cG e1,e2,h4],?_⟩;simp only[VR];refine⟨us.take i.size,rfl,aN.take _ _ _ h1,?_⟩;rw[List.all_eq_true] at h2 ⊢;exact fun x hx=>h2 x (List.mem_of_mem_take hx)
  ·cases hc
 ·rename_i ha;rw[Bool.not_eq_true] at ha;rw[ha];obtain⟨v,k1,k2⟩:=aN.get _ _ h1 0 c (by rwa [← List.head?_eq_getElem?]);have:=h3 0 v k1;rw[add_zero] at this;exact⟨v,by simp[this],k2⟩
def yq (au:List (Nat×TI))(t:TypeId)(x:CV)(i:Int):Option CV:=
 match assoc au t with
 | none=>none
 | some it=>
  match it.d with
  | .sl e=>
   match assoc au e with
   | none=>none
   | some ie=>
    match x with
    | .az cs n=>if 0≤i∧i<n then some (.cA (cs.drop (i.toNat*ie.size))) else none
    | .bj o off n=>if 0≤i∧i<n then some (.av o (off+i.toNat*ie.size)) else none
    | _=>none
  | .arr n e=>
   match assoc au e with
   | none=>none
   | some ie=>
    match x with
    | .cA cs=>if 0≤i∧i<n then some (.cA (cs.drop (i.toNat*ie.size))) else none
    | .av o off=>if 0≤i∧i<n then some (.av o (off+i.toNat*ie.size)) else none
    | _=>none
  | _=>none
theorem dr {t e:TypeId}{i:TI}(hT:cg P t i)(hd:i.d=.sl e):P.underlying t=some (.slice e):=by
 obtain⟨d,h1,h2⟩:=hT.AM;rw[hd] at h2;cases d<;>simp only[rh] at h2<;>first | cases h2 | skip
 exact h1
theorem mM {t e:TypeId}{n:Nat}{i:TI}(hT:cg P t i)(hd:i.d=.arr n e):P.underlying t=some (.array n e):=by
 obtain⟨d,h1,h2⟩:=hT.AM;rw[hd] at h2;cases d<;>simp only[rh] at h2<;>first | cases h2 | skip
 exact h1
theorem p6 {t:TypeId}{fs:List (Nat×TypeId)}{i:TI}(hT:cg P t i)(hd:i.d=.bw fs):∃ fields,P.underlying t=some (.struct fields)∧fields.toList.map (fun f=>(f.offset,f.type))=fs:=by
 obtain⟨d,h1,h2⟩:=hT.AM;rw[hd] at h2;cases d<;>simp only[rh] at h2<;>first | cases h2 | skip
 exact⟨_,h1,rfl⟩
theorem F3 {t:TypeId}{i:TI}(hT:cg P t i)(hd:i.d=.bool):P.underlying t=some .bool:=by
 obtain⟨d,h1,h2⟩:=hT.AM;rw[hd] at h2;cases d<;>simp only[rh] at h2<;>first | cases h2 | skip
 exact h1
theorem EZ {au:List (Nat×TI)}(ht:aB P au){F:Nat→Prop}{t:TypeId}{x c:CV}{v:Value}{i:Int}{k:IntKind}(hv:VR w F σ x v)(hc:yq au t x i=some c) :
  ∃ u,(∀ w',(Instr.indexAt t v (.int k i)).run P w'=.ok u w')∧VR w F σ c u:=by
 unfold yq at hc;split at hc
 ·cases hc
 rename_i it Qp;have hT:=ht t it Qp;split at hc
 ·rename_i e hd;split at hc
  ·cases hc
  rename_i ie PS;obtain⟨f,z,e1,e2,_⟩:=(ht e ie PS).info;have hu:=dr hT hd;split at hc
  ·rename_i cs n;split at hc
   ·rename_i hb;cases hc;simp only[VR,ch] at hv;obtain⟨A,cap,rfl,_,_,h4⟩:=hv;rcases h4 with ⟨h4,_⟩ | ⟨ad,rfl,hm⟩
    ·omega
    ·refine⟨.pointer (some (ad.add (i.toNat*ie.size))),?_,by simp only[VR,ch];exact⟨_,rfl,fN.drop _ _ _ hm⟩⟩;intro w';simp[Instr.indexAt,asIntOf,bu hu,cG e1,e2,hb]
   ·cases hc
  ·rename_i o off n;split at hc
   ·rename_i hb;cases hc;simp only[VR] at hv;obtain⟨B,hB,hv⟩:=hv;split at hv
    ·obtain⟨rfl,_,h0⟩:=hv;omega
    ·rename_i b P5;obtain⟨cap,rfl,_⟩:=hv;refine⟨.pointer (some ⟨b,off+i.toNat*ie.size,none⟩),?_,by simp only[VR];exact⟨B,b,hB,P5,rfl⟩⟩;intro w';simp[Instr.indexAt,asIntOf,bu hu,cG e1,e2,hb,add_lit]
   ·cases hc
  ·cases hc
 ·rename_i n e hd;split at hc
  ·cases hc
  rename_i ie PS;obtain⟨f,z,e1,e2,_⟩:=(ht e ie PS).info;have hu:=mM hT hd;split at hc
  ·rename_i cs;split at hc
   ·rename_i hb;cases hc;simp only[VR,ch] at hv;obtain⟨ad,rfl,hm⟩:=hv;refine⟨.pointer (some (ad.add (i.toNat*ie.size))),?_,by simp only[VR,ch];exact⟨_,rfl,fN.drop _ _ _ hm⟩⟩;intro w';simp[Instr.indexAt,asIntOf,bu hu,cG e1,e2,hb,Instr.sureAddr]
   ·cases hc
  ·rename_i o off;split at hc
   ·rename_i hb;cases hc;simp only[VR] at hv;obtain⟨B,b,hB,P5,rfl⟩:=hv;refine⟨.pointer (some ⟨b,off+i.toNat*ie.size,none⟩),?_,by simp only[VR];exact⟨B,b,hB,P5,rfl⟩⟩;intro w';simp[Instr.indexAt,asIntOf,bu hu,cG e1,e2,hb,Instr.sureAddr,add_lit]
   ·cases hc
  ·cases hc
 ·cases hc
def lG (au:List (Nat×TI))(t:TypeId)(x:CV)(f:Nat):Option CV:=
 match assoc au t with
 | none=>none
 | some it=>
  match it.d with
  | .bw fs=>
   match fs[f]? with
   | none=>none
   | some (off,ft)=>
    match assoc au ft with
    | none=>none
    | some ie=>
     if ie.size=0 then none else
     match x with
     | .cA cs=>some (.cA (cs.drop off))
     | .av o p=>some (.av o (p+off))
     | _=>none
  | _=>none
theorem vn {au:List (Nat×TI)}(ht:aB P au){F:Nat→Prop}{t:TypeId}{x c:CV}{v:Value}{f:Nat}(hv:VR w F σ x v)(hc:lG au t x f=some c) :
  ∃ u,(∀ w',(Instr.fieldAt t v f).run P w'=.ok u w')∧VR w F σ c u:=by
 unfold lG at hc;split at hc
 ·cases hc
 rename_i it Qp;have hT:=ht t it Qp;split at hc
 ·rename_i fs hd;split at hc
  ·cases hc
  rename_i off ft hf;split at hc
  ·cases hc
  rename_i ie PS;obtain⟨g,z,e1,e2,_⟩:=(ht ft ie PS).info;obtain⟨fields,hu,RP⟩:=p6 hT hd;have Yb:∃ fl:Field,fields[f]? = some fl∧fl.offset=off∧fl.type=ft:=by
   rw[← RP,List.getElem?_map] at hf;obtain⟨fl,h1,h2⟩:=Option.map_eq_some_iff.1 hf;simp only[Prod.mk.injEq] at h2;exact⟨fl,by simpa using h1,h2⟩
  obtain⟨fl,UZ,rfl,rfl⟩:=Yb;split at hc
  ·cases hc
  rename_i hz;split at hc
  ·rename_i cs;cases hc;simp only[VR,ch] at hv;obtain⟨ad,rfl,hm⟩:=hv;refine⟨.pointer (some (ad.add fl.offset)),?_,by simp only[VR,ch];exact⟨_,rfl,fN.drop _ _ _ hm⟩⟩;intro w';simp[Instr.fieldAt,bu hu,UZ,Instr.sureAddr,fieldPlace,cG e1,e2,hz]
  ·rename_i o p;cases hc;simp only[VR] at hv;obtain⟨B,b,hB,P5,rfl⟩:=hv;refine⟨.pointer (some ⟨b,p+fl.offset,none⟩),?_,by simp only[VR];exact⟨B,b,hB,P5,rfl⟩⟩;intro w';simp[Instr.fieldAt,bu hu,UZ,Instr.sureAddr,fieldPlace,cG e1,e2,hz,add_lit]
  ·cases hc
 ·cases hc
theorem CM {t:TypeId}{i:TI}(hT:cg P t i){F:Nat→Prop}{cs:List CV}{vs:List Value}{c:CV}(h1:aN w F σ cs vs)(h2:cs.all one=true)(off:Nat)(hc:lj i (cs.drop off)=some c) :
  ∃ v,(part t vs.toArray off).run P w=.ok v w∧VR w F σ c v:=by
 obtain⟨f,z,e1,e2,_⟩:=hT.info;have h1':=aN.drop off _ _ h1;have Te:(cs.drop off).all one=true:=by
  rw[List.all_eq_true] at h2 ⊢;exact fun x hx=>h2 x (List.mem_of_mem_drop hx)
 unfold lj at hc;simp only[part,Sem.run_bind,vI hT,Result.andThen_ok];split at hc
 ·rename_i ha;split at hc
  ·rename_i hl;cases hc;rw[ha];refine⟨.agg ((vs.drop off).take i.size).toArray,?_,?_⟩
   ·simp[cG e1,e2,List.take_drop]
   ·simp only[VR];refine⟨_,rfl,aN.take _ _ _ h1',?_⟩;rw[List.all_eq_true] at Te ⊢;exact fun x hx=>Te x (List.mem_of_mem_take hx)
  ·cases hc
 ·rename_i ha;rw[Bool.not_eq_true] at ha;rw[ha];obtain⟨v,k1,k2⟩:=aN.get _ _ h1' 0 c (by rwa [← List.head?_eq_getElem?]);rw[List.getElem?_drop] at k1;refine⟨v,?_,k2⟩;have:vs.toArray[off]? = some v:=by simpa using k1
  simp[this]
def yr (au:List (Nat×TI))(t:TypeId)(x:CV)(f:Nat):Option CV:=
 match assoc au t with
 | none=>none
 | some it=>
  match it.d with
  | .bw fs=>
   match fs[f]? with
   | none=>none
   | some (off,ft)=>
    match assoc au ft with
    | none=>none
    | some ie=>
     match x with
     | .agg cs=>lj ie (cs.drop off)
     | _=>none
  | _=>none
theorem E5 {au:List (Nat×TI)}(ht:aB P au){F:Nat→Prop}{t:TypeId}{x c:CV}{v:Value}{f:Nat}(hv:VR w F σ x v)(hc:yr au t x f=some c) :
  ∃ u,(Instr.field t v f).run P w=.ok u w∧VR w F σ c u:=by
 unfold yr at hc;split at hc
 ·cases hc
 rename_i it Qp;have hT:=ht t it Qp;split at hc
 ·rename_i fs hd;split at hc
  ·cases hc
  rename_i off ft hf;split at hc
  ·cases hc
  rename_i ie PS;obtain⟨fields,hu,RP⟩:=p6 hT hd;have Yb:∃ fl:Field,fields[f]? = some fl∧fl.offset=off∧fl.type=ft:=by
   rw[← RP,List.getElem?_map] at hf;obtain⟨fl,h1,h2⟩:=Option.map_eq_some_iff.1 hf;simp only[Prod.mk.injEq] at h2;exact⟨fl,by simpa using h1,h2⟩
  obtain⟨fl,UZ,rfl,rfl⟩:=Yb;split at hc
  ·rename_i cs;simp only[VR] at hv;obtain⟨vs,rfl,h1,h2⟩:=hv;obtain⟨u,k1,k2⟩:=CM (P:=P) (ht _ _ PS) h1 h2 fl.offset hc;exact⟨u,by simp[Instr.field,bu hu,UZ,asAgg,k1],k2⟩
  ·cases hc
 ·cases hc
def sD (au:List (Nat×TI))(t:TypeId)(x:CV)(i:Int):Option CV:=
 match x with
 | .str s=>match assoc au t with
  | some it=>match it.d with
   | .str=>if 0≤i then (s[i.toNat]?).map fun b=>.int .u8 b.toNat else none
   | _=>none
  | none=>none
 | .agg cs=>match assoc au t with
  | some it=>match it.d with
   | .arr n e=>match assoc au e with
    | some ie=>if 0≤i∧i<n then lj ie (cs.drop (i.toNat*ie.size)) else none
    | none=>none
   | _=>none
  | none=>none
 | _=>none
theorem ll {t:TypeId}{i:TI}(hT:cg P t i)(hd:i.d=.str):P.underlying t=some .string:=by
 obtain⟨d,h1,h2⟩:=hT.AM;rw[hd] at h2;cases d<;>simp only[rh] at h2<;>first | cases h2 | skip
 exact h1
theorem BV {au:List (Nat×TI)}(ht:aB P au){F:Nat→Prop}{t:TypeId}{x c:CV}{v:Value}{i:Int}{k:IntKind}(hv:VR w F σ x v)(hc:sD au t x i=some c) :
  ∃ u,(Instr.index t v (.int k i)).run P w=.ok u w∧VR w F σ c u:=by
 unfold sD at hc;split at hc
 ·rename_i s';split at hc
  ·rename_i it Qp;split at hc
   ·rename_i hd;split at hc
    ·rename_i h0;obtain⟨b,hb,rfl⟩:=Option.map_eq_some_iff.1 hc;simp only[VR] at hv;subst hv;exact⟨.int .u8 b.toNat,by simp[Instr.index,asIntOf,bu (ll (ht t it Qp) hd),h0,hb],dn _ _⟩
    ·cases hc
   ·cases hc
  ·cases hc
 ·rename_i cs;split at hc
  ·rename_i it Qp;split at hc
   ·rename_i n e hd;split at hc
    ·rename_i ie PS;split at hc
     ·rename_i hb;simp only[VR] at hv;obtain⟨vs,rfl,h1,h2⟩:=hv;obtain⟨f,z,e1,e2,_⟩:=(ht e ie PS).info;obtain⟨u,k1,k2⟩:=CM (P:=P) (ht e ie PS) h1 h2 _ hc;exact⟨u,by simp[Instr.index,asIntOf,bu (mM (ht t it Qp) hd),hb,cG e1,e2,k1],k2⟩
     ·cases hc
    ·cases hc
   ·cases hc
  ·cases hc
 ·cases hc
end
end Go.Can
/- Cuts, lengths, least and greatest, composites: what each yields, and that the model yields the same. No function of the program is mentioned here. -/
namespace Go.Can
open Go.RowKit
section
variable {P:Program}{C:Cx}{σ:Nat→Option OB}{s:St}{a:Act}{w:World}
theorem IG {F:Nat→Prop}{A:Option Addr}{cap:Nat}(h:cap≤maxLen):VR w F σ (.az [] 0) (.slice A 0 cap):=by simp[VR,ch];exact⟨A,cap,⟨rfl,rfl⟩,h⟩
def Ko (au:List (Nat×TI))(t:TypeId)(x:CV):Option CV:=
 match assoc au t with
 | none=>none
 | some it=>match it.d,x with
  | .str,.str s=>some (.int .i64 s.size)
  | .sl _,.az _ n=>some (.int .i64 n)
  | .sl _,.bj _ _ n=>some (.int .i64 n)
  | .sl _,.ai=>some (.int .i64 0)
  | .arr n _,_=>some (.int .i64 n)
  | _,_=>none
theorem Km {au:List (Nat×TI)}(ht:aB P au){F:Nat→Prop}{t ty:TypeId}{x c:CV}{v:Value}(hv:VR w F σ x v)(hc:Ko au t x=some c) :
  ∃ u,(Builtin.len_ #[t] ty #[v]).run P w=.ok u w∧VR w F σ c u:=by
 unfold Ko at hc;split at hc
 ·cases hc
 rename_i it Qp;have hT:=ht t it Qp;split at hc
 ·rename_i hd;cases hc;simp only[VR] at hv;subst hv;exact⟨_,by simp[Builtin.len_,bu (ll hT hd),goInt],dn _ _⟩
 ·rename_i e cs n hd;cases hc;simp only[VR,ch] at hv;obtain⟨A,cap,rfl,_⟩:=hv;exact⟨_,by simp[Builtin.len_,bu (dr hT hd),goInt],dn _ _⟩
 ·rename_i e o off n hd;cases hc;simp only[VR] at hv;obtain⟨B,_,hv⟩:=hv;split at hv
  ·obtain⟨rfl,_,rfl⟩:=hv;exact⟨_,by simp[Builtin.len_,bu (dr hT hd),goInt],dn _ _⟩
  ·obtain⟨cap,rfl,_⟩:=hv;exact⟨_,by simp[Builtin.len_,bu (dr hT hd),goInt],dn _ _⟩
 ·rename_i e hd;cases hc;simp only[VR] at hv;subst hv;exact⟨_,by simp[Builtin.len_,bu (dr hT hd),goInt],dn _ _⟩
 ·rename_i n e hd;cases hc;exact⟨_,by simp[Builtin.len_,bu (mM hT hd),goInt],dn _ _⟩
 ·cases hc
def kC (f:Int→Int→Int)(k:IntKind):Int→List CV→Option CV
 | x,[]=>some (.int k x)
 | x,.int _ y::r=>kC f k (f x y) r
 | _,_=>none
def MK (x y:Int):Int:=if y<x then y else x
def imax (x y:Int):Int:=if y > x then y else x
theorem Du {F:Nat→Prop}{k:IntKind}:∀ (cs:List CV) (x:Int) (vs:List Value) (c:CV),aN w F σ cs vs→kC MK k x cs=some c →
  ∃ u,(vs.foldlM Builtin.min2 (.int k x)).run P w=.ok u w∧VR w F σ c u
 | [],x,vs,c,hv,hc=>by
  simp only[aN,kC] at hv hc;subst hv;cases hc;exact⟨_,by simp,dn _ _⟩
 | d::cs,x,vs,c,hv,hc=>by
  unfold kC at hc;split at hc
  ·rename_i e;cases e
  ·rename_i e;cases e;simp only[aN] at hv;obtain⟨v,r,rfl,h1,h2⟩:=hv;simp only[VR] at h1;subst h1;obtain⟨u,k1,k2⟩:=Du cs _ r c h2 hc;exact⟨u,by simp only[List.foldlM_cons,Builtin.min2,Sem.run_bind,Sem.run_pure,Result.andThen_ok];exact k1,k2⟩
  ·cases hc
theorem Dv {F:Nat→Prop}{k:IntKind}:∀ (cs:List CV) (x:Int) (vs:List Value) (c:CV),aN w F σ cs vs→kC imax k x cs=some c →
  ∃ u,(vs.foldlM Builtin.max2 (.int k x)).run P w=.ok u w∧VR w F σ c u
 | [],x,vs,c,hv,hc=>by
  simp only[aN,kC] at hv hc;subst hv;cases hc;exact⟨_,by simp,dn _ _⟩
 | d::cs,x,vs,c,hv,hc=>by
  unfold kC at hc;split at hc
  ·rename_i e;cases e
  ·rename_i e;cases e;simp only[aN] at hv;obtain⟨v,r,rfl,h1,h2⟩:=hv;simp only[VR] at h1;subst h1;obtain⟨u,k1,k2⟩:=Dv cs _ r c h2 hc;exact⟨u,by simp only[List.foldlM_cons,Builtin.max2,Sem.run_bind,Sem.run_pure,Result.andThen_ok];exact k1,k2⟩
  ·cases hc
def dq (au:List (Nat×TI))(t:TypeId):Option TD:=(assoc au t).map (·.d)
def fF (s:St)(x:Option Operand)(d:Nat):Option Nat:=
 match x with
 | none=>some d
 | some o=>match ev s o with
  | some (.int _ i)=>if 0≤i then some i.toNat else none
  | _=>none
def kB (au:List (Nat×TI))(s:St)(t:TypeId)(x:CV)(lo hi:Option Operand):Option CV:=
 match x with
 | .str b=>match dq au t with
  | some .str=>match fF s hi b.size,fF s lo 0 with
   | some h,some l=>if l≤h∧h≤b.size then some (.str (b.extract l h)) else none
   | _,_=>none
  | _=>none
 | .az cs n=>match dq au t with
  | some (.sl e)=>match assoc au e with
   | some ie=>match fF s hi n,fF s lo 0 with
    | some h,some l=>if l≤h∧h≤n then some (.az ((cs.drop (l*ie.size)).take ((h-l)*ie.size)) (h-l)) else none
    | _,_=>none
   | none=>none
  | _=>none
 | .ai=>match dq au t with
  | some (.sl e)=>match assoc au e with
   | some _=>match fF s hi 0,fF s lo 0 with
    | some h,some l=>if l=0∧h=0 then some .ai else none
    | _,_=>none
   | none=>none
  | _=>none
 | .bj o off n=>match dq au t with
  | some (.sl e)=>match assoc au e,assoc s.heap o with
   | some ie,some ob=>match fF s hi n,fF s lo 0 with
    | some h,some l=>if l≤h∧h≤n∧ie.size=ob.sz then (if l=0 then some (.bj o off h) else if h=l then some (.az [] 0) else some (.bj o (off+l*ie.size) (h-l))) else none
    | _,_=>none
   | _,_=>none
  | _=>none
 | .av o f=>match dq au t with
  | some (.arr n e)=>match assoc au e,assoc s.heap o with
   | some _,some ob=>match lo,hi with
    | none,none=>if 0<f∧0<n∧n≤1000000∧ob.sz=0∧f≤ob.cells.length then some (.bj o f n) else none
    | _,_=>none
   | _,_=>none
  | _=>none
 | _=>none
theorem wN (h:aL C σ s a w){x:Option Operand}{d n:Nat}(hb:fF s x d=some n) :
  (x=none∧n=d)∨∃ o k i,x=some o∧a.eval o=.int k i∧0≤i∧n=i.toNat:=by
 unfold fF at hb;split at hb
 ·cases hb;exact .inl ⟨rfl,rfl⟩
 ·rename_i o;split at hb
  ·rename_i k i he;split at hb
   ·rename_i h0;cases hb;have:=bL h he;simp only[VR] at this;exact .inr ⟨o,k,i,rfl,this,h0,rfl⟩
   ·cases hb
  ·cases hb
theorem eA (h:aL C σ s a w){lo hi:Option Operand}{len cap l n:Nat}{isSlice:Bool}(hh:fF s hi len=some n)(hl:fF s lo 0=some l)(h1:l≤n)(h2:n≤cap) :
  (Instr.sliceBounds isSlice len cap (lo.map a.eval) (hi.map a.eval) none).run P w=.ok (l,n,cap) w:=by
 have e1:∀ (k:IntKind) (i:Int) (y:Nat) (code:BoundsCode),0≤i→i.toNat≤y→(Instr.sliceBound (.int k i) y code).run P w=.ok i.toNat w:=fun k i y code h0 h1=>by
  simp only[Instr.sliceBound,asIntOf,pure_bind];rw[if_pos ⟨h0,by omega⟩];rfl
 rcases wN h hh with ⟨rfl,rfl⟩ | ⟨oh,kh,ih,rfl,eh,h0,rfl⟩<;>rcases wN h hl with ⟨rfl,rfl⟩ | ⟨ol,kl,il,rfl,el,h0',rfl⟩
 ·simp[Instr.sliceBounds]
 ·simp[Instr.sliceBounds,el,e1 _ _ _ _ h0' h1]
 ·simp[Instr.sliceBounds,eh,e1 _ _ _ _ h0 h2]
 ·simp[Instr.sliceBounds,eh,el,e1 _ _ _ _ h0 h2,e1 _ _ _ _ h0' h1]
theorem EU {au:List (Nat×TI)}(ht:aB P au)(h:aL C σ s a w){t:TypeId}{x c:CV}{v:Value}{lo hi:Option Operand}(hv:VR w (FB C σ s.heap) σ x v)(hc:kB au s t x lo hi=some c) :
  ∃ u,(Instr.sliceAt t v (lo.map a.eval) (hi.map a.eval) none).run P w=.ok u w∧VR w (FB C σ s.heap) σ c u:=by
 unfold kB at hc;split at hc
 ·rename_i b;split at hc
  ·rename_i hd;obtain⟨it,Qp,hd⟩:=Option.map_eq_some_iff.1 hd;split at hc
   ·rename_i hh l Xd Tb;split at hc
    ·rename_i hb;cases hc;simp only[VR] at hv;subst hv;exact⟨_,by simp[Instr.sliceAt,Instr.slice,bu (ll (ht t it Qp) hd),eA h Xd Tb hb.1 hb.2],yG _⟩
    ·cases hc
   ·cases hc
  ·cases hc
 ·rename_i cs n;split at hc
  ·rename_i e hd;obtain⟨it,Qp,hd⟩:=Option.map_eq_some_iff.1 hd;split at hc
   ·rename_i ie PS;split at hc
    ·rename_i hh l Xd Tb;split at hc
     ·rename_i hb;cases hc;obtain⟨f,z,e1,e2,_⟩:=(ht e ie PS).info;simp only[VR,ch] at hv;obtain⟨A,cap,rfl,h1,h2,h3⟩:=hv;refine⟨.slice (if cap=l then A else A.map (·.add (l*ie.size))) (hh-l) (cap-l),?_,?_⟩
      ·simp[Instr.sliceAt,Instr.slice,bu (dr (ht t it Qp) hd),eA h Xd Tb hb.1 (Nat.le_trans hb.2 h1),cG e1,e2]
      ·simp only[VR,ch];refine⟨_,_,rfl,by omega,by omega,?_⟩;rcases h3 with ⟨h3,rfl⟩ | ⟨ad,rfl,hm⟩
       ·exact .inl ⟨by omega,by simp⟩
       ·by_cases V9:hh=l
        ·exact .inl ⟨by omega,by simp[V9]⟩
        ·refine .inr ⟨ad.add (l*ie.size),?_,fN.take _ _ _ (fN.drop _ _ _ hm)⟩;rw[if_neg yA];rfl
     ·cases hc
    ·cases hc
   ·cases hc
  ·cases hc
 ·split at hc
  ·rename_i e hd;obtain⟨it,Qp,hd⟩:=Option.map_eq_some_iff.1 hd;split at hc
   ·rename_i ie PS;split at hc
    ·rename_i hh l Xd Tb;split at hc
     ·rename_i hb;obtain⟨rfl,rfl⟩:=hb;cases hc;obtain⟨f,z,e1,e2,_⟩:=(ht e ie PS).info;simp only[VR] at hv;subst hv;refine⟨.slice none 0 0,?_,by simp[VR]⟩;simp[Instr.sliceAt,Instr.slice,bu (dr (ht t it Qp) hd),eA h Xd Tb (Nat.le_refl _) (Nat.le_refl _),cG e1]
     ·cases hc
    ·cases hc
   ·cases hc
  ·cases hc
 ·rename_i o off n;split at hc
  ·rename_i e hd;obtain⟨it,Qp,hd⟩:=Option.map_eq_some_iff.1 hd;split at hc
   ·rename_i ie ob PS Rh;split at hc
    ·rename_i hh l Xd Tb;split at hc
     ·rename_i hb;obtain⟨f,z,e1,e2,_⟩:=(ht e ie PS).info;obtain⟨B,hB,PZ,_⟩:=h.obj o ob Rh;simp only[VR] at hv;obtain⟨B',RM,hv⟩:=hv;rw[hB] at RM;cases RM;split at hv
      ·obtain⟨rfl,rfl,rfl⟩:=hv;have:hh=0∧l=0:=by omega
       obtain⟨rfl,rfl⟩:=this;cases hc;rename_i Qf;refine⟨.slice none 0 0,?_,by simp only[VR];exact⟨B,hB,by rw[Qf];simp⟩⟩;simp[Instr.sliceAt,Instr.slice,bu (dr (ht t it Qp) hd),eA h Xd Tb (Nat.le_refl _) (Nat.le_refl _),cG e1]
      ·rename_i b Qf;obtain⟨cap,rfl,h1,h2,h3,h4⟩:=hv;refine⟨.slice (if cap=l then some ⟨b,off,none⟩ else some ((⟨b,off,none⟩:Addr).add (l*ie.size))) (hh-l) (cap-l),?_,?_⟩
       ·simp[Instr.sliceAt,Instr.slice,bu (dr (ht t it Qp) hd),eA h Xd Tb hb.1 (Nat.le_trans hb.2.1 h1),cG e1,e2]
       ·split at hc
        ·rename_i V9;subst V9;cases hc;simp only[VR];refine⟨B,hB,?_⟩;rw[Qf];exact⟨cap,by simp[add_zero],by omega,h2,h3,h4⟩
        ·split at hc
         ·rename_i hl;cases hc;rw[hl,Nat.sub_self];exact IG yA
         ·rename_i V9 hl;cases hc;simp only[VR];refine⟨B,hB,?_⟩;rw[Qf];have hm:(cap-l)*B.sz+l*B.sz=cap*B.sz:=by rw[← Nat.add_mul];congr 1;omega
          rw[if_neg yA,add_lit];have hs:ie.size=B.sz:=by omega
          refine⟨cap-l,rfl,by omega,by omega,by rw[hs];omega,fun h0=>?_⟩;have hz:l*B.sz=0:=by rw[hs] at h0;omega
          have ho:off=0:=by omega
          have:=h4 ho;omega
     ·cases hc
    ·cases hc
   ·cases hc
  ·cases hc
 ·rename_i o f;split at hc
  ·rename_i n e hd;obtain⟨it,Qp,hd⟩:=Option.map_eq_some_iff.1 hd;split at hc
   ·rename_i ie ob PS Rh;split at hc
    ·split at hc
     ·rename_i hb;cases hc;have g2:=mM (ht t it Qp) hd;obtain⟨fi,z,g3,_⟩:=(ht e ie PS).info;obtain⟨B,hB,PZ,_,_,h5⟩:=h.obj o ob Rh;simp only[VR] at hv;obtain⟨B',b,RM,Sp,rfl⟩:=hv;rw[hB] at RM;cases RM;obtain⟨cur,n1,n2,_,_,n5,_⟩:=h5 b Sp;refine⟨.slice (some ⟨b,f,none⟩) n n,?_,?_⟩
      ·have hsb:(Instr.sliceBounds false n n none none none).run P w=.ok (0,n,n) w:=by simp[Instr.sliceBounds]
       have P3:¬ n=0:=by omega
       simp[Instr.sliceAt,bu g2,Instr.sureAddr,hsb,cG g3,P3,add_zero]
      ·simp only[VR];refine⟨B,hB,?_⟩;rw[Sp];exact⟨n,rfl,Nat.le_refl _,by simp only[maxLen];omega,by rw[PZ,hb.2.2.2.1];omega,fun h0=>by omega⟩
     ·cases hc
    ·cases hc
   ·cases hc
  ·cases hc
 ·cases hc
def ic (cells:List CV)(off:Nat)(cs:List CV):List CV:=cells.take off++cs++cells.drop (off+cs.length)
def lT (place:Nat→Option (Nat×Nat))(cells:List CV):List (Nat×CV)→Option (List CV)
 | []=>some cells
 | (i,c)::rest=>
  match place i with
  | none=>none
  | some (off,size)=>if c.cells.length≠size || off+c.cells.length > cells.length then none else lT place (ic cells off c.cells) rest
theorem wB {α:Type}:∀ (xs:List α) (j off:Nat) (arr:Array α),(xs.zipIdx j).foldl (fun cs (c,k)=>cs.setIfInBounds (off+k) c) arr =
  (if off+j+xs.length≤arr.size then (arr.toList.take (off+j)++xs++arr.toList.drop (off+j+xs.length)).toArray else (xs.zipIdx j).foldl (fun cs (c,k)=>cs.setIfInBounds (off+k) c) arr)
 | [],j,off,arr=>by simp
 | x::xs,j,off,arr=>by
  split
  ·rename_i hl;simp only[List.zipIdx_cons,List.foldl_cons];rw[wB xs (j+1) off];have hs:off+(j+1)+xs.length≤(arr.setIfInBounds (off+j) x).size:=by simp at hl ⊢;omega
   rw[if_pos hs];have PQ:off+j<arr.toList.length:=by simp at hl ⊢;omega
   congr 1;apply List.ext_getElem?;intro n;simp only[Array.toList_setIfInBounds,List.append_assoc];simp only[List.getElem?_append,List.getElem?_take,List.getElem?_drop,List.getElem?_set,List.length_take,List.length_set,List.length_cons,List.cons_append,List.getElem?_cons];have T8:off+j+(xs.length+1)≤arr.toList.length:=by simpa using hl
   simp only[Nat.min_eq_left (show off+(j+1)≤arr.toList.length by omega),Nat.min_eq_left (show off+j≤arr.toList.length by omega)];by_cases h1:n<off+j
   ·simp[show n<off+(j+1) by omega,h1,show off+j≠n by omega]
   ·by_cases h2:n=off+j
    ·subst h2;have X1:off+j<arr.size:=by simpa using PQ
     simp[show off+j<off+(j+1) by omega,X1]
    ·have h3:¬ n<off+(j+1):=by omega
     simp only[h1,h3,if_false,show n-(off+j)≠0 by omega];have e1:n-(off+j)-1=n-(off+(j+1)):=by omega
     rw[e1];split
     ·rfl
     ·have e2:off+(j+1)+xs.length+(n-(off+(j+1))-xs.length)=off+j+(xs.length+1)+(n-(off+(j+1))-xs.length):=by omega
      rw[e2,if_neg yA]
  ·rfl
theorem sy {F:Nat→Prop}{cells:List CV}{vs:List Value}(h:aN w F σ cells vs)(off:Nat){cs:List CV}{us:List Value}(hc:aN w F σ cs us) :
  aN w F σ (ic cells off cs) (vs.take off++us++vs.drop (off+us.length)):=by
 unfold ic;rw[← aN.length _ _ hc];exact aN.append _ _ _ _ (aN.append _ _ _ _ (aN.take _ _ _ h) hc) (aN.drop _ _ _ h)
theorem pC {cells cs:List CV}(off:Nat)(h1:cells.all one=true)(h2:cs.all one=true):(ic cells off cs).all one=true:=by
 unfold ic;rw[List.all_eq_true] at h1 h2 ⊢;intro x hx;rcases List.mem_append.1 hx with hx | hx
 ·rcases List.mem_append.1 hx with hx | hx
  ·exact h1 x (List.mem_of_mem_take hx)
  ·exact h2 x hx
 ·exact h1 x (List.mem_of_mem_drop hx)
def dx:CV→Bool
 | .dH _=>true
 | .iter _ _ _=>true
 | _=>false
def gI (s:St):List (Nat×Operand)→Option (List (Nat×CV))
 | []=>some []
 | (i,x)::r=>match ev s x,gI s r with
  | some c,some cs=>if dx c then none else some ((i,c)::cs)
  | _,_=>none
theorem mI {F:Nat→Prop}(place:Nat→Option (Nat×Nat)):∀ (ps:List (Nat×CV)) (qs:List (Nat×Value)) (cells out:List CV) (vs:Array Value),ps.length=qs.length →
  (∀ (j:Nat) i c,ps[j]? = some (i,c)→dx c=false∧∃ v,qs[j]? = some (i,v)∧VR w F σ c v)→aN w F σ cells vs.toList→cells.all one=true→lT place cells ps=some out →
  ∃ us,Instr.fill place vs qs=some us∧aN w F σ out us.toList∧out.all one=true
 | [],[],cells,out,vs,_,_,h1,h2,hc=>by simp only[lT] at hc;cases hc;exact⟨vs,rfl,h1,h2⟩
 | [],_::_,_,_,_,hl,_,_,_,_=>by simp at hl
 | _::_,[],_,_,_,hl,_,_,_,_=>by simp at hl
 | (i,c)::ps,(i',v)::qs,cells,out,vs,hl,hq,h1,h2,hc=>by
  obtain⟨hn,v',Uy,hr⟩:=hq 0 i c rfl;simp at Uy;obtain⟨rfl,rfl⟩:=Uy;simp only[lT] at hc;split at hc
  ·cases hc
  rename_i off size hp;split at hc
  ·cases hc
  rename_i PZ;simp only[ne_eq,gt_iff_lt,Bool.or_eq_true,decide_eq_true_eq,not_or,Decidable.not_not,Nat.not_lt] at PZ;have hf:=VR.flat c v (fun cs e=>by subst e;simp[dx] at hn) (fun k s p e=>by subst e;simp[dx] at hn) hr;have hlen:v.cells.size=c.cells.length:=by simpa using aN.length _ _ hf.1
  have hlc:vs.size=cells.length:=by simpa using aN.length _ _ h1
  obtain⟨us,k1,k2⟩:=mI place ps qs (ic cells off c.cells) out (vs.toList.take off++v.cells.toList++vs.toList.drop (off+v.cells.toList.length)).toArray (by simpa using hl)
   (fun j i c hj=>by simpa using hq (j+1) i c (by simpa using hj)) (by simpa using sy h1 off hf.1) (pC off h2 hf.2) hc
  refine⟨us,?_,k2⟩;simp only[Instr.fill,hp];rw[if_neg Ru];have:=wB v.cells.toList 0 off vs;rw[if_pos Ru] at this;have e:v.cells.zipIdx.foldl (fun cs (x:Value×Nat)=>cs.setIfInBounds (off+x.2) x.1) vs=(v.cells.toList.zipIdx 0).foldl (fun cs (x:Value×Nat)=>cs.setIfInBounds (off+x.2) x.1) vs:=by
   rw[← Array.foldl_toList,Array.toList_zipIdx]
  rw[e,this]
  simpa using k1
theorem lg (h:aL C σ s a w):∀ (xs:List (Nat×Operand)) (ps:List (Nat×CV)),gI s xs=some ps→ps.length=xs.length∧
  ∀ (j:Nat) i c,ps[j]? = some (i,c)→dx c=false∧∃ v,(xs.map fun (p:Nat×Operand)=>(p.1,a.eval p.2))[j]? = some (i,v)∧VR w (FB C σ s.heap) σ c v
 | [],ps,hp=>by simp only[gI] at hp;cases hp;exact⟨rfl,by simp⟩
 | (i,x)::r,ps,hp=>by
  simp only[gI] at hp;split at hp
  ·rename_i c cs h1 h2;split at hp
   ·cases hp
   ·rename_i hn;cases hp;obtain⟨k1,k2⟩:=lg h r cs h2;refine⟨by simp[k1],fun j i' c' hj=>?_⟩
    cases j with
    | zero=>simp at hj;obtain⟨rfl,rfl⟩:=hj;exact⟨by simpa using hn,a.eval x,rfl,bL h h1⟩
    | succ j=>simpa using k2 j i' c' (by simpa using hj)
  ·cases hp
def nk (au:List (Nat×TI)):List (Nat×TypeId)→Option (List (Nat×Nat))
 | []=>some []
 | (off,t)::r=>match assoc au t,nk au r with
  | some i,some ps=>some ((off,i.size)::ps)
  | _,_=>none
def qy (au:List (Nat×TI))(s:St)(t:TypeId)(parts:List (Nat×Operand)):Option CV:=
 match assoc au t with
 | none=>none
 | some it=>match it.d with
  | .bw fs=>match nk au fs,gI s parts with
   | some ps,some cs=>(lT (ps[·]?) it.zero cs).map CV.agg
   | _,_=>none
  | .arr _ e=>match assoc au e,gI s parts with
   | some ie,some cs=>(lT (fun i=>some (i*ie.size,ie.size)) it.zero cs).map CV.agg
   | _,_=>none
  | _=>none
theorem iI {t:TypeId}{f:TypeInfo}{z:Value}(h:P.info? t=some f)(hz:f.zero=some z)(w:World):(zeroValue t).run P w=.ok z w:=by
 simp[zeroValue,s7 h,hz]
theorem mj {au:List (Nat×TI)}(ht:aB P au):∀ (fs:List Field) (ps:List (Nat×Nat)),nk au (fs.map fun f=>(f.offset,f.type))=some ps →
  (fs.mapM fun f=>do pure (f.offset,← sizeOf f.type):Sem (List (Nat×Nat))).run P w=.ok ps w
 | [],ps,h=>by simp only[List.map_nil,nk] at h;cases h;simp
 | f::fs,ps,h=>by
  simp only[List.map_cons,nk] at h;split at h
  ·rename_i i Rv h1 h2;cases h;obtain⟨g,z,e1,e2,_⟩:=(ht _ i h1).info;have:=mj ht fs Rv h2;simp only[List.mapM_cons,Sem.run_bind,cG e1,e2,this,Result.andThen_ok,Sem.run_pure]
  ·cases h
theorem E8 {au:List (Nat×TI)}(ht:aB P au)(h:aL C σ s a w){t:TypeId}{parts:List (Nat×Operand)}{c:CV}(hc:qy au s t parts=some c) :
  ∃ u,(Instr.build t (parts.map fun (p:Nat×Operand)=>(p.1,a.eval p.2)).toArray).run P w=.ok u w∧VR w (FB C σ s.heap) σ c u:=by
 unfold qy at hc;split at hc
 ·cases hc
 rename_i it Qp;have hT:=ht t it Qp;obtain⟨f,z,e1,_,_,e4,e5⟩:=hT.info;obtain⟨k1,k2⟩:=cN (w:=w) (F:=FB C σ s.heap) _ _ e5;split at hc
 ·rename_i fs hd;obtain⟨fields,hu,rfl⟩:=p6 hT hd;split at hc
  ·rename_i ps cs Rc Ql;obtain⟨out,hf,rfl⟩:=Option.map_eq_some_iff.1 hc;obtain⟨l1,l2⟩:=lg h _ _ Ql;obtain⟨us,m1,m2,m3⟩:=mI (ps[·]?) cs (parts.map fun p=>(p.1,a.eval p.2)) it.zero out z.cells (by simpa using l1) l2 (aN.cm _ _ k1) k2 hf;refine⟨.agg us,?_,by simp only[VR];exact⟨us.toList,by simp,m2,m3⟩⟩;have hm:=mj (w:=w) ht fields.toList ps Rc;have XU:(fields.mapM fun f=>do pure (f.offset,← sizeOf f.type):Sem (Array (Nat×Nat))).run P w=.ok ps.toArray w:=by
    rw[Array.mapM_eq_mapM_toList];simp only[Sem.run_map,hm,Result.andThen_ok]
   simp only[Instr.build,Sem.run_bind,iI e1 e4,bu hu,Result.andThen_ok,XU,List.getElem?_toArray,m1];rfl
  ·cases hc
 ·rename_i n e hd;split at hc
  ·rename_i ie cs PS Ql;obtain⟨out,hf,rfl⟩:=Option.map_eq_some_iff.1 hc;obtain⟨l1,l2⟩:=lg h _ _ Ql;obtain⟨g,zz,g1,g2,_⟩:=(ht e ie PS).info;obtain⟨us,m1,m2,m3⟩:=mI _ cs (parts.map fun p=>(p.1,a.eval p.2)) it.zero out z.cells (by simpa using l1) l2 (aN.cm _ _ k1) k2 hf;refine⟨.agg us,?_,by simp only[VR];exact⟨us.toList,by simp,m2,m3⟩⟩;simp only[Instr.build,Sem.run_bind,iI e1 e4,bu (mM hT hd),Result.andThen_ok,cG g1,g2,m1];rfl
  ·cases hc
 ·cases hc
end
end Go.Can
