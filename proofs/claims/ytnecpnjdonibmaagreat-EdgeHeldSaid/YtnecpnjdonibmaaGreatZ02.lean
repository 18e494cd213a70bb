/- The operations that turn nothing in memory: what each yields -/
import Derived.Test.YtnecpnjdonibmaaGreatZ01
namespace Go.Can
open Go.RowKit
def oV (w:World)(F:Nat→Prop)(σ:Nat→Option OB)(cs:List CV)(ad:Addr):Prop:=
 ∃ us:List Value,aS w F σ cs us∧cs.all one=true∧∀ j u,us[j]? = some u→w.cell? (ad.add j)=some u
theorem oV.drop {w:World}{F:Nat→Prop}{σ:Nat→Option OB}{cs:List CV}{ad:Addr}(k:Nat)(h:oV w F σ cs ad):oV w F σ (cs.drop k) (ad.add k):=by
 obtain⟨us,h1,h2,h3⟩:=h;refine⟨us.drop k,aS.drop k cs us h1,?_,fun j u hu=>?_⟩
 ·rw[List.all_eq_true] at h2 ⊢;exact fun x hx=>h2 x (List.mem_of_mem_drop hx)
 ·rw[List.getElem?_drop] at hu;rw[add_add];exact h3 _ u hu
def fJ (s:St):CV→Option (List CV)
 | .cG cs=>some cs
 | .ax o off=>(assoc s.heap o).map (·.cells.drop off)
 | _=>none
section
variable {P:Program}{C:Cx}{σ:Nat→Option OB}{s:St}{a:Act}{w:World}
theorem HY (h:aM C σ s a w){o:Nat}{ob:Ob}{B:OB}{b:Nat}(ho:assoc s.heap o=some ob)(hB:σ o=some B)(hb:B.kj=some b) :
  oV w (FB C σ s.heap) σ ob.cells ⟨b,0,none⟩:=by
 obtain⟨B',e1,_,_,e4,e5⟩:=h.obj o ob ho;rw[hB] at e1;cases e1;obtain⟨cur,k1,k2,k3,k4,k5,k6⟩:=e5 b hb;refine⟨_,k6,e4,fun j u hu=>?_⟩;rw[add_lit,Nat.zero_add,cell_of_row w b j cur _ _ k1];rw[List.getElem?_take] at hu;split at hu
 ·simpa using hu
 ·cases hu
theorem AY (h:aM C σ s a w){c:CV}{v:Value}{cs:List CV}(hv:VR w (FB C σ s.heap) σ c v)(hm:fJ s c=some cs) :
  ∃ ad,v=.pointer (some ad)∧oV w (FB C σ s.heap) σ cs ad:=by
 unfold fJ at hm;split at hm
 ·rename_i QQ;cases hm;simp only[VR,cq] at hv;obtain⟨ad,e,hm⟩:=hv;obtain⟨us,h1,_,h3⟩:=gD.cells _ _ hm;exact⟨ad,e,us,aS.cz _ _ h1,gD.MT _ _ hm,h3⟩
 ·rename_i o off;obtain⟨ob,ho,rfl⟩:=Option.map_eq_some_iff.1 hm;simp only[VR] at hv;obtain⟨B,b,hB,hb,rfl⟩:=hv;refine⟨_,rfl,?_⟩;have:=(HY h ho hB hb).drop off;rw[add_lit,Nat.zero_add] at this;exact this
 ·cases hm
theorem xy {t:TypeId}{i:TI}(hT:cu P t i)(w:World):(isAgg t).run P w=.ok i.agg w:=by
 obtain⟨d,h1,h2⟩:=hT.BV;simp only[isAgg,Sem.run_bind,bu h1,Result.andThen_ok];unfold TI.agg;rw[← h2];cases d<;>rfl
def mW (i:TI)(cs:List CV):Option CV:=
 if i.agg then (if i.size≤cs.length then some (.agg (cs.take i.size)) else none) else cs.head?
theorem BG {t:TypeId}{i:TI}(hT:cu P t i){F:Nat→Prop}{cs:List CV}{ad:Addr}{c:CV}(hm:oV w F σ cs ad)(hc:mW i cs=some c) :
  ∃ v,(loadVar t ad).run P w=.ok v w∧VR w F σ c v:=by
 obtain⟨us,h1,h2,h3⟩:=hm;obtain⟨f,z,e1,e2,_⟩:=hT.info;unfold mW at hc;simp only[loadVar,Sem.run_bind,xy hT,Result.andThen_ok];split at hc
 ·rename_i ha;split at hc
  ·rename_i hl;cases hc;rw[ha];have hlen:=aS.length _ _ h1;have h4:(loadCells ad i.size).run P w=.ok (us.take i.size).toArray w:=by
    have:=run_loadCells_list (P:=P) w ad (us.take i.size) (fun j v hv=>by
     rw[List.getElem?_take] at hv;split at hv
     ·exact h3 j v hv
     ·cases hv)
    rwa [List.length_take,Nat.min_eq_left yA] at this
   refine⟨.agg (us.take i.size).toArray,by simp[cP e1,e2,h4],?_⟩;simp only[VR];refine⟨us.take i.size,rfl,aS.take _ _ _ h1,?_⟩;rw[List.all_eq_true] at h2 ⊢;exact fun x hx=>h2 x (List.mem_of_mem_take hx)
  ·cases hc
 ·rename_i ha;rw[Bool.not_eq_true] at ha;rw[ha];obtain⟨v,k1,k2⟩:=aS.get _ _ h1 0 c (by rwa [← List.head?_eq_getElem?]);have:=h3 0 v k1;rw[add_zero] at this;exact⟨v,by simp[this],k2⟩
def zO (ak:List (Nat×TI))(t:TypeId)(x:CV)(i:Int):Option CV:=
 match assoc ak t with
 | none=>none
 | some it=>
  match it.d with
  | .sl e=>
   match assoc ak e with
   | none=>none
   | some ie=>
    match x with
    | .aA cs n=>if 0≤i∧i<n then some (.cG (cs.drop (i.toNat*ie.size))) else none
    | .bl o off n=>if 0≤i∧i<n then some (.ax o (off+i.toNat*ie.size)) else none
    | _=>none
  | .arr n e=>
   match assoc ak e with
   | none=>none
   | some ie=>
    match x with
    | .cG cs=>if 0≤i∧i<n then some (.cG (cs.drop (i.toNat*ie.size))) else none
    | .ax o off=>if 0≤i∧i<n then some (.ax o (off+i.toNat*ie.size)) else none
    | _=>none
  | _=>none
theorem dJ {t e:TypeId}{i:TI}(hT:cu P t i)(hd:i.d=.sl e):P.underlying t=some (.slice e):=by
 obtain⟨d,h1,h2⟩:=hT.BV;rw[hd] at h2;cases d<;>simp only[tw] at h2<;>first | cases h2 | skip
 exact h1
theorem oz {t e:TypeId}{n:Nat}{i:TI}(hT:cu P t i)(hd:i.d=.arr n e):P.underlying t=some (.array n e):=by
 obtain⟨d,h1,h2⟩:=hT.BV;rw[hd] at h2;cases d<;>simp only[tw] at h2<;>first | cases h2 | skip
 exact h1
theorem rG {t:TypeId}{fs:List (Nat×TypeId)}{i:TI}(hT:cu P t i)(hd:i.d=.bw fs):∃ fields,P.underlying t=some (.struct fields)∧fields.toList.map (fun f=>(f.offset,f.type))=fs:=by
 obtain⟨d,h1,h2⟩:=hT.BV;rw[hd] at h2;cases d<;>simp only[tw] at h2<;>first | cases h2 | skip
 exact⟨_,h1,rfl⟩
theorem G1 {t:TypeId}{i:TI}(hT:cu P t i)(hd:i.d=.bool):P.underlying t=some .bool:=by
 obtain⟨d,h1,h2⟩:=hT.BV;rw[hd] at h2;cases d<;>simp only[tw] at h2<;>first | cases h2 | skip
 exact h1
theorem yg {ak:List (Nat×TI)}(ht:aG P ak){F:Nat→Prop}{t:TypeId}{x c:CV}{v:Value}{i:Int}{k:IntKind}(hv:VR w F σ x v)(hc:zO ak t x i=some c) :
  ∃ u,(∀ w',(Instr.indexAt t v (.int k i)).run P w'=.ok u w')∧VR w F σ c u:=by
 unfold zO at hc;split at hc
 ·cases hc
 rename_i it PG;have hT:=ht t it PG;split at hc
 ·rename_i e hd;split at hc
  ·cases hc
  rename_i ie O6;obtain⟨f,z,e1,e2,_⟩:=(ht e ie O6).info;have hu:=dJ hT hd;split at hc
  ·rename_i cs n;split at hc
   ·rename_i hb;cases hc;simp only[VR,cq] at hv;obtain⟨A,cap,rfl,_,_,h4⟩:=hv;rcases h4 with ⟨h4,_⟩ | ⟨ad,rfl,hm⟩
    ·omega
    ·refine⟨.pointer (some (ad.add (i.toNat*ie.size))),?_,by simp only[VR,cq];exact⟨_,rfl,gD.drop _ _ _ hm⟩⟩;intro w';simp[Instr.indexAt,asIntOf,bu hu,cP e1,e2,hb]
   ·cases hc
  ·rename_i o off n;split at hc
   ·rename_i hb;cases hc;simp only[VR] at hv;obtain⟨B,hB,hv⟩:=hv;split at hv
    ·obtain⟨rfl,_,h0⟩:=hv;omega
    ·rename_i b Po;obtain⟨cap,rfl,_⟩:=hv;refine⟨.pointer (some ⟨b,off+i.toNat*ie.size,none⟩),?_,by simp only[VR];exact⟨B,b,hB,Po,rfl⟩⟩;intro w';simp[Instr.indexAt,asIntOf,bu hu,cP e1,e2,hb,add_lit]
   ·cases hc
  ·cases hc
 ·rename_i n e hd;split at hc
  ·cases hc
  rename_i ie O6;obtain⟨f,z,e1,e2,_⟩:=(ht e ie O6).info;have hu:=oz hT hd;split at hc
  ·rename_i cs;split at hc
   ·rename_i hb;cases hc;simp only[VR,cq] at hv;obtain⟨ad,rfl,hm⟩:=hv;refine⟨.pointer (some (ad.add (i.toNat*ie.size))),?_,by simp only[VR,cq];exact⟨_,rfl,gD.drop _ _ _ hm⟩⟩;intro w';simp[Instr.indexAt,asIntOf,bu hu,cP e1,e2,hb,Instr.sureAddr]
   ·cases hc
  ·rename_i o off;split at hc
   ·rename_i hb;cases hc;simp only[VR] at hv;obtain⟨B,b,hB,Po,rfl⟩:=hv;refine⟨.pointer (some ⟨b,off+i.toNat*ie.size,none⟩),?_,by simp only[VR];exact⟨B,b,hB,Po,rfl⟩⟩;intro w';simp[Instr.indexAt,asIntOf,bu hu,cP e1,e2,hb,Instr.sureAddr,add_lit]
   ·cases hc
  ·cases hc
 ·cases hc
def mF (ak:List (Nat×TI))(t:TypeId)(x:CV)(f:Nat):Option CV:=
 match assoc ak t with
 | none=>none
 | some it=>
  match it.d with
  | .bw fs=>
   match fs[f]? with
   | none=>none
   | some (off,ft)=>
    match assoc ak ft with
    | none=>none
    | some ie=>
     if ie.size=0 then none else
     match x with
     | .cG cs=>some (.cG (cs.drop off))
     | .ax o p=>some (.ax o (p+off))
     | _=>none
  | _=>none
theorem pA {ak:List (Nat×TI)}(ht:aG P ak){F:Nat→Prop}{t:TypeId}{x c:CV}{v:Value}{f:Nat}(hv:VR w F σ x v)(hc:mF ak t x f=some c) :
  ∃ u,(∀ w',(Instr.fieldAt t v f).run P w'=.ok u w')∧VR w F σ c u:=by
 unfold mF at hc;split at hc
 ·cases hc
 rename_i it PG;have hT:=ht t it PG;split at hc
 ·rename_i fs hd;split at hc
  ·cases hc
  rename_i off ft hf;split at hc
  ·cases hc
  rename_i ie O6;obtain⟨g,z,e1,e2,_⟩:=(ht ft ie O6).info;obtain⟨fields,hu,Q4⟩:=rG hT hd;have Xm:∃ fl:Field,fields[f]? = some fl∧fl.offset=off∧fl.type=ft:=by
   rw[← Q4,List.getElem?_map] at hf;obtain⟨fl,h1,h2⟩:=Option.map_eq_some_iff.1 hf;simp only[Prod.mk.injEq] at h2;exact⟨fl,by simpa using h1,h2⟩
  obtain⟨fl,Uj,rfl,rfl⟩:=Xm;split at hc
  ·cases hc
  rename_i hz;split at hc
  ·rename_i cs;cases hc;simp only[VR,cq] at hv;obtain⟨ad,rfl,hm⟩:=hv;refine⟨.pointer (some (ad.add fl.offset)),?_,by simp only[VR,cq];exact⟨_,rfl,gD.drop _ _ _ hm⟩⟩;intro w';simp[Instr.fieldAt,bu hu,Uj,Instr.sureAddr,fieldPlace,cP e1,e2,hz]
  ·rename_i o p;cases hc;simp only[VR] at hv;obtain⟨B,b,hB,Po,rfl⟩:=hv;refine⟨.pointer (some ⟨b,p+fl.offset,none⟩),?_,by simp only[VR];exact⟨B,b,hB,Po,rfl⟩⟩;intro w';simp[Instr.fieldAt,bu hu,Uj,Instr.sureAddr,fieldPlace,cP e1,e2,hz,add_lit]
  ·cases hc
 ·cases hc
theorem DR {t:TypeId}{i:TI}(hT:cu P t i){F:Nat→Prop}{cs:List CV}{vs:List Value}{c:CV}(h1:aS w F σ cs vs)(h2:cs.all one=true)(off:Nat)(hc:mW i (cs.drop off)=some c) :
  ∃ v,(part t vs.toArray off).run P w=.ok v w∧VR w F σ c v:=by
 obtain⟨f,z,e1,e2,_⟩:=hT.info;have h1':=aS.drop off _ _ h1;have So:(cs.drop off).all one=true:=by
  rw[List.all_eq_true] at h2 ⊢;exact fun x hx=>h2 x (List.mem_of_mem_drop hx)
 unfold mW at hc;simp only[part,Sem.run_bind,xy hT,Result.andThen_ok];split at hc
 ·rename_i ha;split at hc
  ·rename_i hl;cases hc;rw[ha];refine⟨.agg ((vs.drop off).take i.size).toArray,?_,?_⟩
   ·simp[cP e1,e2,List.take_drop]
   ·simp only[VR];refine⟨_,rfl,aS.take _ _ _ h1',?_⟩;rw[List.all_eq_true] at So ⊢;exact fun x hx=>So x (List.mem_of_mem_take hx)
  ·cases hc
 ·rename_i ha;rw[Bool.not_eq_true] at ha;rw[ha];obtain⟨v,k1,k2⟩:=aS.get _ _ h1' 0 c (by rwa [← List.head?_eq_getElem?]);rw[List.getElem?_drop] at k1;refine⟨v,?_,k2⟩;have:vs.toArray[off]? = some v:=by simpa using k1
  simp[this]
def zR (ak:List (Nat×TI))(t:TypeId)(x:CV)(f:Nat):Option CV:=
 match assoc ak t with
 | none=>none
 | some it=>
  match it.d with
  | .bw fs=>
   match fs[f]? with
   | none=>none
   | some (off,ft)=>
    match assoc ak ft with
    | none=>none
    | some ie=>
     match x with
     | .agg cs=>mW ie (cs.drop off)
     | _=>none
  | _=>none
theorem F7 {ak:List (Nat×TI)}(ht:aG P ak){F:Nat→Prop}{t:TypeId}{x c:CV}{v:Value}{f:Nat}(hv:VR w F σ x v)(hc:zR ak t x f=some c) :
  ∃ u,(Instr.field t v f).run P w=.ok u w∧VR w F σ c u:=by
 unfold zR at hc;split at hc
 ·cases hc
 rename_i it PG;have hT:=ht t it PG;split at hc
 ·rename_i fs hd;split at hc
  ·cases hc
  rename_i off ft hf;split at hc
  ·cases hc
  rename_i ie O6;obtain⟨fields,hu,Q4⟩:=rG hT hd;have Xm:∃ fl:Field,fields[f]? = some fl∧fl.offset=off∧fl.type=ft:=by
   rw[← Q4,List.getElem?_map] at hf;obtain⟨fl,h1,h2⟩:=Option.map_eq_some_iff.1 hf;simp only[Prod.mk.injEq] at h2;exact⟨fl,by simpa using h1,h2⟩
  obtain⟨fl,Uj,rfl,rfl⟩:=Xm;split at hc
  ·rename_i cs;simp only[VR] at hv;obtain⟨vs,rfl,h1,h2⟩:=hv;obtain⟨u,k1,k2⟩:=DR (P:=P) (ht _ _ O6) h1 h2 fl.offset hc;exact⟨u,by simp[Instr.field,bu hu,Uj,asAgg,k1],k2⟩
  ·cases hc
 ·cases hc
def uC (ak:List (Nat×TI))(t:TypeId)(x:CV)(i:Int):Option CV:=
 match x with
 | .str s=>match assoc ak t with
  | some it=>match it.d with
   | .str=>if 0≤i then (s[i.toNat]?).map fun b=>.int .u8 b.toNat else none
   | _=>none
  | none=>none
 | .agg cs=>match assoc ak t with
  | some it=>match it.d with
   | .arr n e=>match assoc ak e with
    | some ie=>if 0≤i∧i<n then mW ie (cs.drop (i.toNat*ie.size)) else none
    | none=>none
   | _=>none
  | none=>none
 | _=>none
theorem ma {t:TypeId}{i:TI}(hT:cu P t i)(hd:i.d=.str):P.underlying t=some .string:=by
 obtain⟨d,h1,h2⟩:=hT.BV;rw[hd] at h2;cases d<;>simp only[tw] at h2<;>first | cases h2 | skip
 exact h1
theorem C5 {ak:List (Nat×TI)}(ht:aG P ak){F:Nat→Prop}{t:TypeId}{x c:CV}{v:Value}{i:Int}{k:IntKind}(hv:VR w F σ x v)(hc:uC ak t x i=some c) :
  ∃ u,(Instr.index t v (.int k i)).run P w=.ok u w∧VR w F σ c u:=by
 unfold uC at hc;split at hc
 ·rename_i s';split at hc
  ·rename_i it PG;split at hc
   ·rename_i hd;split at hc
    ·rename_i h0;obtain⟨b,hb,rfl⟩:=Option.map_eq_some_iff.1 hc;simp only[VR] at hv;subst hv;exact⟨.int .u8 b.toNat,by simp[Instr.index,asIntOf,bu (ma (ht t it PG) hd),h0,hb],dM _ _⟩
    ·cases hc
   ·cases hc
  ·cases hc
 ·rename_i cs;split at hc
  ·rename_i it PG;split at hc
   ·rename_i n e hd;split at hc
    ·rename_i ie O6;split at hc
     ·rename_i hb;simp only[VR] at hv;obtain⟨vs,rfl,h1,h2⟩:=hv;obtain⟨f,z,e1,e2,_⟩:=(ht e ie O6).info;obtain⟨u,k1,k2⟩:=DR (P:=P) (ht e ie O6) h1 h2 _ hc;exact⟨u,by simp[Instr.index,asIntOf,bu (oz (ht t it PG) hd),hb,cP e1,e2,k1],k2⟩
     ·cases hc
    ·cases hc
   ·cases hc
  ·cases hc
 ·cases hc
end
end Go.Can
/- Cuts, lengths, least and greatest, composites: what each yields, and that the model yields the same. No function of the program is mentioned here. -/
namespace Go.Can
open Go.RowKit
section
variable {P:Program}{C:Cx}{σ:Nat→Option OB}{s:St}{a:Act}{w:World}
theorem JC {F:Nat→Prop}{A:Option Addr}{cap:Nat}(h:cap≤maxLen):VR w F σ (.aA [] 0) (.slice A 0 cap):=by simp[VR,cq];exact⟨A,cap,⟨rfl,rfl⟩,h⟩
def K4 (ak:List (Nat×TI))(t:TypeId)(x:CV):Option CV:=
 match assoc ak t with
 | none=>none
 | some it=>match it.d,x with
  | .str,.str s=>some (.int .i64 s.size)
  | .sl _,.aA _ n=>some (.int .i64 n)
  | .sl _,.bl _ _ n=>some (.int .i64 n)
  | .sl _,.aa=>some (.int .i64 0)
  | .arr n _,_=>some (.int .i64 n)
  | _,_=>none
theorem K3 {ak:List (Nat×TI)}(ht:aG P ak){F:Nat→Prop}{t ty:TypeId}{x c:CV}{v:Value}(hv:VR w F σ x v)(hc:K4 ak t x=some c) :
  ∃ u,(Builtin.len_ #[t] ty #[v]).run P w=.ok u w∧VR w F σ c u:=by
 unfold K4 at hc;split at hc
 ·cases hc
 rename_i it PG;have hT:=ht t it PG;split at hc
 ·rename_i hd;cases hc;simp only[VR] at hv;subst hv;exact⟨_,by simp[Builtin.len_,bu (ma hT hd),goInt],dM _ _⟩
 ·rename_i e cs n hd;cases hc;simp only[VR,cq] at hv;obtain⟨A,cap,rfl,_⟩:=hv;exact⟨_,by simp[Builtin.len_,bu (dJ hT hd),goInt],dM _ _⟩
 ·rename_i e o off n hd;cases hc;simp only[VR] at hv;obtain⟨B,_,hv⟩:=hv;split at hv
  ·obtain⟨rfl,_,rfl⟩:=hv;exact⟨_,by simp[Builtin.len_,bu (dJ hT hd),goInt],dM _ _⟩
  ·obtain⟨cap,rfl,_⟩:=hv;exact⟨_,by simp[Builtin.len_,bu (dJ hT hd),goInt],dM _ _⟩
 ·rename_i e hd;cases hc;simp only[VR] at hv;subst hv;exact⟨_,by simp[Builtin.len_,bu (dJ hT hd),goInt],dM _ _⟩
 ·rename_i n e hd;cases hc;exact⟨_,by simp[Builtin.len_,bu (oz hT hd),goInt],dM _ _⟩
 ·cases hc
def lA (f:Int→Int→Int)(k:IntKind):Int→List CV→Option CV
 | x,[]=>some (.int k x)
 | x,.int _ y::r=>lA f k (f x y) r
 | _,_=>none
def Nh (x y:Int):Int:=if y<x then y else x
def imax (x y:Int):Int:=if y > x then y else x
theorem EB {F:Nat→Prop}{k:IntKind}:∀ (cs:List CV) (x:Int) (vs:List Value) (c:CV),aS w F σ cs vs→lA Nh k x cs=some c →
  ∃ u,(vs.foldlM Builtin.min2 (.int k x)).run P w=.ok u w∧VR w F σ c u
 | [],x,vs,c,hv,hc=>by
  simp only[aS,lA] at hv hc;subst hv;cases hc;exact⟨_,by simp,dM _ _⟩
 | d::cs,x,vs,c,hv,hc=>by
  unfold lA at hc;split at hc
  ·rename_i e;cases e
  ·rename_i e;cases e;simp only[aS] at hv;obtain⟨v,r,rfl,h1,h2⟩:=hv;simp only[VR] at h1;subst h1;obtain⟨u,k1,k2⟩:=EB cs _ r c h2 hc;exact⟨u,by simp only[List.foldlM_cons,Builtin.min2,Sem.run_bind,Sem.run_pure,Result.andThen_ok];exact k1,k2⟩
  ·cases hc
theorem EC {F:Nat→Prop}{k:IntKind}:∀ (cs:List CV) (x:Int) (vs:List Value) (c:CV),aS w F σ cs vs→lA imax k x cs=some c →
  ∃ u,(vs.foldlM Builtin.max2 (.int k x)).run P w=.ok u w∧VR w F σ c u
 | [],x,vs,c,hv,hc=>by
  simp only[aS,lA] at hv hc;subst hv;cases hc;exact⟨_,by simp,dM _ _⟩
 | d::cs,x,vs,c,hv,hc=>by
  unfold lA at hc;split at hc
  ·rename_i e;cases e
  ·rename_i e;cases e;simp only[aS] at hv;obtain⟨v,r,rfl,h1,h2⟩:=hv;simp only[VR] at h1;subst h1;obtain⟨u,k1,k2⟩:=EC cs _ r c h2 hc;exact⟨u,by simp only[List.foldlM_cons,Builtin.max2,Sem.run_bind,Sem.run_pure,Result.andThen_ok];exact k1,k2⟩
  ·cases hc
def dE (ak:List (Nat×TI))(t:TypeId):Option TD:=(assoc ak t).map (·.d)
def gu (s:St)(x:Option Operand)(d:Nat):Option Nat:=
 match x with
 | none=>some d
 | some o=>match ev s o with
  | some (.int _ i)=>if 0≤i then some i.toNat else none
  | _=>none
def lz (ak:List (Nat×TI))(s:St)(t:TypeId)(x:CV)(lo hi:Option Operand):Option CV:=
 match x with
 | .str b=>match dE ak t with
  | some .str=>match gu s hi b.size,gu s lo 0 with
   | some h,some l=>if l≤h∧h≤b.size then some (.str (b.extract l h)) else none
   | _,_=>none
  | _=>none
 | .aA cs n=>match dE ak t with
  | some (.sl e)=>match assoc ak e with
   | some ie=>match gu s hi n,gu s lo 0 with
    | some h,some l=>if l≤h∧h≤n then some (.aA ((cs.drop (l*ie.size)).take ((h-l)*ie.size)) (h-l)) else none
    | _,_=>none
   | none=>none
  | _=>none
 | .aa=>match dE ak t with
  | some (.sl e)=>match assoc ak e with
   | some _=>match gu s hi 0,gu s lo 0 with
    | some h,some l=>if l=0∧h=0 then some .aa else none
    | _,_=>none
   | none=>none
  | _=>none
 | .bl o off n=>match dE ak t with
  | some (.sl e)=>match assoc ak e,assoc s.heap o with
   | some ie,some ob=>match gu s hi n,gu s lo 0 with
    | some h,some l=>if l≤h∧h≤n∧ie.size=ob.sz then (if l=0 then some (.bl o off h) else if h=l then some (.aA [] 0) else some (.bl o (off+l*ie.size) (h-l))) else none
    | _,_=>none
   | _,_=>none
  | _=>none
 | .ax o f=>match dE ak t with
  | some (.arr n e)=>match assoc ak e,assoc s.heap o with
   | some _,some ob=>match lo,hi with
    | none,none=>if 0<f∧0<n∧n≤1000000∧ob.sz=0∧f≤ob.cells.length then some (.bl o f n) else none
    | _,_=>none
   | _,_=>none
  | _=>none
 | _=>none
theorem yh (h:aM C σ s a w){x:Option Operand}{d n:Nat}(hb:gu s x d=some n) :
  (x=none∧n=d)∨∃ o k i,x=some o∧a.eval o=.int k i∧0≤i∧n=i.toNat:=by
 unfold gu at hb;split at hb
 ·cases hb;exact .inl ⟨rfl,rfl⟩
 ·rename_i o;split at hb
  ·rename_i k i he;split at hb
   ·rename_i h0;cases hb;have:=bK h he;simp only[VR] at this;exact .inr ⟨o,k,i,rfl,this,h0,rfl⟩
   ·cases hb
  ·cases hb
theorem fj (h:aM C σ s a w){lo hi:Option Operand}{len cap l n:Nat}{isSlice:Bool}(hh:gu s hi len=some n)(hl:gu s lo 0=some l)(h1:l≤n)(h2:n≤cap) :
  (Instr.sliceBounds isSlice len cap (lo.map a.eval) (hi.map a.eval) none).run P w=.ok (l,n,cap) w:=by
 have e1:∀ (k:IntKind) (i:Int) (y:Nat) (code:BoundsCode),0≤i→i.toNat≤y→(Instr.sliceBound (.int k i) y code).run P w=.ok i.toNat w:=fun k i y code h0 h1=>by
  simp only[Instr.sliceBound,asIntOf,pure_bind];rw[if_pos ⟨h0,by omega⟩];rfl
 rcases yh h hh with ⟨rfl,rfl⟩ | ⟨oh,kh,ih,rfl,eh,h0,rfl⟩<;>rcases yh h hl with ⟨rfl,rfl⟩ | ⟨ol,kl,il,rfl,el,h0',rfl⟩
 ·simp[Instr.sliceBounds]
 ·simp[Instr.sliceBounds,el,e1 _ _ _ _ h0' h1]
 ·simp[Instr.sliceBounds,eh,e1 _ _ _ _ h0 h2]
 ·simp[Instr.sliceBounds,eh,el,e1 _ _ _ _ h0 h2,e1 _ _ _ _ h0' h1]
theorem F2 {ak:List (Nat×TI)}(ht:aG P ak)(h:aM C σ s a w){t:TypeId}{x c:CV}{v:Value}{lo hi:Option Operand}(hv:VR w (FB C σ s.heap) σ x v)(hc:lz ak s t x lo hi=some c) :
  ∃ u,(Instr.sliceAt t v (lo.map a.eval) (hi.map a.eval) none).run P w=.ok u w∧VR w (FB C σ s.heap) σ c u:=by
 unfold lz at hc;split at hc
 ·rename_i b;split at hc
  ·rename_i hd;obtain⟨it,PG,hd⟩:=Option.map_eq_some_iff.1 hd;split at hc
   ·rename_i hh l Wp SR;split at hc
    ·rename_i hb;cases hc;simp only[VR] at hv;subst hv;exact⟨_,by simp[Instr.sliceAt,Instr.slice,bu (ma (ht t it PG) hd),fj h Wp SR hb.1 hb.2],zZ _⟩
    ·cases hc
   ·cases hc
  ·cases hc
 ·rename_i cs n;split at hc
  ·rename_i e hd;obtain⟨it,PG,hd⟩:=Option.map_eq_some_iff.1 hd;split at hc
   ·rename_i ie O6;split at hc
    ·rename_i hh l Wp SR;split at hc
     ·rename_i hb;cases hc;obtain⟨f,z,e1,e2,_⟩:=(ht e ie O6).info;simp only[VR,cq] at hv;obtain⟨A,cap,rfl,h1,h2,h3⟩:=hv;refine⟨.slice (if cap=l then A else A.map (·.add (l*ie.size))) (hh-l) (cap-l),?_,?_⟩
      ·simp[Instr.sliceAt,Instr.slice,bu (dJ (ht t it PG) hd),fj h Wp SR hb.1 (Nat.le_trans hb.2 h1),cP e1,e2]
      ·simp only[VR,cq];refine⟨_,_,rfl,by omega,by omega,?_⟩;rcases h3 with ⟨h3,rfl⟩ | ⟨ad,rfl,hm⟩
       ·exact .inl ⟨by omega,by simp⟩
       ·by_cases Uf:hh=l
        ·exact .inl ⟨by omega,by simp[Uf]⟩
        ·refine .inr ⟨ad.add (l*ie.size),?_,gD.take _ _ _ (gD.drop _ _ _ hm)⟩;rw[if_neg yA];rfl
     ·cases hc
    ·cases hc
   ·cases hc
  ·cases hc
 ·split at hc
  ·rename_i e hd;obtain⟨it,PG,hd⟩:=Option.map_eq_some_iff.1 hd;split at hc
   ·rename_i ie O6;split at hc
    ·rename_i hh l Wp SR;split at hc
     ·rename_i hb;obtain⟨rfl,rfl⟩:=hb;cases hc;obtain⟨f,z,e1,e2,_⟩:=(ht e ie O6).info;simp only[VR] at hv;subst hv;refine⟨.slice none 0 0,?_,by simp[VR]⟩;simp[Instr.sliceAt,Instr.slice,bu (dJ (ht t it PG) hd),fj h Wp SR (Nat.le_refl _) (Nat.le_refl _),cP e1]
     ·cases hc
    ·cases hc
   ·cases hc
  ·cases hc
 ·rename_i o off n;split at hc
  ·rename_i e hd;obtain⟨it,PG,hd⟩:=Option.map_eq_some_iff.1 hd;split at hc
   ·rename_i ie ob O6 QX;split at hc
    ·rename_i hh l Wp SR;split at hc
     ·rename_i hb;obtain⟨f,z,e1,e2,_⟩:=(ht e ie O6).info;obtain⟨B,hB,O9,_⟩:=h.obj o ob QX;simp only[VR] at hv;obtain⟨B',Q3,hv⟩:=hv;rw[hB] at Q3;cases Q3;split at hv
      ·obtain⟨rfl,rfl,rfl⟩:=hv;have:hh=0∧l=0:=by omega
       obtain⟨rfl,rfl⟩:=this;cases hc;rename_i P4;refine⟨.slice none 0 0,?_,by simp only[VR];exact⟨B,hB,by rw[P4];simp⟩⟩;simp[Instr.sliceAt,Instr.slice,bu (dJ (ht t it PG) hd),fj h Wp SR (Nat.le_refl _) (Nat.le_refl _),cP e1]
      ·rename_i b P4;obtain⟨cap,rfl,h1,h2,h3,h4⟩:=hv;refine⟨.slice (if cap=l then some ⟨b,off,none⟩ else some ((⟨b,off,none⟩:Addr).add (l*ie.size))) (hh-l) (cap-l),?_,?_⟩
       ·simp[Instr.sliceAt,Instr.slice,bu (dJ (ht t it PG) hd),fj h Wp SR hb.1 (Nat.le_trans hb.2.1 h1),cP e1,e2]
       ·split at hc
        ·rename_i Uf;subst Uf;cases hc;simp only[VR];refine⟨B,hB,?_⟩;rw[P4];exact⟨cap,by simp[add_zero],by omega,h2,h3,h4⟩
        ·split at hc
         ·rename_i hl;cases hc;rw[hl,Nat.sub_self];exact JC yA
         ·rename_i Uf hl;cases hc;simp only[VR];refine⟨B,hB,?_⟩;rw[P4];have hm:(cap-l)*B.sz+l*B.sz=cap*B.sz:=by rw[← Nat.add_mul];congr 1;omega
          rw[if_neg yA,add_lit];have hs:ie.size=B.sz:=by omega
          refine⟨cap-l,rfl,by omega,by omega,by rw[hs];omega,fun h0=>?_⟩;have hz:l*B.sz=0:=by rw[hs] at h0;omega
          have ho:off=0:=by omega
          have:=h4 ho;omega
     ·cases hc
    ·cases hc
   ·cases hc
  ·cases hc
 ·rename_i o f;split at hc
  ·rename_i n e hd;obtain⟨it,PG,hd⟩:=Option.map_eq_some_iff.1 hd;split at hc
   ·rename_i ie ob O6 QX;split at hc
    ·split at hc
     ·rename_i hb;cases hc;have g2:=oz (ht t it PG) hd;obtain⟨fi,z,g3,_⟩:=(ht e ie O6).info;obtain⟨B,hB,O9,_,_,h5⟩:=h.obj o ob QX;simp only[VR] at hv;obtain⟨B',b,Q3,R0,rfl⟩:=hv;rw[hB] at Q3;cases Q3;obtain⟨cur,n1,n2,_,_,n5,_⟩:=h5 b R0;refine⟨.slice (some ⟨b,f,none⟩) n n,?_,?_⟩
      ·have hsb:(Instr.sliceBounds false n n none none none).run P w=.ok (0,n,n) w:=by simp[Instr.sliceBounds]
       have Pf:¬ n=0:=by omega
       simp[Instr.sliceAt,bu g2,Instr.sureAddr,hsb,cP g3,Pf,add_zero]
      ·simp only[VR];refine⟨B,hB,?_⟩;rw[R0];exact⟨n,rfl,Nat.le_refl _,by simp only[maxLen];omega,by rw[O9,hb.2.2.2.1];omega,fun h0=>by omega⟩
     ·cases hc
    ·cases hc
   ·cases hc
  ·cases hc
 ·cases hc
def fD (cells:List CV)(off:Nat)(cs:List CV):List CV:=cells.take off++cs++cells.drop (off+cs.length)
def l7 (place:Nat→Option (Nat×Nat))(cells:List CV):List (Nat×CV)→Option (List CV)
 | []=>some cells
 | (i,c)::rest=>
  match place i with
  | none=>none
  | some (off,size)=>if c.cells.length≠size || off+c.cells.length > cells.length then none else l7 place (fD cells off c.cells) rest
theorem x6 {α:Type}:∀ (xs:List α) (j off:Nat) (arr:Array α),(xs.zipIdx j).foldl (fun cs (c,k)=>cs.setIfInBounds (off+k) c) arr =
  (if off+j+xs.length≤arr.size then (arr.toList.take (off+j)++xs++arr.toList.drop (off+j+xs.length)).toArray else (xs.zipIdx j).foldl (fun cs (c,k)=>cs.setIfInBounds (off+k) c) arr)
 | [],j,off,arr=>by simp
 | x::xs,j,off,arr=>by
  split
  ·rename_i hl;simp only[List.zipIdx_cons,List.foldl_cons];rw[x6 xs (j+1) off];have hs:off+(j+1)+xs.length≤(arr.setIfInBounds (off+j) x).size:=by simp at hl ⊢;omega
   rw[if_pos hs];have O1:off+j<arr.toList.length:=by simp at hl ⊢;omega
   congr 1;apply List.ext_getElem?;intro n;simp only[Array.toList_setIfInBounds,List.append_assoc];simp only[List.getElem?_append,List.getElem?_take,List.getElem?_drop,List.getElem?_set,List.length_take,List.length_set,List.length_cons,List.cons_append,List.getElem?_cons];have RS:off+j+(xs.length+1)≤arr.toList.length:=by simpa using hl
   simp only[Nat.min_eq_left (show off+(j+1)≤arr.toList.length by omega),Nat.min_eq_left (show off+j≤arr.toList.length by omega)];by_cases h1:n<off+j
   ·simp[show n<off+(j+1) by omega,h1,show off+j≠n by omega]
   ·by_cases h2:n=off+j
    ·subst h2;have Xd:off+j<arr.size:=by simpa using O1
     simp[show off+j<off+(j+1) by omega,Xd]
    ·have h3:¬ n<off+(j+1):=by omega
     simp only[h1,h3,if_false,show n-(off+j)≠0 by omega];have e1:n-(off+j)-1=n-(off+(j+1)):=by omega
     rw[e1];split
     ·rfl
     ·have e2:off+(j+1)+xs.length+(n-(off+(j+1))-xs.length)=off+j+(xs.length+1)+(n-(off+(j+1))-xs.length):=by omega
      rw[e2,if_neg yA]
  ·rfl
theorem uA {F:Nat→Prop}{cells:List CV}{vs:List Value}(h:aS w F σ cells vs)(off:Nat){cs:List CV}{us:List Value}(hc:aS w F σ cs us) :
  aS w F σ (fD cells off cs) (vs.take off++us++vs.drop (off+us.length)):=by
 unfold fD;rw[← aS.length _ _ hc];exact aS.append _ _ _ _ (aS.append _ _ _ _ (aS.take _ _ _ h) hc) (aS.drop _ _ _ h)
theorem qO {cells cs:List CV}(off:Nat)(h1:cells.all one=true)(h2:cs.all one=true):(fD cells off cs).all one=true:=by
 unfold fD;rw[List.all_eq_true] at h1 h2 ⊢;intro x hx;rcases List.mem_append.1 hx with hx | hx
 ·rcases List.mem_append.1 hx with hx | hx
  ·exact h1 x (List.mem_of_mem_take hx)
  ·exact h2 x hx
 ·exact h1 x (List.mem_of_mem_drop hx)
def dP:CV→Bool
 | .dS _=>true
 | .iter _ _ _=>true
 | _=>false
def gL (s:St):List (Nat×Operand)→Option (List (Nat×CV))
 | []=>some []
 | (i,x)::r=>match ev s x,gL s r with
  | some c,some cs=>if dP c then none else some ((i,c)::cs)
  | _,_=>none
theorem oc {F:Nat→Prop}(place:Nat→Option (Nat×Nat)):∀ (ps:List (Nat×CV)) (qs:List (Nat×Value)) (cells out:List CV) (vs:Array Value),ps.length=qs.length →
  (∀ (j:Nat) i c,ps[j]? = some (i,c)→dP c=false∧∃ v,qs[j]? = some (i,v)∧VR w F σ c v)→aS w F σ cells vs.toList→cells.all one=true→l7 place cells ps=some out →
  ∃ us,Instr.fill place vs qs=some us∧aS w F σ out us.toList∧out.all one=true
 | [],[],cells,out,vs,_,_,h1,h2,hc=>by simp only[l7] at hc;cases hc;exact⟨vs,rfl,h1,h2⟩
 | [],_::_,_,_,_,hl,_,_,_,_=>by simp at hl
 | _::_,[],_,_,_,hl,_,_,_,_=>by simp at hl
 | (i,c)::ps,(i',v)::qs,cells,out,vs,hl,hq,h1,h2,hc=>by
  obtain⟨hn,v',RJ,hr⟩:=hq 0 i c rfl;simp at RJ;obtain⟨rfl,rfl⟩:=RJ;simp only[l7] at hc;split at hc
  ·cases hc
  rename_i off size hp;split at hc
  ·cases hc
  rename_i O9;simp only[ne_eq,gt_iff_lt,Bool.or_eq_true,decide_eq_true_eq,not_or,Decidable.not_not,Nat.not_lt] at O9;have hf:=VR.flat c v (fun cs e=>by subst e;simp[dP] at hn) (fun k s p e=>by subst e;simp[dP] at hn) hr;have hlen:v.cells.size=c.cells.length:=by simpa using aS.length _ _ hf.1
  have hlc:vs.size=cells.length:=by simpa using aS.length _ _ h1
  obtain⟨us,k1,k2⟩:=oc place ps qs (fD cells off c.cells) out (vs.toList.take off++v.cells.toList++vs.toList.drop (off+v.cells.toList.length)).toArray (by simpa using hl)
   (fun j i c hj=>by simpa using hq (j+1) i c (by simpa using hj)) (by simpa using uA h1 off hf.1) (qO off h2 hf.2) hc
  refine⟨us,?_,k2⟩;simp only[Instr.fill,hp];rw[if_neg QS];have:=x6 v.cells.toList 0 off vs;rw[if_pos QS] at this;have e:v.cells.zipIdx.foldl (fun cs (x:Value×Nat)=>cs.setIfInBounds (off+x.2) x.1) vs=(v.cells.toList.zipIdx 0).foldl (fun cs (x:Value×Nat)=>cs.setIfInBounds (off+x.2) x.1) vs:=by
   rw[← Array.foldl_toList,Array.toList_zipIdx]
  rw[e,this]
  simpa using k1
theorem l6 (h:aM C σ s a w):∀ (xs:List (Nat×Operand)) (ps:List (Nat×CV)),gL s xs=some ps→ps.length=xs.length∧
  ∀ (j:Nat) i c,ps[j]? = some (i,c)→dP c=false∧∃ v,(xs.map fun (p:Nat×Operand)=>(p.1,a.eval p.2))[j]? = some (i,v)∧VR w (FB C σ s.heap) σ c v
 | [],ps,hp=>by simp only[gL] at hp;cases hp;exact⟨rfl,by simp⟩
 | (i,x)::r,ps,hp=>by
  simp only[gL] at hp;split at hp
  ·rename_i c cs h1 h2;split at hp
   ·cases hp
   ·rename_i hn;cases hp;obtain⟨k1,k2⟩:=l6 h r cs h2;refine⟨by simp[k1],fun j i' c' hj=>?_⟩
    cases j with
    | zero=>simp at hj;obtain⟨rfl,rfl⟩:=hj;exact⟨by simpa using hn,a.eval x,rfl,bK h h1⟩
    | succ j=>simpa using k2 j i' c' (by simpa using hj)
  ·cases hp
def oP (ak:List (Nat×TI)):List (Nat×TypeId)→Option (List (Nat×Nat))
 | []=>some []
 | (off,t)::r=>match assoc ak t,oP ak r with
  | some i,some ps=>some ((off,i.size)::ps)
  | _,_=>none
def sC (ak:List (Nat×TI))(s:St)(t:TypeId)(parts:List (Nat×Operand)):Option CV:=
 match assoc ak t with
 | none=>none
 | some it=>match it.d with
  | .bw fs=>match oP ak fs,gL s parts with
   | some ps,some cs=>(l7 (ps[·]?) it.zero cs).map CV.agg
   | _,_=>none
  | .arr _ e=>match assoc ak e,gL s parts with
   | some ie,some cs=>(l7 (fun i=>some (i*ie.size,ie.size)) it.zero cs).map CV.agg
   | _,_=>none
  | _=>none
theorem jj {t:TypeId}{f:TypeInfo}{z:Value}(h:P.info? t=some f)(hz:f.zero=some z)(w:World):(zeroValue t).run P w=.ok z w:=by
 simp[zeroValue,uW h,hz]
theorem nI {ak:List (Nat×TI)}(ht:aG P ak):∀ (fs:List Field) (ps:List (Nat×Nat)),oP ak (fs.map fun f=>(f.offset,f.type))=some ps →
  (fs.mapM fun f=>do pure (f.offset,← sizeOf f.type):Sem (List (Nat×Nat))).run P w=.ok ps w
 | [],ps,h=>by simp only[List.map_nil,oP] at h;cases h;simp
 | f::fs,ps,h=>by
  simp only[List.map_cons,oP] at h;split at h
  ·rename_i i QK h1 h2;cases h;obtain⟨g,z,e1,e2,_⟩:=(ht _ i h1).info;have:=nI ht fs QK h2;simp only[List.mapM_cons,Sem.run_bind,cP e1,e2,this,Result.andThen_ok,Sem.run_pure]
  ·cases h
theorem Ga {ak:List (Nat×TI)}(ht:aG P ak)(h:aM C σ s a w){t:TypeId}{parts:List (Nat×Operand)}{c:CV}(hc:sC ak s t parts=some c) :
  ∃ u,(Instr.build t (parts.map fun (p:Nat×Operand)=>(p.1,a.eval p.2)).toArray).run P w=.ok u w∧VR w (FB C σ s.heap) σ c u:=by
 unfold sC at hc;split at hc
 ·cases hc
 rename_i it PG;have hT:=ht t it PG;obtain⟨f,z,e1,_,_,e4,e5⟩:=hT.info;obtain⟨k1,k2⟩:=cW (w:=w) (F:=FB C σ s.heap) _ _ e5;split at hc
 ·rename_i fs hd;obtain⟨fields,hu,rfl⟩:=rG hT hd;split at hc
  ·rename_i ps cs QN PE;obtain⟨out,hf,rfl⟩:=Option.map_eq_some_iff.1 hc;obtain⟨l1,l2⟩:=l6 h _ _ PE;obtain⟨us,m1,m2,m3⟩:=oc (ps[·]?) cs (parts.map fun p=>(p.1,a.eval p.2)) it.zero out z.cells (by simpa using l1) l2 (aS.cz _ _ k1) k2 hf;refine⟨.agg us,?_,by simp only[VR];exact⟨us.toList,by simp,m2,m3⟩⟩;have hm:=nI (w:=w) ht fields.toList ps QN;have UQ:(fields.mapM fun f=>do pure (f.offset,← sizeOf f.type):Sem (Array (Nat×Nat))).run P w=.ok ps.toArray w:=by
    rw[Array.mapM_eq_mapM_toList];simp only[Sem.run_map,hm,Result.andThen_ok]
   simp only[Instr.build,Sem.run_bind,jj e1 e4,bu hu,Result.andThen_ok,UQ,List.getElem?_toArray,m1];rfl
  ·cases hc
 ·rename_i n e hd;split at hc
  ·rename_i ie cs O6 PE;obtain⟨out,hf,rfl⟩:=Option.map_eq_some_iff.1 hc;obtain⟨l1,l2⟩:=l6 h _ _ PE;obtain⟨g,zz,g1,g2,_⟩:=(ht e ie O6).info;obtain⟨us,m1,m2,m3⟩:=oc _ cs (parts.map fun p=>(p.1,a.eval p.2)) it.zero out z.cells (by simpa using l1) l2 (aS.cz _ _ k1) k2 hf;refine⟨.agg us,?_,by simp only[VR];exact⟨us.toList,by simp,m2,m3⟩⟩;simp only[Instr.build,Sem.run_bind,jj e1 e4,bu (oz hT hd),Result.andThen_ok,cP g1,g2,m1];rfl
  ·cases hc
 ·cases hc
end
end Go.Can
