/- The operations that turn nothing in memory: what each yields -/
import Derived.Test.YtlkmbdfhdknlgaaGreatDoorZ01
namespace Go.Can
open Go.RowKit
def oG (w:World)(F:Nat→Prop)(σ:Nat→Option OB)(cs:List CV)(ad:Addr):Prop:=
 ∃ us:List Value,aT w F σ cs us∧cs.all one=true∧∀ j u,us[j]? = some u→w.cell? (ad.add j)=some u
theorem oG.drop {w:World}{F:Nat→Prop}{σ:Nat→Option OB}{cs:List CV}{ad:Addr}(k:Nat)(h:oG w F σ cs ad):oG w F σ (cs.drop k) (ad.add k):=by
 obtain⟨us,h1,h2,h3⟩:=h;refine⟨us.drop k,aT.drop k cs us h1,?_,fun j u hu=>?_⟩
 ·rw[List.all_eq_true] at h2 ⊢;exact fun x hx=>h2 x (List.mem_of_mem_drop hx)
 ·rw[List.getElem?_drop] at hu;rw[add_add];exact h3 _ u hu
def gF (s:St):CV→Option (List CV)
 | .cF cs=>some cs
 | .aq o off=>(assoc s.heap o).map (·.cells.drop off)
 | _=>none
section
variable {P:Program}{C:Cx}{σ:Nat→Option OB}{s:St}{a:Act}{w:World}
theorem G0 (h:aK C σ s a w){o:Nat}{ob:Ob}{B:OB}{b:Nat}(ho:assoc s.heap o=some ob)(hB:σ o=some B)(hb:B.jI=some b) :
  oG w (FB C σ s.heap) σ ob.cells ⟨b,0,none⟩:=by
 obtain⟨B',e1,_,_,e4,e5⟩:=h.obj o ob ho;rw[hB] at e1;cases e1;obtain⟨cur,k1,k2,k3,k4,k5,k6⟩:=e5 b hb;refine⟨_,k6,e4,fun j u hu=>?_⟩;rw[add_lit,Nat.zero_add,cell_of_row w b j cur _ _ k1];rw[List.getElem?_take] at hu;split at hu
 ·simpa using hu
 ·cases hu
theorem Am (h:aK C σ s a w){c:CV}{v:Value}{cs:List CV}(hv:VR w (FB C σ s.heap) σ c v)(hm:gF s c=some cs) :
  ∃ ad,v=.pointer (some ad)∧oG w (FB C σ s.heap) σ cs ad:=by
 unfold gF at hm;split at hm
 ·rename_i PO;cases hm;simp only[VR,bZ] at hv;obtain⟨ad,e,hm⟩:=hv;obtain⟨us,h1,_,h3⟩:=fa.cells _ _ hm;exact⟨ad,e,us,aT.cA _ _ h1,fa.LX _ _ hm,h3⟩
 ·rename_i o off;obtain⟨ob,ho,rfl⟩:=Option.map_eq_some_iff.1 hm;simp only[VR] at hv;obtain⟨B,b,hB,hb,rfl⟩:=hv;refine⟨_,rfl,?_⟩;have:=(G0 h ho hB hb).drop off;rw[add_lit,Nat.zero_add] at this;exact this
 ·cases hm
theorem wR {t:TypeId}{i:TI}(hT:cm P t i)(w:World):(isAgg t).run P w=.ok i.agg w:=by
 obtain⟨d,h1,h2⟩:=hT.Bw;simp only[isAgg,Sem.run_bind,bC h1,Result.andThen_ok];unfold TI.agg;rw[← h2];cases d<;>rfl
def lW (i:TI)(cs:List CV):Option CV:=
 if i.agg then (if i.size≤cs.length then some (.agg (cs.take i.size)) else none) else cs.head?
theorem Bd {t:TypeId}{i:TI}(hT:cm P t i){F:Nat→Prop}{cs:List CV}{ad:Addr}{c:CV}(hm:oG w F σ cs ad)(hc:lW i cs=some c) :
  ∃ v,(loadVar t ad).run P w=.ok v w∧VR w F σ c v:=by
 obtain⟨us,h1,h2,h3⟩:=hm;obtain⟨f,z,e1,e2,_⟩:=hT.info;unfold lW at hc;simp only[loadVar,Sem.run_bind,wR hT,Result.andThen_ok];split at hc
 ·rename_i ha;split at hc
  ·rename_i hl;cases hc;rw[ha];have hlen:=aT.length _ _ h1;have h4:(loadCells ad i.size).run P w=.ok (us.take i.size).toArray w:=by
    have:=run_loadCells_list (P:=P) w ad (us.take i.size) (fun j v hv=>by
     rw[List.getElem?_take] at hv;split at hv
     ·exact h3 j v hv
     ·cases hv)
    rwa [List.length_take,Nat.min_eq_left yA] at this
   refine⟨.agg (us.take i.size).toArray,by simp[cL e1,e2,h4],?_⟩;simp only[VR];refine⟨us.take i.size,rfl,aT.take _ _ _ h1,?_⟩;rw[List.all_eq_true] at h2 ⊢;exact fun x hx=>h2 x (List.mem_of_mem_take hx)
  ·cases hc
 ·rename_i ha;rw[Bool.not_eq_true] at ha;rw[ha];obtain⟨v,k1,k2⟩:=aT.get _ _ h1 0 c (by rwa [← List.head?_eq_getElem?]);have:=h3 0 v k1;rw[add_zero] at this;exact⟨v,by simp[this],k2⟩
def y4 (av:List (Nat×TI))(t:TypeId)(x:CV)(i:Int):Option CV:=
 match assoc av t with
 | none=>none
 | some it=>
  match it.d with
  | .sl e=>
   match assoc av e with
   | none=>none
   | some ie=>
    match x with
    | .az cs n=>if 0≤i∧i<n then some (.cF (cs.drop (i.toNat*ie.size))) else none
    | .bp o off n=>if 0≤i∧i<n then some (.aq o (off+i.toNat*ie.size)) else none
    | _=>none
  | .arr n e=>
   match assoc av e with
   | none=>none
   | some ie=>
    match x with
    | .cF cs=>if 0≤i∧i<n then some (.cF (cs.drop (i.toNat*ie.size))) else none
    | .aq o off=>if 0≤i∧i<n then some (.aq o (off+i.toNat*ie.size)) else none
    | _=>none
  | _=>none
theorem dK {t e:TypeId}{i:TI}(hT:cm P t i)(hd:i.d=.sl e):P.underlying t=some (.slice e):=by
 obtain⟨d,h1,h2⟩:=hT.Bw;rw[hd] at h2;cases d<;>simp only[sT] at h2<;>first | cases h2 | skip
 exact h1
theorem nN {t e:TypeId}{n:Nat}{i:TI}(hT:cm P t i)(hd:i.d=.arr n e):P.underlying t=some (.array n e):=by
 obtain⟨d,h1,h2⟩:=hT.Bw;rw[hd] at h2;cases d<;>simp only[sT] at h2<;>first | cases h2 | skip
 exact h1
theorem ru {t:TypeId}{fs:List (Nat×TypeId)}{i:TI}(hT:cm P t i)(hd:i.d=.bk fs):∃ fields,P.underlying t=some (.struct fields)∧fields.toList.map (fun f=>(f.offset,f.type))=fs:=by
 obtain⟨d,h1,h2⟩:=hT.Bw;rw[hd] at h2;cases d<;>simp only[sT] at h2<;>first | cases h2 | skip
 exact⟨_,h1,rfl⟩
theorem Gc {t:TypeId}{i:TI}(hT:cm P t i)(hd:i.d=.bool):P.underlying t=some .bool:=by
 obtain⟨d,h1,h2⟩:=hT.Bw;rw[hd] at h2;cases d<;>simp only[sT] at h2<;>first | cases h2 | skip
 exact h1
theorem Fq {av:List (Nat×TI)}(ht:aF P av){F:Nat→Prop}{t:TypeId}{x c:CV}{v:Value}{i:Int}{k:IntKind}(hv:VR w F σ x v)(hc:y4 av t x i=some c) :
  ∃ u,(∀ w',(Instr.indexAt t v (.int k i)).run P w'=.ok u w')∧VR w F σ c u:=by
 unfold y4 at hc;split at hc
 ·cases hc
 rename_i it Oq;have hT:=ht t it Oq;split at hc
 ·rename_i e hd;split at hc
  ·cases hc
  rename_i ie Oe;obtain⟨f,z,e1,e2,_⟩:=(ht e ie Oe).info;have hu:=dK hT hd;split at hc
  ·rename_i cs n;split at hc
   ·rename_i hb;cases hc;simp only[VR,bZ] at hv;obtain⟨A,cap,rfl,_,_,h4⟩:=hv;rcases h4 with ⟨h4,_⟩ | ⟨ad,rfl,hm⟩
    ·omega
    ·refine⟨.pointer (some (ad.add (i.toNat*ie.size))),?_,by simp only[VR,bZ];exact⟨_,rfl,fa.drop _ _ _ hm⟩⟩;intro w';simp[Instr.indexAt,asIntOf,bC hu,cL e1,e2,hb]
   ·cases hc
  ·rename_i o off n;split at hc
   ·rename_i hb;cases hc;simp only[VR] at hv;obtain⟨B,hB,hv⟩:=hv;split at hv
    ·obtain⟨rfl,_,h0⟩:=hv;omega
    ·rename_i b Oy;obtain⟨cap,rfl,_⟩:=hv;refine⟨.pointer (some ⟨b,off+i.toNat*ie.size,none⟩),?_,by simp only[VR];exact⟨B,b,hB,Oy,rfl⟩⟩;intro w';simp[Instr.indexAt,asIntOf,bC hu,cL e1,e2,hb,add_lit]
   ·cases hc
  ·cases hc
 ·rename_i n e hd;split at hc
  ·cases hc
  rename_i ie Oe;obtain⟨f,z,e1,e2,_⟩:=(ht e ie Oe).info;have hu:=nN hT hd;split at hc
  ·rename_i cs;split at hc
   ·rename_i hb;cases hc;simp only[VR,bZ] at hv;obtain⟨ad,rfl,hm⟩:=hv;refine⟨.pointer (some (ad.add (i.toNat*ie.size))),?_,by simp only[VR,bZ];exact⟨_,rfl,fa.drop _ _ _ hm⟩⟩;intro w';simp[Instr.indexAt,asIntOf,bC hu,cL e1,e2,hb,Instr.sureAddr]
   ·cases hc
  ·rename_i o off;split at hc
   ·rename_i hb;cases hc;simp only[VR] at hv;obtain⟨B,b,hB,Oy,rfl⟩:=hv;refine⟨.pointer (some ⟨b,off+i.toNat*ie.size,none⟩),?_,by simp only[VR];exact⟨B,b,hB,Oy,rfl⟩⟩;intro w';simp[Instr.indexAt,asIntOf,bC hu,cL e1,e2,hb,Instr.sureAddr,add_lit]
   ·cases hc
  ·cases hc
 ·cases hc
def mr (av:List (Nat×TI))(t:TypeId)(x:CV)(f:Nat):Option CV:=
 match assoc av t with
 | none=>none
 | some it=>
  match it.d with
  | .bk fs=>
   match fs[f]? with
   | none=>none
   | some (off,ft)=>
    match assoc av ft with
    | none=>none
    | some ie=>
     if ie.size=0 then none else
     match x with
     | .cF cs=>some (.cF (cs.drop off))
     | .aq o p=>some (.aq o (p+off))
     | _=>none
  | _=>none
theorem wx {av:List (Nat×TI)}(ht:aF P av){F:Nat→Prop}{t:TypeId}{x c:CV}{v:Value}{f:Nat}(hv:VR w F σ x v)(hc:mr av t x f=some c) :
  ∃ u,(∀ w',(Instr.fieldAt t v f).run P w'=.ok u w')∧VR w F σ c u:=by
 unfold mr at hc;split at hc
 ·cases hc
 rename_i it Oq;have hT:=ht t it Oq;split at hc
 ·rename_i fs hd;split at hc
  ·cases hc
  rename_i off ft hf;split at hc
  ·cases hc
  rename_i ie Oe;obtain⟨g,z,e1,e2,_⟩:=(ht ft ie Oe).info;obtain⟨fields,hu,Qf⟩:=ru hT hd;have V1:∃ fl:Field,fields[f]? = some fl∧fl.offset=off∧fl.type=ft:=by
   rw[← Qf,List.getElem?_map] at hf;obtain⟨fl,h1,h2⟩:=Option.map_eq_some_iff.1 hf;simp only[Prod.mk.injEq] at h2;exact⟨fl,by simpa using h1,h2⟩
  obtain⟨fl,TK,rfl,rfl⟩:=V1;split at hc
  ·cases hc
  rename_i hz;split at hc
  ·rename_i cs;cases hc;simp only[VR,bZ] at hv;obtain⟨ad,rfl,hm⟩:=hv;refine⟨.pointer (some (ad.add fl.offset)),?_,by simp only[VR,bZ];exact⟨_,rfl,fa.drop _ _ _ hm⟩⟩;intro w';simp[Instr.fieldAt,bC hu,TK,Instr.sureAddr,fieldPlace,cL e1,e2,hz]
  ·rename_i o p;cases hc;simp only[VR] at hv;obtain⟨B,b,hB,Oy,rfl⟩:=hv;refine⟨.pointer (some ⟨b,p+fl.offset,none⟩),?_,by simp only[VR];exact⟨B,b,hB,Oy,rfl⟩⟩;intro w';simp[Instr.fieldAt,bC hu,TK,Instr.sureAddr,fieldPlace,cL e1,e2,hz,add_lit]
  ·cases hc
 ·cases hc
theorem Df {t:TypeId}{i:TI}(hT:cm P t i){F:Nat→Prop}{cs:List CV}{vs:List Value}{c:CV}(h1:aT w F σ cs vs)(h2:cs.all one=true)(off:Nat)(hc:lW i (cs.drop off)=some c) :
  ∃ v,(part t vs.toArray off).run P w=.ok v w∧VR w F σ c v:=by
 obtain⟨f,z,e1,e2,_⟩:=hT.info;have XR:=aT.drop off _ _ h1;have Q4:(cs.drop off).all one=true:=by
  rw[List.all_eq_true] at h2 ⊢;exact fun x hx=>h2 x (List.mem_of_mem_drop hx)
 unfold lW at hc;simp only[part,Sem.run_bind,wR hT,Result.andThen_ok];split at hc
 ·rename_i ha;split at hc
  ·rename_i hl;cases hc;rw[ha];refine⟨.agg ((vs.drop off).take i.size).toArray,?_,?_⟩
   ·simp[cL e1,e2,List.take_drop]
   ·simp only[VR];refine⟨_,rfl,aT.take _ _ _ XR,?_⟩;rw[List.all_eq_true] at Q4 ⊢;exact fun x hx=>Q4 x (List.mem_of_mem_take hx)
  ·cases hc
 ·rename_i ha;rw[Bool.not_eq_true] at ha;rw[ha];obtain⟨v,k1,k2⟩:=aT.get _ _ XR 0 c (by rwa [← List.head?_eq_getElem?]);rw[List.getElem?_drop] at k1;refine⟨v,?_,k2⟩;have:vs.toArray[off]? = some v:=by simpa using k1
  simp[this]
def y5 (av:List (Nat×TI))(t:TypeId)(x:CV)(f:Nat):Option CV:=
 match assoc av t with
 | none=>none
 | some it=>
  match it.d with
  | .bk fs=>
   match fs[f]? with
   | none=>none
   | some (off,ft)=>
    match assoc av ft with
    | none=>none
    | some ie=>
     match x with
     | .agg cs=>lW ie (cs.drop off)
     | _=>none
  | _=>none
theorem Fs {av:List (Nat×TI)}(ht:aF P av){F:Nat→Prop}{t:TypeId}{x c:CV}{v:Value}{f:Nat}(hv:VR w F σ x v)(hc:y5 av t x f=some c) :
  ∃ u,(Instr.field t v f).run P w=.ok u w∧VR w F σ c u:=by
 unfold y5 at hc;split at hc
 ·cases hc
 rename_i it Oq;have hT:=ht t it Oq;split at hc
 ·rename_i fs hd;split at hc
  ·cases hc
  rename_i off ft hf;split at hc
  ·cases hc
  rename_i ie Oe;obtain⟨fields,hu,Qf⟩:=ru hT hd;have V1:∃ fl:Field,fields[f]? = some fl∧fl.offset=off∧fl.type=ft:=by
   rw[← Qf,List.getElem?_map] at hf;obtain⟨fl,h1,h2⟩:=Option.map_eq_some_iff.1 hf;simp only[Prod.mk.injEq] at h2;exact⟨fl,by simpa using h1,h2⟩
  obtain⟨fl,TK,rfl,rfl⟩:=V1;split at hc
  ·rename_i cs;simp only[VR] at hv;obtain⟨vs,rfl,h1,h2⟩:=hv;obtain⟨u,k1,k2⟩:=Df (P:=P) (ht _ _ Oe) h1 h2 fl.offset hc;exact⟨u,by simp[Instr.field,bC hu,TK,asAgg,k1],k2⟩
  ·cases hc
 ·cases hc
def ue (av:List (Nat×TI))(t:TypeId)(x:CV)(i:Int):Option CV:=
 match x with
 | .str s=>match assoc av t with
  | some it=>match it.d with
   | .str=>if 0≤i then (s[i.toNat]?).map fun b=>.int .u8 b.toNat else none
   | _=>none
  | none=>none
 | .agg cs=>match assoc av t with
  | some it=>match it.d with
   | .arr n e=>match assoc av e with
    | some ie=>if 0≤i∧i<n then lW ie (cs.drop (i.toNat*ie.size)) else none
    | none=>none
   | _=>none
  | none=>none
 | _=>none
theorem lZ {t:TypeId}{i:TI}(hT:cm P t i)(hd:i.d=.str):P.underlying t=some .string:=by
 obtain⟨d,h1,h2⟩:=hT.Bw;rw[hd] at h2;cases d<;>simp only[sT] at h2<;>first | cases h2 | skip
 exact h1
theorem CH {av:List (Nat×TI)}(ht:aF P av){F:Nat→Prop}{t:TypeId}{x c:CV}{v:Value}{i:Int}{k:IntKind}(hv:VR w F σ x v)(hc:ue av t x i=some c) :
  ∃ u,(Instr.index t v (.int k i)).run P w=.ok u w∧VR w F σ c u:=by
 unfold ue at hc;split at hc
 ·rename_i s';split at hc
  ·rename_i it Oq;split at hc
   ·rename_i hd;split at hc
    ·rename_i h0;obtain⟨b,hb,rfl⟩:=Option.map_eq_some_iff.1 hc;simp only[VR] at hv;subst hv;exact⟨.int .u8 b.toNat,by simp[Instr.index,asIntOf,bC (lZ (ht t it Oq) hd),h0,hb],dO _ _⟩
    ·cases hc
   ·cases hc
  ·cases hc
 ·rename_i cs;split at hc
  ·rename_i it Oq;split at hc
   ·rename_i n e hd;split at hc
    ·rename_i ie Oe;split at hc
     ·rename_i hb;simp only[VR] at hv;obtain⟨vs,rfl,h1,h2⟩:=hv;obtain⟨f,z,e1,e2,_⟩:=(ht e ie Oe).info;obtain⟨u,k1,k2⟩:=Df (P:=P) (ht e ie Oe) h1 h2 _ hc;exact⟨u,by simp[Instr.index,asIntOf,bC (nN (ht t it Oq) hd),hb,cL e1,e2,k1],k2⟩
     ·cases hc
    ·cases hc
   ·cases hc
  ·cases hc
 ·cases hc
end
end Go.Can
/- Cuts, lengths, least and greatest, composites: what each yields, and that the model yields the same. No function of the program is mentioned here. -/
namespace Go.Can
open Go.RowKit
section
variable {P:Program}{C:Cx}{σ:Nat→Option OB}{s:St}{a:Act}{w:World}
theorem IH {F:Nat→Prop}{A:Option Addr}{cap:Nat}(h:cap≤maxLen):VR w F σ (.az [] 0) (.slice A 0 cap):=by simp[VR,bZ];exact⟨A,cap,⟨rfl,rfl⟩,h⟩
def Kb (av:List (Nat×TI))(t:TypeId)(x:CV):Option CV:=
 match assoc av t with
 | none=>none
 | some it=>match it.d,x with
  | .str,.str s=>some (.int .i64 s.size)
  | .sl _,.az _ n=>some (.int .i64 n)
  | .sl _,.bp _ _ n=>some (.int .i64 n)
  | .sl _,.aj=>some (.int .i64 0)
  | .arr n _,_=>some (.int .i64 n)
  | _,_=>none
theorem Ka {av:List (Nat×TI)}(ht:aF P av){F:Nat→Prop}{t ty:TypeId}{x c:CV}{v:Value}(hv:VR w F σ x v)(hc:Kb av t x=some c) :
  ∃ u,(Builtin.len_ #[t] ty #[v]).run P w=.ok u w∧VR w F σ c u:=by
 unfold Kb at hc;split at hc
 ·cases hc
 rename_i it Oq;have hT:=ht t it Oq;split at hc
 ·rename_i hd;cases hc;simp only[VR] at hv;subst hv;exact⟨_,by simp[Builtin.len_,bC (lZ hT hd),goInt],dO _ _⟩
 ·rename_i e cs n hd;cases hc;simp only[VR,bZ] at hv;obtain⟨A,cap,rfl,_⟩:=hv;exact⟨_,by simp[Builtin.len_,bC (dK hT hd),goInt],dO _ _⟩
 ·rename_i e o off n hd;cases hc;simp only[VR] at hv;obtain⟨B,_,hv⟩:=hv;split at hv
  ·obtain⟨rfl,_,rfl⟩:=hv;exact⟨_,by simp[Builtin.len_,bC (dK hT hd),goInt],dO _ _⟩
  ·obtain⟨cap,rfl,_⟩:=hv;exact⟨_,by simp[Builtin.len_,bC (dK hT hd),goInt],dO _ _⟩
 ·rename_i e hd;cases hc;simp only[VR] at hv;subst hv;exact⟨_,by simp[Builtin.len_,bC (dK hT hd),goInt],dO _ _⟩
 ·rename_i n e hd;cases hc;exact⟨_,by simp[Builtin.len_,bC (nN hT hd),goInt],dO _ _⟩
 ·cases hc
def ll (f:Int→Int→Int)(k:IntKind):Int→List CV→Option CV
 | x,[]=>some (.int k x)
 | x,.int _ y::r=>ll f k (f x y) r
 | _,_=>none
def Mj (x y:Int):Int:=if y<x then y else x
def imax (x y:Int):Int:=if y > x then y else x
theorem DW {F:Nat→Prop}{k:IntKind}:∀ (cs:List CV) (x:Int) (vs:List Value) (c:CV),aT w F σ cs vs→ll Mj k x cs=some c →
  ∃ u,(vs.foldlM Builtin.min2 (.int k x)).run P w=.ok u w∧VR w F σ c u
 | [],x,vs,c,hv,hc=>by
  simp only[aT,ll] at hv hc;subst hv;cases hc;exact⟨_,by simp,dO _ _⟩
 | d::cs,x,vs,c,hv,hc=>by
  unfold ll at hc;split at hc
  ·rename_i e;cases e
  ·rename_i e;cases e;simp only[aT] at hv;obtain⟨v,r,rfl,h1,h2⟩:=hv;simp only[VR] at h1;subst h1;obtain⟨u,k1,k2⟩:=DW cs _ r c h2 hc;exact⟨u,by simp only[List.foldlM_cons,Builtin.min2,Sem.run_bind,Sem.run_pure,Result.andThen_ok];exact k1,k2⟩
  ·cases hc
theorem DX {F:Nat→Prop}{k:IntKind}:∀ (cs:List CV) (x:Int) (vs:List Value) (c:CV),aT w F σ cs vs→ll imax k x cs=some c →
  ∃ u,(vs.foldlM Builtin.max2 (.int k x)).run P w=.ok u w∧VR w F σ c u
 | [],x,vs,c,hv,hc=>by
  simp only[aT,ll] at hv hc;subst hv;cases hc;exact⟨_,by simp,dO _ _⟩
 | d::cs,x,vs,c,hv,hc=>by
  unfold ll at hc;split at hc
  ·rename_i e;cases e
  ·rename_i e;cases e;simp only[aT] at hv;obtain⟨v,r,rfl,h1,h2⟩:=hv;simp only[VR] at h1;subst h1;obtain⟨u,k1,k2⟩:=DX cs _ r c h2 hc;exact⟨u,by simp only[List.foldlM_cons,Builtin.max2,Sem.run_bind,Sem.run_pure,Result.andThen_ok];exact k1,k2⟩
  ·cases hc
def dG (av:List (Nat×TI))(t:TypeId):Option TD:=(assoc av t).map (·.d)
def gf (s:St)(x:Option Operand)(d:Nat):Option Nat:=
 match x with
 | none=>some d
 | some o=>match ev s o with
  | some (.int _ i)=>if 0≤i then some i.toNat else none
  | _=>none
def lj (av:List (Nat×TI))(s:St)(t:TypeId)(x:CV)(lo hi:Option Operand):Option CV:=
 match x with
 | .str b=>match dG av t with
  | some .str=>match gf s hi b.size,gf s lo 0 with
   | some h,some l=>if l≤h∧h≤b.size then some (.str (b.extract l h)) else none
   | _,_=>none
  | _=>none
 | .az cs n=>match dG av t with
  | some (.sl e)=>match assoc av e with
   | some ie=>match gf s hi n,gf s lo 0 with
    | some h,some l=>if l≤h∧h≤n then some (.az ((cs.drop (l*ie.size)).take ((h-l)*ie.size)) (h-l)) else none
    | _,_=>none
   | none=>none
  | _=>none
 | .aj=>match dG av t with
  | some (.sl e)=>match assoc av e with
   | some _=>match gf s hi 0,gf s lo 0 with
    | some h,some l=>if l=0∧h=0 then some .aj else none
    | _,_=>none
   | none=>none
  | _=>none
 | .bp o off n=>match dG av t with
  | some (.sl e)=>match assoc av e,assoc s.heap o with
   | some ie,some ob=>match gf s hi n,gf s lo 0 with
    | some h,some l=>if l≤h∧h≤n∧ie.size=ob.sz then (if l=0 then some (.bp o off h) else if h=l then some (.az [] 0) else some (.bp o (off+l*ie.size) (h-l))) else none
    | _,_=>none
   | _,_=>none
  | _=>none
 | .aq o f=>match dG av t with
  | some (.arr n e)=>match assoc av e,assoc s.heap o with
   | some _,some ob=>match lo,hi with
    | none,none=>if 0<f∧0<n∧n≤1000000∧ob.sz=0∧f≤ob.cells.length then some (.bp o f n) else none
    | _,_=>none
   | _,_=>none
  | _=>none
 | _=>none
theorem xJ (h:aK C σ s a w){x:Option Operand}{d n:Nat}(hb:gf s x d=some n) :
  (x=none∧n=d)∨∃ o k i,x=some o∧a.eval o=.int k i∧0≤i∧n=i.toNat:=by
 unfold gf at hb;split at hb
 ·cases hb;exact .inl ⟨rfl,rfl⟩
 ·rename_i o;split at hb
  ·rename_i k i he;split at hb
   ·rename_i h0;cases hb;have:=bO h he;simp only[VR] at this;exact .inr ⟨o,k,i,rfl,this,h0,rfl⟩
   ·cases hb
  ·cases hb
theorem eU (h:aK C σ s a w){lo hi:Option Operand}{len cap l n:Nat}{isSlice:Bool}(hh:gf s hi len=some n)(hl:gf s lo 0=some l)(h1:l≤n)(h2:n≤cap) :
  (Instr.sliceBounds isSlice len cap (lo.map a.eval) (hi.map a.eval) none).run P w=.ok (l,n,cap) w:=by
 have e1:∀ (k:IntKind) (i:Int) (y:Nat) (code:BoundsCode),0≤i→i.toNat≤y→(Instr.sliceBound (.int k i) y code).run P w=.ok i.toNat w:=fun k i y code h0 h1=>by
  simp only[Instr.sliceBound,asIntOf,pure_bind];rw[if_pos ⟨h0,by omega⟩];rfl
 rcases xJ h hh with ⟨rfl,rfl⟩ | ⟨oh,kh,ih,rfl,eh,h0,rfl⟩<;>rcases xJ h hl with ⟨rfl,rfl⟩ | ⟨ol,kl,il,rfl,el,h0',rfl⟩
 ·simp[Instr.sliceBounds]
 ·simp[Instr.sliceBounds,el,e1 _ _ _ _ h0' h1]
 ·simp[Instr.sliceBounds,eh,e1 _ _ _ _ h0 h2]
 ·simp[Instr.sliceBounds,eh,el,e1 _ _ _ _ h0 h2,e1 _ _ _ _ h0' h1]
theorem Fk {av:List (Nat×TI)}(ht:aF P av)(h:aK C σ s a w){t:TypeId}{x c:CV}{v:Value}{lo hi:Option Operand}(hv:VR w (FB C σ s.heap) σ x v)(hc:lj av s t x lo hi=some c) :
  ∃ u,(Instr.sliceAt t v (lo.map a.eval) (hi.map a.eval) none).run P w=.ok u w∧VR w (FB C σ s.heap) σ c u:=by
 unfold lj at hc;split at hc
 ·rename_i b;split at hc
  ·rename_i hd;obtain⟨it,Oq,hd⟩:=Option.map_eq_some_iff.1 hd;split at hc
   ·rename_i hh l VY Qe;split at hc
    ·rename_i hb;cases hc;simp only[VR] at hv;subst hv;exact⟨_,by simp[Instr.sliceAt,Instr.slice,bC (lZ (ht t it Oq) hd),eU h VY Qe hb.1 hb.2],zf _⟩
    ·cases hc
   ·cases hc
  ·cases hc
 ·rename_i cs n;split at hc
  ·rename_i e hd;obtain⟨it,Oq,hd⟩:=Option.map_eq_some_iff.1 hd;split at hc
   ·rename_i ie Oe;split at hc
    ·rename_i hh l VY Qe;split at hc
     ·rename_i hb;cases hc;obtain⟨f,z,e1,e2,_⟩:=(ht e ie Oe).info;simp only[VR,bZ] at hv;obtain⟨A,cap,rfl,h1,h2,h3⟩:=hv;refine⟨.slice (if cap=l then A else A.map (·.add (l*ie.size))) (hh-l) (cap-l),?_,?_⟩
      ·simp[Instr.sliceAt,Instr.slice,bC (dK (ht t it Oq) hd),eU h VY Qe hb.1 (Nat.le_trans hb.2 h1),cL e1,e2]
      ·simp only[VR,bZ];refine⟨_,_,rfl,by omega,by omega,?_⟩;rcases h3 with ⟨h3,rfl⟩ | ⟨ad,rfl,hm⟩
       ·exact .inl ⟨by omega,by simp⟩
       ·by_cases SH:hh=l
        ·exact .inl ⟨by omega,by simp[SH]⟩
        ·refine .inr ⟨ad.add (l*ie.size),?_,fa.take _ _ _ (fa.drop _ _ _ hm)⟩;rw[if_neg yA];rfl
     ·cases hc
    ·cases hc
   ·cases hc
  ·cases hc
 ·split at hc
  ·rename_i e hd;obtain⟨it,Oq,hd⟩:=Option.map_eq_some_iff.1 hd;split at hc
   ·rename_i ie Oe;split at hc
    ·rename_i hh l VY Qe;split at hc
     ·rename_i hb;obtain⟨rfl,rfl⟩:=hb;cases hc;obtain⟨f,z,e1,e2,_⟩:=(ht e ie Oe).info;simp only[VR] at hv;subst hv;refine⟨.slice none 0 0,?_,by simp[VR]⟩;simp[Instr.sliceAt,Instr.slice,bC (dK (ht t it Oq) hd),eU h VY Qe (Nat.le_refl _) (Nat.le_refl _),cL e1]
     ·cases hc
    ·cases hc
   ·cases hc
  ·cases hc
 ·rename_i o off n;split at hc
  ·rename_i e hd;obtain⟨it,Oq,hd⟩:=Option.map_eq_some_iff.1 hd;split at hc
   ·rename_i ie ob Oe P7;split at hc
    ·rename_i hh l VY Qe;split at hc
     ·rename_i hb;obtain⟨f,z,e1,e2,_⟩:=(ht e ie Oe).info;obtain⟨B,hB,Oh,_⟩:=h.obj o ob P7;simp only[VR] at hv;obtain⟨B',Qr,hv⟩:=hv;rw[hB] at Qr;cases Qr;split at hv
      ·obtain⟨rfl,rfl,rfl⟩:=hv;have:hh=0∧l=0:=by omega
       obtain⟨rfl,rfl⟩:=this;cases hc;rename_i Qd;refine⟨.slice none 0 0,?_,by simp only[VR];exact⟨B,hB,by rw[Qd];simp⟩⟩;simp[Instr.sliceAt,Instr.slice,bC (dK (ht t it Oq) hd),eU h VY Qe (Nat.le_refl _) (Nat.le_refl _),cL e1]
      ·rename_i b Qd;obtain⟨cap,rfl,h1,h2,h3,h4⟩:=hv;refine⟨.slice (if cap=l then some ⟨b,off,none⟩ else some ((⟨b,off,none⟩:Addr).add (l*ie.size))) (hh-l) (cap-l),?_,?_⟩
       ·simp[Instr.sliceAt,Instr.slice,bC (dK (ht t it Oq) hd),eU h VY Qe hb.1 (Nat.le_trans hb.2.1 h1),cL e1,e2]
       ·split at hc
        ·rename_i SH;subst SH;cases hc;simp only[VR];refine⟨B,hB,?_⟩;rw[Qd];exact⟨cap,by simp[add_zero],by omega,h2,h3,h4⟩
        ·split at hc
         ·rename_i hl;cases hc;rw[hl,Nat.sub_self];exact IH yA
         ·rename_i SH hl;cases hc;simp only[VR];refine⟨B,hB,?_⟩;rw[Qd];have hm:(cap-l)*B.sz+l*B.sz=cap*B.sz:=by rw[← Nat.add_mul];congr 1;omega
          rw[if_neg yA,add_lit];have hs:ie.size=B.sz:=by omega
          refine⟨cap-l,rfl,by omega,by omega,by rw[hs];omega,fun h0=>?_⟩;have hz:l*B.sz=0:=by rw[hs] at h0;omega
          have ho:off=0:=by omega
          have:=h4 ho;omega
     ·cases hc
    ·cases hc
   ·cases hc
  ·cases hc
 ·rename_i o f;split at hc
  ·rename_i n e hd;obtain⟨it,Oq,hd⟩:=Option.map_eq_some_iff.1 hd;split at hc
   ·rename_i ie ob Oe P7;split at hc
    ·split at hc
     ·rename_i hb;cases hc;have g2:=nN (ht t it Oq) hd;obtain⟨fi,z,g3,_⟩:=(ht e ie Oe).info;obtain⟨B,hB,Oh,_,_,h5⟩:=h.obj o ob P7;simp only[VR] at hv;obtain⟨B',b,Qr,Rq,rfl⟩:=hv;rw[hB] at Qr;cases Qr;obtain⟨cur,n1,n2,_,_,n5,_⟩:=h5 b Rq;refine⟨.slice (some ⟨b,f,none⟩) n n,?_,?_⟩
      ·have hsb:(Instr.sliceBounds false n n none none none).run P w=.ok (0,n,n) w:=by simp[Instr.sliceBounds]
       have Ok:¬ n=0:=by omega
       simp[Instr.sliceAt,bC g2,Instr.sureAddr,hsb,cL g3,Ok,add_zero]
      ·simp only[VR];refine⟨B,hB,?_⟩;rw[Rq];exact⟨n,rfl,Nat.le_refl _,by simp only[maxLen];omega,by rw[Oh,hb.2.2.2.1];omega,fun h0=>by omega⟩
     ·cases hc
    ·cases hc
   ·cases hc
  ·cases hc
 ·cases hc
def gA (cells:List CV)(off:Nat)(cs:List CV):List CV:=cells.take off++cs++cells.drop (off+cs.length)
def mI (place:Nat→Option (Nat×Nat))(cells:List CV):List (Nat×CV)→Option (List CV)
 | []=>some cells
 | (i,c)::rest=>
  match place i with
  | none=>none
  | some (off,size)=>if c.cells.length≠size || off+c.cells.length > cells.length then none else mI place (gA cells off c.cells) rest
theorem xw {α:Type}:∀ (xs:List α) (j off:Nat) (arr:Array α),(xs.zipIdx j).foldl (fun cs (c,k)=>cs.setIfInBounds (off+k) c) arr =
  (if off+j+xs.length≤arr.size then (arr.toList.take (off+j)++xs++arr.toList.drop (off+j+xs.length)).toArray else (xs.zipIdx j).foldl (fun cs (c,k)=>cs.setIfInBounds (off+k) c) arr)
 | [],j,off,arr=>by simp
 | x::xs,j,off,arr=>by
  split
  ·rename_i hl;simp only[List.zipIdx_cons,List.foldl_cons];rw[xw xs (j+1) off];have hs:off+(j+1)+xs.length≤(arr.setIfInBounds (off+j) x).size:=by simp at hl ⊢;omega
   rw[if_pos hs];have Oa:off+j<arr.toList.length:=by simp at hl ⊢;omega
   congr 1;apply List.ext_getElem?;intro n;simp only[Array.toList_setIfInBounds,List.append_assoc];simp only[List.getElem?_append,List.getElem?_take,List.getElem?_drop,List.getElem?_set,List.length_take,List.length_set,List.length_cons,List.cons_append,List.getElem?_cons];have SJ:off+j+(xs.length+1)≤arr.toList.length:=by simpa using hl
   simp only[Nat.min_eq_left (show off+(j+1)≤arr.toList.length by omega),Nat.min_eq_left (show off+j≤arr.toList.length by omega)];by_cases h1:n<off+j
   ·simp[show n<off+(j+1) by omega,h1,show off+j≠n by omega]
   ·by_cases h2:n=off+j
    ·subst h2;have WJ:off+j<arr.size:=by simpa using Oa
     simp[show off+j<off+(j+1) by omega,WJ]
    ·have h3:¬ n<off+(j+1):=by omega
     simp only[h1,h3,if_false,show n-(off+j)≠0 by omega];have e1:n-(off+j)-1=n-(off+(j+1)):=by omega
     rw[e1];split
     ·rfl
     ·have e2:off+(j+1)+xs.length+(n-(off+(j+1))-xs.length)=off+j+(xs.length+1)+(n-(off+(j+1))-xs.length):=by omega
      rw[e2,if_neg yA]
  ·rfl
theorem ua {F:Nat→Prop}{cells:List CV}{vs:List Value}(h:aT w F σ cells vs)(off:Nat){cs:List CV}{us:List Value}(hc:aT w F σ cs us) :
  aT w F σ (gA cells off cs) (vs.take off++us++vs.drop (off+us.length)):=by
 unfold gA;rw[← aT.length _ _ hc];exact aT.append _ _ _ _ (aT.append _ _ _ _ (aT.take _ _ _ h) hc) (aT.drop _ _ _ h)
theorem qI {cells cs:List CV}(off:Nat)(h1:cells.all one=true)(h2:cs.all one=true):(gA cells off cs).all one=true:=by
 unfold gA;rw[List.all_eq_true] at h1 h2 ⊢;intro x hx;rcases List.mem_append.1 hx with hx | hx
 ·rcases List.mem_append.1 hx with hx | hx
  ·exact h1 x (List.mem_of_mem_take hx)
  ·exact h2 x hx
 ·exact h1 x (List.mem_of_mem_drop hx)
def dR:CV→Bool
 | .dI _=>true
 | .iter _ _ _=>true
 | _=>false
def gZ (s:St):List (Nat×Operand)→Option (List (Nat×CV))
 | []=>some []
 | (i,x)::r=>match ev s x,gZ s r with
  | some c,some cs=>if dR c then none else some ((i,c)::cs)
  | _,_=>none
theorem nH {F:Nat→Prop}(place:Nat→Option (Nat×Nat)):∀ (ps:List (Nat×CV)) (qs:List (Nat×Value)) (cells out:List CV) (vs:Array Value),ps.length=qs.length →
  (∀ (j:Nat) i c,ps[j]? = some (i,c)→dR c=false∧∃ v,qs[j]? = some (i,v)∧VR w F σ c v)→aT w F σ cells vs.toList→cells.all one=true→mI place cells ps=some out →
  ∃ us,Instr.fill place vs qs=some us∧aT w F σ out us.toList∧out.all one=true
 | [],[],cells,out,vs,_,_,h1,h2,hc=>by simp only[mI] at hc;cases hc;exact⟨vs,rfl,h1,h2⟩
 | [],_::_,_,_,_,hl,_,_,_,_=>by simp at hl
 | _::_,[],_,_,_,hl,_,_,_,_=>by simp at hl
 | (i,c)::ps,(i',v)::qs,cells,out,vs,hl,hq,h1,h2,hc=>by
  obtain⟨hn,v',Tl,hr⟩:=hq 0 i c rfl;simp at Tl;obtain⟨rfl,rfl⟩:=Tl;simp only[mI] at hc;split at hc
  ·cases hc
  rename_i off size hp;split at hc
  ·cases hc
  rename_i Oh;simp only[ne_eq,gt_iff_lt,Bool.or_eq_true,decide_eq_true_eq,not_or,Decidable.not_not,Nat.not_lt] at Oh;have hf:=VR.flat c v (fun cs e=>by subst e;simp[dR] at hn) (fun k s p e=>by subst e;simp[dR] at hn) hr;have hlen:v.cells.size=c.cells.length:=by simpa using aT.length _ _ hf.1
  have hlc:vs.size=cells.length:=by simpa using aT.length _ _ h1
  obtain⟨us,k1,k2⟩:=nH place ps qs (gA cells off c.cells) out (vs.toList.take off++v.cells.toList++vs.toList.drop (off+v.cells.toList.length)).toArray (by simpa using hl)
   (fun j i c hj=>by simpa using hq (j+1) i c (by simpa using hj)) (by simpa using ua h1 off hf.1) (qI off h2 hf.2) hc
  refine⟨us,?_,k2⟩;simp only[Instr.fill,hp];rw[if_neg PX];have:=xw v.cells.toList 0 off vs;rw[if_pos PX] at this;have e:v.cells.zipIdx.foldl (fun cs (x:Value×Nat)=>cs.setIfInBounds (off+x.2) x.1) vs=(v.cells.toList.zipIdx 0).foldl (fun cs (x:Value×Nat)=>cs.setIfInBounds (off+x.2) x.1) vs:=by
   rw[← Array.foldl_toList,Array.toList_zipIdx]
  rw[e,this]
  simpa using k1
theorem lV (h:aK C σ s a w):∀ (xs:List (Nat×Operand)) (ps:List (Nat×CV)),gZ s xs=some ps→ps.length=xs.length∧
  ∀ (j:Nat) i c,ps[j]? = some (i,c)→dR c=false∧∃ v,(xs.map fun (p:Nat×Operand)=>(p.1,a.eval p.2))[j]? = some (i,v)∧VR w (FB C σ s.heap) σ c v
 | [],ps,hp=>by simp only[gZ] at hp;cases hp;exact⟨rfl,by simp⟩
 | (i,x)::r,ps,hp=>by
  simp only[gZ] at hp;split at hp
  ·rename_i c cs h1 h2;split at hp
   ·cases hp
   ·rename_i hn;cases hp;obtain⟨k1,k2⟩:=lV h r cs h2;refine⟨by simp[k1],fun j i' c' hj=>?_⟩
    cases j with
    | zero=>simp at hj;obtain⟨rfl,rfl⟩:=hj;exact⟨by simpa using hn,a.eval x,rfl,bO h h1⟩
    | succ j=>simpa using k2 j i' c' (by simpa using hj)
  ·cases hp
def oB (av:List (Nat×TI)):List (Nat×TypeId)→Option (List (Nat×Nat))
 | []=>some []
 | (off,t)::r=>match assoc av t,oB av r with
  | some i,some ps=>some ((off,i.size)::ps)
  | _,_=>none
def sf (av:List (Nat×TI))(s:St)(t:TypeId)(parts:List (Nat×Operand)):Option CV:=
 match assoc av t with
 | none=>none
 | some it=>match it.d with
  | .bk fs=>match oB av fs,gZ s parts with
   | some ps,some cs=>(mI (ps[·]?) it.zero cs).map CV.agg
   | _,_=>none
  | .arr _ e=>match assoc av e,gZ s parts with
   | some ie,some cs=>(mI (fun i=>some (i*ie.size,ie.size)) it.zero cs).map CV.agg
   | _,_=>none
  | _=>none
theorem iU {t:TypeId}{f:TypeInfo}{z:Value}(h:P.info? t=some f)(hz:f.zero=some z)(w:World):(zeroValue t).run P w=.ok z w:=by
 simp[zeroValue,uB h,hz]
theorem nc {av:List (Nat×TI)}(ht:aF P av):∀ (fs:List Field) (ps:List (Nat×Nat)),oB av (fs.map fun f=>(f.offset,f.type))=some ps →
  (fs.mapM fun f=>do pure (f.offset,← sizeOf f.type):Sem (List (Nat×Nat))).run P w=.ok ps w
 | [],ps,h=>by simp only[List.map_nil,oB] at h;cases h;simp
 | f::fs,ps,h=>by
  simp only[List.map_cons,oB] at h;split at h
  ·rename_i i PT h1 h2;cases h;obtain⟨g,z,e1,e2,_⟩:=(ht _ i h1).info;have:=nc ht fs PT h2;simp only[List.mapM_cons,Sem.run_bind,cL e1,e2,this,Result.andThen_ok,Sem.run_pure]
  ·cases h
theorem Fw {av:List (Nat×TI)}(ht:aF P av)(h:aK C σ s a w){t:TypeId}{parts:List (Nat×Operand)}{c:CV}(hc:sf av s t parts=some c) :
  ∃ u,(Instr.build t (parts.map fun (p:Nat×Operand)=>(p.1,a.eval p.2)).toArray).run P w=.ok u w∧VR w (FB C σ s.heap) σ c u:=by
 unfold sf at hc;split at hc
 ·cases hc
 rename_i it Oq;have hT:=ht t it Oq;obtain⟨f,z,e1,_,_,e4,e5⟩:=hT.info;obtain⟨k1,k2⟩:=cS (w:=w) (F:=FB C σ s.heap) _ _ e5;split at hc
 ·rename_i fs hd;obtain⟨fields,hu,rfl⟩:=ru hT hd;split at hc
  ·rename_i ps cs PW OJ;obtain⟨out,hf,rfl⟩:=Option.map_eq_some_iff.1 hc;obtain⟨l1,l2⟩:=lV h _ _ OJ;obtain⟨us,m1,m2,m3⟩:=nH (ps[·]?) cs (parts.map fun p=>(p.1,a.eval p.2)) it.zero out z.cells (by simpa using l1) l2 (aT.cA _ _ k1) k2 hf;refine⟨.agg us,?_,by simp only[VR];exact⟨us.toList,by simp,m2,m3⟩⟩;have hm:=nc (w:=w) ht fields.toList ps PW;have WH:(fields.mapM fun f=>do pure (f.offset,← sizeOf f.type):Sem (Array (Nat×Nat))).run P w=.ok ps.toArray w:=by
    rw[Array.mapM_eq_mapM_toList];simp only[Sem.run_map,hm,Result.andThen_ok]
   simp only[Instr.build,Sem.run_bind,iU e1 e4,bC hu,Result.andThen_ok,WH,List.getElem?_toArray,m1];rfl
  ·cases hc
 ·rename_i n e hd;split at hc
  ·rename_i ie cs Oe OJ;obtain⟨out,hf,rfl⟩:=Option.map_eq_some_iff.1 hc;obtain⟨l1,l2⟩:=lV h _ _ OJ;obtain⟨g,zz,g1,g2,_⟩:=(ht e ie Oe).info;obtain⟨us,m1,m2,m3⟩:=nH _ cs (parts.map fun p=>(p.1,a.eval p.2)) it.zero out z.cells (by simpa using l1) l2 (aT.cA _ _ k1) k2 hf;refine⟨.agg us,?_,by simp only[VR];exact⟨us.toList,by simp,m2,m3⟩⟩;simp only[Instr.build,Sem.run_bind,iU e1 e4,bC (nN hT hd),Result.andThen_ok,cL g1,g2,m1];rfl
  ·cases hc
 ·cases hc
end
def vt (d:Option TD)(p q:CV):Option Bool:=
 match d,q with
 | some (.sl _),.aj=>match p with
  | .aj=>some true
  | .az _ n=>if n=0 then none else some false
  | .bp _ _ n=>if n=0 then none else some false
  | _=>none
 | some (.ptr _),.bw=>match p with
  | .bw=>some true
  | .cF _=>some false
  | .aq _ _=>some false
  | _=>none
 | some .func,.cr=>match p with
  | .cr=>some true
  | .fn _ _=>some false
  | _=>none
 | _,_=>none
def D3 (av:List (Nat×TI))(op:BinOp)(t:TypeId)(p q:CV):Option CV:=
 match p,q with
 | .int _ _,.int _ _=>CK op .oth p q
 | .str _,.str _=>CK op .oth p q
 | .bool _,.bool _=>match dG av t with
  | some d=>CK op d p q
  | none=>none
 | _,_=>match op with
  | .eql=>(vt (dG av t) p q).map CV.bool
  | .neq=>(vt (dG av t) p q).map fun b=>CV.bool (!b)
  | _=>none
def cun (op:UnOp)(p:CV):Option CV:=
 match op,p with
 | .not,.bool b=>some (.bool (!b))
 | .neg,.int k n=>some (.int k (k.wrap (0-n)))
 | _,_=>none
def g9 (av:List (Nat×TI))(s:St)(b:Builtin)(args:List Operand)(ts:List TypeId):Option CV:=
 match b with
 | .len=>match args,ts with
  | [x],[t]=>match ev s x with
   | some c=>Kb av t c
   | none=>none
  | _,_=>none
 | .min=>match zk s args with
  | some (.int k x::r)=>ll Mj k x r
  | _=>none
 | .max=>match zk s args with
  | some (.int k x::r)=>ll imax k x r
  | _=>none
 | _=>none
def fz (av:List (Nat×TI))(s:St):Op→Option CV
 | .move x=>ev s x
 | .assign x=>ev s x
 | .pick c x y=>match ev s c with
  | some (.bool b)=>if b then ev s x else ev s y
  | _=>none
 | .binOp op t x y _=>match ev s x,ev s y with
  | some p,some q=>D3 av op t p q
  | _,_=>none
 | .unOp op _ x=>match ev s x with
  | some p=>cun op p
  | none=>none
 | .load t x=>match ev s x,assoc av t with
  | some c,some i=>match gF s c with
   | some cs=>lW i cs
   | none=>none
  | _,_=>none
 | .slice t x lo hi none=>match ev s x with
  | some c=>lj av s t c lo hi
  | none=>none
 | .fieldAddr t x f=>match ev s x with
  | some c=>mr av t c f
  | none=>none
 | .field t x f=>match ev s x with
  | some c=>y5 av t c f
  | none=>none
 | .indexAddr t x i=>match ev s x,ev s i with
  | some c,some (.int _ n)=>y4 av t c n
  | _,_=>none
 | .index t x i=>match ev s x,ev s i with
  | some c,some (.int _ n)=>ue av t c n
  | _,_=>none
 | .extract x i=>match ev s x with
  | some (.dI vs)=>vs[i]?
  | _=>none
 | .makeFunc (.func f) first captured=>if first.isEmpty then (zk s captured.toList).map (CV.fn f) else none
 | .nilCheck x=>match ev s x with
  | some (.aq o p)=>some (.aq o p)
  | some (.cF cs)=>some (.cF cs)
  | some (.fn f cs)=>some (.fn f cs)
  | _=>none
 | .build t parts=>sf av s t parts.toList
 | .call c=>match c.callee with
  | .builtin b=>g9 av s b c.args.toList c.argTypes.toList
  | _=>none
 | _=>none
section
variable {P:Program}{C:Cx}{σ:Nat→Option OB}{s:St}{a:Act}{w:World}
theorem Ki {F:Nat→Prop}{op:BinOp}{t:TypeId}{p q c:CV}{u v:Value}(hp:VR w F σ p u)(hq:VR w F σ q v)(d:TD)(hd:d=.bool→P.underlying t=some .bool)(hc:CK op d p q=some c) :
  ∃ x,(binOp op t u v).run P w=.ok x w∧VR w F σ c x:=by
 unfold CK at hc;split at hc
 ·rename_i k a k' b;simp only[VR] at hp hq;subst hp hq;split at hc
  ·split at hc
   ·cases hc
   ·rename_i hb;cases hc;exact⟨_,by simp[binOp,Op.shift,hb],dO _ _⟩
  ·split at hc
   ·cases hc
   ·rename_i hb;cases hc;exact⟨_,by simp[binOp,Op.shift,hb],dO _ _⟩
  ·rename_i h1 h2;split at hc
   ·rename_i hk;subst hk;exact IB (fun e=>h1 e) (fun e=>h2 e) hc
   ·cases hc
 ·simp only[VR] at hp hq;subst hp hq;exact Gn hc
 ·rename_i b b';simp only[VR] at hp hq;subst hp hq;split at hc
  ·cases hc;exact⟨_,run_eql_bool w t b b' (hd rfl),dA _⟩
  ·cases hc;exact⟨_,run_neq_bool w t b b' (hd rfl),dA _⟩
  ·cases hc
 ·cases hc
theorem I0 {t e:TypeId}{i:TI}(hT:cm P t i)(hd:i.d=.ptr e):P.underlying t=some (.pointer e):=by
 obtain⟨d,h1,h2⟩:=hT.Bw;rw[hd] at h2;cases d<;>simp only[sT] at h2<;>first | cases h2 | skip
 exact h1
theorem Gb {t:TypeId}{i:TI}(hT:cm P t i)(hd:i.d=.func):∃ x y z,P.underlying t=some (.func x y z):=by
 obtain⟨d,h1,h2⟩:=hT.Bw;rw[hd] at h2;cases d<;>simp only[sT] at h2<;>first | cases h2 | skip
 exact⟨_,_,_,h1⟩
theorem uC (d:Nat){t e:TypeId}(h:P.underlying t=some (.slice e))(A:Option Addr)(n cap:Nat):(Op.equalIn (d+1) t (.slice A n cap) (.slice none 0 0)).run P w=.ok A.isNone w:=by
 cases A<;>simp[Op.equalIn,bC h]
theorem sW (d:Nat){t e:TypeId}(h:P.underlying t=some (.pointer e))(A:Option Addr):(Op.equalIn (d+1) t (.pointer A) (.pointer none)).run P w=.ok A.isNone w:=by
 cases A<;>simp[Op.equalIn,bC h]
theorem uD (d:Nat){t:TypeId}{x y:Array TypeId}{z:Bool}(h:P.underlying t=some (.func x y z))(f:Fn)(u v:Array Value):(Op.equalIn (d+1) t (.func f u v) .nilFunc).run P w=.ok false w:=by
 simp[Op.equalIn,bC h]
theorem qi (d:Nat){t:TypeId}{x y:Array TypeId}{z:Bool}(h:P.underlying t=some (.func x y z)):(Op.equalIn (d+1) t .nilFunc .nilFunc).run P w=.ok true w:=by
 simp[Op.equalIn,bC h]
theorem xH {av:List (Nat×TI)}(ht:aF P av){F:Nat→Prop}{t:TypeId}{p q:CV}{u v:Value}{b:Bool}(hp:VR w F σ p u)(hq:VR w F σ q v)(hc:vt (dG av t) p q=some b) :
  (Op.equal t u v).run P w=.ok b w∧(∀ cs,u≠.agg cs)∧u≠.nilIface∧
   (∀ k n,u≠.int k n)∧(∀ k n,u≠.float k n)∧(∀ k x y,u≠.complex k x y)∧(∀ x,u≠.string x):=by
 unfold vt at hc;split at hc
 ·rename_i e hd;obtain⟨it,Oq,hd⟩:=Option.map_eq_some_iff.1 hd;have hu:=dK (ht t it Oq) hd;simp only[VR] at hq;subst hq;have key:∃ A n cap,u=.slice A n cap∧(A=none↔b=true):=by
   split at hc
   ·cases hc;simp only[VR] at hp;subst hp;exact⟨_,_,_,rfl,by simp⟩
   ·rename_i cs n;split at hc
    ·cases hc
    ·rename_i hn;cases hc;simp only[VR,bZ] at hp;obtain⟨A,cap,rfl,_,_,h4⟩:=hp;rcases h4 with ⟨h4,_⟩ | ⟨ad,rfl,_⟩
     ·exact absurd h4 hn
     ·exact⟨_,_,_,rfl,by simp⟩
   ·rename_i o off n;split at hc
    ·cases hc
    ·rename_i hn;cases hc;simp only[VR] at hp;obtain⟨B,_,hp⟩:=hp;split at hp
     ·exact absurd hp.2.2 hn
     ·obtain⟨cap,rfl,_⟩:=hp;exact⟨_,_,_,rfl,by simp⟩
   ·cases hc
  obtain⟨A,n,cap,rfl,hA⟩:=key;refine⟨?_,by simp,by simp,by simp,by simp,by simp,by simp⟩;have e:A.isNone=b:=by
   cases A with
   | none=>simp[hA.1 rfl]
   | some ad=>cases b;rfl;exact absurd (hA.2 rfl) N3
  rw[← e];exact uC 9999 hu A n cap
 ·rename_i e hd;obtain⟨it,Oq,hd⟩:=Option.map_eq_some_iff.1 hd;have hu:=I0 (ht t it Oq) hd;simp only[VR] at hq;subst hq;have key:∃ A,u=.pointer A∧(A=none↔b=true):=by
   split at hc
   ·cases hc;simp only[VR] at hp;subst hp;exact⟨_,rfl,by simp⟩
   ·cases hc;simp only[VR,bZ] at hp;obtain⟨ad,rfl,_⟩:=hp;exact⟨_,rfl,by simp⟩
   ·cases hc;simp only[VR] at hp;obtain⟨B,b,_,_,rfl⟩:=hp;exact⟨_,rfl,by simp⟩
   ·cases hc
  obtain⟨A,rfl,hA⟩:=key;refine⟨?_,by simp,by simp,by simp,by simp,by simp,by simp⟩;have e:A.isNone=b:=by
   cases A with
   | none=>simp[hA.1 rfl]
   | some ad=>cases b;rfl;exact absurd (hA.2 rfl) N3
  rw[← e];exact sW 9999 hu A
 ·rename_i hd;obtain⟨it,Oq,hd⟩:=Option.map_eq_some_iff.1 hd;obtain⟨x,y,z,hu⟩:=Gb (ht t it Oq) hd;simp only[VR] at hq;subst hq;split at hc
  ·cases hc;simp only[VR] at hp;subst hp;refine⟨?_,by simp,by simp,by simp,by simp,by simp,by simp⟩;exact qi 9999 hu
  ·cases hc;simp only[VR] at hp;obtain⟨vs,rfl,_⟩:=hp;refine⟨?_,by simp,by simp,by simp,by simp,by simp,by simp⟩;exact uD 9999 hu _ _ _
  ·cases hc
 ·cases hc
theorem nh {op:BinOp}{t:TypeId}{x y:Operand}{u v:Value}(h1:∀ cs,u≠.agg cs)(h2:u≠.nilIface):(eqGuard op t x y u v).run P w=.ok () w:=by
 unfold eqGuard;split
 all_goals first
  | (rw[if_pos (by rfl)];rfl)
  | (rw[if_neg N3]
     split
     ·exact absurd rfl h2
     ·exact absurd rfl (h1 _)
     ·rfl)
theorem mF {t:TypeId}{u v:Value}{b:Bool}(he:(Op.equal t u v).run P w=.ok b w)(h1:∀ k n,u≠.int k n)(h2:∀ k n,u≠.float k n)(h3:∀ k x y,u≠.complex k x y)(h4:∀ x,u≠.string x) :
  (binOp .eql t u v).run P w=.ok (.bool b) w∧(binOp .neq t u v).run P w=.ok (.bool (!b)) w:=by
 constructor
 ·unfold binOp;split<;>first | exact absurd rfl (h1 _ _) | exact absurd rfl (h2 _ _) | exact absurd rfl (h3 _ _ _) | exact absurd rfl (h4 _) | (simp_all;done)
 ·unfold binOp;split<;>first | exact absurd rfl (h1 _ _) | exact absurd rfl (h2 _ _) | exact absurd rfl (h3 _ _ _) | exact absurd rfl (h4 _) | (simp_all;done)
theorem yb {F:Nat→Prop}{p:CV}{u:Value}(hp:VR w F σ p u)(h:∀ cs,p≠.agg cs)(ha:p≠.any)(hi:∀ t cs,p≠.iface t cs):(∀ cs,u≠.agg cs)∧u≠.nilIface:=by
 cases p<;>simp only[VR,bZ] at hp
 case agg cs=>exact absurd rfl (h cs)
 case az=>obtain⟨A,cap,rfl,_⟩:=hp;simp
 case cF=>obtain⟨ad,rfl,_⟩:=hp;simp
 case fn=>obtain⟨vs,rfl,_⟩:=hp;simp
 case iface t cs=>exact absurd rfl (hi t cs)
 case iter=>obtain⟨B,r,_,_,rfl,_⟩:=hp;simp
 case mp=>obtain⟨B,r,arr,clock,_,_,rfl,_⟩:=hp;simp
 case dI=>obtain⟨vs,rfl,_⟩:=hp;simp
 case bp=>
  obtain⟨B,_,hp⟩:=hp;split at hp
  ·obtain⟨rfl,_⟩:=hp;simp
  ·obtain⟨cap,rfl,_⟩:=hp;simp
 case aq=>obtain⟨B,b,_,_,rfl⟩:=hp;simp
 case any=>exact absurd rfl ha
 all_goals (subst hp;simp)
theorem Iq {av:List (Nat×TI)}(ht:aF P av){F:Nat→Prop}{op:BinOp}{t:TypeId}{p q c:CV}{u v:Value}(hp:VR w F σ p u)(hq:VR w F σ q v)(hc:D3 av op t p q=some c) :
  ∃ z,(∀ x y,(eqGuard op t x y u v).run P w=.ok () w)∧(binOp op t u v).run P w=.ok z w∧VR w F σ c z:=by
 have fin:∀ (_:∀ cs,p≠.agg cs) (_:p≠.any) (_:∀ t cs,p≠.iface t cs) (d:TD),(d=.bool→P.underlying t=some .bool)→CK op d p q=some c→∃ z,(∀ x y,(eqGuard op t x y u v).run P w=.ok () w)∧(binOp op t u v).run P w=.ok z w∧VR w F σ c z:=fun hn Tp Q2 d hd h=>by
  obtain⟨h1,h2⟩:=yb hp hn Tp Q2;obtain⟨z,k1,k2⟩:=Ki hp hq d hd h;exact⟨z,fun _ _=>nh h1 h2,k1,k2⟩
 unfold D3 at hc;split at hc
 ·exact fin N3 N3 N3 _ N3 hc
 ·exact fin N3 N3 N3 _ N3 hc
 ·split at hc
  ·rename_i d hd;obtain⟨it,Oq,hd⟩:=Option.map_eq_some_iff.1 hd;exact fin N3 N3 N3 d (fun e=>Gc (ht t it Oq) (by rw[hd,e])) hc
  ·cases hc
 ·split at hc
  ·obtain⟨b,hb,rfl⟩:=Option.map_eq_some_iff.1 hc;obtain⟨h1,h3,h4,h5,h6,h7,h8⟩:=xH ht hp hq hb;exact⟨_,fun _ _=>nh h3 h4,(mF h1 h5 h6 h7 h8).1,dA _⟩
  ·obtain⟨b,hb,rfl⟩:=Option.map_eq_some_iff.1 hc;obtain⟨h1,h3,h4,h5,h6,h7,h8⟩:=xH ht hp hq hb;exact⟨_,fun _ _=>nh h3 h4,(mF h1 h5 h6 h7 h8).2,dA _⟩
  ·cases hc
theorem Mw {F:Nat→Prop}{op:UnOp}{p c:CV}{u:Value}(hp:VR w F σ p u)(hc:cun op p=some c):∃ z,(Op.unary op u).run P w=.ok z w∧VR w F σ c z:=by
 unfold cun at hc;split at hc
 ·cases hc;simp only[VR] at hp;subst hp;exact⟨_,by simp[Op.unary],dA _⟩
 ·cases hc;simp only[VR] at hp;subst hp;exact⟨_,by simp[Op.unary,Op.intArith],dO _ _⟩
 ·cases hc
theorem Bs {F:Nat→Prop}{k:IntKind}{x:Int}{cs:List CV}{vs:List Value}(h:aT w F σ (.int k x::cs) vs):∃ r,vs=.int k x::r∧aT w F σ cs r:=by
 simp only[aT] at h;obtain⟨v,r,rfl,h1,h2⟩:=h;simp only[VR] at h1;subst h1;exact⟨r,rfl,h2⟩
theorem Bj {av:List (Nat×TI)}(ht:aF P av)(h:aK C σ s a w){b:Builtin}{args:List Operand}{ts:Array TypeId}{ty:TypeId}{c:CV}(hc:g9 av s b args ts.toList=some c) :
  ∃ z,(∀ cons,(builtin b ts ty cons (args.map a.eval).toArray).run P w=.ok (.value z) w)∧VR w (FB C σ s.heap) σ c z:=by
 unfold g9 at hc;split at hc
 ·split at hc
  ·rename_i x t Qv;split at hc
   ·rename_i c' he;obtain⟨u,k1,k2⟩:=Ka (P:=P) (ty:=ty) ht (bO h he) hc;have:ts=#[t]:=by rw[← Array.toArray_toList (xs:=ts),Qv]
    subst this;exact⟨u,fun _=>by simp[builtin,k1],k2⟩
   ·cases hc
  ·cases hc
 ·split at hc
  ·rename_i k x r he;obtain⟨rs,e,hr⟩:=Bs (pG h _ _ he);obtain⟨u,k1,k2⟩:=DW (P:=P) _ _ _ _ hr hc;exact⟨u,fun _=>by simp[builtin,Builtin.min_,e,k1],k2⟩
  ·cases hc
 ·split at hc
  ·rename_i k x r he;obtain⟨rs,e,hr⟩:=Bs (pG h _ _ he);obtain⟨u,k1,k2⟩:=DX (P:=P) _ _ _ _ hr hc;exact⟨u,fun _=>by simp[builtin,Builtin.max_,e,k1],k2⟩
  ·cases hc
 ·cases hc
theorem ym {av:List (Nat×TI)}(ht:aF P av)(h:aK C σ s a w)(o:Oper){c:CV}(hc:fz av s o.op=some c) :
  ∃ z,(execOp a.eval o).run P w=.ok (.value z) w∧VR w (FB C σ s.heap) σ c z:=by
 obtain⟨dst,op,ty,pos,after,guard⟩:=o;unfold fz at hc;simp only at hc;split at hc
 ·exact⟨_,by simp[execOp],bO h hc⟩
 ·exact⟨_,by simp[execOp],bO h hc⟩
 ·rename_i c' x y;split at hc
  ·rename_i b he;have hb:=bO h he;simp only[VR] at hb;split at hc
   ·rename_i W8;subst W8;exact⟨_,by simp[execOp,hb,asBool],bO h hc⟩
   ·rename_i W8;rw[Bool.not_eq_true] at W8;subst W8;exact⟨_,by simp[execOp,hb,asBool],bO h hc⟩
  ·cases hc
 ·split at hc
  ·rename_i p q hp hq;obtain⟨z,k0,k1,k2⟩:=Iq (P:=P) ht (bO h hp) (bO h hq) hc;exact⟨z,by simp only[execOp,Sem.run_bind,k0,k1,Result.andThen_ok,Sem.run_pure],k2⟩
  ·cases hc
 ·split at hc
  ·rename_i p hp;obtain⟨z,k1,k2⟩:=Mw (P:=P) (bO h hp) hc;exact⟨z,by simp[execOp,k1],k2⟩
  ·cases hc
 ·split at hc
  ·rename_i c' i hx hi;split at hc
   ·rename_i cs hm;obtain⟨ad,e,OJ⟩:=Am h (bO h hx) hm;obtain⟨z,k1,k2⟩:=Bd (P:=P) (ht _ i hi) OJ hc;exact⟨z,by simp[execOp,Instr.loadAt,e,Instr.sureAddr,k1],k2⟩
   ·cases hc
  ·cases hc
 ·split at hc
  ·rename_i c' hx;obtain⟨z,k1,k2⟩:=Fk (P:=P) ht h (bO h hx) hc;exact⟨z,by simp[execOp,k1],k2⟩
  ·cases hc
 ·split at hc
  ·rename_i c' hx;obtain⟨z,k1,k2⟩:=wx (P:=P) ht (bO h hx) hc;exact⟨z,by simp[execOp,k1],k2⟩
  ·cases hc
 ·split at hc
  ·rename_i c' hx;obtain⟨z,k1,k2⟩:=Fs (P:=P) ht (bO h hx) hc;exact⟨z,by simp[execOp,k1],k2⟩
  ·cases hc
 ·split at hc
  ·rename_i c' k n hx hi;have hn:=bO h hi;simp only[VR] at hn;obtain⟨z,k1,k2⟩:=Fq (P:=P) (k:=k) ht (bO h hx) hc;exact⟨z,by simp[execOp,hn,k1],k2⟩
  ·cases hc
 ·split at hc
  ·rename_i c' k n hx hi;have hn:=bO h hi;simp only[VR] at hn;obtain⟨z,k1,k2⟩:=CH (P:=P) (k:=k) ht (bO h hx) hc;exact⟨z,by simp[execOp,hn,k1],k2⟩
  ·cases hc
 ·split at hc
  ·rename_i vs hx;have hv:=bO h hx;simp only[VR] at hv;obtain⟨us,e,hr⟩:=hv;obtain⟨z,k1,k2⟩:=aT.get _ _ hr _ _ hc;exact⟨z,by simp[execOp,e,Instr.extract,k1],k2⟩
  ·cases hc
 ·rename_i f first captured
  split at hc
  ·rename_i hf;obtain⟨cs,OJ,rfl⟩:=Option.map_eq_some_iff.1 hc;have:=pG h _ _ OJ;have e:first=#[]:=by simpa using hf
   subst e;refine⟨.func (.func f) #[] (captured.map a.eval),by simp[execOp,Instr.makeFunc],?_⟩;simp only[VR];exact⟨captured.toList.map a.eval,by rw[← List.map_toArray],this⟩
  ·cases hc
 ·split at hc
  ·rename_i o p hx;cases hc;have hv:=bO h hx;have Tl:=hv;simp only[VR] at Tl;obtain⟨B,b,_,_,e⟩:=Tl;exact⟨_,by simp only[execOp,e];rfl,by rw[← e];exact hv⟩
  ·rename_i cs hx;cases hc;have hv:=bO h hx;have Tl:=hv;simp only[VR,bZ] at Tl;obtain⟨ad,e,_⟩:=Tl;exact⟨_,by simp only[execOp,e];rfl,by rw[← e];exact hv⟩
  ·rename_i f cs hx;cases hc;have hv:=bO h hx;have Tl:=hv;simp only[VR] at Tl;obtain⟨vs,e,_⟩:=Tl;exact⟨_,by simp only[execOp,e];rfl,by rw[← e];exact hv⟩
  ·cases hc
 ·rename_i t parts;obtain⟨z,k1,k2⟩:=Fw (P:=P) ht h hc;refine⟨z,?_,k2⟩;have e:(parts.map fun (x:Nat×Operand)=>(x.1,a.eval x.2))=(parts.toList.map fun (p:Nat×Operand)=>(p.1,a.eval p.2)).toArray:=by
   rw[← List.map_toArray]
  simp only[execOp,e,Sem.run_bind,k1,Result.andThen_ok,Sem.run_pure]
 ·rename_i cl;split at hc
  ·rename_i b Qb;obtain⟨z,k1,k2⟩:=Bj (P:=P) (ty:=ty) ht h hc;refine⟨z,?_,k2⟩;have e:(cl.args.toList.map a.eval).toArray=cl.args.map a.eval:=by rw[← List.map_toArray]
   rw[e] at k1;simp only[execOp,resolve,Qb,Sem.run_bind,Sem.run_pure,Result.andThen_ok,invoke,k1]
  ·cases hc
 ·cases hc
end
end Go.Can
