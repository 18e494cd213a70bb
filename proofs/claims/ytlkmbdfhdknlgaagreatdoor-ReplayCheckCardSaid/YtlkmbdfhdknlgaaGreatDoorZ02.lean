/- The operations that turn nothing in memory: what each yields -/
import Derived.Test.YtlkmbdfhdknlgaaGreatDoorZ01
namespace Go.Can
open Go.RowKit
def ml (w:World)(F:Nat→Prop)(σ:Nat→Option OB)(cs:List CV)(ad:Addr):Prop:=
 ∃ us:List Value,aG w F σ cs us∧cs.all one=true∧∀ j u,us[j]? = some u→w.cell? (ad.add j)=some u
theorem ml.drop {w:World}{F:Nat→Prop}{σ:Nat→Option OB}{cs:List CV}{ad:Addr}(k:Nat)(h:ml w F σ cs ad):ml w F σ (cs.drop k) (ad.add k):=by
 obtain⟨us,h1,h2,h3⟩:=h;refine⟨us.drop k,aG.drop k cs us h1,?_,fun j u hu=>?_⟩
 ·rw[List.all_eq_true] at h2 ⊢;exact fun x hx=>h2 x (List.mem_of_mem_drop hx)
 ·rw[List.getElem?_drop] at hu;rw[add_add];exact h3 _ u hu
def fD (s:St):CV→Option (List CV)
 | .cc cs=>some cs
 | .ai o off=>(assoc s.heap o).map (·.cells.drop off)
 | _=>none
section
variable {P:Program}{C:Cx}{σ:Nat→Option OB}{s:St}{a:Act}{w:World}
theorem C4 (h:aB C σ s a w){o:Nat}{ob:Ob}{B:OB}{b:Nat}(ho:assoc s.heap o=some ob)(hB:σ o=some B)(hb:B.iI=some b) :
  ml w (FB C σ s.heap) σ ob.cells ⟨b,0,none⟩:=by
 obtain⟨B',e1,_,_,e4,e5⟩:=h.obj o ob ho;rw[hB] at e1;cases e1;obtain⟨cur,k1,k2,k3,k4,k5,k6⟩:=e5 b hb;refine⟨_,k6,e4,fun j u hu=>?_⟩;rw[add_lit,Nat.zero_add,cell_of_row w b j cur _ _ k1];rw[List.getElem?_take] at hu;split at hu
 ·simpa using hu
 ·cases hu
theorem w9 (h:aB C σ s a w){c:CV}{v:Value}{cs:List CV}(hv:VR w (FB C σ s.heap) σ c v)(hm:fD s c=some cs) :
  ∃ ad,v=.pointer (some ad)∧ml w (FB C σ s.heap) σ cs ad:=by
 unfold fD at hm;split at hm
 ·rename_i Lk;cases hm;simp only[VR,bK] at hv;obtain⟨ad,e,hm⟩:=hv;obtain⟨us,h1,_,h3⟩:=ej.cells _ _ hm;exact⟨ad,e,us,aG.ca _ _ h1,ej.HJ _ _ hm,h3⟩
 ·rename_i o off;obtain⟨ob,ho,rfl⟩:=Option.map_eq_some_iff.1 hm;simp only[VR] at hv;obtain⟨B,b,hB,hb,rfl⟩:=hv;refine⟨_,rfl,?_⟩;have:=(C4 h ho hB hb).drop off;rw[add_lit,Nat.zero_add] at this;exact this
 ·cases hm
theorem ta {t:TypeId}{i:TI}(hT:bV P t i)(w:World):(isAgg t).run P w=.ok i.agg w:=by
 obtain⟨d,h1,h2⟩:=hT.yd;simp only[isAgg,Sem.run_bind,bp h1,Result.andThen_ok];unfold TI.agg;rw[← h2];cases d<;>rfl
def kj (i:TI)(cs:List CV):Option CV:=
 if i.agg then (if i.size≤cs.length then some (.agg (cs.take i.size)) else none) else cs.head?
theorem xR {t:TypeId}{i:TI}(hT:bV P t i){F:Nat→Prop}{cs:List CV}{ad:Addr}{c:CV}(hm:ml w F σ cs ad)(hc:kj i cs=some c) :
  ∃ v,(loadVar t ad).run P w=.ok v w∧VR w F σ c v:=by
 obtain⟨us,h1,h2,h3⟩:=hm;obtain⟨f,z,e1,e2,_⟩:=hT.info;unfold kj at hc;simp only[loadVar,Sem.run_bind,ta hT,Result.andThen_ok];split at hc
 ·rename_i ha;split at hc
  ·rename_i hl;cases hc;rw[ha];have hlen:=aG.length _ _ h1;have h4:(loadCells ad i.size).run P w=.ok (us.take i.size).toArray w:=by
    have:=run_loadCells_list (P:=P) w ad (us.take i.size) (fun j v hv=>by
     rw[List.getElem?_take] at hv;split at hv
     ·exact h3 j v hv
     ·cases hv)
    rwa [List.length_take,Nat.min_eq_left yA] at this
   refine⟨.agg (us.take i.size).toArray,by simp[ch e1,e2,h4],?_⟩;simp only[VR];refine⟨us.take i.size,rfl,aG.take _ _ _ h1,?_⟩;rw[List.all_eq_true] at h2 ⊢;exact fun x hx=>h2 x (List.mem_of_mem_take hx)
  ·cases hc
 ·rename_i ha;rw[Bool.not_eq_true] at ha;rw[ha];obtain⟨v,k1,k2⟩:=aG.get _ _ h1 0 c (by rwa [← List.head?_eq_getElem?]);have:=h3 0 v k1;rw[add_zero] at this;exact⟨v,by simp[this],k2⟩
def vp (ak:List (Nat×TI))(t:TypeId)(x:CV)(i:Int):Option CV:=
 match assoc ak t with
 | none=>none
 | some it=>
  match it.d with
  | .sl e=>
   match assoc ak e with
   | none=>none
   | some ie=>
    match x with
    | .au cs n=>if 0≤i∧i<n then some (.cc (cs.drop (i.toNat*ie.size))) else none
    | .bw o off n=>if 0≤i∧i<n then some (.ai o (off+i.toNat*ie.size)) else none
    | _=>none
  | .arr n e=>
   match assoc ak e with
   | none=>none
   | some ie=>
    match x with
    | .cc cs=>if 0≤i∧i<n then some (.cc (cs.drop (i.toNat*ie.size))) else none
    | .ai o off=>if 0≤i∧i<n then some (.ai o (off+i.toNat*ie.size)) else none
    | _=>none
  | _=>none
theorem da {t e:TypeId}{i:TI}(hT:bV P t i)(hd:i.d=.sl e):P.underlying t=some (.slice e):=by
 obtain⟨d,h1,h2⟩:=hT.yd;rw[hd] at h2;cases d<;>simp only[p7] at h2<;>first | cases h2 | skip
 exact h1
theorem lN {t e:TypeId}{n:Nat}{i:TI}(hT:bV P t i)(hd:i.d=.arr n e):P.underlying t=some (.array n e):=by
 obtain⟨d,h1,h2⟩:=hT.yd;rw[hd] at h2;cases d<;>simp only[p7] at h2<;>first | cases h2 | skip
 exact h1
theorem oT {t:TypeId}{fs:List (Nat×TypeId)}{i:TI}(hT:bV P t i)(hd:i.d=.a6 fs):∃ fields,P.underlying t=some (.struct fields)∧fields.toList.map (fun f=>(f.offset,f.type))=fs:=by
 obtain⟨d,h1,h2⟩:=hT.yd;rw[hd] at h2;cases d<;>simp only[p7] at h2<;>first | cases h2 | skip
 exact⟨_,h1,rfl⟩
theorem Ci {t:TypeId}{i:TI}(hT:bV P t i)(hd:i.d=.bool):P.underlying t=some .bool:=by
 obtain⟨d,h1,h2⟩:=hT.yd;rw[hd] at h2;cases d<;>simp only[p7] at h2<;>first | cases h2 | skip
 exact h1
theorem BA {ak:List (Nat×TI)}(ht:ay P ak){F:Nat→Prop}{t:TypeId}{x c:CV}{v:Value}{i:Int}{k:IntKind}(hv:VR w F σ x v)(hc:vp ak t x i=some c) :
  ∃ u,(∀ w',(Instr.indexAt t v (.int k i)).run P w'=.ok u w')∧VR w F σ c u:=by
 unfold vp at hc;split at hc
 ·cases hc
 rename_i it Fl;have hT:=ht t it Fl;split at hc
 ·rename_i e hd;split at hc
  ·cases hc
  rename_i ie CW;obtain⟨f,z,e1,e2,_⟩:=(ht e ie CW).info;have hu:=da hT hd;split at hc
  ·rename_i cs n;split at hc
   ·rename_i hb;cases hc;simp only[VR,bK] at hv;obtain⟨A,cap,rfl,_,_,h4⟩:=hv;rcases h4 with ⟨h4,_⟩ | ⟨ad,rfl,hm⟩
    ·omega
    ·refine⟨.pointer (some (ad.add (i.toNat*ie.size))),?_,by simp only[VR,bK];exact⟨_,rfl,ej.drop _ _ _ hm⟩⟩;intro w';simp[Instr.indexAt,asIntOf,bp hu,ch e1,e2,hb]
   ·cases hc
  ·rename_i o off n;split at hc
   ·rename_i hb;cases hc;simp only[VR] at hv;obtain⟨B,hB,hv⟩:=hv;split at hv
    ·obtain⟨rfl,_,h0⟩:=hv;omega
    ·rename_i b Kc;obtain⟨cap,rfl,_⟩:=hv;refine⟨.pointer (some ⟨b,off+i.toNat*ie.size,none⟩),?_,by simp only[VR];exact⟨B,b,hB,Kc,rfl⟩⟩;intro w';simp[Instr.indexAt,asIntOf,bp hu,ch e1,e2,hb,add_lit]
   ·cases hc
  ·cases hc
 ·rename_i n e hd;split at hc
  ·cases hc
  rename_i ie CW;obtain⟨f,z,e1,e2,_⟩:=(ht e ie CW).info;have hu:=lN hT hd;split at hc
  ·rename_i cs;split at hc
   ·rename_i hb;cases hc;simp only[VR,bK] at hv;obtain⟨ad,rfl,hm⟩:=hv;refine⟨.pointer (some (ad.add (i.toNat*ie.size))),?_,by simp only[VR,bK];exact⟨_,rfl,ej.drop _ _ _ hm⟩⟩;intro w';simp[Instr.indexAt,asIntOf,bp hu,ch e1,e2,hb,Instr.sureAddr]
   ·cases hc
  ·rename_i o off;split at hc
   ·rename_i hb;cases hc;simp only[VR] at hv;obtain⟨B,b,hB,Kc,rfl⟩:=hv;refine⟨.pointer (some ⟨b,off+i.toNat*ie.size,none⟩),?_,by simp only[VR];exact⟨B,b,hB,Kc,rfl⟩⟩;intro w';simp[Instr.indexAt,asIntOf,bp hu,ch e1,e2,hb,Instr.sureAddr,add_lit]
   ·cases hc
  ·cases hc
 ·cases hc
def kI (ak:List (Nat×TI))(t:TypeId)(x:CV)(f:Nat):Option CV:=
 match assoc ak t with
 | none=>none
 | some it=>
  match it.d with
  | .a6 fs=>
   match fs[f]? with
   | none=>none
   | some (off,ft)=>
    match assoc ak ft with
    | none=>none
    | some ie=>
     if ie.size=0 then none else
     match x with
     | .cc cs=>some (.cc (cs.drop off))
     | .ai o p=>some (.ai o (p+off))
     | _=>none
  | _=>none
theorem sM {ak:List (Nat×TI)}(ht:ay P ak){F:Nat→Prop}{t:TypeId}{x c:CV}{v:Value}{f:Nat}(hv:VR w F σ x v)(hc:kI ak t x f=some c) :
  ∃ u,(∀ w',(Instr.fieldAt t v f).run P w'=.ok u w')∧VR w F σ c u:=by
 unfold kI at hc;split at hc
 ·cases hc
 rename_i it Fl;have hT:=ht t it Fl;split at hc
 ·rename_i fs hd;split at hc
  ·cases hc
  rename_i off ft hf;split at hc
  ·cases hc
  rename_i ie CW;obtain⟨g,z,e1,e2,_⟩:=(ht ft ie CW).info;obtain⟨fields,hu,LL⟩:=oT hT hd;have Rt:∃ fl:Field,fields[f]? = some fl∧fl.offset=off∧fl.type=ft:=by
   rw[← LL,List.getElem?_map] at hf;obtain⟨fl,h1,h2⟩:=Option.map_eq_some_iff.1 hf;simp only[Prod.mk.injEq] at h2;exact⟨fl,by simpa using h1,h2⟩
  obtain⟨fl,OX,rfl,rfl⟩:=Rt;split at hc
  ·cases hc
  rename_i hz;split at hc
  ·rename_i cs;cases hc;simp only[VR,bK] at hv;obtain⟨ad,rfl,hm⟩:=hv;refine⟨.pointer (some (ad.add fl.offset)),?_,by simp only[VR,bK];exact⟨_,rfl,ej.drop _ _ _ hm⟩⟩;intro w';simp[Instr.fieldAt,bp hu,OX,Instr.sureAddr,fieldPlace,ch e1,e2,hz]
  ·rename_i o p;cases hc;simp only[VR] at hv;obtain⟨B,b,hB,Kc,rfl⟩:=hv;refine⟨.pointer (some ⟨b,p+fl.offset,none⟩),?_,by simp only[VR];exact⟨B,b,hB,Kc,rfl⟩⟩;intro w';simp[Instr.fieldAt,bp hu,OX,Instr.sureAddr,fieldPlace,ch e1,e2,hz,add_lit]
  ·cases hc
 ·cases hc
theorem zI {t:TypeId}{i:TI}(hT:bV P t i){F:Nat→Prop}{cs:List CV}{vs:List Value}{c:CV}(h1:aG w F σ cs vs)(h2:cs.all one=true)(off:Nat)(hc:kj i (cs.drop off)=some c) :
  ∃ v,(part t vs.toArray off).run P w=.ok v w∧VR w F σ c v:=by
 obtain⟨f,z,e1,e2,_⟩:=hT.info;have Yx:=aG.drop off _ _ h1;have Ni:(cs.drop off).all one=true:=by
  rw[List.all_eq_true] at h2 ⊢;exact fun x hx=>h2 x (List.mem_of_mem_drop hx)
 unfold kj at hc;simp only[part,Sem.run_bind,ta hT,Result.andThen_ok];split at hc
 ·rename_i ha;split at hc
  ·rename_i hl;cases hc;rw[ha];refine⟨.agg ((vs.drop off).take i.size).toArray,?_,?_⟩
   ·simp[ch e1,e2,List.take_drop]
   ·simp only[VR];refine⟨_,rfl,aG.take _ _ _ Yx,?_⟩;rw[List.all_eq_true] at Ni ⊢;exact fun x hx=>Ni x (List.mem_of_mem_take hx)
  ·cases hc
 ·rename_i ha;rw[Bool.not_eq_true] at ha;rw[ha];obtain⟨v,k1,k2⟩:=aG.get _ _ Yx 0 c (by rwa [← List.head?_eq_getElem?]);rw[List.getElem?_drop] at k1;refine⟨v,?_,k2⟩;have:vs.toArray[off]? = some v:=by simpa using k1
  simp[this]
def vq (ak:List (Nat×TI))(t:TypeId)(x:CV)(f:Nat):Option CV:=
 match assoc ak t with
 | none=>none
 | some it=>
  match it.d with
  | .a6 fs=>
   match fs[f]? with
   | none=>none
   | some (off,ft)=>
    match assoc ak ft with
    | none=>none
    | some ie=>
     match x with
     | .agg cs=>kj ie (cs.drop off)
     | _=>none
  | _=>none
theorem BB {ak:List (Nat×TI)}(ht:ay P ak){F:Nat→Prop}{t:TypeId}{x c:CV}{v:Value}{f:Nat}(hv:VR w F σ x v)(hc:vq ak t x f=some c) :
  ∃ u,(Instr.field t v f).run P w=.ok u w∧VR w F σ c u:=by
 unfold vq at hc;split at hc
 ·cases hc
 rename_i it Fl;have hT:=ht t it Fl;split at hc
 ·rename_i fs hd;split at hc
  ·cases hc
  rename_i off ft hf;split at hc
  ·cases hc
  rename_i ie CW;obtain⟨fields,hu,LL⟩:=oT hT hd;have Rt:∃ fl:Field,fields[f]? = some fl∧fl.offset=off∧fl.type=ft:=by
   rw[← LL,List.getElem?_map] at hf;obtain⟨fl,h1,h2⟩:=Option.map_eq_some_iff.1 hf;simp only[Prod.mk.injEq] at h2;exact⟨fl,by simpa using h1,h2⟩
  obtain⟨fl,OX,rfl,rfl⟩:=Rt;split at hc
  ·rename_i cs;simp only[VR] at hv;obtain⟨vs,rfl,h1,h2⟩:=hv;obtain⟨u,k1,k2⟩:=zI (P:=P) (ht _ _ CW) h1 h2 fl.offset hc;exact⟨u,by simp[Instr.field,bp hu,OX,asAgg,k1],k2⟩
  ·cases hc
 ·cases hc
def qx (ak:List (Nat×TI))(t:TypeId)(x:CV)(i:Int):Option CV:=
 match x with
 | .str s=>match assoc ak t with
  | some it=>match it.d with
   | .str=>if 0≤i then (s[i.toNat]?).map fun b=>.int .u8 b.toNat else none
   | _=>none
  | none=>none
 | .agg cs=>match assoc ak t with
  | some it=>match it.d with
   | .arr n e=>match assoc ak e with
    | some ie=>if 0≤i∧i<n then kj ie (cs.drop (i.toNat*ie.size)) else none
    | none=>none
   | _=>none
  | none=>none
 | _=>none
theorem kq {t:TypeId}{i:TI}(hT:bV P t i)(hd:i.d=.str):P.underlying t=some .string:=by
 obtain⟨d,h1,h2⟩:=hT.yd;rw[hd] at h2;cases d<;>simp only[p7] at h2<;>first | cases h2 | skip
 exact h1
theorem zh {ak:List (Nat×TI)}(ht:ay P ak){F:Nat→Prop}{t:TypeId}{x c:CV}{v:Value}{i:Int}{k:IntKind}(hv:VR w F σ x v)(hc:qx ak t x i=some c) :
  ∃ u,(Instr.index t v (.int k i)).run P w=.ok u w∧VR w F σ c u:=by
 unfold qx at hc;split at hc
 ·rename_i s';split at hc
  ·rename_i it Fl;split at hc
   ·rename_i hd;split at hc
    ·rename_i h0;obtain⟨b,hb,rfl⟩:=Option.map_eq_some_iff.1 hc;simp only[VR] at hv;subst hv;exact⟨.int .u8 b.toNat,by simp[Instr.index,asIntOf,bp (kq (ht t it Fl) hd),h0,hb],de _ _⟩
    ·cases hc
   ·cases hc
  ·cases hc
 ·rename_i cs;split at hc
  ·rename_i it Fl;split at hc
   ·rename_i n e hd;split at hc
    ·rename_i ie CW;split at hc
     ·rename_i hb;simp only[VR] at hv;obtain⟨vs,rfl,h1,h2⟩:=hv;obtain⟨f,z,e1,e2,_⟩:=(ht e ie CW).info;obtain⟨u,k1,k2⟩:=zI (P:=P) (ht e ie CW) h1 h2 _ hc;exact⟨u,by simp[Instr.index,asIntOf,bp (lN (ht t it Fl) hd),hb,ch e1,e2,k1],k2⟩
     ·cases hc
    ·cases hc
   ·cases hc
  ·cases hc
 ·cases hc
end
end Go.Can
/- Cuts, lengths, least and greatest, composites: what each yields, and that the model yields the same. No function of the program is mentioned here. -/
namespace Go.Can
open Go.RowKit
section
variable {P:Program}{C:Cx}{σ:Nat→Option OB}{s:St}{a:Act}{w:World}
theorem EB {F:Nat→Prop}{A:Option Addr}{cap:Nat}(h:cap≤maxLen):VR w F σ (.au [] 0) (.slice A 0 cap):=by simp[VR,bK];exact⟨A,cap,⟨rfl,rfl⟩,h⟩
def F6 (ak:List (Nat×TI))(t:TypeId)(x:CV):Option CV:=
 match assoc ak t with
 | none=>none
 | some it=>match it.d,x with
  | .str,.str s=>some (.int .i64 s.size)
  | .sl _,.au _ n=>some (.int .i64 n)
  | .sl _,.bw _ _ n=>some (.int .i64 n)
  | .sl _,.ag=>some (.int .i64 0)
  | .arr n _,_=>some (.int .i64 n)
  | _,_=>none
theorem F5 {ak:List (Nat×TI)}(ht:ay P ak){F:Nat→Prop}{t ty:TypeId}{x c:CV}{v:Value}(hv:VR w F σ x v)(hc:F6 ak t x=some c) :
  ∃ u,(Builtin.len_ #[t] ty #[v]).run P w=.ok u w∧VR w F σ c u:=by
 unfold F6 at hc;split at hc
 ·cases hc
 rename_i it Fl;have hT:=ht t it Fl;split at hc
 ·rename_i hd;cases hc;simp only[VR] at hv;subst hv;exact⟨_,by simp[Builtin.len_,bp (kq hT hd),goInt],de _ _⟩
 ·rename_i e cs n hd;cases hc;simp only[VR,bK] at hv;obtain⟨A,cap,rfl,_⟩:=hv;exact⟨_,by simp[Builtin.len_,bp (da hT hd),goInt],de _ _⟩
 ·rename_i e o off n hd;cases hc;simp only[VR] at hv;obtain⟨B,_,hv⟩:=hv;split at hv
  ·obtain⟨rfl,_,rfl⟩:=hv;exact⟨_,by simp[Builtin.len_,bp (da hT hd),goInt],de _ _⟩
  ·obtain⟨cap,rfl,_⟩:=hv;exact⟨_,by simp[Builtin.len_,bp (da hT hd),goInt],de _ _⟩
 ·rename_i e hd;cases hc;simp only[VR] at hv;subst hv;exact⟨_,by simp[Builtin.len_,bp (da hT hd),goInt],de _ _⟩
 ·rename_i n e hd;cases hc;exact⟨_,by simp[Builtin.len_,bp (lN hT hd),goInt],de _ _⟩
 ·cases hc
def jM (f:Int→Int→Int)(k:IntKind):Int→List CV→Option CV
 | x,[]=>some (.int k x)
 | x,.int _ y::r=>jM f k (f x y) r
 | _,_=>none
def H5 (x y:Int):Int:=if y<x then y else x
def imax (x y:Int):Int:=if y > x then y else x
theorem Ak {F:Nat→Prop}{k:IntKind}:∀ (cs:List CV) (x:Int) (vs:List Value) (c:CV),aG w F σ cs vs→jM H5 k x cs=some c →
  ∃ u,(vs.foldlM Builtin.min2 (.int k x)).run P w=.ok u w∧VR w F σ c u
 | [],x,vs,c,hv,hc=>by
  simp only[aG,jM] at hv hc;subst hv;cases hc;exact⟨_,by simp,de _ _⟩
 | d::cs,x,vs,c,hv,hc=>by
  unfold jM at hc;split at hc
  ·rename_i e;cases e
  ·rename_i e;cases e;simp only[aG] at hv;obtain⟨v,r,rfl,h1,h2⟩:=hv;simp only[VR] at h1;subst h1;obtain⟨u,k1,k2⟩:=Ak cs _ r c h2 hc;exact⟨u,by simp only[List.foldlM_cons,Builtin.min2,Sem.run_bind,Sem.run_pure,Result.andThen_ok];exact k1,k2⟩
  ·cases hc
theorem Al {F:Nat→Prop}{k:IntKind}:∀ (cs:List CV) (x:Int) (vs:List Value) (c:CV),aG w F σ cs vs→jM imax k x cs=some c →
  ∃ u,(vs.foldlM Builtin.max2 (.int k x)).run P w=.ok u w∧VR w F σ c u
 | [],x,vs,c,hv,hc=>by
  simp only[aG,jM] at hv hc;subst hv;cases hc;exact⟨_,by simp,de _ _⟩
 | d::cs,x,vs,c,hv,hc=>by
  unfold jM at hc;split at hc
  ·rename_i e;cases e
  ·rename_i e;cases e;simp only[aG] at hv;obtain⟨v,r,rfl,h1,h2⟩:=hv;simp only[VR] at h1;subst h1;obtain⟨u,k1,k2⟩:=Al cs _ r c h2 hc;exact⟨u,by simp only[List.foldlM_cons,Builtin.max2,Sem.run_bind,Sem.run_pure,Result.andThen_ok];exact k1,k2⟩
  ·cases hc
def cY (ak:List (Nat×TI))(t:TypeId):Option TD:=(assoc ak t).map (·.d)
def fc (s:St)(x:Option Operand)(d:Nat):Option Nat:=
 match x with
 | none=>some d
 | some o=>match ev s o with
  | some (.int _ i)=>if 0≤i then some i.toNat else none
  | _=>none
def jL (ak:List (Nat×TI))(s:St)(t:TypeId)(x:CV)(lo hi:Option Operand):Option CV:=
 match x with
 | .str b=>match cY ak t with
  | some .str=>match fc s hi b.size,fc s lo 0 with
   | some h,some l=>if l≤h∧h≤b.size then some (.str (b.extract l h)) else none
   | _,_=>none
  | _=>none
 | .au cs n=>match cY ak t with
  | some (.sl e)=>match assoc ak e with
   | some ie=>match fc s hi n,fc s lo 0 with
    | some h,some l=>if l≤h∧h≤n then some (.au ((cs.drop (l*ie.size)).take ((h-l)*ie.size)) (h-l)) else none
    | _,_=>none
   | none=>none
  | _=>none
 | .ag=>match cY ak t with
  | some (.sl e)=>match assoc ak e with
   | some _=>match fc s hi 0,fc s lo 0 with
    | some h,some l=>if l=0∧h=0 then some .ag else none
    | _,_=>none
   | none=>none
  | _=>none
 | .bw o off n=>match cY ak t with
  | some (.sl e)=>match assoc ak e,assoc s.heap o with
   | some ie,some ob=>match fc s hi n,fc s lo 0 with
    | some h,some l=>if l≤h∧h≤n∧ie.size=ob.sz then (if l=0 then some (.bw o off h) else if h=l then some (.au [] 0) else some (.bw o (off+l*ie.size) (h-l))) else none
    | _,_=>none
   | _,_=>none
  | _=>none
 | .ai o f=>match cY ak t with
  | some (.arr n e)=>match assoc ak e,assoc s.heap o with
   | some _,some ob=>match lo,hi with
    | none,none=>if 0<f∧0<n∧n≤1000000∧ob.sz=0∧f≤ob.cells.length then some (.bw o f n) else none
    | _,_=>none
   | _,_=>none
  | _=>none
 | _=>none
theorem uh (h:aB C σ s a w){x:Option Operand}{d n:Nat}(hb:fc s x d=some n) :
  (x=none∧n=d)∨∃ o k i,x=some o∧a.eval o=.int k i∧0≤i∧n=i.toNat:=by
 unfold fc at hb;split at hb
 ·cases hb;exact .inl ⟨rfl,rfl⟩
 ·rename_i o;split at hb
  ·rename_i k i he;split at hb
   ·rename_i h0;cases hb;have:=bD h he;simp only[VR] at this;exact .inr ⟨o,k,i,rfl,this,h0,rfl⟩
   ·cases hb
  ·cases hb
theorem dX (h:aB C σ s a w){lo hi:Option Operand}{len cap l n:Nat}{isSlice:Bool}(hh:fc s hi len=some n)(hl:fc s lo 0=some l)(h1:l≤n)(h2:n≤cap) :
  (Instr.sliceBounds isSlice len cap (lo.map a.eval) (hi.map a.eval) none).run P w=.ok (l,n,cap) w:=by
 have e1:∀ (k:IntKind) (i:Int) (y:Nat) (code:BoundsCode),0≤i→i.toNat≤y→(Instr.sliceBound (.int k i) y code).run P w=.ok i.toNat w:=fun k i y code h0 h1=>by
  simp only[Instr.sliceBound,asIntOf,pure_bind];rw[if_pos ⟨h0,by omega⟩];rfl
 rcases uh h hh with ⟨rfl,rfl⟩ | ⟨oh,kh,ih,rfl,eh,h0,rfl⟩<;>rcases uh h hl with ⟨rfl,rfl⟩ | ⟨ol,kl,il,rfl,el,Yy,rfl⟩
 ·simp[Instr.sliceBounds]
 ·simp[Instr.sliceBounds,el,e1 _ _ _ _ Yy h1]
 ·simp[Instr.sliceBounds,eh,e1 _ _ _ _ h0 h2]
 ·simp[Instr.sliceBounds,eh,el,e1 _ _ _ _ h0 h2,e1 _ _ _ _ Yy h1]
theorem Bx {ak:List (Nat×TI)}(ht:ay P ak)(h:aB C σ s a w){t:TypeId}{x c:CV}{v:Value}{lo hi:Option Operand}(hv:VR w (FB C σ s.heap) σ x v)(hc:jL ak s t x lo hi=some c) :
  ∃ u,(Instr.sliceAt t v (lo.map a.eval) (hi.map a.eval) none).run P w=.ok u w∧VR w (FB C σ s.heap) σ c u:=by
 unfold jL at hc;split at hc
 ·rename_i b;split at hc
  ·rename_i hd;obtain⟨it,Fl,hd⟩:=Option.map_eq_some_iff.1 hd;split at hc
   ·rename_i hh l QH Ma;split at hc
    ·rename_i hb;cases hc;simp only[VR] at hv;subst hv;exact⟨_,by simp[Instr.sliceAt,Instr.slice,bp (kq (ht t it Fl) hd),dX h QH Ma hb.1 hb.2],vA _⟩
    ·cases hc
   ·cases hc
  ·cases hc
 ·rename_i cs n;split at hc
  ·rename_i e hd;obtain⟨it,Fl,hd⟩:=Option.map_eq_some_iff.1 hd;split at hc
   ·rename_i ie CW;split at hc
    ·rename_i hh l QH Ma;split at hc
     ·rename_i hb;cases hc;obtain⟨f,z,e1,e2,_⟩:=(ht e ie CW).info;simp only[VR,bK] at hv;obtain⟨A,cap,rfl,h1,h2,h3⟩:=hv;refine⟨.slice (if cap=l then A else A.map (·.add (l*ie.size))) (hh-l) (cap-l),?_,?_⟩
      ·simp[Instr.sliceAt,Instr.slice,bp (da (ht t it Fl) hd),dX h QH Ma hb.1 (Nat.le_trans hb.2 h1),ch e1,e2]
      ·simp only[VR,bK];refine⟨_,_,rfl,by omega,by omega,?_⟩;rcases h3 with ⟨h3,rfl⟩ | ⟨ad,rfl,hm⟩
       ·exact .inl ⟨by omega,by simp⟩
       ·by_cases N4:hh=l
        ·exact .inl ⟨by omega,by simp[N4]⟩
        ·refine .inr ⟨ad.add (l*ie.size),?_,ej.take _ _ _ (ej.drop _ _ _ hm)⟩;rw[if_neg yA];rfl
     ·cases hc
    ·cases hc
   ·cases hc
  ·cases hc
 ·split at hc
  ·rename_i e hd;obtain⟨it,Fl,hd⟩:=Option.map_eq_some_iff.1 hd;split at hc
   ·rename_i ie CW;split at hc
    ·rename_i hh l QH Ma;split at hc
     ·rename_i hb;obtain⟨rfl,rfl⟩:=hb;cases hc;obtain⟨f,z,e1,e2,_⟩:=(ht e ie CW).info;simp only[VR] at hv;subst hv;refine⟨.slice none 0 0,?_,by simp[VR]⟩;simp[Instr.sliceAt,Instr.slice,bp (da (ht t it Fl) hd),dX h QH Ma (Nat.le_refl _) (Nat.le_refl _),ch e1]
     ·cases hc
    ·cases hc
   ·cases hc
  ·cases hc
 ·rename_i o off n;split at hc
  ·rename_i e hd;obtain⟨it,Fl,hd⟩:=Option.map_eq_some_iff.1 hd;split at hc
   ·rename_i ie ob CW LB;split at hc
    ·rename_i hh l QH Ma;split at hc
     ·rename_i hb;obtain⟨f,z,e1,e2,_⟩:=(ht e ie CW).info;obtain⟨B,hB,CX,_⟩:=h.obj o ob LB;simp only[VR] at hv;obtain⟨B',L0,hv⟩:=hv;rw[hB] at L0;cases L0;split at hv
      ·obtain⟨rfl,rfl,rfl⟩:=hv;have:hh=0∧l=0:=by omega
       obtain⟨rfl,rfl⟩:=this;cases hc;rename_i Nh;refine⟨.slice none 0 0,?_,by simp only[VR];exact⟨B,hB,by rw[Nh];simp⟩⟩;simp[Instr.sliceAt,Instr.slice,bp (da (ht t it Fl) hd),dX h QH Ma (Nat.le_refl _) (Nat.le_refl _),ch e1]
      ·rename_i b Nh;obtain⟨cap,rfl,h1,h2,h3,h4⟩:=hv;refine⟨.slice (if cap=l then some ⟨b,off,none⟩ else some ((⟨b,off,none⟩:Addr).add (l*ie.size))) (hh-l) (cap-l),?_,?_⟩
       ·simp[Instr.sliceAt,Instr.slice,bp (da (ht t it Fl) hd),dX h QH Ma hb.1 (Nat.le_trans hb.2.1 h1),ch e1,e2]
       ·split at hc
        ·rename_i N4;subst N4;cases hc;simp only[VR];refine⟨B,hB,?_⟩;rw[Nh];exact⟨cap,by simp[add_zero],by omega,h2,h3,h4⟩
        ·split at hc
         ·rename_i hl;cases hc;rw[hl,Nat.sub_self];exact EB yA
         ·rename_i N4 hl;cases hc;simp only[VR];refine⟨B,hB,?_⟩;rw[Nh];have hm:(cap-l)*B.sz+l*B.sz=cap*B.sz:=by rw[← Nat.add_mul];congr 1;omega
          rw[if_neg yA,add_lit];have hs:ie.size=B.sz:=by omega
          refine⟨cap-l,rfl,by omega,by omega,by rw[hs];omega,fun h0=>?_⟩;have hz:l*B.sz=0:=by rw[hs] at h0;omega
          have ho:off=0:=by omega
          have:=h4 ho;omega
     ·cases hc
    ·cases hc
   ·cases hc
  ·cases hc
 ·rename_i o f;split at hc
  ·rename_i n e hd;obtain⟨it,Fl,hd⟩:=Option.map_eq_some_iff.1 hd;split at hc
   ·rename_i ie ob CW LB;split at hc
    ·split at hc
     ·rename_i hb;cases hc;have g2:=lN (ht t it Fl) hd;obtain⟨fi,z,g3,_⟩:=(ht e ie CW).info;obtain⟨B,hB,CX,_,_,h5⟩:=h.obj o ob LB;simp only[VR] at hv;obtain⟨B',b,L0,MH,rfl⟩:=hv;rw[hB] at L0;cases L0;obtain⟨cur,n1,n2,_,_,n5,_⟩:=h5 b MH;refine⟨.slice (some ⟨b,f,none⟩) n n,?_,?_⟩
      ·have VK:(Instr.sliceBounds false n n none none none).run P w=.ok (0,n,n) w:=by simp[Instr.sliceBounds]
       have F0:¬ n=0:=by omega
       simp[Instr.sliceAt,bp g2,Instr.sureAddr,VK,ch g3,F0,add_zero]
      ·simp only[VR];refine⟨B,hB,?_⟩;rw[MH];exact⟨n,rfl,Nat.le_refl _,by simp only[maxLen];omega,by rw[CX,hb.2.2.2.1];omega,fun h0=>by omega⟩
     ·cases hc
    ·cases hc
   ·cases hc
  ·cases hc
 ·cases hc
def fL (cells:List CV)(off:Nat)(cs:List CV):List CV:=cells.take off++cs++cells.drop (off+cs.length)
def kT (place:Nat→Option (Nat×Nat))(cells:List CV):List (Nat×CV)→Option (List CV)
 | []=>some cells
 | (i,c)::rest=>
  match place i with
  | none=>none
  | some (off,size)=>if c.cells.length≠size || off+c.cells.length > cells.length then none else kT place (fL cells off c.cells) rest
theorem tR {α:Type}:∀ (xs:List α) (j off:Nat) (arr:Array α),(xs.zipIdx j).foldl (fun cs (c,k)=>cs.setIfInBounds (off+k) c) arr =
  (if off+j+xs.length≤arr.size then (arr.toList.take (off+j)++xs++arr.toList.drop (off+j+xs.length)).toArray else (xs.zipIdx j).foldl (fun cs (c,k)=>cs.setIfInBounds (off+k) c) arr)
 | [],j,off,arr=>by simp
 | x::xs,j,off,arr=>by
  split
  ·rename_i hl;simp only[List.zipIdx_cons,List.foldl_cons];rw[tR xs (j+1) off];have hs:off+(j+1)+xs.length≤(arr.setIfInBounds (off+j) x).size:=by simp at hl ⊢;omega
   rw[if_pos hs];have yN:off+j<arr.toList.length:=by simp at hl ⊢;omega
   congr 1;apply List.ext_getElem?;intro n;simp only[Array.toList_setIfInBounds,List.append_assoc];simp only[List.getElem?_append,List.getElem?_take,List.getElem?_drop,List.getElem?_set,List.length_take,List.length_set,List.length_cons,List.cons_append,List.getElem?_cons];have N5:off+j+(xs.length+1)≤arr.toList.length:=by simpa using hl
   simp only[Nat.min_eq_left (show off+(j+1)≤arr.toList.length by omega),Nat.min_eq_left (show off+j≤arr.toList.length by omega)];by_cases h1:n<off+j
   ·simp[show n<off+(j+1) by omega,h1,show off+j≠n by omega]
   ·by_cases h2:n=off+j
    ·subst h2;have Rk:off+j<arr.size:=by simpa using yN
     simp[show off+j<off+(j+1) by omega,Rk]
    ·have h3:¬ n<off+(j+1):=by omega
     simp only[h1,h3,if_false,show n-(off+j)≠0 by omega];have e1:n-(off+j)-1=n-(off+(j+1)):=by omega
     rw[e1];split
     ·rfl
     ·have e2:off+(j+1)+xs.length+(n-(off+(j+1))-xs.length)=off+j+(xs.length+1)+(n-(off+(j+1))-xs.length):=by omega
      rw[e2,if_neg yA]
  ·rfl
theorem qv {F:Nat→Prop}{cells:List CV}{vs:List Value}(h:aG w F σ cells vs)(off:Nat){cs:List CV}{us:List Value}(hc:aG w F σ cs us) :
  aG w F σ (fL cells off cs) (vs.take off++us++vs.drop (off+us.length)):=by
 unfold fL;rw[← aG.length _ _ hc];exact aG.append _ _ _ _ (aG.append _ _ _ _ (aG.take _ _ _ h) hc) (aG.drop _ _ _ h)
theorem oA {cells cs:List CV}(off:Nat)(h1:cells.all one=true)(h2:cs.all one=true):(fL cells off cs).all one=true:=by
 unfold fL;rw[List.all_eq_true] at h1 h2 ⊢;intro x hx;rcases List.mem_append.1 hx with hx | hx
 ·rcases List.mem_append.1 hx with hx | hx
  ·exact h1 x (List.mem_of_mem_take hx)
  ·exact h2 x hx
 ·exact h1 x (List.mem_of_mem_drop hx)
def dn:CV→Bool
 | .db _=>true
 | .iter _ _ _=>true
 | _=>false
def fZ (s:St):List (Nat×Operand)→Option (List (Nat×CV))
 | []=>some []
 | (i,x)::r=>match ev s x,fZ s r with
  | some c,some cs=>if dn c then none else some ((i,c)::cs)
  | _,_=>none
theorem lJ {F:Nat→Prop}(place:Nat→Option (Nat×Nat)):∀ (ps:List (Nat×CV)) (qs:List (Nat×Value)) (cells out:List CV) (vs:Array Value),ps.length=qs.length →
  (∀ (j:Nat) i c,ps[j]? = some (i,c)→dn c=false∧∃ v,qs[j]? = some (i,v)∧VR w F σ c v)→aG w F σ cells vs.toList→cells.all one=true→kT place cells ps=some out →
  ∃ us,Instr.fill place vs qs=some us∧aG w F σ out us.toList∧out.all one=true
 | [],[],cells,out,vs,_,_,h1,h2,hc=>by simp only[kT] at hc;cases hc;exact⟨vs,rfl,h1,h2⟩
 | [],_::_,_,_,_,hl,_,_,_,_=>by simp at hl
 | _::_,[],_,_,_,hl,_,_,_,_=>by simp at hl
 | (i,c)::ps,(i',v)::qs,cells,out,vs,hl,hq,h1,h2,hc=>by
  obtain⟨hn,v',Oz,hr⟩:=hq 0 i c rfl;simp at Oz;obtain⟨rfl,rfl⟩:=Oz;simp only[kT] at hc;split at hc
  ·cases hc
  rename_i off size hp;split at hc
  ·cases hc
  rename_i CX;simp only[ne_eq,gt_iff_lt,Bool.or_eq_true,decide_eq_true_eq,not_or,Decidable.not_not,Nat.not_lt] at CX;have hf:=VR.flat c v (fun cs e=>by subst e;simp[dn] at hn) (fun k s p e=>by subst e;simp[dn] at hn) hr;have hlen:v.cells.size=c.cells.length:=by simpa using aG.length _ _ hf.1
  have hlc:vs.size=cells.length:=by simpa using aG.length _ _ h1
  obtain⟨us,k1,k2⟩:=lJ place ps qs (fL cells off c.cells) out (vs.toList.take off++v.cells.toList++vs.toList.drop (off+v.cells.toList.length)).toArray (by simpa using hl)
   (fun j i c hj=>by simpa using hq (j+1) i c (by simpa using hj)) (by simpa using qv h1 off hf.1) (oA off h2 hf.2) hc
  refine⟨us,?_,k2⟩;simp only[Instr.fill,hp];rw[if_neg Lv];have:=tR v.cells.toList 0 off vs;rw[if_pos Lv] at this;have e:v.cells.zipIdx.foldl (fun cs (x:Value×Nat)=>cs.setIfInBounds (off+x.2) x.1) vs=(v.cells.toList.zipIdx 0).foldl (fun cs (x:Value×Nat)=>cs.setIfInBounds (off+x.2) x.1) vs:=by
   rw[← Array.foldl_toList,Array.toList_zipIdx]
  rw[e,this]
  simpa using k1
theorem kg (h:aB C σ s a w):∀ (xs:List (Nat×Operand)) (ps:List (Nat×CV)),fZ s xs=some ps→ps.length=xs.length∧
  ∀ (j:Nat) i c,ps[j]? = some (i,c)→dn c=false∧∃ v,(xs.map fun (p:Nat×Operand)=>(p.1,a.eval p.2))[j]? = some (i,v)∧VR w (FB C σ s.heap) σ c v
 | [],ps,hp=>by simp only[fZ] at hp;cases hp;exact⟨rfl,by simp⟩
 | (i,x)::r,ps,hp=>by
  simp only[fZ] at hp;split at hp
  ·rename_i c cs h1 h2;split at hp
   ·cases hp
   ·rename_i hn;cases hp;obtain⟨k1,k2⟩:=kg h r cs h2;refine⟨by simp[k1],fun j i' c' hj=>?_⟩
    cases j with
    | zero=>simp at hj;obtain⟨rfl,rfl⟩:=hj;exact⟨by simpa using hn,a.eval x,rfl,bD h h1⟩
    | succ j=>simpa using k2 j i' c' (by simpa using hj)
  ·cases hp
def mf (ak:List (Nat×TI)):List (Nat×TypeId)→Option (List (Nat×Nat))
 | []=>some []
 | (off,t)::r=>match assoc ak t,mf ak r with
  | some i,some ps=>some ((off,i.size)::ps)
  | _,_=>none
def pA (ak:List (Nat×TI))(s:St)(t:TypeId)(parts:List (Nat×Operand)):Option CV:=
 match assoc ak t with
 | none=>none
 | some it=>match it.d with
  | .a6 fs=>match mf ak fs,fZ s parts with
   | some ps,some cs=>(kT (ps[·]?) it.zero cs).map CV.agg
   | _,_=>none
  | .arr _ e=>match assoc ak e,fZ s parts with
   | some ie,some cs=>(kT (fun i=>some (i*ie.size,ie.size)) it.zero cs).map CV.agg
   | _,_=>none
  | _=>none
theorem gT {t:TypeId}{f:TypeInfo}{z:Value}(h:P.info? t=some f)(hz:f.zero=some z)(w:World):(zeroValue t).run P w=.ok z w:=by
 simp[zeroValue,qP h,hz]
theorem lp {ak:List (Nat×TI)}(ht:ay P ak):∀ (fs:List Field) (ps:List (Nat×Nat)),mf ak (fs.map fun f=>(f.offset,f.type))=some ps →
  (fs.mapM fun f=>do pure (f.offset,← sizeOf f.type):Sem (List (Nat×Nat))).run P w=.ok ps w
 | [],ps,h=>by simp only[List.map_nil,mf] at h;cases h;simp
 | f::fs,ps,h=>by
  simp only[List.map_cons,mf] at h;split at h
  ·rename_i i Lo h1 h2;cases h;obtain⟨g,z,e1,e2,_⟩:=(ht _ i h1).info;have:=lp ht fs Lo h2;simp only[List.mapM_cons,Sem.run_bind,ch e1,e2,this,Result.andThen_ok,Sem.run_pure]
  ·cases h
theorem BE {ak:List (Nat×TI)}(ht:ay P ak)(h:aB C σ s a w){t:TypeId}{parts:List (Nat×Operand)}{c:CV}(hc:pA ak s t parts=some c) :
  ∃ u,(Instr.build t (parts.map fun (p:Nat×Operand)=>(p.1,a.eval p.2)).toArray).run P w=.ok u w∧VR w (FB C σ s.heap) σ c u:=by
 unfold pA at hc;split at hc
 ·cases hc
 rename_i it Fl;have hT:=ht t it Fl;obtain⟨f,z,e1,_,_,e4,e5⟩:=hT.info;obtain⟨k1,k2⟩:=cw (w:=w) (F:=FB C σ s.heap) _ _ e5;split at hc
 ·rename_i fs hd;obtain⟨fields,hu,rfl⟩:=oT hT hd;split at hc
  ·rename_i ps cs Lt Kr;obtain⟨out,hf,rfl⟩:=Option.map_eq_some_iff.1 hc;obtain⟨l1,l2⟩:=kg h _ _ Kr;obtain⟨us,m1,m2,m3⟩:=lJ (ps[·]?) cs (parts.map fun p=>(p.1,a.eval p.2)) it.zero out z.cells (by simpa using l1) l2 (aG.ca _ _ k1) k2 hf;refine⟨.agg us,?_,by simp only[VR];exact⟨us.toList,by simp,m2,m3⟩⟩;have hm:=lp (w:=w) ht fields.toList ps Lt;have Rg:(fields.mapM fun f=>do pure (f.offset,← sizeOf f.type):Sem (Array (Nat×Nat))).run P w=.ok ps.toArray w:=by
    rw[Array.mapM_eq_mapM_toList];simp only[Sem.run_map,hm,Result.andThen_ok]
   simp only[Instr.build,Sem.run_bind,gT e1 e4,bp hu,Result.andThen_ok,Rg,List.getElem?_toArray,m1];rfl
  ·cases hc
 ·rename_i n e hd;split at hc
  ·rename_i ie cs CW Kr;obtain⟨out,hf,rfl⟩:=Option.map_eq_some_iff.1 hc;obtain⟨l1,l2⟩:=kg h _ _ Kr;obtain⟨g,zz,g1,g2,_⟩:=(ht e ie CW).info;obtain⟨us,m1,m2,m3⟩:=lJ _ cs (parts.map fun p=>(p.1,a.eval p.2)) it.zero out z.cells (by simpa using l1) l2 (aG.ca _ _ k1) k2 hf;refine⟨.agg us,?_,by simp only[VR];exact⟨us.toList,by simp,m2,m3⟩⟩;simp only[Instr.build,Sem.run_bind,gT e1 e4,bp (lN hT hd),Result.andThen_ok,ch g1,g2,m1];rfl
  ·cases hc
 ·cases hc
end
end Go.Can
