/- The operations that turn nothing in memory: what each yields -/
import Derived.Test.YtmnglemlimfpbaaGreatZ01
namespace Go.Can
open Go.RowKit
def oL (w:World)(F:Nat→Prop)(σ:Nat→Option OB)(cs:List CV)(ad:Addr):Prop:=
 ∃ us:List Value,aS w F σ cs us∧cs.all one=true∧∀ j u,us[j]? = some u→w.cell? (ad.add j)=some u
theorem oL.drop {w:World}{F:Nat→Prop}{σ:Nat→Option OB}{cs:List CV}{ad:Addr}(k:Nat)(h:oL w F σ cs ad):oL w F σ (cs.drop k) (ad.add k):=by
 obtain⟨us,h1,h2,h3⟩:=h
 refine⟨us.drop k,aS.drop k cs us h1,?_,fun j u hu=>?_⟩
 ·rw[List.all_eq_true] at h2 ⊢
  exact fun x hx=>h2 x (List.mem_of_mem_drop hx)
 ·rw[List.getElem?_drop] at hu
  rw[add_add];exact h3 _ u hu
def fF (s:St):CV→Option (List CV)
 | .cM cs=>some cs
 | .aw o off=>(assoc s.heap o).map (·.cells.drop off)
 | _=>none
section
variable {P:Program}{C:Cx}{σ:Nat→Option OB}{s:St}{a:Act}{w:World}
theorem F6 (h:aG C σ s a w){o:Nat}{ob:Ob}{B:OB}{b:Nat}(ho:assoc s.heap o=some ob)(hB:σ o=some B)(hb:B.jX=some b) :
  oL w (FB C σ s.heap) σ ob.cells ⟨b,0,none⟩:=by
 obtain⟨B',e1,_,_,e4,e5⟩:=h.obj o ob ho
 rw[hB] at e1;cases e1
 obtain⟨cur,k1,k2,k3,k4,k5,k6⟩:=e5 b hb
 refine⟨_,k6,e4,fun j u hu=>?_⟩
 rw[add_lit,Nat.zero_add,cell_of_row w b j cur _ _ k1]
 rw[List.getElem?_take] at hu
 split at hu
 ·simpa using hu
 ·cases hu
theorem z8 (h:aG C σ s a w){c:CV}{v:Value}{cs:List CV}(hv:VR w (FB C σ s.heap) σ c v)(hm:fF s c=some cs) :
  ∃ ad,v=.pointer (some ad)∧oL w (FB C σ s.heap) σ cs ad:=by
 unfold fF at hm
 split at hm
 ·rename_i cs'
  cases hm
  simp only[VR,bY] at hv
  obtain⟨ad,e,hm⟩:=hv
  obtain⟨us,h1,_,h3⟩:=fw.cells _ _ hm
  exact⟨ad,e,us,aS.cu _ _ h1,fw.KE _ _ hm,h3⟩
 ·rename_i o off
  obtain⟨ob,ho,rfl⟩:=Option.map_eq_some_iff.1 hm
  simp only[VR] at hv
  obtain⟨B,b,hB,hb,rfl⟩:=hv
  refine⟨_,rfl,?_⟩
  have:=(F6 h ho hB hb).drop off
  rw[add_lit,Nat.zero_add] at this
  exact this
 ·cases hm
theorem wK {t:TypeId}{i:TI}(hT:cD P t i)(w:World):(isAgg t).run P w=.ok i.agg w:=by
 obtain⟨d,h1,h2⟩:=hT.y7
 simp only[isAgg,Sem.run_bind,bq h1,Result.andThen_ok]
 unfold TI.agg
 rw[← h2]
 cases d<;>rfl
def mT (i:TI)(cs:List CV):Option CV:=
 if i.agg then (if i.size≤cs.length then some (.agg (cs.take i.size)) else none) else cs.head?
theorem AT {t:TypeId}{i:TI}(hT:cD P t i){F:Nat→Prop}{cs:List CV}{ad:Addr}{c:CV}(hm:oL w F σ cs ad)(hc:mT i cs=some c) :
  ∃ v,(loadVar t ad).run P w=.ok v w∧VR w F σ c v:=by
 obtain⟨us,h1,h2,h3⟩:=hm
 obtain⟨f,z,e1,e2,_⟩:=hT.info
 unfold mT at hc
 simp only[loadVar,Sem.run_bind,wK hT,Result.andThen_ok]
 split at hc
 ·rename_i ha
  split at hc
  ·rename_i hl
   cases hc
   rw[ha]
   have hlen:=aS.length _ _ h1
   have h4:(loadCells ad i.size).run P w=.ok (us.take i.size).toArray w:=by
    have:=run_loadCells_list (P:=P) w ad (us.take i.size) (fun j v hv=>by
     rw[List.getElem?_take] at hv
     split at hv
     ·exact h3 j v hv
     ·cases hv)
    rwa [List.length_take,Nat.min_eq_left yA] at this
   refine⟨.agg (us.take i.size).toArray,by simp[cN e1,e2,h4],?_⟩
   simp only[VR]
   refine⟨us.take i.size,rfl,aS.take _ _ _ h1,?_⟩
   rw[List.all_eq_true] at h2 ⊢
   exact fun x hx=>h2 x (List.mem_of_mem_take hx)
  ·cases hc
 ·rename_i ha
  rw[Bool.not_eq_true] at ha
  rw[ha]
  obtain⟨v,k1,k2⟩:=aS.get _ _ h1 0 c (by rwa [← List.head?_eq_getElem?])
  have:=h3 0 v k1
  rw[add_zero] at this
  exact⟨v,by simp[this],k2⟩
def yT (aq:List (Nat×TI))(t:TypeId)(x:CV)(i:Int):Option CV:=
 match assoc aq t with
 | none=>none
 | some it=>
  match it.d with
  | .sl e=>
   match assoc aq e with
   | none=>none
   | some ie=>
    match x with
    | .av cs n=>if 0≤i∧i<n then some (.cM (cs.drop (i.toNat*ie.size))) else none
    | .bx o off n=>if 0≤i∧i<n then some (.aw o (off+i.toNat*ie.size)) else none
    | _=>none
  | .arr n e=>
   match assoc aq e with
   | none=>none
   | some ie=>
    match x with
    | .cM cs=>if 0≤i∧i<n then some (.cM (cs.drop (i.toNat*ie.size))) else none
    | .aw o off=>if 0≤i∧i<n then some (.aw o (off+i.toNat*ie.size)) else none
    | _=>none
  | _=>none
theorem dE {t e:TypeId}{i:TI}(hT:cD P t i)(hd:i.d=.sl e):P.underlying t=some (.slice e):=by
 obtain⟨d,h1,h2⟩:=hT.y7
 rw[hd] at h2
 cases d<;>simp only[sD] at h2<;>first | cases h2 | skip
 exact h1
theorem og {t e:TypeId}{n:Nat}{i:TI}(hT:cD P t i)(hd:i.d=.arr n e):P.underlying t=some (.array n e):=by
 obtain⟨d,h1,h2⟩:=hT.y7
 rw[hd] at h2
 cases d<;>simp only[sD] at h2<;>first | cases h2 | skip
 exact h1
theorem qR {t:TypeId}{fs:List (Nat×TypeId)}{i:TI}(hT:cD P t i)(hd:i.d=.bK fs):∃ fields,P.underlying t=some (.struct fields)∧fields.toList.map (fun f=>(f.offset,f.type))=fs:=by
 obtain⟨d,h1,h2⟩:=hT.y7
 rw[hd] at h2
 cases d<;>simp only[sD] at h2<;>first | cases h2 | skip
 exact⟨_,h1,rfl⟩
theorem Fb {t:TypeId}{i:TI}(hT:cD P t i)(hd:i.d=.bool):P.underlying t=some .bool:=by
 obtain⟨d,h1,h2⟩:=hT.y7
 rw[hd] at h2
 cases d<;>simp only[sD] at h2<;>first | cases h2 | skip
 exact h1
theorem xG {aq:List (Nat×TI)}(ht:ay P aq){F:Nat→Prop}{t:TypeId}{x c:CV}{v:Value}{i:Int}{k:IntKind}(hv:VR w F σ x v)(hc:yT aq t x i=some c) :
  ∃ u,(∀ w',(Instr.indexAt t v (.int k i)).run P w'=.ok u w')∧VR w F σ c u:=by
 unfold yT at hc
 split at hc
 ·cases hc
 rename_i it hit
 have hT:=ht t it hit
 split at hc
 ·rename_i e hd
  split at hc
  ·cases hc
  rename_i ie hie
  obtain⟨f,z,e1,e2,_⟩:=(ht e ie hie).info
  have hu:=dE hT hd
  split at hc
  ·rename_i cs n
   split at hc
   ·rename_i hb
    cases hc
    simp only[VR,bY] at hv
    obtain⟨A,cap,rfl,_,_,h4⟩:=hv
    rcases h4 with ⟨h4,_⟩ | ⟨ad,rfl,hm⟩
    ·omega
    ·refine⟨.pointer (some (ad.add (i.toNat*ie.size))),?_,by simp only[VR,bY];exact⟨_,rfl,fw.drop _ _ _ hm⟩⟩
     intro w';simp[Instr.indexAt,asIntOf,bq hu,cN e1,e2,hb]
   ·cases hc
  ·rename_i o off n
   split at hc
   ·rename_i hb
    cases hc
    simp only[VR] at hv
    obtain⟨B,hB,hv⟩:=hv
    split at hv
    ·obtain⟨rfl,_,h0⟩:=hv;omega
    ·rename_i b hb'
     obtain⟨cap,rfl,_⟩:=hv
     refine⟨.pointer (some ⟨b,off+i.toNat*ie.size,none⟩),?_,by simp only[VR];exact⟨B,b,hB,hb',rfl⟩⟩
     intro w';simp[Instr.indexAt,asIntOf,bq hu,cN e1,e2,hb,add_lit]
   ·cases hc
  ·cases hc
 ·rename_i n e hd
  split at hc
  ·cases hc
  rename_i ie hie
  obtain⟨f,z,e1,e2,_⟩:=(ht e ie hie).info
  have hu:=og hT hd
  split at hc
  ·rename_i cs
   split at hc
   ·rename_i hb
    cases hc
    simp only[VR,bY] at hv
    obtain⟨ad,rfl,hm⟩:=hv
    refine⟨.pointer (some (ad.add (i.toNat*ie.size))),?_,by simp only[VR,bY];exact⟨_,rfl,fw.drop _ _ _ hm⟩⟩
    intro w';simp[Instr.indexAt,asIntOf,bq hu,cN e1,e2,hb,Instr.sureAddr]
   ·cases hc
  ·rename_i o off
   split at hc
   ·rename_i hb
    cases hc
    simp only[VR] at hv
    obtain⟨B,b,hB,hb',rfl⟩:=hv
    refine⟨.pointer (some ⟨b,off+i.toNat*ie.size,none⟩),?_,by simp only[VR];exact⟨B,b,hB,hb',rfl⟩⟩
    intro w';simp[Instr.indexAt,asIntOf,bq hu,cN e1,e2,hb,Instr.sureAddr,add_lit]
   ·cases hc
  ·cases hc
 ·cases hc
def mG (aq:List (Nat×TI))(t:TypeId)(x:CV)(f:Nat):Option CV:=
 match assoc aq t with
 | none=>none
 | some it=>
  match it.d with
  | .bK fs=>
   match fs[f]? with
   | none=>none
   | some (off,ft)=>
    match assoc aq ft with
    | none=>none
    | some ie=>
     if ie.size=0 then none else
     match x with
     | .cM cs=>some (.cM (cs.drop off))
     | .aw o p=>some (.aw o (p+off))
     | _=>none
  | _=>none
theorem pf {aq:List (Nat×TI)}(ht:ay P aq){F:Nat→Prop}{t:TypeId}{x c:CV}{v:Value}{f:Nat}(hv:VR w F σ x v)(hc:mG aq t x f=some c) :
  ∃ u,(∀ w',(Instr.fieldAt t v f).run P w'=.ok u w')∧VR w F σ c u:=by
 unfold mG at hc
 split at hc
 ·cases hc
 rename_i it hit
 have hT:=ht t it hit
 split at hc
 ·rename_i fs hd
  split at hc
  ·cases hc
  rename_i off ft hf
  split at hc
  ·cases hc
  rename_i ie hie
  obtain⟨g,z,e1,e2,_⟩:=(ht ft ie hie).info
  obtain⟨fields,hu,hfs⟩:=qR hT hd
  have hf':∃ fl:Field,fields[f]? = some fl∧fl.offset=off∧fl.type=ft:=by
   rw[← hfs,List.getElem?_map] at hf
   obtain⟨fl,h1,h2⟩:=Option.map_eq_some_iff.1 hf
   simp only[Prod.mk.injEq] at h2
   exact⟨fl,by simpa using h1,h2⟩
  obtain⟨fl,hf1,rfl,rfl⟩:=hf'
  split at hc
  ·cases hc
  rename_i hz
  split at hc
  ·rename_i cs
   cases hc
   simp only[VR,bY] at hv
   obtain⟨ad,rfl,hm⟩:=hv
   refine⟨.pointer (some (ad.add fl.offset)),?_,by simp only[VR,bY];exact⟨_,rfl,fw.drop _ _ _ hm⟩⟩
   intro w';simp[Instr.fieldAt,bq hu,hf1,Instr.sureAddr,fieldPlace,cN e1,e2,hz]
  ·rename_i o p
   cases hc
   simp only[VR] at hv
   obtain⟨B,b,hB,hb',rfl⟩:=hv
   refine⟨.pointer (some ⟨b,p+fl.offset,none⟩),?_,by simp only[VR];exact⟨B,b,hB,hb',rfl⟩⟩
   intro w';simp[Instr.fieldAt,bq hu,hf1,Instr.sureAddr,fieldPlace,cN e1,e2,hz,add_lit]
  ·cases hc
 ·cases hc
theorem CL {t:TypeId}{i:TI}(hT:cD P t i){F:Nat→Prop}{cs:List CV}{vs:List Value}{c:CV}(h1:aS w F σ cs vs)(h2:cs.all one=true)(off:Nat)(hc:mT i (cs.drop off)=some c) :
  ∃ v,(part t vs.toArray off).run P w=.ok v w∧VR w F σ c v:=by
 obtain⟨f,z,e1,e2,_⟩:=hT.info
 have h1':=aS.drop off _ _ h1
 have h2':(cs.drop off).all one=true:=by
  rw[List.all_eq_true] at h2 ⊢
  exact fun x hx=>h2 x (List.mem_of_mem_drop hx)
 unfold mT at hc
 simp only[part,Sem.run_bind,wK hT,Result.andThen_ok]
 split at hc
 ·rename_i ha
  split at hc
  ·rename_i hl
   cases hc
   rw[ha]
   refine⟨.agg ((vs.drop off).take i.size).toArray,?_,?_⟩
   ·simp[cN e1,e2,List.take_drop]
   ·simp only[VR]
    refine⟨_,rfl,aS.take _ _ _ h1',?_⟩
    rw[List.all_eq_true] at h2' ⊢
    exact fun x hx=>h2' x (List.mem_of_mem_take hx)
  ·cases hc
 ·rename_i ha
  rw[Bool.not_eq_true] at ha
  rw[ha]
  obtain⟨v,k1,k2⟩:=aS.get _ _ h1' 0 c (by rwa [← List.head?_eq_getElem?])
  rw[List.getElem?_drop] at k1
  refine⟨v,?_,k2⟩
  have:vs.toArray[off]? = some v:=by simpa using k1
  simp[this]
def yV (aq:List (Nat×TI))(t:TypeId)(x:CV)(f:Nat):Option CV:=
 match assoc aq t with
 | none=>none
 | some it=>
  match it.d with
  | .bK fs=>
   match fs[f]? with
   | none=>none
   | some (off,ft)=>
    match assoc aq ft with
    | none=>none
    | some ie=>
     match x with
     | .agg cs=>mT ie (cs.drop off)
     | _=>none
  | _=>none
theorem Ez {aq:List (Nat×TI)}(ht:ay P aq){F:Nat→Prop}{t:TypeId}{x c:CV}{v:Value}{f:Nat}(hv:VR w F σ x v)(hc:yV aq t x f=some c) :
  ∃ u,(Instr.field t v f).run P w=.ok u w∧VR w F σ c u:=by
 unfold yV at hc
 split at hc
 ·cases hc
 rename_i it hit
 have hT:=ht t it hit
 split at hc
 ·rename_i fs hd
  split at hc
  ·cases hc
  rename_i off ft hf
  split at hc
  ·cases hc
  rename_i ie hie
  obtain⟨fields,hu,hfs⟩:=qR hT hd
  have hf':∃ fl:Field,fields[f]? = some fl∧fl.offset=off∧fl.type=ft:=by
   rw[← hfs,List.getElem?_map] at hf
   obtain⟨fl,h1,h2⟩:=Option.map_eq_some_iff.1 hf
   simp only[Prod.mk.injEq] at h2
   exact⟨fl,by simpa using h1,h2⟩
  obtain⟨fl,hf1,rfl,rfl⟩:=hf'
  split at hc
  ·rename_i cs
   simp only[VR] at hv
   obtain⟨vs,rfl,h1,h2⟩:=hv
   obtain⟨u,k1,k2⟩:=CL (P:=P) (ht _ _ hie) h1 h2 fl.offset hc
   exact⟨u,by simp[Instr.field,bq hu,hf1,asAgg,k1],k2⟩
  ·cases hc
 ·cases hc
def ti (aq:List (Nat×TI))(t:TypeId)(x:CV)(i:Int):Option CV:=
 match x with
 | .str s=>match assoc aq t with
  | some it=>match it.d with
   | .str=>if 0≤i then (s[i.toNat]?).map fun b=>.int .u8 b.toNat else none
   | _=>none
  | none=>none
 | .agg cs=>match assoc aq t with
  | some it=>match it.d with
   | .arr n e=>match assoc aq e with
    | some ie=>if 0≤i∧i<n then mT ie (cs.drop (i.toNat*ie.size)) else none
    | none=>none
   | _=>none
  | none=>none
 | _=>none
theorem ma {t:TypeId}{i:TI}(hT:cD P t i)(hd:i.d=.str):P.underlying t=some .string:=by
 obtain⟨d,h1,h2⟩:=hT.y7
 rw[hd] at h2
 cases d<;>simp only[sD] at h2<;>first | cases h2 | skip
 exact h1
theorem Cg {aq:List (Nat×TI)}(ht:ay P aq){F:Nat→Prop}{t:TypeId}{x c:CV}{v:Value}{i:Int}{k:IntKind}(hv:VR w F σ x v)(hc:ti aq t x i=some c) :
  ∃ u,(Instr.index t v (.int k i)).run P w=.ok u w∧VR w F σ c u:=by
 unfold ti at hc
 split at hc
 ·rename_i s'
  split at hc
  ·rename_i it hit
   split at hc
   ·rename_i hd
    split at hc
    ·rename_i h0
     obtain⟨b,hb,rfl⟩:=Option.map_eq_some_iff.1 hc
     simp only[VR] at hv
     subst hv
     exact⟨.int .u8 b.toNat,by simp[Instr.index,asIntOf,bq (ma (ht t it hit) hd),h0,hb],dO _ _⟩
    ·cases hc
   ·cases hc
  ·cases hc
 ·rename_i cs
  split at hc
  ·rename_i it hit
   split at hc
   ·rename_i n e hd
    split at hc
    ·rename_i ie hie
     split at hc
     ·rename_i hb
      simp only[VR] at hv
      obtain⟨vs,rfl,h1,h2⟩:=hv
      obtain⟨f,z,e1,e2,_⟩:=(ht e ie hie).info
      obtain⟨u,k1,k2⟩:=CL (P:=P) (ht e ie hie) h1 h2 _ hc
      exact⟨u,by simp[Instr.index,asIntOf,bq (og (ht t it hit) hd),hb,cN e1,e2,k1],k2⟩
     ·cases hc
    ·cases hc
   ·cases hc
  ·cases hc
 ·cases hc
end
end Go.Can
/- Cuts, lengths, least and greatest, composites: what each yields, and that the model yields the same. No function of the program is mentioned here. -/
namespace Go.Can
open Go.RowKit
section
variable {P:Program}{C:Cx}{σ:Nat→Option OB}{s:St}{a:Act}{w:World}
theorem HE {F:Nat→Prop}{A:Option Addr}{cap:Nat}(h:cap≤maxLen):VR w F σ (.av [] 0) (.slice A 0 cap):=by simp[VR,bY];exact⟨A,cap,⟨rfl,rfl⟩,h⟩
def Jc (aq:List (Nat×TI))(t:TypeId)(x:CV):Option CV:=
 match assoc aq t with
 | none=>none
 | some it=>match it.d,x with
  | .str,.str s=>some (.int .i64 s.size)
  | .sl _,.av _ n=>some (.int .i64 n)
  | .sl _,.bx _ _ n=>some (.int .i64 n)
  | .sl _,.ah=>some (.int .i64 0)
  | .arr n _,_=>some (.int .i64 n)
  | _,_=>none
theorem Jb {aq:List (Nat×TI)}(ht:ay P aq){F:Nat→Prop}{t ty:TypeId}{x c:CV}{v:Value}(hv:VR w F σ x v)(hc:Jc aq t x=some c) :
  ∃ u,(Builtin.len_ #[t] ty #[v]).run P w=.ok u w∧VR w F σ c u:=by
 unfold Jc at hc
 split at hc
 ·cases hc
 rename_i it hit
 have hT:=ht t it hit
 split at hc
 ·rename_i hd
  cases hc
  simp only[VR] at hv
  subst hv
  exact⟨_,by simp[Builtin.len_,bq (ma hT hd),goInt],dO _ _⟩
 ·rename_i e cs n hd
  cases hc
  simp only[VR,bY] at hv
  obtain⟨A,cap,rfl,_⟩:=hv
  exact⟨_,by simp[Builtin.len_,bq (dE hT hd),goInt],dO _ _⟩
 ·rename_i e o off n hd
  cases hc
  simp only[VR] at hv
  obtain⟨B,_,hv⟩:=hv
  split at hv
  ·obtain⟨rfl,_,rfl⟩:=hv
   exact⟨_,by simp[Builtin.len_,bq (dE hT hd),goInt],dO _ _⟩
  ·obtain⟨cap,rfl,_⟩:=hv
   exact⟨_,by simp[Builtin.len_,bq (dE hT hd),goInt],dO _ _⟩
 ·rename_i e hd
  cases hc
  simp only[VR] at hv
  subst hv
  exact⟨_,by simp[Builtin.len_,bq (dE hT hd),goInt],dO _ _⟩
 ·rename_i n e hd
  cases hc
  exact⟨_,by simp[Builtin.len_,bq (og hT hd),goInt],dO _ _⟩
 ·cases hc
def lv (f:Int→Int→Int)(k:IntKind):Int→List CV→Option CV
 | x,[]=>some (.int k x)
 | x,.int _ y::r=>lv f k (f x y) r
 | _,_=>none
def KX (x y:Int):Int:=if y<x then y else x
def imax (x y:Int):Int:=if y > x then y else x
theorem Dk {F:Nat→Prop}{k:IntKind}:∀ (cs:List CV) (x:Int) (vs:List Value) (c:CV),aS w F σ cs vs→lv KX k x cs=some c →
  ∃ u,(vs.foldlM Builtin.min2 (.int k x)).run P w=.ok u w∧VR w F σ c u
 | [],x,vs,c,hv,hc=>by
  simp only[aS,lv] at hv hc;subst hv;cases hc
  exact⟨_,by simp,dO _ _⟩
 | d::cs,x,vs,c,hv,hc=>by
  unfold lv at hc
  split at hc
  ·rename_i e;cases e
  ·rename_i e
   cases e
   simp only[aS] at hv
   obtain⟨v,r,rfl,h1,h2⟩:=hv
   simp only[VR] at h1
   subst h1
   obtain⟨u,k1,k2⟩:=Dk cs _ r c h2 hc
   exact⟨u,by simp only[List.foldlM_cons,Builtin.min2,Sem.run_bind,Sem.run_pure,Result.andThen_ok];exact k1,k2⟩
  ·cases hc
theorem Dl {F:Nat→Prop}{k:IntKind}:∀ (cs:List CV) (x:Int) (vs:List Value) (c:CV),aS w F σ cs vs→lv imax k x cs=some c →
  ∃ u,(vs.foldlM Builtin.max2 (.int k x)).run P w=.ok u w∧VR w F σ c u
 | [],x,vs,c,hv,hc=>by
  simp only[aS,lv] at hv hc;subst hv;cases hc
  exact⟨_,by simp,dO _ _⟩
 | d::cs,x,vs,c,hv,hc=>by
  unfold lv at hc
  split at hc
  ·rename_i e;cases e
  ·rename_i e
   cases e
   simp only[aS] at hv
   obtain⟨v,r,rfl,h1,h2⟩:=hv
   simp only[VR] at h1
   subst h1
   obtain⟨u,k1,k2⟩:=Dl cs _ r c h2 hc
   exact⟨u,by simp only[List.foldlM_cons,Builtin.max2,Sem.run_bind,Sem.run_pure,Result.andThen_ok];exact k1,k2⟩
  ·cases hc
def dz (aq:List (Nat×TI))(t:TypeId):Option TD:=(assoc aq t).map (·.d)
def du (s:St)(x:Option Operand)(d:Nat):Option Nat:=
 match x with
 | none=>some d
 | some o=>match ev s o with
  | some (.int _ i)=>if 0≤i then some i.toNat else none
  | _=>none
def lu (aq:List (Nat×TI))(s:St)(t:TypeId)(x:CV)(lo hi:Option Operand):Option CV:=
 match x with
 | .str b=>match dz aq t with
  | some .str=>match du s hi b.size,du s lo 0 with
   | some h,some l=>if l≤h∧h≤b.size then some (.str (b.extract l h)) else none
   | _,_=>none
  | _=>none
 | .av cs n=>match dz aq t with
  | some (.sl e)=>match assoc aq e with
   | some ie=>match du s hi n,du s lo 0 with
    | some h,some l=>if l≤h∧h≤n then some (.av ((cs.drop (l*ie.size)).take ((h-l)*ie.size)) (h-l)) else none
    | _,_=>none
   | none=>none
  | _=>none
 | .ah=>match dz aq t with
  | some (.sl e)=>match assoc aq e with
   | some _=>match du s hi 0,du s lo 0 with
    | some h,some l=>if l=0∧h=0 then some .ah else none
    | _,_=>none
   | none=>none
  | _=>none
 | .bx o off n=>match dz aq t with
  | some (.sl e)=>match assoc aq e,assoc s.heap o with
   | some ie,some ob=>match du s hi n,du s lo 0 with
    | some h,some l=>if l≤h∧h≤n∧ie.size=ob.sz then (if l=0 then some (.bx o off h) else if h=l then some (.av [] 0) else some (.bx o (off+l*ie.size) (h-l))) else none
    | _,_=>none
   | _,_=>none
  | _=>none
 | .aw o f=>match dz aq t with
  | some (.arr n e)=>match assoc aq e,assoc s.heap o with
   | some _,some ob=>match lo,hi with
    | none,none=>if 0<f∧0<n∧n≤1000000∧ob.sz=0∧f≤ob.cells.length then some (.bx o f n) else none
    | _,_=>none
   | _,_=>none
  | _=>none
 | _=>none
theorem l6 (h:aG C σ s a w){x:Option Operand}{d n:Nat}(hb:du s x d=some n) :
  (x=none∧n=d)∨∃ o k i,x=some o∧a.eval o=.int k i∧0≤i∧n=i.toNat:=by
 unfold du at hb
 split at hb
 ·cases hb;exact .inl ⟨rfl,rfl⟩
 ·rename_i o
  split at hb
  ·rename_i k i he
   split at hb
   ·rename_i h0
    cases hb
    have:=bz h he
    simp only[VR] at this
    exact .inr ⟨o,k,i,rfl,this,h0,rfl⟩
   ·cases hb
  ·cases hb
theorem fc (h:aG C σ s a w){lo hi:Option Operand}{len cap l n:Nat}{isSlice:Bool}(hh:du s hi len=some n)(hl:du s lo 0=some l)(h1:l≤n)(h2:n≤cap) :
  (Instr.sliceBounds isSlice len cap (lo.map a.eval) (hi.map a.eval) none).run P w=.ok (l,n,cap) w:=by
 have e1:∀ (k:IntKind) (i:Int) (y:Nat) (code:BoundsCode),0≤i→i.toNat≤y→(Instr.sliceBound (.int k i) y code).run P w=.ok i.toNat w:=fun k i y code h0 h1=>by
  simp only[Instr.sliceBound,asIntOf,pure_bind]
  rw[if_pos ⟨h0,by omega⟩];rfl
 rcases l6 h hh with ⟨rfl,rfl⟩ | ⟨oh,kh,ih,rfl,eh,h0,rfl⟩<;>rcases l6 h hl with ⟨rfl,rfl⟩ | ⟨ol,kl,il,rfl,el,h0',rfl⟩
 ·simp[Instr.sliceBounds]
 ·simp[Instr.sliceBounds,el,e1 _ _ _ _ h0' h1]
 ·simp[Instr.sliceBounds,eh,e1 _ _ _ _ h0 h2]
 ·simp[Instr.sliceBounds,eh,el,e1 _ _ _ _ h0 h2,e1 _ _ _ _ h0' h1]
theorem Ev {aq:List (Nat×TI)}(ht:ay P aq)(h:aG C σ s a w){t:TypeId}{x c:CV}{v:Value}{lo hi:Option Operand}(hv:VR w (FB C σ s.heap) σ x v)(hc:lu aq s t x lo hi=some c) :
  ∃ u,(Instr.sliceAt t v (lo.map a.eval) (hi.map a.eval) none).run P w=.ok u w∧VR w (FB C σ s.heap) σ c u:=by
 unfold lu at hc
 split at hc
 ·rename_i b
  split at hc
  ·rename_i hd
   obtain⟨it,hit,hd⟩:=Option.map_eq_some_iff.1 hd
   split at hc
   ·rename_i hh l hh1 hl1
    split at hc
    ·rename_i hb
     cases hc
     simp only[VR] at hv
     subst hv
     exact⟨_,by simp[Instr.sliceAt,Instr.slice,bq (ma (ht t it hit) hd),fc h hh1 hl1 hb.1 hb.2],y4 _⟩
    ·cases hc
   ·cases hc
  ·cases hc
 ·rename_i cs n
  split at hc
  ·rename_i e hd
   obtain⟨it,hit,hd⟩:=Option.map_eq_some_iff.1 hd
   split at hc
   ·rename_i ie hie
    split at hc
    ·rename_i hh l hh1 hl1
     split at hc
     ·rename_i hb
      cases hc
      obtain⟨f,z,e1,e2,_⟩:=(ht e ie hie).info
      simp only[VR,bY] at hv
      obtain⟨A,cap,rfl,h1,h2,h3⟩:=hv
      refine⟨.slice (if cap=l then A else A.map (·.add (l*ie.size))) (hh-l) (cap-l),?_,?_⟩
      ·simp[Instr.sliceAt,Instr.slice,bq (dE (ht t it hit) hd),fc h hh1 hl1 hb.1 (Nat.le_trans hb.2 h1),cN e1,e2]
      ·simp only[VR,bY]
       refine⟨_,_,rfl,by omega,by omega,?_⟩
       rcases h3 with ⟨h3,rfl⟩ | ⟨ad,rfl,hm⟩
       ·exact .inl ⟨by omega,by simp⟩
       ·by_cases hl0:hh=l
        ·exact .inl ⟨by omega,by simp[hl0]⟩
        ·refine .inr ⟨ad.add (l*ie.size),?_,fw.take _ _ _ (fw.drop _ _ _ hm)⟩
         rw[if_neg yA];rfl
     ·cases hc
    ·cases hc
   ·cases hc
  ·cases hc
 ·split at hc
  ·rename_i e hd
   obtain⟨it,hit,hd⟩:=Option.map_eq_some_iff.1 hd
   split at hc
   ·rename_i ie hie
    split at hc
    ·rename_i hh l hh1 hl1
     split at hc
     ·rename_i hb
      obtain⟨rfl,rfl⟩:=hb
      cases hc
      obtain⟨f,z,e1,e2,_⟩:=(ht e ie hie).info
      simp only[VR] at hv
      subst hv
      refine⟨.slice none 0 0,?_,by simp[VR]⟩
      simp[Instr.sliceAt,Instr.slice,bq (dE (ht t it hit) hd),fc h hh1 hl1 (Nat.le_refl _) (Nat.le_refl _),cN e1]
     ·cases hc
    ·cases hc
   ·cases hc
  ·cases hc
 ·rename_i o off n
  split at hc
  ·rename_i e hd
   obtain⟨it,hit,hd⟩:=Option.map_eq_some_iff.1 hd
   split at hc
   ·rename_i ie ob hie hob
    split at hc
    ·rename_i hh l hh1 hl1
     split at hc
     ·rename_i hb
      obtain⟨f,z,e1,e2,_⟩:=(ht e ie hie).info
      obtain⟨B,hB,hsz,_⟩:=h.obj o ob hob
      simp only[VR] at hv
      obtain⟨B',hB',hv⟩:=hv
      rw[hB] at hB';cases hB'
      split at hv
      ·obtain⟨rfl,rfl,rfl⟩:=hv
       have:hh=0∧l=0:=by omega
       obtain⟨rfl,rfl⟩:=this
       cases hc
       rename_i hbl
       refine⟨.slice none 0 0,?_,by simp only[VR];exact⟨B,hB,by rw[hbl];simp⟩⟩
       simp[Instr.sliceAt,Instr.slice,bq (dE (ht t it hit) hd),fc h hh1 hl1 (Nat.le_refl _) (Nat.le_refl _),cN e1]
      ·rename_i b hbl
       obtain⟨cap,rfl,h1,h2,h3,h4⟩:=hv
       refine⟨.slice (if cap=l then some ⟨b,off,none⟩ else some ((⟨b,off,none⟩:Addr).add (l*ie.size))) (hh-l) (cap-l),?_,?_⟩
       ·simp[Instr.sliceAt,Instr.slice,bq (dE (ht t it hit) hd),fc h hh1 hl1 hb.1 (Nat.le_trans hb.2.1 h1),cN e1,e2]
       ·split at hc
        ·rename_i hl0
         subst hl0
         cases hc
         simp only[VR]
         refine⟨B,hB,?_⟩
         rw[hbl]
         exact⟨cap,by simp[add_zero],by omega,h2,h3,h4⟩
        ·split at hc
         ·rename_i hl
          cases hc
          rw[hl,Nat.sub_self]
          exact HE yA
         ·rename_i hl0 hl
          cases hc
          simp only[VR]
          refine⟨B,hB,?_⟩
          rw[hbl]
          have hm:(cap-l)*B.sz+l*B.sz=cap*B.sz:=by rw[← Nat.add_mul];congr 1;omega
          rw[if_neg yA,add_lit]
          have hs:ie.size=B.sz:=by omega
          refine⟨cap-l,rfl,by omega,by omega,by rw[hs];omega,fun h0=>?_⟩
          have hz:l*B.sz=0:=by rw[hs] at h0;omega
          have ho:off=0:=by omega
          have:=h4 ho
          omega
     ·cases hc
    ·cases hc
   ·cases hc
  ·cases hc
 ·rename_i o f
  split at hc
  ·rename_i n e hd
   obtain⟨it,hit,hd⟩:=Option.map_eq_some_iff.1 hd
   split at hc
   ·rename_i ie ob hie hob
    split at hc
    ·split at hc
     ·rename_i hb
      cases hc
      have g2:=og (ht t it hit) hd
      obtain⟨fi,z,g3,_⟩:=(ht e ie hie).info
      obtain⟨B,hB,hsz,_,_,h5⟩:=h.obj o ob hob
      simp only[VR] at hv
      obtain⟨B',b,hB',hbb,rfl⟩:=hv
      rw[hB] at hB';cases hB'
      obtain⟨cur,n1,n2,_,_,n5,_⟩:=h5 b hbb
      refine⟨.slice (some ⟨b,f,none⟩) n n,?_,?_⟩
      ·have hsb:(Instr.sliceBounds false n n none none none).run P w=.ok (0,n,n) w:=by simp[Instr.sliceBounds]
       have hne:¬ n=0:=by omega
       simp[Instr.sliceAt,bq g2,Instr.sureAddr,hsb,cN g3,hne,add_zero]
      ·simp only[VR]
       refine⟨B,hB,?_⟩
       rw[hbb]
       exact⟨n,rfl,Nat.le_refl _,by simp only[maxLen];omega,by rw[hsz,hb.2.2.2.1];omega,fun h0=>by omega⟩
     ·cases hc
    ·cases hc
   ·cases hc
  ·cases hc
 ·cases hc
def eO (cells:List CV)(off:Nat)(cs:List CV):List CV:=cells.take off++cs++cells.drop (off+cs.length)
def lZ (place:Nat→Option (Nat×Nat))(cells:List CV):List (Nat×CV)→Option (List CV)
 | []=>some cells
 | (i,c)::rest=>
  match place i with
  | none=>none
  | some (off,size)=>if c.cells.length≠size || off+c.cells.length > cells.length then none else lZ place (eO cells off c.cells) rest
theorem xo {α:Type}:∀ (xs:List α) (j off:Nat) (arr:Array α),(xs.zipIdx j).foldl (fun cs (c,k)=>cs.setIfInBounds (off+k) c) arr =
  (if off+j+xs.length≤arr.size then (arr.toList.take (off+j)++xs++arr.toList.drop (off+j+xs.length)).toArray else (xs.zipIdx j).foldl (fun cs (c,k)=>cs.setIfInBounds (off+k) c) arr)
 | [],j,off,arr=>by simp
 | x::xs,j,off,arr=>by
  split
  ·rename_i hl
   simp only[List.zipIdx_cons,List.foldl_cons]
   rw[xo xs (j+1) off]
   have hs:off+(j+1)+xs.length≤(arr.setIfInBounds (off+j) x).size:=by simp at hl ⊢;omega
   rw[if_pos hs]
   have hlt:off+j<arr.toList.length:=by simp at hl ⊢;omega
   congr 1
   apply List.ext_getElem?
   intro n
   simp only[Array.toList_setIfInBounds,List.append_assoc]
   simp only[List.getElem?_append,List.getElem?_take,List.getElem?_drop,List.getElem?_set,List.length_take,List.length_set,List.length_cons,List.cons_append,List.getElem?_cons]
   have hl':off+j+(xs.length+1)≤arr.toList.length:=by simpa using hl
   simp only[Nat.min_eq_left (show off+(j+1)≤arr.toList.length by omega),Nat.min_eq_left (show off+j≤arr.toList.length by omega)]
   by_cases h1:n<off+j
   ·simp[show n<off+(j+1) by omega,h1,show off+j≠n by omega]
   ·by_cases h2:n=off+j
    ·subst h2
     have hlt':off+j<arr.size:=by simpa using hlt
     simp[show off+j<off+(j+1) by omega,hlt']
    ·have h3:¬ n<off+(j+1):=by omega
     simp only[h1,h3,if_false,show n-(off+j)≠0 by omega]
     have e1:n-(off+j)-1=n-(off+(j+1)):=by omega
     rw[e1]
     split
     ·rfl
     ·have e2:off+(j+1)+xs.length+(n-(off+(j+1))-xs.length)=off+j+(xs.length+1)+(n-(off+(j+1))-xs.length):=by omega
      rw[e2,if_neg yA]
  ·rfl
theorem tf {F:Nat→Prop}{cells:List CV}{vs:List Value}(h:aS w F σ cells vs)(off:Nat){cs:List CV}{us:List Value}(hc:aS w F σ cs us) :
  aS w F σ (eO cells off cs) (vs.take off++us++vs.drop (off+us.length)):=by
 unfold eO
 rw[← aS.length _ _ hc]
 exact aS.append _ _ _ _ (aS.append _ _ _ _ (aS.take _ _ _ h) hc) (aS.drop _ _ _ h)
theorem qz {cells cs:List CV}(off:Nat)(h1:cells.all one=true)(h2:cs.all one=true):(eO cells off cs).all one=true:=by
 unfold eO
 rw[List.all_eq_true] at h1 h2 ⊢
 intro x hx
 rcases List.mem_append.1 hx with hx | hx
 ·rcases List.mem_append.1 hx with hx | hx
  ·exact h1 x (List.mem_of_mem_take hx)
  ·exact h2 x hx
 ·exact h1 x (List.mem_of_mem_drop hx)
def dV:CV→Bool
 | .cr _=>true
 | .iter _ _ _=>true
 | _=>false
def gH (s:St):List (Nat×Operand)→Option (List (Nat×CV))
 | []=>some []
 | (i,x)::r=>match ev s x,gH s r with
  | some c,some cs=>if dV c then none else some ((i,c)::cs)
  | _,_=>none
theorem nZ {F:Nat→Prop}(place:Nat→Option (Nat×Nat)):∀ (ps:List (Nat×CV)) (qs:List (Nat×Value)) (cells out:List CV) (vs:Array Value),ps.length=qs.length →
  (∀ (j:Nat) i c,ps[j]? = some (i,c)→dV c=false∧∃ v,qs[j]? = some (i,v)∧VR w F σ c v)→aS w F σ cells vs.toList→cells.all one=true→lZ place cells ps=some out →
  ∃ us,Instr.fill place vs qs=some us∧aS w F σ out us.toList∧out.all one=true
 | [],[],cells,out,vs,_,_,h1,h2,hc=>by simp only[lZ] at hc;cases hc;exact⟨vs,rfl,h1,h2⟩
 | [],_::_,_,_,_,hl,_,_,_,_=>by simp at hl
 | _::_,[],_,_,_,hl,_,_,_,_=>by simp at hl
 | (i,c)::ps,(i',v)::qs,cells,out,vs,hl,hq,h1,h2,hc=>by
  obtain⟨hn,v',hv',hr⟩:=hq 0 i c rfl
  simp at hv'
  obtain⟨rfl,rfl⟩:=hv'
  simp only[lZ] at hc
  split at hc
  ·cases hc
  rename_i off size hp
  split at hc
  ·cases hc
  rename_i hsz
  simp only[ne_eq,gt_iff_lt,Bool.or_eq_true,decide_eq_true_eq,not_or,Decidable.not_not,Nat.not_lt] at hsz
  have hf:=VR.flat c v (fun cs e=>by subst e;simp[dV] at hn) (fun k s p e=>by subst e;simp[dV] at hn) hr
  have hlen:v.cells.size=c.cells.length:=by simpa using aS.length _ _ hf.1
  have hlc:vs.size=cells.length:=by simpa using aS.length _ _ h1
  obtain⟨us,k1,k2⟩:=nZ place ps qs (eO cells off c.cells) out (vs.toList.take off++v.cells.toList++vs.toList.drop (off+v.cells.toList.length)).toArray (by simpa using hl)
   (fun j i c hj=>by simpa using hq (j+1) i c (by simpa using hj)) (by simpa using tf h1 off hf.1) (qz off h2 hf.2) hc
  refine⟨us,?_,k2⟩
  simp only[Instr.fill,hp]
  rw[if_neg yAg]
  have:=xo v.cells.toList 0 off vs
  rw[if_pos yAg] at this
  have e:v.cells.zipIdx.foldl (fun cs (x:Value×Nat)=>cs.setIfInBounds (off+x.2) x.1) vs=(v.cells.toList.zipIdx 0).foldl (fun cs (x:Value×Nat)=>cs.setIfInBounds (off+x.2) x.1) vs:=by
   rw[← Array.foldl_toList,Array.toList_zipIdx]
  rw[e,this]
  simpa using k1
theorem lY (h:aG C σ s a w):∀ (xs:List (Nat×Operand)) (ps:List (Nat×CV)),gH s xs=some ps→ps.length=xs.length∧
  ∀ (j:Nat) i c,ps[j]? = some (i,c)→dV c=false∧∃ v,(xs.map fun (p:Nat×Operand)=>(p.1,a.eval p.2))[j]? = some (i,v)∧VR w (FB C σ s.heap) σ c v
 | [],ps,hp=>by simp only[gH] at hp;cases hp;exact⟨rfl,by simp⟩
 | (i,x)::r,ps,hp=>by
  simp only[gH] at hp
  split at hp
  ·rename_i c cs h1 h2
   split at hp
   ·cases hp
   ·rename_i hn
    cases hp
    obtain⟨k1,k2⟩:=lY h r cs h2
    refine⟨by simp[k1],fun j i' c' hj=>?_⟩
    cases j with
    | zero=>simp at hj;obtain⟨rfl,rfl⟩:=hj;exact⟨by simpa using hn,a.eval x,rfl,bz h h1⟩
    | succ j=>simpa using k2 j i' c' (by simpa using hj)
  ·cases hp
def oE (aq:List (Nat×TI)):List (Nat×TypeId)→Option (List (Nat×Nat))
 | []=>some []
 | (off,t)::r=>match assoc aq t,oE aq r with
  | some i,some ps=>some ((off,i.size)::ps)
  | _,_=>none
def rJ (aq:List (Nat×TI))(s:St)(t:TypeId)(parts:List (Nat×Operand)):Option CV:=
 match assoc aq t with
 | none=>none
 | some it=>match it.d with
  | .bK fs=>match oE aq fs,gH s parts with
   | some ps,some cs=>(lZ (ps[·]?) it.zero cs).map CV.agg
   | _,_=>none
  | .arr _ e=>match assoc aq e,gH s parts with
   | some ie,some cs=>(lZ (fun i=>some (i*ie.size,ie.size)) it.zero cs).map CV.agg
   | _,_=>none
  | _=>none
theorem g7 {t:TypeId}{f:TypeInfo}{z:Value}(h:P.info? t=some f)(hz:f.zero=some z)(w:World):(zeroValue t).run P w=.ok z w:=by
 simp[zeroValue,uj h,hz]
theorem nC {aq:List (Nat×TI)}(ht:ay P aq):∀ (fs:List Field) (ps:List (Nat×Nat)),oE aq (fs.map fun f=>(f.offset,f.type))=some ps →
  (fs.mapM fun f=>do pure (f.offset,← sizeOf f.type):Sem (List (Nat×Nat))).run P w=.ok ps w
 | [],ps,h=>by simp only[List.map_nil,oE] at h;cases h;simp
 | f::fs,ps,h=>by
  simp only[List.map_cons,oE] at h
  split at h
  ·rename_i i ps' h1 h2
   cases h
   obtain⟨g,z,e1,e2,_⟩:=(ht _ i h1).info
   have:=nC ht fs ps' h2
   simp only[List.mapM_cons,Sem.run_bind,cN e1,e2,this,Result.andThen_ok,Sem.run_pure]
  ·cases h
theorem EC {aq:List (Nat×TI)}(ht:ay P aq)(h:aG C σ s a w){t:TypeId}{parts:List (Nat×Operand)}{c:CV}(hc:rJ aq s t parts=some c) :
  ∃ u,(Instr.build t (parts.map fun (p:Nat×Operand)=>(p.1,a.eval p.2)).toArray).run P w=.ok u w∧VR w (FB C σ s.heap) σ c u:=by
 unfold rJ at hc
 split at hc
 ·cases hc
 rename_i it hit
 have hT:=ht t it hit
 obtain⟨f,z,e1,_,_,e4,e5⟩:=hT.info
 obtain⟨k1,k2⟩:=cY (w:=w) (F:=FB C σ s.heap) _ _ e5
 split at hc
 ·rename_i fs hd
  obtain⟨fields,hu,rfl⟩:=qR hT hd
  split at hc
  ·rename_i ps cs hps hcs
   obtain⟨out,hf,rfl⟩:=Option.map_eq_some_iff.1 hc
   obtain⟨l1,l2⟩:=lY h _ _ hcs
   obtain⟨us,m1,m2,m3⟩:=nZ (ps[·]?) cs (parts.map fun p=>(p.1,a.eval p.2)) it.zero out z.cells (by simpa using l1) l2 (aS.cu _ _ k1) k2 hf
   refine⟨.agg us,?_,by simp only[VR];exact⟨us.toList,by simp,m2,m3⟩⟩
   have hm:=nC (w:=w) ht fields.toList ps hps
   have hm':(fields.mapM fun f=>do pure (f.offset,← sizeOf f.type):Sem (Array (Nat×Nat))).run P w=.ok ps.toArray w:=by
    rw[Array.mapM_eq_mapM_toList]
    simp only[Sem.run_map,hm,Result.andThen_ok]
   simp only[Instr.build,Sem.run_bind,g7 e1 e4,bq hu,Result.andThen_ok,hm',List.getElem?_toArray,m1]
   rfl
  ·cases hc
 ·rename_i n e hd
  split at hc
  ·rename_i ie cs hie hcs
   obtain⟨out,hf,rfl⟩:=Option.map_eq_some_iff.1 hc
   obtain⟨l1,l2⟩:=lY h _ _ hcs
   obtain⟨g,zz,g1,g2,_⟩:=(ht e ie hie).info
   obtain⟨us,m1,m2,m3⟩:=nZ _ cs (parts.map fun p=>(p.1,a.eval p.2)) it.zero out z.cells (by simpa using l1) l2 (aS.cu _ _ k1) k2 hf
   refine⟨.agg us,?_,by simp only[VR];exact⟨us.toList,by simp,m2,m3⟩⟩
   simp only[Instr.build,Sem.run_bind,g7 e1 e4,bq (og hT hd),Result.andThen_ok,cN g1,g2,m1]
   rfl
  ·cases hc
 ·cases hc
end
end Go.Can
