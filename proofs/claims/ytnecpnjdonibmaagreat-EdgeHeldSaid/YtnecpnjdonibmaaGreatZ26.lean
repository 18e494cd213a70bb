/- Maps whose keys and values hold no memory: lookups and updat -/
import Derived.Maps.Keyed
import Derived.WideKeyPair
import Derived.Laws.StructEq
import Derived.Test.YtnecpnjdonibmaaGreatZ25
namespace Go.Can
open Go.RowKit
def zN:Value→Bool
 | .int _ _=>true
 | .bool _=>true
 | .string _=>true
 | _=>false
def EK:Value→Bool
 | .agg cs=>cs.toList.all zN
 | v=>zN v
def B7:Value→Value→Bool
 | .int k a,.int j b=>decide (k=j) && a == b
 | .bool a,.bool b=>a == b
 | .string a,.string b=>a.data.toList == b.data.toList
 | _,_=>false
def yN:List Value→List Value→Bool
 | [],[]=>true
 | a::r,b::q=>B7 a b && yN r q
 | _,_=>false
def Gq:Value→Value→Bool
 | .agg a,.agg b=>yN a.toList b.toList
 | a,b=>B7 a b
theorem Dz {a b:Value}(h:B7 a b=true):a=b:=by
 unfold B7 at h;split at h
 ·simp only[Bool.and_eq_true,decide_eq_true_eq,beq_iff_eq] at h;rw[h.1,h.2]
 ·simp only[beq_iff_eq] at h;rw[h]
 ·rename_i a b;have h2:a.data=b.data:=Array.toList_inj.1 RC;rw[ByteArray.ext h2]
 ·cases h
theorem Dy:∀ (a b:List Value),yN a b=true→a=b
 | [],[],_=>rfl
 | [],_::_,h=>by simp[yN] at h
 | _::_,[],h=>by simp[yN] at h
 | a::r,b::q,h=>by
  simp only[yN,Bool.and_eq_true] at h;rw[Dz h.1,Dy r q h.2]
theorem uH {a b:Value}(h:Gq a b=true):a=b:=by
 unfold Gq at h;split at h
 ·rename_i a b;rw[Array.toList_inj.1 (Dy _ _ h)]
 ·exact Dz h
theorem xi {a:Value}(h:zN a=true):B7 a a=true:=by
 cases a<;>simp_all [zN,B7]
theorem xh:∀ (l:List Value),l.all zN=true→yN l l=true
 | [],_=>rfl
 | a::r,h=>by
  simp only[List.all_cons,Bool.and_eq_true] at h;simp[yN,xi h.1,xh r h.2]
theorem uG {a:Value}(h:EK a=true):Gq a a=true:=by
 cases a<;>simp only[EK,zN,Bool.false_eq_true] at h<;>simp only[Gq]<;>first
  | exact xh _ h
  | exact xi rfl
def wY (kv:Value):List (Value×Value)→Option Value
 | []=>none
 | (k,v)::r=>if Gq kv k=true then some v else wY kv r
def oZ (kv vv:Value):List (Value×Value)→List (Value×Value)
 | []=>[(kv,vv)]
 | (k,v)::r=>if Gq kv k=true then (kv,vv)::r else (k,v)::oZ kv vv r
theorem AV {kv:Value}:∀ (es:List (Value×Value)) (v:Value),wY kv es=some v→(kv,v)∈es
 | [],_,h=>by simp[wY] at h
 | (k,u)::r,v,h=>by
  simp only[wY] at h;split at h
  ·rename_i e;rw[uH e];cases h;exact List.mem_cons_self
  ·exact List.mem_cons_of_mem _ (AV r v h)
theorem xV {kv:Value}(hc:EK kv=true):∀ (es:List (Value×Value)),(es.map (·.1)).Nodup→∀ v,(kv,v)∈es→wY kv es=some v
 | [],_,v,hx=>by cases hx
 | (k,u)::r,hn,v,hx=>by
  simp only[List.map_cons,List.nodup_cons] at hn;simp only[wY];rcases List.mem_cons.1 hx with e | hx
  ·cases e;rw[if_pos (uG hc)]
  ·rw[if_neg (fun e=>hn.1 (List.mem_map.2 ⟨(kv,v),hx,uH e⟩))];exact xV hc r hn.2 v hx
theorem xS {kv vv:Value}:∀ (es:List (Value×Value)) (x:Value×Value),x∈oZ kv vv es→x.1=kv∨x∈es
 | [],x,h=>by simp only[oZ,List.mem_singleton] at h;exact .inl (by rw[h])
 | (k,u)::r,x,h=>by
  simp only[oZ] at h;split at h
  ·rcases List.mem_cons.1 h with e | h
   ·exact .inl (by rw[e])
   ·exact .inr (List.mem_cons_of_mem _ h)
  ·rcases List.mem_cons.1 h with e | h
   ·exact .inr (by rw[e];exact List.mem_cons_self)
   ·rcases xS r x h with h | h
    ·exact .inl h
    ·exact .inr (List.mem_cons_of_mem _ h)
theorem vp {kv vv:Value}(hc:EK kv=true):∀ (es:List (Value×Value)),(es.map (·.1)).Nodup→((oZ kv vv es).map (·.1)).Nodup
 | [],_=>by simp[oZ]
 | (k,u)::r,hn=>by
  simp only[List.map_cons,List.nodup_cons] at hn;simp only[oZ];split
  ·rename_i e;have:=uH e;subst this
   simpa using hn
  ·rename_i e;simp only[List.map_cons,List.nodup_cons];refine⟨fun hm=>?_,vp hc r hn.2⟩;obtain⟨x,hx,e2⟩:=List.mem_map.1 hm;rcases xS r x hx with h | h
   ·rw[h] at e2;subst e2;exact e (uG hc)
   ·exact hn.1 (List.mem_map.2 ⟨x,h,e2⟩)
def cv1:CV→Option Value
 | .int k n=>some (.int k n)
 | .bool b=>some (.bool b)
 | .str s=>some (.string s)
 | _=>none
def cvs:List CV→Option (List Value)
 | []=>some []
 | c::r=>match cv1 c,cvs r with
  | some v,some vs=>some (v::vs)
  | _,_=>none
def py:CV→Option Value
 | .agg cs=>match cvs cs with
  | some vs=>some (.agg vs.toArray)
  | none=>none
 | c=>cv1 c
section
variable {P:Program}{C:Cx}{σ:Nat→Option OB}{s:St}{a:Act}{w:World}{ops:Array Oper}{ak:List (Nat×TI)}
theorem I4 {F:Nat→Prop}{c:CV}{v u:Value}(h:cv1 c=some v)(hv:VR w F σ c u):u=v∧zN v=true:=by
 cases c<;>simp only[cv1] at h<;>first | cases h | skip
 all_goals
  simp only[VR] at hv;exact⟨hv,rfl⟩
theorem I3 {F:Nat→Prop}:∀ (cs:List CV) (vs us:List Value),cvs cs=some vs→aS w F σ cs us→us=vs∧vs.all zN=true
 | [],vs,us,h,hv=>by
  simp only[cvs] at h;cases h;simp only[aS] at hv;exact⟨hv,rfl⟩
 | c::cs,vs,us,h,hv=>by
  simp only[cvs] at h;split at h
  ·rename_i v vs' h1 h2;cases h;simp only[aS] at hv;obtain⟨u,r,rfl,k1,k2⟩:=hv;obtain⟨q1,q2⟩:=I4 h1 k1;obtain⟨q3,q4⟩:=I3 cs vs' r h2 k2;exact⟨by rw[q1,q3],by simp[q2,q4]⟩
  ·cases h
theorem n7 {F:Nat→Prop}{c:CV}{v u:Value}(h:py c=some v)(hv:VR w F σ c u):u=v∧EK v=true:=by
 unfold py at h;split at h
 ·rename_i cs;split at h
  ·rename_i vs hvs;cases h;simp only[VR] at hv;obtain⟨us,rfl,hr,_⟩:=hv;obtain⟨q1,q2⟩:=I3 _ _ _ hvs hr;exact⟨by rw[q1],by simpa [EK] using q2⟩
  ·cases h
 ·obtain⟨q1,q2⟩:=I4 h hv;refine⟨q1,?_⟩;cases v<;>simp_all [EK,zN]
structure Lj (P:Program)(t kt et:TypeId)(kb:Value→Bool)(zv:Value):Prop where
 BV:P.underlying t=some (.map kt et)
 keyed:Go.Maps.Keyed P kt
 key:∀ v,kb v=true→∃ l,keyOf P kt v=some l
 zero:∃ f,P.info? et=some f∧f.zero=some zv
theorem FM {t kt et:TypeId}{kb:Value→Bool}{zv:Value}(M:Lj P t kt et kb zv){o:Oper}{x y:Operand}{k:Nat}{es:List (Value×Value)}{cy c:CV}{kv:Value}(hd:a6 C.nt o.dst=true)(ho:o.op=.lookup t x y false)
  (hx:ev s x=some (.mp k es)) (hy:ev s y=some cy) (hk:py cy=some kv) (hkb:kb kv=true) (hes:(es.all fun e=>kb e.1)=true)
  (hc:(match wY kv es with | some v=>gB v | none=>gB zv)=some c):tu P C o s (s.put o.dst c):=by
 rintro a w ⟨σ,h⟩;have hv:=bK h hx;simp only[VR] at hv;obtain⟨B,r,arr,clock,hB,hb,hv,hr,Q9,QY,hf⟩:=hv;obtain⟨hkv,V1⟩:=n7 hk (bK h hy);obtain⟨l,hl⟩:=M.key kv hkb;have RV:∀ e∈arr.toList,∃ l,keyOf P kt e.key=some l:=fun e he=>by
  have:(e.key,e.val)∈es:=by rw[← Q9];exact List.mem_map.2 ⟨e,he,rfl⟩
  exact M.key _ (List.all_eq_true.1 hes _ this)
 have Q0:(getObj r).run P w=.ok (.map arr clock) w:=by simp[getObj,Sem.run,hr]
 have U3:=M.keyed.check w arr.isEmpty hl;obtain⟨f,g1,g2⟩:=M.zero;have Pz:∃ u,(Instr.lookup t (.map (some r)) kv false).run P w=.ok u w∧gB u=some c:=by
  rcases M.keyed.find w hl arr.toList RV with ⟨Uj,Ty⟩ | ⟨j,e,Uj,Ty,hf3⟩
  ·have PW:wY kv es=none:=by
    cases hm:wY kv es with
    | none=>rfl
    | some v=>
     exfalso;have:=AV es v hm;rw[← Q9] at this;obtain⟨e,he,e2⟩:=List.mem_map.1 this;simp only[Prod.mk.injEq] at e2;exact Ty e he e2.1
   rw[PW] at hc;refine⟨zv,?_,hc⟩;have hzr:=jj (P:=P) g1 g2 w;simp[Instr.lookup,bu M.BV,Q0,U3,Uj,hzr]
  ·have QD:(kv,e.val)∈es:=by
    rw[← Q9];exact List.mem_map.2 ⟨e,List.mem_of_getElem? Ty,by rw[hf3]⟩
   rw[xV V1 es QY _ QD] at hc;refine⟨e.val,?_,hc⟩;simp[Instr.lookup,bu M.BV,Q0,U3,Uj]
 obtain⟨u,k1,k2⟩:=Pz;refine⟨w,.inl ⟨u,?_,fz hd h (VR.cz _ _ (n9 k2).1)⟩⟩;simp[execOp,ho,hv,hkv,k1]
def Io (k:Nat):CV→Bool
 | .mp k' _=>k' == k
 | _=>false
def isIt:CV→Bool
 | .iter _ _ _=>true
 | _=>false
def M6 (k:Nat)(es:List (Value×Value)):List (Nat×CV)→List (Nat×CV)
 | []=>[]
 | (t,c)::r=>(t,if Io k c then .mp k es else c)::M6 k es r
theorem yl {k:Nat}{es:List (Value×Value)}:∀ (l:List (Nat×CV)) (t:Nat) (c:CV),assoc (M6 k es l) t=some c→∃ d,assoc l t=some d∧c=if Io k d then .mp k es else d
 | [],t,c,h=>by simp[M6,assoc] at h
 | (u,d)::r,t,c,h=>by
  simp only[M6,assoc] at h ⊢;split at h
  ·rename_i e;cases h;rw[if_pos e];exact⟨d,rfl,rfl⟩
  ·rename_i e;rw[if_neg e];exact yl r t c h
def GZ (s:St)(k:Nat):Bool:=(s.env.all fun x=>lk x.2 || Io k x.2 || isIt x.2) && s.heap.all fun x=>jK x.2.cells
theorem sR {kv vv:Value}:∀ (es:List (Value×Value)),(∀ x∈es,x.1≠kv)→oZ kv vv es=es++[(kv,vv)]
 | [],_=>rfl
 | (k,u)::r,h=>by
  simp only[oZ];rw[if_neg (fun e=>h (k,u) List.mem_cons_self (uH e).symm),sR r fun x hx=>h x (List.mem_cons_of_mem _ hx)];rfl
theorem D1 {kv vv:Value}(hc:EK kv=true):∀ (es:List (Value×Value)) (j:Nat) (v:Value),(es.map (·.1)).Nodup→es[j]? = some (kv,v)→oZ kv vv es=es.set j (kv,vv)
 | [],j,v,_,h=>by simp at h
 | (k,u)::r,0,v,_,h=>by
  simp only[List.getElem?_cons_zero,Option.some.injEq,Prod.mk.injEq] at h;simp only[oZ,h.1];rw[if_pos (uG hc)];rfl
 | (k,u)::r,j+1,v,hn,h=>by
  simp only[List.map_cons,List.nodup_cons] at hn;simp only[List.getElem?_cons_succ] at h;simp only[oZ];rw[if_neg (fun e=>hn.1 (List.mem_map.2 ⟨(kv,v),List.mem_of_getElem? h,uH e⟩)),D1 hc r j v hn.2 h];rfl
theorem FK {t kt et:TypeId}{kb:Value→Bool}{zv:Value}(M:Lj P t kt et kb zv){o:Oper}{x y v:Operand}{k:Nat}{es:List (Value×Value)}{cy cv:CV}{kv vv:Value}(_hd:a6 C.nt o.dst=true)(ho:o.op=.mapUpdate t x y v)
  (hx:ev s x=some (.mp k es)) (hy:ev s y=some cy) (hk:py cy=some kv) (hv0:ev s v=some cv) (hvv:py cv=some vv) (hkb:kb kv=true) (hes:(es.all fun e=>kb e.1)=true) (Zj:C.n0≤k) (Pe:GZ s k=true) :
  tu P C o s (St.del { s with env:=M6 k (oZ kv vv es) s.env } o.dst):=by
 rintro a w ⟨σ,h⟩;have hv:=bK h hx;simp only[VR] at hv;obtain⟨B,r,arr,clock,hB,hb,hv,hr,Q9,QY,hf⟩:=hv;obtain⟨hkv,V1⟩:=n7 hk (bK h hy);obtain⟨Q6,_⟩:=n7 hvv (bK h hv0);obtain⟨l,hl⟩:=M.key kv hkb;have Vn:=(Array.getElem?_eq_some_iff.1 hr).1;have RV:∀ e∈arr.toList,∃ l,keyOf P kt e.key=some l:=fun e he=>by
  have:(e.key,e.val)∈es:=by rw[← Q9];exact List.mem_map.2 ⟨e,he,rfl⟩
  exact M.key _ (List.all_eq_true.1 hes _ this)
 have Q0:(getObj r).run P w=.ok (.map arr clock) w:=by simp[getObj,Sem.run,hr]
 have Q7:∀ q,(setObj r q).run P w=.ok () { w with heap:=w.heap.setIfInBounds r q }:=fun q=>by simp[setObj,Sem.run,hr]
 have U3:=M.keyed.check w false hl;have Pz:∃ T8 RB,(Instr.mapUpdate t (.map (some r)) kv vv).run P w=.ok () { w with heap:=w.heap.setIfInBounds r (.map T8 RB) }∧T8.toList.map (fun e=>(e.key,e.val))=oZ kv vv es:=by
  rcases M.keyed.find w hl arr.toList RV with ⟨Uj,Ty⟩ | ⟨j,e,Uj,Ty,hf3⟩
  ·refine⟨arr.push { key:=kv,val:=vv,born:=clock },clock+1,?_,?_⟩
   ·simp[Instr.mapUpdate,bu M.BV,Q0,U3,Uj,Q7]
   ·rw[sR es fun x hx=>by
     rw[← Q9] at hx;obtain⟨e,he,rfl⟩:=List.mem_map.1 hx;exact Ty e he,← Q9]
    simp
  ·have YE:=M.keyed.stays w hl;have hj:arr[j]? = some e:=by simpa using Ty
   refine⟨arr.modify j fun e=>{ e with key:=kv,val:=vv },clock,?_,?_⟩
   ·simp[Instr.mapUpdate,bu M.BV,Q0,U3,Uj,hj,hf3,YE,Q7]
   ·have Xf:es[j]? = some (kv,e.val):=by
     rw[← Q9,List.getElem?_map,Ty];simp[hf3]
    rw[D1 V1 es j e.val QY Xf,← Q9];apply List.ext_getElem?;intro i;simp only[List.getElem?_map,List.getElem?_set,Array.getElem?_toList,Array.getElem?_modify,List.length_map,Array.length_toList];by_cases Qr:j=i
    ·subst Qr;have Pn:=(Array.getElem?_eq_some_iff.1 hj).1;rw[if_pos rfl,if_pos rfl,if_pos Pn,hj];rfl
    ·rw[if_neg Qr,if_neg Qr]
 obtain⟨T8,RB,k1,k2⟩:=Pz;simp only[GZ,Bool.and_eq_true,List.all_eq_true,Bool.or_eq_true] at Pe;generalize PN:({ w with heap:=w.heap.setIfInBounds r (.map T8 RB) }:World)=w' at k1;have PC:∀ j,j≠r→w'.heap[j]? = w.heap[j]?:=fun j hj=>by simp[← PN,Ne.symm hj]
 have Qn:w'.heap[r]? = some (.map T8 RB):=by simp[← PN,Vn]
 have O9:w'.heap.size=w.heap.size:=by simp[← PN]
 have Zh:∀ F:Nat→Prop,mQ w w' F F:=fun F ad u hf hu=>by
  have Pf:ad.block≠r:=fun e=>by
   unfold World.cell? at hu;rw[e,hr] at hu;cases hu
  exact⟨by rw[World.cell?_of_block (PC _ Pf)];exact hu,hf⟩
 have h':aM C σ { s with env:=M6 k (oZ kv vv es) s.env } a w':=by
  refine⟨h.nk,h.tm,(by rw[← PN];exact h.os),(by rw[← PN];exact h.tape),(by rw[← PN];exact h.output),by rw[O9];exact h.size,?_,?_,?_,h.inj,h.nx,h.fh,h.low,h.new⟩
  ·intro j hj1 Xf;rw[PC j (fun e=>?_)]
   ·exact h.frame j hj1 Xf
   ·subst e;rcases h.new k B j Zj hB hb with n4 | n4
    ·exact Xf n4
    ·omega
  ·intro t c hc;obtain⟨d,PB,rfl⟩:=yl _ _ _ hc;obtain⟨v,q1,q2⟩:=h.env t d PB;refine⟨v,q1,?_⟩;by_cases hi:Io k d=true
   ·rw[if_pos hi];cases d<;>simp only[Io,Bool.false_eq_true] at hi;rename_i k' es';have:k'=k:=by simpa using hi
    subst this;simp only[VR] at q2 ⊢;obtain⟨B2,r2,arr2,clock2,m1,m2,m3,m4,m5,m6,m7⟩:=q2;rw[hB] at m1;cases m1;rw[hb] at m2;cases m2;exact⟨B,r,T8,RB,hB,hb,m3,Qn,k2,vp V1 es QY,m7⟩
   ·rw[if_neg hi];rcases Pe.1 _ (bD _ _ _ PB) with (q | q) | q
    ·exact VR.nW (Zh _) _ _ q q2
    ·exact absurd q hi
    ·cases d<;>simp only[isIt,Bool.false_eq_true] at q;simp only[VR] at q2 ⊢;obtain⟨B2,r2,m1,m2,m3,m4,m5⟩:=q2;have Pf:r2≠r:=fun e=>by rw[e,hr] at m4;cases m4
     exact⟨B2,r2,m1,m2,m3,by rw[PC r2 Pf];exact m4,m5⟩
  ·intro q y hq;obtain⟨B2,m1,m2,m3,m4,m5⟩:=h.obj q y hq;refine⟨B2,m1,m2,m3,m4,fun b2 Qz=>?_⟩;obtain⟨Tk,q1,q2,q3,q4,q5,q6⟩:=m5 b2 Qz;have Pf:b2≠r:=fun e=>by subst e;rw[hr] at q1;cases q1
   exact⟨Tk,by rw[PC b2 Pf];exact q1,q2,q3,q4,q5,aS.nW (Zh _) _ _ (Pe.2 _ (bD _ _ _ hq)) q6⟩
 refine⟨w',.inr ⟨?_,σ,h'.del undef⟩⟩;simp[execOp,ho,hv,hkv,Q6,k1]
structure MI where
 t:Nat
 kt:Nat
 et:Nat
 kb:Value→Bool
 zv:Value
def NR (P:Program)(l:List MI):Prop:=∀ x∈l,Lj P x.t x.kt x.et x.kb x.zv
def OI:List MI→Nat→Option MI
 | [],_=>none
 | x::r,t=>if x.t=t then some x else OI r t
theorem zq:∀ (l:List MI) (t:Nat) (x:MI),OI l t=some x→x∈l∧x.t=t
 | [],_,_,h=>by simp[OI] at h
 | y::r,t,x,h=>by
  simp only[OI] at h;split at h
  ·rename_i e;cases h;exact⟨List.mem_cons_self,e⟩
  ·obtain⟨h1,h2⟩:=zq r t x h;exact⟨List.mem_cons_of_mem _ h1,h2⟩
def H6 (mi:List MI)(n0:Nat)(s:St)(o:Oper):Option St:=
 match o.op with
 | .lookup t x y false=>match OI mi t,ev s x,ev s y with
  | some M,some (.mp _ es),some cy=>match py cy with
   | some kv=>if M.kb kv=true∧(es.all fun e=>M.kb e.1)=true then
     match (match wY kv es with | some v=>gB v | none=>gB M.zv) with
     | some c=>some (s.put o.dst c)
     | none=>none
    else none
   | none=>none
  | _,_,_=>none
 | .mapUpdate t x y v=>match OI mi t,ev s x,ev s y,ev s v with
  | some M,some (.mp k es),some cy,some cv=>match py cy,py cv with
   | some kv,some vv=>if M.kb kv=true∧(es.all fun e=>M.kb e.1)=true∧n0≤k∧GZ s k=true then some (St.del { s with env:=M6 k (oZ kv vv es) s.env } o.dst) else none
   | _,_=>none
  | _,_,_,_=>none
 | _=>none
theorem H5 {mi:List MI}(hM:NR P mi){o:Oper}{s':St}(hd:a6 C.nt o.dst=true)(h:H6 mi C.n0 s o=some s'):tu P C o s s':=by
 unfold H6 at h;split at h
 ·rename_i t x y ho;split at h
  ·rename_i M k es cy h1 h2 h3;obtain⟨m1,m2⟩:=zq _ _ _ h1;have hT:=hM M m1;rw[m2] at hT;split at h
   ·rename_i kv h4;split at h
    ·rename_i hc;split at h
     ·rename_i c h5;cases h;exact FM hT hd ho h2 h3 h4 hc.1 hc.2 h5
     ·cases h
    ·cases h
   ·cases h
  ·cases h
 ·rename_i t x y v ho;split at h
  ·rename_i M k es cy cv h1 h2 h3 h4;obtain⟨m1,m2⟩:=zq _ _ _ h1;have hT:=hM M m1;rw[m2] at hT;split at h
   ·rename_i kv vv h5 h6;split at h
    ·rename_i hc;cases h;exact FK hT hd ho h2 h3 h5 h4 h6 hc.1 hc.2.1 hc.2.2.1 hc.2.2.2
    ·cases h
   ·cases h
  ·cases h
 ·cases h
def inI (n:Int):Bool:=decide (-9223372036854775808≤n) && decide (n≤9223372036854775807)
def DS:Value→Bool
 | .agg cs=>match cs.toList with
  | [.int .i64 a,.int .i64 b]=>inI a && inI b
  | _=>false
 | _=>false
theorem FL {t kt it et:TypeId}{zv:Value}(hu:P.underlying t=some (.map kt et))(A:Go.WideMaps.ArrKey P kt it 2)(hi:P.underlying it=some (.int .i64))(O9:∃ m,P.types.size=m+1)(hz:∃ f,P.info? et=some f∧f.zero=some zv):Lj P t kt et DS zv:=by
 refine⟨hu,Go.Maps.Keyed.of_law A.law,fun v hv=>?_,hz⟩;unfold DS at hv;split at hv
 ·rename_i cs;split at hv
  ·rename_i a b PE;simp only[Bool.and_eq_true,inI,decide_eq_true_eq] at hv;have hcs2:cs=#[.int .i64 a,.int .i64 b]:=Array.ext' PE;rw[hcs2];have wf:∀ n:Int,-9223372036854775808≤n∧n≤9223372036854775807→(Lit.int .i64 n).wf=true:=fun n hn=>by
    simp[Lit.wf,IntKind.min,IntKind.max,IntKind.signed,IntKind.bits];omega
   exact⟨_,Go.WideMaps.keyOf_pair A hi O9 (wf a hv.1) (wf b hv.2)⟩
  ·cases hv
 ·cases hv
def Fp:Value→Bool
 | .agg cs=>match cs.toList with
  | [.int .i64 _,.int .i64 _,.int .i64 _,.int .i64 _]=>true
  | _=>false
 | _=>false
theorem zc {v:Value}(h:Fp v=true):∃ a b c d:Int,v=.agg #[.int .i64 a,.int .i64 b,.int .i64 c,.int .i64 d]:=by
 unfold Fp at h;split at h
 ·rename_i cs;split at h
  ·rename_i a b c d PE;exact⟨a,b,c,d,by rw[show cs=#[.int .i64 a,.int .i64 b,.int .i64 c,.int .i64 d] from Array.ext' PE]⟩
  ·cases h
 ·cases h
theorem F0 {ti : TypeId} {f0 f1 f2 f3 : Field} (hi : P.underlying ti = some (.int .i64)) (h0 : f0.type = ti ∧ f0.offset = 0 ∧ f0.name ≠ "_") (h1 : f1.type = ti ∧ f1.offset = 1 ∧ f1.name ≠ "_") (h2 : f2.type = ti ∧ f2.offset = 2 ∧ f2.name ≠ "_") (h3 : f3.type = ti ∧ f3.offset = 3 ∧ f3.name ≠ "_") (a b c d a' b' c' d' : Int) :
  (Op.eqFields 9999 #[.int .i64 a,.int .i64 b,.int .i64 c,.int .i64 d] #[.int .i64 a',.int .i64 b',.int .i64 c',.int .i64 d'] [f0,f1,f2,f3]).run P w=.ok (a == a' && (b == b' && (c == c' && d == d'))) w:=by
 have hp:∀ (xs:Array Value) (i:Nat) (v:Value),xs[i]? = some v→(part ti xs i).run P w=.ok v w:=fun xs i v hv=>by
  simp[part,isAgg,bu hi,hv]
 have p0:∀ x y z u:Value,(part ti #[x,y,z,u] 0).run P w=.ok x w:=fun x y z u=>hp _ 0 _ rfl;have p1:∀ x y z u:Value,(part ti #[x,y,z,u] 1).run P w=.ok y w:=fun x y z u=>hp _ 1 _ rfl;have p2:∀ x y z u:Value,(part ti #[x,y,z,u] 2).run P w=.ok z w:=fun x y z u=>hp _ 2 _ rfl;have p3:∀ x y z u:Value,(part ti #[x,y,z,u] 3).run P w=.ok u w:=fun x y z u=>hp _ 3 _ rfl;have he:∀ x y:Int,(Op.equalIn 9999 ti (.int .i64 x) (.int .i64 y)).run P w=.ok (x == y) w:=fun x y=>run_equalIn_int w 9998 ti .i64 .i64 x y hi;obtain⟨t0,o0,n0⟩:=h0;obtain⟨t1,o1,n1⟩:=h1;obtain⟨t2,o2,n2⟩:=h2;obtain⟨t3,o3,n3⟩:=h3;simp only[Op.eqFields,t0,o0,t1,o1,t2,o2,t3,o3,n0,n1,n2,n3,ne_eq,not_false_eq_true,if_true,Sem.run_bind,Sem.run_ite,p0,p1,p2,p3,he,Result.andThen_ok,Sem.run_pure];by_cases e0:a=a'<;>by_cases e1:b=b'<;>by_cases e2:c=c'<;>by_cases e3:d=d'<;>simp[e0,e1,e2,e3]
structure EqT (P:Program)(t:TypeId)(kb:Value→Bool):Prop where
 eq:∀ (w:World) (x y:Value),kb x=true→kb y=true→(Op.equalIn 10000 t x y).run P w=.ok (Gq x y) w
 guard:P.eqGuardType P.depth t=false
 agg:∀ x,kb x=true→∃ cs,x=.agg cs
theorem IU {t ti : TypeId} {f0 f1 f2 f3 : Field} (ht : P.underlying t = some (.struct (P.fieldsOf t))) (hf : (P.fieldsOf t).toList = [f0, f1, f2, f3]) (hs : P.stoodInHeld t = false) (hi : P.underlying ti = some (.int .i64)) (h0 : f0.type = ti ∧ f0.offset = 0 ∧ f0.name ≠ "_") (h1 : f1.type = ti ∧ f1.offset = 1 ∧ f1.name ≠ "_") (h2 : f2.type = ti ∧ f2.offset = 2 ∧ f2.name ≠ "_") (h3 : f3.type = ti ∧ f3.offset = 3 ∧ f3.name ≠ "_") (hg : P.eqGuardType P.depth t = false) : EqT P t Fp := by
 refine⟨fun w x y hx hy=>?_,hg,fun x hx=>?_⟩
 ·obtain⟨a,b,c,d,rfl⟩:=zc hx;obtain⟨a',b',c',d',rfl⟩:=zc hy;rw[run_equalIn_agg w 9999 t _ _ ht hs,hf,F0 hi h0 h1 h2 h3];simp[Gq,yN,B7]
 ·obtain⟨a,b,c,d,rfl⟩:=zc hx;exact⟨_,rfl⟩
structure EI where
 t:Nat
 kb:Value→Bool
def NU (P:Program)(l:List EI):Prop:=∀ x∈l,EqT P x.t x.kb
def eil:List EI→Nat→Option EI
 | [],_=>none
 | x::r,t=>if x.t=t then some x else eil r t
theorem Et:∀ (l:List EI) (t:Nat) (x:EI),eil l t=some x→x∈l∧x.t=t
 | [],_,_,h=>by simp[eil] at h
 | y::r,t,x,h=>by
  simp only[eil] at h;split at h
  ·rename_i e;cases h;exact⟨List.mem_cons_self,e⟩
  ·obtain⟨h1,h2⟩:=Et r t x h;exact⟨List.mem_cons_of_mem _ h1,h2⟩
def IT (ei:List EI)(s:St)(o:Oper):Option St:=
 match o.op with
 | .binOp op t x y _=>match eil ei t,ev s x,ev s y with
  | some E,some cx,some cy=>match py cx,py cy with
   | some vx,some vy=>if E.kb vx=true∧E.kb vy=true then match op with
     | .eql=>some (s.put o.dst (.bool (Gq vx vy)))
     | .neq=>some (s.put o.dst (.bool (!(Gq vx vy))))
     | _=>none
    else none
   | _,_=>none
  | _,_,_=>none
 | _=>none
theorem IS {ei:List EI}(hE:NU P ei){o:Oper}{s':St}(hd:a6 C.nt o.dst=true)(h:IT ei s o=some s'):tu P C o s s':=by
 unfold IT at h;split at h
 ·rename_i op t x y q ho;split at h
  ·rename_i E cx cy h1 h2 h3;obtain⟨m1,m2⟩:=Et _ _ _ h1;have hT:=hE E m1;rw[m2] at hT;split at h
   ·rename_i vx vy h4 h5;split at h
    ·rename_i hc;rintro a w ⟨σ,hr⟩;obtain⟨e1,_⟩:=n7 h4 (bK hr h2);obtain⟨e2,_⟩:=n7 h5 (bK hr h3);obtain⟨xs,rfl⟩:=hT.agg vx hc.1;obtain⟨ys,rfl⟩:=hT.agg vy hc.2;have hq:=hT.eq w _ _ hc.1 hc.2;split at h
     ·cases h;refine⟨w,.inl ⟨.bool (Gq (.agg xs) (.agg ys)),?_,fz hd hr (dN _)⟩⟩;simp only[execOp,ho,e1,e2,Sem.run_bind,run_eqGuard_agg w _ t x y xs ys hT.guard,Result.andThen_ok,run_eql_struct,hq,Sem.run_pure]
     ·cases h;refine⟨w,.inl ⟨.bool (!(Gq (.agg xs) (.agg ys))),?_,fz hd hr (dN _)⟩⟩;simp only[execOp,ho,e1,e2,Sem.run_bind,run_eqGuard_agg w _ t x y xs ys hT.guard,Result.andThen_ok,run_neq_struct,hq,Sem.run_pure]
     ·cases h
    ·cases h
   ·cases h
  ·cases h
 ·cases h
def frzA (s:St)(p:Nat)(ob:Ob)(d:Option Tmp)(n:Nat):St:=(s.dp p ob).put d (.aA ob.cells n)
theorem Mp (ht:aG P ak){o:Oper}{t e:TypeId}{x:Operand}{p n:Nat}{ob:Ob}{ie:TI}(hd:a6 C.nt o.dst=true)(ho:o.op=.slice t x none none none)(hx:ev s x=some (.ax p 0))(h2:dE ak t=some (.arr n e))(O6:assoc ak e=some ie)
  (hn:0<n) (hm:n≤1000000) (QX:assoc s.heap p=some ob) (QU:trees ob.cells=true):tu P C o s (frzA s p ob o.dst n):=by
 rintro a w ⟨σ,h⟩;obtain⟨i2,b1,b2,_⟩:=eL ht h2;have g2:=oz (ht t i2 b1) b2;obtain⟨f,z,g3,_⟩:=(ht e ie O6).info;have h':=h.dp QX QU;have X2:∃ v,a.eval x=v∧VR w (FB C σ (s.dp p ob).heap) σ (.cG ob.cells) v:=by
  cases x with
  | tmp t=>
   have QG:assoc s.env t=some (.ax p 0):=hx;have:∀ l:List (Nat×CV),assoc l t=some (.ax p 0)→assoc (xa p ob.cells ob.sz l) t=some (.cG ob.cells):=by
    intro l
    induction l with
    | nil=>intro h;cases h
    | cons y r ih=>
     obtain⟨k,c⟩:=y;intro hl;simp only[xa,assoc] at hl ⊢;split at hl
     ·rename_i e;cases hl;rw[if_pos e];simp[cH]
     ·rename_i e;rw[if_neg e];exact ih hl
   obtain⟨v,k1,k2⟩:=h'.env t _ (this s.env QG);exact⟨v,by simp[Act.eval,k1],k2⟩
  | const v=>exact absurd hx (by
    simp only[ev];intro hc;have:=pY (w:=w) (F:=fun _=>False) hc;simp[cq] at this)
  | func f=>cases hx
  | global g=>cases hx
 obtain⟨v,hv,hvr⟩:=X2;simp only[VR,cq] at hvr;obtain⟨ad,rfl,hmr⟩:=hvr;refine⟨w,.inl ⟨.slice (some ad) n n,?_,fz hd h' ?_⟩⟩
 ·have hsb:(Instr.sliceBounds false n n none none none).run P w=.ok (0,n,n) w:=by simp[Instr.sliceBounds]
  have Pf:¬ n=0:=by omega
  have:(Instr.sliceAt t (.pointer (some ad)) none none none).run P w=.ok (.slice (some ad) n n) w:=by
   simp[Instr.sliceAt,bu g2,Instr.sureAddr,hsb,cP g3,Pf,add_zero]
  simp[execOp,ho,hv,this]
 ·simp only[VR,cq];exact⟨_,n,rfl,Nat.le_refl _,by simp only[maxLen];omega,.inr ⟨ad,rfl,hmr⟩⟩
def Jt (ak:List (Nat×TI))(s:St)(o:Oper):Option St:=
 match o.op with
 | .slice t x none none none=>match ev s x,dE ak t with
  | some (.ax p 0),some (.arr n e)=>match assoc ak e,assoc s.heap p with
   | some _,some ob=>if 0<n∧n≤1000000∧trees ob.cells=true then some (frzA s p ob o.dst n) else none
   | _,_=>none
  | _,_=>none
 | _=>none
theorem Js (ht:aG P ak){o:Oper}{s':St}(hd:a6 C.nt o.dst=true)(h:Jt ak s o=some s'):tu P C o s s':=by
 unfold Jt at h;split at h
 ·rename_i t x ho;split at h
  ·rename_i p n e hx h2;split at h
   ·rename_i ie ob h3 h4;split at h
    ·rename_i hc;cases h;exact Mp ht hd ho hx h2 h3 hc.1 hc.2.1 h4 hc.2.2
    ·cases h
   ·cases h
  ·cases h
 ·cases h
end
theorem FQ {P:Program}{et:TypeId}{zv:Value}(h:(P.info? et).bind (·.zero)=some zv):∃ f,P.info? et=some f∧f.zero=some zv:=by
 obtain⟨f,h1,h2⟩:=Option.bind_eq_some_iff.1 h;exact⟨f,h1,h2⟩
def FX (ti i : Nat) (f : Field) : Bool := f.type == ti && f.offset == i && f.name != "_"
theorem uw {ti i : Nat} {f : Field} (h : FX ti i f = true) : f.type = ti ∧ f.offset = i ∧ f.name ≠ "_" := by
 simp only[FX,Bool.and_eq_true,beq_iff_eq,bne_iff_ne] at h;exact⟨h.1.1,h.1.2,h.2⟩
def Lr (P:Program)(t ti:Nat):Bool:=match (P.fieldsOf t).toList with
 | [f0,f1,f2,f3]=>FX ti 0 f0 && FX ti 1 f1 && FX ti 2 f2 && FX ti 3 f3
 | _=>false
theorem FZ {P:Program}{t ti:TypeId}(h:Lr P t ti=true)(ht:P.underlying t=some (.struct (P.fieldsOf t)))(hs:P.stoodInHeld t=false)(hi:P.underlying ti=some (.int .i64))(hg:P.eqGuardType P.depth t=false):EqT P t Fp:=by
 unfold Lr at h;split at h
 ·rename_i f0 f1 f2 f3 hf;simp only[Bool.and_eq_true] at h;exact IU ht hf hs hi (uw h.1.1.1) (uw h.1.1.2) (uw h.1.2) (uw h.2) hg
 ·cases h
inductive OrcE where
 | fh (pre ord tail:List Nat)
 | tr (ord:List Nat) (dyn:List (Nat×Nat))
structure IP where
 ak:List (Nat×TI)
 mt:jv
 al:FuncId→Bool
 pu:FuncId→Bool
 orc:FuncId→Nat→Option OrcE
 FO:List (FuncId×List CV×CV)
 mi:List MI:=[]
 ei:List EI:=[]
def knl:List (FuncId×List CV×CV)→FuncId→List CV→Option CV
 | [],_,_=>none
 | (h,ds,r)::l,g,cs=>if (h == g && sB ds cs)=true then some r else knl l g cs
abbrev oU:=FuncId→List CV→Option CV
def CA (I:IP)(n0 nt:Nat)(ops:Array Oper)(call:gv)(pcall:oU)(o:Oper)(s:St):Option St:=
 match ck o with
 | none=>match fk I.ak nt ops s o with
  | some s'=>some s'
  | none=>match bZ ops s o with
   | some true=>if a6 nt o.dst=true then match Dx n0 I.ak s o with
     | some s'=>some s'
     | none=>match H6 I.mi n0 s o with
      | some s'=>some s'
      | none=>match IT I.ei s o with
       | some s'=>some s'
       | none=>Jt I.ak s o
    else none
   | _=>none
 | some c=>match bZ ops s o with
  | some true=>if a6 nt o.dst=true then match iN I.mt s c with
    | some (g,cs)=>match (if trees cs then pcall g cs else none) with
     | some r=>some (s.put o.dst r)
     | none=>match call g cs s.heap s.nx with
      | some (x,H,n)=>some (St.put ⟨s.env,H,n⟩ o.dst x)
      | none=>none
    | none=>none
   else none
  | _=>fk I.ak nt ops s o
def xX (I:IP)(n0 nt:Nat)(ops:Array Oper)(call:gv)(pcall:oU):List Oper→St→Option St
 | [],s=>some s
 | o::r,s=>match CA I n0 nt ops call pcall o s with
  | some s'=>xX I n0 nt ops call pcall r s'
  | none=>none
def drX (I:IP)(call:gv)(pcall:oU)(g:FuncId)(n0 nt:Nat)(id:Nat)(ops:Array Oper)(s:St):Option St:=match I.orc g id with
 | none=>none
 | some (.fh pre ord tail)=>match HI I.ak nt ops (pre++ord) s with
  | none=>none
  | some s'=>xX I n0 nt ops call pcall (tail.map (ops.getD · default)) s'
 | some (.tr ord dyn)=>GQ I.ak I.mt nt ops call pcall ord dyn s
def Nl (I:IP)(g:FuncId)(id:Nat)(ops:Array Oper)(d:Bool):Bool:=!d || match I.orc g id with
 | some (.fh pre ord tail)=>Bs ops pre ord tail
 | some (.tr ord dyn)=>uN ops ord dyn
 | none=>true
def HB (I:IP)(call:gv)(pcall:oU)(g:FuncId)(n0 nt:Nat)(id:Nat)(ops:Array Oper)(d:Bool)(s:St):Option St:=
 if d then drX I call pcall g n0 nt id ops s else xX I n0 nt ops call pcall ops.toList s
def vY (I:IP)(go:FuncId→List CV→List (Nat×Ob)→Nat→Option (Func×St)):gv:=fun g cs H n=>match go g cs H n with
 | some (fn,s)=>match bG I.ak fn s with
  | some r=>some (r,s.heap,s.nx)
  | none=>none
 | none=>none
def rY (I:IP)(go:FuncId→List CV→List (Nat×Ob)→Nat→Option (Func×St)):oU:=fun g cs=>match knl I.FO g cs with
 | some r=>some r
 | none=>if I.pu g then match go g cs [] 0 with
  | some (fn,s)=>match bG I.ak fn s with
   | some r=>deep s.heap 60 r
   | none=>none
  | none=>none
  else none
def aV (P:Program)(I:IP):Nat→FuncId→List CV→List (Nat×Ob)→Nat→Option (Func×St)
 | 0,_,_,_,_=>none
 | f+1,g,cs,H,n=>match P.funcs[g]? with
  | none=>none
  | some fn=>match fn.body with
   | none=>none
   | some c => if (fn.name == "runtime.NumGoroutine") = false ∧ cs.length ≤ fn.ntmps ∧ I.al g = true then
     match nq (HB I (vY I (aV P I f)) (rY I (aV P I f)) g n fn.ntmps) f c ⟨(enter cs).env,H,n⟩ with
     | some (.normal,s')=>some (fn,s')
     | some (.ret,s')=>some (fn,s')
     | _=>none
    else none
section
variable {P:Program}{C:Cx}{s:St}{I:IP}{ops:Array Oper}{call:gv}{pcall:oU}
structure L5 (P:Program)(I:IP):Prop where
 kn:∀ x∈I.FO,af P x.1 x.2.1 x.2.2
 ak:aG P I.ak
 mt:mP P I.mt
 mi:NR P I.mi
 ei:NU P I.ei
 md:P.follows .mixedOrders=true
 gd:∀ g fn c,I.al g=true→P.funcs[g]? = some fn→fn.body=some c→gT (Nl I g) c=true
theorem FA (hI:L5 P I)(hc:kp P I.ak call)(hp:Dg P pcall){o:Oper}{l:List Oper}{s':St}{K:St→Prop}(h:CA I C.n0 C.nt ops call pcall o s=some s')(hk:TL P C ops l s' K):TL P C ops (o::l) s K:=by
 unfold CA at h;split at h
 ·split at h
  ·rename_i s1 h1;cases h;exact TL.step hI.ak h1 hk
  ·split at h
   ·rename_i hg;split at h
    ·rename_i hd;split at h
     ·rename_i s1 h1;cases h;exact lW hg (Aa hI.ak hd h1) hk
     ·split at h
      ·rename_i s1 h1;cases h;exact lW hg (H5 hI.mi hd h1) hk
      ·split at h
       ·rename_i s1 h1;cases h;exact lW hg (IS hI.ei hd h1) hk
       ·exact lW hg (Js hI.ak hd h) hk
    ·cases h
   ·cases h
 ·rename_i c hu;have O8:=gO hu;split at h
  ·rename_i hg;split at h
   ·rename_i hd;split at h
    ·rename_i g cs Ps;split at h
     ·rename_i r hr;cases h;split at hr
      ·rename_i ht;have hP:=hp g cs r hr;exact Ls hd hg (pf.to hI.mt O8 Ps hP.1) ht hP hk
      ·cases hr
     ·split at h
      ·rename_i x H n hx;cases h;have hB:=hc _ _ _ _ _ _ _ hx;have hE:iR P g:=by
        obtain⟨fn,c,h1,h2,h3,_⟩:=hB;exact⟨fn,h1,h3,by simp[h2]⟩
       refine callE hI.ak hd hg (pf.to hI.mt O8 Ps hE) hB ?_;rintro r s1 ⟨rfl,rfl,rfl⟩;exact hk
      ·cases h
    ·cases h
   ·cases h
  ·exact TL.step hI.ak h hk
theorem vw (hI:L5 P I)(hc:kp P I.ak call)(hp:Dg P pcall):∀ (l:List Oper) (s s':St),xX I C.n0 C.nt ops call pcall l s=some s'→TL P C ops l s fun x=>x=s'
 | [],s,s',h=>by
  simp only[xX] at h;cases h;exact TL.nil rfl
 | o::r,s,s',h=>by
  simp only[xX] at h;split at h
  ·rename_i s1 h1;exact FA hI hc hp h1 (vw hI hc hp r s1 s' h)
  ·cases h
theorem Np (hI:L5 P I)(hc:kp P I.ak call)(hp:Dg P pcall)(g:FuncId)(id:Nat)(ops:Array Oper)(s s':St)(hg:Nl I g id ops true=true)(h:drX I call pcall g C.n0 C.nt id ops s=some s'):T P C (.region id ops true) s fun e x=>e=.normal∧x=s':=by
 unfold drX at h;unfold Nl at hg;split at h
 ·cases h
 ·rename_i pre ord tail ho;rw[ho] at hg;split at h
  ·cases h
  ·rename_i s1 h1;have hB:Bs ops.toList.toArray pre ord tail=true:=by simpa using hg
   have hl:=vw (ops:=ops) hI hc hp _ _ _ h;have:=T.draw (P:=P) (C:=C) (s:=s) (id:=id) (l:=ops.toList) (Q:=fun e x=>e=.normal∧x=s') hI.ak hI.md pre ord tail hB (DM (pre++ord) s s1 (by simpa using h1) (by
    intro a w Q hr hQ;have k:=hl a w Q hr fun x a' w' hx Pp=>hQ x a' w' ⟨rfl,hx⟩ Pp
    simpa using k))
   simpa using this
 ·rename_i ord dyn ho;rw[ho] at hg;exact T.trace hI.ak hI.mt hc hp hI.md (by simpa using hg) h
theorem Ke (hI:L5 P I)(hc:kp P I.ak call)(hp:Dg P pcall)(g:FuncId):JE P C (Nl I g) (HB I call pcall g C.n0 C.nt):=by
 intro id ops d s s' hg h;unfold HB at h
 cases d with
 | true=>exact Np hI hc hp g id ops s s' hg RC
 | false=>
  have hl:=vw (ops:=ops.toList.toArray) hI hc hp ops.toList s s' RC
  simpa using TL.again (id:=id) hl
def NT (P : Program) (go : FuncId → List CV → List (Nat × Ob) → Nat → Option (Func × St)) : Prop := ∀ g cs H n fn s', go g cs H n = some (fn, s') → ∃ c, P.funcs[g]? = some fn ∧ fn.body = some c ∧ (fn.name == "runtime.NumGoroutine") = false ∧ cs.length ≤ fn.ntmps ∧
 ∀ C:Cx,C.nt=fn.ntmps→C.n0=n→T P C c ⟨(enter cs).env,H,n⟩ fun e x=>(e=.normal∨e=.ret)∧x=s'
theorem Ge {go:FuncId→List CV→List (Nat×Ob)→Nat→Option (Func×St)}(h:NT P go):kp P I.ak (vY I go):=by
 intro g cs H n x H' n' hx;unfold vY at hx;split at hx
 ·rename_i fn s' hg;split at hx
  ·rename_i r hr;cases hx;obtain⟨c,h1,h2,h3,h4,h5⟩:=h _ _ _ _ _ _ hg;refine Body.jA h1 h2 h3 h4 fun C hC O0=>T.mono (h5 C hC O0) ?_;rintro e x ⟨rfl | rfl,rfl⟩<;>exact ae.here ⟨_,hr,rfl,rfl,rfl⟩
  ·cases hx
 ·cases hx
theorem D8:∀ (l:List (FuncId×List CV×CV)) (g:FuncId) (cs:List CV) (r:CV),knl l g cs=some r→(g,cs,r)∈l
 | [],_,_,_,h=>by simp[knl] at h
 | (h',ds,r')::l,g,cs,r,h=>by
  simp only[knl] at h;split at h
  ·rename_i e;simp only[Bool.and_eq_true,beq_iff_eq] at e;cases h;rw[jP _ _ e.2,e.1];exact List.mem_cons_self
  ·exact List.mem_cons_of_mem _ (D8 l g cs r h)
theorem xG (ht:aG P I.ak)(hk:∀ x∈I.FO,af P x.1 x.2.1 x.2.2){go:FuncId→List CV→List (Nat×Ob)→Nat→Option (Func×St)}(h:NT P go):Dg P (rY I go):=by
 intro g cs r hx;unfold rY at hx;split at hx
 ·rename_i r' Zk;cases hx;exact hk _ (D8 _ _ _ _ Zk)
 ·split at hx
  ·split at hx
   ·rename_i fn s' hg;split at hx
    ·rename_i r0 hr;obtain⟨c,h1,h2,h3,h4,h5⟩:=h _ _ _ _ _ _ hg;refine af.Ku ht h1 h2 h3 h4 fun C hC O0=>T.mono (h5 C hC O0) ?_;rintro e x ⟨rfl | rfl,rfl⟩<;>exact⟨r0,60,hr,hx⟩
    ·cases hx
   ·cases hx
  ·cases hx
theorem IC (hI:L5 P I):∀ f,NT P (aV P I f)
 | 0=>fun _ _ _ _ _ _ h=>by simp[aV] at h
 | f+1=>fun g cs H n fn s' h=>by
  have ih:=IC hI f;simp only[aV] at h;split at h
  ·cases h
  ·rename_i fn' hf;split at h
   ·cases h
   ·rename_i c hb;split at h
    ·rename_i U1
     cases hx:nq (HB I (vY I (aV P I f)) (rY I (aV P I f)) g n fn'.ntmps) f c ⟨(enter cs).env,H,n⟩ with
     | none=>rw[hx] at h;cases h
     | some q=>
      rw[hx] at h;obtain⟨e3,s1⟩:=q;have hT:∀ C:Cx,C.nt=fn'.ntmps→C.n0=n→T P C c ⟨(enter cs).env,H,n⟩ fun e x=>e=e3∧x=s1:=fun C hC O0=>by
       have hR:JE P C (Nl I g) (HB I (vY I (aV P I f)) (rY I (aV P I f)) g C.n0 C.nt):=Ke hI (Ge ih) (xG hI.ak hI.kn ih) g;rw[hC,O0] at hR;exact T.mono (Ez hR f c _ _ (hI.gd g fn' c U1.2.2 hf hb) hx) fun e x he=>he
      cases e3<;>simp only at h<;>first | cases h | skip
      all_goals
       exact⟨c,hf,hb,U1.1,U1.2.1,fun C hC O0=>T.mono (hT C hC O0) fun e x he=>⟨by simp[he.1],he.2⟩⟩
    ·cases h
theorem cS (hI:L5 P I)(f:Nat){g:FuncId}{cs:List CV}{r:CV}(h:rY I (aV P I f) g cs=some r):af P g cs r:=xG hI.ak hI.kn (IC hI f) g cs r h
end
def Bj (P:Program)(I:IP)(l:List Nat):Bool:=l.all fun g=>match P.funcs[g]? with
 | some fn=>match fn.body with
  | some c=>gT (Nl I g) c
  | none=>true
 | none=>true
theorem FT {P:Program}(I:IP)(FO:List (FuncId×List CV×CV))(l:List Nat):Bj P { I with FO:=FO } l=Bj P I l:=rfl
theorem Bi {P:Program}{I:IP}{l:List Nat}(h:Bj P I l=true)(hl:∀ g,I.al g=true→g∈l):∀ g fn c,I.al g=true→P.funcs[g]? = some fn→fn.body=some c→gT (Nl I g) c=true:=fun g fn c ha hf hb=>by
 have:=List.all_eq_true.1 h g (hl g ha);simp only[hf,hb] at this;exact this
def Ib (P:Program)(t:Nat)(name:String)(g:FuncId):Bool:=match P.info? t with
 | some i=>match i.methods.find? (·.name == name) with
  | some m=>match m.path.toList,m.func with
   | [],some (h,false)=>h == g && match P.underlying t with
    | some (.pointer _)=>false
    | some _=>true
    | none=>false
   | _,_=>false
  | none=>false
 | none=>false
theorem Ia {P:Program}{t:Nat}{name:String}{g:FuncId}(h:Ib P t name g=true):z4 P t name g:=by
 unfold Ib at h;split at h
 ·rename_i i hi;split at h
  ·rename_i m hm;split at h
   ·rename_i k hp hf;simp only[Bool.and_eq_true,beq_iff_eq] at h;obtain⟨rfl,h2⟩:=h;refine⟨⟨i,m,hi,hm,hp,by rw[Array.isEmpty_iff_size_eq_zero,← Array.length_toList,hp];rfl,hf⟩,?_⟩;split at h2
    ·cases h2
    ·rename_i d hn hd;exact⟨d,hd,fun e he=>hn e (by rw[he])⟩
    ·cases h2
   ·cases h
  ·cases h
 ·cases h
def D3 (P:Program)(mt:jv):Bool:=mt.all fun x=>Ib P x.1.1 x.1.2 x.2
theorem pQ {P:Program}{mt:jv}(h:D3 P mt=true):mP P mt:=fun x hx=>Ia (List.all_eq_true.1 h x hx)
end Go.Can
namespace Go.Proofs.YtnecpnjdonibmaaGreat
open Go.Can Go.aP
def ral:List Nat:=[316,328]
def rip:IP:=⟨ak,[],fun g=>ral.contains g,fun _=>true,fun _ _=>none,[],[],[]⟩
theorem rgd:Bj Tryz.prog rip ral=true:=by kernel_rfl
theorem u0:L5 Tryz.prog rip:=⟨by simp[rip],ai,pQ OV,by intro x hx;simp[rip] at hx,by intro x hx;simp[rip] at hx,follows,Bi (l:=ral) rgd fun g ha=>by simpa [rip] using ha⟩
def vi (k:Nat):List ByteArray×List Int:=match k with
 | 0=>([⟨#[124,124]⟩],[17])
 | 1=>([⟨#[38,38]⟩],[16])
 | 2=>([⟨#[61,61]⟩,⟨#[33,61]⟩,⟨#[60]⟩,⟨#[60,61]⟩,⟨#[62]⟩,⟨#[62,61]⟩],[14,15,10,11,12,13])
 | 3=>([⟨#[43]⟩,⟨#[45]⟩],[8,9])
 | _=>([⟨#[42]⟩,⟨#[47]⟩,⟨#[37]⟩],[5,6,7])
set_option maxRecDepth 100000 in
theorem fI:∀ k:Nat,k≤17→af Tryz.prog 328 [I k] (I (nC k))
 | 0,_=>cS (I:=rip) u0 300 OV
 | 1,_=>cS (I:=rip) u0 300 OV
 | 2,_=>cS (I:=rip) u0 300 OV
 | 3,_=>cS (I:=rip) u0 300 OV
 | 4,_=>cS (I:=rip) u0 300 OV
 | 5,_=>cS (I:=rip) u0 300 OV
 | 6,_=>cS (I:=rip) u0 300 OV
 | 7,_=>cS (I:=rip) u0 300 OV
 | 8,_=>cS (I:=rip) u0 300 OV
 | 9,_=>cS (I:=rip) u0 300 OV
 | 10,_=>cS (I:=rip) u0 300 OV
 | 11,_=>cS (I:=rip) u0 300 OV
 | 12,_=>cS (I:=rip) u0 300 OV
 | 13,_=>cS (I:=rip) u0 300 OV
 | 14,_=>cS (I:=rip) u0 300 OV
 | 15,_=>cS (I:=rip) u0 300 OV
 | 16,_=>cS (I:=rip) u0 300 OV
 | 17,_=>cS (I:=rip) u0 300 OV
 | _+18,h=>absurd h yA
set_option maxRecDepth 100000 in
theorem Hm:∀ k:Nat,k≤4→af Tryz.prog 316 [I k] (.dS [strs (vi k).1,ints (vi k).2])
 | 0,_=>cS (I:=rip) u0 300 OV
 | 1,_=>cS (I:=rip) u0 300 OV
 | 2,_=>cS (I:=rip) u0 300 OV
 | 3,_=>cS (I:=rip) u0 300 OV
 | 4,_=>cS (I:=rip) u0 300 OV
 | _+5,h=>absurd h yA
end Go.Proofs.YtnecpnjdonibmaaGreat
