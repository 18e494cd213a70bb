/- Maps whose keys and values hold no memory: lookups and updat -/
import Derived.Maps.Keyed
import Derived.WideKeyPair
import Derived.Laws.StructEq
import Derived.Test.YtlkmbdfhdknlgaaGreatDoorZ21
namespace Go.Can
open Go.RowKit
def vo:Value→Bool
 | .int _ _=>true
 | .bool _=>true
 | .string _=>true
 | _=>false
def EO:Value→Bool
 | .agg cs=>cs.toList.all vo
 | v=>vo v
def yr:Value→Value→Bool
 | .int k a,.int j b=>decide (k=j) && a == b
 | .bool a,.bool b=>a == b
 | .string a,.string b=>a.data.toList == b.data.toList
 | _,_=>false
def uv:List Value→List Value→Bool
 | [],[]=>true
 | a::r,b::q=>yr a b && uv r q
 | _,_=>false
def yc:Value→Value→Bool
 | .agg a,.agg b=>uv a.toList b.toList
 | a,b=>yr a b
theorem zw {a b:Value}(h:yr a b=true):a=b:=by
 unfold yr at h;split at h
 ·simp only[Bool.and_eq_true,decide_eq_true_eq,beq_iff_eq] at h;rw[h.1,h.2]
 ·simp only[beq_iff_eq] at h;rw[h]
 ·rename_i a b;have h2:a.data=b.data:=Array.toList_inj.1 ON;rw[ByteArray.ext h2]
 ·cases h
theorem zu:∀ (a b:List Value),uv a b=true→a=b
 | [],[],_=>rfl
 | [],_::_,h=>by simp[uv] at h
 | _::_,[],h=>by simp[uv] at h
 | a::r,b::q,h=>by
  simp only[uv,Bool.and_eq_true] at h;rw[zw h.1,zu r q h.2]
theorem oS {a b:Value}(h:yc a b=true):a=b:=by
 unfold yc at h;split at h
 ·rename_i a b;rw[Array.toList_inj.1 (zu _ _ h)]
 ·exact zw h
theorem sT {a:Value}(h:vo a=true):yr a a=true:=by
 cases a<;>simp_all [vo,yr]
theorem sS:∀ (l:List Value),l.all vo=true→uv l l=true
 | [],_=>rfl
 | a::r,h=>by
  simp only[List.all_cons,Bool.and_eq_true] at h;simp[uv,sT h.1,sS r h.2]
theorem nH {a:Value}(h:EO a=true):yc a a=true:=by
 cases a<;>simp only[EO,vo,Bool.false_eq_true] at h<;>simp only[yc]<;>first
  | exact sS _ h
  | exact sT rfl
def sG (kv:Value):List (Value×Value)→Option Value
 | []=>none
 | (k,v)::r=>if yc kv k=true then some v else sG kv r
def mu (kv vv:Value):List (Value×Value)→List (Value×Value)
 | []=>[(kv,vv)]
 | (k,v)::r=>if yc kv k=true then (kv,vv)::r else (k,v)::mu kv vv r
theorem wX {kv:Value}:∀ (es:List (Value×Value)) (v:Value),sG kv es=some v→(kv,v)∈es
 | [],_,h=>by simp[sG] at h
 | (k,u)::r,v,h=>by
  simp only[sG] at h;split at h
  ·rename_i e;rw[oS e];cases h;exact List.mem_cons_self
  ·exact List.mem_cons_of_mem _ (wX r v h)
theorem tL {kv:Value}(hc:EO kv=true):∀ (es:List (Value×Value)),(es.map (·.1)).Nodup→∀ v,(kv,v)∈es→sG kv es=some v
 | [],_,v,hx=>by cases hx
 | (k,u)::r,hn,v,hx=>by
  simp only[List.map_cons,List.nodup_cons] at hn;simp only[sG];rcases List.mem_cons.1 hx with e | hx
  ·cases e;rw[if_pos (nH hc)]
  ·rw[if_neg (fun e=>hn.1 (List.mem_map.2 ⟨(kv,v),hx,oS e⟩))];exact tL hc r hn.2 v hx
theorem tH {kv vv:Value}:∀ (es:List (Value×Value)) (x:Value×Value),x∈mu kv vv es→x.1=kv∨x∈es
 | [],x,h=>by simp only[mu,List.mem_singleton] at h;exact .inl (by rw[h])
 | (k,u)::r,x,h=>by
  simp only[mu] at h;split at h
  ·rcases List.mem_cons.1 h with e | h
   ·exact .inl (by rw[e])
   ·exact .inr (List.mem_cons_of_mem _ h)
  ·rcases List.mem_cons.1 h with e | h
   ·exact .inr (by rw[e];exact List.mem_cons_self)
   ·rcases tH r x h with h | h
    ·exact .inl h
    ·exact .inr (List.mem_cons_of_mem _ h)
theorem rv {kv vv:Value}(hc:EO kv=true):∀ (es:List (Value×Value)),(es.map (·.1)).Nodup→((mu kv vv es).map (·.1)).Nodup
 | [],_=>by simp[mu]
 | (k,u)::r,hn=>by
  simp only[List.map_cons,List.nodup_cons] at hn;simp only[mu];split
  ·rename_i e;have:=oS e;subst this
   simpa using hn
  ·rename_i e;simp only[List.map_cons,List.nodup_cons];refine⟨fun hm=>?_,rv hc r hn.2⟩;obtain⟨x,hx,e2⟩:=List.mem_map.1 hm;rcases tH r x hx with h | h
   ·rw[h] at e2;subst e2;exact e (nH hc)
   ·exact hn.1 (List.mem_map.2 ⟨x,h,e2⟩)
def cv1:CV→Option Value
 | .int k n=>some (.int k n)
 | .bool b=>some (.bool b)
 | .str s=>some (.string s)
 | _=>none
def cvs:List CV→Option (List Value)
 | []=>some []
 | c::r=>match cv1 c,cvs r with
  | some v,some vs=>some (v::vs)
  | _,_=>none
def kS:CV→Option Value
 | .agg cs=>match cvs cs with
  | some vs=>some (.agg vs.toArray)
  | none=>none
 | c=>cv1 c
section
variable {P:Program}{C:Cx}{σ:Nat→Option OB}{s:St}{a:Act}{w:World}{ops:Array Oper}{ak:List (Nat×TI)}
theorem D2 {F:Nat→Prop}{c:CV}{v u:Value}(h:cv1 c=some v)(hv:VR w F σ c u):u=v∧vo v=true:=by
 cases c<;>simp only[cv1] at h<;>first | cases h | skip
 all_goals
  simp only[VR] at hv;exact⟨hv,rfl⟩
theorem D1 {F:Nat→Prop}:∀ (cs:List CV) (vs us:List Value),cvs cs=some vs→aG w F σ cs us→us=vs∧vs.all vo=true
 | [],vs,us,h,hv=>by
  simp only[cvs] at h;cases h;simp only[aG] at hv;exact⟨hv,rfl⟩
 | c::cs,vs,us,h,hv=>by
  simp only[cvs] at h;split at h
  ·rename_i v YK h1 h2;cases h;simp only[aG] at hv;obtain⟨u,r,rfl,k1,k2⟩:=hv;obtain⟨q1,q2⟩:=D2 h1 k1;obtain⟨q3,q4⟩:=D1 cs YK r h2 k2;exact⟨by rw[q1,q3],by simp[q2,q4]⟩
  ·cases h
theorem iZ {F:Nat→Prop}{c:CV}{v u:Value}(h:kS c=some v)(hv:VR w F σ c u):u=v∧EO v=true:=by
 unfold kS at h;split at h
 ·rename_i cs;split at h
  ·rename_i vs Vx;cases h;simp only[VR] at hv;obtain⟨us,rfl,hr,_⟩:=hv;obtain⟨q1,q2⟩:=D1 _ _ _ Vx hr;exact⟨by rw[q1],by simpa [EO] using q2⟩
  ·cases h
 ·obtain⟨q1,q2⟩:=D2 h hv;refine⟨q1,?_⟩;cases v<;>simp_all [EO,vo]
structure II (P:Program)(t kt et:TypeId)(kb:Value→Bool)(zv:Value):Prop where
 yd:P.underlying t=some (.map kt et)
 keyed:Go.Maps.Keyed P kt
 key:∀ v,kb v=true→∃ l,keyOf P kt v=some l
 zero:∃ f,P.info? et=some f∧f.zero=some zv
theorem Bn {t kt et:TypeId}{kb:Value→Bool}{zv:Value}(M:II P t kt et kb zv){o:Oper}{x y:Operand}{k:Nat}{es:List (Value×Value)}{cy c:CV}{kv:Value}(hd:a9 C.nt o.dst=true)(ho:o.op=.lookup t x y false)
  (hx:ev s x=some (.mp k es)) (hy:ev s y=some cy) (hk:kS cy=some kv) (Wj:kb kv=true) (Rv:(es.all fun e=>kb e.1)=true)
  (hc:(match sG kv es with | some v=>eJ v | none=>eJ zv)=some c):p5 P C o s (s.put o.dst c):=by
 rintro a w ⟨σ,h⟩;have hv:=bD h hx;simp only[VR] at hv;obtain⟨B,r,arr,clock,hB,hb,hv,hr,Mh,LC,hf⟩:=hv;obtain⟨Wg,Qp⟩:=iZ hk (bD h hy);obtain⟨l,hl⟩:=M.key kv Wj;have MM:∀ e∈arr.toList,∃ l,keyOf P kt e.key=some l:=fun e he=>by
  have:(e.key,e.val)∈es:=by rw[← Mh];exact List.mem_map.2 ⟨e,he,rfl⟩
  exact M.key _ (List.all_eq_true.1 Rv _ this)
 have LG:(getObj r).run P w=.ok (.map arr clock) w:=by simp[getObj,Sem.run,hr]
 have PG:=M.keyed.check w arr.isEmpty hl;obtain⟨f,g1,g2⟩:=M.zero;have K6:∃ u,(Instr.lookup t (.map (some r)) kv false).run P w=.ok u w∧eJ u=some c:=by
  rcases M.keyed.find w hl arr.toList MM with ⟨OX,Oq⟩ | ⟨j,e,OX,Oq,UG⟩
  ·have KD:sG kv es=none:=by
    cases hm:sG kv es with
    | none=>rfl
    | some v=>
     exfalso;have:=wX es v hm;rw[← Mh] at this;obtain⟨e,he,e2⟩:=List.mem_map.1 this;simp only[Prod.mk.injEq] at e2;exact Oq e he e2.1
   rw[KD] at hc;refine⟨zv,?_,hc⟩;have SD:=gT (P:=P) g1 g2 w;simp[Instr.lookup,bp M.yd,LG,PG,OX,SD]
  ·have Li:(kv,e.val)∈es:=by
    rw[← Mh];exact List.mem_map.2 ⟨e,List.mem_of_getElem? Oq,by rw[UG]⟩
   rw[tL Qp es LC _ Li] at hc;refine⟨e.val,?_,hc⟩;simp[Instr.lookup,bp M.yd,LG,PG,OX]
 obtain⟨u,k1,k2⟩:=K6;refine⟨w,.inl ⟨u,?_,ep hd h (VR.ca _ _ (jq k2).1)⟩⟩;simp[execOp,ho,hv,Wg,k1]
def Dw (k:Nat):CV→Bool
 | .mp k' _=>k' == k
 | _=>false
def isIt:CV→Bool
 | .iter _ _ _=>true
 | _=>false
def HT (k:Nat)(es:List (Value×Value)):List (Nat×CV)→List (Nat×CV)
 | []=>[]
 | (t,c)::r=>(t,if Dw k c then .mp k es else c)::HT k es r
theorem uj {k:Nat}{es:List (Value×Value)}:∀ (l:List (Nat×CV)) (t:Nat) (c:CV),assoc (HT k es l) t=some c→∃ d,assoc l t=some d∧c=if Dw k d then .mp k es else d
 | [],t,c,h=>by simp[HT,assoc] at h
 | (u,d)::r,t,c,h=>by
  simp only[HT,assoc] at h ⊢;split at h
  ·rename_i e;cases h;rw[if_pos e];exact⟨d,rfl,rfl⟩
  ·rename_i e;rw[if_neg e];exact uj r t c h
def Cg (s:St)(k:Nat):Bool:=(s.env.all fun x=>jD x.2 || Dw k x.2 || isIt x.2) && s.heap.all fun x=>ik x.2.cells
theorem pQ {kv vv:Value}:∀ (es:List (Value×Value)),(∀ x∈es,x.1≠kv)→mu kv vv es=es++[(kv,vv)]
 | [],_=>rfl
 | (k,u)::r,h=>by
  simp only[mu];rw[if_neg (fun e=>h (k,u) List.mem_cons_self (oS e).symm),pQ r fun x hx=>h x (List.mem_cons_of_mem _ hx)];rfl
theorem zU {kv vv:Value}(hc:EO kv=true):∀ (es:List (Value×Value)) (j:Nat) (v:Value),(es.map (·.1)).Nodup→es[j]? = some (kv,v)→mu kv vv es=es.set j (kv,vv)
 | [],j,v,_,h=>by simp at h
 | (k,u)::r,0,v,_,h=>by
  simp only[List.getElem?_cons_zero,Option.some.injEq,Prod.mk.injEq] at h;simp only[mu,h.1];rw[if_pos (nH hc)];rfl
 | (k,u)::r,j+1,v,hn,h=>by
  simp only[List.map_cons,List.nodup_cons] at hn;simp only[List.getElem?_cons_succ] at h;simp only[mu];rw[if_neg (fun e=>hn.1 (List.mem_map.2 ⟨(kv,v),List.mem_of_getElem? h,oS e⟩)),zU hc r j v hn.2 h];rfl
theorem Bm {t kt et:TypeId}{kb:Value→Bool}{zv:Value}(M:II P t kt et kb zv){o:Oper}{x y v:Operand}{k:Nat}{es:List (Value×Value)}{cy cv:CV}{kv vv:Value}(_hd:a9 C.nt o.dst=true)(ho:o.op=.mapUpdate t x y v)
  (hx:ev s x=some (.mp k es)) (hy:ev s y=some cy) (hk:kS cy=some kv) (Vz:ev s v=some cv) (Y6:kS cv=some vv) (Wj:kb kv=true) (Rv:(es.all fun e=>kb e.1)=true) (Wl:C.n0≤k) (Kb:Cg s k=true) :
  p5 P C o s (St.del { s with env:=HT k (mu kv vv es) s.env } o.dst):=by
 rintro a w ⟨σ,h⟩;have hv:=bD h hx;simp only[VR] at hv;obtain⟨B,r,arr,clock,hB,hb,hv,hr,Mh,LC,hf⟩:=hv;obtain⟨Wg,Qp⟩:=iZ hk (bD h hy);obtain⟨KQ,_⟩:=iZ Y6 (bD h Vz);obtain⟨l,hl⟩:=M.key kv Wj;have Lc:=(Array.getElem?_eq_some_iff.1 hr).1;have MM:∀ e∈arr.toList,∃ l,keyOf P kt e.key=some l:=fun e he=>by
  have:(e.key,e.val)∈es:=by rw[← Mh];exact List.mem_map.2 ⟨e,he,rfl⟩
  exact M.key _ (List.all_eq_true.1 Rv _ this)
 have LG:(getObj r).run P w=.ok (.map arr clock) w:=by simp[getObj,Sem.run,hr]
 have Qd:∀ q,(setObj r q).run P w=.ok () { w with heap:=w.heap.setIfInBounds r q }:=fun q=>by simp[setObj,Sem.run,hr]
 have PG:=M.keyed.check w false hl;have K6:∃ OM Mk,(Instr.mapUpdate t (.map (some r)) kv vv).run P w=.ok () { w with heap:=w.heap.setIfInBounds r (.map OM Mk) }∧OM.toList.map (fun e=>(e.key,e.val))=mu kv vv es:=by
  rcases M.keyed.find w hl arr.toList MM with ⟨OX,Oq⟩ | ⟨j,e,OX,Oq,UG⟩
  ·refine⟨arr.push { key:=kv,val:=vv,born:=clock },clock+1,?_,?_⟩
   ·simp[Instr.mapUpdate,bp M.yd,LG,PG,OX,Qd]
   ·rw[pQ es fun x hx=>by
     rw[← Mh] at hx;obtain⟨e,he,rfl⟩:=List.mem_map.1 hx;exact Oq e he,← Mh]
    simp
  ·have SS:=M.keyed.stays w hl;have hj:arr[j]? = some e:=by simpa using Oq
   refine⟨arr.modify j fun e=>{ e with key:=kv,val:=vv },clock,?_,?_⟩
   ·simp[Instr.mapUpdate,bp M.yd,LG,PG,OX,hj,UG,SS,Qd]
   ·have Px:es[j]? = some (kv,e.val):=by
     rw[← Mh,List.getElem?_map,Oq];simp[UG]
    rw[zU Qp es j e.val LC Px,← Mh];apply List.ext_getElem?;intro i;simp only[List.getElem?_map,List.getElem?_set,Array.getElem?_toList,Array.getElem?_modify,List.length_map,Array.length_toList];by_cases OH:j=i
    ·subst OH;have KT:=(Array.getElem?_eq_some_iff.1 hj).1;rw[if_pos rfl,if_pos rfl,if_pos KT,hj];rfl
    ·rw[if_neg OH,if_neg OH]
 obtain⟨OM,Mk,k1,k2⟩:=K6;simp only[Cg,Bool.and_eq_true,List.all_eq_true,Bool.or_eq_true] at Kb;generalize KA:({ w with heap:=w.heap.setIfInBounds r (.map OM Mk) }:World)=w' at k1;have Ko:∀ j,j≠r→w'.heap[j]? = w.heap[j]?:=fun j hj=>by simp[← KA,Ne.symm hj]
 have LA:w'.heap[r]? = some (.map OM Mk):=by simp[← KA,Lc]
 have CX:w'.heap.size=w.heap.size:=by simp[← KA]
 have Rm:∀ F:Nat→Prop,kP w w' F F:=fun F ad u hf hu=>by
  have F0:ad.block≠r:=fun e=>by
   unfold World.cell? at hu;rw[e,hr] at hu;cases hu
  exact⟨by rw[World.cell?_of_block (Ko _ F0)];exact hu,hf⟩
 have h':aB C σ { s with env:=HT k (mu kv vv es) s.env } a w':=by
  refine⟨h.me,h.tm,(by rw[← KA];exact h.os),(by rw[← KA];exact h.tape),(by rw[← KA];exact h.output),by rw[CX];exact h.size,?_,?_,?_,h.inj,h.nx,h.fM,h.low,h.new⟩
  ·intro j Wn Px;rw[Ko j (fun e=>?_)]
   ·exact h.frame j Wn Px
   ·subst e;rcases h.new k B j Wl hB hb with n4 | n4
    ·exact Px n4
    ·omega
  ·intro t c hc;obtain⟨d,Ks,rfl⟩:=uj _ _ _ hc;obtain⟨v,q1,q2⟩:=h.env t d Ks;refine⟨v,q1,?_⟩;by_cases hi:Dw k d=true
   ·rw[if_pos hi];cases d<;>simp only[Dw,Bool.false_eq_true] at hi;rename_i k' es';have:k'=k:=by simpa using hi
    subst this;simp only[VR] at q2 ⊢;obtain⟨B2,r2,arr2,Xl,m1,m2,m3,m4,m5,m6,m7⟩:=q2;rw[hB] at m1;cases m1;rw[hb] at m2;cases m2;exact⟨B,r,OM,Mk,hB,hb,m3,LA,k2,rv Qp es LC,m7⟩
   ·rw[if_neg hi];rcases Kb.1 _ (br _ _ _ Ks) with (q | q) | q
    ·exact VR.lD (Rm _) _ _ q q2
    ·exact absurd q hi
    ·cases d<;>simp only[isIt,Bool.false_eq_true] at q;simp only[VR] at q2 ⊢;obtain⟨B2,r2,m1,m2,m3,m4,m5⟩:=q2;have F0:r2≠r:=fun e=>by rw[e,hr] at m4;cases m4
     exact⟨B2,r2,m1,m2,m3,by rw[Ko r2 F0];exact m4,m5⟩
  ·intro q y hq;obtain⟨B2,m1,m2,m3,m4,m5⟩:=h.obj q y hq;refine⟨B2,m1,m2,m3,m4,fun b2 K0=>?_⟩;obtain⟨Od,q1,q2,q3,q4,q5,q6⟩:=m5 b2 K0;have F0:b2≠r:=fun e=>by subst e;rw[hr] at q1;cases q1
   exact⟨Od,by rw[Ko b2 F0];exact q1,q2,q3,q4,q5,aG.lD (Rm _) _ _ (Kb.2 _ (br _ _ _ hq)) q6⟩
 refine⟨w',.inr ⟨?_,σ,h'.del undef⟩⟩;simp[execOp,ho,hv,Wg,KQ,k1]
structure MI where
 t:Nat
 kt:Nat
 et:Nat
 kb:Value→Bool
 zv:Value
def IJ (P:Program)(l:List MI):Prop:=∀ x∈l,II P x.t x.kt x.et x.kb x.zv
def Jx:List MI→Nat→Option MI
 | [],_=>none
 | x::r,t=>if x.t=t then some x else Jx r t
theorem u7:∀ (l:List MI) (t:Nat) (x:MI),Jx l t=some x→x∈l∧x.t=t
 | [],_,_,h=>by simp[Jx] at h
 | y::r,t,x,h=>by
  simp only[Jx] at h;split at h
  ·rename_i e;cases h;exact⟨List.mem_cons_self,e⟩
  ·obtain⟨h1,h2⟩:=u7 r t x h;exact⟨List.mem_cons_of_mem _ h1,h2⟩
def Dc (mi:List MI)(n0:Nat)(s:St)(o:Oper):Option St:=
 match o.op with
 | .lookup t x y false=>match Jx mi t,ev s x,ev s y with
  | some M,some (.mp _ es),some cy=>match kS cy with
   | some kv=>if M.kb kv=true∧(es.all fun e=>M.kb e.1)=true then
     match (match sG kv es with | some v=>eJ v | none=>eJ M.zv) with
     | some c=>some (s.put o.dst c)
     | none=>none
    else none
   | none=>none
  | _,_,_=>none
 | .mapUpdate t x y v=>match Jx mi t,ev s x,ev s y,ev s v with
  | some M,some (.mp k es),some cy,some cv=>match kS cy,kS cv with
   | some kv,some vv=>if M.kb kv=true∧(es.all fun e=>M.kb e.1)=true∧n0≤k∧Cg s k=true then some (St.del { s with env:=HT k (mu kv vv es) s.env } o.dst) else none
   | _,_=>none
  | _,_,_,_=>none
 | _=>none
theorem Db {mi:List MI}(hM:IJ P mi){o:Oper}{s':St}(hd:a9 C.nt o.dst=true)(h:Dc mi C.n0 s o=some s'):p5 P C o s s':=by
 unfold Dc at h;split at h
 ·rename_i t x y ho;split at h
  ·rename_i M k es cy h1 h2 h3;obtain⟨m1,m2⟩:=u7 _ _ _ h1;have hT:=hM M m1;rw[m2] at hT;split at h
   ·rename_i kv h4;split at h
    ·rename_i hc;split at h
     ·rename_i c h5;cases h;exact Bn hT hd ho h2 h3 h4 hc.1 hc.2 h5
     ·cases h
    ·cases h
   ·cases h
  ·cases h
 ·rename_i t x y v ho;split at h
  ·rename_i M k es cy cv h1 h2 h3 h4;obtain⟨m1,m2⟩:=u7 _ _ _ h1;have hT:=hM M m1;rw[m2] at hT;split at h
   ·rename_i kv vv h5 h6;split at h
    ·rename_i hc;cases h;exact Bm hT hd ho h2 h3 h5 h4 h6 hc.1 hc.2.1 hc.2.2.1 hc.2.2.2
    ·cases h
   ·cases h
  ·cases h
 ·cases h
def oP (n:Int):Bool:=decide (-9223372036854775808≤n) && decide (n≤9223372036854775807)
structure EqT (P:Program)(t:TypeId)(kb:Value→Bool):Prop where
 eq:∀ (w:World) (x y:Value),kb x=true→kb y=true→(Op.equalIn 10000 t x y).run P w=.ok (yc x y) w
 guard:P.eqGuardType P.depth t=false
 agg:∀ x,kb x=true→∃ cs,x=.agg cs
structure EI where
 t:Nat
 kb:Value→Bool
def IL (P:Program)(l:List EI):Prop:=∀ x∈l,EqT P x.t x.kb
def eil:List EI→Nat→Option EI
 | [],_=>none
 | x::r,t=>if x.t=t then some x else eil r t
theorem Ad:∀ (l:List EI) (t:Nat) (x:EI),eil l t=some x→x∈l∧x.t=t
 | [],_,_,h=>by simp[eil] at h
 | y::r,t,x,h=>by
  simp only[eil] at h;split at h
  ·rename_i e;cases h;exact⟨List.mem_cons_self,e⟩
  ·obtain⟨h1,h2⟩:=Ad r t x h;exact⟨List.mem_cons_of_mem _ h1,h2⟩
def DT (ei:List EI)(s:St)(o:Oper):Option St:=
 match o.op with
 | .binOp op t x y _=>match eil ei t,ev s x,ev s y with
  | some E,some cx,some cy=>match kS cx,kS cy with
   | some vx,some vy=>if E.kb vx=true∧E.kb vy=true then match op with
     | .eql=>some (s.put o.dst (.bool (yc vx vy)))
     | .neq=>some (s.put o.dst (.bool (!(yc vx vy))))
     | _=>none
    else none
   | _,_=>none
  | _,_,_=>none
 | _=>none
theorem DS {ei:List EI}(hE:IL P ei){o:Oper}{s':St}(hd:a9 C.nt o.dst=true)(h:DT ei s o=some s'):p5 P C o s s':=by
 unfold DT at h;split at h
 ·rename_i op t x y q ho;split at h
  ·rename_i E cx cy h1 h2 h3;obtain⟨m1,m2⟩:=Ad _ _ _ h1;have hT:=hE E m1;rw[m2] at hT;split at h
   ·rename_i vx vy h4 h5;split at h
    ·rename_i hc;rintro a w ⟨σ,hr⟩;obtain⟨e1,_⟩:=iZ h4 (bD hr h2);obtain⟨e2,_⟩:=iZ h5 (bD hr h3);obtain⟨xs,rfl⟩:=hT.agg vx hc.1;obtain⟨ys,rfl⟩:=hT.agg vy hc.2;have hq:=hT.eq w _ _ hc.1 hc.2;split at h
     ·cases h;refine⟨w,.inl ⟨.bool (yc (.agg xs) (.agg ys)),?_,ep hd hr (cT _)⟩⟩;simp only[execOp,ho,e1,e2,Sem.run_bind,run_eqGuard_agg w _ t x y xs ys hT.guard,Result.andThen_ok,run_eql_struct,hq,Sem.run_pure]
     ·cases h;refine⟨w,.inl ⟨.bool (!(yc (.agg xs) (.agg ys))),?_,ep hd hr (cT _)⟩⟩;simp only[execOp,ho,e1,e2,Sem.run_bind,run_eqGuard_agg w _ t x y xs ys hT.guard,Result.andThen_ok,run_neq_struct,hq,Sem.run_pure]
     ·cases h
    ·cases h
   ·cases h
  ·cases h
 ·cases h
def frzA (s:St)(p:Nat)(ob:Ob)(d:Option Tmp)(n:Nat):St:=(s.dC p ob).put d (.au ob.cells n)
theorem Hi (ht:ay P ak){o:Oper}{t e:TypeId}{x:Operand}{p n:Nat}{ob:Ob}{ie:TI}(hd:a9 C.nt o.dst=true)(ho:o.op=.slice t x none none none)(hx:ev s x=some (.ai p 0))(h2:cY ak t=some (.arr n e))(CW:assoc ak e=some ie)
  (hn:0<n) (hm:n≤1000000) (LB:assoc s.heap p=some ob) (LN:trees ob.cells=true):p5 P C o s (frzA s p ob o.dst n):=by
 rintro a w ⟨σ,h⟩;obtain⟨i2,b1,b2,_⟩:=dK ht h2;have g2:=lN (ht t i2 b1) b2;obtain⟨f,z,g3,_⟩:=(ht e ie CW).info;have h':=h.dC LB LN;have LY:∃ v,a.eval x=v∧VR w (FB C σ (s.dC p ob).heap) σ (.cc ob.cells) v:=by
  cases x with
  | tmp t=>
   have K5:assoc s.env t=some (.ai p 0):=hx;have:∀ l:List (Nat×CV),assoc l t=some (.ai p 0)→assoc (sL p ob.cells ob.sz l) t=some (.cc ob.cells):=by
    intro l
    induction l with
    | nil=>intro h;cases h
    | cons y r ih=>
     obtain⟨k,c⟩:=y;intro hl;simp only[sL,assoc] at hl ⊢;split at hl
     ·rename_i e;cases hl;rw[if_pos e];simp[bZ]
     ·rename_i e;rw[if_neg e];exact ih hl
   obtain⟨v,k1,k2⟩:=h'.env t _ (this s.env K5);exact⟨v,by simp[Act.eval,k1],k2⟩
  | const v=>exact absurd hx (by
    simp only[ev];intro hc;have:=nu (w:=w) (F:=fun _=>False) hc;simp[bK] at this)
  | func f=>cases hx
  | global g=>
   simp only[ev,Option.bind_eq_some_iff,Option.map_eq_some_iff] at hx;obtain⟨_,_,_,_,h⟩:=hx;cases h
 obtain⟨v,hv,XS⟩:=LY;simp only[VR,bK] at XS;obtain⟨ad,rfl,UB⟩:=XS;refine⟨w,.inl ⟨.slice (some ad) n n,?_,ep hd h' ?_⟩⟩
 ·have VK:(Instr.sliceBounds false n n none none none).run P w=.ok (0,n,n) w:=by simp[Instr.sliceBounds]
  have F0:¬ n=0:=by omega
  have:(Instr.sliceAt t (.pointer (some ad)) none none none).run P w=.ok (.slice (some ad) n n) w:=by
   simp[Instr.sliceAt,bp g2,Instr.sureAddr,VK,ch g3,F0,add_zero]
  simp[execOp,ho,hv,this]
 ·simp only[VR,bK];exact⟨_,n,rfl,Nat.le_refl _,by simp only[maxLen];omega,.inr ⟨ad,rfl,UB⟩⟩
def Ev (ak:List (Nat×TI))(s:St)(o:Oper):Option St:=
 match o.op with
 | .slice t x none none none=>match ev s x,cY ak t with
  | some (.ai p 0),some (.arr n e)=>match assoc ak e,assoc s.heap p with
   | some _,some ob=>if 0<n∧n≤1000000∧trees ob.cells=true then some (frzA s p ob o.dst n) else none
   | _,_=>none
  | _,_=>none
 | _=>none
theorem Eu (ht:ay P ak){o:Oper}{s':St}(hd:a9 C.nt o.dst=true)(h:Ev ak s o=some s'):p5 P C o s s':=by
 unfold Ev at h;split at h
 ·rename_i t x ho;split at h
  ·rename_i p n e hx h2;split at h
   ·rename_i ie ob h3 h4;split at h
    ·rename_i hc;cases h;exact Hi ht hd ho hx h2 h3 hc.1 hc.2.1 h4 hc.2.2
    ·cases h
   ·cases h
  ·cases h
 ·cases h
end
structure IP where
 ak:List (Nat×TI)
 mt:gh
 al:FuncId→Bool
 pu:FuncId→Bool
 orc:FuncId→Nat→Option (List (Nat×Nat))
 Bp:List (FuncId×List CV×CV)
 mi:List MI:=[]
 ei:List EI:=[]
def knl:List (FuncId×List CV×CV)→FuncId→List CV→Option CV
 | [],_,_=>none
 | (h,ds,r)::l,g,cs=>if (h == g && pz ds cs)=true then some r else knl l g cs
abbrev mj:=FuncId→List CV→Option CV
def yV (I:IP)(n0 nt:Nat)(ops:Array Oper)(call:eP)(pcall:mj)(o:Oper)(s:St):Option St:=
 match bR o with
 | none=>match fp I.ak nt ops s o with
  | some s'=>some s'
  | none=>match bM ops s o with
   | some true=>if a9 nt o.dst=true then match zt n0 I.ak s o with
     | some s'=>some s'
     | none=>match Dc I.mi n0 s o with
      | some s'=>some s'
      | none=>match DT I.ei s o with
       | some s'=>some s'
       | none=>Ev I.ak s o
    else none
   | _=>none
 | some c=>match bM ops s o with
  | some true=>if a9 nt o.dst=true then match gG I.mt s c with
    | some (g,cs)=>match (if trees cs then pcall g cs else none) with
     | some r=>some (s.put o.dst r)
     | none=>match call g cs s.heap s.nx with
      | some (x,H,n)=>some (St.put ⟨s.env,H,n⟩ o.dst x)
      | none=>none
    | none=>none
   else none
  | _=>fp I.ak nt ops s o
def xe (I:IP)(n0 nt:Nat)(ops:Array Oper)(call:eP)(pcall:mj):List Oper→St→Option St
 | [],s=>some s
 | o::r,s=>match yV I n0 nt ops call pcall o s with
  | some s'=>xe I n0 nt ops call pcall r s'
  | none=>none
def drX (I:IP)(call:eP)(pcall:mj)(g:FuncId)(_n0 nt:Nat)(id:Nat)(ops:Array Oper)(s:St):Option St:=match I.orc g id with
 | none=>none
 | some dyn=>Gm I.ak I.mt nt ops call pcall (List.range ops.size) dyn s
def Ia (I:IP)(g:FuncId)(id:Nat)(ops:Array Oper)(d:Bool):Bool:=!d || match I.orc g id with
 | some dyn=>qG ops false (List.range ops.size) dyn
 | none=>true
def CG (I:IP)(call:eP)(pcall:mj)(g:FuncId)(n0 nt:Nat)(id:Nat)(ops:Array Oper)(d:Bool)(s:St):Option St:=
 if d then drX I call pcall g n0 nt id ops s else xe I n0 nt ops call pcall ops.toList s
def rY (I:IP)(go:FuncId→List CV→List (Nat×Ob)→Nat→Option (Func×St)):eP:=fun g cs H n=>match go g cs H n with
 | some (fn,s)=>match bf I.ak fn s with
  | some r=>some (r,s.heap,s.nx)
  | none=>none
 | none=>none
def pd (I:IP)(go:FuncId→List CV→List (Nat×Ob)→Nat→Option (Func×St)):mj:=fun g cs=>match knl I.Bp g cs with
 | some r=>some r
 | none=>if I.pu g then match go g cs [] 0 with
  | some (fn,s)=>match bf I.ak fn s with
   | some r=>deep s.heap 60 r
   | none=>none
  | none=>none
  else none
def a8 (P:Program)(I:IP):Nat→FuncId→List CV→List (Nat×Ob)→Nat→Option (Func×St)
 | 0,_,_,_,_=>none
 | f+1,g,cs,H,n=>match P.funcs[g]? with
  | none=>none
  | some fn=>match fn.body with
   | none=>none
   | some c => if (fn.name == "runtime.NumGoroutine") = false ∧ cs.length ≤ fn.ntmps ∧ I.al g = true then
     match k8 (CG I (rY I (a8 P I f)) (pd I (a8 P I f)) g n fn.ntmps) f c ⟨(enter cs).env,H,n⟩ with
     | some (.normal,s')=>some (fn,s')
     | some (.ret,s')=>some (fn,s')
     | _=>none
    else none
section
variable {P:Program}{C:Cx}{s:St}{I:IP}{ops:Array Oper}{call:eP}{pcall:mj}
structure G2 (P:Program)(I:IP):Prop where
 kn:∀ x∈I.Bp,ae P x.1 x.2.1 x.2.2
 ak:ay P I.ak
 mt:gM P I.mt
 mi:IJ P I.mi
 ei:IL P I.ei
 md:P.follows .mixedOrders=true
 gd:∀ g fn c,I.al g=true→P.funcs[g]? = some fn→fn.body=some c→fE (Ia I g) c=true
theorem Bd (hI:G2 P I)(hc:fv P I.ak call)(hp:sP P pcall){o:Oper}{l:List Oper}{s':St}{K:St→Prop}(h:yV I C.n0 C.nt ops call pcall o s=some s')(hk:TL P C ops l s' K):TL P C ops (o::l) s K:=by
 unfold yV at h;split at h
 ·split at h
  ·rename_i s1 h1;cases h;exact TL.step hI.ak h1 hk
  ·split at h
   ·rename_i hg;split at h
    ·rename_i hd;split at h
     ·rename_i s1 h1;cases h;exact jl hg (vH hI.ak hd h1) hk
     ·split at h
      ·rename_i s1 h1;cases h;exact jl hg (Db hI.mi hd h1) hk
      ·split at h
       ·rename_i s1 h1;cases h;exact jl hg (DS hI.ei hd h1) hk
       ·exact jl hg (Eu hI.ak hd h) hk
    ·cases h
   ·cases h
 ·rename_i c hu;have Fm:=fB hu;split at h
  ·rename_i hg;split at h
   ·rename_i hd;split at h
    ·rename_i g cs Kj;split at h
     ·rename_i r hr;cases h;split at hr
      ·rename_i ht;have hP:=hp g cs r hr;exact Gt hd hg (uq.to hI.mt Fm Kj hP.1) ht hP hk
      ·cases hr
     ·split at h
      ·rename_i x H n hx;cases h;have hB:=hc _ _ _ _ _ _ _ hx;have hE:jR P g:=by
        obtain⟨fn,c,h1,h2,h3,_⟩:=hB;exact⟨fn,h1,h3,by simp[h2]⟩
       refine callE hI.ak hd hg (uq.to hI.mt Fm Kj hE) hB ?_;rintro r s1 ⟨rfl,rfl,rfl⟩;exact hk
      ·cases h
    ·cases h
   ·cases h
  ·exact TL.step hI.ak h hk
theorem xd (hI:G2 P I)(hc:fv P I.ak call)(hp:sP P pcall):∀ (l:List Oper) (s s':St),xe I C.n0 C.nt ops call pcall l s=some s'→TL P C ops l s fun x=>x=s'
 | [],s,s',h=>by
  simp only[xe] at h;cases h;exact TL.nil rfl
 | o::r,s,s',h=>by
  simp only[xe] at h;split at h
  ·rename_i s1 h1;exact Bd hI hc hp h1 (xd hI hc hp r s1 s' h)
  ·cases h
theorem Ic (hI:G2 P I)(hc:fv P I.ak call)(hp:sP P pcall)(g:FuncId)(id:Nat)(ops:Array Oper)(s s':St)(hg:Ia I g id ops true=true)(h:drX I call pcall g C.n0 C.nt id ops s=some s'):T P C (.region id ops true) s fun e x=>e=.normal∧x=s':=by
 unfold drX at h;unfold Ia at hg;split at h
 ·cases h
 ·rename_i dyn ho;rw[ho] at hg;exact T.trace hI.ak hI.mt hc hp hI.md (by simpa using hg) h
theorem Fc (hI:G2 P I)(hc:fv P I.ak call)(hp:sP P pcall)(g:FuncId):ED P C (Ia I g) (CG I call pcall g C.n0 C.nt):=by
 intro id ops d s s' hg h;unfold CG at h
 cases d with
 | true=>exact Ic hI hc hp g id ops s s' hg ON
 | false=>
  have hl:=xd (ops:=ops.toList.toArray) hI hc hp ops.toList s s' ON
  simpa using TL.again (id:=id) hl
def IK (P : Program) (go : FuncId → List CV → List (Nat × Ob) → Nat → Option (Func × St)) : Prop := ∀ g cs H n fn s', go g cs H n = some (fn, s') → ∃ c, P.funcs[g]? = some fn ∧ fn.body = some c ∧ (fn.name == "runtime.NumGoroutine") = false ∧ cs.length ≤ fn.ntmps ∧
 ∀ C:Cx,C.nt=fn.ntmps→C.n0=n→T P C c ⟨(enter cs).env,H,n⟩ fun e x=>(e=.normal∨e=.ret)∧x=s'
theorem BI {go:FuncId→List CV→List (Nat×Ob)→Nat→Option (Func×St)}(h:IK P go):fv P I.ak (rY I go):=by
 intro g cs H n x H' n' hx;unfold rY at hx;split at hx
 ·rename_i fn s' hg;split at hx
  ·rename_i r hr;cases hx;obtain⟨c,h1,h2,h3,h4,h5⟩:=h _ _ _ _ _ _ hg;refine Body.je h1 h2 h3 h4 fun C hC xJ=>T.mono (h5 C hC xJ) ?_;rintro e x ⟨rfl | rfl,rfl⟩<;>exact aa.here ⟨_,hr,rfl,rfl,rfl⟩
  ·cases hx
 ·cases hx
theorem z4:∀ (l:List (FuncId×List CV×CV)) (g:FuncId) (cs:List CV) (r:CV),knl l g cs=some r→(g,cs,r)∈l
 | [],_,_,_,h=>by simp[knl] at h
 | (h',ds,r')::l,g,cs,r,h=>by
  simp only[knl] at h;split at h
  ·rename_i e;simp only[Bool.and_eq_true,beq_iff_eq] at e;cases h;rw[iu _ _ e.2,e.1];exact List.mem_cons_self
  ·exact List.mem_cons_of_mem _ (z4 l g cs r h)
theorem tr (ht:ay P I.ak)(hk:∀ x∈I.Bp,ae P x.1 x.2.1 x.2.2){go:FuncId→List CV→List (Nat×Ob)→Nat→Option (Func×St)}(h:IK P go):sP P (pd I go):=by
 intro g cs r hx;unfold pd at hx;split at hx
 ·rename_i r' Wm;cases hx;exact hk _ (z4 _ _ _ _ Wm)
 ·split at hx
  ·split at hx
   ·rename_i fn s' hg;split at hx
    ·rename_i r0 hr;obtain⟨c,h1,h2,h3,h4,h5⟩:=h _ _ _ _ _ _ hg;refine ae.FA ht h1 h2 h3 h4 fun C hC xJ=>T.mono (h5 C hC xJ) ?_;rintro e x ⟨rfl | rfl,rfl⟩<;>exact⟨r0,60,hr,hx⟩
    ·cases hx
   ·cases hx
  ·cases hx
theorem DF (hI:G2 P I):∀ f,IK P (a8 P I f)
 | 0=>fun _ _ _ _ _ _ h=>by simp[a8] at h
 | f+1=>fun g cs H n fn s' h=>by
  have ih:=DF hI f;simp only[a8] at h;split at h
  ·cases h
  ·rename_i Xg hf;split at h
   ·cases h
   ·rename_i c hb;split at h
    ·rename_i PF
     cases hx:k8 (CG I (rY I (a8 P I f)) (pd I (a8 P I f)) g n Xg.ntmps) f c ⟨(enter cs).env,H,n⟩ with
     | none=>rw[hx] at h;cases h
     | some q=>
      rw[hx] at h;obtain⟨e3,s1⟩:=q;have hT:∀ C:Cx,C.nt=Xg.ntmps→C.n0=n→T P C c ⟨(enter cs).env,H,n⟩ fun e x=>e=e3∧x=s1:=fun C hC xJ=>by
       have hR:ED P C (Ia I g) (CG I (rY I (a8 P I f)) (pd I (a8 P I f)) g C.n0 C.nt):=Fc hI (BI ih) (tr hI.ak hI.kn ih) g;rw[hC,xJ] at hR;exact T.mono (Ah hR f c _ _ (hI.gd g Xg c PF.2.2 hf hb) hx) fun e x he=>he
      cases e3<;>simp only at h<;>first | cases h | skip
      all_goals
       exact⟨c,hf,hb,PF.1,PF.2.1,fun C hC xJ=>T.mono (hT C hC xJ) fun e x he=>⟨by simp[he.1],he.2⟩⟩
    ·cases h
theorem dz (hI:G2 P I)(f:Nat){g:FuncId}{cs:List CV}{r:CV}(h:pd I (a8 P I f) g cs=some r):ae P g cs r:=tr hI.ak hI.kn (DF hI f) g cs r h
end
def xu (P:Program)(I:IP)(l:List Nat):Bool:=l.all fun g=>match P.funcs[g]? with
 | some fn=>match fn.body with
  | some c=>fE (Ia I g) c
  | none=>true
 | none=>true
theorem Br {P:Program}(I:IP)(Bp:List (FuncId×List CV×CV))(l:List Nat):xu P { I with Bp:=Bp } l=xu P I l:=rfl
theorem xq {P:Program}{I:IP}{l:List Nat}(h:xu P I l=true)(hl:∀ g,I.al g=true→g∈l):∀ g fn c,I.al g=true→P.funcs[g]? = some fn→fn.body=some c→fE (Ia I g) c=true:=fun g fn c ha hf hb=>by
 have:=List.all_eq_true.1 h g (hl g ha);simp only[hf,hb] at this;exact this
def Dg (P:Program)(t:Nat)(name:String)(g:FuncId):Bool:=match P.info? t with
 | some i=>match i.methods.find? (·.name == name) with
  | some m=>match m.path.toList,m.func with
   | [],some (h,false)=>h == g && match P.underlying t with
    | some (.pointer _)=>false
    | some _=>true
    | none=>false
   | _,_=>false
  | none=>false
 | none=>false
theorem Df {P:Program}{t:Nat}{name:String}{g:FuncId}(h:Dg P t name g=true):vB P t name g:=by
 unfold Dg at h;split at h
 ·rename_i i hi;split at h
  ·rename_i m hm;split at h
   ·rename_i k hp hf;simp only[Bool.and_eq_true,beq_iff_eq] at h;obtain⟨rfl,h2⟩:=h;refine⟨⟨i,m,hi,hm,hp,by rw[Array.isEmpty_iff_size_eq_zero,← Array.length_toList,hp];rfl,hf⟩,?_⟩;split at h2
    ·cases h2
    ·rename_i d hn hd;exact⟨d,hd,fun e he=>hn e (by rw[he])⟩
    ·cases h2
   ·cases h
  ·cases h
 ·cases h
def zW (P:Program)(mt:gh):Bool:=mt.all fun x=>Dg P x.1.1 x.1.2 x.2
theorem mZ {P:Program}{mt:gh}(h:zW P mt=true):gM P mt:=fun x hx=>Df (List.all_eq_true.1 h x hx)
end Go.Can
namespace Go.Proofs.YtlkmbdfhdknlgaaGreatDoor
open Go.Can Go.aT
def ral:List Nat:=[131,132]
def rip:IP:=⟨ak,[],fun g=>ral.contains g,fun _=>true,fun _ _=>none,[],[],[]⟩
theorem rgd:xu Tryz.prog rip ral=true:=by kernel_rfl
theorem qS:G2 Tryz.prog rip:=⟨by simp[rip],af,mZ lz,by intro x hx;simp[rip] at hx,by intro x hx;simp[rip] at hx,follows,xq (l:=ral) rgd fun g ha=>by simpa [rip] using ha⟩
def rk (k:Nat):List ByteArray×List Int:=match k with
 | 0=>([⟨#[124,124]⟩],[17])
 | 1=>([⟨#[38,38]⟩],[16])
 | 2=>([⟨#[61,61]⟩,⟨#[33,61]⟩,⟨#[60]⟩,⟨#[60,61]⟩,⟨#[62]⟩,⟨#[62,61]⟩],[14,15,10,11,12,13])
 | 3=>([⟨#[43]⟩,⟨#[45]⟩],[8,9])
 | _=>([⟨#[42]⟩,⟨#[47]⟩,⟨#[37]⟩],[5,6,7])
set_option maxRecDepth 100000 in
theorem eD:∀ k:Nat,k≤17→ae Tryz.prog 132 [I k] (I (lk k))
 | 0,_=>dz (I:=rip) qS 300 lz
 | 1,_=>dz (I:=rip) qS 300 lz
 | 2,_=>dz (I:=rip) qS 300 lz
 | 3,_=>dz (I:=rip) qS 300 lz
 | 4,_=>dz (I:=rip) qS 300 lz
 | 5,_=>dz (I:=rip) qS 300 lz
 | 6,_=>dz (I:=rip) qS 300 lz
 | 7,_=>dz (I:=rip) qS 300 lz
 | 8,_=>dz (I:=rip) qS 300 lz
 | 9,_=>dz (I:=rip) qS 300 lz
 | 10,_=>dz (I:=rip) qS 300 lz
 | 11,_=>dz (I:=rip) qS 300 lz
 | 12,_=>dz (I:=rip) qS 300 lz
 | 13,_=>dz (I:=rip) qS 300 lz
 | 14,_=>dz (I:=rip) qS 300 lz
 | 15,_=>dz (I:=rip) qS 300 lz
 | 16,_=>dz (I:=rip) qS 300 lz
 | 17,_=>dz (I:=rip) qS 300 lz
 | _+18,h=>absurd h yA
set_option maxRecDepth 100000 in
theorem CA:∀ k:Nat,k≤4→ae Tryz.prog 131 [I k] (.db [strs (rk k).1,ints (rk k).2])
 | 0,_=>dz (I:=rip) qS 300 lz
 | 1,_=>dz (I:=rip) qS 300 lz
 | 2,_=>dz (I:=rip) qS 300 lz
 | 3,_=>dz (I:=rip) qS 300 lz
 | 4,_=>dz (I:=rip) qS 300 lz
 | _+5,h=>absurd h yA
def ba (gs:List Gl)(ms:List Mx)(nf left:Nat)(ar:Bool):Ob:=⟨102,0,[.ai 0 0,.au (gs.flatMap mL) gs.length,.au (ms.flatMap eQ) ms.length,.bw 2 0 nf,I left,.bool ar]⟩
@[simp] theorem wrOb_frz (gs:List Gl)(ms:List Mx)(nf left:Nat)(ar:Bool)(o:Nat)(h:o≠0)(h2:o≠2)(cs:List CV)(n:Nat):(⟨(ba gs ms nf left ar).elem,(ba gs ms nf left ar).sz,(ba gs ms nf left ar).cells.map (bZ o cs n)⟩:Ob)=ba gs ms nf left ar:=by
 have h':¬ 0=o:=fun e=>h e.symm;have Ni:¬ 2=o:=fun e=>h2 e.symm;simp[ba,h',Ni]
@[simp] theorem IZ (ρ:Nat→Nat)(h0:ρ 0=0)(h2:ρ 2=2)(gs:List Gl)(ms:List Mx)(nf left:Nat)(ar:Bool):cr ρ (ba gs ms nf left ar)=ba gs ms nf left ar:=by
 simp only[cr,ba,cg,en,h0,h2]
@[simp] theorem IX (L:List Int)(i n:Nat):(ax L i).cells.all (aZ n)=true:=rfl
@[simp] theorem IV (L:List Int)(i n:Nat):aO n (ax L i).cells=true:=rfl
@[simp] theorem Cb (gs:List Gl)(ms:List Mx)(nf left:Nat)(ar:Bool)(n:Nat)(h:2<n):(ba gs ms nf left ar).cells.all (aZ n)=true:=by
 have h':0<n:=by omega
 simp[ba,h,h']
@[simp] theorem wrOb_lts (gs:List Gl)(ms:List Mx)(nf left:Nat)(ar:Bool)(n:Nat)(h:2<n):aO n (ba gs ms nf left ar).cells=true:=by rw[bU];exact Cb gs ms nf left ar n h
theorem sU (r:Rf):trees (jw r)=true:=by
 rcases r with ⟨_,_ | _⟩<;>rfl
theorem lg (L:List Int)(hL:L.length≤1000)(vars:List ByteArray)(hv:vars.length≤1000)(gs:List Gl)(ms:List Mx)(nf left:Nat)(ar:Bool)(i:Nat)(hi:i≤L.length) :
  Body Tryz.prog ak 79 [.ai 1 0,.bw 3 0 vars.length] [(0,ax L i),(1,ba gs ms nf left ar),(3,aW vars)] 4 (jQ (.agg (bC (cL L ar vars i).1)) [(0,ax L (cL L ar vars i).2),(1,ba gs ms nf left ar),(3,aW vars)] 4):=by
 refine Body.je Tryz.func79 rfl lz (by simp[Tryz.ntmps79]) fun C hC xJ=>?_;rw[Tryz.ntmps79] at hC;apply ah;simp[hC]
 cases ar with
 | false=>
  apply aL;simp[hC,ba];refine cz ?_;simp;apply ah;simp[hC];refine TL.cd af [0,3] 4 (qO L hL vars hv 0 i yA hi) yI rfl rfl rfl rfl j5 Ku Kt rfl (TL.go' af ?_);simp[bA];apply T.ret;refine aa.le (Le.trim [4] [0,1,3,4] 5 Sk yA) ?_;simp;refine aa.le (Le.nz [] [4]) ?_;simp;refine aa.le (Le.dC (o:=4) rfl O3) ?_;simp;refine aa.trim [4] [0,1,3] 4 NJ yA ⟨_,?_,rfl,?_,rfl⟩
  ·simp[cL,nL,bA]
  ·simp[cL]
 | true=>
  apply aL;simp[hC,ba];refine dg ?_;simp;have yN:=cI L i (show 0<2 by omega);have w1:=cm (1+((bO L i 2).1:Int)) yA yA;apply T.seq;refine T.rx af follows [0,1,2,3,4,5,6,7,8,9,10,11,12] [(3,9)] lz ?_;simp[hC];refine RX.cd [0] [0] 1 (bX L i 2 hi hL yA yA) rfl j5 rfl rfl rfl rfl j5 Ku Kt rfl rfl rfl j5 ?_;simp[w1];refine RX.cd [0,3] [0] 4 (qO L hL vars hv (1+(bO L i 2).1) _ yA (aV _ _ hi)) rfl j5 rfl rfl rfl rfl j5 Ku Kt rfl rfl rfl j5 ?_;simp[bA];apply T.ret;refine aa.le (Le.trim [4] [0,1,3,4] 18 Sk yA) ?_;simp;refine aa.le (Le.nz [] [4]) ?_;simp;refine aa.le (Le.dC (o:=4) rfl O3) ?_;simp;refine aa.trim [4] [0,1,3] 4 NJ yA ⟨_,?_,rfl,?_,rfl⟩
  ·simp[cL,nL,bA]
  ·simp[cL]
theorem AD (L:List Int)(hL:L.length≤1000)(vars:List ByteArray)(hv:vars.length≤1000)(gs:List Gl)(ms:List Mx)(nf left size:Nat)(hs:0<size)(Q2:size≤1000)(ar:Bool)(i:Nat)(hi:i≤L.length) :
  Body Tryz.prog ak 102 [.ai 1 0,.bw 3 0 vars.length,I size] [(0,ax L i),(1,ba gs ms nf left ar),(3,aW vars)] 4 (jQ (.agg (bC (mv L ar vars size i).1)) [(0,ax L (mv L ar vars size i).2),(1,ba gs ms nf left ar),(3,aW vars)] 4):=by
 refine Body.je Tryz.func102 rfl lz (by simp[Tryz.ntmps102]) fun C hC xJ=>?_;rw[Tryz.ntmps102] at hC;apply ah;simp[hC];have Mq:=aV L 3 hi
 cases ar with
 | false=>
  apply aL;simp[hC,ba];refine dg ?_;simp;apply ah;simp[hC];refine TL.cd af [0] 1 (bX L i size hi hL hs yA) yI rfl rfl rfl rfl j5 Ku Kt rfl (TL.go' af ?_);simp[hC];apply T.ret;refine aa.le (Le.trim [6] [0,1,3,4] 5 Uf yA) ?_;simp;refine aa.le (Le.nz [] [4]) ?_;simp;refine aa.le (Le.dC (o:=4) rfl O3) ?_;simp;refine aa.trim [6] [0,1,3] 4 NJ yA ⟨_,?_,rfl,?_,rfl⟩
  ·simp[mv,bC,eS]
  ·simp[mv]
 | true=>
  apply aL;simp[hC,ba];refine TL.cd af [0] 1 (bX L i 3 hi hL yA yA) yI rfl rfl rfl rfl j5 Ku Kt rfl (TL.go' af ?_);simp[hC];refine T.aX rfl (fun h=>?_) (fun h=>?_)
  ·have h1:(bO L i 3).1=1:=by simpa using h
   apply ah;simp[hC];refine TL.cd af [0,3] 4 (qO L hL vars hv 1 _ yA Mq) yI rfl rfl rfl rfl j5 Ku Kt rfl (TL.go' af ?_);simp[bA];apply T.ret;refine aa.le (Le.trim [6] [0,1,3,4] 5 Sk yA) ?_;simp;refine aa.le (Le.nz [] [4]) ?_;simp;refine aa.le (Le.dC (o:=4) rfl O3) ?_;simp;refine aa.trim [6] [0,1,3] 4 NJ yA ⟨_,?_,rfl,?_,rfl⟩
   ·simp[mv,h1,nL,bA]
   ·simp[mv,h1]
  ·have h1:¬ (bO L i 3).1=1:=by simpa using h
   apply T.skip;simp;apply ah;simp[hC];refine TL.cd af [0] 1 (bX L _ size Mq hL hs yA) yI rfl rfl rfl rfl j5 Ku Kt rfl (TL.go' af ?_);simp[hC];apply T.ret;refine aa.le (Le.trim [6] [0,1,3,4] 5 Uf yA) ?_;simp;refine aa.le (Le.nz [] [4]) ?_;simp;refine aa.le (Le.dC (o:=4) rfl O3) ?_;simp;refine aa.trim [6] [0,1,3] 4 NJ yA ⟨_,?_,rfl,?_,rfl⟩
   ·simp[mv,bC,eS,h1]
   ·simp[mv,h1]
end Go.Proofs.YtlkmbdfhdknlgaaGreatDoor
