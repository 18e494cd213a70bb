/- Maps whose keys and values hold no memory: lookups and updat -/
import Derived.Maps.Keyed
import Derived.WideKeyPair
import Derived.Laws.StructEq
import Derived.Test.YtnecpnjdonibmaaGreatZ23
namespace Go.Can
open Go.RowKit
def yp:Value→Bool
 | .int _ _=>true
 | .bool _=>true
 | .string _=>true
 | _=>false
def Dz:Value→Bool
 | .agg cs=>cs.toList.all yp
 | v=>yp v
def AY:Value→Value→Bool
 | .int k a,.int j b=>decide (k=j) && a == b
 | .bool a,.bool b=>a == b
 | .string a,.string b=>a.data.toList == b.data.toList
 | _,_=>false
def xq:List Value→List Value→Bool
 | [],[]=>true
 | a::r,b::q=>AY a b && xq r q
 | _,_=>false
def Fq:Value→Value→Bool
 | .agg a,.agg b=>xq a.toList b.toList
 | a,b=>AY a b
theorem Cs {a b:Value}(h:AY a b=true):a=b:=by
 unfold AY at h;split at h
 ·simp only[Bool.and_eq_true,decide_eq_true_eq,beq_iff_eq] at h;rw[h.1,h.2]
 ·simp only[beq_iff_eq] at h;rw[h]
 ·rename_i a b;have h2:a.data=b.data:=Array.toList_inj.1 Sr;rw[ByteArray.ext h2]
 ·cases h
theorem Cr:∀ (a b:List Value),xq a b=true→a=b
 | [],[],_=>rfl
 | [],_::_,h=>by simp[xq] at h
 | _::_,[],h=>by simp[xq] at h
 | a::r,b::q,h=>by
  simp only[xq,Bool.and_eq_true] at h;rw[Cs h.1,Cr r q h.2]
theorem sL {a b:Value}(h:Fq a b=true):a=b:=by
 unfold Fq at h;split at h
 ·rename_i a b;rw[Array.toList_inj.1 (Cr _ _ h)]
 ·exact Cs h
theorem vz {a:Value}(h:yp a=true):AY a a=true:=by
 cases a<;>simp_all [yp,AY]
theorem vw:∀ (l:List Value),l.all yp=true→xq l l=true
 | [],_=>rfl
 | a::r,h=>by
  simp only[List.all_cons,Bool.and_eq_true] at h;simp[xq,vz h.1,vw r h.2]
theorem sK {a:Value}(h:Dz a=true):Fq a a=true:=by
 cases a<;>simp only[Dz,yp,Bool.false_eq_true] at h<;>simp only[Fq]<;>first
  | exact vw _ h
  | exact vz rfl
def vi (kv:Value):List (Value×Value)→Option Value
 | []=>none
 | (k,v)::r=>if Fq kv k=true then some v else vi kv r
def nE (kv vv:Value):List (Value×Value)→List (Value×Value)
 | []=>[(kv,vv)]
 | (k,v)::r=>if Fq kv k=true then (kv,vv)::r else (k,v)::nE kv vv r
theorem zF {kv:Value}:∀ (es:List (Value×Value)) (v:Value),vi kv es=some v→(kv,v)∈es
 | [],_,h=>by simp[vi] at h
 | (k,u)::r,v,h=>by
  simp only[vi] at h;split at h
  ·rename_i e;rw[sL e];cases h;exact List.mem_cons_self
  ·exact List.mem_cons_of_mem _ (zF r v h)
theorem wv {kv:Value}(hc:Dz kv=true):∀ (es:List (Value×Value)),(es.map (·.1)).Nodup→∀ v,(kv,v)∈es→vi kv es=some v
 | [],_,v,hx=>by cases hx
 | (k,u)::r,hn,v,hx=>by
  simp only[List.map_cons,List.nodup_cons] at hn;simp only[vi];rcases List.mem_cons.1 hx with e | hx
  ·cases e;rw[if_pos (sK hc)]
  ·rw[if_neg (fun e=>hn.1 (List.mem_map.2 ⟨(kv,v),hx,sL e⟩))];exact wv hc r hn.2 v hx
theorem wa {kv vv:Value}:∀ (es:List (Value×Value)) (x:Value×Value),x∈nE kv vv es→x.1=kv∨x∈es
 | [],x,h=>by simp only[nE,List.mem_singleton] at h;exact .inl (by rw[h])
 | (k,u)::r,x,h=>by
  simp only[nE] at h;split at h
  ·rcases List.mem_cons.1 h with e | h
   ·exact .inl (by rw[e])
   ·exact .inr (List.mem_cons_of_mem _ h)
  ·rcases List.mem_cons.1 h with e | h
   ·exact .inr (by rw[e];exact List.mem_cons_self)
   ·rcases wa r x h with h | h
    ·exact .inl h
    ·exact .inr (List.mem_cons_of_mem _ h)
theorem ub {kv vv:Value}(hc:Dz kv=true):∀ (es:List (Value×Value)),(es.map (·.1)).Nodup→((nE kv vv es).map (·.1)).Nodup
 | [],_=>by simp[nE]
 | (k,u)::r,hn=>by
  simp only[List.map_cons,List.nodup_cons] at hn;simp only[nE];split
  ·rename_i e;have:=sL e;subst this
   simpa using hn
  ·rename_i e;simp only[List.map_cons,List.nodup_cons];refine⟨fun hm=>?_,ub hc r hn.2⟩;obtain⟨x,hx,e2⟩:=List.mem_map.1 hm;rcases wa r x hx with h | h
   ·rw[h] at e2;subst e2;exact e (sK hc)
   ·exact hn.1 (List.mem_map.2 ⟨x,h,e2⟩)
def cv1:CV→Option Value
 | .int k n=>some (.int k n)
 | .bool b=>some (.bool b)
 | .str s=>some (.string s)
 | _=>none
def cvs:List CV→Option (List Value)
 | []=>some []
 | c::r=>match cv1 c,cvs r with
  | some v,some vs=>some (v::vs)
  | _,_=>none
def nX:CV→Option Value
 | .agg cs=>match cvs cs with
  | some vs=>some (.agg vs.toArray)
  | none=>none
 | c=>cv1 c
section
variable {P:Program}{C:Cx}{σ:Nat→Option OB}{s:St}{a:Act}{w:World}{ops:Array Oper}{au:List (Nat×TI)}
theorem H6 {F:Nat→Prop}{c:CV}{v u:Value}(h:cv1 c=some v)(hv:VR w F σ c u):u=v∧yp v=true:=by
 cases c<;>simp only[cv1] at h<;>first | cases h | skip
 all_goals
  simp only[VR] at hv;exact⟨hv,rfl⟩
theorem H5 {F:Nat→Prop}:∀ (cs:List CV) (vs us:List Value),cvs cs=some vs→aN w F σ cs us→us=vs∧vs.all yp=true
 | [],vs,us,h,hv=>by
  simp only[cvs] at h;cases h;simp only[aN] at hv;exact⟨hv,rfl⟩
 | c::cs,vs,us,h,hv=>by
  simp only[cvs] at h;split at h
  ·rename_i v vs' h1 h2;cases h;simp only[aN] at hv;obtain⟨u,r,rfl,k1,k2⟩:=hv;obtain⟨q1,q2⟩:=H6 h1 k1;obtain⟨q3,q4⟩:=H5 cs vs' r h2 k2;exact⟨by rw[q1,q3],by simp[q2,q4]⟩
  ·cases h
theorem mF {F:Nat→Prop}{c:CV}{v u:Value}(h:nX c=some v)(hv:VR w F σ c u):u=v∧Dz v=true:=by
 unfold nX at h;split at h
 ·rename_i cs;split at h
  ·rename_i vs hvs;cases h;simp only[VR] at hv;obtain⟨us,rfl,hr,_⟩:=hv;obtain⟨q1,q2⟩:=H5 _ _ _ hvs hr;exact⟨by rw[q1],by simpa [Dz] using q2⟩
  ·cases h
 ·obtain⟨q1,q2⟩:=H6 h hv;refine⟨q1,?_⟩;cases v<;>simp_all [Dz,yp]
structure KG (P:Program)(t kt et:TypeId)(kb:Value→Bool)(zv:Value):Prop where
 AM:P.underlying t=some (.map kt et)
 keyed:Go.Maps.Keyed P kt
 key:∀ v,kb v=true→∃ l,keyOf P kt v=some l
 zero:∃ f,P.info? et=some f∧f.zero=some zv
theorem EC {t kt et:TypeId}{kb:Value→Bool}{zv:Value}(M:KG P t kt et kb zv){o:Oper}{x y:Operand}{k:Nat}{es:List (Value×Value)}{cy c:CV}{kv:Value}(hd:aZ C.nt o.dst=true)(ho:o.op=.lookup t x y false)
  (hx:ev s x=some (.mp k es)) (hy:ev s y=some cy) (hk:nX cy=some kv) (X2:kb kv=true) (hes:(es.all fun e=>kb e.1)=true)
  (hc:(match vi kv es with | some v=>fL v | none=>fL zv)=some c):q8 P C o s (s.put o.dst c):=by
 rintro a w ⟨σ,h⟩;have hv:=bL h hx;simp only[VR] at hv;obtain⟨B,r,arr,clock,hB,hb,hv,hr,Sk,SD,hf⟩:=hv;obtain⟨hkv,WN⟩:=mF hk (bL h hy);obtain⟨l,hl⟩:=M.key kv X2;have SF:∀ e∈arr.toList,∃ l,keyOf P kt e.key=some l:=fun e he=>by
  have:(e.key,e.val)∈es:=by rw[← Sk];exact List.mem_map.2 ⟨e,he,rfl⟩
  exact M.key _ (List.all_eq_true.1 hes _ this)
 have RK:(getObj r).run P w=.ok (.map arr clock) w:=by simp[getObj,Sem.run,hr]
 have VN:=M.keyed.check w arr.isEmpty hl;obtain⟨f,g1,g2⟩:=M.zero;have QP:∃ u,(Instr.lookup t (.map (some r)) kv false).run P w=.ok u w∧fL u=some c:=by
  rcases M.keyed.find w hl arr.toList SF with ⟨UZ,Uq⟩ | ⟨j,e,UZ,Uq,hf3⟩
  ·have QN:vi kv es=none:=by
    cases hm:vi kv es with
    | none=>rfl
    | some v=>
     exfalso;have:=zF es v hm;rw[← Sk] at this;obtain⟨e,he,e2⟩:=List.mem_map.1 this;simp only[Prod.mk.injEq] at e2;exact Uq e he e2.1
   rw[QN] at hc;refine⟨zv,?_,hc⟩;have hzr:=iI (P:=P) g1 g2 w;simp[Instr.lookup,bu M.AM,RK,VN,UZ,hzr]
  ·have Q1:(kv,e.val)∈es:=by
    rw[← Sk];exact List.mem_map.2 ⟨e,List.mem_of_getElem? Uq,by rw[hf3]⟩
   rw[wv WN es SD _ Q1] at hc;refine⟨e.val,?_,hc⟩;simp[Instr.lookup,bu M.AM,RK,VN,UZ]
 obtain⟨u,k1,k2⟩:=QP;refine⟨w,.inl ⟨u,?_,eN hd h (VR.cm _ _ (mG k2).1)⟩⟩;simp[execOp,ho,hv,hkv,k1]
def Hw (k:Nat):CV→Bool
 | .mp k' _=>k' == k
 | _=>false
def isIt:CV→Bool
 | .iter _ _ _=>true
 | _=>false
def Mv (k:Nat)(es:List (Value×Value)):List (Nat×CV)→List (Nat×CV)
 | []=>[]
 | (t,c)::r=>(t,if Hw k c then .mp k es else c)::Mv k es r
theorem wS {k:Nat}{es:List (Value×Value)}:∀ (l:List (Nat×CV)) (t:Nat) (c:CV),assoc (Mv k es l) t=some c→∃ d,assoc l t=some d∧c=if Hw k d then .mp k es else d
 | [],t,c,h=>by simp[Mv,assoc] at h
 | (u,d)::r,t,c,h=>by
  simp only[Mv,assoc] at h ⊢;split at h
  ·rename_i e;cases h;rw[if_pos e];exact⟨d,rfl,rfl⟩
  ·rename_i e;rw[if_neg e];exact wS r t c h
def F1 (s:St)(k:Nat):Bool:=(s.env.all fun x=>km x.2 || Hw k x.2 || isIt x.2) && s.heap.all fun x=>jg x.2.cells
theorem qN {kv vv:Value}:∀ (es:List (Value×Value)),(∀ x∈es,x.1≠kv)→nE kv vv es=es++[(kv,vv)]
 | [],_=>rfl
 | (k,u)::r,h=>by
  simp only[nE];rw[if_neg (fun e=>h (k,u) List.mem_cons_self (sL e).symm),qN r fun x hx=>h x (List.mem_cons_of_mem _ hx)];rfl
theorem C1 {kv vv:Value}(hc:Dz kv=true):∀ (es:List (Value×Value)) (j:Nat) (v:Value),(es.map (·.1)).Nodup→es[j]? = some (kv,v)→nE kv vv es=es.set j (kv,vv)
 | [],j,v,_,h=>by simp at h
 | (k,u)::r,0,v,_,h=>by
  simp only[List.getElem?_cons_zero,Option.some.injEq,Prod.mk.injEq] at h;simp only[nE,h.1];rw[if_pos (sK hc)];rfl
 | (k,u)::r,j+1,v,hn,h=>by
  simp only[List.map_cons,List.nodup_cons] at hn;simp only[List.getElem?_cons_succ] at h;simp only[nE];rw[if_neg (fun e=>hn.1 (List.mem_map.2 ⟨(kv,v),List.mem_of_getElem? h,sL e⟩)),C1 hc r j v hn.2 h];rfl
theorem EA {t kt et:TypeId}{kb:Value→Bool}{zv:Value}(M:KG P t kt et kb zv){o:Oper}{x y v:Operand}{k:Nat}{es:List (Value×Value)}{cy cv:CV}{kv vv:Value}(_hd:aZ C.nt o.dst=true)(ho:o.op=.mapUpdate t x y v)
  (hx:ev s x=some (.mp k es)) (hy:ev s y=some cy) (hk:nX cy=some kv) (hv0:ev s v=some cv) (hvv:nX cv=some vv) (X2:kb kv=true) (hes:(es.all fun e=>kb e.1)=true) (hk0:C.n0≤k) (P9:F1 s k=true) :
  q8 P C o s (St.del { s with env:=Mv k (nE kv vv es) s.env } o.dst):=by
 rintro a w ⟨σ,h⟩;have hv:=bL h hx;simp only[VR] at hv;obtain⟨B,r,arr,clock,hB,hb,hv,hr,Sk,SD,hf⟩:=hv;obtain⟨hkv,WN⟩:=mF hk (bL h hy);obtain⟨Rw,_⟩:=mF hvv (bL h hv0);obtain⟨l,hl⟩:=M.key kv X2;have Uj:=(Array.getElem?_eq_some_iff.1 hr).1;have SF:∀ e∈arr.toList,∃ l,keyOf P kt e.key=some l:=fun e he=>by
  have:(e.key,e.val)∈es:=by rw[← Sk];exact List.mem_map.2 ⟨e,he,rfl⟩
  exact M.key _ (List.all_eq_true.1 hes _ this)
 have RK:(getObj r).run P w=.ok (.map arr clock) w:=by simp[getObj,Sem.run,hr]
 have SC:∀ q,(setObj r q).run P w=.ok () { w with heap:=w.heap.setIfInBounds r q }:=fun q=>by simp[setObj,Sem.run,hr]
 have VN:=M.keyed.check w false hl;have QP:∃ UR Sq,(Instr.mapUpdate t (.map (some r)) kv vv).run P w=.ok () { w with heap:=w.heap.setIfInBounds r (.map UR Sq) }∧UR.toList.map (fun e=>(e.key,e.val))=nE kv vv es:=by
  rcases M.keyed.find w hl arr.toList SF with ⟨UZ,Uq⟩ | ⟨j,e,UZ,Uq,hf3⟩
  ·refine⟨arr.push { key:=kv,val:=vv,born:=clock },clock+1,?_,?_⟩
   ·simp[Instr.mapUpdate,bu M.AM,RK,VN,UZ,SC]
   ·rw[qN es fun x hx=>by
     rw[← Sk] at hx;obtain⟨e,he,rfl⟩:=List.mem_map.1 hx;exact Uq e he,← Sk]
    simp
  ·have Zk:=M.keyed.stays w hl;have hj:arr[j]? = some e:=by simpa using Uq
   refine⟨arr.modify j fun e=>{ e with key:=kv,val:=vv },clock,?_,?_⟩
   ·simp[Instr.mapUpdate,bu M.AM,RK,VN,UZ,hj,hf3,Zk,SC]
   ·have X4:es[j]? = some (kv,e.val):=by
     rw[← Sk,List.getElem?_map,Uq];simp[hf3]
    rw[C1 WN es j e.val SD X4,← Sk];apply List.ext_getElem?;intro i;simp only[List.getElem?_map,List.getElem?_set,Array.getElem?_toList,Array.getElem?_modify,List.length_map,Array.length_toList];by_cases Tc:j=i
    ·subst Tc;have P7:=(Array.getElem?_eq_some_iff.1 hj).1;rw[if_pos rfl,if_pos rfl,if_pos P7,hj];rfl
    ·rw[if_neg Tc,if_neg Tc]
 obtain⟨UR,Sq,k1,k2⟩:=QP;simp only[F1,Bool.and_eq_true,List.all_eq_true,Bool.or_eq_true] at P9;generalize Qr:({ w with heap:=w.heap.setIfInBounds r (.map UR Sq) }:World)=w' at k1;have Qj:∀ j,j≠r→w'.heap[j]? = w.heap[j]?:=fun j hj=>by simp[← Qr,Ne.symm hj]
 have RH:w'.heap[r]? = some (.map UR Sq):=by simp[← Qr,Uj]
 have PZ:w'.heap.size=w.heap.size:=by simp[← Qr]
 have ZY:∀ F:Nat→Prop,lQ w w' F F:=fun F ad u hf hu=>by
  have P3:ad.block≠r:=fun e=>by
   unfold World.cell? at hu;rw[e,hr] at hu;cases hu
  exact⟨by rw[World.cell?_of_block (Qj _ P3)];exact hu,hf⟩
 have h':aL C σ { s with env:=Mv k (nE kv vv es) s.env } a w':=by
  refine⟨h.mD,h.tm,(by rw[← Qr];exact h.os),(by rw[← Qr];exact h.tape),(by rw[← Qr];exact h.output),by rw[PZ];exact h.size,?_,?_,?_,h.inj,h.nx,h.gy,h.low,h.new⟩
  ·intro j hj1 X4;rw[Qj j (fun e=>?_)]
   ·exact h.frame j hj1 X4
   ·subst e;rcases h.new k B j hk0 hB hb with n4 | n4
    ·exact X4 n4
    ·omega
  ·intro t c hc;obtain⟨d,Qk,rfl⟩:=wS _ _ _ hc;obtain⟨v,q1,q2⟩:=h.env t d Qk;refine⟨v,q1,?_⟩;by_cases hi:Hw k d=true
   ·rw[if_pos hi];cases d<;>simp only[Hw,Bool.false_eq_true] at hi;rename_i k' es';have:k'=k:=by simpa using hi
    subst this;simp only[VR] at q2 ⊢;obtain⟨B2,r2,arr2,clock2,m1,m2,m3,m4,m5,m6,m7⟩:=q2;rw[hB] at m1;cases m1;rw[hb] at m2;cases m2;exact⟨B,r,UR,Sq,hB,hb,m3,RH,k2,ub WN es SD,m7⟩
   ·rw[if_neg hi];rcases P9.1 _ (bp _ _ _ Qk) with (q | q) | q
    ·exact VR.mv (ZY _) _ _ q q2
    ·exact absurd q hi
    ·cases d<;>simp only[isIt,Bool.false_eq_true] at q;simp only[VR] at q2 ⊢;obtain⟨B2,r2,m1,m2,m3,m4,m5⟩:=q2;have P3:r2≠r:=fun e=>by rw[e,hr] at m4;cases m4
     exact⟨B2,r2,m1,m2,m3,by rw[Qj r2 P3];exact m4,m5⟩
  ·intro q y hq;obtain⟨B2,m1,m2,m3,m4,m5⟩:=h.obj q y hq;refine⟨B2,m1,m2,m3,m4,fun b2 Re=>?_⟩;obtain⟨Ue,q1,q2,q3,q4,q5,q6⟩:=m5 b2 Re;have P3:b2≠r:=fun e=>by subst e;rw[hr] at q1;cases q1
   exact⟨Ue,by rw[Qj b2 P3];exact q1,q2,q3,q4,q5,aN.mv (ZY _) _ _ (P9.2 _ (bp _ _ _ hq)) q6⟩
 refine⟨w',.inr ⟨?_,σ,h'.del undef⟩⟩;simp[execOp,ho,hv,hkv,Rw,k1]
structure MI where
 t:Nat
 kt:Nat
 et:Nat
 kb:Value→Bool
 zv:Value
def Nq (P:Program)(l:List MI):Prop:=∀ x∈l,KG P x.t x.kt x.et x.kb x.zv
def Oh:List MI→Nat→Option MI
 | [],_=>none
 | x::r,t=>if x.t=t then some x else Oh r t
theorem xY:∀ (l:List MI) (t:Nat) (x:MI),Oh l t=some x→x∈l∧x.t=t
 | [],_,_,h=>by simp[Oh] at h
 | y::r,t,x,h=>by
  simp only[Oh] at h;split at h
  ·rename_i e;cases h;exact⟨List.mem_cons_self,e⟩
  ·obtain⟨h1,h2⟩:=xY r t x h;exact⟨List.mem_cons_of_mem _ h1,h2⟩
def G9 (mi:List MI)(n0:Nat)(s:St)(o:Oper):Option St:=
 match o.op with
 | .lookup t x y false=>match Oh mi t,ev s x,ev s y with
  | some M,some (.mp _ es),some cy=>match nX cy with
   | some kv=>if M.kb kv=true∧(es.all fun e=>M.kb e.1)=true then
     match (match vi kv es with | some v=>fL v | none=>fL M.zv) with
     | some c=>some (s.put o.dst c)
     | none=>none
    else none
   | none=>none
  | _,_,_=>none
 | .mapUpdate t x y v=>match Oh mi t,ev s x,ev s y,ev s v with
  | some M,some (.mp k es),some cy,some cv=>match nX cy,nX cv with
   | some kv,some vv=>if M.kb kv=true∧(es.all fun e=>M.kb e.1)=true∧n0≤k∧F1 s k=true then some (St.del { s with env:=Mv k (nE kv vv es) s.env } o.dst) else none
   | _,_=>none
  | _,_,_,_=>none
 | _=>none
theorem G8 {mi:List MI}(hM:Nq P mi){o:Oper}{s':St}(hd:aZ C.nt o.dst=true)(h:G9 mi C.n0 s o=some s'):q8 P C o s s':=by
 unfold G9 at h;split at h
 ·rename_i t x y ho;split at h
  ·rename_i M k es cy h1 h2 h3;obtain⟨m1,m2⟩:=xY _ _ _ h1;have hT:=hM M m1;rw[m2] at hT;split at h
   ·rename_i kv h4;split at h
    ·rename_i hc;split at h
     ·rename_i c h5;cases h;exact EC hT hd ho h2 h3 h4 hc.1 hc.2 h5
     ·cases h
    ·cases h
   ·cases h
  ·cases h
 ·rename_i t x y v ho;split at h
  ·rename_i M k es cy cv h1 h2 h3 h4;obtain⟨m1,m2⟩:=xY _ _ _ h1;have hT:=hM M m1;rw[m2] at hT;split at h
   ·rename_i kv vv h5 h6;split at h
    ·rename_i hc;cases h;exact EA hT hd ho h2 h3 h5 h4 h6 hc.1 hc.2.1 hc.2.2.1 hc.2.2.2
    ·cases h
   ·cases h
  ·cases h
 ·cases h
def PB (n:Int):Bool:=decide (-9223372036854775808≤n) && decide (n≤9223372036854775807)
def CN:Value→Bool
 | .agg cs=>match cs.toList with
  | [.int .i64 a,.int .i64 b]=>PB a && PB b
  | _=>false
 | _=>false
theorem EB {t kt it et:TypeId}{zv:Value}(hu:P.underlying t=some (.map kt et))(A:Go.WideMaps.ArrKey P kt it 2)(hi:P.underlying it=some (.int .i64))(PZ:∃ m,P.types.size=m+1)(hz:∃ f,P.info? et=some f∧f.zero=some zv):KG P t kt et CN zv:=by
 refine⟨hu,Go.Maps.Keyed.of_law A.law,fun v hv=>?_,hz⟩;unfold CN at hv;split at hv
 ·rename_i cs;split at hv
  ·rename_i a b Ql;simp only[Bool.and_eq_true,PB,decide_eq_true_eq] at hv;have hcs2:cs=#[.int .i64 a,.int .i64 b]:=Array.ext' Ql;rw[hcs2];have wf:∀ n:Int,-9223372036854775808≤n∧n≤9223372036854775807→(Lit.int .i64 n).wf=true:=fun n hn=>by
    simp[Lit.wf,IntKind.min,IntKind.max,IntKind.signed,IntKind.bits];omega
   exact⟨_,Go.WideMaps.keyOf_pair A hi PZ (wf a hv.1) (wf b hv.2)⟩
  ·cases hv
 ·cases hv
def D8:Value→Bool
 | .agg cs=>match cs.toList with
  | [.int .i64 _,.int .i64 _,.int .i64 _,.int .i64 _]=>true
  | _=>false
 | _=>false
theorem xK {v:Value}(h:D8 v=true):∃ a b c d:Int,v=.agg #[.int .i64 a,.int .i64 b,.int .i64 c,.int .i64 d]:=by
 unfold D8 at h;split at h
 ·rename_i cs;split at h
  ·rename_i a b c d Ql;exact⟨a,b,c,d,by rw[show cs=#[.int .i64 a,.int .i64 b,.int .i64 c,.int .i64 d] from Array.ext' Ql]⟩
  ·cases h
 ·cases h
theorem EP {ti : TypeId} {f0 f1 f2 f3 : Field} (hi : P.underlying ti = some (.int .i64)) (h0 : f0.type = ti ∧ f0.offset = 0 ∧ f0.name ≠ "_") (h1 : f1.type = ti ∧ f1.offset = 1 ∧ f1.name ≠ "_") (h2 : f2.type = ti ∧ f2.offset = 2 ∧ f2.name ≠ "_") (h3 : f3.type = ti ∧ f3.offset = 3 ∧ f3.name ≠ "_") (a b c d a' b' c' d' : Int) :
  (Op.eqFields 9999 #[.int .i64 a,.int .i64 b,.int .i64 c,.int .i64 d] #[.int .i64 a',.int .i64 b',.int .i64 c',.int .i64 d'] [f0,f1,f2,f3]).run P w=.ok (a == a' && (b == b' && (c == c' && d == d'))) w:=by
 have hp:∀ (xs:Array Value) (i:Nat) (v:Value),xs[i]? = some v→(part ti xs i).run P w=.ok v w:=fun xs i v hv=>by
  simp[part,isAgg,bu hi,hv]
 have p0:∀ x y z u:Value,(part ti #[x,y,z,u] 0).run P w=.ok x w:=fun x y z u=>hp _ 0 _ rfl;have p1:∀ x y z u:Value,(part ti #[x,y,z,u] 1).run P w=.ok y w:=fun x y z u=>hp _ 1 _ rfl;have p2:∀ x y z u:Value,(part ti #[x,y,z,u] 2).run P w=.ok z w:=fun x y z u=>hp _ 2 _ rfl;have p3:∀ x y z u:Value,(part ti #[x,y,z,u] 3).run P w=.ok u w:=fun x y z u=>hp _ 3 _ rfl;have he:∀ x y:Int,(Op.equalIn 9999 ti (.int .i64 x) (.int .i64 y)).run P w=.ok (x == y) w:=fun x y=>run_equalIn_int w 9998 ti .i64 .i64 x y hi;obtain⟨t0,o0,n0⟩:=h0;obtain⟨t1,o1,n1⟩:=h1;obtain⟨t2,o2,n2⟩:=h2;obtain⟨t3,o3,n3⟩:=h3;simp only[Op.eqFields,t0,o0,t1,o1,t2,o2,t3,o3,n0,n1,n2,n3,ne_eq,not_false_eq_true,if_true,Sem.run_bind,Sem.run_ite,p0,p1,p2,p3,he,Result.andThen_ok,Sem.run_pure];by_cases e0:a=a'<;>by_cases e1:b=b'<;>by_cases e2:c=c'<;>by_cases e3:d=d'<;>simp[e0,e1,e2,e3]
structure PG (P:Program)(t:TypeId)(kb:Value→Bool):Prop where
 eq:∀ (w:World) (x y:Value),kb x=true→kb y=true→(Op.equalIn 10000 t x y).run P w=.ok (Fq x y) w
 guard:P.eqGuardType P.depth t=false
 agg:∀ x,kb x=true→∃ cs,x=.agg cs
theorem HS {t ti : TypeId} {f0 f1 f2 f3 : Field} (ht : P.underlying t = some (.struct (P.fieldsOf t))) (hf : (P.fieldsOf t).toList = [f0, f1, f2, f3]) (hs : P.stoodInHeld t = false) (hi : P.underlying ti = some (.int .i64)) (h0 : f0.type = ti ∧ f0.offset = 0 ∧ f0.name ≠ "_") (h1 : f1.type = ti ∧ f1.offset = 1 ∧ f1.name ≠ "_") (h2 : f2.type = ti ∧ f2.offset = 2 ∧ f2.name ≠ "_") (h3 : f3.type = ti ∧ f3.offset = 3 ∧ f3.name ≠ "_") (hg : P.eqGuardType P.depth t = false) : PG P t D8 := by
 refine⟨fun w x y hx hy=>?_,hg,fun x hx=>?_⟩
 ·obtain⟨a,b,c,d,rfl⟩:=xK hx;obtain⟨a',b',c',d',rfl⟩:=xK hy;rw[run_equalIn_agg w 9999 t _ _ ht hs,hf,EP hi h0 h1 h2 h3];simp[Fq,xq,AY]
 ·obtain⟨a,b,c,d,rfl⟩:=xK hx;exact⟨_,rfl⟩
structure EI where
 t:Nat
 kb:Value→Bool
def Ns (P:Program)(l:List EI):Prop:=∀ x∈l,PG P x.t x.kb
def eil:List EI→Nat→Option EI
 | [],_=>none
 | x::r,t=>if x.t=t then some x else eil r t
theorem Dn:∀ (l:List EI) (t:Nat) (x:EI),eil l t=some x→x∈l∧x.t=t
 | [],_,_,h=>by simp[eil] at h
 | y::r,t,x,h=>by
  simp only[eil] at h;split at h
  ·rename_i e;cases h;exact⟨List.mem_cons_self,e⟩
  ·obtain⟨h1,h2⟩:=Dn r t x h;exact⟨List.mem_cons_of_mem _ h1,h2⟩
def HR (ei:List EI)(s:St)(o:Oper):Option St:=
 match o.op with
 | .binOp op t x y _=>match eil ei t,ev s x,ev s y with
  | some E,some cx,some cy=>match nX cx,nX cy with
   | some vx,some vy=>if E.kb vx=true∧E.kb vy=true then match op with
     | .eql=>some (s.put o.dst (.bool (Fq vx vy)))
     | .neq=>some (s.put o.dst (.bool (!(Fq vx vy))))
     | _=>none
    else none
   | _,_=>none
  | _,_,_=>none
 | _=>none
theorem HQ {ei:List EI}(hE:Ns P ei){o:Oper}{s':St}(hd:aZ C.nt o.dst=true)(h:HR ei s o=some s'):q8 P C o s s':=by
 unfold HR at h;split at h
 ·rename_i op t x y q ho;split at h
  ·rename_i E cx cy h1 h2 h3;obtain⟨m1,m2⟩:=Dn _ _ _ h1;have hT:=hE E m1;rw[m2] at hT;split at h
   ·rename_i vx vy h4 h5;split at h
    ·rename_i hc;rintro a w ⟨σ,hr⟩;obtain⟨e1,_⟩:=mF h4 (bL hr h2);obtain⟨e2,_⟩:=mF h5 (bL hr h3);obtain⟨xs,rfl⟩:=hT.agg vx hc.1;obtain⟨ys,rfl⟩:=hT.agg vy hc.2;have hq:=hT.eq w _ _ hc.1 hc.2;split at h
     ·cases h;refine⟨w,.inl ⟨.bool (Fq (.agg xs) (.agg ys)),?_,eN hd hr (dv _)⟩⟩;simp only[execOp,ho,e1,e2,Sem.run_bind,run_eqGuard_agg w _ t x y xs ys hT.guard,Result.andThen_ok,run_eql_struct,hq,Sem.run_pure]
     ·cases h;refine⟨w,.inl ⟨.bool (!(Fq (.agg xs) (.agg ys))),?_,eN hd hr (dv _)⟩⟩;simp only[execOp,ho,e1,e2,Sem.run_bind,run_eqGuard_agg w _ t x y xs ys hT.guard,Result.andThen_ok,run_neq_struct,hq,Sem.run_pure]
     ·cases h
    ·cases h
   ·cases h
  ·cases h
 ·cases h
def frzA (s:St)(p:Nat)(ob:Ob)(d:Option Tmp)(n:Nat):St:=(s.dz p ob).put d (.az ob.cells n)
theorem LO (ht:aB P au){o:Oper}{t e:TypeId}{x:Operand}{p n:Nat}{ob:Ob}{ie:TI}(hd:aZ C.nt o.dst=true)(ho:o.op=.slice t x none none none)(hx:ev s x=some (.av p 0))(h2:dq au t=some (.arr n e))(PS:assoc au e=some ie)
  (hn:0<n) (hm:n≤1000000) (Rh:assoc s.heap p=some ob) (RQ:trees ob.cells=true):q8 P C o s (frzA s p ob o.dst n):=by
 rintro a w ⟨σ,h⟩;obtain⟨i2,b1,b2,_⟩:=dW ht h2;have g2:=mM (ht t i2 b1) b2;obtain⟨f,z,g3,_⟩:=(ht e ie PS).info;have h':=h.dz Rh RQ;have YI:∃ v,a.eval x=v∧VR w (FB C σ (s.dz p ob).heap) σ (.cA ob.cells) v:=by
  cases x with
  | tmp t=>
   have RD:assoc s.env t=some (.av p 0):=hx;have:∀ l:List (Nat×CV),assoc l t=some (.av p 0)→assoc (vl p ob.cells ob.sz l) t=some (.cA ob.cells):=by
    intro l
    induction l with
    | nil=>intro h;cases h
    | cons y r ih=>
     obtain⟨k,c⟩:=y;intro hl;simp only[vl,assoc] at hl ⊢;split at hl
     ·rename_i e;cases hl;rw[if_pos e];simp[cB]
     ·rename_i e;rw[if_neg e];exact ih hl
   obtain⟨v,k1,k2⟩:=h'.env t _ (this s.env RD);exact⟨v,by simp[Act.eval,k1],k2⟩
  | const v=>exact absurd hx (by
    simp only[ev];intro hc;have:=oC (w:=w) (F:=fun _=>False) hc;simp[ch] at this)
  | func f=>cases hx
  | global g=>cases hx
 obtain⟨v,hv,hvr⟩:=YI;simp only[VR,ch] at hvr;obtain⟨ad,rfl,hmr⟩:=hvr;refine⟨w,.inl ⟨.slice (some ad) n n,?_,eN hd h' ?_⟩⟩
 ·have hsb:(Instr.sliceBounds false n n none none none).run P w=.ok (0,n,n) w:=by simp[Instr.sliceBounds]
  have P3:¬ n=0:=by omega
  have:(Instr.sliceAt t (.pointer (some ad)) none none none).run P w=.ok (.slice (some ad) n n) w:=by
   simp[Instr.sliceAt,bu g2,Instr.sureAddr,hsb,cG g3,P3,add_zero]
  simp[execOp,ho,hv,this]
 ·simp only[VR,ch];exact⟨_,n,rfl,Nat.le_refl _,by simp only[maxLen];omega,.inr ⟨ad,rfl,hmr⟩⟩
def IA (au:List (Nat×TI))(s:St)(o:Oper):Option St:=
 match o.op with
 | .slice t x none none none=>match ev s x,dq au t with
  | some (.av p 0),some (.arr n e)=>match assoc au e,assoc s.heap p with
   | some _,some ob=>if 0<n∧n≤1000000∧trees ob.cells=true then some (frzA s p ob o.dst n) else none
   | _,_=>none
  | _,_=>none
 | _=>none
theorem Iz (ht:aB P au){o:Oper}{s':St}(hd:aZ C.nt o.dst=true)(h:IA au s o=some s'):q8 P C o s s':=by
 unfold IA at h;split at h
 ·rename_i t x ho;split at h
  ·rename_i p n e hx h2;split at h
   ·rename_i ie ob h3 h4;split at h
    ·rename_i hc;cases h;exact LO ht hd ho hx h2 h3 hc.1 hc.2.1 h4 hc.2.2
    ·cases h
   ·cases h
  ·cases h
 ·cases h
end
theorem EG {P:Program}{et:TypeId}{zv:Value}(h:(P.info? et).bind (·.zero)=some zv):∃ f,P.info? et=some f∧f.zero=some zv:=by
 obtain⟨f,h1,h2⟩:=Option.bind_eq_some_iff.1 h;exact⟨f,h1,h2⟩
def EM (ti i : Nat) (f : Field) : Bool := f.type == ti && f.offset == i && f.name != "_"
theorem sr {ti i : Nat} {f : Field} (h : EM ti i f = true) : f.type = ti ∧ f.offset = i ∧ f.name ≠ "_" := by
 simp only[EM,Bool.and_eq_true,beq_iff_eq,bne_iff_ne] at h;exact⟨h.1.1,h.1.2,h.2⟩
def KQ (P:Program)(t ti:Nat):Bool:=match (P.fieldsOf t).toList with
 | [f0,f1,f2,f3]=>EM ti 0 f0 && EM ti 1 f1 && EM ti 2 f2 && EM ti 3 f3
 | _=>false
theorem EO {P:Program}{t ti:TypeId}(h:KQ P t ti=true)(ht:P.underlying t=some (.struct (P.fieldsOf t)))(hs:P.stoodInHeld t=false)(hi:P.underlying ti=some (.int .i64))(hg:P.eqGuardType P.depth t=false):PG P t D8:=by
 unfold KQ at h;split at h
 ·rename_i f0 f1 f2 f3 hf;simp only[Bool.and_eq_true] at h;exact HS ht hf hs hi (sr h.1.1.1) (sr h.1.1.2) (sr h.1.2) (sr h.2) hg
 ·cases h
structure IP where
 au:List (Nat×TI)
 mt:gL
 al:FuncId→Bool
 pu:FuncId→Bool
 orc:FuncId→Nat→Option (List (Nat×Nat))
 EE:List (FuncId×List CV×CV)
 mi:List MI:=[]
 ei:List EI:=[]
def knl:List (FuncId×List CV×CV)→FuncId→List CV→Option CV
 | [],_,_=>none
 | (h,ds,r)::l,g,cs=>if (h == g && qx ds cs)=true then some r else knl l g cs
abbrev nu:=FuncId→List CV→Option CV
def Bx (I:IP)(n0 nt:Nat)(ops:Array Oper)(call:fe)(pcall:nu)(o:Oper)(s:St):Option St:=
 match cc o with
 | none=>match fK I.au nt ops s o with
  | some s'=>some s'
  | none=>match bN ops s o with
   | some true=>if aZ nt o.dst=true then match Cp n0 I.au s o with
     | some s'=>some s'
     | none=>match G9 I.mi n0 s o with
      | some s'=>some s'
      | none=>match HR I.ei s o with
       | some s'=>some s'
       | none=>IA I.au s o
    else none
   | _=>none
 | some c=>match bN ops s o with
  | some true=>if aZ nt o.dst=true then match ig I.mt s c with
    | some (g,cs)=>match (if trees cs then pcall g cs else none) with
     | some r=>some (s.put o.dst r)
     | none=>match call g cs s.heap s.nx with
      | some (x,H,n)=>some (St.put ⟨s.env,H,n⟩ o.dst x)
      | none=>none
    | none=>none
   else none
  | _=>fK I.au nt ops s o
def zM (I:IP)(n0 nt:Nat)(ops:Array Oper)(call:fe)(pcall:nu):List Oper→St→Option St
 | [],s=>some s
 | o::r,s=>match Bx I n0 nt ops call pcall o s with
  | some s'=>zM I n0 nt ops call pcall r s'
  | none=>none
def drX (I:IP)(call:fe)(pcall:nu)(g:FuncId)(_n0 nt:Nat)(id:Nat)(ops:Array Oper)(s:St):Option St:=match I.orc g id with
 | none=>none
 | some dyn=>KI I.au I.mt nt ops call pcall (List.range ops.size) dyn s
def MP (I:IP)(g:FuncId)(id:Nat)(ops:Array Oper)(d:Bool):Bool:=!d || match I.orc g id with
 | some dyn=>sR ops false (List.range ops.size) dyn
 | none=>true
def Gy (I:IP)(call:fe)(pcall:nu)(g:FuncId)(n0 nt:Nat)(id:Nat)(ops:Array Oper)(d:Bool)(s:St):Option St:=
 if d then drX I call pcall g n0 nt id ops s else zM I n0 nt ops call pcall ops.toList s
def uI (I:IP)(go:FuncId→List CV→List (Nat×Ob)→Nat→Option (Func×St)):fe:=fun g cs H n=>match go g cs H n with
 | some (fn,s)=>match bD I.au fn s with
  | some r=>some (r,s.heap,s.nx)
  | none=>none
 | none=>none
def qg (I:IP)(go:FuncId→List CV→List (Nat×Ob)→Nat→Option (Func×St)):nu:=fun g cs=>match knl I.EE g cs with
 | some r=>some r
 | none=>if I.pu g then match go g cs [] 0 with
  | some (fn,s)=>match bD I.au fn s with
   | some r=>deep s.heap 60 r
   | none=>none
  | none=>none
  else none
def aW (P:Program)(I:IP):Nat→FuncId→List CV→List (Nat×Ob)→Nat→Option (Func×St)
 | 0,_,_,_,_=>none
 | f+1,g,cs,H,n=>match P.funcs[g]? with
  | none=>none
  | some fn=>match fn.body with
   | none=>none
   | some c => if (fn.name == "runtime.NumGoroutine") = false ∧ cs.length ≤ fn.ntmps ∧ I.al g = true then
     match l6 (Gy I (uI I (aW P I f)) (qg I (aW P I f)) g n fn.ntmps) f c ⟨(enter cs).env,H,n⟩ with
     | some (.normal,s')=>some (fn,s')
     | some (.ret,s')=>some (fn,s')
     | _=>none
    else none
section
variable {P:Program}{C:Cx}{s:St}{I:IP}{ops:Array Oper}{call:fe}{pcall:nu}
structure Ls (P:Program)(I:IP):Prop where
 kn:∀ x∈I.EE,ae P x.1 x.2.1 x.2.2
 au:aB P I.au
 mt:iz P I.mt
 mi:Nq P I.mi
 ei:Ns P I.ei
 md:P.follows .mixedOrders=true
 gd:∀ g fn c,I.al g=true→P.funcs[g]? = some fn→fn.body=some c→gj (MP I g) c=true
theorem Eo (hI:Ls P I)(hc:fO P I.au call)(hp:vp P pcall){o:Oper}{l:List Oper}{s':St}{K:St→Prop}(h:Bx I C.n0 C.nt ops call pcall o s=some s')(hk:TL P C ops l s' K):TL P C ops (o::l) s K:=by
 unfold Bx at h;split at h
 ·split at h
  ·rename_i s1 h1;cases h;exact TL.step hI.au h1 hk
  ·split at h
   ·rename_i hg;split at h
    ·rename_i hd;split at h
     ·rename_i s1 h1;cases h;exact kX hg (yP hI.au hd h1) hk
     ·split at h
      ·rename_i s1 h1;cases h;exact kX hg (G8 hI.mi hd h1) hk
      ·split at h
       ·rename_i s1 h1;cases h;exact kX hg (HQ hI.ei hd h1) hk
       ·exact kX hg (Iz hI.au hd h) hk
    ·cases h
   ·cases h
 ·rename_i c hu;have P0:=fZ hu;split at h
  ·rename_i hg;split at h
   ·rename_i hd;split at h
    ·rename_i g cs Qb;split at h
     ·rename_i r hr;cases h;split at hr
      ·rename_i ht;have hP:=hp g cs r hr;exact KT hd hg (nw.to hI.mt P0 Qb hP.1) ht hP hk
      ·cases hr
     ·split at h
      ·rename_i x H n hx;cases h;have hB:=hc _ _ _ _ _ _ _ hx;have hE:Enters P g:=by
        obtain⟨fn,c,h1,h2,h3,_⟩:=hB;exact⟨fn,h1,h3,by simp[h2]⟩
       refine callE hI.au hd hg (nw.to hI.mt P0 Qb hE) hB ?_;rintro r s1 ⟨rfl,rfl,rfl⟩;exact hk
      ·cases h
    ·cases h
   ·cases h
  ·exact TL.step hI.au h hk
theorem zL (hI:Ls P I)(hc:fO P I.au call)(hp:vp P pcall):∀ (l:List Oper) (s s':St),zM I C.n0 C.nt ops call pcall l s=some s'→TL P C ops l s fun x=>x=s'
 | [],s,s',h=>by
  simp only[zM] at h;cases h;exact TL.nil rfl
 | o::r,s,s',h=>by
  simp only[zM] at h;split at h
  ·rename_i s1 h1;exact Eo hI hc hp h1 (zL hI hc hp r s1 s' h)
  ·cases h
theorem MV (hI:Ls P I)(hc:fO P I.au call)(hp:vp P pcall)(g:FuncId)(id:Nat)(ops:Array Oper)(s s':St)(hg:MP I g id ops true=true)(h:drX I call pcall g C.n0 C.nt id ops s=some s'):T P C (.region id ops true) s fun e x=>e=.normal∧x=s':=by
 unfold drX at h;unfold MP at hg;split at h
 ·cases h
 ·rename_i dyn ho;rw[ho] at hg;exact T.trace hI.au hI.mt hc hp hI.md (by simpa using hg) h
theorem Js (hI:Ls P I)(hc:fO P I.au call)(hp:vp P pcall)(g:FuncId):II P C (MP I g) (Gy I call pcall g C.n0 C.nt):=by
 intro id ops d s s' hg h;unfold Gy at h
 cases d with
 | true=>exact MV hI hc hp g id ops s s' hg Sr
 | false=>
  have hl:=zL (ops:=ops.toList.toArray) hI hc hp ops.toList s s' Sr
  simpa using TL.again (id:=id) hl
def Nr (P : Program) (go : FuncId → List CV → List (Nat × Ob) → Nat → Option (Func × St)) : Prop := ∀ g cs H n fn s', go g cs H n = some (fn, s') → ∃ c, P.funcs[g]? = some fn ∧ fn.body = some c ∧ (fn.name == "runtime.NumGoroutine") = false ∧ cs.length ≤ fn.ntmps ∧
 ∀ C:Cx,C.nt=fn.ntmps→C.n0=n→T P C c ⟨(enter cs).env,H,n⟩ fun e x=>(e=.normal∨e=.ret)∧x=s'
theorem Fc {go:FuncId→List CV→List (Nat×Ob)→Nat→Option (Func×St)}(h:Nr P go):fO P I.au (uI I go):=by
 intro g cs H n x H' n' hx;unfold uI at hx;split at hx
 ·rename_i fn s' hg;split at hx
  ·rename_i r hr;cases hx;obtain⟨c,h1,h2,h3,h4,h5⟩:=h _ _ _ _ _ _ hg;refine Body.iV h1 h2 h3 h4 fun C hC PN=>T.mono (h5 C hC PN) ?_;rintro e x ⟨rfl | rfl,rfl⟩<;>exact aa.here ⟨_,hr,rfl,rfl,rfl⟩
  ·cases hx
 ·cases hx
theorem Db:∀ (l:List (FuncId×List CV×CV)) (g:FuncId) (cs:List CV) (r:CV),knl l g cs=some r→(g,cs,r)∈l
 | [],_,_,_,h=>by simp[knl] at h
 | (h',ds,r')::l,g,cs,r,h=>by
  simp only[knl] at h;split at h
  ·rename_i e;simp only[Bool.and_eq_true,beq_iff_eq] at e;cases h;rw[jk _ _ e.2,e.1];exact List.mem_cons_self
  ·exact List.mem_cons_of_mem _ (Db l g cs r h)
theorem vO (ht:aB P I.au)(hk:∀ x∈I.EE,ae P x.1 x.2.1 x.2.2){go:FuncId→List CV→List (Nat×Ob)→Nat→Option (Func×St)}(h:Nr P go):vp P (qg I go):=by
 intro g cs r hx;unfold qg at hx;split at hx
 ·rename_i r' hk';cases hx;exact hk _ (Db _ _ _ _ hk')
 ·split at hx
  ·split at hx
   ·rename_i fn s' hg;split at hx
    ·rename_i r0 hr;obtain⟨c,h1,h2,h3,h4,h5⟩:=h _ _ _ _ _ _ hg;refine ae.JM ht h1 h2 h3 h4 fun C hC PN=>T.mono (h5 C hC PN) ?_;rintro e x ⟨rfl | rfl,rfl⟩<;>exact⟨r0,60,hr,hx⟩
    ·cases hx
   ·cases hx
  ·cases hx
theorem HF (hI:Ls P I):∀ f,Nr P (aW P I f)
 | 0=>fun _ _ _ _ _ _ h=>by simp[aW] at h
 | f+1=>fun g cs H n fn s' h=>by
  have ih:=HF hI f;simp only[aW] at h;split at h
  ·cases h
  ·rename_i fn' hf;split at h
   ·cases h
   ·rename_i c hb;split at h
    ·rename_i VL
     cases hx:l6 (Gy I (uI I (aW P I f)) (qg I (aW P I f)) g n fn'.ntmps) f c ⟨(enter cs).env,H,n⟩ with
     | none=>rw[hx] at h;cases h
     | some q=>
      rw[hx] at h;obtain⟨e3,s1⟩:=q;have hT:∀ C:Cx,C.nt=fn'.ntmps→C.n0=n→T P C c ⟨(enter cs).env,H,n⟩ fun e x=>e=e3∧x=s1:=fun C hC PN=>by
       have hR:II P C (MP I g) (Gy I (uI I (aW P I f)) (qg I (aW P I f)) g C.n0 C.nt):=Js hI (Fc ih) (vO hI.au hI.kn ih) g;rw[hC,PN] at hR;exact T.mono (Ds hR f c _ _ (hI.gd g fn' c VL.2.2 hf hb) hx) fun e x he=>he
      cases e3<;>simp only at h<;>first | cases h | skip
      all_goals
       exact⟨c,hf,hb,VL.1,VL.2.1,fun C hC PN=>T.mono (hT C hC PN) fun e x he=>⟨by simp[he.1],he.2⟩⟩
    ·cases h
theorem cJ (hI:Ls P I)(f:Nat){g:FuncId}{cs:List CV}{r:CV}(h:qg I (aW P I f) g cs=some r):ae P g cs r:=vO hI.au hI.kn (HF hI f) g cs r h
end
def zZ (P:Program)(I:IP)(l:List Nat):Bool:=l.all fun g=>match P.funcs[g]? with
 | some fn=>match fn.body with
  | some c=>gj (MP I g) c
  | none=>true
 | none=>true
theorem EH {P:Program}(I:IP)(EE:List (FuncId×List CV×CV))(l:List Nat):zZ P { I with EE:=EE } l=zZ P I l:=rfl
theorem zY {P:Program}{I:IP}{l:List Nat}(h:zZ P I l=true)(hl:∀ g,I.al g=true→g∈l):∀ g fn c,I.al g=true→P.funcs[g]? = some fn→fn.body=some c→gj (MP I g) c=true:=fun g fn c ha hf hb=>by
 have:=List.all_eq_true.1 h g (hl g ha);simp only[hf,hb] at this;exact this
def Hf (P:Program)(t:Nat)(name:String)(g:FuncId):Bool:=match P.info? t with
 | some i=>match i.methods.find? (·.name == name) with
  | some m=>match m.path.toList,m.func with
   | [],some (h,false)=>h == g && match P.underlying t with
    | some (.pointer _)=>false
    | some _=>true
    | none=>false
   | _,_=>false
  | none=>false
 | none=>false
theorem He {P:Program}{t:Nat}{name:String}{g:FuncId}(h:Hf P t name g=true):yH P t name g:=by
 unfold Hf at h;split at h
 ·rename_i i hi;split at h
  ·rename_i m hm;split at h
   ·rename_i k hp hf;simp only[Bool.and_eq_true,beq_iff_eq] at h;obtain⟨rfl,h2⟩:=h;refine⟨⟨i,m,hi,hm,hp,by rw[Array.isEmpty_iff_size_eq_zero,← Array.length_toList,hp];rfl,hf⟩,?_⟩;split at h2
    ·cases h2
    ·rename_i d hn hd;exact⟨d,hd,fun e he=>hn e (by rw[he])⟩
    ·cases h2
   ·cases h
  ·cases h
 ·cases h
def C3 (P:Program)(mt:gL):Bool:=mt.all fun x=>Hf P x.1.1 x.1.2 x.2
theorem ot {P:Program}{mt:gL}(h:C3 P mt=true):iz P mt:=fun x hx=>He (List.all_eq_true.1 h x hx)
end Go.Can
namespace Go.Proofs.YtnecpnjdonibmaaGreat
open Go.Can Go.aP
def ral:List Nat:=[316,328]
def rip:IP:=⟨au,[],fun g=>ral.contains g,fun _=>true,fun _ _=>none,[],[],[]⟩
theorem rgd:zZ Tryz.prog rip ral=true:=by kernel_rfl
theorem tg:Ls Tryz.prog rip:=⟨by simp[rip],ah,ot PH,by intro x hx;simp[rip] at hx,by intro x hx;simp[rip] at hx,follows,zY (l:=ral) rgd fun g ha=>by simpa [rip] using ha⟩
def opsL (k:Nat):List ByteArray×List Int:=match k with
 | 0=>([⟨#[124,124]⟩],[17])
 | 1=>([⟨#[38,38]⟩],[16])
 | 2=>([⟨#[61,61]⟩,⟨#[33,61]⟩,⟨#[60]⟩,⟨#[60,61]⟩,⟨#[62]⟩,⟨#[62,61]⟩],[14,15,10,11,12,13])
 | 3=>([⟨#[43]⟩,⟨#[45]⟩],[8,9])
 | _=>([⟨#[42]⟩,⟨#[47]⟩,⟨#[37]⟩],[5,6,7])
set_option maxRecDepth 100000 in
theorem eU:∀ k:Nat,k≤17→ae Tryz.prog 328 [I k] (I (mf k))
 | 0,_=>cJ (I:=rip) tg 300 PH
 | 1,_=>cJ (I:=rip) tg 300 PH
 | 2,_=>cJ (I:=rip) tg 300 PH
 | 3,_=>cJ (I:=rip) tg 300 PH
 | 4,_=>cJ (I:=rip) tg 300 PH
 | 5,_=>cJ (I:=rip) tg 300 PH
 | 6,_=>cJ (I:=rip) tg 300 PH
 | 7,_=>cJ (I:=rip) tg 300 PH
 | 8,_=>cJ (I:=rip) tg 300 PH
 | 9,_=>cJ (I:=rip) tg 300 PH
 | 10,_=>cJ (I:=rip) tg 300 PH
 | 11,_=>cJ (I:=rip) tg 300 PH
 | 12,_=>cJ (I:=rip) tg 300 PH
 | 13,_=>cJ (I:=rip) tg 300 PH
 | 14,_=>cJ (I:=rip) tg 300 PH
 | 15,_=>cJ (I:=rip) tg 300 PH
 | 16,_=>cJ (I:=rip) tg 300 PH
 | 17,_=>cJ (I:=rip) tg 300 PH
 | _+18,h=>absurd h yA
set_option maxRecDepth 100000 in
theorem Gn:∀ k:Nat,k≤4→ae Tryz.prog 316 [I k] (.dH [strs (opsL k).1,ints (opsL k).2])
 | 0,_=>cJ (I:=rip) tg 300 PH
 | 1,_=>cJ (I:=rip) tg 300 PH
 | 2,_=>cJ (I:=rip) tg 300 PH
 | 3,_=>cJ (I:=rip) tg 300 PH
 | 4,_=>cJ (I:=rip) tg 300 PH
 | _+5,h=>absurd h yA
end Go.Proofs.YtnecpnjdonibmaaGreat
