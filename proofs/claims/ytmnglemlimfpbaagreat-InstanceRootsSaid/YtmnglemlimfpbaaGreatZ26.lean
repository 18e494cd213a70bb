/- Maps whose keys and values hold no memory: lookups and updates. No function of the program is mentioned here. | The interpreter with all of this: further operations, calls through interfaces, pure calls, draws by one order. No function of the program is mentioned here. | signs, strength, inner, Height, shape, ValidExpr. -/
import Derived.Test.YtmnglemlimfpbaaGreatZ10
import Derived.Maps.Keyed
import Derived.WideKeyPair
import Derived.Laws.StructEq
import Derived.Test.YtmnglemlimfpbaaGreatZ14
import Derived.Test.YtmnglemlimfpbaaGreatZ25
namespace Go.Can
open Go.RowKit
def wL:Value→Bool
 | .int _ _=>true
 | .bool _=>true
 | .string _=>true
 | _=>false
def FF:Value→Bool
 | .agg cs=>cs.toList.all wL
 | v=>wL v
def y8:Value→Value→Bool
 | .int k a,.int j b=>decide (k=j) && a == b
 | .bool a,.bool b=>a == b
 | .string a,.string b=>a.data.toList == b.data.toList
 | _,_=>false
def tM:List Value→List Value→Bool
 | [],[]=>true
 | a::r,b::q=>y8 a b && tM r q
 | _,_=>false
def wX:Value→Value→Bool
 | .agg a,.agg b=>tM a.toList b.toList
 | a,b=>y8 a b
theorem Ai {a b:Value}(h:y8 a b=true):a=b:=by
 unfold y8 at h
 split at h
 ·simp only[Bool.and_eq_true,decide_eq_true_eq,beq_iff_eq] at h
  rw[h.1,h.2]
 ·simp only[beq_iff_eq] at h;rw[h]
 ·rename_i a b
  have h2:a.data=b.data:=Array.toList_inj.1 (by simpa using h)
  rw[ByteArray.ext h2]
 ·cases h
theorem Ag:∀ (a b:List Value),tM a b=true→a=b
 | [],[],_=>rfl
 | [],_::_,h=>by simp[tM] at h
 | _::_,[],h=>by simp[tM] at h
 | a::r,b::q,h=>by
  simp only[tM,Bool.and_eq_true] at h
  rw[Ai h.1,Ag r q h.2]
theorem pF {a b:Value}(h:wX a b=true):a=b:=by
 unfold wX at h
 split at h
 ·rename_i a b
  rw[Array.toList_inj.1 (Ag _ _ h)]
 ·exact Ai h
theorem ux {a:Value}(h:wL a=true):y8 a a=true:=by
 cases a<;>simp_all [wL,y8]
theorem uv:∀ (l:List Value),l.all wL=true→tM l l=true
 | [],_=>rfl
 | a::r,h=>by
  simp only[List.all_cons,Bool.and_eq_true] at h
  simp[tM,ux h.1,uv r h.2]
theorem oy {a:Value}(h:FF a=true):wX a a=true:=by
 cases a<;>simp only[FF,wL,Bool.false_eq_true] at h<;>simp only[wX]<;>first
  | exact uv _ h
  | exact ux rfl
def jt (kv:Value):List (Value×Value)→Option Value
 | []=>none
 | (k,v)::r=>if wX kv k=true then some v else jt kv r
def gM (kv vv:Value):List (Value×Value)→List (Value×Value)
 | []=>[(kv,vv)]
 | (k,v)::r=>if wX kv k=true then (kv,vv)::r else (k,v)::gM kv vv r
theorem su {kv:Value}:∀ (es:List (Value×Value)) (v:Value),jt kv es=some v→(kv,v)∈es
 | [],_,h=>by simp[jt] at h
 | (k,u)::r,v,h=>by
  simp only[jt] at h
  split at h
  ·rename_i e;rw[pF e];cases h;exact List.mem_cons_self
  ·exact List.mem_cons_of_mem _ (su r v h)
theorem pY {kv:Value}(hc:FF kv=true):∀ (es:List (Value×Value)),(es.map (·.1)).Nodup→∀ v,(kv,v)∈es→jt kv es=some v
 | [],_,v,hx=>by cases hx
 | (k,u)::r,hn,v,hx=>by
  simp only[List.map_cons,List.nodup_cons] at hn
  simp only[jt]
  rcases List.mem_cons.1 hx with e | hx
  ·cases e;rw[if_pos (oy hc)]
  ·rw[if_neg (fun e=>hn.1 (List.mem_map.2 ⟨(kv,v),hx,pF e⟩))]
   exact pY hc r hn.2 v hx
theorem uU {kv vv:Value}:∀ (es:List (Value×Value)) (x:Value×Value),x∈gM kv vv es→x.1=kv∨x∈es
 | [],x,h=>by simp only[gM,List.mem_singleton] at h;exact .inl (by rw[h])
 | (k,u)::r,x,h=>by
  simp only[gM] at h
  split at h
  ·rcases List.mem_cons.1 h with e | h
   ·exact .inl (by rw[e])
   ·exact .inr (List.mem_cons_of_mem _ h)
  ·rcases List.mem_cons.1 h with e | h
   ·exact .inr (by rw[e];exact List.mem_cons_self)
   ·rcases uU r x h with h | h
    ·exact .inl h
    ·exact .inr (List.mem_cons_of_mem _ h)
theorem nS {kv vv:Value}(hc:FF kv=true):∀ (es:List (Value×Value)),(es.map (·.1)).Nodup→((gM kv vv es).map (·.1)).Nodup
 | [],_=>by simp[gM]
 | (k,u)::r,hn=>by
  simp only[List.map_cons,List.nodup_cons] at hn
  simp only[gM]
  split
  ·rename_i e
   have:=pF e
   subst this
   simpa using hn
  ·rename_i e
   simp only[List.map_cons,List.nodup_cons]
   refine⟨fun hm=>?_,nS hc r hn.2⟩
   obtain⟨x,hx,e2⟩:=List.mem_map.1 hm
   rcases uU r x hx with h | h
   ·rw[h] at e2;subst e2;exact e (oy hc)
   ·exact hn.1 (List.mem_map.2 ⟨x,h,e2⟩)
def cv1:CV→Option Value
 | .int k n=>some (.int k n)
 | .bool b=>some (.bool b)
 | .str s=>some (.string s)
 | _=>none
def IL:List CV→Option (List Value)
 | []=>some []
 | c::r=>match cv1 c,IL r with
  | some v,some vs=>some (v::vs)
  | _,_=>none
def iB:CV→Option Value
 | .agg cs=>match IL cs with
  | some vs=>some (.agg vs.toArray)
  | none=>none
 | c=>cv1 c
section
variable {P:Program}{C:Cx}{σ:Nat→Option OB}{s:St}{a:Act}{w:World}{ops:Array Oper}{aj:List (Nat×TI)}
theorem ER {F:Nat→Prop}{c:CV}{v u:Value}(h:cv1 c=some v)(hv:VR w F σ c u):u=v∧wL v=true:=by
 cases c<;>simp only[cv1] at h<;>first | cases h | skip
 all_goals
  simp only[VR] at hv
  exact⟨hv,rfl⟩
theorem EO {F:Nat→Prop}:∀ (cs:List CV) (vs us:List Value),IL cs=some vs→aQ w F σ cs us→us=vs∧vs.all wL=true
 | [],vs,us,h,hv=>by
  simp only[IL] at h
  cases h
  simp only[aQ] at hv
  exact⟨hv,rfl⟩
 | c::cs,vs,us,h,hv=>by
  simp only[IL] at h
  split at h
  ·rename_i v vs' h1 h2
   cases h
   simp only[aQ] at hv
   obtain⟨u,r,rfl,k1,k2⟩:=hv
   obtain⟨q1,q2⟩:=ER h1 k1
   obtain⟨q3,q4⟩:=EO cs vs' r h2 k2
   exact⟨by rw[q1,q3],by simp[q2,q4]⟩
  ·cases h
theorem iA {F:Nat→Prop}{c:CV}{v u:Value}(h:iB c=some v)(hv:VR w F σ c u):u=v∧FF v=true:=by
 unfold iB at h
 split at h
 ·rename_i cs
  split at h
  ·rename_i vs hvs
   cases h
   simp only[VR] at hv
   obtain⟨us,rfl,hr,_⟩:=hv
   obtain⟨q1,q2⟩:=EO _ _ _ hvs hr
   exact⟨by rw[q1],by simpa [FF] using q2⟩
  ·cases h
 ·obtain⟨q1,q2⟩:=ER h hv
  refine⟨q1,?_⟩
  cases v<;>simp_all [FF,wL]
structure Ad (P:Program)(t kt et:TypeId)(kb:Value→Bool)(zv:Value):Prop where
 uy:P.underlying t=some (.map kt et)
 keyed:Go.Maps.Keyed P kt
 key:∀ v,kb v=true→∃ l,keyOf P kt v=some l
 zero:∃ f,P.info? et=some f∧f.zero=some zv
theorem uY {t kt et:TypeId}{kb:Value→Bool}{zv:Value}(M:Ad P t kt et kb zv){o:Oper}{x y:Operand}{k:Nat}{es:List (Value×Value)}{cy c:CV}{kv:Value}(hd:aW C.nt o.dst=true)(ho:o.op=.lookup t x y false)
  (hx:ev s x=some (.mp k es)) (hy:ev s y=some cy) (hk:iB cy=some kv) (hkb:kb kv=true) (hes:(es.all fun e=>kb e.1)=true)
  (hc:(match jt kv es with | some v=>eB v | none=>eB zv)=some c):pA P C o s (s.put o.dst c):=by
 rintro a w ⟨σ,h⟩
 have hv:=bq h hx
 simp only[VR] at hv
 obtain⟨B,r,arr,clock,hB,hb,hv,hr,hmap,hnd,hf⟩:=hv
 obtain⟨hkv,hclo⟩:=iA hk (bq h hy)
 obtain⟨l,hl⟩:=M.key kv hkb
 have hkeys:∀ e∈arr.toList,∃ l,keyOf P kt e.key=some l:=fun e he=>by
  have:(e.key,e.val)∈es:=by rw[← hmap];exact List.mem_map.2 ⟨e,he,rfl⟩
  exact M.key _ (List.all_eq_true.1 hes _ this)
 have hget:(getObj r).run P w=.ok (.map arr clock) w:=by simp[getObj,Sem.run,hr]
 have hchk:=M.keyed.check w arr.isEmpty hl
 obtain⟨f,g1,g2⟩:=M.zero
 have hrun:∃ u,(Instr.lookup t (.map (some r)) kv false).run P w=.ok u w∧eB u=some c:=by
  rcases M.keyed.find w hl arr.toList hkeys with ⟨hf1,hf2⟩ | ⟨j,e,hf1,hf2,hf3⟩
  ·have hno:jt kv es=none:=by
    cases hm:jt kv es with
    | none=>rfl
    | some v=>
     exfalso
     have:=su es v hm
     rw[← hmap] at this
     obtain⟨e,he,e2⟩:=List.mem_map.1 this
     simp only[Prod.mk.injEq] at e2
     exact hf2 e he e2.1
   rw[hno] at hc
   refine⟨zv,?_,hc⟩
   have hzr:=gv (P:=P) g1 g2 w
   simp[Instr.lookup,bj M.uy,hget,hchk,hf1,hzr]
  ·have hmem:(kv,e.val)∈es:=by
    rw[← hmap]
    exact List.mem_map.2 ⟨e,List.mem_of_getElem? hf2,by rw[hf3]⟩
   rw[pY hclo es hnd _ hmem] at hc
   refine⟨e.val,?_,hc⟩
   simp[Instr.lookup,bj M.uy,hget,hchk,hf1]
 obtain⟨u,k1,k2⟩:=hrun
 refine⟨w,.inl ⟨u,?_,eG hd h (VR.cb _ _ (jU k2).1)⟩⟩
 simp[execOp,ho,hv,hkv,k1]
def ja (k:Nat):CV→Bool
 | .mp k' _=>k' == k
 | _=>false
def Eb:CV→Bool
 | .iter _ _ _=>true
 | _=>false
def Fw (k:Nat)(es:List (Value×Value)):List (Nat×CV)→List (Nat×CV)
 | []=>[]
 | (t,c)::r=>(t,if ja k c then .mp k es else c)::Fw k es r
theorem qf {k:Nat}{es:List (Value×Value)}:∀ (l:List (Nat×CV)) (t:Nat) (c:CV),assoc (Fw k es l) t=some c→∃ d,assoc l t=some d∧c=if ja k d then .mp k es else d
 | [],t,c,h=>by simp[Fw,assoc] at h
 | (u,d)::r,t,c,h=>by
  simp only[Fw,assoc] at h ⊢
  split at h
  ·rename_i e;cases h;rw[if_pos e];exact⟨d,rfl,rfl⟩
  ·rename_i e;rw[if_neg e];exact qf r t c h
def C1 (s:St)(k:Nat):Bool:=(s.env.all fun x=>cE x.2 || ja k x.2 || Eb x.2) && s.heap.all fun x=>cZ x.2.cells
theorem jN {kv vv:Value}:∀ (es:List (Value×Value)),(∀ x∈es,x.1≠kv)→gM kv vv es=es++[(kv,vv)]
 | [],_=>rfl
 | (k,u)::r,h=>by
  simp only[gM]
  rw[if_neg (fun e=>h (k,u) List.mem_cons_self (pF e).symm),jN r fun x hx=>h x (List.mem_cons_of_mem _ hx)]
  rfl
theorem vX {kv vv:Value}(hc:FF kv=true):∀ (es:List (Value×Value)) (j:Nat) (v:Value),(es.map (·.1)).Nodup→es[j]? = some (kv,v)→gM kv vv es=es.set j (kv,vv)
 | [],j,v,_,h=>by simp at h
 | (k,u)::r,0,v,_,h=>by
  simp only[List.getElem?_cons_zero,Option.some.injEq,Prod.mk.injEq] at h
  simp only[gM,h.1]
  rw[if_pos (oy hc)]
  rfl
 | (k,u)::r,j+1,v,hn,h=>by
  simp only[List.map_cons,List.nodup_cons] at hn
  simp only[List.getElem?_cons_succ] at h
  simp only[gM]
  rw[if_neg (fun e=>hn.1 (List.mem_map.2 ⟨(kv,v),List.mem_of_getElem? h,pF e⟩)),vX hc r j v hn.2 h]
  rfl
theorem B5 {t kt et:TypeId}{kb:Value→Bool}{zv:Value}(M:Ad P t kt et kb zv){o:Oper}{x y v:Operand}{k:Nat}{es:List (Value×Value)}{cy cv:CV}{kv vv:Value}(_hd:aW C.nt o.dst=true)(ho:o.op=.mapUpdate t x y v)
  (hx:ev s x=some (.mp k es)) (hy:ev s y=some cy) (hk:iB cy=some kv) (hv0:ev s v=some cv) (hvv:iB cv=some vv) (hkb:kb kv=true) (hes:(es.all fun e=>kb e.1)=true) (hk0:C.n0≤k) (hok:C1 s k=true) :
  pA P C o s (St.del { s with env:=Fw k (gM kv vv es) s.env } o.dst):=by
 rintro a w ⟨σ,h⟩
 have hv:=bq h hx
 simp only[VR] at hv
 obtain⟨B,r,arr,clock,hB,hb,hv,hr,hmap,hnd,hf⟩:=hv
 obtain⟨hkv,hclo⟩:=iA hk (bq h hy)
 obtain⟨hval,_⟩:=iA hvv (bq h hv0)
 obtain⟨l,hl⟩:=M.key kv hkb
 have hrl:=(Array.getElem?_eq_some_iff.1 hr).1
 have hkeys:∀ e∈arr.toList,∃ l,keyOf P kt e.key=some l:=fun e he=>by
  have:(e.key,e.val)∈es:=by rw[← hmap];exact List.mem_map.2 ⟨e,he,rfl⟩
  exact M.key _ (List.all_eq_true.1 hes _ this)
 have hget:(getObj r).run P w=.ok (.map arr clock) w:=by simp[getObj,Sem.run,hr]
 have hset:∀ q,(setObj r q).run P w=.ok () { w with heap:=w.heap.setIfInBounds r q }:=fun q=>by simp[setObj,Sem.run,hr]
 have hchk:=M.keyed.check w false hl
 have hrun:∃ arr' clock',(Instr.mapUpdate t (.map (some r)) kv vv).run P w=.ok () { w with heap:=w.heap.setIfInBounds r (.map arr' clock') }∧arr'.toList.map (fun e=>(e.key,e.val))=gM kv vv es:=by
  rcases M.keyed.find w hl arr.toList hkeys with ⟨hf1,hf2⟩ | ⟨j,e,hf1,hf2,hf3⟩
  ·refine⟨arr.push { key:=kv,val:=vv,born:=clock },clock+1,?_,?_⟩
   ·simp[Instr.mapUpdate,bj M.uy,hget,hchk,hf1,hset]
   ·rw[jN es fun x hx=>by
     rw[← hmap] at hx
     obtain⟨e,he,rfl⟩:=List.mem_map.1 hx
     exact hf2 e he,← hmap]
    simp
  ·have hstay:=M.keyed.stays w hl
   have hj:arr[j]? = some e:=by simpa using hf2
   refine⟨arr.modify j fun e=>{ e with key:=kv,val:=vv },clock,?_,?_⟩
   ·simp[Instr.mapUpdate,bj M.uy,hget,hchk,hf1,hj,hf3,hstay,hset]
   ·have hj2:es[j]? = some (kv,e.val):=by
     rw[← hmap,List.getElem?_map,hf2]
     simp[hf3]
    rw[vX hclo es j e.val hnd hj2,← hmap]
    apply List.ext_getElem?
    intro i
    simp only[List.getElem?_map,List.getElem?_set,Array.getElem?_toList,Array.getElem?_modify,List.length_map,Array.length_toList]
    by_cases hij:j=i
    ·subst hij
     have hjl:=(Array.getElem?_eq_some_iff.1 hj).1
     rw[if_pos rfl,if_pos rfl,if_pos hjl,hj]
     rfl
    ·rw[if_neg hij,if_neg hij]
 obtain⟨arr',clock',k1,k2⟩:=hrun
 simp only[C1,Bool.and_eq_true,List.all_eq_true,Bool.or_eq_true] at hok
 generalize hw':({ w with heap:=w.heap.setIfInBounds r (.map arr' clock') }:World)=w' at k1
 have hother:∀ j,j≠r→w'.heap[j]? = w.heap[j]?:=fun j hj=>by simp[← hw',Ne.symm hj]
 have hself:w'.heap[r]? = some (.map arr' clock'):=by simp[← hw',hrl]
 have hsz:w'.heap.size=w.heap.size:=by simp[← hw']
 have hkc:∀ F:Nat→Prop,jC w w' F F:=fun F ad u hf hu=>by
  have hne:ad.block≠r:=fun e=>by
   unfold World.cell? at hu
   rw[e,hr] at hu
   cases hu
  exact⟨by rw[World.cell?_of_block (hother _ hne)];exact hu,hf⟩
 have h':aH C σ { s with env:=Fw k (gM kv vv es) s.env } a w':=by
  refine⟨h.kO,h.tm,(by rw[← hw'];exact h.os),(by rw[← hw'];exact h.tape),(by rw[← hw'];exact h.output),by rw[hsz];exact h.size,?_,?_,?_,h.inj,h.nx,h.ek,h.low,h.new⟩
  ·intro j hj1 hj2
   rw[hother j (fun e=>?_)]
   ·exact h.frame j hj1 hj2
   ·subst e
    rcases h.new k B j hk0 hB hb with n4 | n4
    ·exact hj2 n4
    ·omega
  ·intro t c hc
   obtain⟨d,hd',rfl⟩:=qf _ _ _ hc
   obtain⟨v,q1,q2⟩:=h.env t d hd'
   refine⟨v,q1,?_⟩
   by_cases hi:ja k d=true
   ·rw[if_pos hi]
    cases d<;>simp only[ja,Bool.false_eq_true] at hi
    rename_i k' es'
    have:k'=k:=by simpa using hi
    subst this
    simp only[VR] at q2 ⊢
    obtain⟨B2,r2,arr2,clock2,m1,m2,m3,m4,m5,m6,m7⟩:=q2
    rw[hB] at m1;cases m1
    rw[hb] at m2;cases m2
    exact⟨B,r,arr',clock',hB,hb,m3,hself,k2,nS hclo es hnd,m7⟩
   ·rw[if_neg hi]
    rcases hok.1 _ (a7 _ _ _ hd') with (q | q) | q
    ·exact VR.jP (hkc _) _ _ q q2
    ·exact absurd q hi
    ·cases d<;>simp only[Eb,Bool.false_eq_true] at q
     simp only[VR] at q2 ⊢
     obtain⟨B2,r2,m1,m2,m3,m4,m5⟩:=q2
     have hne:r2≠r:=fun e=>by rw[e,hr] at m4;cases m4
     exact⟨B2,r2,m1,m2,m3,by rw[hother r2 hne];exact m4,m5⟩
  ·intro q y hq
   obtain⟨B2,m1,m2,m3,m4,m5⟩:=h.obj q y hq
   refine⟨B2,m1,m2,m3,m4,fun b2 hb2=>?_⟩
   obtain⟨cur2,q1,q2,q3,q4,q5,q6⟩:=m5 b2 hb2
   have hne:b2≠r:=fun e=>by subst e;rw[hr] at q1;cases q1
   exact⟨cur2,by rw[hother b2 hne];exact q1,q2,q3,q4,q5,aQ.jP (hkc _) _ _ (hok.2 _ (a7 _ _ _ hq)) q6⟩
 refine⟨w',.inr ⟨?_,σ,h'.del undef⟩⟩
 simp[execOp,ho,hv,hkv,hval,k1]
structure MI where
 t:Nat
 kt:Nat
 et:Nat
 kb:Value→Bool
 zv:Value
def MIok (P:Program)(l:List MI):Prop:=∀ x∈l,Ad P x.t x.kt x.et x.kb x.zv
def JS:List MI→Nat→Option MI
 | [],_=>none
 | x::r,t=>if x.t=t then some x else JS r t
theorem vZ:∀ (l:List MI) (t:Nat) (x:MI),JS l t=some x→x∈l∧x.t=t
 | [],_,_,h=>by simp[JS] at h
 | y::r,t,x,h=>by
  simp only[JS] at h
  split at h
  ·rename_i e;cases h;exact⟨List.mem_cons_self,e⟩
  ·obtain⟨h1,h2⟩:=vZ r t x h;exact⟨List.mem_cons_of_mem _ h1,h2⟩
def DU (mi:List MI)(n0:Nat)(s:St)(o:Oper):Option St:=
 match o.op with
 | .lookup t x y false=>match JS mi t,ev s x,ev s y with
  | some M,some (.mp _ es),some cy=>match iB cy with
   | some kv=>if M.kb kv=true∧(es.all fun e=>M.kb e.1)=true then
     match (match jt kv es with | some v=>eB v | none=>eB M.zv) with
     | some c=>some (s.put o.dst c)
     | none=>none
    else none
   | none=>none
  | _,_,_=>none
 | .mapUpdate t x y v=>match JS mi t,ev s x,ev s y,ev s v with
  | some M,some (.mp k es),some cy,some cv=>match iB cy,iB cv with
   | some kv,some vv=>if M.kb kv=true∧(es.all fun e=>M.kb e.1)=true∧n0≤k∧C1 s k=true then some (St.del { s with env:=Fw k (gM kv vv es) s.env } o.dst) else none
   | _,_=>none
  | _,_,_,_=>none
 | _=>none
theorem DT {mi:List MI}(hM:MIok P mi){o:Oper}{s':St}(hd:aW C.nt o.dst=true)(h:DU mi C.n0 s o=some s'):pA P C o s s':=by
 unfold DU at h
 split at h
 ·rename_i t x y ho
  split at h
  ·rename_i M k es cy h1 h2 h3
   obtain⟨m1,m2⟩:=vZ _ _ _ h1
   have hT:=hM M m1
   rw[m2] at hT
   split at h
   ·rename_i kv h4
    split at h
    ·rename_i hc
     split at h
     ·rename_i c h5
      cases h
      exact uY hT hd ho h2 h3 h4 hc.1 hc.2 h5
     ·cases h
    ·cases h
   ·cases h
  ·cases h
 ·rename_i t x y v ho
  split at h
  ·rename_i M k es cy cv h1 h2 h3 h4
   obtain⟨m1,m2⟩:=vZ _ _ _ h1
   have hT:=hM M m1
   rw[m2] at hT
   split at h
   ·rename_i kv vv h5 h6
    split at h
    ·rename_i hc
     cases h
     exact B5 hT hd ho h2 h3 h5 h4 h6 hc.1 hc.2.1 hc.2.2.1 hc.2.2.2
    ·cases h
   ·cases h
  ·cases h
 ·cases h
def nw (n:Int):Bool:=decide (-9223372036854775808≤n) && decide (n≤9223372036854775807)
structure EqT (P:Program)(t:TypeId)(kb:Value→Bool):Prop where
 eq:∀ (w:World) (x y:Value),kb x=true→kb y=true→(Op.equalIn 10000 t x y).run P w=.ok (wX x y) w
 guard:P.eqGuardType P.depth t=false
 agg:∀ x,kb x=true→∃ cs,x=.agg cs
structure EI where
 t:Nat
 kb:Value→Bool
def I9 (P:Program)(l:List EI):Prop:=∀ x∈l,EqT P x.t x.kb
def J2:List EI→Nat→Option EI
 | [],_=>none
 | x::r,t=>if x.t=t then some x else J2 r t
theorem AX:∀ (l:List EI) (t:Nat) (x:EI),J2 l t=some x→x∈l∧x.t=t
 | [],_,_,h=>by simp[J2] at h
 | y::r,t,x,h=>by
  simp only[J2] at h
  split at h
  ·rename_i e;cases h;exact⟨List.mem_cons_self,e⟩
  ·obtain⟨h1,h2⟩:=AX r t x h;exact⟨List.mem_cons_of_mem _ h1,h2⟩
def AT (ei:List EI)(s:St)(o:Oper):Option St:=
 match o.op with
 | .binOp op t x y _=>match J2 ei t,ev s x,ev s y with
  | some E,some cx,some cy=>match iB cx,iB cy with
   | some vx,some vy=>if E.kb vx=true∧E.kb vy=true then match op with
     | .eql=>some (s.put o.dst (.bool (wX vx vy)))
     | .neq=>some (s.put o.dst (.bool (!(wX vx vy))))
     | _=>none
    else none
   | _,_=>none
  | _,_,_=>none
 | _=>none
theorem yn {ei:List EI}(hE:I9 P ei){o:Oper}{s':St}(hd:aW C.nt o.dst=true)(h:AT ei s o=some s'):pA P C o s s':=by
 unfold AT at h
 split at h
 ·rename_i op t x y q ho
  split at h
  ·rename_i E cx cy h1 h2 h3
   obtain⟨m1,m2⟩:=AX _ _ _ h1
   have hT:=hE E m1
   rw[m2] at hT
   split at h
   ·rename_i vx vy h4 h5
    split at h
    ·rename_i hc
     rintro a w ⟨σ,hr⟩
     obtain⟨e1,_⟩:=iA h4 (bq hr h2)
     obtain⟨e2,_⟩:=iA h5 (bq hr h3)
     obtain⟨xs,rfl⟩:=hT.agg vx hc.1
     obtain⟨ys,rfl⟩:=hT.agg vy hc.2
     have hq:=hT.eq w _ _ hc.1 hc.2
     split at h
     ·cases h
      refine⟨w,.inl ⟨.bool (wX (.agg xs) (.agg ys)),?_,eG hd hr (dk _)⟩⟩
      simp only[execOp,ho,e1,e2,Sem.run_bind,run_eqGuard_agg w _ t x y xs ys hT.guard,Result.andThen_ok,run_eql_struct,hq,Sem.run_pure]
     ·cases h
      refine⟨w,.inl ⟨.bool (!(wX (.agg xs) (.agg ys))),?_,eG hd hr (dk _)⟩⟩
      simp only[execOp,ho,e1,e2,Sem.run_bind,run_eqGuard_agg w _ t x y xs ys hT.guard,Result.andThen_ok,run_neq_struct,hq,Sem.run_pure]
     ·cases h
    ·cases h
   ·cases h
  ·cases h
 ·cases h
def frzA (s:St)(p:Nat)(ob:Ob)(d:Option Tmp)(n:Nat):St:=(s.eM p ob).put d (.ax ob.cells n)
theorem HO (ht:aF P aj){o:Oper}{t e:TypeId}{x:Operand}{p n:Nat}{ob:Ob}{ie:TI}(hd:aW C.nt o.dst=true)(ho:o.op=.slice t x none none none)(hx:ev s x=some (.aq p 0))(h2:dm aj t=some (.arr n e))(hie:assoc aj e=some ie)
  (hn:0<n) (hm:n≤1000000) (hob:assoc s.heap p=some ob) (htr:trees ob.cells=true):pA P C o s (frzA s p ob o.dst n):=by
 rintro a w ⟨σ,h⟩
 obtain⟨i2,b1,b2,_⟩:=ej ht h2
 have g2:=mI (ht t i2 b1) b2
 obtain⟨f,z,g3,_⟩:=(ht e ie hie).info
 have h':=h.eM hob htr
 have hfz:∃ v,a.eval x=v∧VR w (FB C σ (s.eM p ob).heap) σ (.cq ob.cells) v:=by
  cases x with
  | tmp t=>
   have hx':assoc s.env t=some (.aq p 0):=hx
   have:∀ l:List (Nat×CV),assoc l t=some (.aq p 0)→assoc (um p ob.cells ob.sz l) t=some (.cq ob.cells):=by
    intro l
    induction l with
    | nil=>intro h;cases h
    | cons y r ih=>
     obtain⟨k,c⟩:=y
     intro hl
     simp only[um,assoc] at hl ⊢
     split at hl
     ·rename_i e;cases hl;rw[if_pos e];simp[cm]
     ·rename_i e;rw[if_neg e];exact ih hl
   obtain⟨v,k1,k2⟩:=h'.env t _ (this s.env hx')
   exact⟨v,by simp[Act.eval,k1],k2⟩
  | const v=>exact absurd hx (by
    simp only[ev]
    intro hc
    have:=n8 (w:=w) (F:=fun _=>False) hc
    simp[bM] at this)
  | func f=>cases hx
  | global g=>cases hx
 obtain⟨v,hv,hvr⟩:=hfz
 simp only[VR,bM] at hvr
 obtain⟨ad,rfl,hmr⟩:=hvr
 refine⟨w,.inl ⟨.slice (some ad) n n,?_,eG hd h' ?_⟩⟩
 ·have hsb:(Instr.sliceBounds false n n none none none).run P w=.ok (0,n,n) w:=by simp[Instr.sliceBounds]
  have hne:¬ n=0:=by omega
  have:(Instr.sliceAt t (.pointer (some ad)) none none none).run P w=.ok (.slice (some ad) n n) w:=by
   simp[Instr.sliceAt,bj g2,Instr.sureAddr,hsb,cz g3,hne,add_zero]
  simp[execOp,ho,hv,this]
 ·simp only[VR,bM]
  exact⟨_,n,rfl,Nat.le_refl _,by simp only[maxLen];omega,.inr ⟨ad,rfl,hmr⟩⟩
def Fg (aj:List (Nat×TI))(s:St)(o:Oper):Option St:=
 match o.op with
 | .slice t x none none none=>match ev s x,dm aj t with
  | some (.aq p 0),some (.arr n e)=>match assoc aj e,assoc s.heap p with
   | some _,some ob=>if 0<n∧n≤1000000∧trees ob.cells=true then some (frzA s p ob o.dst n) else none
   | _,_=>none
  | _,_=>none
 | _=>none
theorem Ff (ht:aF P aj){o:Oper}{s':St}(hd:aW C.nt o.dst=true)(h:Fg aj s o=some s'):pA P C o s s':=by
 unfold Fg at h
 split at h
 ·rename_i t x ho
  split at h
  ·rename_i p n e hx h2
   split at h
   ·rename_i ie ob h3 h4
    split at h
    ·rename_i hc
     cases h
     exact HO ht hd ho hx h2 h3 hc.1 hc.2.1 h4 hc.2.2
    ·cases h
   ·cases h
  ·cases h
 ·cases h
end
theorem Cb {P:Program}{et:TypeId}{zv:Value}(h:(P.info? et).bind (·.zero)=some zv):∃ f,P.info? et=some f∧f.zero=some zv:=by
 obtain⟨f,h1,h2⟩:=Option.bind_eq_some_iff.1 h
 exact⟨f,h1,h2⟩
end Go.Can
namespace Go.Can
open Go.RowKit
inductive OrcE where
 | ek (pre ord tail:List Nat)
 | tr (ord:List Nat) (dyn:List (Nat×Nat))
structure IP where
 aj:List (Nat×TI)
 mt:jB
 al:FuncId→Bool
 pu:FuncId→Bool
 orc:FuncId→Nat→Option OrcE
 B8:List (FuncId×List CV×CV)
 mi:List MI:=[]
 ei:List EI:=[]
def knl:List (FuncId×List CV×CV)→FuncId→List CV→Option CV
 | [],_,_=>none
 | (h,ds,r)::l,g,cs=>if (h == g && qc ds cs)=true then some r else knl l g cs
abbrev mZ:=FuncId→List CV→Option CV
def zw (I:IP)(n0 nt:Nat)(ops:Array Oper)(call:fF)(pcall:mZ)(o:Oper)(s:St):Option St:=
 match bV o with
 | none=>match eL I.aj nt ops s o with
  | some s'=>some s'
  | none=>match bK ops s o with
   | some true=>if aW nt o.dst=true then match Ae n0 I.aj s o with
     | some s'=>some s'
     | none=>match DU I.mi n0 s o with
      | some s'=>some s'
      | none=>match AT I.ei s o with
       | some s'=>some s'
       | none=>Fg I.aj s o
    else none
   | _=>none
 | some c=>match bK ops s o with
  | some true=>if aW nt o.dst=true then match iQ I.mt s c with
    | some (g,cs)=>match (if trees cs then pcall g cs else none) with
     | some r=>some (s.put o.dst r)
     | none=>match call g cs s.heap s.nx with
      | some (x,H,n)=>some (St.put ⟨s.env,H,n⟩ o.dst x)
      | none=>none
    | none=>none
   else none
  | _=>eL I.aj nt ops s o
def uX (I:IP)(n0 nt:Nat)(ops:Array Oper)(call:fF)(pcall:mZ):List Oper→St→Option St
 | [],s=>some s
 | o::r,s=>match zw I n0 nt ops call pcall o s with
  | some s'=>uX I n0 nt ops call pcall r s'
  | none=>none
def drX (I:IP)(call:fF)(pcall:mZ)(g:FuncId)(n0 nt:Nat)(id:Nat)(ops:Array Oper)(s:St):Option St:=match I.orc g id with
 | none=>none
 | some (.ek pre ord tail)=>match DD I.aj nt ops (pre++ord) s with
  | none=>none
  | some s'=>uX I n0 nt ops call pcall (tail.map (ops.getD · default)) s'
 | some (.tr ord dyn)=>CS I.aj I.mt nt ops call pcall ord dyn s
def ID (I:IP)(g:FuncId)(id:Nat)(ops:Array Oper)(d:Bool):Bool:=!d || match I.orc g id with
 | some (.ek pre ord tail)=>yq ops pre ord tail
 | some (.tr ord dyn)=>rG ops ord dyn
 | none=>true
def Dw (I:IP)(call:fF)(pcall:mZ)(g:FuncId)(n0 nt:Nat)(id:Nat)(ops:Array Oper)(d:Bool)(s:St):Option St:=
 if d then drX I call pcall g n0 nt id ops s else uX I n0 nt ops call pcall ops.toList s
def s7 (I:IP)(go:FuncId→List CV→List (Nat×Ob)→Nat→Option (Func×St)):fF:=fun g cs H n=>match go g cs H n with
 | some (fn,s)=>match bb I.aj fn s with
  | some r=>some (r,s.heap,s.nx)
  | none=>none
 | none=>none
def pS (I:IP)(go:FuncId→List CV→List (Nat×Ob)→Nat→Option (Func×St)):mZ:=fun g cs=>match knl I.B8 g cs with
 | some r=>some r
 | none=>if I.pu g then match go g cs [] 0 with
  | some (fn,s)=>match bb I.aj fn s with
   | some r=>deep s.heap 60 r
   | none=>none
  | none=>none
  else none
def FA (P:Program)(I:IP):Nat→FuncId→List CV→List (Nat×Ob)→Nat→Option (Func×St)
 | 0,_,_,_,_=>none
 | f+1,g,cs,H,n=>match P.funcs[g]? with
  | none=>none
  | some fn=>match fn.body with
   | none=>none
   | some c => if (fn.name == "runtime.NumGoroutine") = false ∧ cs.length ≤ fn.ntmps ∧ I.al g = true then
     match lP (Dw I (s7 I (FA P I f)) (pS I (FA P I f)) g n fn.ntmps) f c ⟨(enter cs).env,H,n⟩ with
     | some (.normal,s')=>some (fn,s')
     | some (.ret,s')=>some (fn,s')
     | _=>none
    else none
section
variable {P:Program}{C:Cx}{s:St}{I:IP}{ops:Array Oper}{call:fF}{pcall:mZ}
structure HC (P:Program)(I:IP):Prop where
 kn:∀ x∈I.B8,ah P x.1 x.2.1 x.2.2
 aj:aF P I.aj
 mt:m8 P I.mt
 mi:MIok P I.mi
 ei:I9 P I.ei
 md:P.follows .mixedOrders=true
 gd:∀ g fn c,I.al g=true→P.funcs[g]? = some fn→fn.body=some c→gg (ID I g) c=true
theorem BU (hI:HC P I)(hc:jD P I.aj call)(hp:Ac P pcall){o:Oper}{l:List Oper}{s':St}{K:St→Prop}(h:zw I C.n0 C.nt ops call pcall o s=some s')(hk:TL P C ops l s' K):TL P C ops (o::l) s K:=by
 unfold zw at h
 split at h
 ·split at h
  ·rename_i s1 h1
   cases h
   exact TL.step hI.aj h1 hk
  ·split at h
   ·rename_i hg
    split at h
    ·rename_i hd
     split at h
     ·rename_i s1 h1
      cases h
      exact mq hg (xa hI.aj hd h1) hk
     ·split at h
      ·rename_i s1 h1
       cases h
       exact mq hg (DT hI.mi hd h1) hk
      ·split at h
       ·rename_i s1 h1
        cases h
        exact mq hg (yn hI.ei hd h1) hk
       ·exact mq hg (Ff hI.aj hd h) hk
    ·cases h
   ·cases h
 ·rename_i c hu
  have hop:=fW hu
  split at h
  ·rename_i hg
   split at h
   ·rename_i hd
    split at h
    ·rename_i g cs hca
     split at h
     ·rename_i r hr
      cases h
      split at hr
      ·rename_i ht
       have hP:=hp g cs r hr
       exact pureE hd hg (tF.to hI.mt hop hca hP.1) ht hP hk
      ·cases hr
     ·split at h
      ·rename_i x H n hx
       cases h
       have hB:=hc _ _ _ _ _ _ _ hx
       have hE:Enters P g:=by
        obtain⟨fn,c,h1,h2,h3,_⟩:=hB
        exact⟨fn,h1,h3,by simp[h2]⟩
       refine callE hI.aj hd hg (tF.to hI.mt hop hca hE) hB ?_
       rintro r s1 ⟨rfl,rfl,rfl⟩
       exact hk
      ·cases h
    ·cases h
   ·cases h
  ·exact TL.step hI.aj h hk
theorem sB (hI:HC P I)(hc:jD P I.aj call)(hp:Ac P pcall):∀ (l:List Oper) (s s':St),uX I C.n0 C.nt ops call pcall l s=some s'→TL P C ops l s fun x=>x=s'
 | [],s,s',h=>by
  simp only[uX] at h
  cases h
  exact TL.nil rfl
 | o::r,s,s',h=>by
  simp only[uX] at h
  split at h
  ·rename_i s1 h1
   exact BU hI hc hp h1 (sB hI hc hp r s1 s' h)
  ·cases h
theorem IG (hI:HC P I)(hc:jD P I.aj call)(hp:Ac P pcall)(g:FuncId)(id:Nat)(ops:Array Oper)(s s':St)(hg:ID I g id ops true=true)(h:drX I call pcall g C.n0 C.nt id ops s=some s'):T P C (.region id ops true) s fun e x=>e=.normal∧x=s':=by
 unfold drX at h
 unfold ID at hg
 split at h
 ·cases h
 ·rename_i pre ord tail ho
  rw[ho] at hg
  split at h
  ·cases h
  ·rename_i s1 h1
   have hB:yq ops.toList.toArray pre ord tail=true:=by simpa using hg
   have hl:=sB (ops:=ops) hI hc hp _ _ _ h
   have:=T.draw (P:=P) (C:=C) (s:=s) (id:=id) (l:=ops.toList) (Q:=fun e x=>e=.normal∧x=s') hI.aj hI.md pre ord tail hB (Ap (pre++ord) s s1 (by simpa using h1) (by
    intro a w Q hr hQ
    have k:=hl a w Q hr fun x a' w' hx hr'=>hQ x a' w' ⟨rfl,hx⟩ hr'
    simpa using k))
   simpa using this
 ·rename_i ord dyn ho
  rw[ho] at hg
  exact T.trace hI.aj hI.mt hc hp hI.md (by simpa using hg) h
theorem F2 (hI:HC P I)(hc:jD P I.aj call)(hp:Ac P pcall)(g:FuncId):Fq P C (ID I g) (Dw I call pcall g C.n0 C.nt):=by
 intro id ops d s s' hg h
 unfold Dw at h
 cases d with
 | true=>exact IG hI hc hp g id ops s s' hg (by simpa using h)
 | false=>
  have hl:=sB (ops:=ops.toList.toArray) hI hc hp ops.toList s s' (by simpa using h)
  simpa using TL.again (id:=id) hl
def I8 (P : Program) (go : FuncId → List CV → List (Nat × Ob) → Nat → Option (Func × St)) : Prop := ∀ g cs H n fn s', go g cs H n = some (fn, s') → ∃ c, P.funcs[g]? = some fn ∧ fn.body = some c ∧ (fn.name == "runtime.NumGoroutine") = false ∧ cs.length ≤ fn.ntmps ∧
 ∀ C:Cx,C.nt=fn.ntmps→C.n0=n→T P C c ⟨(enter cs).env,H,n⟩ fun e x=>(e=.normal∨e=.ret)∧x=s'
theorem Cu {go:FuncId→List CV→List (Nat×Ob)→Nat→Option (Func×St)}(h:I8 P go):jD P I.aj (s7 I go):=by
 intro g cs H n x H' n' hx
 unfold s7 at hx
 split at hx
 ·rename_i fn s' hg
  split at hx
  ·rename_i r hr
   cases hx
   obtain⟨c,h1,h2,h3,h4,h5⟩:=h _ _ _ _ _ _ hg
   refine Body.iN h1 h2 h3 h4 fun C hC hC0=>T.mono (h5 C hC hC0) ?_
   rintro e x ⟨rfl | rfl,rfl⟩<;>exact ae.here ⟨_,hr,rfl,rfl,rfl⟩
  ·cases hx
 ·cases hx
theorem AI:∀ (l:List (FuncId×List CV×CV)) (g:FuncId) (cs:List CV) (r:CV),knl l g cs=some r→(g,cs,r)∈l
 | [],_,_,_,h=>by simp[knl] at h
 | (h',ds,r')::l,g,cs,r,h=>by
  simp only[knl] at h
  split at h
  ·rename_i e
   simp only[Bool.and_eq_true,beq_iff_eq] at e
   cases h
   rw[jd _ _ e.2,e.1]
   exact List.mem_cons_self
  ·exact List.mem_cons_of_mem _ (AI l g cs r h)
theorem uM (ht:aF P I.aj)(hk:∀ x∈I.B8,ah P x.1 x.2.1 x.2.2){go:FuncId→List CV→List (Nat×Ob)→Nat→Option (Func×St)}(h:I8 P go):Ac P (pS I go):=by
 intro g cs r hx
 unfold pS at hx
 split at hx
 ·rename_i r' hk'
  cases hx
  exact hk _ (AI _ _ _ _ hk')
 ·split at hx
  ·split at hx
   ·rename_i fn s' hg
    split at hx
    ·rename_i r0 hr
     obtain⟨c,h1,h2,h3,h4,h5⟩:=h _ _ _ _ _ _ hg
     refine ah.Gc ht h1 h2 h3 h4 fun C hC hC0=>T.mono (h5 C hC hC0) ?_
     rintro e x ⟨rfl | rfl,rfl⟩<;>exact⟨r0,60,hr,hx⟩
    ·cases hx
   ·cases hx
  ·cases hx
theorem Eu (hI:HC P I):∀ f,I8 P (FA P I f)
 | 0=>fun _ _ _ _ _ _ h=>by simp[FA] at h
 | f+1=>fun g cs H n fn s' h=>by
  have ih:=Eu hI f
  simp only[FA] at h
  split at h
  ·cases h
  ·rename_i fn' hf
   split at h
   ·cases h
   ·rename_i c hb
    split at h
    ·rename_i hcond
     cases hx:lP (Dw I (s7 I (FA P I f)) (pS I (FA P I f)) g n fn'.ntmps) f c ⟨(enter cs).env,H,n⟩ with
     | none=>rw[hx] at h;cases h
     | some q=>
      rw[hx] at h
      obtain⟨e3,s1⟩:=q
      have hT:∀ C:Cx,C.nt=fn'.ntmps→C.n0=n→T P C c ⟨(enter cs).env,H,n⟩ fun e x=>e=e3∧x=s1:=fun C hC hC0=>by
       have hR:Fq P C (ID I g) (Dw I (s7 I (FA P I f)) (pS I (FA P I f)) g C.n0 C.nt):=F2 hI (Cu ih) (uM hI.aj hI.kn ih) g
       rw[hC,hC0] at hR
       exact T.mono (Bb hR f c _ _ (hI.gd g fn' c hcond.2.2 hf hb) hx) fun e x he=>he
      cases e3<;>simp only at h<;>first | cases h | skip
      all_goals
       exact⟨c,hf,hb,hcond.1,hcond.2.1,fun C hC hC0=>T.mono (hT C hC hC0) fun e x he=>⟨by simp[he.1],he.2⟩⟩
    ·cases h
theorem dZ (hI:HC P I)(f:Nat){g:FuncId}{cs:List CV}{r:CV}(h:pS I (FA P I f) g cs=some r):ah P g cs r:=uM hI.aj hI.kn (Eu hI f) g cs r h
end
def yg (P:Program)(I:IP)(l:List Nat):Bool:=l.all fun g=>match P.funcs[g]? with
 | some fn=>match fn.body with
  | some c=>gg (ID I g) c
  | none=>true
 | none=>true
theorem Cd {P:Program}(I:IP)(B8:List (FuncId×List CV×CV))(l:List Nat):yg P { I with B8:=B8 } l=yg P I l:=rfl
theorem yf {P:Program}{I:IP}{l:List Nat}(h:yg P I l=true)(hl:∀ g,I.al g=true→g∈l):∀ g fn c,I.al g=true→P.funcs[g]? = some fn→fn.body=some c→gg (ID I g) c=true:=fun g fn c ha hf hb=>by
 have:=List.all_eq_true.1 h g (hl g ha)
 simp only[hf,hb] at this
 exact this
def DZ (P:Program)(t:Nat)(name:String)(g:FuncId):Bool:=match P.info? t with
 | some i=>match i.methods.find? (·.name == name) with
  | some m=>match m.path.toList,m.func with
   | [],some (h,false)=>h == g && match P.underlying t with
    | some (.pointer _)=>false
    | some _=>true
    | none=>false
   | _,_=>false
  | none=>false
 | none=>false
theorem DY {P:Program}{t:Nat}{name:String}{g:FuncId}(h:DZ P t name g=true):wW P t name g:=by
 unfold DZ at h
 split at h
 ·rename_i i hi
  split at h
  ·rename_i m hm
   split at h
   ·rename_i k hp hf
    simp only[Bool.and_eq_true,beq_iff_eq] at h
    obtain⟨rfl,h2⟩:=h
    refine⟨⟨i,m,hi,hm,hp,by rw[Array.isEmpty_iff_size_eq_zero,← Array.length_toList,hp];rfl,hf⟩,?_⟩
    split at h2
    ·cases h2
    ·rename_i d hn hd
     exact⟨d,hd,fun e he=>hn e (by rw[he])⟩
    ·cases h2
   ·cases h
  ·cases h
 ·cases h
def AE (P:Program)(mt:jB):Bool:=mt.all fun x=>DZ P x.1.1 x.1.2 x.2
theorem sw {P:Program}{mt:jB}(h:AE P mt=true):m8 P mt:=fun x hx=>DY (List.all_eq_true.1 h x hx)
end Go.Can
namespace Go.Proofs.YtmnglemlimfpbaaGreat
open Go.Can Go.bg
def ral:List Nat:=[158,160]
def rip:IP:=⟨aj,[],fun g=>ral.contains g,fun _=>true,fun _ _=>none,[],[],[]⟩
theorem rgd:yg Tryz.prog rip ral=true:=by kernel_rfl
theorem rV:HC Tryz.prog rip:=⟨by simp[rip],aa,sw (by kernel_rfl),by intro x hx;simp[rip] at hx,by intro x hx;simp[rip] at hx,follows,yf (l:=ral) rgd fun g ha=>by simpa [rip] using ha⟩
def opsL (k:Nat):List ByteArray×List Int:=match k with
 | 0=>([⟨#[124,124]⟩],[17])
 | 1=>([⟨#[38,38]⟩],[16])
 | 2=>([⟨#[61,61]⟩,⟨#[33,61]⟩,⟨#[60]⟩,⟨#[60,61]⟩,⟨#[62]⟩,⟨#[62,61]⟩],[14,15,10,11,12,13])
 | 3=>([⟨#[43]⟩,⟨#[45]⟩],[8,9])
 | _=>([⟨#[42]⟩,⟨#[47]⟩,⟨#[37]⟩],[5,6,7])
set_option maxRecDepth 100000 in
theorem e8:∀ k:Nat,k≤17→ah Tryz.prog 160 [I k] (I (lZ k))
 | 0,_=>dZ (I:=rip) rV 300 (by kernel_rfl)
 | 1,_=>dZ (I:=rip) rV 300 (by kernel_rfl)
 | 2,_=>dZ (I:=rip) rV 300 (by kernel_rfl)
 | 3,_=>dZ (I:=rip) rV 300 (by kernel_rfl)
 | 4,_=>dZ (I:=rip) rV 300 (by kernel_rfl)
 | 5,_=>dZ (I:=rip) rV 300 (by kernel_rfl)
 | 6,_=>dZ (I:=rip) rV 300 (by kernel_rfl)
 | 7,_=>dZ (I:=rip) rV 300 (by kernel_rfl)
 | 8,_=>dZ (I:=rip) rV 300 (by kernel_rfl)
 | 9,_=>dZ (I:=rip) rV 300 (by kernel_rfl)
 | 10,_=>dZ (I:=rip) rV 300 (by kernel_rfl)
 | 11,_=>dZ (I:=rip) rV 300 (by kernel_rfl)
 | 12,_=>dZ (I:=rip) rV 300 (by kernel_rfl)
 | 13,_=>dZ (I:=rip) rV 300 (by kernel_rfl)
 | 14,_=>dZ (I:=rip) rV 300 (by kernel_rfl)
 | 15,_=>dZ (I:=rip) rV 300 (by kernel_rfl)
 | 16,_=>dZ (I:=rip) rV 300 (by kernel_rfl)
 | 17,_=>dZ (I:=rip) rV 300 (by kernel_rfl)
 | _+18,h=>absurd h (by omega)
set_option maxRecDepth 100000 in
theorem Dm:∀ k:Nat,k≤4→ah Tryz.prog 158 [I k] (.df [strs (opsL k).1,ints (opsL k).2])
 | 0,_=>dZ (I:=rip) rV 300 (by kernel_rfl)
 | 1,_=>dZ (I:=rip) rV 300 (by kernel_rfl)
 | 2,_=>dZ (I:=rip) rV 300 (by kernel_rfl)
 | 3,_=>dZ (I:=rip) rV 300 (by kernel_rfl)
 | 4,_=>dZ (I:=rip) rV 300 (by kernel_rfl)
 | _+5,h=>absurd h (by omega)
end Go.Proofs.YtmnglemlimfpbaaGreat
