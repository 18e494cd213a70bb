/- Maps whose keys and values hold no memory: lookups and updat -/
import Derived.Maps.Keyed
import Derived.WideKeyPair
import Derived.Laws.StructEq
import Derived.Test.YtmnglemlimfpbaaGreatZ24
namespace Go.Can
open Go.RowKit
def yS:Value→Bool
 | .int _ _=>true
 | .bool _=>true
 | .string _=>true
 | _=>false
def HR:Value→Bool
 | .agg cs=>cs.toList.all yS
 | v=>yS v
def zh:Value→Value→Bool
 | .int k a,.int j b=>decide (k=j) && a == b
 | .bool a,.bool b=>a == b
 | .string a,.string b=>a.data.toList == b.data.toList
 | _,_=>false
def tv:List Value→List Value→Bool
 | [],[]=>true
 | a::r,b::q=>zh a b && tv r q
 | _,_=>false
def y6:Value→Value→Bool
 | .agg a,.agg b=>tv a.toList b.toList
 | a,b=>zh a b
theorem Cv {a b:Value}(h:zh a b=true):a=b:=by
 unfold zh at h
 split at h
 ·simp only[Bool.and_eq_true,decide_eq_true_eq,beq_iff_eq] at h
  rw[h.1,h.2]
 ·simp only[beq_iff_eq] at h;rw[h]
 ·rename_i a b
  have h2:a.data=b.data:=Array.toList_inj.1 yAy
  rw[ByteArray.ext h2]
 ·cases h
theorem Cu:∀ (a b:List Value),tv a b=true→a=b
 | [],[],_=>rfl
 | [],_::_,h=>by simp[tv] at h
 | _::_,[],h=>by simp[tv] at h
 | a::r,b::q,h=>by
  simp only[tv,Bool.and_eq_true] at h
  rw[Cv h.1,Cu r q h.2]
theorem qP {a b:Value}(h:y6 a b=true):a=b:=by
 unfold y6 at h
 split at h
 ·rename_i a b
  rw[Array.toList_inj.1 (Cu _ _ h)]
 ·exact Cv h
theorem wx {a:Value}(h:yS a=true):zh a a=true:=by
 cases a<;>simp_all [yS,zh]
theorem wu:∀ (l:List Value),l.all yS=true→tv l l=true
 | [],_=>rfl
 | a::r,h=>by
  simp only[List.all_cons,Bool.and_eq_true] at h
  simp[tv,wx h.1,wu r h.2]
theorem pX {a:Value}(h:HR a=true):y6 a a=true:=by
 cases a<;>simp only[HR,yS,Bool.false_eq_true] at h<;>simp only[y6]<;>first
  | exact wu _ h
  | exact wx rfl
def vU (kv:Value):List (Value×Value)→Option Value
 | []=>none
 | (k,v)::r=>if y6 kv k=true then some v else vU kv r
def oS (kv vv:Value):List (Value×Value)→List (Value×Value)
 | []=>[(kv,vv)]
 | (k,v)::r=>if y6 kv k=true then (kv,vv)::r else (k,v)::oS kv vv r
theorem z5 {kv:Value}:∀ (es:List (Value×Value)) (v:Value),vU kv es=some v→(kv,v)∈es
 | [],_,h=>by simp[vU] at h
 | (k,u)::r,v,h=>by
  simp only[vU] at h
  split at h
  ·rename_i e;rw[qP e];cases h;exact List.mem_cons_self
  ·exact List.mem_cons_of_mem _ (z5 r v h)
theorem xf {kv:Value}(hc:HR kv=true):∀ (es:List (Value×Value)),(es.map (·.1)).Nodup→∀ v,(kv,v)∈es→vU kv es=some v
 | [],_,v,hx=>by cases hx
 | (k,u)::r,hn,v,hx=>by
  simp only[List.map_cons,List.nodup_cons] at hn
  simp only[vU]
  rcases List.mem_cons.1 hx with e | hx
  ·cases e;rw[if_pos (pX hc)]
  ·rw[if_neg (fun e=>hn.1 (List.mem_map.2 ⟨(kv,v),hx,qP e⟩))]
   exact xf hc r hn.2 v hx
theorem xb {kv vv:Value}:∀ (es:List (Value×Value)) (x:Value×Value),x∈oS kv vv es→x.1=kv∨x∈es
 | [],x,h=>by simp only[oS,List.mem_singleton] at h;exact .inl (by rw[h])
 | (k,u)::r,x,h=>by
  simp only[oS] at h
  split at h
  ·rcases List.mem_cons.1 h with e | h
   ·exact .inl (by rw[e])
   ·exact .inr (List.mem_cons_of_mem _ h)
  ·rcases List.mem_cons.1 h with e | h
   ·exact .inr (by rw[e];exact List.mem_cons_self)
   ·rcases xb r x h with h | h
    ·exact .inl h
    ·exact .inr (List.mem_cons_of_mem _ h)
theorem uK {kv vv:Value}(hc:HR kv=true):∀ (es:List (Value×Value)),(es.map (·.1)).Nodup→((oS kv vv es).map (·.1)).Nodup
 | [],_=>by simp[oS]
 | (k,u)::r,hn=>by
  simp only[List.map_cons,List.nodup_cons] at hn
  simp only[oS]
  split
  ·rename_i e
   have:=qP e
   subst this
   simpa using hn
  ·rename_i e
   simp only[List.map_cons,List.nodup_cons]
   refine⟨fun hm=>?_,uK hc r hn.2⟩
   obtain⟨x,hx,e2⟩:=List.mem_map.1 hm
   rcases xb r x hx with h | h
   ·rw[h] at e2;subst e2;exact e (pX hc)
   ·exact hn.1 (List.mem_map.2 ⟨x,h,e2⟩)
def cv1:CV→Option Value
 | .int k n=>some (.int k n)
 | .bool b=>some (.bool b)
 | .str s=>some (.string s)
 | _=>none
def Lb:List CV→Option (List Value)
 | []=>some []
 | c::r=>match cv1 c,Lb r with
  | some v,some vs=>some (v::vs)
  | _,_=>none
def kg:CV→Option Value
 | .agg cs=>match Lb cs with
  | some vs=>some (.agg vs.toArray)
  | none=>none
 | c=>cv1 c
section
variable {P:Program}{C:Cx}{σ:Nat→Option OB}{s:St}{a:Act}{w:World}{ops:Array Oper}{aq:List (Nat×TI)}
theorem G9 {F:Nat→Prop}{c:CV}{v u:Value}(h:cv1 c=some v)(hv:VR w F σ c u):u=v∧yS v=true:=by
 cases c<;>simp only[cv1] at h<;>first | cases h | skip
 all_goals
  simp only[VR] at hv
  exact⟨hv,rfl⟩
theorem G7 {F:Nat→Prop}:∀ (cs:List CV) (vs us:List Value),Lb cs=some vs→aS w F σ cs us→us=vs∧vs.all yS=true
 | [],vs,us,h,hv=>by
  simp only[Lb] at h
  cases h
  simp only[aS] at hv
  exact⟨hv,rfl⟩
 | c::cs,vs,us,h,hv=>by
  simp only[Lb] at h
  split at h
  ·rename_i v vs' h1 h2
   cases h
   simp only[aS] at hv
   obtain⟨u,r,rfl,k1,k2⟩:=hv
   obtain⟨q1,q2⟩:=G9 h1 k1
   obtain⟨q3,q4⟩:=G7 cs vs' r h2 k2
   exact⟨by rw[q1,q3],by simp[q2,q4]⟩
  ·cases h
theorem nW {F:Nat→Prop}{c:CV}{v u:Value}(h:kg c=some v)(hv:VR w F σ c u):u=v∧HR v=true:=by
 unfold kg at h
 split at h
 ·rename_i cs
  split at h
  ·rename_i vs hvs
   cases h
   simp only[VR] at hv
   obtain⟨us,rfl,hr,_⟩:=hv
   obtain⟨q1,q2⟩:=G7 _ _ _ hvs hr
   exact⟨by rw[q1],by simpa [HR] using q2⟩
  ·cases h
 ·obtain⟨q1,q2⟩:=G9 h hv
  refine⟨q1,?_⟩
  cases v<;>simp_all [HR,yS]
structure Ly (P:Program)(t kt et:TypeId)(kb:Value→Bool)(zv:Value):Prop where
 y7:P.underlying t=some (.map kt et)
 keyed:Go.Maps.Keyed P kt
 key:∀ v,kb v=true→∃ l,keyOf P kt v=some l
 zero:∃ f,P.info? et=some f∧f.zero=some zv
theorem Ec {t kt et:TypeId}{kb:Value→Bool}{zv:Value}(M:Ly P t kt et kb zv){o:Oper}{x y:Operand}{k:Nat}{es:List (Value×Value)}{cy c:CV}{kv:Value}(hd:aU C.nt o.dst=true)(ho:o.op=.lookup t x y false)
  (hx:ev s x=some (.mp k es)) (hy:ev s y=some cy) (hk:kg cy=some kv) (hkb:kb kv=true) (hes:(es.all fun e=>kb e.1)=true)
  (hc:(match vU kv es with | some v=>gr v | none=>gr zv)=some c):pQ P C o s (s.put o.dst c):=by
 rintro a w ⟨σ,h⟩
 have hv:=bz h hx
 simp only[VR] at hv
 obtain⟨B,r,arr,clock,hB,hb,hv,hr,hmap,hnd,hf⟩:=hv
 obtain⟨hkv,hclo⟩:=nW hk (bz h hy)
 obtain⟨l,hl⟩:=M.key kv hkb
 have hkeys:∀ e∈arr.toList,∃ l,keyOf P kt e.key=some l:=fun e he=>by
  have:(e.key,e.val)∈es:=by rw[← hmap];exact List.mem_map.2 ⟨e,he,rfl⟩
  exact M.key _ (List.all_eq_true.1 hes _ this)
 have hget:(getObj r).run P w=.ok (.map arr clock) w:=by simp[getObj,Sem.run,hr]
 have hchk:=M.keyed.check w arr.isEmpty hl
 obtain⟨f,g1,g2⟩:=M.zero
 have hrun:∃ u,(Instr.lookup t (.map (some r)) kv false).run P w=.ok u w∧gr u=some c:=by
  rcases M.keyed.find w hl arr.toList hkeys with ⟨hf1,hf2⟩ | ⟨j,e,hf1,hf2,hf3⟩
  ·have hno:vU kv es=none:=by
    cases hm:vU kv es with
    | none=>rfl
    | some v=>
     exfalso
     have:=z5 es v hm
     rw[← hmap] at this
     obtain⟨e,he,e2⟩:=List.mem_map.1 this
     simp only[Prod.mk.injEq] at e2
     exact hf2 e he e2.1
   rw[hno] at hc
   refine⟨zv,?_,hc⟩
   have hzr:=g7 (P:=P) g1 g2 w
   simp[Instr.lookup,bq M.y7,hget,hchk,hf1,hzr]
  ·have hmem:(kv,e.val)∈es:=by
    rw[← hmap]
    exact List.mem_map.2 ⟨e,List.mem_of_getElem? hf2,by rw[hf3]⟩
   rw[xf hclo es hnd _ hmem] at hc
   refine⟨e.val,?_,hc⟩
   simp[Instr.lookup,bq M.y7,hget,hchk,hf1]
 obtain⟨u,k1,k2⟩:=hrun
 refine⟨w,.inl ⟨u,?_,ep hd h (VR.cu _ _ (nY k2).1)⟩⟩
 simp[execOp,ho,hv,hkv,k1]
def Gw (k:Nat):CV→Bool
 | .mp k' _=>k' == k
 | _=>false
def isIt:CV→Bool
 | .iter _ _ _=>true
 | _=>false
def KO (k:Nat)(es:List (Value×Value)):List (Nat×CV)→List (Nat×CV)
 | []=>[]
 | (t,c)::r=>(t,if Gw k c then .mp k es else c)::KO k es r
theorem xK {k:Nat}{es:List (Value×Value)}:∀ (l:List (Nat×CV)) (t:Nat) (c:CV),assoc (KO k es l) t=some c→∃ d,assoc l t=some d∧c=if Gw k d then .mp k es else d
 | [],t,c,h=>by simp[KO,assoc] at h
 | (u,d)::r,t,c,h=>by
  simp only[KO,assoc] at h ⊢
  split at h
  ·rename_i e;cases h;rw[if_pos e];exact⟨d,rfl,rfl⟩
  ·rename_i e;rw[if_neg e];exact xK r t c h
def E9 (s:St)(k:Nat):Bool:=(s.env.all fun x=>lh x.2 || Gw k x.2 || isIt x.2) && s.heap.all fun x=>jG x.2.cells
theorem sa {kv vv:Value}:∀ (es:List (Value×Value)),(∀ x∈es,x.1≠kv)→oS kv vv es=es++[(kv,vv)]
 | [],_=>rfl
 | (k,u)::r,h=>by
  simp only[oS]
  rw[if_neg (fun e=>h (k,u) List.mem_cons_self (qP e).symm),sa r fun x hx=>h x (List.mem_cons_of_mem _ hx)]
  rfl
theorem CW {kv vv:Value}(hc:HR kv=true):∀ (es:List (Value×Value)) (j:Nat) (v:Value),(es.map (·.1)).Nodup→es[j]? = some (kv,v)→oS kv vv es=es.set j (kv,vv)
 | [],j,v,_,h=>by simp at h
 | (k,u)::r,0,v,_,h=>by
  simp only[List.getElem?_cons_zero,Option.some.injEq,Prod.mk.injEq] at h
  simp only[oS,h.1]
  rw[if_pos (pX hc)]
  rfl
 | (k,u)::r,j+1,v,hn,h=>by
  simp only[List.map_cons,List.nodup_cons] at hn
  simp only[List.getElem?_cons_succ] at h
  simp only[oS]
  rw[if_neg (fun e=>hn.1 (List.mem_map.2 ⟨(kv,v),List.mem_of_getElem? h,qP e⟩)),CW hc r j v hn.2 h]
  rfl
theorem Eb {t kt et:TypeId}{kb:Value→Bool}{zv:Value}(M:Ly P t kt et kb zv){o:Oper}{x y v:Operand}{k:Nat}{es:List (Value×Value)}{cy cv:CV}{kv vv:Value}(_hd:aU C.nt o.dst=true)(ho:o.op=.mapUpdate t x y v)
  (hx:ev s x=some (.mp k es)) (hy:ev s y=some cy) (hk:kg cy=some kv) (hv0:ev s v=some cv) (hvv:kg cv=some vv) (hkb:kb kv=true) (hes:(es.all fun e=>kb e.1)=true) (hk0:C.n0≤k) (hok:E9 s k=true) :
  pQ P C o s (St.del { s with env:=KO k (oS kv vv es) s.env } o.dst):=by
 rintro a w ⟨σ,h⟩
 have hv:=bz h hx
 simp only[VR] at hv
 obtain⟨B,r,arr,clock,hB,hb,hv,hr,hmap,hnd,hf⟩:=hv
 obtain⟨hkv,hclo⟩:=nW hk (bz h hy)
 obtain⟨hval,_⟩:=nW hvv (bz h hv0)
 obtain⟨l,hl⟩:=M.key kv hkb
 have hrl:=(Array.getElem?_eq_some_iff.1 hr).1
 have hkeys:∀ e∈arr.toList,∃ l,keyOf P kt e.key=some l:=fun e he=>by
  have:(e.key,e.val)∈es:=by rw[← hmap];exact List.mem_map.2 ⟨e,he,rfl⟩
  exact M.key _ (List.all_eq_true.1 hes _ this)
 have hget:(getObj r).run P w=.ok (.map arr clock) w:=by simp[getObj,Sem.run,hr]
 have hset:∀ q,(setObj r q).run P w=.ok () { w with heap:=w.heap.setIfInBounds r q }:=fun q=>by simp[setObj,Sem.run,hr]
 have hchk:=M.keyed.check w false hl
 have hrun:∃ arr' clock',(Instr.mapUpdate t (.map (some r)) kv vv).run P w=.ok () { w with heap:=w.heap.setIfInBounds r (.map arr' clock') }∧arr'.toList.map (fun e=>(e.key,e.val))=oS kv vv es:=by
  rcases M.keyed.find w hl arr.toList hkeys with ⟨hf1,hf2⟩ | ⟨j,e,hf1,hf2,hf3⟩
  ·refine⟨arr.push { key:=kv,val:=vv,born:=clock },clock+1,?_,?_⟩
   ·simp[Instr.mapUpdate,bq M.y7,hget,hchk,hf1,hset]
   ·rw[sa es fun x hx=>by
     rw[← hmap] at hx
     obtain⟨e,he,rfl⟩:=List.mem_map.1 hx
     exact hf2 e he,← hmap]
    simp
  ·have hstay:=M.keyed.stays w hl
   have hj:arr[j]? = some e:=by simpa using hf2
   refine⟨arr.modify j fun e=>{ e with key:=kv,val:=vv },clock,?_,?_⟩
   ·simp[Instr.mapUpdate,bq M.y7,hget,hchk,hf1,hj,hf3,hstay,hset]
   ·have hj2:es[j]? = some (kv,e.val):=by
     rw[← hmap,List.getElem?_map,hf2]
     simp[hf3]
    rw[CW hclo es j e.val hnd hj2,← hmap]
    apply List.ext_getElem?
    intro i
    simp only[List.getElem?_map,List.getElem?_set,Array.getElem?_toList,Array.getElem?_modify,List.length_map,Array.length_toList]
    by_cases hij:j=i
    ·subst hij
     have hjl:=(Array.getElem?_eq_some_iff.1 hj).1
     rw[if_pos rfl,if_pos rfl,if_pos hjl,hj]
     rfl
    ·rw[if_neg hij,if_neg hij]
 obtain⟨arr',clock',k1,k2⟩:=hrun
 simp only[E9,Bool.and_eq_true,List.all_eq_true,Bool.or_eq_true] at hok
 generalize hw':({ w with heap:=w.heap.setIfInBounds r (.map arr' clock') }:World)=w' at k1
 have hother:∀ j,j≠r→w'.heap[j]? = w.heap[j]?:=fun j hj=>by simp[← hw',Ne.symm hj]
 have hself:w'.heap[r]? = some (.map arr' clock'):=by simp[← hw',hrl]
 have hsz:w'.heap.size=w.heap.size:=by simp[← hw']
 have hkc:∀ F:Nat→Prop,mP w w' F F:=fun F ad u hf hu=>by
  have hne:ad.block≠r:=fun e=>by
   unfold World.cell? at hu
   rw[e,hr] at hu
   cases hu
  exact⟨by rw[World.cell?_of_block (hother _ hne)];exact hu,hf⟩
 have h':aG C σ { s with env:=KO k (oS kv vv es) s.env } a w':=by
  refine⟨h.nq,h.tm,(by rw[← hw'];exact h.os),(by rw[← hw'];exact h.tape),(by rw[← hw'];exact h.output),by rw[hsz];exact h.size,?_,?_,?_,h.inj,h.nx,h.fj,h.low,h.new⟩
  ·intro j hj1 hj2
   rw[hother j (fun e=>?_)]
   ·exact h.frame j hj1 hj2
   ·subst e
    rcases h.new k B j hk0 hB hb with n4 | n4
    ·exact hj2 n4
    ·omega
  ·intro t c hc
   obtain⟨d,hd',rfl⟩:=xK _ _ _ hc
   obtain⟨v,q1,q2⟩:=h.env t d hd'
   refine⟨v,q1,?_⟩
   by_cases hi:Gw k d=true
   ·rw[if_pos hi]
    cases d<;>simp only[Gw,Bool.false_eq_true] at hi
    rename_i k' es'
    have:k'=k:=by simpa using hi
    subst this
    simp only[VR] at q2 ⊢
    obtain⟨B2,r2,arr2,clock2,m1,m2,m3,m4,m5,m6,m7⟩:=q2
    rw[hB] at m1;cases m1
    rw[hb] at m2;cases m2
    exact⟨B,r,arr',clock',hB,hb,m3,hself,k2,uK hclo es hnd,m7⟩
   ·rw[if_neg hi]
    rcases hok.1 _ (bB _ _ _ hd') with (q | q) | q
    ·exact VR.nQ (hkc _) _ _ q q2
    ·exact absurd q hi
    ·cases d<;>simp only[isIt,Bool.false_eq_true] at q
     simp only[VR] at q2 ⊢
     obtain⟨B2,r2,m1,m2,m3,m4,m5⟩:=q2
     have hne:r2≠r:=fun e=>by rw[e,hr] at m4;cases m4
     exact⟨B2,r2,m1,m2,m3,by rw[hother r2 hne];exact m4,m5⟩
  ·intro q y hq
   obtain⟨B2,m1,m2,m3,m4,m5⟩:=h.obj q y hq
   refine⟨B2,m1,m2,m3,m4,fun b2 hb2=>?_⟩
   obtain⟨cur2,q1,q2,q3,q4,q5,q6⟩:=m5 b2 hb2
   have hne:b2≠r:=fun e=>by subst e;rw[hr] at q1;cases q1
   exact⟨cur2,by rw[hother b2 hne];exact q1,q2,q3,q4,q5,aS.nQ (hkc _) _ _ (hok.2 _ (bB _ _ _ hq)) q6⟩
 refine⟨w',.inr ⟨?_,σ,h'.del undef⟩⟩
 simp[execOp,ho,hv,hkv,hval,k1]
structure MI where
 t:Nat
 kt:Nat
 et:Nat
 kb:Value→Bool
 zv:Value
def MIok (P:Program)(l:List MI):Prop:=∀ x∈l,Ly P x.t x.kt x.et x.kb x.zv
def Mm:List MI→Nat→Option MI
 | [],_=>none
 | x::r,t=>if x.t=t then some x else Mm r t
theorem yy:∀ (l:List MI) (t:Nat) (x:MI),Mm l t=some x→x∈l∧x.t=t
 | [],_,_,h=>by simp[Mm] at h
 | y::r,t,x,h=>by
  simp only[Mm] at h
  split at h
  ·rename_i e;cases h;exact⟨List.mem_cons_self,e⟩
  ·obtain⟨h1,h2⟩:=yy r t x h;exact⟨List.mem_cons_of_mem _ h1,h2⟩
def Ge (mi:List MI)(n0:Nat)(s:St)(o:Oper):Option St:=
 match o.op with
 | .lookup t x y false=>match Mm mi t,ev s x,ev s y with
  | some M,some (.mp _ es),some cy=>match kg cy with
   | some kv=>if M.kb kv=true∧(es.all fun e=>M.kb e.1)=true then
     match (match vU kv es with | some v=>gr v | none=>gr M.zv) with
     | some c=>some (s.put o.dst c)
     | none=>none
    else none
   | none=>none
  | _,_,_=>none
 | .mapUpdate t x y v=>match Mm mi t,ev s x,ev s y,ev s v with
  | some M,some (.mp k es),some cy,some cv=>match kg cy,kg cv with
   | some kv,some vv=>if M.kb kv=true∧(es.all fun e=>M.kb e.1)=true∧n0≤k∧E9 s k=true then some (St.del { s with env:=KO k (oS kv vv es) s.env } o.dst) else none
   | _,_=>none
  | _,_,_,_=>none
 | _=>none
theorem Gd {mi:List MI}(hM:MIok P mi){o:Oper}{s':St}(hd:aU C.nt o.dst=true)(h:Ge mi C.n0 s o=some s'):pQ P C o s s':=by
 unfold Ge at h
 split at h
 ·rename_i t x y ho
  split at h
  ·rename_i M k es cy h1 h2 h3
   obtain⟨m1,m2⟩:=yy _ _ _ h1
   have hT:=hM M m1
   rw[m2] at hT
   split at h
   ·rename_i kv h4
    split at h
    ·rename_i hc
     split at h
     ·rename_i c h5
      cases h
      exact Ec hT hd ho h2 h3 h4 hc.1 hc.2 h5
     ·cases h
    ·cases h
   ·cases h
  ·cases h
 ·rename_i t x y v ho
  split at h
  ·rename_i M k es cy cv h1 h2 h3 h4
   obtain⟨m1,m2⟩:=yy _ _ _ h1
   have hT:=hM M m1
   rw[m2] at hT
   split at h
   ·rename_i kv vv h5 h6
    split at h
    ·rename_i hc
     cases h
     exact Eb hT hd ho h2 h3 h5 h4 h6 hc.1 hc.2.1 hc.2.2.1 hc.2.2.2
    ·cases h
   ·cases h
  ·cases h
 ·cases h
def Aj (n:Int):Bool:=decide (-9223372036854775808≤n) && decide (n≤9223372036854775807)
structure EqT (P:Program)(t:TypeId)(kb:Value→Bool):Prop where
 eq:∀ (w:World) (x y:Value),kb x=true→kb y=true→(Op.equalIn 10000 t x y).run P w=.ok (y6 x y) w
 guard:P.eqGuardType P.depth t=false
 agg:∀ x,kb x=true→∃ cs,x=.agg cs
structure EI where
 t:Nat
 kb:Value→Bool
def Jq (P:Program)(l:List EI):Prop:=∀ x∈l,EqT P x.t x.kb
def K4:List EI→Nat→Option EI
 | [],_=>none
 | x::r,t=>if x.t=t then some x else K4 r t
theorem De:∀ (l:List EI) (t:Nat) (x:EI),K4 l t=some x→x∈l∧x.t=t
 | [],_,_,h=>by simp[K4] at h
 | y::r,t,x,h=>by
  simp only[K4] at h
  split at h
  ·rename_i e;cases h;exact⟨List.mem_cons_self,e⟩
  ·obtain⟨h1,h2⟩:=De r t x h;exact⟨List.mem_cons_of_mem _ h1,h2⟩
def Ay (ei:List EI)(s:St)(o:Oper):Option St:=
 match o.op with
 | .binOp op t x y _=>match K4 ei t,ev s x,ev s y with
  | some E,some cx,some cy=>match kg cx,kg cy with
   | some vx,some vy=>if E.kb vx=true∧E.kb vy=true then match op with
     | .eql=>some (s.put o.dst (.bool (y6 vx vy)))
     | .neq=>some (s.put o.dst (.bool (!(y6 vx vy))))
     | _=>none
    else none
   | _,_=>none
  | _,_,_=>none
 | _=>none
theorem vf {ei:List EI}(hE:Jq P ei){o:Oper}{s':St}(hd:aU C.nt o.dst=true)(h:Ay ei s o=some s'):pQ P C o s s':=by
 unfold Ay at h
 split at h
 ·rename_i op t x y q ho
  split at h
  ·rename_i E cx cy h1 h2 h3
   obtain⟨m1,m2⟩:=De _ _ _ h1
   have hT:=hE E m1
   rw[m2] at hT
   split at h
   ·rename_i vx vy h4 h5
    split at h
    ·rename_i hc
     rintro a w ⟨σ,hr⟩
     obtain⟨e1,_⟩:=nW h4 (bz hr h2)
     obtain⟨e2,_⟩:=nW h5 (bz hr h3)
     obtain⟨xs,rfl⟩:=hT.agg vx hc.1
     obtain⟨ys,rfl⟩:=hT.agg vy hc.2
     have hq:=hT.eq w _ _ hc.1 hc.2
     split at h
     ·cases h
      refine⟨w,.inl ⟨.bool (y6 (.agg xs) (.agg ys)),?_,ep hd hr (dP _)⟩⟩
      simp only[execOp,ho,e1,e2,Sem.run_bind,run_eqGuard_agg w _ t x y xs ys hT.guard,Result.andThen_ok,run_eql_struct,hq,Sem.run_pure]
     ·cases h
      refine⟨w,.inl ⟨.bool (!(y6 (.agg xs) (.agg ys))),?_,ep hd hr (dP _)⟩⟩
      simp only[execOp,ho,e1,e2,Sem.run_bind,run_eqGuard_agg w _ t x y xs ys hT.guard,Result.andThen_ok,run_neq_struct,hq,Sem.run_pure]
     ·cases h
    ·cases h
   ·cases h
  ·cases h
 ·cases h
def frzA (s:St)(p:Nat)(ob:Ob)(d:Option Tmp)(n:Nat):St:=(s.cG p ob).put d (.av ob.cells n)
theorem Ke (ht:ay P aq){o:Oper}{t e:TypeId}{x:Operand}{p n:Nat}{ob:Ob}{ie:TI}(hd:aU C.nt o.dst=true)(ho:o.op=.slice t x none none none)(hx:ev s x=some (.aw p 0))(h2:dz aq t=some (.arr n e))(hie:assoc aq e=some ie)
  (hn:0<n) (hm:n≤1000000) (hob:assoc s.heap p=some ob) (htr:trees ob.cells=true):pQ P C o s (frzA s p ob o.dst n):=by
 rintro a w ⟨σ,h⟩
 obtain⟨i2,b1,b2,_⟩:=eL ht h2
 have g2:=og (ht t i2 b1) b2
 obtain⟨f,z,g3,_⟩:=(ht e ie hie).info
 have h':=h.cG hob htr
 have hfz:∃ v,a.eval x=v∧VR w (FB C σ (s.cG p ob).heap) σ (.cM ob.cells) v:=by
  cases x with
  | tmp t=>
   have hx':assoc s.env t=some (.aw p 0):=hx
   have:∀ l:List (Nat×CV),assoc l t=some (.aw p 0)→assoc (vY p ob.cells ob.sz l) t=some (.cM ob.cells):=by
    intro l
    induction l with
    | nil=>intro h;cases h
    | cons y r ih=>
     obtain⟨k,c⟩:=y
     intro hl
     simp only[vY,assoc] at hl ⊢
     split at hl
     ·rename_i e;cases hl;rw[if_pos e];simp[cL]
     ·rename_i e;rw[if_neg e];exact ih hl
   obtain⟨v,k1,k2⟩:=h'.env t _ (this s.env hx')
   exact⟨v,by simp[Act.eval,k1],k2⟩
  | const v=>exact absurd hx (by
    simp only[ev]
    intro hc
    have:=mD (w:=w) (F:=fun _=>False) hc
    simp[bY] at this)
  | func f=>cases hx
  | global g=>cases hx
 obtain⟨v,hv,hvr⟩:=hfz
 simp only[VR,bY] at hvr
 obtain⟨ad,rfl,hmr⟩:=hvr
 refine⟨w,.inl ⟨.slice (some ad) n n,?_,ep hd h' ?_⟩⟩
 ·have hsb:(Instr.sliceBounds false n n none none none).run P w=.ok (0,n,n) w:=by simp[Instr.sliceBounds]
  have hne:¬ n=0:=by omega
  have:(Instr.sliceAt t (.pointer (some ad)) none none none).run P w=.ok (.slice (some ad) n n) w:=by
   simp[Instr.sliceAt,bq g2,Instr.sureAddr,hsb,cN g3,hne,add_zero]
  simp[execOp,ho,hv,this]
 ·simp only[VR,bY]
  exact⟨_,n,rfl,Nat.le_refl _,by simp only[maxLen];omega,.inr ⟨ad,rfl,hmr⟩⟩
def Hx (aq:List (Nat×TI))(s:St)(o:Oper):Option St:=
 match o.op with
 | .slice t x none none none=>match ev s x,dz aq t with
  | some (.aw p 0),some (.arr n e)=>match assoc aq e,assoc s.heap p with
   | some _,some ob=>if 0<n∧n≤1000000∧trees ob.cells=true then some (frzA s p ob o.dst n) else none
   | _,_=>none
  | _,_=>none
 | _=>none
theorem Hw (ht:ay P aq){o:Oper}{s':St}(hd:aU C.nt o.dst=true)(h:Hx aq s o=some s'):pQ P C o s s':=by
 unfold Hx at h
 split at h
 ·rename_i t x ho
  split at h
  ·rename_i p n e hx h2
   split at h
   ·rename_i ie ob h3 h4
    split at h
    ·rename_i hc
     cases h
     exact Ke ht hd ho hx h2 h3 hc.1 hc.2.1 h4 hc.2.2
    ·cases h
   ·cases h
  ·cases h
 ·cases h
end
inductive OrcE where
 | fj (pre ord tail:List Nat)
 | tr (ord:List Nat) (dyn:List (Nat×Nat))
structure IP where
 aq:List (Nat×TI)
 mt:kq
 al:FuncId→Bool
 pu:FuncId→Bool
 orc:FuncId→Nat→Option OrcE
 Ee:List (FuncId×List CV×CV)
 mi:List MI:=[]
 ei:List EI:=[]
def knl:List (FuncId×List CV×CV)→FuncId→List CV→Option CV
 | [],_,_=>none
 | (h,ds,r)::l,g,cs=>if (h == g && rI ds cs)=true then some r else knl l g cs
abbrev oJ:=FuncId→List CV→Option CV
def BQ (I:IP)(n0 nt:Nat)(ops:Array Oper)(call:gf)(pcall:oJ)(o:Oper)(s:St):Option St:=
 match cg o with
 | none=>match fe I.aq nt ops s o with
  | some s'=>some s'
  | none=>match bU ops s o with
   | some true=>if aU nt o.dst=true then match Cs n0 I.aq s o with
     | some s'=>some s'
     | none=>match Ge I.mi n0 s o with
      | some s'=>some s'
      | none=>match Ay I.ei s o with
       | some s'=>some s'
       | none=>Hx I.aq s o
    else none
   | _=>none
 | some c=>match bU ops s o with
  | some true=>if aU nt o.dst=true then match jz I.mt s c with
    | some (g,cs)=>match (if trees cs then pcall g cs else none) with
     | some r=>some (s.put o.dst r)
     | none=>match call g cs s.heap s.nx with
      | some (x,H,n)=>some (St.put ⟨s.env,H,n⟩ o.dst x)
      | none=>none
    | none=>none
   else none
  | _=>fe I.aq nt ops s o
def xh (I:IP)(n0 nt:Nat)(ops:Array Oper)(call:gf)(pcall:oJ):List Oper→St→Option St
 | [],s=>some s
 | o::r,s=>match BQ I n0 nt ops call pcall o s with
  | some s'=>xh I n0 nt ops call pcall r s'
  | none=>none
def drX (I:IP)(call:gf)(pcall:oJ)(g:FuncId)(n0 nt:Nat)(id:Nat)(ops:Array Oper)(s:St):Option St:=match I.orc g id with
 | none=>none
 | some (.fj pre ord tail)=>match FU I.aq nt ops (pre++ord) s with
  | none=>none
  | some s'=>xh I n0 nt ops call pcall (tail.map (ops.getD · default)) s'
 | some (.tr ord dyn)=>EZ I.aq I.mt nt ops call pcall ord dyn s
def K1 (I:IP)(g:FuncId)(id:Nat)(ops:Array Oper)(d:Bool):Bool:=!d || match I.orc g id with
 | some (.fj pre ord tail)=>AE ops pre ord tail
 | some (.tr ord dyn)=>tU ops ord dyn
 | none=>true
def FL (I:IP)(call:gf)(pcall:oJ)(g:FuncId)(n0 nt:Nat)(id:Nat)(ops:Array Oper)(d:Bool)(s:St):Option St:=
 if d then drX I call pcall g n0 nt id ops s else xh I n0 nt ops call pcall ops.toList s
def vt (I:IP)(go:FuncId→List CV→List (Nat×Ob)→Nat→Option (Func×St)):gf:=fun g cs H n=>match go g cs H n with
 | some (fn,s)=>match bw I.aq fn s with
  | some r=>some (r,s.heap,s.nx)
  | none=>none
 | none=>none
def rj (I:IP)(go:FuncId→List CV→List (Nat×Ob)→Nat→Option (Func×St)):oJ:=fun g cs=>match knl I.Ee g cs with
 | some r=>some r
 | none=>if I.pu g then match go g cs [] 0 with
  | some (fn,s)=>match bw I.aq fn s with
   | some r=>deep s.heap 60 r
   | none=>none
  | none=>none
  else none
def aO (P:Program)(I:IP):Nat→FuncId→List CV→List (Nat×Ob)→Nat→Option (Func×St)
 | 0,_,_,_,_=>none
 | f+1,g,cs,H,n=>match P.funcs[g]? with
  | none=>none
  | some fn=>match fn.body with
   | none=>none
   | some c => if (fn.name == "runtime.NumGoroutine") = false ∧ cs.length ≤ fn.ntmps ∧ I.al g = true then
     match nc (FL I (vt I (aO P I f)) (rj I (aO P I f)) g n fn.ntmps) f c ⟨(enter cs).env,H,n⟩ with
     | some (.normal,s')=>some (fn,s')
     | some (.ret,s')=>some (fn,s')
     | _=>none
    else none
section
variable {P:Program}{C:Cx}{s:St}{I:IP}{ops:Array Oper}{call:gf}{pcall:oJ}
structure J1 (P:Program)(I:IP):Prop where
 kn:∀ x∈I.Ee,ae P x.1 x.2.1 x.2.2
 aq:ay P I.aq
 mt:oK P I.mt
 mi:MIok P I.mi
 ei:Jq P I.ei
 md:P.follows .mixedOrders=true
 gd:∀ g fn c,I.al g=true→P.funcs[g]? = some fn→fn.body=some c→gS (K1 I g) c=true
theorem D3 (hI:J1 P I)(hc:kr P I.aq call)(hp:Cr P pcall){o:Oper}{l:List Oper}{s':St}{K:St→Prop}(h:BQ I C.n0 C.nt ops call pcall o s=some s')(hk:TL P C ops l s' K):TL P C ops (o::l) s K:=by
 unfold BQ at h
 split at h
 ·split at h
  ·rename_i s1 h1
   cases h
   exact TL.step hI.aq h1 hk
  ·split at h
   ·rename_i hg
    split at h
    ·rename_i hd
     split at h
     ·rename_i s1 h1
      cases h
      exact lU hg (zb hI.aq hd h1) hk
     ·split at h
      ·rename_i s1 h1
       cases h
       exact lU hg (Gd hI.mi hd h1) hk
      ·split at h
       ·rename_i s1 h1
        cases h
        exact lU hg (vf hI.ei hd h1) hk
       ·exact lU hg (Hw hI.aq hd h) hk
    ·cases h
   ·cases h
 ·rename_i c hu
  have hop:=gM hu
  split at h
  ·rename_i hg
   split at h
   ·rename_i hd
    split at h
    ·rename_i g cs hca
     split at h
     ·rename_i r hr
      cases h
      split at hr
      ·rename_i ht
       have hP:=hp g cs r hr
       exact pureE hd hg (xP.to hI.mt hop hca hP.1) ht hP hk
      ·cases hr
     ·split at h
      ·rename_i x H n hx
       cases h
       have hB:=hc _ _ _ _ _ _ _ hx
       have hE:jA P g:=by
        obtain⟨fn,c,h1,h2,h3,_⟩:=hB
        exact⟨fn,h1,h3,by simp[h2]⟩
       refine callE hI.aq hd hg (xP.to hI.mt hop hca hE) hB ?_
       rintro r s1 ⟨rfl,rfl,rfl⟩
       exact hk
      ·cases h
    ·cases h
   ·cases h
  ·exact TL.step hI.aq h hk
theorem uQ (hI:J1 P I)(hc:kr P I.aq call)(hp:Cr P pcall):∀ (l:List Oper) (s s':St),xh I C.n0 C.nt ops call pcall l s=some s'→TL P C ops l s fun x=>x=s'
 | [],s,s',h=>by
  simp only[xh] at h
  cases h
  exact TL.nil rfl
 | o::r,s,s',h=>by
  simp only[xh] at h
  split at h
  ·rename_i s1 h1
   exact D3 hI hc hp h1 (uQ hI hc hp r s1 s' h)
  ·cases h
theorem K6 (hI:J1 P I)(hc:kr P I.aq call)(hp:Cr P pcall)(g:FuncId)(id:Nat)(ops:Array Oper)(s s':St)(hg:K1 I g id ops true=true)(h:drX I call pcall g C.n0 C.nt id ops s=some s'):T P C (.region id ops true) s fun e x=>e=.normal∧x=s':=by
 unfold drX at h
 unfold K1 at hg
 split at h
 ·cases h
 ·rename_i pre ord tail ho
  rw[ho] at hg
  split at h
  ·cases h
  ·rename_i s1 h1
   have hB:AE ops.toList.toArray pre ord tail=true:=by simpa using hg
   have hl:=uQ (ops:=ops) hI hc hp _ _ _ h
   have:=T.draw (P:=P) (C:=C) (s:=s) (id:=id) (l:=ops.toList) (Q:=fun e x=>e=.normal∧x=s') hI.aq hI.md pre ord tail hB (CG (pre++ord) s s1 (by simpa using h1) (by
    intro a w Q hr hQ
    have k:=hl a w Q hr fun x a' w' hx hr'=>hQ x a' w' ⟨rfl,hx⟩ hr'
    simpa using k))
   simpa using this
 ·rename_i ord dyn ho
  rw[ho] at hg
  exact T.trace hI.aq hI.mt hc hp hI.md (by simpa using hg) h
theorem Ii (hI:J1 P I)(hc:kr P I.aq call)(hp:Cr P pcall)(g:FuncId):HG P C (K1 I g) (FL I call pcall g C.n0 C.nt):=by
 intro id ops d s s' hg h
 unfold FL at h
 cases d with
 | true=>exact K6 hI hc hp g id ops s s' hg yAy
 | false=>
  have hl:=uQ (ops:=ops.toList.toArray) hI hc hp ops.toList s s' yAy
  simpa using TL.again (id:=id) hl
def Lz (P : Program) (go : FuncId → List CV → List (Nat × Ob) → Nat → Option (Func × St)) : Prop := ∀ g cs H n fn s', go g cs H n = some (fn, s') → ∃ c, P.funcs[g]? = some fn ∧ fn.body = some c ∧ (fn.name == "runtime.NumGoroutine") = false ∧ cs.length ≤ fn.ntmps ∧
 ∀ C:Cx,C.nt=fn.ntmps→C.n0=n→T P C c ⟨(enter cs).env,H,n⟩ fun e x=>(e=.normal∨e=.ret)∧x=s'
theorem EG {go:FuncId→List CV→List (Nat×Ob)→Nat→Option (Func×St)}(h:Lz P go):kr P I.aq (vt I go):=by
 intro g cs H n x H' n' hx
 unfold vt at hx
 split at hx
 ·rename_i fn s' hg
  split at hx
  ·rename_i r hr
   cases hx
   obtain⟨c,h1,h2,h3,h4,h5⟩:=h _ _ _ _ _ _ hg
   refine Body.j5 h1 h2 h3 h4 fun C hC hC0=>T.mono (h5 C hC hC0) ?_
   rintro e x ⟨rfl | rfl,rfl⟩<;>exact aa.here ⟨_,hr,rfl,rfl,rfl⟩
  ·cases hx
 ·cases hx
theorem C2:∀ (l:List (FuncId×List CV×CV)) (g:FuncId) (cs:List CV) (r:CV),knl l g cs=some r→(g,cs,r)∈l
 | [],_,_,_,h=>by simp[knl] at h
 | (h',ds,r')::l,g,cs,r,h=>by
  simp only[knl] at h
  split at h
  ·rename_i e
   simp only[Bool.and_eq_true,beq_iff_eq] at e
   cases h
   rw[jM _ _ e.2,e.1]
   exact List.mem_cons_self
  ·exact List.mem_cons_of_mem _ (C2 l g cs r h)
theorem wR (ht:ay P I.aq)(hk:∀ x∈I.Ee,ae P x.1 x.2.1 x.2.2){go:FuncId→List CV→List (Nat×Ob)→Nat→Option (Func×St)}(h:Lz P go):Cr P (rj I go):=by
 intro g cs r hx
 unfold rj at hx
 split at hx
 ·rename_i r' hk'
  cases hx
  exact hk _ (C2 _ _ _ _ hk')
 ·split at hx
  ·split at hx
   ·rename_i fn s' hg
    split at hx
    ·rename_i r0 hr
     obtain⟨c,h1,h2,h3,h4,h5⟩:=h _ _ _ _ _ _ hg
     refine ae.Iz ht h1 h2 h3 h4 fun C hC hC0=>T.mono (h5 C hC hC0) ?_
     rintro e x ⟨rfl | rfl,rfl⟩<;>exact⟨r0,60,hr,hx⟩
    ·cases hx
   ·cases hx
  ·cases hx
theorem GM (hI:J1 P I):∀ f,Lz P (aO P I f)
 | 0=>fun _ _ _ _ _ _ h=>by simp[aO] at h
 | f+1=>fun g cs H n fn s' h=>by
  have ih:=GM hI f
  simp only[aO] at h
  split at h
  ·cases h
  ·rename_i fn' hf
   split at h
   ·cases h
   ·rename_i c hb
    split at h
    ·rename_i hcond
     cases hx:nc (FL I (vt I (aO P I f)) (rj I (aO P I f)) g n fn'.ntmps) f c ⟨(enter cs).env,H,n⟩ with
     | none=>rw[hx] at h;cases h
     | some q=>
      rw[hx] at h
      obtain⟨e3,s1⟩:=q
      have hT:∀ C:Cx,C.nt=fn'.ntmps→C.n0=n→T P C c ⟨(enter cs).env,H,n⟩ fun e x=>e=e3∧x=s1:=fun C hC hC0=>by
       have hR:HG P C (K1 I g) (FL I (vt I (aO P I f)) (rj I (aO P I f)) g C.n0 C.nt):=Ii hI (EG ih) (wR hI.aq hI.kn ih) g
       rw[hC,hC0] at hR
       exact T.mono (Di hR f c _ _ (hI.gd g fn' c hcond.2.2 hf hb) hx) fun e x he=>he
      cases e3<;>simp only at h<;>first | cases h | skip
      all_goals
       exact⟨c,hf,hb,hcond.1,hcond.2.1,fun C hC hC0=>T.mono (hT C hC hC0) fun e x he=>⟨by simp[he.1],he.2⟩⟩
    ·cases h
theorem eM (hI:J1 P I)(f:Nat){g:FuncId}{cs:List CV}{r:CV}(h:rj I (aO P I f) g cs=some r):ae P g cs r:=wR hI.aq hI.kn (GM hI f) g cs r h
end
def Ao (P:Program)(I:IP)(l:List Nat):Bool:=l.all fun g=>match P.funcs[g]? with
 | some fn=>match fn.body with
  | some c=>gS (K1 I g) c
  | none=>true
 | none=>true
theorem Em {P:Program}(I:IP)(Ee:List (FuncId×List CV×CV))(l:List Nat):Ao P { I with Ee:=Ee } l=Ao P I l:=rfl
theorem An {P:Program}{I:IP}{l:List Nat}(h:Ao P I l=true)(hl:∀ g,I.al g=true→g∈l):∀ g fn c,I.al g=true→P.funcs[g]? = some fn→fn.body=some c→gS (K1 I g) c=true:=fun g fn c ha hf hb=>by
 have:=List.all_eq_true.1 h g (hl g ha)
 simp only[hf,hb] at this
 exact this
def Gj (P:Program)(t:Nat)(name:String)(g:FuncId):Bool:=match P.info? t with
 | some i=>match i.methods.find? (·.name == name) with
  | some m=>match m.path.toList,m.func with
   | [],some (h,false)=>h == g && match P.underlying t with
    | some (.pointer _)=>false
    | some _=>true
    | none=>false
   | _,_=>false
  | none=>false
 | none=>false
theorem Gi {P:Program}{t:Nat}{name:String}{g:FuncId}(h:Gj P t name g=true):y5 P t name g:=by
 unfold Gj at h
 split at h
 ·rename_i i hi
  split at h
  ·rename_i m hm
   split at h
   ·rename_i k hp hf
    simp only[Bool.and_eq_true,beq_iff_eq] at h
    obtain⟨rfl,h2⟩:=h
    refine⟨⟨i,m,hi,hm,hp,by rw[Array.isEmpty_iff_size_eq_zero,← Array.length_toList,hp];rfl,hf⟩,?_⟩
    split at h2
    ·cases h2
    ·rename_i d hn hd
     exact⟨d,hd,fun e he=>hn e (by rw[he])⟩
    ·cases h2
   ·cases h
  ·cases h
 ·cases h
def CX (P:Program)(mt:kq):Bool:=mt.all fun x=>Gj P x.1.1 x.1.2 x.2
theorem uN {P:Program}{mt:kq}(h:CX P mt=true):oK P mt:=fun x hx=>Gi (List.all_eq_true.1 h x hx)
end Go.Can
namespace Go.Proofs.YtmnglemlimfpbaaGreat
open Go.Can Go.aX
def ral:List Nat:=[158,160]
def rip:IP:=⟨aq,[],fun g=>ral.contains g,fun _=>true,fun _ _=>none,[],[],[]⟩
theorem rgd:Ao Tryz.prog rip ral=true:=by kernel_rfl
theorem uq:J1 Tryz.prog rip:=⟨by simp[rip],ag,uN yAb,by intro x hx;simp[rip] at hx,by intro x hx;simp[rip] at hx,follows,An (l:=ral) rgd fun g ha=>by simpa [rip] using ha⟩
def uF (k:Nat):List ByteArray×List Int:=match k with
 | 0=>([⟨#[124,124]⟩],[17])
 | 1=>([⟨#[38,38]⟩],[16])
 | 2=>([⟨#[61,61]⟩,⟨#[33,61]⟩,⟨#[60]⟩,⟨#[60,61]⟩,⟨#[62]⟩,⟨#[62,61]⟩],[14,15,10,11,12,13])
 | 3=>([⟨#[43]⟩,⟨#[45]⟩],[8,9])
 | _=>([⟨#[42]⟩,⟨#[47]⟩,⟨#[37]⟩],[5,6,7])
set_option maxRecDepth 100000 in
theorem fA:∀ k:Nat,k≤17→ae Tryz.prog 160 [I k] (I (ny k))
 | 0,_=>eM (I:=rip) uq 300 yAb
 | 1,_=>eM (I:=rip) uq 300 yAb
 | 2,_=>eM (I:=rip) uq 300 yAb
 | 3,_=>eM (I:=rip) uq 300 yAb
 | 4,_=>eM (I:=rip) uq 300 yAb
 | 5,_=>eM (I:=rip) uq 300 yAb
 | 6,_=>eM (I:=rip) uq 300 yAb
 | 7,_=>eM (I:=rip) uq 300 yAb
 | 8,_=>eM (I:=rip) uq 300 yAb
 | 9,_=>eM (I:=rip) uq 300 yAb
 | 10,_=>eM (I:=rip) uq 300 yAb
 | 11,_=>eM (I:=rip) uq 300 yAb
 | 12,_=>eM (I:=rip) uq 300 yAb
 | 13,_=>eM (I:=rip) uq 300 yAb
 | 14,_=>eM (I:=rip) uq 300 yAb
 | 15,_=>eM (I:=rip) uq 300 yAb
 | 16,_=>eM (I:=rip) uq 300 yAb
 | 17,_=>eM (I:=rip) uq 300 yAb
 | _+18,h=>absurd h yA
set_option maxRecDepth 100000 in
theorem FA:∀ k:Nat,k≤4→ae Tryz.prog 158 [I k] (.cr [strs (uF k).1,ints (uF k).2])
 | 0,_=>eM (I:=rip) uq 300 yAb
 | 1,_=>eM (I:=rip) uq 300 yAb
 | 2,_=>eM (I:=rip) uq 300 yAb
 | 3,_=>eM (I:=rip) uq 300 yAb
 | 4,_=>eM (I:=rip) uq 300 yAb
 | _+5,h=>absurd h yA
def bt (gs:List Gl)(ms:List Mx)(nf left:Nat)(ar:Bool):Ob:=⟨129,0,[.aw 0 0,.av (gs.flatMap pd) gs.length,.av (ms.flatMap cq) ms.length,.bx 2 0 nf,I left,.bool ar]⟩
@[simp] theorem wrOb_frz (gs:List Gl)(ms:List Mx)(nf left:Nat)(ar:Bool)(o:Nat)(h:o≠0)(h2:o≠2)(cs:List CV)(n:Nat):(⟨(bt gs ms nf left ar).elem,(bt gs ms nf left ar).sz,(bt gs ms nf left ar).cells.map (cL o cs n)⟩:Ob)=bt gs ms nf left ar:=by
 have h':¬ 0=o:=fun e=>h e.symm
 have h2':¬ 2=o:=fun e=>h2 e.symm
 simp[bt,h',h2']
@[simp] theorem LK (ρ:Nat→Nat)(h0:ρ 0=0)(h2:ρ 2=2)(gs:List Gl)(ms:List Mx)(nf left:Nat)(ar:Bool):ca ρ (bt gs ms nf left ar)=bt gs ms nf left ar:=by
 simp only[ca,bt,bu,dU,h0,h2]
@[simp] theorem LI (L:List Int)(i n:Nat):(aA L i).cells.all (a8 n)=true:=rfl
@[simp] theorem LG (L:List Int)(i n:Nat):aQ n (aA L i).cells=true:=rfl
@[simp] theorem E2 (gs:List Gl)(ms:List Mx)(nf left:Nat)(ar:Bool)(n:Nat)(h:2<n):(bt gs ms nf left ar).cells.all (a8 n)=true:=by
 have h':0<n:=by omega
 simp[bt,h,h']
@[simp] theorem wrOb_lts (gs:List Gl)(ms:List Mx)(nf left:Nat)(ar:Bool)(n:Nat)(h:2<n):aQ n (bt gs ms nf left ar).cells=true:=by rw[a7];exact E2 gs ms nf left ar n h
theorem wy (r:Rf):trees (kZ r)=true:=by
 rcases r with ⟨_,_ | _⟩<;>rfl
theorem nr (L:List Int)(hL:L.length≤1000)(vars:List ByteArray)(hv:vars.length≤1000)(gs:List Gl)(ms:List Mx)(nf left:Nat)(ar:Bool)(i:Nat)(hi:i≤L.length) :
  Body Tryz.prog aq 87 [.aw 1 0,.bx 3 0 vars.length] [(0,aA L i),(1,bt gs ms nf left ar),(3,bb vars)] 4 (kk (.agg (aZ (dq L ar vars i).1)) [(0,aA L (dq L ar vars i).2),(1,bt gs ms nf left ar),(3,bb vars)] 4):=by
 refine Body.j5 Tryz.func87 rfl yAb (by simp[Tryz.ntmps87]) fun C hC hC0=>?_
 rw[Tryz.ntmps87] at hC
 apply au
 simp[hC]
 cases ar with
 | false=>
  apply aJ
  simp[hC,bt]
  refine dN ?_
  simp
  apply au
  simp[hC]
  refine TL.cO ag [0,3] 4 (ui L hL vars hv 0 i yA hi) yAc rfl rfl rfl rfl yAa yAi yAj rfl (TL.go' ag ?_)
  simp[bk]
  apply T.ret
  refine aa.le (Le.trim [4] [0,1,3,4] 5 yBz yA) ?_
  simp
  refine aa.le (Le.nz [] [4]) ?_
  simp
  refine aa.le (Le.cG (o:=4) rfl yBd) ?_
  simp
  refine aa.trim [4] [0,1,3] 4 yAx yA ⟨_,?_,rfl,?_,rfl⟩
  ·simp[dq,p5,bk]
  ·simp[dq]
 | true=>
  apply aJ
  simp[hC,bt]
  refine e9 ?_
  simp
  have hlt:=dk L i (show 0<2 by omega)
  have w1:=ct (1+((cb L i 2).1:Int)) yA yA
  apply T.seq
  refine T.rx ag follows [0,1,2,3,4,5,6,7,8,9,10,11,12] [(3,9)] yAb ?_
  simp[hC]
  refine RX.cO [0] [0] 1 (cz L i 2 hi hL yA yA) rfl yAa rfl rfl rfl rfl yAa yAi yAj rfl rfl rfl yAa ?_
  simp[w1]
  refine RX.cO [0,3] [0] 4 (ui L hL vars hv (1+(cb L i 2).1) _ yA (ba _ _ hi)) rfl yAa rfl rfl rfl rfl yAa yAi yAj rfl rfl rfl yAa ?_
  simp[bk]
  apply T.ret
  refine aa.le (Le.trim [4] [0,1,3,4] 18 yBz yA) ?_
  simp
  refine aa.le (Le.nz [] [4]) ?_
  simp
  refine aa.le (Le.cG (o:=4) rfl yBd) ?_
  simp
  refine aa.trim [4] [0,1,3] 4 yAx yA ⟨_,?_,rfl,?_,rfl⟩
  ·simp[dq,p5,bk]
  ·simp[dq]
theorem Dw (L:List Int)(hL:L.length≤1000)(vars:List ByteArray)(hv:vars.length≤1000)(gs:List Gl)(ms:List Mx)(nf left size:Nat)(hs:0<size)(hs2:size≤1000)(ar:Bool)(i:Nat)(hi:i≤L.length) :
  Body Tryz.prog aq 122 [.aw 1 0,.bx 3 0 vars.length,I size] [(0,aA L i),(1,bt gs ms nf left ar),(3,bb vars)] 4 (kk (.agg (aZ (oT L ar vars size i).1)) [(0,aA L (oT L ar vars size i).2),(1,bt gs ms nf left ar),(3,bb vars)] 4):=by
 refine Body.j5 Tryz.func122 rfl yAb (by simp[Tryz.ntmps122]) fun C hC hC0=>?_
 rw[Tryz.ntmps122] at hC
 apply au
 simp[hC]
 have hi3:=ba L 3 hi
 cases ar with
 | false=>
  apply aJ
  simp[hC,bt]
  refine e9 ?_
  simp
  apply au
  simp[hC]
  refine TL.cO ag [0] 1 (cz L i size hi hL hs yA) yAc rfl rfl rfl rfl yAa yAi yAj rfl (TL.go' ag ?_)
  simp[hC]
  apply T.ret
  refine aa.le (Le.trim [6] [0,1,3,4] 5 yCe yA) ?_
  simp
  refine aa.le (Le.nz [] [4]) ?_
  simp
  refine aa.le (Le.cG (o:=4) rfl yBd) ?_
  simp
  refine aa.trim [6] [0,1,3] 4 yAx yA ⟨_,?_,rfl,?_,rfl⟩
  ·simp[oT,aZ,eS]
  ·simp[oT]
 | true=>
  apply aJ
  simp[hC,bt]
  refine TL.cO ag [0] 1 (cz L i 3 hi hL yA yA) yAc rfl rfl rfl rfl yAa yAi yAj rfl (TL.go' ag ?_)
  simp[hC]
  refine T.bg rfl (fun h=>?_) (fun h=>?_)
  ·have h1:(cb L i 3).1=1:=by simpa using h
   apply au
   simp[hC]
   refine TL.cO ag [0,3] 4 (ui L hL vars hv 1 _ yA hi3) yAc rfl rfl rfl rfl yAa yAi yAj rfl (TL.go' ag ?_)
   simp[bk]
   apply T.ret
   refine aa.le (Le.trim [6] [0,1,3,4] 5 yBz yA) ?_
   simp
   refine aa.le (Le.nz [] [4]) ?_
   simp
   refine aa.le (Le.cG (o:=4) rfl yBd) ?_
   simp
   refine aa.trim [6] [0,1,3] 4 yAx yA ⟨_,?_,rfl,?_,rfl⟩
   ·simp[oT,h1,p5,bk]
   ·simp[oT,h1]
  ·have h1:¬ (cb L i 3).1=1:=by simpa using h
   apply T.skip
   simp
   apply au
   simp[hC]
   refine TL.cO ag [0] 1 (cz L _ size hi3 hL hs yA) yAc rfl rfl rfl rfl yAa yAi yAj rfl (TL.go' ag ?_)
   simp[hC]
   apply T.ret
   refine aa.le (Le.trim [6] [0,1,3,4] 5 yCe yA) ?_
   simp
   refine aa.le (Le.nz [] [4]) ?_
   simp
   refine aa.le (Le.cG (o:=4) rfl yBd) ?_
   simp
   refine aa.trim [6] [0,1,3] 4 yAx yA ⟨_,?_,rfl,?_,rfl⟩
   ·simp[oT,aZ,eS,h1]
   ·simp[oT,h1]
end Go.Proofs.YtmnglemlimfpbaaGreat
