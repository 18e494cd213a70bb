/- Results made immutable all the way down; calls by their entr -/
import Derived.Test.YtmnglemlimfpbaaGreatZ10
namespace Go.Can
open Go.RowKit
def uP (g:CV→Option CV):List CV→Option (List CV)
 | []=>some []
 | c::cs=>match g c with
  | some d=>match uP g cs with
   | some ds=>some (d::ds)
   | none=>none
  | none=>none
def deep (H:List (Nat×Ob)):Nat→CV→Option CV
 | 0,_=>none
 | f+1,c=>if tree c then some c else match c with
  | .bx o off n=>match assoc H o with
   | some ob=>match (if trees ob.cells then some ob.cells else uP (deep H f) ob.cells) with
    | some cells=>some (.av ((cells.drop off).take (n*ob.sz)) n)
    | none=>none
   | none=>none
  | .aw o off=>match assoc H o with
   | some ob=>match (if trees ob.cells then some ob.cells else uP (deep H f) ob.cells) with
    | some cells=>some (.cM (cells.drop off))
    | none=>none
   | none=>none
  | .agg cs=>match uP (deep H f) cs with
   | some ds=>some (.agg ds)
   | none=>none
  | .iface t cs=>match uP (deep H f) cs with
   | some ds=>some (.iface t ds)
   | none=>none
  | .fn g cs=>match uP (deep H f) cs with
   | some ds=>some (.fn g ds)
   | none=>none
  | .cr cs=>match uP (deep H f) cs with
   | some ds=>some (.cr ds)
   | none=>none
  | _=>none
section
variable {P:Program}{C:Cx}{σ:Nat→Option OB}{s:St}{a:Act}{w:World}{ops:Array Oper}{aq:List (Nat×TI)}
theorem oB {F F':Nat→Prop}{g:CV→Option CV}(hg:∀ c d v,g c=some d→VR w F σ c v→bY w F' d v∧one d=one c):∀ (cs ds:List CV) (vs:List Value),uP g cs=some ds→aS w F σ cs vs→bJ w F' ds vs∧ds.all one=cs.all one
 | [],ds,vs,h,hv=>by
  simp only[uP] at h
  cases h
  exact⟨by simpa [aS,bJ] using hv,rfl⟩
 | c::cs,ds,vs,h,hv=>by
  simp only[uP] at h
  split at h
  ·rename_i d h1
   split at h
   ·rename_i ds' h2
    cases h
    simp only[aS,bJ] at hv ⊢
    obtain⟨v,r,e,k1,k2⟩:=hv
    obtain⟨q1,q2⟩:=hg c d v h1 k1
    obtain⟨q3,q4⟩:=oB hg cs ds' r h2 k2
    exact⟨⟨v,r,e,q1,q3⟩,by simp only[List.all_cons,q2,q4]⟩
   ·cases h
  ·cases h
theorem Dh (h:aG C σ s a w):∀ (f:Nat) (c d:CV) (v:Value),deep s.heap f c=some d→VR w (FB C σ s.heap) σ c v→bY w C.F d v∧one d=one c
 | 0,_,_,_,h,_=>by simp[deep] at h
 | f+1,c,d,v,hd,hv=>by
  have ih:=Dh h f
  have hk:mP w w (FB C σ s.heap) C.F:=fun ad u hf hu=>⟨hu,fun hF=>hf (.inl hF)⟩
  have obj:∀ {o ob B b cells},assoc s.heap o=some ob→σ o=some B→B.jX=some b→(if trees ob.cells then some ob.cells else uP (deep s.heap f) ob.cells)=some cells→∀ k,fw w C.F (cells.drop k) ⟨b,k,none⟩:=fun {o ob B b cells} ho hB hb ht k=>by
   obtain⟨B',e1,_,_,e4,e5⟩:=h.obj o ob ho
   rw[hB] at e1;cases e1
   obtain⟨cur,k1,k2,k3,k4,k5,k6⟩:=e5 b hb
   have h1:bJ w C.F cells (cur.toList.take ob.cells.length)∧cells.all one=true:=by
    split at ht
    ·rename_i htr
     cases ht
     exact⟨bJ.bp hk _ _ (aS.ek _ _ htr k6),e4⟩
    ·obtain⟨q1,q2⟩:=oB ih _ _ _ ht k6
     exact⟨q1,q2.trans e4⟩
   have hl:cells.length=ob.cells.length:=by
    rw[← bJ.length _ _ h1.1,aS.length _ _ k6]
   have h2:fw w C.F cells ⟨b,0,none⟩:=iq _ _ _ h1.1 h1.2 k3 fun j u hu=>by
    rw[add_lit,Nat.zero_add,cell_of_row w b j cur _ _ k1]
    rw[List.getElem?_take] at hu
    split at hu
    ·simpa using hu
    ·cases hu
   have:=h2.drop k
   rwa [add_lit,Nat.zero_add] at this
  simp only[deep] at hd
  split at hd
  ·rename_i ht
   cases hd
   exact⟨bY.bp hk _ _ (VR.ek _ _ ht hv),rfl⟩
  ·split at hd
   ·rename_i o off n _
    split at hd
    ·rename_i ob ho
     split at hd
     ·rename_i cells hc
      cases hd
      refine⟨?_,rfl⟩
      simp only[VR] at hv
      obtain⟨B,hB,hv⟩:=hv
      split at hv
      ·obtain⟨rfl,rfl,rfl⟩:=hv
       simp only[bY]
       exact⟨none,0,rfl,Nat.le_refl _,Nat.zero_le _,.inl ⟨trivial,by simp⟩⟩
      ·rename_i b hb
       obtain⟨cap,rfl,h1,h2,_⟩:=hv
       simp only[bY]
       exact⟨_,cap,rfl,h1,h2,.inr ⟨_,rfl,fw.take _ _ _ (obj ho hB hb hc off)⟩⟩
     ·cases hd
    ·cases hd
   ·rename_i o off _
    split at hd
    ·rename_i ob ho
     split at hd
     ·rename_i cells hc
      cases hd
      refine⟨?_,rfl⟩
      simp only[VR] at hv
      obtain⟨B,b,hB,hb,rfl⟩:=hv
      simp only[bY]
      exact⟨_,rfl,obj ho hB hb hc off⟩
     ·cases hd
    ·cases hd
   ·rename_i cs
    split at hd
    ·rename_i ds hds
     cases hd
     simp only[VR] at hv
     obtain⟨vs,e,r,h1⟩:=hv
     obtain⟨q1,q2⟩:=oB ih _ _ _ hds r
     simp only[bY]
     exact⟨⟨vs,e,q1,q2.trans h1⟩,rfl⟩
    ·cases hd
   ·rename_i t cs
    split at hd
    ·rename_i ds hds
     cases hd
     simp only[VR] at hv
     obtain⟨vs,e,r⟩:=hv
     obtain⟨q1,q2⟩:=oB ih _ _ _ hds r
     simp only[bY]
     exact⟨⟨vs,e,q1⟩,rfl⟩
    ·cases hd
   ·rename_i g cs
    split at hd
    ·rename_i ds hds
     cases hd
     simp only[VR] at hv
     obtain⟨vs,e,r⟩:=hv
     obtain⟨q1,q2⟩:=oB ih _ _ _ hds r
     simp only[bY]
     exact⟨⟨vs,e,q1⟩,rfl⟩
    ·cases hd
   ·rename_i cs
    split at hd
    ·rename_i ds hds
     cases hd
     simp only[VR] at hv
     obtain⟨vs,e,r⟩:=hv
     obtain⟨q1,q2⟩:=oB ih _ _ _ hds r
     simp only[bY]
     exact⟨⟨vs,e,q1⟩,rfl⟩
    ·cases hd
   ·cases hd
def doneD (aq:List (Nat×TI))(f:Func)(r:CV):Exit→St→Prop
 | .normal,s=>∃ r0 k,bw aq f s=some r0∧deep s.heap k r0=some r
 | .ret,s=>∃ r0 k,bw aq f s=some r0∧deep s.heap k r0=some r
 | _,_=>False
theorem ae.Iz (ht0 : ay P aq) {f : FuncId} {fn : Func} {c : Code} {args : List CV} {r : CV} (hf : P.funcs[f]? = some fn) (hb : fn.body = some c) (hn : (fn.name == "runtime.NumGoroutine") = false)
  (ha:args.length≤fn.ntmps) (h:∀ C:Cx,C.nt=fn.ntmps→C.n0=0→T P C c (enter args) (doneD aq fn r)):ae P f args r:=by
 refine⟨⟨fn,hf,hn,by simp[hb]⟩,fun F vs w hF hv=>?_⟩
 have hl:=bJ.length _ _ hv
 let C:Cx:=⟨w,F,fun _=>False,hF,fn.ntmps,fun _=>none,0⟩
 have h0:aG C (fun _=>none) (enter args) { tmps:=vs.toArray++Array.replicate (fn.ntmps-vs.toArray.size) undef,defers:=[] } w:=by
  refine⟨rfl,by simp[C];omega,rfl,rfl,rfl,Nat.le_refl _,fun _ _ _=>rfl,?_,?_,?_,fun _ _=>rfl,fun _ h=>absurd h (Nat.not_lt_zero _),Nat.zero_le _,fun _ _ _ _ h=>by cases h⟩
  ·intro t c hc
   obtain⟨_,h2⟩:=fS args 0 t c hc
   obtain⟨v,h3,h4⟩:=bJ.get _ _ hv t c (by simpa using h2)
   refine⟨v,?_,VR.cu _ _ (bY.bp (cF.same fun b hb=>?_).1 c v h4)⟩
   ·have hlt:=(List.getElem?_eq_some_iff.1 h3).1
    simp only
    rw[Array.getElem?_append_left (by simpa using hlt)]
    simpa using h3
   ·rcases hb with hF | ⟨o,ob,ho,_⟩
    ·exact hF
    ·simp[enter,assoc] at ho
  ·intro o ob ho;simp[enter,assoc] at ho
  ·intro o o' ob ob' b ho;simp[enter,assoc] at ho
 refine calls_of_wp hf hb (wp_mono (h C rfl rfl _ _ ⟨_,h0⟩) fun e a' w' ⟨s',q,σ,hr⟩=>?_)
 have fin:(∃ r0 k,bw aq fn s'=some r0∧deep s'.heap k r0=some r)→a'.defers=[]∧∃ v,(results fn a'.tmps).run P w'=.ok v w'∧(∃ v_1,Ending.returned v=.returned v_1∧Below w.heap.size w w'∧bY w' F r v_1):=fun⟨r0,k,hq,hd⟩=>by
  obtain⟨v,k1,k2⟩:=jl (P:=P) ht0 hr hq
  exact⟨hr.nq,v,k1,v,rfl,⟨hr.os,hr.tape,hr.output,hr.size,fun k hk=>hr.frame k hk (fun hx=>hx)⟩,(Dh hr _ _ _ _ hd k2).1⟩
 cases e with
 | normal=>exact fin q
 | ret=>exact fin q
 | exit _=>exact q.elim
 | goto _=>exact q.elim
 | panic _=>exact q.elim
 | outgrown=>exact q.elim
def xP (P:Program)(C:Cx)(s:St)(o:Oper)(g:FuncId)(cs:List CV):Prop:=
 ∀ σ a w,aG C σ s a w→∃ vs:List Value,(execOp a.eval o).run P w=.ok (.enter g vs.toArray) w∧aS w (FB C σ s.heap) σ cs vs
theorem xP.value {o:Oper}{c:Call}{g:FuncId}{cs:List CV}(ho:o.op=.call c)(hca:bl s c=some (g,cs))(he:jA P g):xP P C s o g cs:=by
 intro σ a w hr
 obtain⟨fn,h1,h2,h3⟩:=he
 unfold bl at hca
 split at hca
 ·rename_i f hcal
  split at hca
  ·rename_i g' caps cs' hfe hcs
   cases hca
   have hfv:=bz hr hfe
   simp only[VR] at hfv
   obtain⟨us,e,hu⟩:=hfv
   have hargs:=pJ hr _ _ hcs
   refine⟨c.args.toList.map a.eval++us,?_,aS.append _ _ _ _ hargs hu⟩
   have e2:(c.args.toList.map a.eval).toArray=c.args.map a.eval:=by rw[← List.map_toArray]
   simp only[execOp,ho,resolve,hcal,e,Deferred.ofValue,Sem.run_bind,Sem.run_pure,Result.andThen_ok,invoke,callFunc,run_program,h1,h2,h3,Bool.false_eq_true,if_false]
   rw[← e2]
   simp
  ·cases hca
 ·cases hca
structure y5 (P:Program)(t:TypeId)(name:String)(g:FuncId):Prop where
 row:∃ i m,P.info? t=some i∧i.methods.find? (·.name == name)=some m∧m.path.toList=[]∧m.path.isEmpty=true∧m.func=some (g,false)
 y7:∃ d,P.underlying t=some d∧∀ e,d≠.pointer e
abbrev kq:=List ((Nat×String)×FuncId)
def oK (P:Program)(mt:kq):Prop:=∀ x∈mt,y5 P x.1.1 x.1.2 x.2
def z0:kq→Nat→String→Option FuncId
 | [],_,_=>none
 | ((t,n),g)::r,u,m=>if t=u∧n=m then some g else z0 r u m
theorem xe:∀ (mt:kq) (u:Nat) (m:String) (g:FuncId),z0 mt u m=some g→((u,m),g)∈mt
 | [],_,_,_,h=>by simp[z0] at h
 | ((t,n),g')::r,u,m,g,h=>by
  simp only[z0] at h
  split at h
  ·rename_i e;obtain⟨rfl,rfl⟩:=e;cases h;exact List.mem_cons_self
  ·exact List.mem_cons_of_mem _ (xe r u m g h)
def jz (mt:kq)(s:St)(c:Call):Option (FuncId×List CV):=match c.callee with
 | .value _=>bl s c
 | .invoke r name=>match ev s r,Aw s c.args.toList with
  | some (.iface t [x]),some cs=>match z0 mt t name with
   | some g=>some (g,x::cs)
   | none=>none
  | _,_=>none
 | _=>none
theorem BG {t:TypeId}{name:String}{g:FuncId}(h:y5 P t name g)(v:Value)(n:Nat)(w:World):(method (n+1) t v name).run P w=.ok (g,v) w:=by
 obtain⟨⟨i,m,h1,h2,h3,h4,h5⟩,d,h6,h7⟩:=h
 unfold method
 simp only[Sem.run_bind,uj h1,Result.andThen_ok,h2,h3,follow,Sem.run_pure,h5,receiverAt,bq h6,Place.get]
theorem xP.to {mt:kq}(hmt:oK P mt){o:Oper}{c:Call}{g:FuncId}{cs:List CV}(ho:o.op=.call c)(hca:jz mt s c=some (g,cs))(he:jA P g):xP P C s o g cs:=by
 unfold jz at hca
 split at hca
 ·exact xP.value ho hca he
 ·rename_i r name hcal
  split at hca
  ·rename_i t x cs' hr hcs
   split at hca
   ·rename_i g' hm
    cases hca
    intro σ a w h
    obtain⟨fn,h1,h2,h3⟩:=he
    have hv:=bz h hr
    simp only[VR,aS] at hv
    obtain⟨vs,e,v,r',rfl,hv,rfl⟩:=hv
    simp only[Mo] at e
    have hargs:=pJ h _ _ hcs
    refine⟨v::c.args.toList.map a.eval,?_,by simp only[aS];exact⟨v,_,rfl,hv,hargs⟩⟩
    have e2:(c.args.toList.map a.eval).toArray=c.args.map a.eval:=by rw[← List.map_toArray]
    have hme:=BG (hmt _ (xe _ _ _ _ hm)) v (P.types.size+99) w
    have hme':(method (P.types.size+Made.depth) t v name).run P w=.ok (g,v) w:=hme
    have hex:(#[Value.iface t v]++c.args.map a.eval)[0]? = some (Value.iface t v):=by rw[Array.getElem?_append_left yAa];rfl
    have hex2:(#[Value.iface t v]++c.args.map a.eval).extract 1 (#[Value.iface t v]++c.args.map a.eval).size=c.args.map a.eval:=by
     apply Array.ext'
     simp[List.take_of_length_le]
    simp only[execOp,ho,resolve,hcal,e,Sem.run_bind,Sem.run_pure,Result.andThen_ok,invoke,hex,hex2,callMethod,run_program,hme',callFunc,h1,h2,h3,Bool.false_eq_true,if_false]
    rw[← e2]
    simp
   ·cases hca
  ·cases hca
 ·cases hca
theorem eQ {o:Oper}(hr:Rel C s a w)(hg:bU ops s o=some true):Region.wanted o (yielded ops a.tmps)=true:=by
 unfold bU at hg
 split at hg
 ·rename_i e;simp[Region.wanted,e]
 ·rename_i j want e
  split at hg
  ·cases hg
  rename_i t hj
  exact jQ hr e hj hg
theorem callE (ht0:ay P aq){o:Oper}{l:List Oper}{g:FuncId}{cs:List CV}{K:St→Prop}{R:CV→St→Prop}(hd:aU C.nt o.dst=true)(hg:bU ops s o=some true)(he:xP P C s o g cs)(hb:Body P aq g cs s.heap s.nx R)
  (hK:∀ r s',R r s'→TL P C ops l (St.put ⟨s.env,s'.heap,s'.nx⟩ o.dst r) K):TL P C ops (o::l) s K:=by
 intro a w Q hr hQ
 have hw:=eQ (ops:=ops) hr hg
 obtain⟨σ,hr⟩:=hr
 unfold wpList
 rw[if_pos hw]
 refine .inl ?_
 obtain⟨fn,code,hf,hbody,hn,hlen,hT⟩:=hb
 obtain⟨vs,ent,hall⟩:=he σ a w hr
 have hF:∀ b,C.F b→b<w.heap.size:=fun b hb=>Nat.lt_of_lt_of_le (C.hF b hb) hr.size
 have h0:=hr.inner hF fn.ntmps hall hlen
 have hcalls:Calls P g vs.toArray w fun e w'=>∃ v r s',e=.returned v∧R r s'∧∃ σ',aG C σ' ⟨s.env,s'.heap,s'.nx⟩ a w'∧VR w' (FB C σ' s'.heap) σ' r v:=by
  refine calls_of_wp hf hbody (wp_mono (hT (C.inner w σ s.heap fn.ntmps hF s.nx) rfl rfl _ _ ⟨_,h0⟩) fun e a' w' ⟨s1,q,σ1,hr1⟩=>?_)
  have fin:aa (C.inner w σ s.heap fn.ntmps hF s.nx) (fun s'=>∃ r,bw aq fn s'=some r∧R r s') s1→a'.defers=[]∧∃ v,(results fn a'.tmps).run P w'=.ok v w'∧(∃ v_1 r s',Ending.returned v=.returned v_1∧R r s'∧∃ σ',aG C σ' ⟨s.env,s'.heap,s'.nx⟩ a w'∧VR w' (FB C σ' s'.heap) σ' r v_1):=fun⟨s2,⟨r,q1,q2⟩,hl⟩=>by
   obtain⟨σ2,hr2⟩:=hl _ _ ⟨σ1,hr1⟩
   obtain⟨v,k1,k2⟩:=jl (P:=P) ht0 hr2 q1
   exact⟨hr2.nq,v,k1,v,r,s2,rfl,q2,σ2,hr.back hr2,k2⟩
  cases e with
  | normal=>exact fin q
  | ret=>exact fin q
  | exit _=>exact q.elim
  | goto _=>exact q.elim
  | panic _=>exact q.elim
  | outgrown=>exact q.elim
 unfold Oper.wp
 rw[ent]
 refine hcalls.mono fun e w' ⟨v,r,s',he,hR,σ',hr',hv⟩=>?_
 subst he
 refine hK r s' hR _ w' Q ⟨σ',hr'.put ?_ hv⟩ hQ
 intro t e
 rw[hr'.tm]
 rw[e] at hd
 simpa [aU] using hd
theorem CH {o:Oper}{g:FuncId}{cs:List CV}{r:CV}(he:xP P C s o g cs)(ht:trees cs=true)(hp:ae P g cs r)(h:aG C σ s a w)(K:Act→World→Prop)(Q:Exit→Act→World→Prop)
  (hK:∀ v w',aG C σ s a w'→VR w' (FB C σ s.heap) σ r v→K (a.put o.dst v) w'):o.wp P a w K Q:=by
 obtain⟨vs,ent,hall⟩:=he σ a w h
 unfold Oper.wp
 rw[ent]
 refine (hp.2 (FB C σ s.heap) _ w (xO h) (aS.ek _ _ ht hall)).mono fun e w' ⟨v,he,hb,hv⟩=>?_
 subst he
 exact hK v w' (h.below hb) (VR.cu _ _ hv)
theorem pureE {o:Oper}{l:List Oper}{g:FuncId}{cs:List CV}{r:CV}{K:St→Prop}(hd:aU C.nt o.dst=true)(hg:bU ops s o=some true)(he:xP P C s o g cs)(ht:trees cs=true)(hp:ae P g cs r)(h:TL P C ops l (s.put o.dst r) K):TL P C ops (o::l) s K:=by
 intro a w Q hr hQ
 have hw:=eQ (ops:=ops) hr hg
 obtain⟨σ,hr⟩:=hr
 unfold wpList
 rw[if_pos hw]
 refine .inl (CH he ht hp hr _ _ fun v w' hr' hv=>h _ _ Q (ep hd hr' hv) hQ)
end
structure FS where
 e:Nat→Option CV
 h:Nat→Option Ob
 n:Nat
structure Ef where
 r:Option CV
 w:List (Nat×Option Ob)
 k:Nat
structure Vw where
 t:List Nat
 o:List Nat
 n:Bool
 a:Option (Nat×Nat)
def ku (h:Nat→Option Ob)(w:List (Nat×Option Ob)):Nat→Option Ob:=fun p=>match assoc w p with
 | some y=>y
 | none=>h p
def ap (d:Option Tmp)(E:Ef)(x:FS):FS:=⟨jB x.e d E.r,ku x.h E.w,x.n+E.k⟩
def dI (V:Vw)(x y:FS):Prop:=(∀ t∈V.t,x.e t=y.e t)∧(∀ o∈V.o,x.h o=y.h o)∧(V.n=true→x.n=y.n)∧(∀ r,V.a=some r→∀ o,o<r.1∨r.2≤o→x.h o=y.h o)
structure EO (d d':Option Tmp)(E E':Ef)(V V':Vw):Prop where
 s1:∀ t,d=some t→t∉V'.t
 s2:∀ t,d'=some t→t∉V.t
 s3:∀ t,d=some t→d'≠some t
 h1:∀ o y,assoc E.w o=some y→o∉V'.o
 h2:∀ o y,assoc E'.w o=some y→o∉V.o
 h3:∀ o y,assoc E.w o=some y→assoc E'.w o=none
 n1:V'.n=true→E.k=0
 n2:V.n=true→E'.k=0
 a1:∀ r,V'.a=some r→∀ o y,assoc E.w o=some y→r.1≤o∧o<r.2
 a2:∀ r,V.a=some r→∀ o y,assoc E'.w o=some y→r.1≤o∧o<r.2
theorem dI.refl (V:Vw)(x:FS):dI V x x:=⟨fun _ _=>rfl,fun _ _=>rfl,fun _=>rfl,fun _ _ _ _=>rfl⟩
theorem dI.symm {V:Vw}{x y:FS}(h:dI V x y):dI V y x:=⟨fun t ht=>(h.1 t ht).symm,fun o ho=>(h.2.1 o ho).symm,fun hn=>(h.2.2.1 hn).symm,fun r ha o ho=>(h.2.2.2 r ha o ho).symm⟩
theorem dI.trans {V:Vw}{x y z:FS}(h:dI V x y)(k:dI V y z):dI V x z:=⟨fun t ht=>(h.1 t ht).trans (k.1 t ht),fun o ho=>(h.2.1 o ho).trans (k.2.1 o ho),fun hn=>(h.2.2.1 hn).trans (k.2.2.1 hn),fun r ha o ho=>(h.2.2.2 r ha o ho).trans (k.2.2.2 r ha o ho)⟩
theorem Du {d d':Option Tmp}{E E':Ef}{V V':Vw}(h:EO d d' E E' V V')(x:FS):ap d E (ap d' E' x)=ap d' E' (ap d E x):=by
 unfold ap
 congr 1
 ·funext t
  simp only[jB]
  by_cases h1:d=some t
  ·rw[if_pos h1,if_neg (h.s3 t h1),if_pos h1]
  ·rw[if_neg h1,if_neg h1]
 ·funext p
  simp only[ku]
  cases h1:assoc E.w p with
  | none=>rfl
  | some y=>rw[h.h3 p y h1]
 ·simp only;omega
theorem od {V:Vw}{d:Option Tmp}{E:Ef}(h1:∀ t,d=some t→t∉V.t)(h2:∀ o y,assoc E.w o=some y→o∉V.o)(h3:V.n=true→E.k=0)(h4:∀ r,V.a=some r→∀ o y,assoc E.w o=some y→r.1≤o∧o<r.2)(x:FS):dI V (ap d E x) x:=by
 refine⟨fun t ht=>?_,fun o ho=>?_,fun hn=>?_,fun r ha o ho=>?_⟩
 ·simp only[ap,jB]
  rw[if_neg (fun e=>h1 t e ht)]
 ·simp only[ap,ku]
  cases h5:assoc E.w o with
  | none=>rfl
  | some y=>exact absurd ho (h2 o y h5)
 ·simp only[ap,h3 hn];rfl
 ·simp only[ap,ku]
  cases h5:assoc E.w o with
  | none=>rfl
  | some y=>have:=h4 r ha o y h5;omega
theorem HC {V:Vw}{d:Option Tmp}{E:Ef}{x y:FS}(h:dI V x y):dI V (ap d E x) (ap d E y):=by
 refine⟨fun t ht=>?_,fun o ho=>?_,fun hn=>?_,fun r ha o ho=>?_⟩
 ·simp only[ap,jB];rw[h.1 t ht]
 ·simp only[ap,ku];rw[h.2.1 o ho]
 ·simp only[ap];rw[h.2.2.1 hn]
 ·simp only[ap,ku];rw[h.2.2.2 r ha o ho]
def bH (dst:Nat→Option Tmp)(E:Nat→Ef)(L:Nat→Bool):List Nat→FS→FS
 | [],x=>x
 | i::r,x=>bH dst E L r (if L i then ap (dst i) (E i) x else x)
section
variable {dst:Nat→Option Tmp}{E:Nat→Ef}
theorem dK {L:Nat→Bool}:∀ (l m:List Nat) (x:FS),bH dst E L (l++m) x=bH dst E L m (bH dst E L l x)
 | [],_,_=>rfl
 | i::r,m,x=>by simp only[List.cons_append,bH];exact dK r m _
theorem eU {L L':Nat→Bool}:∀ (l:List Nat) (x:FS),(∀ i∈l,L i=L' i)→bH dst E L l x=bH dst E L' l x
 | [],_,_=>rfl
 | i::r,x,h=>by
  simp only[bH]
  rw[h i yAa]
  exact eU r _ fun j hj=>h j (by simp[hj])
theorem mr:∀ (l:List Nat) (x:FS),bH dst E (fun _=>false) l x=x
 | [],_=>rfl
 | _::r,x=>by simp only[bH,Bool.false_eq_true,if_false];exact mr r x
theorem gT {V:Vw}{L L':Nat→Bool}:∀ (l:List Nat) (x y:FS),(∀ i∈l,L i≠L' i→∀ z,dI V (ap (dst i) (E i) z) z)→dI V x y→dI V (bH dst E L l x) (bH dst E L' l y)
 | [],_,_,_,h=>h
 | i::r,x,y,hd,h=>by
  simp only[bH]
  refine gT r _ _ (fun j hj=>hd j (by simp[hj])) ?_
  cases h1:L i<;>cases h2:L' i<;>simp only[Bool.false_eq_true,if_false,if_true]
  ·exact h
  ·exact h.trans (hd i yAa (by rw[h1,h2];simp) y).symm
  ·exact (hd i yAa (by rw[h1,h2];simp) x).trans h
  ·exact HC h
theorem mv {L:Nat→Bool}{d:Option Tmp}{G:Ef}:∀ (l:List Nat) (x:FS),(∀ j∈l,L j=true→∀ z,ap d G (ap (dst j) (E j) z)=ap (dst j) (E j) (ap d G z))→bH dst E L l (ap d G x)=ap d G (bH dst E L l x)
 | [],_,_=>rfl
 | j::r,x,h=>by
  simp only[bH]
  cases h1:L j<;>simp only[Bool.false_eq_true,if_false,if_true]
  ·exact mv r x fun k hk=>h k (by simp[hk])
  ·rw[← h j yAa h1 x]
   exact mv r _ fun k hk=>h k (by simp[hk])
end
def iU (ops:Array Oper)(listed:Array Bool):Prop:=∀ j oj,ops[j]? = some oj→listed.getD j false=true→∀ e∈oj.after,Region.binds .any e=true→listed.getD e.on false=true
def Dv (ops:Array Oper)(j i:Nat):Prop:=∀ listed:Array Bool,iU ops listed→(∀ oj,ops[j]? = some oj→∀ e∈oj.after,Region.binds .any e=true→listed.getD e.on false=true)→listed.getD i false=true
def nu (ops:Array Oper):Nat→Nat→Nat→Bool
 | 0,_,_=>false
 | f+1,j,i=>match ops[j]? with
  | some oj=>oj.after.any fun e=>Region.binds .any e && (e.on == i || nu ops f e.on i)
  | none=>false
theorem gw {ops:Array Oper}:∀ (f j i:Nat),nu ops f j i=true→Dv ops j i
 | 0,_,_,h=>by simp[nu] at h
 | f+1,j,i,h=>by
  intro listed hc hj
  simp only[nu] at h
  cases hoj:ops[j]? with
  | none=>rw[hoj] at h;simp at h
  | some oj=>
   rw[hoj] at h
   simp only at h
   obtain⟨e,he,hb⟩:=Array.any_eq_true'.1 h
   simp only[Bool.and_eq_true,Bool.or_eq_true,beq_iff_eq] at hb
   have hl:=hj oj hoj e he hb.1
   rcases hb.2 with h1 | h1
   ·rw[← h1];exact hl
   ·exact gw f e.on i h1 listed hc fun ok hok e' he' hb'=>hc e.on ok hok hl e' he' hb'
theorem wA {P:Program}{ops:Array Oper}{ord:List Nat}{dst:Nat→Option Tmp}{E:Nat→Ef}{V:Nat→Vw}{x0:FS}{R:Array Bool→FS→Act→World→Prop}{Q':Exit→Act→World→Prop}
  (hn:ord.Nodup) (hcov:∀ j,j<ops.size→j∈ord) (hlt:∀ i∈ord,i<ops.size)
  (hrd:∀ pre i post,ord=pre++i::post→∀ oi,ops[i]? = some oi→∀ e∈oi.after,Region.binds .any e=true→e.on∈pre)
  (hind:∀ pre i post,ord=pre++i::post→∀ j∈post,Dv ops j i∨EO (dst i) (dst j) (E i) (E j) (V i) (V j))
  (gq:∀ pre i post,ord=pre++i::post→∀ (listed:Array Bool) (x:FS) (a:Act) (w:World) (K:Act→World→Prop),listed.size=ops.size→listed.getD i false=false→R listed x a w→dI (V i) x (bH dst E (fun _=>true) pre x0) →
   (∀ a' w',R (listed.setIfInBounds i true) (ap (dst i) (E i) x) a' w'→K a' w')→wpOp P ops Q' i K a w)
  (hend:∀ (listed:Array Bool) (a:Act) (w:World),R listed (bH dst E (fun _=>true) ord x0) a w→Q' .normal a w) :
  ∀ (m:Nat) (listed:Array Bool) (a:Act) (w:World),listed.size=ops.size→iU ops listed→(ord.countP fun j=>!listed.getD j false)=m→R listed (bH dst E (fun j=>listed.getD j false) ord x0) a w→wpAny P .any ops Q' m listed a w:=by
 intro m
 induction m with
 | zero=>
  intro listed a w hsz hcl hc hR
  have hall:∀ j∈ord,listed.getD j false=true:=fun j hj=>by
   have:=List.countP_eq_zero.1 hc j hj
   simpa using this
  refine⟨?_,hend listed a w ?_⟩
  ·rw[List.eq_nil_iff_forall_not_mem]
   intro j hj
   have h1:=getD_both (mem_ready.1 hj).1
   obtain⟨_,o,ho,_⟩:=mem_ready.1 hj
   rw[hall j (hcov j (Array.getElem?_eq_some_iff.1 ho).1)] at h1
   cases h1
  ·rwa [eU ord x0 (L':=fun _=>true) fun i hi=>hall i hi] at hR
 | succ m ih=>
  intro listed a w hsz hcl hc hR
  have hex:∃ i∈ord,listed.getD i false=false:=by
   have:0<ord.countP fun j=>!listed.getD j false:=by omega
   obtain⟨i,hi,h⟩:=List.countP_pos_iff.1 this
   exact⟨i,hi,by simpa using h⟩
  refine⟨fun h0=>?_,fun i hi=>?_⟩
  ·exfalso
   have:∀ (l pre:List Nat),ord=pre++l→(∀ j∈pre,listed.getD j false=true)→(∃ i∈l,listed.getD i false=false)→False:=by
    intro l
    induction l with
    | nil=>rintro pre _ _ ⟨i,hi,_⟩;cases hi
    | cons k r ihl=>
     intro pre ho hp hx
     cases hk:listed.getD k false with
     | true=>
      refine ihl (pre++[k]) (by simp[ho]) ?_ ?_
      ·intro j hj
       rcases List.mem_append.1 hj with hj | hj
       ·exact hp j hj
       ·have:j=k:=by simpa using hj
        subst this;exact hk
      ·obtain⟨i,hi,hu⟩:=hx
       rcases List.mem_cons.1 hi with e | hi
       ·subst e;rw[hk] at hu;cases hu
       ·exact⟨i,hi,hu⟩
     | false=>
      have hkl:=hlt k (by rw[ho];simp)
      have hok:ops[k]? = some ops[k]:=by simp[hkl]
      have:k∈Region.ready .any ops listed:=by
       refine mem_ready.2 ⟨iV (by rw[hsz];exact hkl) hk,_,hok,fun e he hb=>?_⟩
       exact hp _ (hrd pre k r ho _ hok e he hb)
      rw[h0] at this
      cases this
   exact this ord [] rfl yAa hex
  ·have hui:listed.getD i false=false:=getD_both (mem_ready.1 hi).1
   obtain⟨_,oi,hoi,hready⟩:=mem_ready.1 hi
   have hio:i∈ord:=hcov i (Array.getElem?_eq_some_iff.1 hoi).1
   obtain⟨pre,post,hord⟩:=List.append_of_mem hio
   have hnd:=hn
   rw[hord,List.nodup_append,List.nodup_cons] at hnd
   have hpost:∀ k∈post,listed.getD k false=true→EO (dst i) (dst k) (E i) (E k) (V i) (V k):=fun k hk hl=>by
    rcases hind pre i post hord k hk with h | h
    ·have:=h listed hcl fun ok hok e he hb=>hcl k ok hok hl e he hb
     rw[hui] at this;cases this
    ·exact h
   have hpre:∀ k∈pre,listed.getD k false=false→EO (dst k) (dst i) (E k) (E i) (V k) (V i):=fun k hk hl=>by
    obtain⟨p1,p2,hp⟩:=List.append_of_mem hk
    have ho2:ord=p1++k::(p2++i::post):=by rw[hord,hp];simp
    rcases hind p1 k _ ho2 i yAa with h | h
    ·have:=h listed hcl fun ok hok e he hb=>by
      rw[hoi] at hok;cases hok
      exact hready e he hb
     rw[hl] at this;cases this
    ·exact h
   have hsplit:bH dst E (fun j=>listed.getD j false) ord x0=bH dst E (fun j=>listed.getD j false) post (bH dst E (fun j=>listed.getD j false) pre x0):=by
    rw[hord,dK]
    simp only[bH,hui,Bool.false_eq_true,if_false]
   refine gq pre i post hord listed _ a w _ hsz hui hR ?_ fun a' w' hR'=>?_
   ·rw[hsplit]
    have e1:dI (V i) (bH dst E (fun j=>listed.getD j false) post (bH dst E (fun j=>listed.getD j false) pre x0)) (bH dst E (fun j=>listed.getD j false) pre x0):=by
     have:=gT (V:=V i) (dst:=dst) (E:=E) (L:=fun j=>listed.getD j false) (L':=fun _=>false) post _ _ (fun k hk hne z=>by
      have hl:listed.getD k false=true:=by cases h:listed.getD k false<;>simp_all
      have h:=hpost k hk hl
      exact od h.s2 h.h2 h.n2 h.a2 z) (dI.refl (V i) (bH dst E (fun j=>listed.getD j false) pre x0))
     rwa [mr] at this
    refine e1.trans (gT pre _ _ (fun k hk hne z=>?_) (dI.refl _ _))
    have hl:listed.getD k false=false:=by cases h:listed.getD k false<;>simp_all
    have h:=hpre k hk hl
    exact od h.s1 h.h1 h.n1 h.a1 z
   ·have hil:i<listed.size:=by rw[hsz];exact hlt i hio
    refine ih _ a' w' (by simpa using hsz) ?_ ?_ ?_
    ·intro j oj hj hl e he hb
     by_cases hij:i=j
     ·subst hij
      have:oj=oi:=Option.some.inj (hj.symm.trans hoi)
      subst this
      exact getD_set_true (hready e he hb)
     ·rw[getD_set_ne false hij] at hl
      exact getD_set_true (hcl j oj hj hl e he hb)
    ·have:=count_set ord i listed hn hio hil hui
     omega
    ·have hself:(listed.setIfInBounds i true).getD i false=true:=by simp[hil]
     have key:bH dst E (fun j=>(listed.setIfInBounds i true).getD j false) ord x0=ap (dst i) (E i) (bH dst E (fun j=>listed.getD j false) ord x0):=by
      rw[hsplit,hord,dK]
      simp only[bH,hself,if_true]
      rw[eU pre x0 (L':=fun j=>listed.getD j false) fun k hk=>getD_set_ne false (fun e=>by subst e;exact hnd.2.2 i hk i yAa rfl)]
      rw[eU post _ (L':=fun j=>listed.getD j false) fun k hk=>getD_set_ne false (fun e=>by subst e;exact hnd.2.1.1 hk)]
      exact mv post _ fun k hk hl z=>Du (hpost k hk hl) z
     rw[key]
     exact hR'
end Go.Can
