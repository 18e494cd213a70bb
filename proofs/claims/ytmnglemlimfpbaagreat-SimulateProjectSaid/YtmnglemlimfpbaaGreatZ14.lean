/- Rows of records, written out as cells. No function of the pr -/
import Derived.Test.YtmnglemlimfpbaaGreatZ13
import Derived.Test.YtmnglemlimfpbaaGreatRows
import Derived.ProofKit
import Derived.Deep.Matrix
import Derived.Deep.Fields
namespace Go.Can
section
variable {α:Type}{f:α→List CV}{n:Nat}
theorem aD (hf:∀ x,(f x).length=n):∀ m:List α,(m.flatMap f).length=m.length*n
 | []=>by simp
 | a::r=>by
  have ih:=aD hf r
  simp only[List.flatMap_cons,List.length_append,hf,ih,List.length_cons,Nat.add_mul]
  omega
theorem rB (hf:∀ x,(f x).length=n):∀ (m:List α) (i:Nat),(m.flatMap f).take (i*n)=(m.take i).flatMap f
 | [],i=>by simp
 | a::r,0=>by simp
 | a::r,i+1=>by
  have ih:=rB hf r i
  simp only[List.take_succ_cons,List.flatMap_cons,← ih]
  rw[show (i+1)*n=(f a).length+i*n by rw[hf,Nat.add_mul];omega,List.take_length_add_append]
theorem rC (hf:∀ x,(f x).length=n):∀ (m:List α) (i:Nat),(m.flatMap f).drop (i*n)=(m.drop i).flatMap f
 | [],i=>by simp
 | a::r,0=>by simp
 | a::r,i+1=>by
  have ih:=rC hf r i
  simp only[List.drop_succ_cons,List.flatMap_cons,← ih]
  rw[show (i+1)*n=(f a).length+i*n by rw[hf,Nat.add_mul];omega,List.drop_length_add_append]
theorem aE (hf:∀ x,(f x).length=n){m:List α}{i:Nat}{e:α}(h:m[i]? = some e):(m.flatMap f).drop (i*n)=f e++(m.drop (i+1)).flatMap f:=by
 rw[rC hf]
 obtain⟨hi,he⟩:=List.getElem?_eq_some_iff.1 h
 rw[List.drop_eq_getElem_cons hi,he,List.flatMap_cons]
end
open Go.ChangeShapes Go.WideShapes Go.ChangeAt Go.RowKit
section
variable {P:Program}{H:Type}{enc:TypeId×Value→H}{w:World}
theorem Gf {F:Nat→Prop}(hF:∀ b,¬ F b):∀ (cs:List CV) (ad:Addr),cs.all one=true→(∀ i c,cs[i]? = some c→∃ u,w.cell? (ad.add i)=some u∧bY w F c u)→fw w F cs ad
 | [],_,_,_=>by simp[fw]
 | c::cs,ad,h1,h=>by
  simp only[List.all_cons,Bool.and_eq_true] at h1
  obtain⟨u,k1,k2⟩:=h 0 c rfl
  rw[add_zero] at k1
  simp only[fw]
  refine⟨⟨u,k1,hF _,k2⟩,h1.1,Gf hF cs _ h1.2 fun i d hi=>?_⟩
  obtain⟨v,m1,m2⟩:=h (i+1) d (by simpa using hi)
  refine⟨v,?_,m2⟩
  rw[add_add,Nat.add_comm];exact m1
theorem Iv {α:Type}(f:α→CV)(h:∀ x,one (f x)=true)(l:List α):(l.map f).all one=true:=by
 rw[List.all_eq_true];intro x hx;obtain⟨y,_,rfl⟩:=List.mem_map.1 hx;exact h y
theorem HD {F:Nat→Prop}(cs:List CV)(h:cs=[]):bY w F (.av cs 0) (.slice none 0 0):=by
 subst h
 simp only[bY]
 exact⟨none,0,rfl,Nat.le_refl _,Nat.zero_le _,.inl ⟨trivial,by simp⟩⟩
theorem pb {F:Nat→Prop}(hF:∀ b,¬ F b){t e:TypeId}{r:Reach}{b0:Nat}{v:Value}{d:DataW H}{ps:List MemPlace}(ht:P.underlying t=some (.slice e))(he:P.underlying e=some (.int .i64))(hc:P.cellsOf e=1)
  (hval:Value.okWide P w r b0 t v) (h:DataW.Trod enc P w 0 (fun _=>true) true t v d ps):∃ l:List Int,bY w F (ints l) v∧l.length≤9223372036854775807:=by
 obtain⟨a,n,cap,rfl⟩:=okWide_slice ht hval
 obtain⟨fuel,hf⟩:=h
 rcases open_ints ht he hc hf with ⟨hcs,_⟩ | ⟨a',len,cap',zs,hcs,_,hl,hm,hz,_,hcell,_⟩
 ·simp[Value.cells] at hcs
  obtain⟨rfl,rfl,rfl⟩:=hcs
  exact⟨[],HD _ rfl,by simp⟩
 ·simp[Value.cells] at hcs
  obtain⟨rfl,rfl,rfl⟩:=hcs
  simp only[if_true] at hz
  have hlen:(zs.take n).length=n:=by simp;omega
  refine⟨zs.take n,?_,by rw[hlen];simp only[maxLen] at hm;omega⟩
  unfold ints
  rw[hlen]
  simp only[bY]
  refine⟨_,cap,rfl,hl,hm,.inr ⟨a',rfl,Gf hF _ _ (Iv _ (fun _=>rfl) _) fun i c hi=>?_⟩⟩
  rw[List.getElem?_map] at hi
  obtain⟨z,hz1,rfl⟩:=Option.map_eq_some_iff.1 hi
  rw[List.getElem?_take] at hz1
  split at hz1
  ·rename_i hin
   have hlt:i<zs.length:=by omega
   refine⟨_,hcell i hlt,?_⟩
   have:zs.getD i 0=z:=by simp[List.getD,hz1]
   rw[this]
   simp[bY]
  ·cases hz1
theorem ae.calls {f:FuncId}{args:List CV}{b:Bool}(h:ae P f args (.bool b)){vs:List Value}(hv:bJ w (fun _=>False) args vs):Calls P f vs.toArray w fun e w'=>e=.returned (.bool b)∧Below w.heap.size w w':=
 (h.2 (fun _=>False) vs w (fun _ hb=>hb.elim) hv).mono fun e w' ⟨v,h1,h2,h3⟩=>by
  simp only[bY] at h3
  subst h3
  exact⟨h1,h2⟩
end
end Go.Can
/- Arguments as the contracts read them: a slice of structs of four integers. No function of the program is mentioned here. -/
namespace Go.Can
open Go.ChangeShapes Go.WideShapes Go.ChangeAt Go.RowKit
section
variable {P:Program}{H:Type}{enc:TypeId×Value→H}{w:World}
def q4 (e:Int×Int×Int×Int):List CV:=[.int .i64 e.1,.int .i64 e.2.1,.int .i64 e.2.2.1,.int .i64 e.2.2.2]
end
end Go.Can
namespace Go.Can
open Go.RowKit
section
variable {P:Program}{C:Cx}{σ:Nat→Option OB}{s:St}{a:Act}{w:World}{ops:Array Oper}{aq:List (Nat×TI)}
theorem Hc (e:List (Nat×CV))(H:List (Nat×Ob))(n m:Nat)(r:ResultVar):pe aq ⟨e,H,n⟩ r=pe aq ⟨e,H,m⟩ r:=by
 have h:∀ c,fF ⟨e,H,n⟩ c=fF ⟨e,H,m⟩ c:=fun c=>sb (s:=⟨e,H,n⟩) (s':=⟨e,H,m⟩) rfl c
 cases r with
 | tmp t=>rfl
 | cell x t=>simp only[pe,h]
theorem AP (e:List (Nat×CV))(H:List (Nat×Ob))(n m:Nat):∀ rs:List ResultVar,kR aq ⟨e,H,n⟩ rs=kR aq ⟨e,H,m⟩ rs
 | []=>rfl
 | r::rs=>by
  simp only[kR]
  rw[Hc e H n m r,AP e H n m rs]
theorem AN (fn:Func)(e:List (Nat×CV))(H:List (Nat×Ob))(n m:Nat):bw aq fn ⟨e,H,n⟩=bw aq fn ⟨e,H,m⟩:=by
 simp only[bw]
 rw[AP e H n m]
def below (σ:Nat→Option OB)(n:Nat)(σ':Nat→Option OB):Nat→Option OB:=fun o=>if o<n then σ o else σ' o
theorem gu {σ σ':Nat→Option OB}{n o:Nat}(h:o<n):below σ n σ' o=σ o:=if_pos h
theorem kj {σ σ':Nat→Option OB}{n o:Nat}(h:n≤o):below σ n σ' o=σ' o:=if_neg yA
theorem aG.Js {C C':Cx}{σ σ':Nat→Option OB}{e:List (Nat×CV)}{H:List (Nat×Ob)}{n n':Nat}(h:aG C σ ⟨e,H,n⟩ a w)
  (h1:C'.w0=C.w0) (h2:C'.F=C.F) (h3:C'.own=C.own) (h4:C'.nt=C.nt)
  (he:∀ t c o,assoc e t=some c→aF o c=false→σ' o=σ o) (hH:∀ p ob o,assoc H p=some ob→dJ o ob.cells=false→σ' o=σ o) (hk:∀ p ob,assoc H p=some ob→σ' p=σ p)
  (hnx:∀ o,n'≤o→σ' o=none) (hold:∀ o,o<C'.n0→σ' o=C'.σ0 o) (hlow:C'.n0≤n') (hnew:∀ o B b,C'.n0≤o→σ' o=some B→B.jX=some b→C'.own b∨C'.w0.heap.size≤b) :
  aG C' σ' ⟨e,H,n'⟩ a w:=by
 have hb:∀ p ob,assoc H p=some ob→aV σ' p=aV σ p:=fun p ob hp=>by unfold aV;rw[hk p ob hp]
 have hFB:∀ b,FB C' σ' H b↔FB C σ H b:=fun b=>by
  unfold FB
  rw[h2]
  constructor
  ·rintro (h | ⟨o,ob,ho,hx⟩)
   ·exact .inl h
   ·exact .inr ⟨o,ob,ho,by rw[← hb o ob ho];exact hx⟩
  ·rintro (h | ⟨o,ob,ho,hx⟩)
   ·exact .inl h
   ·exact .inr ⟨o,ob,ho,by rw[hb o ob ho];exact hx⟩
 have hK:cF w w (FB C σ H) (FB C' σ' H):=cF.same fun b hx=>(hFB b).1 hx
 refine⟨h.nq,by rw[h4];exact h.tm,by rw[h1];exact h.os,by rw[h1];exact h.tape,by rw[h1];exact h.output,by rw[h1];exact h.size,by rw[h1,h3];exact h.frame,?_,?_,?_,hnx,hold,hlow,hnew⟩
 ·intro t c hc
  obtain⟨v,k1,k2⟩:=h.env t c hc
  exact⟨v,k1,VR.bp hK _ _ (fun o ho=>he t c o hc ho) k2⟩
 ·intro o ob ho
  obtain⟨B,m1,m2,m3,m4,m5⟩:=h.obj o ob ho
  refine⟨B,by rw[hk o ob ho];exact m1,m2,m3,m4,fun b hbk=>?_⟩
  obtain⟨cur,n1,n2,n3,n4,n5,n6⟩:=m5 b hbk
  refine⟨cur,n1,n2,by rw[h2];exact n3,by rw[h1,h3];exact n4,n5,?_⟩
  exact aS.bp hK _ _ (fun p hp=>hH o ob p ho hp) n6
 ·intro o o' ob ob' b ho ho' hx hx'
  rw[hb o ob ho] at hx
  rw[hb o' ob' ho'] at hx'
  exact h.inj o o' ob ob' b ho ho' hx hx'
def de (n:Nat):List (Nat×Ob)→Bool
 | []=>true
 | (k,ob)::r=>decide (k<n) && aQ n ob.cells && de n r
theorem iN {n:Nat}:∀ {H:List (Nat×Ob)},de n H=true→∀ p ob,assoc H p=some ob→p<n∧aQ n ob.cells=true
 | [],_,p,ob,h=>by simp[assoc] at h
 | (k,x)::r,h,p,ob,hp=>by
  simp only[de,Bool.and_eq_true,decide_eq_true_eq] at h
  simp only[assoc] at hp
  split at hp
  ·rename_i e
   cases hp
   subst e
   exact h.1
  ·exact iN h.2 p ob hp
theorem Body.lift {f:FuncId}{args:List CV}{H:List (Nat×Ob)}{n n':Nat}{R:CV→St→Prop}(h:Body P aq f args H n R)(hn:n≤n')(ha:aQ n args=true)(hH:de n H=true)(hR:∀ r s,R r s→s.nx=n) :
  Body P aq f args H n' fun r s=>∃ s1,R r s1∧s=⟨s1.env,s1.heap,n'⟩:=by
 obtain⟨fn,c,hf,hb,hnm,hl,hT⟩:=h
 refine⟨fn,c,hf,hb,hnm,hl,fun C' hC hC0 a w ⟨σ,hr⟩=>?_⟩
 have hargs:∀ (t:Nat) c o,assoc (enter args).env t=some c→aF o c=false→o<n:=fun t c o hc ho=>by
  obtain⟨_,h2⟩:=fS args 0 t c hc
  have hm:c∈args:=List.mem_of_getElem? h2
  rw[a7,List.all_eq_true] at ha
  exact lN n c o (ha c hm) ho
 have h0:aG ⟨C'.w0,C'.F,C'.own,C'.hF,C'.nt,below σ n (fun _=>none),n⟩ (below σ n (fun _=>none)) ⟨(enter args).env,H,n⟩ a w:=
  hr.Js rfl rfl rfl rfl (fun t c o hc ho=>gu (hargs t c o hc ho)) (fun p ob o hp ho=>gu (eW n _ o (iN hH p ob hp).2 ho)) (fun p ob hp=>gu (iN hH p ob hp).1)
   (fun o ho=>kj ho) (fun _ _=>rfl) (Nat.le_refl _) (fun o B b ho hB _=>by rw[kj ho] at hB;cases hB)
 refine wp_mono (hT ⟨C'.w0,C'.F,C'.own,C'.hF,C'.nt,below σ n (fun _=>none),n⟩ hC rfl a w ⟨_,h0⟩) fun e a' w' ⟨s1,q,σ1,hr1⟩=>?_
 have fin:aa ⟨C'.w0,C'.F,C'.own,C'.hF,C'.nt,below σ n (fun _=>none),n⟩ (fun s'=>∃ r,bw aq fn s'=some r∧R r s') s1 →
   ∃ s',aa C' (fun s'=>∃ r,bw aq fn s'=some r∧∃ s1,R r s1∧s'=⟨s1.env,s1.heap,n'⟩) s'∧Rel C' s' a' w':=fun⟨s2,⟨r,q1,q2⟩,hle⟩=>by
  obtain⟨σ2,hr2⟩:=hle _ _ ⟨σ1,hr1⟩
  have hnx2:=hR r s2 q2
  obtain⟨e2,H2,n2⟩:=s2
  simp only at hnx2
  subst hnx2
  have hlt:∀ o B,σ2 o=some B→o<n2:=fun o B hB=>Nat.lt_of_not_le fun hle=>by rw[hr2.nx o hle] at hB;cases hB
  refine⟨⟨e2,H2,n'⟩,aa.here ⟨r,(AN fn e2 H2 n' n2).trans q1,_,q2,rfl⟩,below σ2 n2 σ,?_⟩
  refine hr2.Js rfl rfl rfl rfl (fun t c o hc ho=>?_) (fun p ob o hp ho=>?_) (fun p ob hp=>?_) (fun o ho=>?_) (fun o ho=>?_) (by rw[hC0];exact Nat.le_refl _) (fun o B b ho hB _=>?_)
  ·obtain⟨v,_,k2⟩:=hr2.env t c hc
   obtain⟨B,hB⟩:=VR.refs _ _ o k2 ho
   exact gu (hlt o B hB)
  ·obtain⟨B,m1,_,m3,_,m5⟩:=hr2.obj p ob hp
   cases hbk:B.jX with
   | none=>
    rw[m3 hbk] at ho
    simp[dJ] at ho
   | some b=>
    obtain⟨cur,_,_,_,_,_,n6⟩:=m5 b hbk
    obtain⟨B',hB'⟩:=aS.refs _ _ o n6 ho
    exact gu (hlt o B' hB')
  ·obtain⟨B,m1,_⟩:=hr2.obj p ob hp
   exact gu (hlt p B m1)
  ·rw[kj (Nat.le_trans hn ho)]
   exact hr.nx o ho
  ·rcases Nat.lt_or_ge o n2 with h1 | h1
   ·rw[gu h1,hr2.fj o h1]
    show below σ n2 (fun _=>none) o=_
    rw[gu h1]
    exact hr.fj o ho
   ·rw[kj h1]
    exact hr.fj o ho
  ·rw[hC0] at ho
   rw[kj (Nat.le_trans hn ho),hr.nx o ho] at hB
   cases hB
 cases e with
 | normal=>exact fin q
 | ret=>exact fin q
 | exit _=>exact q.elim
 | goto _=>exact q.elim
 | panic _=>exact q.elim
 | outgrown=>exact q.elim
def dZ (G:List (Nat×Ob)):List Nat→Option (List (Nat×Ob))
 | []=>some []
 | k::ks=>match assoc G k,dZ G ks with
  | some ob,some H=>some ((k,ob)::H)
  | _,_=>none
def dx (G:List (Nat×Ob)):List Nat→List (Nat×Ob)
 | []=>G
 | k::ks=>dx (jy G k) ks
theorem jU {G:List (Nat×Ob)}:∀ {ks:List Nat} {H:List (Nat×Ob)},dZ G ks=some H→(∀ o ob,assoc H o=some ob→o∈ks∧assoc G o=some ob)∧∀ o ob,o∈ks→assoc G o=some ob→assoc H o=some ob
 | [],H,h=>by
  simp only[dZ,Option.some.injEq] at h
  subst h
  exact⟨fun o ob ho=>by simp[assoc] at ho,fun o ob ho=>by simp at ho⟩
 | k::ks,H,h=>by
  simp only[dZ] at h
  split at h
  ·rename_i ob H' h1 h2
   cases h
   obtain⟨i1,i2⟩:=jU h2
   refine⟨fun o x ho=>?_,fun o x ho hx=>?_⟩
   ·simp only[assoc] at ho
    split at ho
    ·rename_i e
     cases ho
     subst e
     exact⟨List.mem_cons_self,h1⟩
    ·exact⟨List.mem_cons_of_mem _ (i1 o x ho).1,(i1 o x ho).2⟩
   ·simp only[assoc]
    split
    ·rename_i e
     subst e
     rw[h1] at hx
     exact hx
    ·rename_i e
     rcases List.mem_cons.1 ho with h3 | h3
     ·exact (e h3.symm).elim
     ·exact i2 o x h3 hx
  ·cases h
theorem dQ {G:List (Nat×Ob)}:∀ (ks:List Nat) (o:Nat),assoc (dx G ks) o=if o∈ks then none else assoc G o:=by
 intro ks
 induction ks generalizing G with
 | nil=>intro o;simp[dx]
 | cons k ks ih=>
  intro o
  rw[dx,ih,eZ]
  by_cases h1:o∈ks
  ·simp[h1]
  ·by_cases h2:o=k
   ·simp[h2]
   ·have:¬ k=o:=fun h=>h2 h.symm
    simp[h1,h2,this]
theorem mW.of {G H:List (Nat×Ob)}{ks:List Nat}(h:dZ G ks=some H):mW H (dx G ks) G:=by
 obtain⟨h1,h2⟩:=jU h
 refine⟨fun o ob ho=>(h1 o ob ho).2,fun o ob ho=>?_,fun o ob ho=>?_,fun o ob ob' ho ho'=>?_⟩
 ·rw[dQ] at ho
  split at ho
  ·cases ho
  ·exact ho
 ·by_cases hm:o∈ks
  ·exact .inl (h2 o ob hm ho)
  ·exact .inr (by rw[dQ,if_neg hm];exact ho)
 ·rw[dQ,if_pos (h1 o ob ho).1] at ho'
  cases ho'
def j6 (ks:List Nat)(H:List (Nat×Ob)):Bool:=H.all fun x=>ks.contains x.1
theorem rq {ks:List Nat}{H:List (Nat×Ob)}(h:j6 ks H=true)(o:Nat)(ob:Ob)(ho:assoc H o=some ob):o∈ks:=by
 have:=bB _ _ _ ho
 simp only[j6,List.all_eq_true] at h
 simpa using h _ this
theorem TL.Ht (ht0:ay P aq){o:Oper}{l:List Oper}{c:Call}{g:FuncId}{cs:List CV}{K:St→Prop}{R:CV→St→Prop}(ks:List Nat){H:List (Nat×Ob)}(n:Nat)(hd:aU C.nt o.dst=true)(hg:bU ops s o=Option.some true)(ho:o.op=.call c)(hca:bl s c=Option.some (g,cs))
  (hp:dZ s.heap ks=Option.some H) (hn:n≤s.nx) (ha:aQ n cs=true) (hH:de n H=true) (hb:Body P aq g cs H n R) (hR:∀ r s1,R r s1→s1.nx=n∧j6 ks s1.heap=true)
  (hK:∀ r s1,R r s1→TL P C ops l (St.put ⟨s.env,s1.heap++dx s.heap ks,s.nx⟩ o.dst r) K):TL P C ops (o::l) s K:=by
 intro a w Q hr hQ
 have hw:=eQ hr hg
 obtain⟨σ,hr⟩:=hr
 unfold wpList
 rw[if_pos hw]
 refine .inl ?_
 have hen:jA P g:=by
  obtain⟨fn,code,hf,hbody,hnm,_⟩:=hb
  exact⟨fn,hf,hnm,by simp[hbody]⟩
 refine oH ht0 (mW.of hp) (xP.value ho hca hen) (hb.lift hn ha hH fun r s h=>(hR r s h).1) ?_ hr _ _ ?_
 ·rintro r s1 ⟨s2,h1,rfl⟩ p ob ob' h2 h3
  have hm:=rq (hR r s2 h1).2 p ob h2
  rw[dQ,if_pos hm] at h3
  cases h3
 ·rintro r s1 v w' σ' ⟨s2,h1,rfl⟩ hr' hv _
  refine hK r s2 h1 _ w' Q ⟨σ',hr'.put ?_ hv⟩ hQ
  intro t e
  rw[hr'.tm]
  rw[e] at hd
  simpa [aU] using hd
def l8 (P:Program)(f:FuncId)(args:List CV)(G:CV→Prop):Prop:=
 jA P f∧∀ (F:Nat→Prop) (vs:List Value) (w:World),(∀ b,F b→b<w.heap.size)→bJ w F args vs →
  Calls P f vs.toArray w fun e w'=>∃ r v,G r∧e=.returned v∧Below w.heap.size w w'∧bY w' F r v
theorem ae.toP {f:FuncId}{args:List CV}{r:CV}{G:CV→Prop}(h:ae P f args r)(hG:G r):l8 P f args G:=
 ⟨h.1,fun F vs w hF hv=>(h.2 F vs w hF hv).mono fun _ _ ⟨v,h1,h2,h3⟩=>⟨r,v,hG,h1,h2,h3⟩⟩
theorem l8.mono {f:FuncId}{args:List CV}{G G':CV→Prop}(h:l8 P f args G)(hG:∀ r,G r→G' r):l8 P f args G':=
 ⟨h.1,fun F vs w hF hv=>(h.2 F vs w hF hv).mono fun _ _ ⟨r,v,h0,h1,h2,h3⟩=>⟨r,v,hG r h0,h1,h2,h3⟩⟩
theorem zL {o:Oper}{g:FuncId}{cs:List CV}{G:CV→Prop}(he:xP P C s o g cs)(ht:trees cs=true)(hp:l8 P g cs G)(h:aG C σ s a w)(K:Act→World→Prop)(Q:Exit→Act→World→Prop)
  (hK:∀ r v w',G r→aG C σ s a w'→VR w' (FB C σ s.heap) σ r v→K (a.put o.dst v) w'):o.wp P a w K Q:=by
 obtain⟨vs,ent,hv⟩:=he σ a w h
 unfold Oper.wp
 rw[ent]
 refine (hp.2 (FB C σ s.heap) vs w (xO h) (aS.ek _ _ ht hv)).mono fun e w' ⟨r,v,h0,h1,h2,h3⟩=>?_
 subst h1
 exact hK r v w' h0 (h.below h2) (VR.cu _ _ h3)
theorem TL.Hr {o:Oper}{l:List Oper}{c:Call}{g:FuncId}{cs:List CV}{K:St→Prop}{G:CV→Prop}(hd:aU C.nt o.dst=true)(hg:bU ops s o=Option.some true)(ho:o.op=.call c)(hca:bl s c=Option.some (g,cs))(ht:trees cs=true)(hp:l8 P g cs G)
  (hK:∀ r,G r→TL P C ops l (s.put o.dst r) K):TL P C ops (o::l) s K:=by
 intro a w Q hr hQ
 have hw:=eQ hr hg
 obtain⟨σ,hr⟩:=hr
 unfold wpList
 rw[if_pos hw]
 refine .inl (zL (xP.value ho hca hp.1) ht hp hr _ _ fun r v w' h0 hr' hv=>hK r h0 _ w' Q ⟨σ,hr'.put ?_ hv⟩ hQ)
 intro t e
 rw[hr'.tm]
 rw[e] at hd
 simpa [aU] using hd
def doneG (C:Cx)(aq:List (Nat×TI))(f:Func)(G:CV→Prop):Exit→St→Prop
 | .normal,s=>aa C (fun s'=>∃ r,bw aq f s'=some r∧tree r=true∧G r) s
 | .ret,s=>aa C (fun s'=>∃ r,bw aq f s'=some r∧tree r=true∧G r) s
 | _,_=>False
theorem l8.j5 (ht0 : ay P aq) {f : FuncId} {fn : Func} {c : Code} {args : List CV} {G : CV → Prop} (hf : P.funcs[f]? = some fn) (hb : fn.body = some c) (hn : (fn.name == "runtime.NumGoroutine") = false)
  (ha:args.length≤fn.ntmps) (h:∀ C:Cx,C.nt=fn.ntmps→C.n0=0→T P C c (enter args) (doneG C aq fn G)):l8 P f args G:=by
 refine⟨⟨fn,hf,hn,by simp[hb]⟩,fun F vs w hF hv=>?_⟩
 have hl:=bJ.length _ _ hv
 have h0:aG ⟨w,F,fun _=>False,hF,fn.ntmps,fun _=>none,0⟩ (fun _=>none) (enter args) { tmps:=vs.toArray++Array.replicate (fn.ntmps-vs.toArray.size) undef,defers:=[] } w:=by
  refine⟨rfl,by simp;omega,rfl,rfl,rfl,Nat.le_refl _,fun _ _ _=>rfl,?_,?_,?_,fun _ _=>rfl,fun _ h=>absurd h (Nat.not_lt_zero _),Nat.zero_le _,fun _ _ _ _ h=>by cases h⟩
  ·intro t c hc
   obtain⟨_,h2⟩:=fS args 0 t c hc
   obtain⟨v,h3,h4⟩:=bJ.get _ _ hv t c (by simpa using h2)
   refine⟨v,?_,VR.cu _ _ (bY.bp (cF.same fun b hb=>?_).1 c v h4)⟩
   ·have hlt:=(List.getElem?_eq_some_iff.1 h3).1
    simp only
    rw[Array.getElem?_append_left (by simpa using hlt)]
    simpa using h3
   ·rcases hb with hF | ⟨o,ob,ho,_⟩
    ·exact hF
    ·simp[enter,assoc] at ho
  ·intro o ob ho;simp[enter,assoc] at ho
  ·intro o o' ob ob' b ho;simp[enter,assoc] at ho
 refine calls_of_wp hf hb (wp_mono (h _ rfl rfl _ _ ⟨_,h0⟩) fun e a' w' ⟨s1,q,σ,hr1⟩=>?_)
 have fin:aa ⟨w,F,fun _=>False,hF,fn.ntmps,fun _=>none,0⟩ (fun s'=>∃ r,bw aq fn s'=some r∧tree r=true∧G r) s1→a'.defers=[]∧∃ v,(results fn a'.tmps).run P w'=.ok v w'∧(∃ r v_1,G r∧Ending.returned v=.returned v_1∧Below w.heap.size w w'∧bY w' F r v_1):=fun⟨s',⟨r,hq,ht,hG⟩,hle⟩=>by
  obtain⟨σ',hr⟩:=hle _ _ ⟨σ,hr1⟩
  obtain⟨v,k1,k2⟩:=jl (P:=P) ht0 hr hq
  refine⟨hr.nq,v,k1,r,v,hG,rfl,⟨hr.os,hr.tape,hr.output,hr.size,fun k hk=>hr.frame k hk (fun hx=>hx)⟩,?_⟩
  exact bY.bp (cF.same fun _ hF=>.inl hF).1 _ _ (VR.ek _ _ ht k2)
 cases e with
 | normal=>exact fin q
 | ret=>exact fin q
 | exit _=>exact q.elim
 | goto _=>exact q.elim
 | panic _=>exact q.elim
 | outgrown=>exact q.elim
def nz:CV→CV
 | .ah=>.av [] 0
 | c=>c
def vP:CV→CV
 | .ah=>.av [] 0
 | .agg cs=>.agg (cs.map nz)
 | c=>c
theorem VR.nz {F:Nat→Prop}{c:CV}{v:Value}(h:VR w F σ c v):VR w F σ (nz c) v:=by
 cases c<;>try exact h
 simp only[VR] at h
 subst h
 simp only[Can.nz,VR,bY]
 exact⟨none,0,rfl,Nat.le_refl _,Nat.zero_le _,.inl ⟨trivial,trivial⟩⟩
theorem aS.nz {F:Nat→Prop}:∀ {cs:List CV} {vs:List Value},aS w F σ cs vs→aS w F σ (cs.map Can.nz) vs
 | [],_,h=>h
 | _::_,_,⟨v,r,e,h1,h2⟩=>⟨v,r,e,VR.nz h1,aS.nz h2⟩
theorem KF (c:CV):one (nz c)=one c:=by cases c<;>rfl
theorem vB (cs:List CV):(cs.map nz).all one=cs.all one:=by
 induction cs with
 | nil=>rfl
 | cons c cs ih=>simp only[List.map_cons,List.all_cons,KF,ih]
theorem VR.vP {F:Nat→Prop}{c:CV}{v:Value}(h:VR w F σ c v):VR w F σ (vP c) v:=by
 cases c<;>try exact h
 ·simp only[VR] at h
  obtain⟨vs,h1,h2,h3⟩:=h
  simp only[Can.vP,VR]
  exact⟨vs,h1,aS.nz h2,by rw[vB];exact h3⟩
 ·exact VR.nz h
def EP (ts:List Nat):List (Nat×CV)→List (Nat×CV)
 | []=>[]
 | (k,c)::r=>(k,if ts.contains k then vP c else c)::EP ts r
def zX (os:List Nat):List (Nat×Ob)→List (Nat×Ob)
 | []=>[]
 | (k,ob)::r=>(k,if os.contains k then ⟨ob.elem,ob.sz,ob.cells.map nz⟩ else ob)::zX os r
theorem wY (ts:List Nat):∀ (e:List (Nat×CV)) (t:Nat) (c:CV),assoc (EP ts e) t=some c→∃ d,assoc e t=some d∧(c=d∨c=vP d)
 | [],t,c,h=>by simp[EP,assoc] at h
 | (k,d)::r,t,c,h=>by
  simp only[EP,assoc] at h ⊢
  split at h
  ·rename_i e
   rw[if_pos e]
   cases h
   refine⟨d,rfl,?_⟩
   split
   ·exact .inr rfl
   ·exact .inl rfl
  ·rename_i e
   rw[if_neg e]
   exact wY ts r t c h
theorem ej (os:List Nat):∀ (H:List (Nat×Ob)) (o:Nat),assoc (zX os H) o=(assoc H o).map fun ob=>if os.contains o then ⟨ob.elem,ob.sz,ob.cells.map nz⟩ else ob
 | [],o=>by simp[zX,assoc]
 | (k,x)::r,o=>by
  simp only[zX,assoc]
  split
  ·rename_i e
   subst e
   rfl
  ·exact ej os r o
theorem Le.nz (ts os:List Nat):Le C s ⟨EP ts s.env,zX os s.heap,s.nx⟩:=by
 intro a w ⟨σ,h⟩
 have hdom:∀ b,FB C σ (zX os s.heap) b↔FB C σ s.heap b:=fun b=>by
  unfold FB
  constructor
  ·rintro (h | ⟨o,ob,ho,hb⟩)
   ·exact .inl h
   ·rw[ej] at ho
    obtain⟨x,hx,_⟩:=Option.map_eq_some_iff.1 ho
    exact .inr ⟨o,x,hx,hb⟩
  ·rintro (h | ⟨o,ob,ho,hb⟩)
   ·exact .inl h
   ·exact .inr ⟨o,_,by rw[ej,ho];rfl,hb⟩
 have hK:cF w w (FB C σ s.heap) (FB C σ (zX os s.heap)):=cF.same fun b hx=>(hdom b).1 hx
 refine⟨σ,h.nq,h.tm,h.os,h.tape,h.output,h.size,h.frame,?_,?_,?_,h.nx,h.fj,h.low,h.new⟩
 ·intro t c hc
  obtain⟨d,hd,hcd⟩:=wY ts s.env t c hc
  obtain⟨v,k1,k2⟩:=h.env t d hd
  refine⟨v,k1,VR.bp hK _ _ (fun _ _=>rfl) ?_⟩
  rcases hcd with rfl | rfl
  ·exact k2
  ·exact VR.vP k2
 ·intro o ob ho
  simp only[ej] at ho
  obtain⟨x,hx,hxo⟩:=Option.map_eq_some_iff.1 ho
  obtain⟨B,m1,m2,m3,m4,m5⟩:=h.obj o x hx
  split at hxo
  ·subst hxo
   refine⟨B,m1,m2,fun hb=>by simp[m3 hb],by simp only[vB];exact m4,fun b hb=>?_⟩
   obtain⟨cur,n1,n2,n3,n4,n5,n6⟩:=m5 b hb
   refine⟨cur,n1,n2,n3,n4,by simpa using n5,?_⟩
   simp only[List.length_map]
   exact aS.bp hK _ _ (fun _ _=>rfl) (aS.nz n6)
  ·subst hxo
   refine⟨B,m1,m2,m3,m4,fun b hb=>?_⟩
   obtain⟨cur,n1,n2,n3,n4,n5,n6⟩:=m5 b hb
   exact⟨cur,n1,n2,n3,n4,n5,aS.bp hK _ _ (fun _ _=>rfl) n6⟩
 ·intro o o' ob ob' b ho ho' hx hx'
  simp only[ej] at ho ho'
  obtain⟨x,h1,_⟩:=Option.map_eq_some_iff.1 ho
  obtain⟨y,h2,_⟩:=Option.map_eq_some_iff.1 ho'
  exact h.inj o o' x y b h1 h2 hx hx'
@[simp] theorem nz_int (k:IntKind)(n:Int):nz (.int k n)=(.int k n):=rfl
@[simp] theorem nzA_int (k:IntKind)(n:Int):vP (.int k n)=(.int k n):=rfl
@[simp] theorem nz_bool (b:Bool):nz (.bool b)=(.bool b):=rfl
@[simp] theorem nzA_bool (b:Bool):vP (.bool b)=(.bool b):=rfl
@[simp] theorem nz_str (s:ByteArray):nz (.str s)=(.str s):=rfl
@[simp] theorem nzA_str (s:ByteArray):vP (.str s)=(.str s):=rfl
@[simp] theorem nz_agg (cs:List CV):nz (.agg cs)=(.agg cs):=rfl
@[simp] theorem nzA_agg (cs:List CV):vP (.agg cs)=.agg (cs.map nz):=rfl
@[simp] theorem nz_tsl (cs:List CV)(n:Nat):nz (.av cs n)=(.av cs n):=rfl
@[simp] theorem nzA_tsl (cs:List CV)(n:Nat):vP (.av cs n)=(.av cs n):=rfl
@[simp] theorem nz_nilsl:nz .ah=.av [] 0:=rfl
@[simp] theorem L6:vP .ah=.av [] 0:=rfl
@[simp] theorem nz_tptr (cs:List CV):nz (.cM cs)=(.cM cs):=rfl
@[simp] theorem nzA_tptr (cs:List CV):vP (.cM cs)=(.cM cs):=rfl
@[simp] theorem L5:nz .bm=.bm:=rfl
@[simp] theorem KM:vP .bm=.bm:=rfl
@[simp] theorem nz_fn (f:FuncId)(cs:List CV):nz (.fn f cs)=(.fn f cs):=rfl
@[simp] theorem nzA_fn (f:FuncId)(cs:List CV):vP (.fn f cs)=(.fn f cs):=rfl
@[simp] theorem nz_nilfn:nz .cw=.cw:=rfl
@[simp] theorem L7:vP .cw=.cw:=rfl
@[simp] theorem nz_iface (t:TypeId)(cs:List CV):nz (.iface t cs)=(.iface t cs):=rfl
@[simp] theorem L8 (t:TypeId)(cs:List CV):vP (.iface t cs)=(.iface t cs):=rfl
@[simp] theorem nz_tup (cs:List CV):nz (.cr cs)=(.cr cs):=rfl
@[simp] theorem nzA_tup (cs:List CV):vP (.cr cs)=(.cr cs):=rfl
@[simp] theorem nz_osl (p f n:Nat):nz (.bx p f n)=(.bx p f n):=rfl
@[simp] theorem nzA_osl (p f n:Nat):vP (.bx p f n)=(.bx p f n):=rfl
@[simp] theorem nz_optr (p f:Nat):nz (.aw p f)=(.aw p f):=rfl
@[simp] theorem nzA_optr (p f:Nat):vP (.aw p f)=(.aw p f):=rfl
@[simp] theorem nz_any:nz .any=.any:=rfl
@[simp] theorem nzA_any:vP .any=.any:=rfl
attribute [simp] EP zX dZ dx de j6
end
end Go.Can
