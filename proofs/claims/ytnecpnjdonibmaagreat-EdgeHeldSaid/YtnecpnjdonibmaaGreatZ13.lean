/- Arguments as the contracts read them. No function of the pro -/
import Derived.Test.YtnecpnjdonibmaaGreatRows
import Derived.ProofKit
import Derived.Deep.Matrix
import Derived.Deep.Fields
import Derived.Test.YtnecpnjdonibmaaGreatZ12
namespace Go.Can
open Go.ChangeShapes Go.WideShapes Go.ChangeAt Go.RowKit
section
variable {P:Program}{H:Type}{enc:TypeId×Value→H}{w:World}
theorem H8 {F:Nat→Prop}(hF:∀ b,¬ F b):∀ (cs:List CV) (ad:Addr),cs.all one=true→(∀ i c,cs[i]? = some c→∃ u,w.cell? (ad.add i)=some u∧cq w F c u)→gD w F cs ad
 | [],_,_,_=>by simp[gD]
 | c::cs,ad,h1,h=>by
  simp only[List.all_cons,Bool.and_eq_true] at h1;obtain⟨u,k1,k2⟩:=h 0 c rfl;rw[add_zero] at k1;simp only[gD];refine⟨⟨u,k1,hF _,k2⟩,h1.1,H8 hF cs _ h1.2 fun i d hi=>?_⟩;obtain⟨v,m1,m2⟩:=h (i+1) d WA;refine⟨v,?_,m2⟩;rw[add_add,Nat.add_comm];exact m1
theorem Kq {α:Type}(f:α→CV)(h:∀ x,one (f x)=true)(l:List α):(l.map f).all one=true:=by
 rw[List.all_eq_true];intro x hx;obtain⟨y,_,rfl⟩:=List.mem_map.1 hx;exact h y
theorem JA {F:Nat→Prop}(cs:List CV)(h:cs=[]):cq w F (.aA cs 0) (.slice none 0 0):=by
 subst h;simp only[cq];exact⟨none,0,rfl,Nat.le_refl _,Nat.zero_le _,.inl ⟨trivial,by simp⟩⟩
theorem wR {F:Nat→Prop}(hF:∀ b,¬ F b){t e:TypeId}{r:Reach}{b0:Nat}{v:Value}{d:DataW H}{ps:List MemPlace}(ht:P.underlying t=some (.slice e))(he:P.underlying e=some (.int .i64))(hc:P.cellsOf e=1)
  (Q6:Value.okWide P w r b0 t v) (h:DataW.Trod enc P w 0 (fun _=>true) true t v d ps):∃ l:List Int,cq w F (ints l) v∧l.length≤9223372036854775807:=by
 obtain⟨a,n,cap,rfl⟩:=okWide_slice ht Q6;obtain⟨fuel,hf⟩:=h;rcases open_ints ht he hc hf with ⟨PE,_⟩ | ⟨a',len,cap',zs,PE,_,hl,hm,hz,_,QH,_⟩
 ·simp[Value.cells] at PE;obtain⟨rfl,rfl,rfl⟩:=PE;exact⟨[],JA _ rfl,by simp⟩
 ·simp[Value.cells] at PE;obtain⟨rfl,rfl,rfl⟩:=PE;simp only[if_true] at hz;have hlen:(zs.take n).length=n:=by simp;omega
  refine⟨zs.take n,?_,by rw[hlen];simp only[maxLen] at hm;omega⟩;unfold ints;rw[hlen];simp only[cq];refine⟨_,cap,rfl,hl,hm,.inr ⟨a',rfl,H8 hF _ _ (Kq _ (fun _=>rfl) _) fun i c hi=>?_⟩⟩;rw[List.getElem?_map] at hi;obtain⟨z,SZ,rfl⟩:=Option.map_eq_some_iff.1 hi;rw[List.getElem?_take] at SZ;split at SZ
  ·rename_i Pj;have O1:i<zs.length:=by omega
   refine⟨_,QH i O1,?_⟩;have:zs.getD i 0=z:=by simp[List.getD,SZ]
   rw[this];simp[cq]
  ·cases SZ
theorem af.calls {f:FuncId}{args:List CV}{b:Bool}(h:af P f args (.bool b)){vs:List Value}(hv:bW w (fun _=>False) args vs):Calls P f vs.toArray w fun e w'=>e=.returned (.bool b)∧Below w.heap.size w w':=
 (h.2 (fun _=>False) vs w (fun _ hb=>hb.elim) hv).mono fun e w' ⟨v,h1,h2,h3⟩=>by
  simp only[cq] at h3;subst h3;exact⟨h1,h2⟩
end
end Go.Can
/- Arguments as the contracts read them: a slice of structs of four integers. No function of the program is mentioned here. -/
namespace Go.Can
open Go.ChangeShapes Go.WideShapes Go.ChangeAt Go.RowKit
section
variable {P:Program}{H:Type}{enc:TypeId×Value→H}{w:World}
def q4 (e:Int×Int×Int×Int):List CV:=[.int .i64 e.1,.int .i64 e.2.1,.int .i64 e.2.2.1,.int .i64 e.2.2.2]
end
end Go.Can
namespace Go.aP
open Go.Can
inductive Ex where
 | zero
 | num (n:Nat)
 | nm (s:ByteArray)
 | un (k:Nat) (e:Ex)
 | bin (k:Nat) (a b:Ex)
 | loc (i:Nat)
 | ke (i:Nat)
abbrev I (n:Int):CV:=.int .i64 n
def eS:ByteArray:=⟨#[]⟩
def bR:Ex→List CV
 | .zero=>[I 0,I 0,.str eS,.aA [] 0]
 | .num n=>[I 1,I n,.str eS,.aA [] 0]
 | .nm s=>[I 2,I 0,.str s,.aA [] 0]
 | .un k e=>[I (3+k),I 0,.str eS,.aA (bR e) 1]
 | .bin k a b=>[I (5+k),I 0,.str eS,.aA (bR a++bR b) 2]
 | .loc i=>[I 18,I i,.str eS,.aA [] 0]
 | .ke i=>[I 19,I i,.str eS,.aA [] 0]
theorem bP (e:Ex):(bR e).length=4:=by cases e<;>rfl
def Ex.op:Ex→Int
 | .zero=>0
 | .num _=>1
 | .nm _=>2
 | .un k _=>3+k
 | .bin k _ _=>5+k
 | .loc _=>18
 | .ke _=>19
def Ex.n:Ex→Int
 | .num n=>n
 | .loc i=>i
 | .ke i=>i
 | _=>0
def Ex.name:Ex→ByteArray
 | .nm s=>s
 | _=>eS
def Ex.args:Ex→List Ex
 | .un _ e=>[e]
 | .bin _ a b=>[a,b]
 | _=>[]
theorem b9 (e:Ex):bR e=[I e.op,I e.n,.str e.name,.aA (e.args.flatMap bR) e.args.length]:=by
 cases e<;>simp[bR,Ex.op,Ex.n,Ex.name,Ex.args]
structure Rf where
 name:ByteArray
 index:Option Ex
def pv:Option Ex→CV
 | none=>.aA [] 0
 | some e=>.aA (bR e) 1
def kY (r:Rf):List CV:=[.str r.name,pv r.index]
def k8:List CV:=[.str eS,.aA [] 0]
inductive Ar where
 | vm (r:Rf)
 | exp (e:Ex)
def pe:Ar→List CV
 | .vm r=>.bool true::kY r++bR .zero
 | .exp e=>.bool false::k8++bR e
inductive Sm where
 | g6 (name:ByteArray) (e:Ex)
 | iD (name:ByteArray) (e:Ex)
 | ef (go:Bool) (name:ByteArray) (args:List Ar)
 | dA (un:Bool) (r:Rf)
 | lE (e:Ex) (th el:List Sm)
 | cJ (e:Ex) (th:List Sm)
 | jF
mutual
def ik:Sm→List CV
 | .g6 s e=>[I 1,.str s]++bR e++k8++[.aA [] 0,.aA [] 0,.aA [] 0]
 | .iD s e=>[I 2,.str s]++bR e++k8++[.aA [] 0,.aA [] 0,.aA [] 0]
 | .ef g s l=>[I (if g then 4 else 3),.str s]++bR .zero++k8++[.aA (l.flatMap pe) l.length,.aA [] 0,.aA [] 0]
 | .dA u r=>[I (if u then 6 else 5),.str eS]++bR .zero++kY r++[.aA [] 0,.aA [] 0,.aA [] 0]
 | .lE e th el=>[I 7,.str eS]++bR e++k8++[.aA [] 0,.aA (bx th) th.length,.aA (bx el) el.length]
 | .cJ e th=>[I 8,.str eS]++bR e++k8++[.aA [] 0,.aA (bx th) th.length,.aA [] 0]
 | .jF=>[I 9,.str eS]++bR .zero++k8++[.aA [] 0,.aA [] 0,.aA [] 0]
def bx:List Sm→List CV
 | []=>[]
 | s::r=>ik s++bx r
end
theorem oE:∀ l:List Sm,bx l=l.flatMap ik
 | []=>rfl
 | s::r=>by rw[bx,oE r,List.flatMap_cons]
theorem kE (s:Sm):(ik s).length=11:=by
 cases s<;>simp[ik,bP,k8,kY]
structure Pm where
 name:ByteArray
 mutex:Bool
def lh (p:Pm):List CV:=[.str p.name,.bool p.mutex]
structure Gl where
 name:ByteArray
 init:Int
def px (g:Gl):List CV:=[.str g.name,I g.init]
structure Mx where
 name:ByteArray
 re:Bool
 size:Nat
def eJ (m:Mx):List CV:=[.str m.name,.bool m.re,I m.size]
structure Fu where
 name:ByteArray
 params:List Pm
 body:List Sm
def fq (f:Fu):List CV:=[.str f.name,.aA (f.params.flatMap lh) f.params.length,.aA (bx f.body) f.body.length]
structure Pg where
 gs:List Gl
 ms:List Mx
 fs:List Fu
def eH (p:Pg):List CV:=[.aA (p.gs.flatMap px) p.gs.length,.aA (p.ms.flatMap eJ) p.ms.length,.aA (p.fs.flatMap fq) p.fs.length]
def xJ (p:Pg):CV:=.agg (eH p)
structure Pl where
 param:Bool
 index:Nat
 at_:Option Ex
def pN (p:Pl):List CV:=[.bool p.param,I p.index,pv p.at_]
def sQ:List CV:=[.bool false,I 0,.aA [] 0]
inductive In where
 | set (t:Nat) (g:Bool) (e:Ex)
 | call (go:Bool) (t:Nat) (ints:List Ex) (places:List Pl)
 | lock (un:Bool) (p:Pl)
 | branch (t:Nat) (e:Ex)
 | jump (t:Nat)
 | ret
def dt:In→List CV
 | .set t g e=>[I 1,I t,.bool g]++bR e++sQ++[.aA [] 0,.aA [] 0]
 | .call g t l ps=>[I (if g then 3 else 2),I t,.bool false]++bR .zero++sQ++[.aA (l.flatMap bR) l.length,.aA (ps.flatMap pN) ps.length]
 | .lock u p=>[I (if u then 5 else 4),I 0,.bool false]++bR .zero++pN p++[.aA [] 0,.aA [] 0]
 | .branch t e=>[I 6,I t,.bool false]++bR e++sQ++[.aA [] 0,.aA [] 0]
 | .jump t=>[I 7,I t,.bool false]++bR .zero++sQ++[.aA [] 0,.aA [] 0]
 | .ret=>[I 8,I 0,.bool false]++bR .zero++sQ++[.aA [] 0,.aA [] 0]
theorem eK (x:In):(dt x).length=12:=by
 cases x<;>simp[dt,bP,sQ,pN]
structure Pr where
 name:ByteArray
 ints:Nat
 bH:Nat
 locals:Nat
 code:List In
def lF (p:Pr):List CV:=[.str p.name,I p.ints,I p.bH,I p.locals,.aA (p.code.flatMap dt) p.code.length]
structure Un where
 gs:List Int
 ms:List Mx
 ps:List Pr
 main:Nat
def bY (u:Un):List CV:=[ints u.gs,.aA (u.ms.flatMap eJ) u.ms.length,.aA (u.ps.flatMap lF) u.ps.length,I u.main]
def df (u:Un):CV:=.agg (bY u)
structure Is where
 proc:Nat
 bH:List Nat
def az (l:List Nat):CV:=.aA (l.map fun n:Nat=>I n) l.length
def cO (i:Is):List CV:=[I i.proc,az i.bH]
structure Cl where
 is:List Is
 calls:List (List Int)
 roots:List Nat
def cN (c:Cl):List CV:=[.aA (c.is.flatMap cO) c.is.length,.aA (c.calls.map ints) c.calls.length,az c.roots]
def eQ (c:Cl):CV:=.agg (cN c)
end Go.aP
namespace Go.Can
open Go.RowKit
section
variable {P:Program}{C:Cx}{σ:Nat→Option OB}{s:St}{a:Act}{w:World}{ops:Array Oper}{ak:List (Nat×TI)}
theorem I8 (e:List (Nat×CV))(H:List (Nat×Ob))(n m:Nat)(r:ResultVar):pz ak ⟨e,H,n⟩ r=pz ak ⟨e,H,m⟩ r:=by
 have h:∀ c,fJ ⟨e,H,n⟩ c=fJ ⟨e,H,m⟩ c:=fun c=>sS (s:=⟨e,H,n⟩) (s':=⟨e,H,m⟩) rfl c
 cases r with
 | tmp t=>rfl
 | cell x t=>simp only[pz,h]
theorem BC (e:List (Nat×CV))(H:List (Nat×Ob))(n m:Nat):∀ rs:List ResultVar,kP ak ⟨e,H,n⟩ rs=kP ak ⟨e,H,m⟩ rs
 | []=>rfl
 | r::rs=>by
  simp only[kP];rw[I8 e H n m r,BC e H n m rs]
theorem BA (fn:Func)(e:List (Nat×CV))(H:List (Nat×Ob))(n m:Nat):bG ak fn ⟨e,H,n⟩=bG ak fn ⟨e,H,m⟩:=by
 simp only[bG];rw[BC e H n m]
def below (σ:Nat→Option OB)(n:Nat)(σ':Nat→Option OB):Nat→Option OB:=fun o=>if o<n then σ o else σ' o
theorem gC {σ σ':Nat→Option OB}{n o:Nat}(h:o<n):below σ n σ' o=σ o:=if_pos h
theorem km {σ σ':Nat→Option OB}{n o:Nat}(h:n≤o):below σ n σ' o=σ' o:=if_neg yA
theorem aM.Lm {C C':Cx}{σ σ':Nat→Option OB}{e:List (Nat×CV)}{H:List (Nat×Ob)}{n n':Nat}(h:aM C σ ⟨e,H,n⟩ a w)
  (h1:C'.w0=C.w0) (h2:C'.F=C.F) (h3:C'.own=C.own) (h4:C'.nt=C.nt)
  (he:∀ t c o,assoc e t=some c→aL o c=false→σ' o=σ o) (hH:∀ p ob o,assoc H p=some ob→dK o ob.cells=false→σ' o=σ o) (hk:∀ p ob,assoc H p=some ob→σ' p=σ p)
  (Qa:∀ o,n'≤o→σ' o=none) (hold:∀ o,o<C'.n0→σ' o=C'.σ0 o) (R8:C'.n0≤n') (P1:∀ o B b,C'.n0≤o→σ' o=some B→B.kj=some b→C'.own b∨C'.w0.heap.size≤b) :
  aM C' σ' ⟨e,H,n'⟩ a w:=by
 have hb:∀ p ob,assoc H p=some ob→aY σ' p=aY σ p:=fun p ob hp=>by unfold aY;rw[hk p ob hp]
 have Um:∀ b,FB C' σ' H b↔FB C σ H b:=fun b=>by
  unfold FB;rw[h2];constructor
  ·rintro (h | ⟨o,ob,ho,hx⟩)
   ·exact .inl h
   ·exact .inr ⟨o,ob,ho,by rw[← hb o ob ho];exact hx⟩
  ·rintro (h | ⟨o,ob,ho,hx⟩)
   ·exact .inl h
   ·exact .inr ⟨o,ob,ho,by rw[hb o ob ho];exact hx⟩
 have hK:cw w w (FB C σ H) (FB C' σ' H):=cw.same fun b hx=>(Um b).1 hx;refine⟨h.nk,by rw[h4];exact h.tm,by rw[h1];exact h.os,by rw[h1];exact h.tape,by rw[h1];exact h.output,by rw[h1];exact h.size,by rw[h1,h3];exact h.frame,?_,?_,?_,Qa,hold,R8,P1⟩
 ·intro t c hc;obtain⟨v,k1,k2⟩:=h.env t c hc;exact⟨v,k1,VR.bk hK _ _ (fun o ho=>he t c o hc ho) k2⟩
 ·intro o ob ho;obtain⟨B,m1,m2,m3,m4,m5⟩:=h.obj o ob ho;refine⟨B,by rw[hk o ob ho];exact m1,m2,m3,m4,fun b V3=>?_⟩;obtain⟨cur,n1,n2,n3,n4,n5,n6⟩:=m5 b V3;refine⟨cur,n1,n2,by rw[h2];exact n3,by rw[h1,h3];exact n4,n5,?_⟩;exact aS.bk hK _ _ (fun p hp=>hH o ob p ho hp) n6
 ·intro o o' ob Pk b ho Py hx QG;rw[hb o ob ho] at hx;rw[hb o' Pk Py] at QG;exact h.inj o o' ob Pk b ho Py hx QG
def dc (n:Nat):List (Nat×Ob)→Bool
 | []=>true
 | (k,ob)::r=>decide (k<n) && aX n ob.cells && dc n r
theorem iL {n:Nat}:∀ {H:List (Nat×Ob)},dc n H=true→∀ p ob,assoc H p=some ob→p<n∧aX n ob.cells=true
 | [],_,p,ob,h=>by simp[assoc] at h
 | (k,x)::r,h,p,ob,hp=>by
  simp only[dc,Bool.and_eq_true,decide_eq_true_eq] at h;simp only[assoc] at hp;split at hp
  ·rename_i e;cases hp;subst e;exact h.1
  ·exact iL h.2 p ob hp
theorem Body.lift {f:FuncId}{args:List CV}{H:List (Nat×Ob)}{n n':Nat}{R:CV→St→Prop}(h:Body P ak f args H n R)(hn:n≤n')(ha:aX n args=true)(hH:dc n H=true)(hR:∀ r s,R r s→s.nx=n) :
  Body P ak f args H n' fun r s=>∃ s1,R r s1∧s=⟨s1.env,s1.heap,n'⟩:=by
 obtain⟨fn,c,hf,hb,P2,hl,hT⟩:=h;refine⟨fn,c,hf,hb,P2,hl,fun C' hC O0 a w ⟨σ,hr⟩=>?_⟩;have O4:∀ (t:Nat) c o,assoc (enter args).env t=some c→aL o c=false→o<n:=fun t c o hc ho=>by
  obtain⟨_,h2⟩:=fw args 0 t c hc;have hm:c∈args:=List.mem_of_getElem? h2;rw[cB,List.all_eq_true] at ha;exact lM n c o (ha c hm) ho
 have h0:aM ⟨C'.w0,C'.F,C'.own,C'.hF,C'.nt,below σ n (fun _=>none),n⟩ (below σ n (fun _=>none)) ⟨(enter args).env,H,n⟩ a w:=
  hr.Lm rfl rfl rfl rfl (fun t c o hc ho=>gC (O4 t c o hc ho)) (fun p ob o hp ho=>gC (eX n _ o (iL hH p ob hp).2 ho)) (fun p ob hp=>gC (iL hH p ob hp).1)
   (fun o ho=>km ho) (fun _ _=>rfl) (Nat.le_refl _) (fun o B b ho hB _=>by rw[km ho] at hB;cases hB)
 refine wp_mono (hT ⟨C'.w0,C'.F,C'.own,C'.hF,C'.nt,below σ n (fun _=>none),n⟩ hC rfl a w ⟨_,h0⟩) fun e a' w' ⟨s1,q,σ1,PQ⟩=>?_;have fin:ae ⟨C'.w0,C'.F,C'.own,C'.hF,C'.nt,below σ n (fun _=>none),n⟩ (fun s'=>∃ r,bG ak fn s'=some r∧R r s') s1 →
   ∃ s',ae C' (fun s'=>∃ r,bG ak fn s'=some r∧∃ s1,R r s1∧s'=⟨s1.env,s1.heap,n'⟩) s'∧Rel C' s' a' w':=fun⟨s2,⟨r,q1,q2⟩,hle⟩=>by
  obtain⟨σ2,Px⟩:=hle _ _ ⟨σ1,PQ⟩;have SD:=hR r s2 q2;obtain⟨e2,H2,n2⟩:=s2;simp only at SD;subst SD;have O1:∀ o B,σ2 o=some B→o<n2:=fun o B hB=>Nat.lt_of_not_le fun hle=>by rw[Px.nx o hle] at hB;cases hB
  refine⟨⟨e2,H2,n'⟩,ae.here ⟨r,(BA fn e2 H2 n' n2).trans q1,_,q2,rfl⟩,below σ2 n2 σ,?_⟩;refine Px.Lm rfl rfl rfl rfl (fun t c o hc ho=>?_) (fun p ob o hp ho=>?_) (fun p ob hp=>?_) (fun o ho=>?_) (fun o ho=>?_) (by rw[O0];exact Nat.le_refl _) (fun o B b ho hB _=>?_)
  ·obtain⟨v,_,k2⟩:=Px.env t c hc;obtain⟨B,hB⟩:=VR.refs _ _ o k2 ho;exact gC (O1 o B hB)
  ·obtain⟨B,m1,_,m3,_,m5⟩:=Px.obj p ob hp
   cases V3:B.kj with
   | none=>
    rw[m3 V3] at ho;simp[dK] at ho
   | some b=>
    obtain⟨cur,_,_,_,_,_,n6⟩:=m5 b V3;obtain⟨B',Q3⟩:=aS.refs _ _ o n6 ho;exact gC (O1 o B' Q3)
  ·obtain⟨B,m1,_⟩:=Px.obj p ob hp;exact gC (O1 p B m1)
  ·rw[km (Nat.le_trans hn ho)];exact hr.nx o ho
  ·rcases Nat.lt_or_ge o n2 with h1 | h1
   ·rw[gC h1,Px.fh o h1];show below σ n2 (fun _=>none) o=_;rw[gC h1];exact hr.fh o ho
   ·rw[km h1];exact hr.fh o ho
  ·rw[O0] at ho;rw[km (Nat.le_trans hn ho),hr.nx o ho] at hB;cases hB
 cases e with
 | normal=>exact fin q
 | ret=>exact fin q
 | exit _=>exact q.elim
 | goto _=>exact q.elim
 | panic _=>exact q.elim
 | outgrown=>exact q.elim
def eg (G:List (Nat×Ob)):List Nat→Option (List (Nat×Ob))
 | []=>some []
 | k::ks=>match assoc G k,eg G ks with
  | some ob,some H=>some ((k,ob)::H)
  | _,_=>none
def dx (G:List (Nat×Ob)):List Nat→List (Nat×Ob)
 | []=>G
 | k::ks=>dx (jD G k) ks
theorem jZ {G:List (Nat×Ob)}:∀ {ks:List Nat} {H:List (Nat×Ob)},eg G ks=some H→(∀ o ob,assoc H o=some ob→o∈ks∧assoc G o=some ob)∧∀ o ob,o∈ks→assoc G o=some ob→assoc H o=some ob
 | [],H,h=>by
  simp only[eg,Option.some.injEq] at h;subst h;exact⟨fun o ob ho=>by simp[assoc] at ho,fun o ob ho=>by simp at ho⟩
 | k::ks,H,h=>by
  simp only[eg] at h;split at h
  ·rename_i ob H' h1 h2;cases h;obtain⟨i1,i2⟩:=jZ h2;refine⟨fun o x ho=>?_,fun o x ho hx=>?_⟩
   ·simp only[assoc] at ho;split at ho
    ·rename_i e;cases ho;subst e;exact⟨List.mem_cons_self,h1⟩
    ·exact⟨List.mem_cons_of_mem _ (i1 o x ho).1,(i1 o x ho).2⟩
   ·simp only[assoc];split
    ·rename_i e;subst e;rw[h1] at hx;exact hx
    ·rename_i e;rcases List.mem_cons.1 ho with h3 | h3
     ·exact (e h3.symm).elim
     ·exact i2 o x h3 hx
  ·cases h
theorem dQ {G:List (Nat×Ob)}:∀ (ks:List Nat) (o:Nat),assoc (dx G ks) o=if o∈ks then none else assoc G o:=by
 intro ks
 induction ks generalizing G with
 | nil=>intro o;simp[dx]
 | cons k ks ih=>
  intro o;rw[dx,ih,fe];by_cases h1:o∈ks
  ·simp[h1]
  ·by_cases h2:o=k
   ·simp[h2]
   ·have:¬ k=o:=fun h=>h2 h.symm;simp[h1,h2,this]
theorem mY.of {G H:List (Nat×Ob)}{ks:List Nat}(h:eg G ks=some H):mY H (dx G ks) G:=by
 obtain⟨h1,h2⟩:=jZ h;refine⟨fun o ob ho=>(h1 o ob ho).2,fun o ob ho=>?_,fun o ob ho=>?_,fun o ob Pk ho Py=>?_⟩
 ·rw[dQ] at ho;split at ho
  ·cases ho
  ·exact ho
 ·by_cases hm:o∈ks
  ·exact .inl (h2 o ob hm ho)
  ·exact .inr (by rw[dQ,if_neg hm];exact ho)
 ·rw[dQ,if_pos (h1 o ob ho).1] at Py;cases Py
def j8 (ks:List Nat)(H:List (Nat×Ob)):Bool:=H.all fun x=>ks.contains x.1
theorem sd {ks:List Nat}{H:List (Nat×Ob)}(h:j8 ks H=true)(o:Nat)(ob:Ob)(ho:assoc H o=some ob):o∈ks:=by
 have:=bD _ _ _ ho;simp only[j8,List.all_eq_true] at h
 simpa using h _ this
theorem TL.Jo (Rp:aG P ak){o:Oper}{l:List Oper}{c:Call}{g:FuncId}{cs:List CV}{K:St→Prop}{R:CV→St→Prop}(ks:List Nat){H:List (Nat×Ob)}(n:Nat)(hd:a6 C.nt o.dst=true)(hg:bZ ops s o=Option.some true)(ho:o.op=.call c)(Ps:bm s c=Option.some (g,cs))
  (hp:eg s.heap ks=Option.some H) (hn:n≤s.nx) (ha:aX n cs=true) (hH:dc n H=true) (hb:Body P ak g cs H n R) (hR:∀ r s1,R r s1→s1.nx=n∧j8 ks s1.heap=true)
  (hK:∀ r s1,R r s1→TL P C ops l (St.put ⟨s.env,s1.heap++dx s.heap ks,s.nx⟩ o.dst r) K):TL P C ops (o::l) s K:=by
 intro a w Q hr hQ;have hw:=eT hr hg;obtain⟨σ,hr⟩:=hr;unfold wpList;rw[if_pos hw];refine .inl ?_;have Ws:iR P g:=by
  obtain⟨fn,code,hf,P7,P2,_⟩:=hb;exact⟨fn,hf,P2,by simp[P7]⟩
 refine oT Rp (mY.of hp) (pf.value ho Ps Ws) (hb.lift hn ha hH fun r s h=>(hR r s h).1) ?_ hr _ _ ?_
 ·rintro r s1 ⟨s2,h1,rfl⟩ p ob Pk h2 h3;have hm:=sd (hR r s2 h1).2 p ob h2;rw[dQ,if_pos hm] at h3;cases h3
 ·rintro r s1 v w' σ' ⟨s2,h1,rfl⟩ Pp hv _;refine hK r s2 h1 _ w' Q ⟨σ',Pp.put ?_ hv⟩ hQ;intro t e;rw[Pp.tm];rw[e] at hd
  simpa [a6] using hd
def l9 (P:Program)(f:FuncId)(args:List CV)(G:CV→Prop):Prop:=
 iR P f∧∀ (F:Nat→Prop) (vs:List Value) (w:World),(∀ b,F b→b<w.heap.size)→bW w F args vs →
  Calls P f vs.toArray w fun e w'=>∃ r v,G r∧e=.returned v∧Below w.heap.size w w'∧cq w' F r v
theorem af.toP {f:FuncId}{args:List CV}{r:CV}{G:CV→Prop}(h:af P f args r)(hG:G r):l9 P f args G:=
 ⟨h.1,fun F vs w hF hv=>(h.2 F vs w hF hv).mono fun _ _ ⟨v,h1,h2,h3⟩=>⟨r,v,hG,h1,h2,h3⟩⟩
theorem l9.mono {f:FuncId}{args:List CV}{G G':CV→Prop}(h:l9 P f args G)(hG:∀ r,G r→G' r):l9 P f args G':=
 ⟨h.1,fun F vs w hF hv=>(h.2 F vs w hF hv).mono fun _ _ ⟨r,v,h0,h1,h2,h3⟩=>⟨r,v,hG r h0,h1,h2,h3⟩⟩
theorem AH {o:Oper}{g:FuncId}{cs:List CV}{G:CV→Prop}(he:pf P C s o g cs)(ht:trees cs=true)(hp:l9 P g cs G)(h:aM C σ s a w)(K:Act→World→Prop)(Q:Exit→Act→World→Prop)
  (hK:∀ r v w',G r→aM C σ s a w'→VR w' (FB C σ s.heap) σ r v→K (a.put o.dst v) w'):o.wp P a w K Q:=by
 obtain⟨vs,Vy,hv⟩:=he σ a w h;unfold Oper.wp;rw[Vy];refine (hp.2 (FB C σ s.heap) vs w (wF h) (aS.ec _ _ ht hv)).mono fun e w' ⟨r,v,h0,h1,h2,h3⟩=>?_;subst h1;exact hK r v w' h0 (h.below h2) (VR.cz _ _ h3)
theorem TL.Jm {o:Oper}{l:List Oper}{c:Call}{g:FuncId}{cs:List CV}{K:St→Prop}{G:CV→Prop}(hd:a6 C.nt o.dst=true)(hg:bZ ops s o=Option.some true)(ho:o.op=.call c)(Ps:bm s c=Option.some (g,cs))(ht:trees cs=true)(hp:l9 P g cs G)
  (hK:∀ r,G r→TL P C ops l (s.put o.dst r) K):TL P C ops (o::l) s K:=by
 intro a w Q hr hQ;have hw:=eT hr hg;obtain⟨σ,hr⟩:=hr;unfold wpList;rw[if_pos hw];refine .inl (AH (pf.value ho Ps hp.1) ht hp hr _ _ fun r v w' h0 Pp hv=>hK r h0 _ w' Q ⟨σ,Pp.put ?_ hv⟩ hQ);intro t e;rw[Pp.tm];rw[e] at hd
 simpa [a6] using hd
def doneG (C:Cx)(ak:List (Nat×TI))(f:Func)(G:CV→Prop):Exit→St→Prop
 | .normal,s=>ae C (fun s'=>∃ r,bG ak f s'=some r∧tree r=true∧G r) s
 | .ret,s=>ae C (fun s'=>∃ r,bG ak f s'=some r∧tree r=true∧G r) s
 | _,_=>False
theorem l9.jA (Rp : aG P ak) {f : FuncId} {fn : Func} {c : Code} {args : List CV} {G : CV → Prop} (hf : P.funcs[f]? = some fn) (hb : fn.body = some c) (hn : (fn.name == "runtime.NumGoroutine") = false)
  (ha:args.length≤fn.ntmps) (h:∀ C:Cx,C.nt=fn.ntmps→C.n0=0→T P C c (enter args) (doneG C ak fn G)):l9 P f args G:=by
 refine⟨⟨fn,hf,hn,by simp[hb]⟩,fun F vs w hF hv=>?_⟩;have hl:=bW.length _ _ hv;have h0:aM ⟨w,F,fun _=>False,hF,fn.ntmps,fun _=>none,0⟩ (fun _=>none) (enter args) { tmps:=vs.toArray++Array.replicate (fn.ntmps-vs.toArray.size) undef,defers:=[] } w:=by
  refine⟨rfl,by simp;omega,rfl,rfl,rfl,Nat.le_refl _,fun _ _ _=>rfl,?_,?_,?_,fun _ _=>rfl,fun _ h=>absurd h (Nat.not_lt_zero _),Nat.zero_le _,fun _ _ _ _ h=>by cases h⟩
  ·intro t c hc;obtain⟨_,h2⟩:=fw args 0 t c hc;obtain⟨v,h3,h4⟩:=bW.get _ _ hv t c (by simpa using h2);refine⟨v,?_,VR.cz _ _ (cq.bk (cw.same fun b hb=>?_).1 c v h4)⟩
   ·have O1:=(List.getElem?_eq_some_iff.1 h3).1;simp only;rw[Array.getElem?_append_left (by simpa using O1)]
    simpa using h3
   ·rcases hb with hF | ⟨o,ob,ho,_⟩
    ·exact hF
    ·simp[enter,assoc] at ho
  ·intro o ob ho;simp[enter,assoc] at ho
  ·intro o o' ob Pk b ho;simp[enter,assoc] at ho
 refine calls_of_wp hf hb (wp_mono (h _ rfl rfl _ _ ⟨_,h0⟩) fun e a' w' ⟨s1,q,σ,PQ⟩=>?_);have fin:ae ⟨w,F,fun _=>False,hF,fn.ntmps,fun _=>none,0⟩ (fun s'=>∃ r,bG ak fn s'=some r∧tree r=true∧G r) s1→a'.defers=[]∧∃ v,(results fn a'.tmps).run P w'=.ok v w'∧(∃ r Sr,G r∧Ending.returned v=.returned Sr∧Below w.heap.size w w'∧cq w' F r Sr):=fun⟨s',⟨r,hq,ht,hG⟩,hle⟩=>by
  obtain⟨σ',hr⟩:=hle _ _ ⟨σ,PQ⟩;obtain⟨v,k1,k2⟩:=gW (P:=P) Rp hr hq;refine⟨hr.nk,v,k1,r,v,hG,rfl,⟨hr.os,hr.tape,hr.output,hr.size,fun k hk=>hr.frame k hk (fun hx=>hx)⟩,?_⟩;exact cq.bk (cw.same fun _ hF=>.inl hF).1 _ _ (VR.ec _ _ ht k2)
 cases e with
 | normal=>exact fin q
 | ret=>exact fin q
 | exit _=>exact q.elim
 | goto _=>exact q.elim
 | panic _=>exact q.elim
 | outgrown=>exact q.elim
def nz:CV→CV
 | .aa=>.aA [] 0
 | c=>c
def wU:CV→CV
 | .aa=>.aA [] 0
 | .agg cs=>.agg (cs.map nz)
 | c=>c
theorem VR.nz {F:Nat→Prop}{c:CV}{v:Value}(h:VR w F σ c v):VR w F σ (nz c) v:=by
 cases c<;>try exact h
 simp only[VR] at h;subst h;simp only[Can.nz,VR,cq];exact⟨none,0,rfl,Nat.le_refl _,Nat.zero_le _,.inl ⟨trivial,trivial⟩⟩
theorem aS.nz {F:Nat→Prop}:∀ {cs:List CV} {vs:List Value},aS w F σ cs vs→aS w F σ (cs.map Can.nz) vs
 | [],_,h=>h
 | _c::_cs,_,⟨v,r,e,h1,h2⟩=>⟨v,r,e,VR.nz h1,aS.nz h2⟩
theorem MU (c:CV):one (nz c)=one c:=by cases c<;>rfl
theorem wz (cs:List CV):(cs.map nz).all one=cs.all one:=by
 induction cs with
 | nil=>rfl
 | cons c cs ih=>simp only[List.map_cons,List.all_cons,MU,ih]
theorem VR.wU {F:Nat→Prop}{c:CV}{v:Value}(h:VR w F σ c v):VR w F σ (wU c) v:=by
 cases c<;>try exact h
 ·simp only[VR] at h;obtain⟨vs,h1,h2,h3⟩:=h;simp only[Can.wU,VR];exact⟨vs,h1,aS.nz h2,by rw[wz];exact h3⟩
 ·exact VR.nz h
def Gr (ts:List Nat):List (Nat×CV)→List (Nat×CV)
 | []=>[]
 | (k,c)::r=>(k,if ts.contains k then wU c else c)::Gr ts r
def AR (os:List Nat):List (Nat×Ob)→List (Nat×Ob)
 | []=>[]
 | (k,ob)::r=>(k,if os.contains k then ⟨ob.elem,ob.sz,ob.cells.map nz⟩ else ob)::AR os r
theorem xN (ts:List Nat):∀ (e:List (Nat×CV)) (t:Nat) (c:CV),assoc (Gr ts e) t=some c→∃ d,assoc e t=some d∧(c=d∨c=wU d)
 | [],t,c,h=>by simp[Gr,assoc] at h
 | (k,d)::r,t,c,h=>by
  simp only[Gr,assoc] at h ⊢;split at h
  ·rename_i e;rw[if_pos e];cases h;refine⟨d,rfl,?_⟩;split
   ·exact .inr rfl
   ·exact .inl rfl
  ·rename_i e;rw[if_neg e];exact xN ts r t c h
theorem er (os:List Nat):∀ (H:List (Nat×Ob)) (o:Nat),assoc (AR os H) o=(assoc H o).map fun ob=>if os.contains o then ⟨ob.elem,ob.sz,ob.cells.map nz⟩ else ob
 | [],o=>by simp[AR,assoc]
 | (k,x)::r,o=>by
  simp only[AR,assoc];split
  ·rename_i e;subst e;rfl
  ·exact er os r o
theorem Le.nz (ts os:List Nat):Le C s ⟨Gr ts s.env,AR os s.heap,s.nx⟩:=by
 intro a w ⟨σ,h⟩;have TZ:∀ b,FB C σ (AR os s.heap) b↔FB C σ s.heap b:=fun b=>by
  unfold FB;constructor
  ·rintro (h | ⟨o,ob,ho,hb⟩)
   ·exact .inl h
   ·rw[er] at ho;obtain⟨x,hx,_⟩:=Option.map_eq_some_iff.1 ho;exact .inr ⟨o,x,hx,hb⟩
  ·rintro (h | ⟨o,ob,ho,hb⟩)
   ·exact .inl h
   ·exact .inr ⟨o,_,by rw[er,ho];rfl,hb⟩
 have hK:cw w w (FB C σ s.heap) (FB C σ (AR os s.heap)):=cw.same fun b hx=>(TZ b).1 hx;refine⟨σ,h.nk,h.tm,h.os,h.tape,h.output,h.size,h.frame,?_,?_,?_,h.nx,h.fh,h.low,h.new⟩
 ·intro t c hc;obtain⟨d,hd,Vv⟩:=xN ts s.env t c hc;obtain⟨v,k1,k2⟩:=h.env t d hd;refine⟨v,k1,VR.bk hK _ _ (fun _ _=>rfl) ?_⟩;rcases Vv with rfl | rfl
  ·exact k2
  ·exact VR.wU k2
 ·intro o ob ho;simp only[er] at ho;obtain⟨x,hx,hxo⟩:=Option.map_eq_some_iff.1 ho;obtain⟨B,m1,m2,m3,m4,m5⟩:=h.obj o x hx;split at hxo
  ·subst hxo;refine⟨B,m1,m2,fun hb=>by simp[m3 hb],by simp only[wz];exact m4,fun b hb=>?_⟩;obtain⟨cur,n1,n2,n3,n4,n5,n6⟩:=m5 b hb;refine⟨cur,n1,n2,n3,n4,by simpa using n5,?_⟩;simp only[List.length_map];exact aS.bk hK _ _ (fun _ _=>rfl) (aS.nz n6)
  ·subst hxo;refine⟨B,m1,m2,m3,m4,fun b hb=>?_⟩;obtain⟨cur,n1,n2,n3,n4,n5,n6⟩:=m5 b hb;exact⟨cur,n1,n2,n3,n4,n5,aS.bk hK _ _ (fun _ _=>rfl) n6⟩
 ·intro o o' ob Pk b ho Py hx QG;simp only[er] at ho Py;obtain⟨x,h1,_⟩:=Option.map_eq_some_iff.1 ho;obtain⟨y,h2,_⟩:=Option.map_eq_some_iff.1 Py;exact h.inj o o' x y b h1 h2 hx QG
@[simp] theorem nz_int (k:IntKind)(n:Int):nz (.int k n)=(.int k n):=rfl
@[simp] theorem nzA_int (k:IntKind)(n:Int):wU (.int k n)=(.int k n):=rfl
@[simp] theorem nz_bool (b:Bool):nz (.bool b)=(.bool b):=rfl
@[simp] theorem nzA_bool (b:Bool):wU (.bool b)=(.bool b):=rfl
@[simp] theorem nz_str (s:ByteArray):nz (.str s)=(.str s):=rfl
@[simp] theorem nzA_str (s:ByteArray):wU (.str s)=(.str s):=rfl
@[simp] theorem nz_agg (cs:List CV):nz (.agg cs)=(.agg cs):=rfl
@[simp] theorem nzA_agg (cs:List CV):wU (.agg cs)=.agg (cs.map nz):=rfl
@[simp] theorem nz_tsl (cs:List CV)(n:Nat):nz (.aA cs n)=(.aA cs n):=rfl
@[simp] theorem nzA_tsl (cs:List CV)(n:Nat):wU (.aA cs n)=(.aA cs n):=rfl
@[simp] theorem nz_nilsl:nz .aa=.aA [] 0:=rfl
@[simp] theorem Oo:wU .aa=.aA [] 0:=rfl
@[simp] theorem nz_tptr (cs:List CV):nz (.cG cs)=(.cG cs):=rfl
@[simp] theorem nzA_tptr (cs:List CV):wU (.cG cs)=(.cG cs):=rfl
@[simp] theorem On:nz .bL=.bL:=rfl
@[simp] theorem M4:wU .bL=.bL:=rfl
@[simp] theorem nz_fn (f:FuncId)(cs:List CV):nz (.fn f cs)=(.fn f cs):=rfl
@[simp] theorem nzA_fn (f:FuncId)(cs:List CV):wU (.fn f cs)=(.fn f cs):=rfl
@[simp] theorem nz_nilfn:nz .cA=.cA:=rfl
@[simp] theorem Oq:wU .cA=.cA:=rfl
@[simp] theorem nz_iface (t:TypeId)(cs:List CV):nz (.iface t cs)=(.iface t cs):=rfl
@[simp] theorem Ot (t:TypeId)(cs:List CV):wU (.iface t cs)=(.iface t cs):=rfl
@[simp] theorem nz_tup (cs:List CV):nz (.dS cs)=(.dS cs):=rfl
@[simp] theorem nzA_tup (cs:List CV):wU (.dS cs)=(.dS cs):=rfl
@[simp] theorem nz_osl (p f n:Nat):nz (.bl p f n)=(.bl p f n):=rfl
@[simp] theorem nzA_osl (p f n:Nat):wU (.bl p f n)=(.bl p f n):=rfl
@[simp] theorem nz_optr (p f:Nat):nz (.ax p f)=(.ax p f):=rfl
@[simp] theorem nzA_optr (p f:Nat):wU (.ax p f)=(.ax p f):=rfl
@[simp] theorem nz_any:nz .any=.any:=rfl
@[simp] theorem nzA_any:wU .any=.any:=rfl
attribute [simp] Gr AR eg dx dc j8
end
end Go.Can
