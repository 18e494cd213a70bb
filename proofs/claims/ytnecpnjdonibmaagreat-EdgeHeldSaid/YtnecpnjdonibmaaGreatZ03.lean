/- The value of an operation that turns nothing in memory ('qva -/
import Derived.Test.YtnecpnjdonibmaaGreatZ02
import Derived.Maps.AppendAt
namespace Go.Can
open Go.RowKit
def vU (d:Option TD)(p q:CV):Option Bool:=
 match d,q with
 | some (.sl _),.aa=>match p with
  | .aa=>some true
  | .aA _ n=>if n=0 then none else some false
  | .bl _ _ n=>if n=0 then none else some false
  | _=>none
 | some (.ptr _),.bL=>match p with
  | .bL=>some true
  | .cG _=>some false
  | .ax _ _=>some false
  | _=>none
 | some .func,.cA=>match p with
  | .cA=>some true
  | .fn _ _=>some false
  | _=>none
 | _,_=>none
def EM (ak:List (Nat×TI))(op:BinOp)(t:TypeId)(p q:CV):Option CV:=
 match p,q with
 | .int _ _,.int _ _=>C7 op .MR p q
 | .str _,.str _=>C7 op .MR p q
 | .bool _,.bool _=>match dE ak t with
  | some d=>C7 op d p q
  | none=>none
 | _,_=>match op with
  | .eql=>(vU (dE ak t) p q).map CV.bool
  | .neq=>(vU (dE ak t) p q).map fun b=>CV.bool (!b)
  | _=>none
def cun (op:UnOp)(p:CV):Option CV:=
 match op,p with
 | .not,.bool b=>some (.bool (!b))
 | .neg,.int k n=>some (.int k (k.wrap (0-n)))
 | _,_=>none
def ig (ak:List (Nat×TI))(s:St)(b:Builtin)(args:List Operand)(ts:List TypeId):Option CV:=
 match b with
 | .len=>match args,ts with
  | [x],[t]=>match ev s x with
   | some c=>K4 ak t c
   | none=>none
  | _,_=>none
 | .min=>match z8 s args with
  | some (.int k x::r)=>lA Nh k x r
  | _=>none
 | .max=>match z8 s args with
  | some (.int k x::r)=>lA imax k x r
  | _=>none
 | _=>none
def cY (ak:List (Nat×TI))(s:St):Op→Option CV
 | .move x=>ev s x
 | .assign x=>ev s x
 | .pick c x y=>match ev s c with
  | some (.bool b)=>if b then ev s x else ev s y
  | _=>none
 | .binOp op t x y _=>match ev s x,ev s y with
  | some p,some q=>EM ak op t p q
  | _,_=>none
 | .unOp op _ x=>match ev s x with
  | some p=>cun op p
  | none=>none
 | .load t x=>match ev s x,assoc ak t with
  | some c,some i=>match fJ s c with
   | some cs=>mW i cs
   | none=>none
  | _,_=>none
 | .slice t x lo hi none=>match ev s x with
  | some c=>lz ak s t c lo hi
  | none=>none
 | .fieldAddr t x f=>match ev s x with
  | some c=>mF ak t c f
  | none=>none
 | .field t x f=>match ev s x with
  | some c=>zR ak t c f
  | none=>none
 | .indexAddr t x i=>match ev s x,ev s i with
  | some c,some (.int _ n)=>zO ak t c n
  | _,_=>none
 | .index t x i=>match ev s x,ev s i with
  | some c,some (.int _ n)=>uC ak t c n
  | _,_=>none
 | .extract x i=>match ev s x with
  | some (.dS vs)=>vs[i]?
  | _=>none
 | .makeFunc (.func f) first captured=>if first.isEmpty then (z8 s captured.toList).map (CV.fn f) else none
 | .nilCheck x=>match ev s x with
  | some (.ax o p)=>some (.ax o p)
  | some (.cG cs)=>some (.cG cs)
  | some (.fn f cs)=>some (.fn f cs)
  | _=>none
 | .build t parts=>sC ak s t parts.toList
 | .call c=>match c.callee with
  | .builtin b=>ig ak s b c.args.toList c.argTypes.toList
  | _=>none
 | _=>none
section
variable {P:Program}{C:Cx}{σ:Nat→Option OB}{s:St}{a:Act}{w:World}
theorem K9 {F:Nat→Prop}{op:BinOp}{t:TypeId}{p q c:CV}{u v:Value}(hp:VR w F σ p u)(hq:VR w F σ q v)(d:TD)(hd:d=.bool→P.underlying t=some .bool)(hc:C7 op d p q=some c) :
  ∃ x,(binOp op t u v).run P w=.ok x w∧VR w F σ c x:=by
 unfold C7 at hc;split at hc
 ·rename_i k a k' b;simp only[VR] at hp hq;subst hp hq;split at hc
  ·split at hc
   ·cases hc
   ·rename_i hb;cases hc;exact⟨_,by simp[binOp,Op.shift,hb],dM _ _⟩
  ·split at hc
   ·cases hc
   ·rename_i hb;cases hc;exact⟨_,by simp[binOp,Op.shift,hb],dM _ _⟩
  ·rename_i h1 h2;split at hc
   ·rename_i hk;subst hk;exact Jv (fun e=>h1 e) (fun e=>h2 e) hc
   ·cases hc
 ·simp only[VR] at hp hq;subst hp hq;exact He hc
 ·rename_i b b';simp only[VR] at hp hq;subst hp hq;split at hc
  ·cases hc;exact⟨_,run_eql_bool w t b b' (hd rfl),dN _⟩
  ·cases hc;exact⟨_,run_neq_bool w t b b' (hd rfl),dN _⟩
  ·cases hc
 ·cases hc
theorem JT {t e:TypeId}{i:TI}(hT:cu P t i)(hd:i.d=.ptr e):P.underlying t=some (.pointer e):=by
 obtain⟨d,h1,h2⟩:=hT.BV;rw[hd] at h2;cases d<;>simp only[tw] at h2<;>first | cases h2 | skip
 exact h1
theorem G0 {t:TypeId}{i:TI}(hT:cu P t i)(hd:i.d=.func):∃ x y z,P.underlying t=some (.func x y z):=by
 obtain⟨d,h1,h2⟩:=hT.BV;rw[hd] at h2;cases d<;>simp only[tw] at h2<;>first | cases h2 | skip
 exact⟨_,_,_,h1⟩
theorem uX (d:Nat){t e:TypeId}(h:P.underlying t=some (.slice e))(A:Option Addr)(n cap:Nat):(Op.equalIn (d+1) t (.slice A n cap) (.slice none 0 0)).run P w=.ok A.isNone w:=by
 cases A<;>simp[Op.equalIn,bu h]
theorem tz (d:Nat){t e:TypeId}(h:P.underlying t=some (.pointer e))(A:Option Addr):(Op.equalIn (d+1) t (.pointer A) (.pointer none)).run P w=.ok A.isNone w:=by
 cases A<;>simp[Op.equalIn,bu h]
theorem uY (d:Nat){t:TypeId}{x y:Array TypeId}{z:Bool}(h:P.underlying t=some (.func x y z))(f:Fn)(u v:Array Value):(Op.equalIn (d+1) t (.func f u v) .nilFunc).run P w=.ok false w:=by
 simp[Op.equalIn,bu h]
theorem qq (d:Nat){t:TypeId}{x y:Array TypeId}{z:Bool}(h:P.underlying t=some (.func x y z)):(Op.equalIn (d+1) t .nilFunc .nilFunc).run P w=.ok true w:=by
 simp[Op.equalIn,bu h]
theorem yf {ak:List (Nat×TI)}(ht:aG P ak){F:Nat→Prop}{t:TypeId}{p q:CV}{u v:Value}{b:Bool}(hp:VR w F σ p u)(hq:VR w F σ q v)(hc:vU (dE ak t) p q=some b) :
  (Op.equal t u v).run P w=.ok b w∧(∀ cs,u≠.agg cs)∧u≠.nilIface∧
   (∀ k n,u≠.int k n)∧(∀ k n,u≠.float k n)∧(∀ k x y,u≠.complex k x y)∧(∀ x,u≠.string x):=by
 unfold vU at hc;split at hc
 ·rename_i e hd;obtain⟨it,PG,hd⟩:=Option.map_eq_some_iff.1 hd;have hu:=dJ (ht t it PG) hd;simp only[VR] at hq;subst hq;have key:∃ A n cap,u=.slice A n cap∧(A=none↔b=true):=by
   split at hc
   ·cases hc;simp only[VR] at hp;subst hp;exact⟨_,_,_,rfl,by simp⟩
   ·rename_i cs n;split at hc
    ·cases hc
    ·rename_i hn;cases hc;simp only[VR,cq] at hp;obtain⟨A,cap,rfl,_,_,h4⟩:=hp;rcases h4 with ⟨h4,_⟩ | ⟨ad,rfl,_⟩
     ·exact absurd h4 hn
     ·exact⟨_,_,_,rfl,by simp⟩
   ·rename_i o off n;split at hc
    ·cases hc
    ·rename_i hn;cases hc;simp only[VR] at hp;obtain⟨B,_,hp⟩:=hp;split at hp
     ·exact absurd hp.2.2 hn
     ·obtain⟨cap,rfl,_⟩:=hp;exact⟨_,_,_,rfl,by simp⟩
   ·cases hc
  obtain⟨A,n,cap,rfl,hA⟩:=key;refine⟨?_,by simp,by simp,by simp,by simp,by simp,by simp⟩;have e:A.isNone=b:=by
   cases A with
   | none=>simp[hA.1 rfl]
   | some ad=>cases b;rfl;exact absurd (hA.2 rfl) OU
  rw[← e];exact uX 9999 hu A n cap
 ·rename_i e hd;obtain⟨it,PG,hd⟩:=Option.map_eq_some_iff.1 hd;have hu:=JT (ht t it PG) hd;simp only[VR] at hq;subst hq;have key:∃ A,u=.pointer A∧(A=none↔b=true):=by
   split at hc
   ·cases hc;simp only[VR] at hp;subst hp;exact⟨_,rfl,by simp⟩
   ·cases hc;simp only[VR,cq] at hp;obtain⟨ad,rfl,_⟩:=hp;exact⟨_,rfl,by simp⟩
   ·cases hc;simp only[VR] at hp;obtain⟨B,b,_,_,rfl⟩:=hp;exact⟨_,rfl,by simp⟩
   ·cases hc
  obtain⟨A,rfl,hA⟩:=key;refine⟨?_,by simp,by simp,by simp,by simp,by simp,by simp⟩;have e:A.isNone=b:=by
   cases A with
   | none=>simp[hA.1 rfl]
   | some ad=>cases b;rfl;exact absurd (hA.2 rfl) OU
  rw[← e];exact tz 9999 hu A
 ·rename_i hd;obtain⟨it,PG,hd⟩:=Option.map_eq_some_iff.1 hd;obtain⟨x,y,z,hu⟩:=G0 (ht t it PG) hd;simp only[VR] at hq;subst hq;split at hc
  ·cases hc;simp only[VR] at hp;subst hp;refine⟨?_,by simp,by simp,by simp,by simp,by simp,by simp⟩;exact qq 9999 hu
  ·cases hc;simp only[VR] at hp;obtain⟨vs,rfl,_⟩:=hp;refine⟨?_,by simp,by simp,by simp,by simp,by simp,by simp⟩;exact uY 9999 hu _ _ _
  ·cases hc
 ·cases hc
theorem nJ {op:BinOp}{t:TypeId}{x y:Operand}{u v:Value}(h1:∀ cs,u≠.agg cs)(h2:u≠.nilIface):(eqGuard op t x y u v).run P w=.ok () w:=by
 unfold eqGuard;split
 all_goals first
  | (rw[if_pos (by rfl)];rfl)
  | (rw[if_neg OU]
     split
     ·exact absurd rfl h2
     ·exact absurd rfl (h1 _)
     ·rfl)
theorem mT {t:TypeId}{u v:Value}{b:Bool}(he:(Op.equal t u v).run P w=.ok b w)(h1:∀ k n,u≠.int k n)(h2:∀ k n,u≠.float k n)(h3:∀ k x y,u≠.complex k x y)(h4:∀ x,u≠.string x) :
  (binOp .eql t u v).run P w=.ok (.bool b) w∧(binOp .neq t u v).run P w=.ok (.bool (!b)) w:=by
 constructor
 ·unfold binOp;split<;>first | exact absurd rfl (h1 _ _) | exact absurd rfl (h2 _ _) | exact absurd rfl (h3 _ _ _) | exact absurd rfl (h4 _) | (simp_all;done)
 ·unfold binOp;split<;>first | exact absurd rfl (h1 _ _) | exact absurd rfl (h2 _ _) | exact absurd rfl (h3 _ _ _) | exact absurd rfl (h4 _) | (simp_all;done)
theorem y0 {F:Nat→Prop}{p:CV}{u:Value}(hp:VR w F σ p u)(h:∀ cs,p≠.agg cs)(ha:p≠.any)(hi:∀ t cs,p≠.iface t cs):(∀ cs,u≠.agg cs)∧u≠.nilIface:=by
 cases p<;>simp only[VR,cq] at hp
 case agg cs=>exact absurd rfl (h cs)
 case aA=>obtain⟨A,cap,rfl,_⟩:=hp;simp
 case cG=>obtain⟨ad,rfl,_⟩:=hp;simp
 case fn=>obtain⟨vs,rfl,_⟩:=hp;simp
 case iface t cs=>exact absurd rfl (hi t cs)
 case iter=>obtain⟨B,r,_,_,rfl,_⟩:=hp;simp
 case mp=>obtain⟨B,r,arr,clock,_,_,rfl,_⟩:=hp;simp
 case dS=>obtain⟨vs,rfl,_⟩:=hp;simp
 case bl=>
  obtain⟨B,_,hp⟩:=hp;split at hp
  ·obtain⟨rfl,_⟩:=hp;simp
  ·obtain⟨cap,rfl,_⟩:=hp;simp
 case ax=>obtain⟨B,b,_,_,rfl⟩:=hp;simp
 case any=>exact absurd rfl ha
 all_goals (subst hp;simp)
theorem Jl {ak:List (Nat×TI)}(ht:aG P ak){F:Nat→Prop}{op:BinOp}{t:TypeId}{p q c:CV}{u v:Value}(hp:VR w F σ p u)(hq:VR w F σ q v)(hc:EM ak op t p q=some c) :
  ∃ z,(∀ x y,(eqGuard op t x y u v).run P w=.ok () w)∧(binOp op t u v).run P w=.ok z w∧VR w F σ c z:=by
 have fin:∀ (_:∀ cs,p≠.agg cs) (_:p≠.any) (_:∀ t cs,p≠.iface t cs) (d:TD),(d=.bool→P.underlying t=some .bool)→C7 op d p q=some c→∃ z,(∀ x y,(eqGuard op t x y u v).run P w=.ok () w)∧(binOp op t u v).run P w=.ok z w∧VR w F σ c z:=fun hn TS R6 d hd h=>by
  obtain⟨h1,h2⟩:=y0 hp hn TS R6;obtain⟨z,k1,k2⟩:=K9 hp hq d hd h;exact⟨z,fun _ _=>nJ h1 h2,k1,k2⟩
 unfold EM at hc;split at hc
 ·exact fin OU OU OU _ OU hc
 ·exact fin OU OU OU _ OU hc
 ·split at hc
  ·rename_i d hd;obtain⟨it,PG,hd⟩:=Option.map_eq_some_iff.1 hd;exact fin OU OU OU d (fun e=>G1 (ht t it PG) (by rw[hd,e])) hc
  ·cases hc
 ·split at hc
  ·obtain⟨b,hb,rfl⟩:=Option.map_eq_some_iff.1 hc;obtain⟨h1,h3,h4,h5,h6,h7,h8⟩:=yf ht hp hq hb;exact⟨_,fun _ _=>nJ h3 h4,(mT h1 h5 h6 h7 h8).1,dN _⟩
  ·obtain⟨b,hb,rfl⟩:=Option.map_eq_some_iff.1 hc;obtain⟨h1,h3,h4,h5,h6,h7,h8⟩:=yf ht hp hq hb;exact⟨_,fun _ _=>nJ h3 h4,(mT h1 h5 h6 h7 h8).2,dN _⟩
  ·cases hc
theorem Nw {F:Nat→Prop}{op:UnOp}{p c:CV}{u:Value}(hp:VR w F σ p u)(hc:cun op p=some c):∃ z,(Op.unary op u).run P w=.ok z w∧VR w F σ c z:=by
 unfold cun at hc;split at hc
 ·cases hc;simp only[VR] at hp;subst hp;exact⟨_,by simp[Op.unary],dN _⟩
 ·cases hc;simp only[VR] at hp;subst hp;exact⟨_,by simp[Op.unary,Op.intArith],dM _ _⟩
 ·cases hc
theorem BS {F:Nat→Prop}{k:IntKind}{x:Int}{cs:List CV}{vs:List Value}(h:aS w F σ (.int k x::cs) vs):∃ r,vs=.int k x::r∧aS w F σ cs r:=by
 simp only[aS] at h;obtain⟨v,r,rfl,h1,h2⟩:=h;simp only[VR] at h1;subst h1;exact⟨r,rfl,h2⟩
theorem BJ {ak:List (Nat×TI)}(ht:aG P ak)(h:aM C σ s a w){b:Builtin}{args:List Operand}{ts:Array TypeId}{ty:TypeId}{c:CV}(hc:ig ak s b args ts.toList=some c) :
  ∃ z,(∀ cons,(builtin b ts ty cons (args.map a.eval).toArray).run P w=.ok (.value z) w)∧VR w (FB C σ s.heap) σ c z:=by
 unfold ig at hc;split at hc
 ·split at hc
  ·rename_i x t PK;split at hc
   ·rename_i c' he;obtain⟨u,k1,k2⟩:=K3 (P:=P) (ty:=ty) ht (bK h he) hc;have:ts=#[t]:=by rw[← Array.toArray_toList (xs:=ts),PK]
    subst this;exact⟨u,fun _=>by simp[builtin,k1],k2⟩
   ·cases hc
  ·cases hc
 ·split at hc
  ·rename_i k x r he;obtain⟨rs,e,hr⟩:=BS (pW h _ _ he);obtain⟨u,k1,k2⟩:=EB (P:=P) _ _ _ _ hr hc;exact⟨u,fun _=>by simp[builtin,Builtin.min_,e,k1],k2⟩
  ·cases hc
 ·split at hc
  ·rename_i k x r he;obtain⟨rs,e,hr⟩:=BS (pW h _ _ he);obtain⟨u,k1,k2⟩:=EC (P:=P) _ _ _ _ hr hc;exact⟨u,fun _=>by simp[builtin,Builtin.max_,e,k1],k2⟩
  ·cases hc
 ·cases hc
theorem zd {ak:List (Nat×TI)}(ht:aG P ak)(h:aM C σ s a w)(o:Oper){c:CV}(hc:cY ak s o.op=some c) :
  ∃ z,(execOp a.eval o).run P w=.ok (.value z) w∧VR w (FB C σ s.heap) σ c z:=by
 obtain⟨dst,op,ty,pos,after,guard⟩:=o;unfold cY at hc;simp only at hc;split at hc
 ·exact⟨_,by simp[execOp],bK h hc⟩
 ·exact⟨_,by simp[execOp],bK h hc⟩
 ·rename_i c' x y;split at hc
  ·rename_i b he;have hb:=bK h he;simp only[VR] at hb;split at hc
   ·rename_i Xw;subst Xw;exact⟨_,by simp[execOp,hb,asBool],bK h hc⟩
   ·rename_i Xw;rw[Bool.not_eq_true] at Xw;subst Xw;exact⟨_,by simp[execOp,hb,asBool],bK h hc⟩
  ·cases hc
 ·split at hc
  ·rename_i p q hp hq;obtain⟨z,k0,k1,k2⟩:=Jl (P:=P) ht (bK h hp) (bK h hq) hc;exact⟨z,by simp only[execOp,Sem.run_bind,k0,k1,Result.andThen_ok,Sem.run_pure],k2⟩
  ·cases hc
 ·split at hc
  ·rename_i p hp;obtain⟨z,k1,k2⟩:=Nw (P:=P) (bK h hp) hc;exact⟨z,by simp[execOp,k1],k2⟩
  ·cases hc
 ·split at hc
  ·rename_i c' i hx hi;split at hc
   ·rename_i cs hm;obtain⟨ad,e,PE⟩:=AY h (bK h hx) hm;obtain⟨z,k1,k2⟩:=BG (P:=P) (ht _ i hi) PE hc;exact⟨z,by simp[execOp,Instr.loadAt,e,Instr.sureAddr,k1],k2⟩
   ·cases hc
  ·cases hc
 ·split at hc
  ·rename_i c' hx;obtain⟨z,k1,k2⟩:=F2 (P:=P) ht h (bK h hx) hc;exact⟨z,by simp[execOp,k1],k2⟩
  ·cases hc
 ·split at hc
  ·rename_i c' hx;obtain⟨z,k1,k2⟩:=pA (P:=P) ht (bK h hx) hc;exact⟨z,by simp[execOp,k1],k2⟩
  ·cases hc
 ·split at hc
  ·rename_i c' hx;obtain⟨z,k1,k2⟩:=F7 (P:=P) ht (bK h hx) hc;exact⟨z,by simp[execOp,k1],k2⟩
  ·cases hc
 ·split at hc
  ·rename_i c' k n hx hi;have hn:=bK h hi;simp only[VR] at hn;obtain⟨z,k1,k2⟩:=yg (P:=P) (k:=k) ht (bK h hx) hc;exact⟨z,by simp[execOp,hn,k1],k2⟩
  ·cases hc
 ·split at hc
  ·rename_i c' k n hx hi;have hn:=bK h hi;simp only[VR] at hn;obtain⟨z,k1,k2⟩:=C5 (P:=P) (k:=k) ht (bK h hx) hc;exact⟨z,by simp[execOp,hn,k1],k2⟩
  ·cases hc
 ·split at hc
  ·rename_i vs hx;have hv:=bK h hx;simp only[VR] at hv;obtain⟨us,e,hr⟩:=hv;obtain⟨z,k1,k2⟩:=aS.get _ _ hr _ _ hc;exact⟨z,by simp[execOp,e,Instr.extract,k1],k2⟩
  ·cases hc
 ·rename_i f first captured
  split at hc
  ·rename_i hf;obtain⟨cs,PE,rfl⟩:=Option.map_eq_some_iff.1 hc;have:=pW h _ _ PE;have e:first=#[]:=by simpa using hf
   subst e;refine⟨.func (.func f) #[] (captured.map a.eval),by simp[execOp,Instr.makeFunc],?_⟩;simp only[VR];exact⟨captured.toList.map a.eval,by rw[← List.map_toArray],this⟩
  ·cases hc
 ·split at hc
  ·rename_i o p hx;cases hc;have hv:=bK h hx;have RJ:=hv;simp only[VR] at RJ;obtain⟨B,b,_,_,e⟩:=RJ;exact⟨_,by simp only[execOp,e];rfl,by rw[← e];exact hv⟩
  ·rename_i cs hx;cases hc;have hv:=bK h hx;have RJ:=hv;simp only[VR,cq] at RJ;obtain⟨ad,e,_⟩:=RJ;exact⟨_,by simp only[execOp,e];rfl,by rw[← e];exact hv⟩
  ·rename_i f cs hx;cases hc;have hv:=bK h hx;have RJ:=hv;simp only[VR] at RJ;obtain⟨vs,e,_⟩:=RJ;exact⟨_,by simp only[execOp,e];rfl,by rw[← e];exact hv⟩
  ·cases hc
 ·rename_i t parts;obtain⟨z,k1,k2⟩:=Ga (P:=P) ht h hc;refine⟨z,?_,k2⟩;have e:(parts.map fun (x:Nat×Operand)=>(x.1,a.eval x.2))=(parts.toList.map fun (p:Nat×Operand)=>(p.1,a.eval p.2)).toArray:=by
   rw[← List.map_toArray]
  simp only[execOp,e,Sem.run_bind,k1,Result.andThen_ok,Sem.run_pure]
 ·rename_i cl;split at hc
  ·rename_i b Rl;obtain⟨z,k1,k2⟩:=BJ (P:=P) (ty:=ty) ht h hc;refine⟨z,?_,k2⟩;have e:(cl.args.toList.map a.eval).toArray=cl.args.map a.eval:=by rw[← List.map_toArray]
   rw[e] at k1;simp only[execOp,resolve,Rl,Sem.run_bind,Sem.run_pure,Result.andThen_ok,invoke,k1]
  ·cases hc
 ·cases hc
end
section
variable {P:Program}{C:Cx}{σ:Nat→Option OB}{s:St}{a:Act}{w:World}
theorem p9 (H:List (Nat×Ob))(o:Nat)(x:Ob):FB C σ (rF H o x)=FB C σ H:=by
 funext b;apply propext;unfold FB;constructor
 ·rintro (h | ⟨p,ob,h,hb⟩)
  ·exact .inl h
  ·rw[eP] at h;split at h
   ·rename_i e;subst e;obtain⟨y,hy,_⟩:=Option.map_eq_some_iff.1 h;exact .inr ⟨o,y,hy,hb⟩
   ·exact .inr ⟨p,ob,h,hb⟩
 ·rintro (h | ⟨p,ob,h,hb⟩)
  ·exact .inl h
  ·by_cases e:o=p
   ·subst e;exact .inr ⟨o,x,by rw[eP,if_pos rfl,h];rfl,hb⟩
   ·exact .inr ⟨p,ob,by rw[eP,if_neg e];exact h,hb⟩
theorem FP {F:Nat→Prop}{b:Nat}{cs:Array Value}(hb:F b):cw w (w.setRow b cs) F F:=
 ⟨fun ad u hf hu=>⟨by rw[World.cell?_of_block (w:=w) (setRow_other w b ad.block cs (fun e=>hf (e ▸ hb)))];exact hu,hf⟩,
  fun r _ hf hu _=>⟨by rw[setRow_other w b r cs (fun e=>hf (e ▸ hb))];exact hu,hf⟩⟩
theorem Ly {F F':Nat→Prop}(hF:∀ b,F' b→F b∨w.heap.size≤b)(o:Obj):cw w (w.alloc o) F F':=by
 refine⟨fun ad u hf hu=>?_,fun r _ hf hu _=>?_⟩
 ·have O1:=World.block_lt_of_cell? w ad hu;refine⟨by rw[World.cell?_alloc_lt w o ad O1];exact hu,fun h=>?_⟩;rcases hF _ h with h | h
  ·exact hf h
  ·omega
 ·have O1:=(Array.getElem?_eq_some_iff.1 hu).1;refine⟨by rw[heap_alloc_old w o r O1];exact hu,fun h=>?_⟩;rcases hF _ h with h | h
  ·exact hf h
  ·omega
theorem mh {F:Nat→Prop}:cw w w.drew F F:=⟨fun _ _ hf hu=>⟨hu,hf⟩,fun _ _ hf hu _=>⟨hu,hf⟩⟩
theorem kI {w':World}{row:Option Nat}{F F':Nat→Prop}(hg:w.grownBy w' row)(hr:∀ b,row=some b→F b)(hF:∀ b,F' b→F b∨w.heap.size≤b):cw w w' F F':=by
 refine⟨fun ad u hf hu=>?_,fun r _ hf hu _=>?_⟩
 ·have O1:=World.block_lt_of_cell? w ad hu;refine⟨by rw[World.cell?_of_block (w:=w) (hg.block ad.block O1 (fun e=>hf (hr _ e.symm)))];exact hu,fun h=>?_⟩;rcases hF _ h with h | h
  ·exact hf h
  ·omega
 ·have O1:=(Array.getElem?_eq_some_iff.1 hu).1;refine⟨by rw[hg.block r O1 (fun e=>hf (hr _ e.symm))];exact hu,fun h=>?_⟩;rcases hF _ h with h | h
  ·exact hf h
  ·omega
mutual
theorem VR.refs {F:Nat→Prop}:∀ (c:CV) (v:Value) (o:Nat),VR w F σ c v→aL o c=false→∃ B,σ o=some B
 | .int _ _,_,_,_,h=>by simp[aL] at h
 | .bool _,_,_,_,h=>by simp[aL] at h
 | .str _,_,_,_,h=>by simp[aL] at h
 | .aa,_,_,_,h=>by simp[aL] at h
 | .bL,_,_,_,h=>by simp[aL] at h
 | .cA,_,_,_,h=>by simp[aL] at h
 | .iter p _ _,v,o,hv,h=>by
  simp only[aL,bne_eq_false_iff_eq] at h;subst h;simp only[VR] at hv;obtain⟨B,r,hB,_⟩:=hv;exact⟨B,hB⟩
 | .mp p _,v,o,hv,h=>by
  simp only[aL,bne_eq_false_iff_eq] at h;subst h;simp only[VR] at hv;obtain⟨B,r,arr,clock,hB,_⟩:=hv;exact⟨B,hB⟩
 | .aA _ _,_,_,_,h=>by simp[aL] at h
 | .cG _,_,_,_,h=>by simp[aL] at h
 | .agg cs,v,o,hv,h=>by
  simp only[VR] at hv;obtain⟨vs,_,r,_⟩:=hv;exact aS.refs cs vs o r (by simpa [aL] using h)
 | .fn _ cs,v,o,hv,h=>by
  simp only[VR] at hv;obtain⟨vs,_,r⟩:=hv;exact aS.refs cs vs o r (by simpa [aL] using h)
 | .iface _ cs,v,o,hv,h=>by
  simp only[VR] at hv;obtain⟨vs,_,r⟩:=hv;exact aS.refs cs vs o r (by simpa [aL] using h)
 | .dS cs,v,o,hv,h=>by
  simp only[VR] at hv;obtain⟨vs,_,r⟩:=hv;exact aS.refs cs vs o r (by simpa [aL] using h)
 | .bl p _ _,v,o,hv,h=>by
  simp only[VR] at hv;obtain⟨B,hB,_⟩:=hv;have:p=o:=by simpa [aL] using h
  subst this;exact⟨B,hB⟩
 | .ax p _,v,o,hv,h=>by
  simp only[VR] at hv;obtain⟨B,b,hB,_⟩:=hv;have:p=o:=by simpa [aL] using h
  subst this;exact⟨B,hB⟩
theorem aS.refs {F:Nat→Prop}:∀ (cs:List CV) (vs:List Value) (o:Nat),aS w F σ cs vs→dK o cs=false→∃ B,σ o=some B
 | [],_,_,_,h=>by simp[dK] at h
 | c::cs,vs,o,hv,h=>by
  simp only[aS] at hv;obtain⟨v,r,_,h1,h2⟩:=hv;simp only[dK,Bool.and_eq_false_iff] at h;rcases h with h | h
  ·exact VR.refs c v o h1 h
  ·exact aS.refs cs r o h2 h
end
theorem aM.write (h:aM C σ s a w){o:Nat}{ob:Ob}{B:OB}{b:Nat}(ho:assoc s.heap o=some ob)(hB:σ o=some B)(hb:B.kj=some b){QQ:List CV}{Ve:List Value}
  (hl:Ve.length=B.room) (RS:QQ.length≤Ve.length) (hr:aS w (FB C σ s.heap) σ QQ (Ve.take QQ.length)) (h1:QQ.all one=true) :
  aM C σ { s with heap:=rF s.heap o { ob with cells:=QQ } } a (w.setRow b Ve.toArray):=by
 obtain⟨B',e1,e2,e3,_,e5⟩:=h.obj o ob ho;rw[hB] at e1;cases e1;obtain⟨cur,k1,k2,k3,k4,k5,k6⟩:=e5 b hb;have hFb:FB C σ s.heap b:=.inr ⟨o,ob,ho,by simp[aY,hB,hb]⟩;have hk:cw w (w.setRow b Ve.toArray) (FB C σ s.heap) (FB C σ s.heap):=FP hFb;refine⟨h.nk,h.tm,h.os,h.tape,h.output,by rw[size_setRow];exact h.size,?_,?_,?_,?_,h.nx,h.fh,h.low,h.new⟩
 ·intro b' Po Pv;rw[setRow_other w b b' _ (fun e=>?_)]
  ·exact h.frame b' Po Pv
  ·subst e;rcases k4 with k4 | k4
   ·exact Pv k4
   ·omega
 ·intro t c hc;obtain⟨v,h1,h2⟩:=h.env t c hc;simp only[p9];exact⟨v,h1,VR.bk hk c v (fun _ _=>rfl) h2⟩
 ·intro o' Pk Py;rw[eP] at Py;split at Py
  ·rename_i e;subst e;rw[ho] at Py;cases Py;refine⟨B,hB,e2,(fun hn=>by rw[hb] at hn;cases hn),h1,fun b' Po=>?_⟩;rw[hb] at Po;cases Po;refine⟨Ve.toArray,setRow_heap w b cur _ _ _ k1,by simpa using hl,k3,k4,by simpa using RS,?_⟩;simp only[p9];exact aS.bk hk _ _ (fun _ _=>rfl) (by simpa using hr)
  ·rename_i e;obtain⟨B',m1,m2,m3,m4,m5⟩:=h.obj o' Pk Py;refine⟨B',m1,m2,m3,m4,fun b' Po=>?_⟩;obtain⟨cur',n1,n2,n3,n4,n5,n6⟩:=m5 b' Po;have Pf:b'≠b:=fun eb=>e (h.inj o o' ob Pk b ho Py (by simp[aY,hB,hb]) (by simp[aY,m1,Po,eb]));refine⟨cur',by rw[setRow_other w b b' _ Pf];exact n1,n2,n3,n4,n5,?_⟩;simp only[p9];exact aS.bk hk _ _ (fun _ _=>rfl) n6
 ·intro o1 o2 ob1 ob2 b' h1 h2 h3 h4;have:∀ {p:Nat} {x y:Ob},assoc (rF s.heap o x) p=some y→∃ z,assoc s.heap p=some z:=fun {p x y} hp=>by
   rw[eP] at hp;split at hp
   ·rename_i e;subst e;obtain⟨z,hz,_⟩:=Option.map_eq_some_iff.1 hp;exact⟨z,hz⟩
   ·exact⟨_,hp⟩
  obtain⟨z1,SZ⟩:=this h1;obtain⟨z2,Qw⟩:=this h2;exact h.inj o1 o2 z1 z2 b' SZ Qw h3 h4
def sig (σ:Nat→Option OB)(o:Nat)(B:OB):Nat→Option OB:=fun p=>if p=o then some B else σ p
theorem uc {F:Nat→Prop}{c:CV}{v:Value}{o:Nat}{B:OB}(hn:σ o=none)(h:VR w F σ c v):∀ p,aL p c=false→sig σ o B p=σ p:=fun p hp=>by
 obtain⟨B',Q3⟩:=VR.refs c v p h hp;unfold sig;split
 ·rename_i e;subst e;rw[hn] at Q3;cases Q3
 ·rfl
theorem nE {F:Nat→Prop}{cs:List CV}{vs:List Value}{o:Nat}{B:OB}(hn:σ o=none)(h:aS w F σ cs vs):∀ p,dK p cs=false→sig σ o B p=σ p:=fun p hp=>by
 obtain⟨B',Q3⟩:=aS.refs cs vs p h hp;unfold sig;split
 ·rename_i e;subst e;rw[hn] at Q3;cases Q3
 ·rfl
theorem aM.Ej (h:aM C σ s a w){m nx':Nat}(hn:σ m=none)(RR:C.n0≤m)(Rj:m<nx')(hxx:s.nx≤nx'){w':World}(hg:w.grownBy w' none){ob:Ob}{B:OB}(O9:B.sz=ob.sz)(h1:ob.cells.all one=true)(SE:B.kj=none→ob.cells=[])
  (QV:∀ b,B.kj=some b→w.heap.size≤b∧∃ cur:Array Value,w'.heap[b]? = some (.cells cur ob.elem (0,0))∧cur.size=B.room∧ob.cells.length≤cur.size∧aS w (FB C σ s.heap) σ ob.cells (cur.toList.take ob.cells.length)) :
  aM C (sig σ m B) { s with heap:=(m,ob)::s.heap,nx:=nx' } a w'∧(∀ c v,VR w (FB C σ s.heap) σ c v→VR w' (FB C (sig σ m B) ((m,ob)::s.heap)) (sig σ m B) c v):=by
 have hold:∀ {p x},assoc s.heap p=some x→p≠m:=fun {p x} hp e=>by
  subst e;obtain⟨B',e1,_⟩:=h.obj _ _ hp;rw[hn] at e1;cases e1
 have Sz:sig σ m B m=some B:=by simp[sig]
 have hs:∀ {p},p≠m→sig σ m B p=σ p:=fun {p} hp=>by simp[sig,hp]
 have hF:∀ b,FB C (sig σ m B) ((m,ob)::s.heap) b→FB C σ s.heap b∨w.heap.size≤b:=by
  rintro b (hb | ⟨p,x,hp,hb⟩)
  ·exact .inl (.inl hb)
  ·simp only[assoc] at hp;split at hp
   ·rename_i e;subst e;simp only[aY,Sz,Option.bind_some] at hb;exact .inr (QV b hb).1
   ·have:=hold hp;simp only[aY,hs this] at hb;exact .inl (.inr ⟨p,x,hp,hb⟩)
 have hk:cw w w' (FB C σ s.heap) (FB C (sig σ m B) ((m,ob)::s.heap)):=kI hg (fun b e=>by cases e) hF;refine⟨⟨h.nk,h.tm,hg.os.trans h.os,hg.tape.trans h.tape,hg.output.trans h.output,Nat.le_trans h.size hg.size,?_,?_,?_,?_,?_,?_,Nat.le_trans h.low hxx,fun o B' b ho Q3 hb=>?_⟩,fun c v hv=>VR.bk hk c v (uc hn hv) hv⟩
 ·intro b hb Pv;rw[hg.block b (Nat.lt_of_lt_of_le hb h.size) OU];exact h.frame b hb Pv
 ·intro t c hc;obtain⟨v,k1,k2⟩:=h.env t c hc;exact⟨v,k1,VR.bk hk c v (uc hn k2) k2⟩
 ·intro p x hp;simp only[assoc] at hp;split at hp
  ·rename_i e;subst e;cases hp;refine⟨B,Sz,O9,SE,h1,fun b hb=>?_⟩;obtain⟨k0,cur,k1,k2,k3,k4⟩:=QV b hb;refine⟨cur,k1,k2,fun hf=>?_,.inr (Nat.le_trans h.size k0),k3,aS.bk hk _ _ (nE hn k4) k4⟩;have:=C.hF b hf;have:=h.size;omega
  ·have Pf:=hold hp;obtain⟨B',m1,m2,m3,m4,m5⟩:=h.obj p x hp;refine⟨B',by rw[hs Pf];exact m1,m2,m3,m4,fun b hb=>?_⟩;obtain⟨cur,n1,n2,n3,n4,n5,n6⟩:=m5 b hb;exact⟨cur,by rw[hg.block b (Array.getElem?_eq_some_iff.1 n1).1 OU];exact n1,n2,n3,n4,n5,aS.bk hk _ _ (nE hn n6) n6⟩
 ·intro p q x y b hp hq SW TE;have key:∀ {r z},assoc s.heap r=some z→aY σ r=some b→b<w.heap.size:=fun {r z} hr TC=>by
   obtain⟨B',m1,_,_,_,m5⟩:=h.obj r z hr;obtain⟨cur,n1,_⟩:=m5 b (by simpa [aY,m1] using TC);exact (Array.getElem?_eq_some_iff.1 n1).1
  simp only[assoc] at hp hq;split at hp<;>split at hq
  ·rename_i e1 e2;rw[← e1,← e2]
  ·rename_i e1 e2;subst e1;have:=hold hq;simp only[aY,Sz,Option.bind_some] at SW;have k1:=(QV b SW).1;have k2:=key hq (by simpa only[aY,hs this] using TE);omega
  ·rename_i e1 e2;subst e2;have:=hold hp;simp only[aY,Sz,Option.bind_some] at TE;have k1:=(QV b TE).1;have k2:=key hp (by simpa only[aY,hs this] using SW);omega
  ·have m1:=hold hp;have m2:=hold hq;exact h.inj p q x y b hp hq (by simpa only[aY,hs m1] using SW) (by simpa only[aY,hs m2] using TE)
 ·intro p hp;have:p≠m:=fun e=>by subst e;exact absurd hp (by simp only;omega)
  rw[hs this];exact h.nx p (Nat.le_trans hxx hp)
 ·intro p hp;have:=h.low;rw[hs (show p≠m by omega)];exact h.fh p hp
 ·by_cases e:o=m
  ·subst e;rw[Sz] at Q3;cases Q3;exact .inr (Nat.le_trans h.size (QV b hb).1)
  ·rw[hs e] at Q3;exact h.new o B' b ho Q3 hb
theorem aM.fresh (h:aM C σ s a w){w':World}(hg:w.grownBy w' none){ob:Ob}{B:OB}(O9:B.sz=ob.sz)(h1:ob.cells.all one=true)(SE:B.kj=none→ob.cells=[])
  (QV:∀ b,B.kj=some b→w.heap.size≤b∧∃ cur:Array Value,w'.heap[b]? = some (.cells cur ob.elem (0,0))∧cur.size=B.room∧ob.cells.length≤cur.size∧aS w (FB C σ s.heap) σ ob.cells (cur.toList.take ob.cells.length)) :
  aM C (sig σ s.nx B) { s with heap:=(s.nx,ob)::s.heap,nx:=s.nx+1 } a w'∧(∀ c v,VR w (FB C σ s.heap) σ c v→VR w' (FB C (sig σ s.nx B) ((s.nx,ob)::s.heap)) (sig σ s.nx B) c v):=
 h.Ej (h.nx s.nx (Nat.le_refl _)) h.low (Nat.lt_succ_self _) (Nat.le_succ _) hg O9 h1 SE QV
theorem nY (o:Obj):w.grownBy (w.alloc o) none:=World.grownBy_alloc w o none
def n8 (ak:List (Nat×TI))(s:St)(t:TypeId)(x:Operand)(v:Operand):Option St:=
 match ev s x,ev s v,assoc ak t with
 | some (.ax o off),some c,some i=>
  match assoc s.heap o with
  | none=>none
  | some ob=>if dP c then none else if c.cells.length=i.size∧off+c.cells.length≤ob.cells.length then some { s with heap:=rF s.heap o { ob with cells:=fD ob.cells off c.cells } } else none
 | _,_,_=>none
theorem fL (cells:List CV)(off:Nat)(cs:List CV)(h:off+cs.length≤cells.length):(fD cells off cs).length=cells.length:=by
 simp[fD];omega
theorem yd {ak:List (Nat×TI)}(ht:aG P ak)(h:aM C σ s a w){o:Oper}{t:TypeId}{x v:Operand}(ho:o.op=.store t x v){s':St}(hc:n8 ak s t x v=some s') :
  ∃ w',(execOp a.eval o).run P w=.ok .skip w'∧aM C σ s' a w'∧w'.heap.size=w.heap.size:=by
 unfold n8 at hc;split at hc
 ·rename_i Pk off c i hx hv hi;split at hc
  ·cases hc
  rename_i ob QX;split at hc
  ·cases hc
  rename_i RO;split at hc
  ·rename_i hlen;cases hc;have kx:=bK h hx;have kv:=bK h hv;simp only[VR] at kx;obtain⟨B,b,hB,hb,kx⟩:=kx;obtain⟨B',e1,e2,_,e4,e5⟩:=h.obj _ ob QX;rw[hB] at e1;cases e1;obtain⟨cur,k1,k2,k3,k4,k5,k6⟩:=e5 b hb;obtain⟨f1,f2⟩:=VR.flat c _ (fun cs e=>by subst e;simp[dP] at RO) (fun k s p e=>by subst e;simp[dP] at RO) kv;have fl:=aS.length _ _ f1;obtain⟨f,z,g1,g2,_⟩:=(ht t i hi).info;have Pw:=run_storeCells_at P b off ob.elem (a.eval v).cells.toList 0 cur w k1 (by rw[fl];omega) (aS.iG _ _ f2 f1);simp only[Nat.add_zero] at Pw;refine⟨_,?_,h.write QX hB hb (Ve:=cur.toList.take off++(a.eval v).cells.toList++cur.toList.drop (off+(a.eval v).cells.toList.length)) ?_ ?_ ?_ (qO off e4 f2),by simp⟩
   ·have O9:(a.eval v).cells.size=f.size:=by rw[g2,← hlen.1,← fl];simp
    simp only[execOp,ho,Instr.storeAt,kx,Instr.sureAddr,storeVar,Sem.run_bind,Sem.run_pure,Result.andThen_ok,cP g1];rw[if_neg (by simp[O9])];simp only[Pw,Result.andThen_ok]
   ·simp[fl];omega
   ·rw[fL _ _ _ hlen.2];simp[fl];omega
   ·rw[fL _ _ _ hlen.2];have:=uA k6 off f1;have e:(cur.toList.take off++(a.eval v).cells.toList++cur.toList.drop (off+(a.eval v).cells.toList.length)).take ob.cells.length =
      (cur.toList.take ob.cells.length).take off++(a.eval v).cells.toList++(cur.toList.take ob.cells.length).drop (off+(a.eval v).cells.toList.length):=by
     have O7:ob.cells.length≤cur.toList.length:=by simpa using k5
     generalize (a.eval v).cells.toList=us at *;rw[List.take_append,List.take_append];simp only[List.length_append,List.length_take,List.take_take,List.drop_take];rw[Nat.min_eq_right (show off≤ob.cells.length by omega),Nat.min_eq_left (show off≤cur.toList.length by omega),List.take_of_length_le (show us.length≤ob.cells.length-off by omega)];congr 2
     ·rw[Nat.min_eq_left (show off≤ob.cells.length by omega)]
    rw[e];exact this
  ·cases hc
 ·cases hc
end
end Go.Can
