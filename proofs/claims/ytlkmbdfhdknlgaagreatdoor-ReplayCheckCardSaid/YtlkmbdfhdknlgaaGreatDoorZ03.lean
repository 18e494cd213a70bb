/- The value of an operation that turns nothing in memory ('qva -/
import Derived.Test.YtlkmbdfhdknlgaaGreatDoorZ02
import Derived.Maps.AppendAt
namespace Go.Can
open Go.RowKit
def rR (d:Option TD)(p q:CV):Option Bool:=
 match d,q with
 | some (.sl _),.ag=>match p with
  | .ag=>some true
  | .au _ n=>if n=0 then none else some false
  | .bw _ _ n=>if n=0 then none else some false
  | _=>none
 | some (.ptr _),.bg=>match p with
  | .bg=>some true
  | .cc _=>some false
  | .ai _ _=>some false
  | _=>none
 | some .func,.bT=>match p with
  | .bT=>some true
  | .fn _ _=>some false
  | _=>none
 | _,_=>none
def As (ak:List (Nat×TI))(op:BinOp)(t:TypeId)(p q:CV):Option CV:=
 match p,q with
 | .int _ _,.int _ _=>zj op .oth p q
 | .str _,.str _=>zj op .oth p q
 | .bool _,.bool _=>match cY ak t with
  | some d=>zj op d p q
  | none=>none
 | _,_=>match op with
  | .eql=>(rR (cY ak t) p q).map CV.bool
  | .neq=>(rR (cY ak t) p q).map fun b=>CV.bool (!b)
  | _=>none
def cun (op:UnOp)(p:CV):Option CV:=
 match op,p with
 | .not,.bool b=>some (.bool (!b))
 | .neg,.int k n=>some (.int k (k.wrap (0-n)))
 | _,_=>none
def gf (ak:List (Nat×TI))(s:St)(b:Builtin)(args:List Operand)(ts:List TypeId):Option CV:=
 match b with
 | .len=>match args,ts with
  | [x],[t]=>match ev s x with
   | some c=>F6 ak t c
   | none=>none
  | _,_=>none
 | .min=>match vF s args with
  | some (.int k x::r)=>jM H5 k x r
  | _=>none
 | .max=>match vF s args with
  | some (.int k x::r)=>jM imax k x r
  | _=>none
 | _=>none
def eE (ak:List (Nat×TI))(s:St):Op→Option CV
 | .move x=>ev s x
 | .assign x=>ev s x
 | .pick c x y=>match ev s c with
  | some (.bool b)=>if b then ev s x else ev s y
  | _=>none
 | .binOp op t x y _=>match ev s x,ev s y with
  | some p,some q=>As ak op t p q
  | _,_=>none
 | .unOp op _ x=>match ev s x with
  | some p=>cun op p
  | none=>none
 | .load t x=>match ev s x,assoc ak t with
  | some c,some i=>match fD s c with
   | some cs=>kj i cs
   | none=>none
  | _,_=>none
 | .slice t x lo hi none=>match ev s x with
  | some c=>jL ak s t c lo hi
  | none=>none
 | .fieldAddr t x f=>match ev s x with
  | some c=>kI ak t c f
  | none=>none
 | .field t x f=>match ev s x with
  | some c=>vq ak t c f
  | none=>none
 | .indexAddr t x i=>match ev s x,ev s i with
  | some c,some (.int _ n)=>vp ak t c n
  | _,_=>none
 | .index t x i=>match ev s x,ev s i with
  | some c,some (.int _ n)=>qx ak t c n
  | _,_=>none
 | .extract x i=>match ev s x with
  | some (.db vs)=>vs[i]?
  | _=>none
 | .makeFunc (.func f) first captured=>if first.isEmpty then (vF s captured.toList).map (CV.fn f) else none
 | .nilCheck x=>match ev s x with
  | some (.ai o p)=>some (.ai o p)
  | some (.cc cs)=>some (.cc cs)
  | some (.fn f cs)=>some (.fn f cs)
  | _=>none
 | .build t parts=>pA ak s t parts.toList
 | .call c=>match c.callee with
  | .builtin b=>gf ak s b c.args.toList c.argTypes.toList
  | _=>none
 | _=>none
section
variable {P:Program}{C:Cx}{σ:Nat→Option OB}{s:St}{a:Act}{w:World}
theorem Gc {F:Nat→Prop}{op:BinOp}{t:TypeId}{p q c:CV}{u v:Value}(hp:VR w F σ p u)(hq:VR w F σ q v)(d:TD)(hd:d=.bool→P.underlying t=some .bool)(hc:zj op d p q=some c) :
  ∃ x,(binOp op t u v).run P w=.ok x w∧VR w F σ c x:=by
 unfold zj at hc;split at hc
 ·rename_i k a k' b;simp only[VR] at hp hq;subst hp hq;split at hc
  ·split at hc
   ·cases hc
   ·rename_i hb;cases hc;exact⟨_,by simp[binOp,Op.shift,hb],de _ _⟩
  ·split at hc
   ·cases hc
   ·rename_i hb;cases hc;exact⟨_,by simp[binOp,Op.shift,hb],de _ _⟩
  ·rename_i h1 h2;split at hc
   ·rename_i hk;subst hk;exact Ey (fun e=>h1 e) (fun e=>h2 e) hc
   ·cases hc
 ·simp only[VR] at hp hq;subst hp hq;exact Ct hc
 ·rename_i b b';simp only[VR] at hp hq;subst hp hq;split at hc
  ·cases hc;exact⟨_,run_eql_bool w t b b' (hd rfl),cT _⟩
  ·cases hc;exact⟨_,run_neq_bool w t b b' (hd rfl),cT _⟩
  ·cases hc
 ·cases hc
theorem EU {t e:TypeId}{i:TI}(hT:bV P t i)(hd:i.d=.ptr e):P.underlying t=some (.pointer e):=by
 obtain⟨d,h1,h2⟩:=hT.yd;rw[hd] at h2;cases d<;>simp only[p7] at h2<;>first | cases h2 | skip
 exact h1
theorem Ch {t:TypeId}{i:TI}(hT:bV P t i)(hd:i.d=.func):∃ x y z,P.underlying t=some (.func x y z):=by
 obtain⟨d,h1,h2⟩:=hT.yd;rw[hd] at h2;cases d<;>simp only[p7] at h2<;>first | cases h2 | skip
 exact⟨_,_,_,h1⟩
theorem qQ (d:Nat){t e:TypeId}(h:P.underlying t=some (.slice e))(A:Option Addr)(n cap:Nat):(Op.equalIn (d+1) t (.slice A n cap) (.slice none 0 0)).run P w=.ok A.isNone w:=by
 cases A<;>simp[Op.equalIn,bp h]
theorem p8 (d:Nat){t e:TypeId}(h:P.underlying t=some (.pointer e))(A:Option Addr):(Op.equalIn (d+1) t (.pointer A) (.pointer none)).run P w=.ok A.isNone w:=by
 cases A<;>simp[Op.equalIn,bp h]
theorem qR (d:Nat){t:TypeId}{x y:Array TypeId}{z:Bool}(h:P.underlying t=some (.func x y z))(f:Fn)(u v:Array Value):(Op.equalIn (d+1) t (.func f u v) .nilFunc).run P w=.ok false w:=by
 simp[Op.equalIn,bp h]
theorem nV (d:Nat){t:TypeId}{x y:Array TypeId}{z:Bool}(h:P.underlying t=some (.func x y z)):(Op.equalIn (d+1) t .nilFunc .nilFunc).run P w=.ok true w:=by
 simp[Op.equalIn,bp h]
theorem uf {ak:List (Nat×TI)}(ht:ay P ak){F:Nat→Prop}{t:TypeId}{p q:CV}{u v:Value}{b:Bool}(hp:VR w F σ p u)(hq:VR w F σ q v)(hc:rR (cY ak t) p q=some b) :
  (Op.equal t u v).run P w=.ok b w∧(∀ cs,u≠.agg cs)∧u≠.nilIface∧
   (∀ k n,u≠.int k n)∧(∀ k n,u≠.float k n)∧(∀ k x y,u≠.complex k x y)∧(∀ x,u≠.string x):=by
 unfold rR at hc;split at hc
 ·rename_i e hd;obtain⟨it,Fl,hd⟩:=Option.map_eq_some_iff.1 hd;have hu:=da (ht t it Fl) hd;simp only[VR] at hq;subst hq;have key:∃ A n cap,u=.slice A n cap∧(A=none↔b=true):=by
   split at hc
   ·cases hc;simp only[VR] at hp;subst hp;exact⟨_,_,_,rfl,by simp⟩
   ·rename_i cs n;split at hc
    ·cases hc
    ·rename_i hn;cases hc;simp only[VR,bK] at hp;obtain⟨A,cap,rfl,_,_,h4⟩:=hp;rcases h4 with ⟨h4,_⟩ | ⟨ad,rfl,_⟩
     ·exact absurd h4 hn
     ·exact⟨_,_,_,rfl,by simp⟩
   ·rename_i o off n;split at hc
    ·cases hc
    ·rename_i hn;cases hc;simp only[VR] at hp;obtain⟨B,_,hp⟩:=hp;split at hp
     ·exact absurd hp.2.2 hn
     ·obtain⟨cap,rfl,_⟩:=hp;exact⟨_,_,_,rfl,by simp⟩
   ·cases hc
  obtain⟨A,n,cap,rfl,hA⟩:=key;refine⟨?_,by simp,by simp,by simp,by simp,by simp,by simp⟩;have e:A.isNone=b:=by
   cases A with
   | none=>simp[hA.1 rfl]
   | some ad=>cases b;rfl;exact absurd (hA.2 rfl) j5
  rw[← e];exact qQ 9999 hu A n cap
 ·rename_i e hd;obtain⟨it,Fl,hd⟩:=Option.map_eq_some_iff.1 hd;have hu:=EU (ht t it Fl) hd;simp only[VR] at hq;subst hq;have key:∃ A,u=.pointer A∧(A=none↔b=true):=by
   split at hc
   ·cases hc;simp only[VR] at hp;subst hp;exact⟨_,rfl,by simp⟩
   ·cases hc;simp only[VR,bK] at hp;obtain⟨ad,rfl,_⟩:=hp;exact⟨_,rfl,by simp⟩
   ·cases hc;simp only[VR] at hp;obtain⟨B,b,_,_,rfl⟩:=hp;exact⟨_,rfl,by simp⟩
   ·cases hc
  obtain⟨A,rfl,hA⟩:=key;refine⟨?_,by simp,by simp,by simp,by simp,by simp,by simp⟩;have e:A.isNone=b:=by
   cases A with
   | none=>simp[hA.1 rfl]
   | some ad=>cases b;rfl;exact absurd (hA.2 rfl) j5
  rw[← e];exact p8 9999 hu A
 ·rename_i hd;obtain⟨it,Fl,hd⟩:=Option.map_eq_some_iff.1 hd;obtain⟨x,y,z,hu⟩:=Ch (ht t it Fl) hd;simp only[VR] at hq;subst hq;split at hc
  ·cases hc;simp only[VR] at hp;subst hp;refine⟨?_,by simp,by simp,by simp,by simp,by simp,by simp⟩;exact nV 9999 hu
  ·cases hc;simp only[VR] at hp;obtain⟨vs,rfl,_⟩:=hp;refine⟨?_,by simp,by simp,by simp,by simp,by simp,by simp⟩;exact qR 9999 hu _ _ _
  ·cases hc
 ·cases hc
theorem lq {op:BinOp}{t:TypeId}{x y:Operand}{u v:Value}(h1:∀ cs,u≠.agg cs)(h2:u≠.nilIface):(eqGuard op t x y u v).run P w=.ok () w:=by
 unfold eqGuard;split
 all_goals first
  | (rw[if_pos (by rfl)];rfl)
  | (rw[if_neg j5]
     split
     ·exact absurd rfl h2
     ·exact absurd rfl (h1 _)
     ·rfl)
theorem kQ {t:TypeId}{u v:Value}{b:Bool}(he:(Op.equal t u v).run P w=.ok b w)(h1:∀ k n,u≠.int k n)(h2:∀ k n,u≠.float k n)(h3:∀ k x y,u≠.complex k x y)(h4:∀ x,u≠.string x) :
  (binOp .eql t u v).run P w=.ok (.bool b) w∧(binOp .neq t u v).run P w=.ok (.bool (!b)) w:=by
 constructor
 ·unfold binOp;split<;>first | exact absurd rfl (h1 _ _) | exact absurd rfl (h2 _ _) | exact absurd rfl (h3 _ _ _) | exact absurd rfl (h4 _) | (simp_all;done)
 ·unfold binOp;split<;>first | exact absurd rfl (h1 _ _) | exact absurd rfl (h2 _ _) | exact absurd rfl (h3 _ _ _) | exact absurd rfl (h4 _) | (simp_all;done)
theorem uE {F:Nat→Prop}{p:CV}{u:Value}(hp:VR w F σ p u)(h:∀ cs,p≠.agg cs)(ha:p≠.any)(hi:∀ t cs,p≠.iface t cs):(∀ cs,u≠.agg cs)∧u≠.nilIface:=by
 cases p<;>simp only[VR,bK] at hp
 case agg cs=>exact absurd rfl (h cs)
 case au=>obtain⟨A,cap,rfl,_⟩:=hp;simp
 case cc=>obtain⟨ad,rfl,_⟩:=hp;simp
 case fn=>obtain⟨vs,rfl,_⟩:=hp;simp
 case iface t cs=>exact absurd rfl (hi t cs)
 case iter=>obtain⟨B,r,_,_,rfl,_⟩:=hp;simp
 case mp=>obtain⟨B,r,arr,clock,_,_,rfl,_⟩:=hp;simp
 case db=>obtain⟨vs,rfl,_⟩:=hp;simp
 case bw=>
  obtain⟨B,_,hp⟩:=hp;split at hp
  ·obtain⟨rfl,_⟩:=hp;simp
  ·obtain⟨cap,rfl,_⟩:=hp;simp
 case ai=>obtain⟨B,b,_,_,rfl⟩:=hp;simp
 case any=>exact absurd rfl ha
 all_goals (subst hp;simp)
theorem Eg {ak:List (Nat×TI)}(ht:ay P ak){F:Nat→Prop}{op:BinOp}{t:TypeId}{p q c:CV}{u v:Value}(hp:VR w F σ p u)(hq:VR w F σ q v)(hc:As ak op t p q=some c) :
  ∃ z,(∀ x y,(eqGuard op t x y u v).run P w=.ok () w)∧(binOp op t u v).run P w=.ok z w∧VR w F σ c z:=by
 have fin:∀ (_:∀ cs,p≠.agg cs) (_:p≠.any) (_:∀ t cs,p≠.iface t cs) (d:TD),(d=.bool→P.underlying t=some .bool)→zj op d p q=some c→∃ z,(∀ x y,(eqGuard op t x y u v).run P w=.ok () w)∧(binOp op t u v).run P w=.ok z w∧VR w F σ c z:=fun hn OF Mp d hd h=>by
  obtain⟨h1,h2⟩:=uE hp hn OF Mp;obtain⟨z,k1,k2⟩:=Gc hp hq d hd h;exact⟨z,fun _ _=>lq h1 h2,k1,k2⟩
 unfold As at hc;split at hc
 ·exact fin j5 j5 j5 _ j5 hc
 ·exact fin j5 j5 j5 _ j5 hc
 ·split at hc
  ·rename_i d hd;obtain⟨it,Fl,hd⟩:=Option.map_eq_some_iff.1 hd;exact fin j5 j5 j5 d (fun e=>Ci (ht t it Fl) (by rw[hd,e])) hc
  ·cases hc
 ·split at hc
  ·obtain⟨b,hb,rfl⟩:=Option.map_eq_some_iff.1 hc;obtain⟨h1,h3,h4,h5,h6,h7,h8⟩:=uf ht hp hq hb;exact⟨_,fun _ _=>lq h3 h4,(kQ h1 h5 h6 h7 h8).1,cT _⟩
  ·obtain⟨b,hb,rfl⟩:=Option.map_eq_some_iff.1 hc;obtain⟨h1,h3,h4,h5,h6,h7,h8⟩:=uf ht hp hq hb;exact⟨_,fun _ _=>lq h3 h4,(kQ h1 h5 h6 h7 h8).2,cT _⟩
  ·cases hc
theorem Il {F:Nat→Prop}{op:UnOp}{p c:CV}{u:Value}(hp:VR w F σ p u)(hc:cun op p=some c):∃ z,(Op.unary op u).run P w=.ok z w∧VR w F σ c z:=by
 unfold cun at hc;split at hc
 ·cases hc;simp only[VR] at hp;subst hp;exact⟨_,by simp[Op.unary],cT _⟩
 ·cases hc;simp only[VR] at hp;subst hp;exact⟨_,by simp[Op.unary,Op.intArith],de _ _⟩
 ·cases hc
theorem x9 {F:Nat→Prop}{k:IntKind}{x:Int}{cs:List CV}{vs:List Value}(h:aG w F σ (.int k x::cs) vs):∃ r,vs=.int k x::r∧aG w F σ cs r:=by
 simp only[aG] at h;obtain⟨v,r,rfl,h1,h2⟩:=h;simp only[VR] at h1;subst h1;exact⟨r,rfl,h2⟩
theorem xW {ak:List (Nat×TI)}(ht:ay P ak)(h:aB C σ s a w){b:Builtin}{args:List Operand}{ts:Array TypeId}{ty:TypeId}{c:CV}(hc:gf ak s b args ts.toList=some c) :
  ∃ z,(∀ cons,(builtin b ts ty cons (args.map a.eval).toArray).run P w=.ok (.value z) w)∧VR w (FB C σ s.heap) σ c z:=by
 unfold gf at hc;split at hc
 ·split at hc
  ·rename_i x t R3;split at hc
   ·rename_i c' he;obtain⟨u,k1,k2⟩:=F5 (P:=P) (ty:=ty) ht (bD h he) hc;have:ts=#[t]:=by rw[← Array.toArray_toList (xs:=ts),R3]
    subst this;exact⟨u,fun _=>by simp[builtin,k1],k2⟩
   ·cases hc
  ·cases hc
 ·split at hc
  ·rename_i k x r he;obtain⟨rs,e,hr⟩:=x9 (nq h _ _ he);obtain⟨u,k1,k2⟩:=Ak (P:=P) _ _ _ _ hr hc;exact⟨u,fun _=>by simp[builtin,Builtin.min_,e,k1],k2⟩
  ·cases hc
 ·split at hc
  ·rename_i k x r he;obtain⟨rs,e,hr⟩:=x9 (nq h _ _ he);obtain⟨u,k1,k2⟩:=Al (P:=P) _ _ _ _ hr hc;exact⟨u,fun _=>by simp[builtin,Builtin.max_,e,k1],k2⟩
  ·cases hc
 ·cases hc
theorem uP {ak:List (Nat×TI)}(ht:ay P ak)(h:aB C σ s a w)(o:Oper){c:CV}(hc:eE ak s o.op=some c) :
  ∃ z,(execOp a.eval o).run P w=.ok (.value z) w∧VR w (FB C σ s.heap) σ c z:=by
 obtain⟨dst,op,ty,pos,after,guard⟩:=o;unfold eE at hc;simp only at hc;split at hc
 ·exact⟨_,by simp[execOp],bD h hc⟩
 ·exact⟨_,by simp[execOp],bD h hc⟩
 ·rename_i c' x y;split at hc
  ·rename_i b he;have hb:=bD h he;simp only[VR] at hb;split at hc
   ·rename_i UL;subst UL;exact⟨_,by simp[execOp,hb,asBool],bD h hc⟩
   ·rename_i UL;rw[Bool.not_eq_true] at UL;subst UL;exact⟨_,by simp[execOp,hb,asBool],bD h hc⟩
  ·cases hc
 ·split at hc
  ·rename_i p q hp hq;obtain⟨z,k0,k1,k2⟩:=Eg (P:=P) ht (bD h hp) (bD h hq) hc;exact⟨z,by simp only[execOp,Sem.run_bind,k0,k1,Result.andThen_ok,Sem.run_pure],k2⟩
  ·cases hc
 ·split at hc
  ·rename_i p hp;obtain⟨z,k1,k2⟩:=Il (P:=P) (bD h hp) hc;exact⟨z,by simp[execOp,k1],k2⟩
  ·cases hc
 ·split at hc
  ·rename_i c' i hx hi;split at hc
   ·rename_i cs hm;obtain⟨ad,e,Kr⟩:=w9 h (bD h hx) hm;obtain⟨z,k1,k2⟩:=xR (P:=P) (ht _ i hi) Kr hc;exact⟨z,by simp[execOp,Instr.loadAt,e,Instr.sureAddr,k1],k2⟩
   ·cases hc
  ·cases hc
 ·split at hc
  ·rename_i c' hx;obtain⟨z,k1,k2⟩:=Bx (P:=P) ht h (bD h hx) hc;exact⟨z,by simp[execOp,k1],k2⟩
  ·cases hc
 ·split at hc
  ·rename_i c' hx;obtain⟨z,k1,k2⟩:=sM (P:=P) ht (bD h hx) hc;exact⟨z,by simp[execOp,k1],k2⟩
  ·cases hc
 ·split at hc
  ·rename_i c' hx;obtain⟨z,k1,k2⟩:=BB (P:=P) ht (bD h hx) hc;exact⟨z,by simp[execOp,k1],k2⟩
  ·cases hc
 ·split at hc
  ·rename_i c' k n hx hi;have hn:=bD h hi;simp only[VR] at hn;obtain⟨z,k1,k2⟩:=BA (P:=P) (k:=k) ht (bD h hx) hc;exact⟨z,by simp[execOp,hn,k1],k2⟩
  ·cases hc
 ·split at hc
  ·rename_i c' k n hx hi;have hn:=bD h hi;simp only[VR] at hn;obtain⟨z,k1,k2⟩:=zh (P:=P) (k:=k) ht (bD h hx) hc;exact⟨z,by simp[execOp,hn,k1],k2⟩
  ·cases hc
 ·split at hc
  ·rename_i vs hx;have hv:=bD h hx;simp only[VR] at hv;obtain⟨us,e,hr⟩:=hv;obtain⟨z,k1,k2⟩:=aG.get _ _ hr _ _ hc;exact⟨z,by simp[execOp,e,Instr.extract,k1],k2⟩
  ·cases hc
 ·rename_i f first captured
  split at hc
  ·rename_i hf;obtain⟨cs,Kr,rfl⟩:=Option.map_eq_some_iff.1 hc;have:=nq h _ _ Kr;have e:first=#[]:=by simpa using hf
   subst e;refine⟨.func (.func f) #[] (captured.map a.eval),by simp[execOp,Instr.makeFunc],?_⟩;simp only[VR];exact⟨captured.toList.map a.eval,by rw[← List.map_toArray],this⟩
  ·cases hc
 ·split at hc
  ·rename_i o p hx;cases hc;have hv:=bD h hx;have Oz:=hv;simp only[VR] at Oz;obtain⟨B,b,_,_,e⟩:=Oz;exact⟨_,by simp only[execOp,e];rfl,by rw[← e];exact hv⟩
  ·rename_i cs hx;cases hc;have hv:=bD h hx;have Oz:=hv;simp only[VR,bK] at Oz;obtain⟨ad,e,_⟩:=Oz;exact⟨_,by simp only[execOp,e];rfl,by rw[← e];exact hv⟩
  ·rename_i f cs hx;cases hc;have hv:=bD h hx;have Oz:=hv;simp only[VR] at Oz;obtain⟨vs,e,_⟩:=Oz;exact⟨_,by simp only[execOp,e];rfl,by rw[← e];exact hv⟩
  ·cases hc
 ·rename_i t parts;obtain⟨z,k1,k2⟩:=BE (P:=P) ht h hc;refine⟨z,?_,k2⟩;have e:(parts.map fun (x:Nat×Operand)=>(x.1,a.eval x.2))=(parts.toList.map fun (p:Nat×Operand)=>(p.1,a.eval p.2)).toArray:=by
   rw[← List.map_toArray]
  simp only[execOp,e,Sem.run_bind,k1,Result.andThen_ok,Sem.run_pure]
 ·rename_i cl;split at hc
  ·rename_i b LI;obtain⟨z,k1,k2⟩:=xW (P:=P) (ty:=ty) ht h hc;refine⟨z,?_,k2⟩;have e:(cl.args.toList.map a.eval).toArray=cl.args.map a.eval:=by rw[← List.map_toArray]
   rw[e] at k1;simp only[execOp,resolve,LI,Sem.run_bind,Sem.run_pure,Result.andThen_ok,invoke,k1]
  ·cases hc
 ·cases hc
end
section
variable {P:Program}{C:Cx}{σ:Nat→Option OB}{s:St}{a:Act}{w:World}
theorem nD (H:List (Nat×Ob))(o:Nat)(x:Ob):FB C σ (pH H o x)=FB C σ H:=by
 funext b;apply propext;unfold FB;constructor
 ·rintro (h | ⟨p,ob,h,hb⟩)
  ·exact .inl h
  ·rw[eg] at h;split at h
   ·rename_i e;subst e;obtain⟨y,hy,_⟩:=Option.map_eq_some_iff.1 h;exact .inr ⟨o,y,hy,hb⟩
   ·exact .inr ⟨p,ob,h,hb⟩
 ·rintro (h | ⟨p,ob,h,hb⟩)
  ·exact .inl h
  ·by_cases e:o=p
   ·subst e;exact .inr ⟨o,x,by rw[eg,if_pos rfl,h];rfl,hb⟩
   ·exact .inr ⟨p,ob,by rw[eg,if_neg e];exact h,hb⟩
theorem Bq {F:Nat→Prop}{b:Nat}{cs:Array Value}(hb:F b):b9 w (w.setRow b cs) F F:=
 ⟨fun ad u hf hu=>⟨by rw[World.cell?_of_block (w:=w) (setRow_other w b ad.block cs (fun e=>hf (e ▸ hb)))];exact hu,hf⟩,
  fun r _ hf hu _=>⟨by rw[setRow_other w b r cs (fun e=>hf (e ▸ hb))];exact hu,hf⟩⟩
theorem Gy {F F':Nat→Prop}(hF:∀ b,F' b→F b∨w.heap.size≤b)(o:Obj):b9 w (w.alloc o) F F':=by
 refine⟨fun ad u hf hu=>?_,fun r _ hf hu _=>?_⟩
 ·have yN:=World.block_lt_of_cell? w ad hu;refine⟨by rw[World.cell?_alloc_lt w o ad yN];exact hu,fun h=>?_⟩;rcases hF _ h with h | h
  ·exact hf h
  ·omega
 ·have yN:=(Array.getElem?_eq_some_iff.1 hu).1;refine⟨by rw[heap_alloc_old w o r yN];exact hu,fun h=>?_⟩;rcases hF _ h with h | h
  ·exact hf h
  ·omega
theorem rD {F:Nat→Prop}:b9 w w.drew F F:=⟨fun _ _ hf hu=>⟨hu,hf⟩,fun _ _ hf hu _=>⟨hu,hf⟩⟩
theorem jj {w':World}{row:Option Nat}{F F':Nat→Prop}(hg:w.grownBy w' row)(hr:∀ b,row=some b→F b)(hF:∀ b,F' b→F b∨w.heap.size≤b):b9 w w' F F':=by
 refine⟨fun ad u hf hu=>?_,fun r _ hf hu _=>?_⟩
 ·have yN:=World.block_lt_of_cell? w ad hu;refine⟨by rw[World.cell?_of_block (w:=w) (hg.block ad.block yN (fun e=>hf (hr _ e.symm)))];exact hu,fun h=>?_⟩;rcases hF _ h with h | h
  ·exact hf h
  ·omega
 ·have yN:=(Array.getElem?_eq_some_iff.1 hu).1;refine⟨by rw[hg.block r yN (fun e=>hf (hr _ e.symm))];exact hu,fun h=>?_⟩;rcases hF _ h with h | h
  ·exact hf h
  ·omega
mutual
theorem VR.refs {F:Nat→Prop}:∀ (c:CV) (v:Value) (o:Nat),VR w F σ c v→aA o c=false→∃ B,σ o=some B
 | .int _ _,_,_,_,h=>by simp[aA] at h
 | .bool _,_,_,_,h=>by simp[aA] at h
 | .str _,_,_,_,h=>by simp[aA] at h
 | .ag,_,_,_,h=>by simp[aA] at h
 | .bg,_,_,_,h=>by simp[aA] at h
 | .bT,_,_,_,h=>by simp[aA] at h
 | .iter p _ _,v,o,hv,h=>by
  simp only[aA,bne_eq_false_iff_eq] at h;subst h;simp only[VR] at hv;obtain⟨B,r,hB,_⟩:=hv;exact⟨B,hB⟩
 | .mp p _,v,o,hv,h=>by
  simp only[aA,bne_eq_false_iff_eq] at h;subst h;simp only[VR] at hv;obtain⟨B,r,arr,clock,hB,_⟩:=hv;exact⟨B,hB⟩
 | .au _ _,_,_,_,h=>by simp[aA] at h
 | .cc _,_,_,_,h=>by simp[aA] at h
 | .agg cs,v,o,hv,h=>by
  simp only[VR] at hv;obtain⟨vs,_,r,_⟩:=hv;exact aG.refs cs vs o r (by simpa [aA] using h)
 | .fn _ cs,v,o,hv,h=>by
  simp only[VR] at hv;obtain⟨vs,_,r⟩:=hv;exact aG.refs cs vs o r (by simpa [aA] using h)
 | .iface _ cs,v,o,hv,h=>by
  simp only[VR] at hv;obtain⟨vs,_,r⟩:=hv;exact aG.refs cs vs o r (by simpa [aA] using h)
 | .db cs,v,o,hv,h=>by
  simp only[VR] at hv;obtain⟨vs,_,r⟩:=hv;exact aG.refs cs vs o r (by simpa [aA] using h)
 | .bw p _ _,v,o,hv,h=>by
  simp only[VR] at hv;obtain⟨B,hB,_⟩:=hv;have:p=o:=by simpa [aA] using h
  subst this;exact⟨B,hB⟩
 | .ai p _,v,o,hv,h=>by
  simp only[VR] at hv;obtain⟨B,b,hB,_⟩:=hv;have:p=o:=by simpa [aA] using h
  subst this;exact⟨B,hB⟩
theorem aG.refs {F:Nat→Prop}:∀ (cs:List CV) (vs:List Value) (o:Nat),aG w F σ cs vs→dc o cs=false→∃ B,σ o=some B
 | [],_,_,_,h=>by simp[dc] at h
 | c::cs,vs,o,hv,h=>by
  simp only[aG] at hv;obtain⟨v,r,_,h1,h2⟩:=hv;simp only[dc,Bool.and_eq_false_iff] at h;rcases h with h | h
  ·exact VR.refs c v o h1 h
  ·exact aG.refs cs r o h2 h
end
theorem aB.write (h:aB C σ s a w){o:Nat}{ob:Ob}{B:OB}{b:Nat}(ho:assoc s.heap o=some ob)(hB:σ o=some B)(hb:B.iI=some b){Lk:List CV}{PS:List Value}
  (hl:PS.length=B.room) (N5:Lk.length≤PS.length) (hr:aG w (FB C σ s.heap) σ Lk (PS.take Lk.length)) (h1:Lk.all one=true) :
  aB C σ { s with heap:=pH s.heap o { ob with cells:=Lk } } a (w.setRow b PS.toArray):=by
 obtain⟨B',e1,e2,e3,_,e5⟩:=h.obj o ob ho;rw[hB] at e1;cases e1;obtain⟨cur,k1,k2,k3,k4,k5,k6⟩:=e5 b hb;have hFb:FB C σ s.heap b:=.inr ⟨o,ob,ho,by simp[aH,hB,hb]⟩;have hk:b9 w (w.setRow b PS.toArray) (FB C σ s.heap) (FB C σ s.heap):=Bq hFb;refine⟨h.me,h.tm,h.os,h.tape,h.output,by rw[size_setRow];exact h.size,?_,?_,?_,?_,h.nx,h.fM,h.low,h.new⟩
 ·intro b' Kc Kg;rw[setRow_other w b b' _ (fun e=>?_)]
  ·exact h.frame b' Kc Kg
  ·subst e;rcases k4 with k4 | k4
   ·exact Kg k4
   ·omega
 ·intro t c hc;obtain⟨v,h1,h2⟩:=h.env t c hc;simp only[nD];exact⟨v,h1,VR.a7 hk c v (fun _ _=>rfl) h2⟩
 ·intro o' Ka Kv;rw[eg] at Kv;split at Kv
  ·rename_i e;subst e;rw[ho] at Kv;cases Kv;refine⟨B,hB,e2,(fun hn=>by rw[hb] at hn;cases hn),h1,fun b' Kc=>?_⟩;rw[hb] at Kc;cases Kc;refine⟨PS.toArray,setRow_heap w b cur _ _ _ k1,by simpa using hl,k3,k4,by simpa using N5,?_⟩;simp only[nD];exact aG.a7 hk _ _ (fun _ _=>rfl) (by simpa using hr)
  ·rename_i e;obtain⟨B',m1,m2,m3,m4,m5⟩:=h.obj o' Ka Kv;refine⟨B',m1,m2,m3,m4,fun b' Kc=>?_⟩;obtain⟨Xj,n1,n2,n3,n4,n5,n6⟩:=m5 b' Kc;have F0:b'≠b:=fun eb=>e (h.inj o o' ob Ka b ho Kv (by simp[aH,hB,hb]) (by simp[aH,m1,Kc,eb]));refine⟨Xj,by rw[setRow_other w b b' _ F0];exact n1,n2,n3,n4,n5,?_⟩;simp only[nD];exact aG.a7 hk _ _ (fun _ _=>rfl) n6
 ·intro o1 o2 ob1 ob2 b' h1 h2 h3 h4;have:∀ {p:Nat} {x y:Ob},assoc (pH s.heap o x) p=some y→∃ z,assoc s.heap p=some z:=fun {p x y} hp=>by
   rw[eg] at hp;split at hp
   ·rename_i e;subst e;obtain⟨z,hz,_⟩:=Option.map_eq_some_iff.1 hp;exact⟨z,hz⟩
   ·exact⟨_,hp⟩
  obtain⟨z1,NX⟩:=this h1;obtain⟨z2,KP⟩:=this h2;exact h.inj o1 o2 z1 z2 b' NX KP h3 h4
def sig (σ:Nat→Option OB)(o:Nat)(B:OB):Nat→Option OB:=fun p=>if p=o then some B else σ p
theorem qj {F:Nat→Prop}{c:CV}{v:Value}{o:Nat}{B:OB}(hn:σ o=none)(h:VR w F σ c v):∀ p,aA p c=false→sig σ o B p=σ p:=fun p hp=>by
 obtain⟨B',L0⟩:=VR.refs c v p h hp;unfold sig;split
 ·rename_i e;subst e;rw[hn] at L0;cases L0
 ·rfl
theorem ln {F:Nat→Prop}{cs:List CV}{vs:List Value}{o:Nat}{B:OB}(hn:σ o=none)(h:aG w F σ cs vs):∀ p,dc p cs=false→sig σ o B p=σ p:=fun p hp=>by
 obtain⟨B',L0⟩:=aG.refs cs vs p h hp;unfold sig;split
 ·rename_i e;subst e;rw[hn] at L0;cases L0
 ·rfl
theorem aB.z9 (h:aB C σ s a w){m Vd:Nat}(hn:σ m=none)(MW:C.n0≤m)(L5:m<Vd)(XM:s.nx≤Vd){w':World}(hg:w.grownBy w' none){ob:Ob}{B:OB}(CX:B.sz=ob.sz)(h1:ob.cells.all one=true)(Nz:B.iI=none→ob.cells=[])
  (Lz:∀ b,B.iI=some b→w.heap.size≤b∧∃ cur:Array Value,w'.heap[b]? = some (.cells cur ob.elem (0,0))∧cur.size=B.room∧ob.cells.length≤cur.size∧aG w (FB C σ s.heap) σ ob.cells (cur.toList.take ob.cells.length)) :
  aB C (sig σ m B) { s with heap:=(m,ob)::s.heap,nx:=Vd } a w'∧(∀ c v,VR w (FB C σ s.heap) σ c v→VR w' (FB C (sig σ m B) ((m,ob)::s.heap)) (sig σ m B) c v):=by
 have hold:∀ {p x},assoc s.heap p=some x→p≠m:=fun {p x} hp e=>by
  subst e;obtain⟨B',e1,_⟩:=h.obj _ _ hp;rw[hn] at e1;cases e1
 have Ph:sig σ m B m=some B:=by simp[sig]
 have hs:∀ {p},p≠m→sig σ m B p=σ p:=fun {p} hp=>by simp[sig,hp]
 have hF:∀ b,FB C (sig σ m B) ((m,ob)::s.heap) b→FB C σ s.heap b∨w.heap.size≤b:=by
  rintro b (hb | ⟨p,x,hp,hb⟩)
  ·exact .inl (.inl hb)
  ·simp only[assoc] at hp;split at hp
   ·rename_i e;subst e;simp only[aH,Ph,Option.bind_some] at hb;exact .inr (Lz b hb).1
   ·have:=hold hp;simp only[aH,hs this] at hb;exact .inl (.inr ⟨p,x,hp,hb⟩)
 have hk:b9 w w' (FB C σ s.heap) (FB C (sig σ m B) ((m,ob)::s.heap)):=jj hg (fun b e=>by cases e) hF;refine⟨⟨h.me,h.tm,hg.os.trans h.os,hg.tape.trans h.tape,hg.output.trans h.output,Nat.le_trans h.size hg.size,?_,?_,?_,?_,?_,?_,Nat.le_trans h.low XM,fun o B' b ho L0 hb=>?_⟩,fun c v hv=>VR.a7 hk c v (qj hn hv) hv⟩
 ·intro b hb Kg;rw[hg.block b (Nat.lt_of_lt_of_le hb h.size) j5];exact h.frame b hb Kg
 ·intro t c hc;obtain⟨v,k1,k2⟩:=h.env t c hc;exact⟨v,k1,VR.a7 hk c v (qj hn k2) k2⟩
 ·intro p x hp;simp only[assoc] at hp;split at hp
  ·rename_i e;subst e;cases hp;refine⟨B,Ph,CX,Nz,h1,fun b hb=>?_⟩;obtain⟨k0,cur,k1,k2,k3,k4⟩:=Lz b hb;refine⟨cur,k1,k2,fun hf=>?_,.inr (Nat.le_trans h.size k0),k3,aG.a7 hk _ _ (ln hn k4) k4⟩;have:=C.hF.1 b hf;have:=h.size;omega
  ·have F0:=hold hp;obtain⟨B',m1,m2,m3,m4,m5⟩:=h.obj p x hp;refine⟨B',by rw[hs F0];exact m1,m2,m3,m4,fun b hb=>?_⟩;obtain⟨cur,n1,n2,n3,n4,n5,n6⟩:=m5 b hb;exact⟨cur,by rw[hg.block b (Array.getElem?_eq_some_iff.1 n1).1 j5];exact n1,n2,n3,n4,n5,aG.a7 hk _ _ (ln hn n6) n6⟩
 ·intro p q x y b hp hq NU Ov;have key:∀ {r z},assoc s.heap r=some z→aH σ r=some b→b<w.heap.size:=fun {r z} hr TW=>by
   obtain⟨B',m1,_,_,_,m5⟩:=h.obj r z hr;obtain⟨cur,n1,_⟩:=m5 b (by simpa [aH,m1] using TW);exact (Array.getElem?_eq_some_iff.1 n1).1
  simp only[assoc] at hp hq;split at hp<;>split at hq
  ·rename_i e1 e2;rw[← e1,← e2]
  ·rename_i e1 e2;subst e1;have:=hold hq;simp only[aH,Ph,Option.bind_some] at NU;have k1:=(Lz b NU).1;have k2:=key hq (by simpa only[aH,hs this] using Ov);omega
  ·rename_i e1 e2;subst e2;have:=hold hp;simp only[aH,Ph,Option.bind_some] at Ov;have k1:=(Lz b Ov).1;have k2:=key hp (by simpa only[aH,hs this] using NU);omega
  ·have m1:=hold hp;have m2:=hold hq;exact h.inj p q x y b hp hq (by simpa only[aH,hs m1] using NU) (by simpa only[aH,hs m2] using Ov)
 ·intro p hp;have:p≠m:=fun e=>by subst e;exact absurd hp (by simp only;omega)
  rw[hs this];exact h.nx p (Nat.le_trans XM hp)
 ·intro p hp;have:=h.low;rw[hs (show p≠m by omega)];exact h.fM p hp
 ·by_cases e:o=m
  ·subst e;rw[Ph] at L0;cases L0;exact .inr (Nat.le_trans h.size (Lz b hb).1)
  ·rw[hs e] at L0;exact h.new o B' b ho L0 hb
theorem aB.fresh (h:aB C σ s a w){w':World}(hg:w.grownBy w' none){ob:Ob}{B:OB}(CX:B.sz=ob.sz)(h1:ob.cells.all one=true)(Nz:B.iI=none→ob.cells=[])
  (Lz:∀ b,B.iI=some b→w.heap.size≤b∧∃ cur:Array Value,w'.heap[b]? = some (.cells cur ob.elem (0,0))∧cur.size=B.room∧ob.cells.length≤cur.size∧aG w (FB C σ s.heap) σ ob.cells (cur.toList.take ob.cells.length)) :
  aB C (sig σ s.nx B) { s with heap:=(s.nx,ob)::s.heap,nx:=s.nx+1 } a w'∧(∀ c v,VR w (FB C σ s.heap) σ c v→VR w' (FB C (sig σ s.nx B) ((s.nx,ob)::s.heap)) (sig σ s.nx B) c v):=
 h.z9 (h.nx s.nx (Nat.le_refl _)) h.low (Nat.lt_succ_self _) (Nat.le_succ _) hg CX h1 Nz Lz
theorem lG (o:Obj):w.grownBy (w.alloc o) none:=World.grownBy_alloc w o none
def py (ak:List (Nat×TI))(s:St)(t:TypeId)(x:Operand)(v:Operand):Option St:=
 match ev s x,ev s v,assoc ak t with
 | some (.ai o off),some c,some i=>
  match assoc s.heap o with
  | none=>none
  | some ob=>if dn c then none else if c.cells.length=i.size∧off+c.cells.length≤ob.cells.length then some { s with heap:=pH s.heap o { ob with cells:=fL ob.cells off c.cells } } else none
 | _,_,_=>none
theorem eI (cells:List CV)(off:Nat)(cs:List CV)(h:off+cs.length≤cells.length):(fL cells off cs).length=cells.length:=by
 simp[fL];omega
theorem uc {ak:List (Nat×TI)}(ht:ay P ak)(h:aB C σ s a w){o:Oper}{t:TypeId}{x v:Operand}(ho:o.op=.store t x v){s':St}(hc:py ak s t x v=some s') :
  ∃ w',(execOp a.eval o).run P w=.ok .skip w'∧aB C σ s' a w'∧w'.heap.size=w.heap.size:=by
 unfold py at hc;split at hc
 ·rename_i Ka off c i hx hv hi;split at hc
  ·cases hc
  rename_i ob LB;split at hc
  ·cases hc
  rename_i Mu;split at hc
  ·rename_i hlen;cases hc;have kx:=bD h hx;have kv:=bD h hv;simp only[VR] at kx;obtain⟨B,b,hB,hb,kx⟩:=kx;obtain⟨B',e1,e2,_,e4,e5⟩:=h.obj _ ob LB;rw[hB] at e1;cases e1;obtain⟨cur,k1,k2,k3,k4,k5,k6⟩:=e5 b hb;obtain⟨f1,f2⟩:=VR.flat c _ (fun cs e=>by subst e;simp[dn] at Mu) (fun k s p e=>by subst e;simp[dn] at Mu) kv;have fl:=aG.length _ _ f1;obtain⟨f,z,g1,g2,_⟩:=(ht t i hi).info;have Km:=run_storeCells_at P b off ob.elem (a.eval v).cells.toList 0 cur w k1 (by rw[fl];omega) (aG.gC _ _ f2 f1);simp only[Nat.add_zero] at Km;refine⟨_,?_,h.write LB hB hb (PS:=cur.toList.take off++(a.eval v).cells.toList++cur.toList.drop (off+(a.eval v).cells.toList.length)) ?_ ?_ ?_ (oA off e4 f2),by simp⟩
   ·have CX:(a.eval v).cells.size=f.size:=by rw[g2,← hlen.1,← fl];simp
    simp only[execOp,ho,Instr.storeAt,kx,Instr.sureAddr,storeVar,Sem.run_bind,Sem.run_pure,Result.andThen_ok,ch g1];rw[if_neg (by simp[CX])];simp only[Km,Result.andThen_ok]
   ·simp[fl];omega
   ·rw[eI _ _ _ hlen.2];simp[fl];omega
   ·rw[eI _ _ _ hlen.2];have:=qv k6 off f1;have e:(cur.toList.take off++(a.eval v).cells.toList++cur.toList.drop (off+(a.eval v).cells.toList.length)).take ob.cells.length =
      (cur.toList.take ob.cells.length).take off++(a.eval v).cells.toList++(cur.toList.take ob.cells.length).drop (off+(a.eval v).cells.toList.length):=by
     have De:ob.cells.length≤cur.toList.length:=by simpa using k5
     generalize (a.eval v).cells.toList=us at *;rw[List.take_append,List.take_append];simp only[List.length_append,List.length_take,List.take_take,List.drop_take];rw[Nat.min_eq_right (show off≤ob.cells.length by omega),Nat.min_eq_left (show off≤cur.toList.length by omega),List.take_of_length_le (show us.length≤ob.cells.length-off by omega)];congr 2
     ·rw[Nat.min_eq_left (show off≤ob.cells.length by omega)]
    rw[e];exact this
  ·cases hc
 ·cases hc
end
end Go.Can
