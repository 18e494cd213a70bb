/- The value of an operation -/
import Derived.Test.YtlkmbdfhdknlgaaGreatZ03
import Derived.Maps.AppendAt
namespace Go.Can
open Go.RowKit List
def xR (d:Option TD)(p q:CV):Option Bool:=
 match d,q with
 | some (.sl _),.aj=>match p with
  | .aj=>some true
  | .ax _ n=>if n=0 then none else some false
  | .bb _ _ n=>if n=0 then none else some false
  | _=>none
 | some (.ptr _),.bJ=>match p with
  | .bJ=>some true
  | .cQ _=>some false
  | .aw _ _=>some false
  | _=>none
 | some .func,.cE=>match p with
  | .cE=>some true
  | .fn _ _=>some false
  | _=>none
 | _,_=>none
def GM (av:List (Nat×TI))(op:BinOp)(t:TypeId)(p q:CV):Option CV:=
 match p,q with
 | .int _ _,.int _ _=>Fa op .PH p q
 | .str _,.str _=>Fa op .PH p q
 | .bool _,.bool _=>match dM av t with
  | some d=>Fa op d p q
  | none=>none
 | _,_=>match op with
  | .eql=>(xR (dM av t) p q).map CV.bool
  | .neq=>(xR (dM av t) p q).map λ b=>CV.bool (!b)
  | _=>none
def cun (op:UnOp)(p:CV):Option CV:=
 match op,p with
 | .not,.bool b=>some (.bool (!b))
 | .neg,.int k n=>some (.int k (k.wrap (0-n)))
 | _,_=>none
def iK (av:List (Nat×TI))(s:St)(b:Builtin)(args:List Operand)(ts:List TypeId):Option CV:=
 match b with
 | .len=>match args,ts with
  | [x],[t]=>match ev s x with
   | some c=>Nz av t c
   | none=>none
  | _,_=>none
 | .min=>match C6 s args with
  | some (.int k x::r)=>mb P6 k x r
  | _=>none
 | .max=>match C6 s args with
  | some (.int k x::r)=>mb imax k x r
  | _=>none
 | _=>none
def fC (av:List (Nat×TI))(s:St):Op->Option CV
 | .move x=>ev s x
 | .assign x=>ev s x
 | .pick c x y=>match ev s c with
  | some (.bool b)=>if b then ev s x else ev s y
  | _=>none
 | .binOp op t x y _=>match ev s x,ev s y with
  | some p,some q=>GM av op t p q
  | _,_=>none
 | .unOp op _ x=>match ev s x with
  | some p=>cun op p
  | none=>none
 | .load t x=>match ev s x,assoc av t with
  | some c,some i=>match ib s c with
   | some cs=>mS i cs
   | none=>none
  | _,_=>none
 | .slice t x lo hi none=>match ev s x with
  | some c=>ma av s t c lo hi
  | none=>none
 | .fieldAddr t x f=>match ev s x with
  | some c=>nN av t c f
  | none=>none
 | .field t x f=>match ev s x with
  | some c=>Bj av t c f
  | none=>none
 | .indexAddr t x i=>match ev s x,ev s i with
  | some c,some (.int _ n)=>Bh av t c n
  | _,_=>none
 | .index t x i=>match ev s x,ev s i with
  | some c,some (.int _ n)=>vT av t c n
  | _,_=>none
 | .extract x i=>match ev s x with
  | some (.cB vs)=>vs[i]?
  | _=>none
 | .makeFunc (.func f) first captured=>if first.isEmpty then (C6 s captured.toList).map (CV.fn f) else none
 | .nilCheck x=>match ev s x with
  | some (.aw o p)=>some (.aw o p)
  | some (.cQ cs)=>some (.cQ cs)
  | some (.fn f cs)=>some (.fn f cs)
  | _=>none
 | .build t parts=>uE av s t parts.toList
 | .call c=>match c.callee with
  | .builtin b=>iK av s b c.args.toList c.argTypes.toList
  | _=>none
 | _=>none
section
variable {P:Program}{C:Cx}{σ:Nat->Option OB}{s:St}{a:Act}{w:World}
theorem NG {F:Nat->Prop}{op:BinOp}{t:TypeId}{p q c:CV}{u v:Value}(hp:VR w F σ p u)(hq:VR w F σ q v)(d:TD)(hd:d=.bool->P.underlying t=some .bool)(hc:Fa op d p q=some c) :
  ∃ x,(binOp op t u v).run P w=.ok x w/\VR w F σ c x:=by
 unfold Fa at hc;split at hc
 ·rename_i k a k' b;simp only[VR] at hp hq;subst hp hq;split at hc
  ·split at hc
   ·cases hc
   ·rename_i hb;cases hc;exact⟨_,by simp[binOp,Op.shift,hb],dU _ _⟩
  ·split at hc
   ·cases hc
   ·rename_i hb;cases hc;exact⟨_,by simp[binOp,Op.shift,hb],dU _ _⟩
  ·rename_i h1 h2;split at hc
   ·rename_i hk;subst hk;exact Lr (λ e=>h1 e) (λ e=>h2 e) hc
   ·cases hc
 ·simp only[VR] at hp hq;subst hp hq;exact I5 hc
 ·rename_i b b';simp only[VR] at hp hq;subst hp hq;split at hc
  ·cases hc;exact⟨_,run_eql_bool w t b b' (hd rfl),dR _⟩
  ·cases hc;exact⟨_,run_neq_bool w t b b' (hd rfl),dR _⟩
  ·cases hc
 ·cases hc
theorem L1 {t e:TypeId}{i:TI}(hT:cA P t i)(hd:i.d=.ptr e):P.underlying t=some (.pointer e):=by
 obtain⟨d,h1,h2⟩:=hT.Bw;rw[hd] at h2;cases d<;>simp only[vi] at h2<;>first | cases h2 | skip
 exact h1
theorem IT {t:TypeId}{i:TI}(hT:cA P t i)(hd:i.d=.func):∃ x y z,P.underlying t=some (.func x y z):=by
 obtain⟨d,h1,h2⟩:=hT.Bw;rw[hd] at h2;cases d<;>simp only[vi] at h2<;>first | cases h2 | skip
 exact⟨_,_,_,h1⟩
theorem oJ (d:Nat){t e:TypeId}(h:P.underlying t=some (.slice e))(A:Option Addr)(n cap:Nat):(Op.equalIn (d+1) t (.slice A n cap) (.slice none 0 0)).run P w=.ok A.isNone w:=by
 cases A<;>simp[Op.equalIn,bz h]
theorem vl (d:Nat){t e:TypeId}(h:P.underlying t=some (.pointer e))(A:Option Addr):(Op.equalIn (d+1) t (.pointer A) (.pointer none)).run P w=.ok A.isNone w:=by
 cases A<;>simp[Op.equalIn,bz h]
theorem wF (d:Nat){t:TypeId}{x y:Array TypeId}{z:Bool}(h:P.underlying t=some (.func x y z))(f:Fn)(u v:Array Value):(Op.equalIn (d+1) t (.func f u v) .nilFunc).run P w=.ok false w:=by
 simp[Op.equalIn,bz h]
theorem rK (d:Nat){t:TypeId}{x y:Array TypeId}{z:Bool}(h:P.underlying t=some (.func x y z)):(Op.equalIn (d+1) t .nilFunc .nilFunc).run P w=.ok true w:=by
 simp[Op.equalIn,bz h]
theorem zJ {av:List (Nat×TI)}(ht:aD P av){F:Nat->Prop}{t:TypeId}{p q:CV}{u v:Value}{b:Bool}(hp:VR w F σ p u)(hq:VR w F σ q v)(hc:xR (dM av t) p q=some b) :
  (Op.equal t u v).run P w=.ok b w/\(∀ cs,u≠.agg cs)/\u≠.nilIface/\
   (∀ k n,u≠.int k n)/\(∀ k n,u≠.float k n)/\(∀ k x y,u≠.complex k x y)/\(∀ x,u≠.string x):=by
 unfold xR at hc;split at hc
 ·rename_i e hd;obtain⟨it,Sk,hd⟩:=Option.map_eq_some_iff.1 hd;have hu:=dI (ht t it Sk) hd;simp only[VR] at hq;subst hq;have key:∃ A n cap,u=.slice A n cap/\(A=none↔b=true):=by
   split at hc
   ·cases hc;simp only[VR] at hp;subst hp;exact⟨_,_,_,rfl,by simp⟩
   ·rename_i cs n;split at hc
    ·cases hc
    ·rename_i hn;cases hc;simp only[VR,cr] at hp;obtain⟨A,cap,rfl,_,_,h4⟩:=hp;rcases h4 with ⟨h4,_⟩ | ⟨ad,rfl,_⟩
     ·exact absurd h4 hn
     ·exact⟨_,_,_,rfl,by simp⟩
   ·rename_i o off n;split at hc
    ·cases hc
    ·rename_i hn;cases hc;simp only[VR] at hp;obtain⟨B,_,hp⟩:=hp;split at hp
     ·exact absurd hp.2.2 hn
     ·obtain⟨cap,rfl,_⟩:=hp;exact⟨_,_,_,rfl,by simp⟩
   ·cases hc
  obtain⟨A,n,cap,rfl,hA⟩:=key;refine⟨?_,by simp,by simp,by simp,by simp,by simp,by simp⟩;have e:A.isNone=b:=by
   cases A with
   | none=>simp[hA.1 rfl]
   | some ad=>cases b;rfl;exact absurd (hA.2 rfl) xr
  rw[<- e];exact oJ 9999 hu A n cap
 ·rename_i e hd;obtain⟨it,Sk,hd⟩:=Option.map_eq_some_iff.1 hd;have hu:=L1 (ht t it Sk) hd;simp only[VR] at hq;subst hq;have key:∃ A,u=.pointer A/\(A=none↔b=true):=by
   split at hc
   ·cases hc;simp only[VR] at hp;subst hp;exact⟨_,rfl,by simp⟩
   ·cases hc;simp only[VR,cr] at hp;obtain⟨ad,rfl,_⟩:=hp;exact⟨_,rfl,by simp⟩
   ·cases hc;simp only[VR] at hp;obtain⟨B,b,_,_,rfl⟩:=hp;exact⟨_,rfl,by simp⟩
   ·cases hc
  obtain⟨A,rfl,hA⟩:=key;refine⟨?_,by simp,by simp,by simp,by simp,by simp,by simp⟩;have e:A.isNone=b:=by
   cases A with
   | none=>simp[hA.1 rfl]
   | some ad=>cases b;rfl;exact absurd (hA.2 rfl) xr
  rw[<- e];exact vl 9999 hu A
 ·rename_i hd;obtain⟨it,Sk,hd⟩:=Option.map_eq_some_iff.1 hd;obtain⟨x,y,z,hu⟩:=IT (ht t it Sk) hd;simp only[VR] at hq;subst hq;split at hc
  ·cases hc;simp only[VR] at hp;subst hp;refine⟨?_,by simp,by simp,by simp,by simp,by simp,by simp⟩;exact rK 9999 hu
  ·cases hc;simp only[VR] at hp;obtain⟨vs,rfl,_⟩:=hp;refine⟨?_,by simp,by simp,by simp,by simp,by simp,by simp⟩;exact wF 9999 hu _ _ _
  ·cases hc
 ·cases hc
theorem lh {op:BinOp}{t:TypeId}{x y:Operand}{u v:Value}(h1:∀ cs,u≠.agg cs)(h2:u≠.nilIface):(eqGuard op t x y u v).run P w=.ok () w:=by
 unfold eqGuard;split
 all_goals first
  | (rw[if_pos SQ];rfl)
  | (rw[if_neg xr]
     split
     ·exact absurd rfl h2
     ·exact absurd rfl (h1 _)
     ·rfl)
theorem jG {t:TypeId}{u v:Value}{b:Bool}(he:(Op.equal t u v).run P w=.ok b w)(h1:∀ k n,u≠.int k n)(h2:∀ k n,u≠.float k n)(h3:∀ k x y,u≠.complex k x y)(h4:∀ x,u≠.string x) :
  (binOp .eql t u v).run P w=.ok (.bool b) w/\(binOp .neq t u v).run P w=.ok (.bool (!b)) w:=by
 constructor
 ·unfold binOp;split<;>first | exact absurd rfl (h1 _ _) | exact absurd rfl (h2 _ _) | exact absurd rfl (h3 _ _ _) | exact absurd rfl (h4 _) | (simp_all;done)
 ·unfold binOp;split<;>first | exact absurd rfl (h1 _ _) | exact absurd rfl (h2 _ _) | exact absurd rfl (h3 _ _ _) | exact absurd rfl (h4 _) | (simp_all;done)
theorem Aj {F:Nat->Prop}{p:CV}{u:Value}(hp:VR w F σ p u)(h:∀ cs,p≠.agg cs)(ha:p≠.any)(hi:∀ t cs,p≠.iface t cs):(∀ cs,u≠.agg cs)/\u≠.nilIface:=by
 cases p<;>simp only[VR,cr] at hp
 case agg cs=>exact absurd rfl (h cs)
 case ax=>obtain⟨A,cap,rfl,_⟩:=hp;simp
 case cQ=>obtain⟨ad,rfl,_⟩:=hp;simp
 case fn=>obtain⟨vs,rfl,_⟩:=hp;simp
 case iface t cs=>exact absurd rfl (hi t cs)
 case iter=>obtain⟨B,r,_,_,rfl,_⟩:=hp;simp
 case mp=>obtain⟨B,r,arr,clock,_,_,rfl,_⟩:=hp;simp
 case cB=>obtain⟨vs,rfl,_⟩:=hp;simp
 case bb=>
  obtain⟨B,_,hp⟩:=hp;split at hp
  ·obtain⟨rfl,_⟩:=hp;simp
  ·obtain⟨cap,rfl,_⟩:=hp;simp
 case aw=>obtain⟨B,b,_,_,rfl⟩:=hp;simp
 case any=>exact absurd rfl ha
 all_goals (subst hp;simp)
theorem Lh {av:List (Nat×TI)}(ht:aD P av){F:Nat->Prop}{op:BinOp}{t:TypeId}{p q c:CV}{u v:Value}(hp:VR w F σ p u)(hq:VR w F σ q v)(hc:GM av op t p q=some c) :
  ∃ z,(∀ x y,(eqGuard op t x y u v).run P w=.ok () w)/\(binOp op t u v).run P w=.ok z w/\VR w F σ c z:=by
 have fin:∀ (_:∀ cs,p≠.agg cs) (_:p≠.any) (_:∀ t cs,p≠.iface t cs) (d:TD),(d=.bool->P.underlying t=some .bool)->Fa op d p q=some c->∃ z,(∀ x y,(eqGuard op t x y u v).run P w=.ok () w)/\(binOp op t u v).run P w=.ok z w/\VR w F σ c z:=λ hn WZ Up d hd h=>by
  obtain⟨h1,h2⟩:=Aj hp hn WZ Up;obtain⟨z,k1,k2⟩:=NG hp hq d hd h;exact⟨z,λ _ _=>lh h1 h2,k1,k2⟩
 unfold GM at hc;split at hc
 ·exact fin xr xr xr _ xr hc
 ·exact fin xr xr xr _ xr hc
 ·split at hc
  ·rename_i d hd;obtain⟨it,Sk,hd⟩:=Option.map_eq_some_iff.1 hd;exact fin xr xr xr d (λ e=>IU (ht t it Sk) (by rw[hd,e])) hc
  ·cases hc
 ·split at hc
  ·obtain⟨b,hb,rfl⟩:=Option.map_eq_some_iff.1 hc;obtain⟨h1,h3,h4,h5,h6,h7,h8⟩:=zJ ht hp hq hb;exact⟨_,λ _ _=>lh h3 h4,(jG h1 h5 h6 h7 h8).1,dR _⟩
  ·obtain⟨b,hb,rfl⟩:=Option.map_eq_some_iff.1 hc;obtain⟨h1,h3,h4,h5,h6,h7,h8⟩:=zJ ht hp hq hb;exact⟨_,λ _ _=>lh h3 h4,(jG h1 h5 h6 h7 h8).2,dR _⟩
  ·cases hc
theorem Qn {F:Nat->Prop}{op:UnOp}{p c:CV}{u:Value}(hp:VR w F σ p u)(hc:cun op p=some c):∃ z,(Op.unary op u).run P w=.ok z w/\VR w F σ c z:=by
 unfold cun at hc;split at hc
 ·cases hc;simp only[VR] at hp;subst hp;exact⟨_,by simp[Op.unary],dR _⟩
 ·cases hc;simp only[VR] at hp;subst hp;exact⟨_,by simp[Op.unary,Op.intArith],dU _ _⟩
 ·cases hc
theorem DG {F:Nat->Prop}{k:IntKind}{x:Int}{cs:List CV}{vs:List Value}(h:a6 w F σ (.int k x::cs) vs):∃ r,vs=.int k x::r/\a6 w F σ cs r:=by
 simp only[a6] at h;obtain⟨v,r,rfl,h1,h2⟩:=h;simp only[VR] at h1;subst h1;exact⟨r,rfl,h2⟩
theorem Du {av:List (Nat×TI)}(ht:aD P av)(h:aQ C σ s a w){b:Builtin}{args:List Operand}{ts:Array TypeId}{ty:TypeId}{c:CV}(hc:iK av s b args ts.toList=some c) :
  ∃ z,(∀ cons,(builtin b ts ty cons (args.map a.eval).toArray).run P w=.ok (.value z) w)/\VR w (FB C σ s.heap) σ c z:=by
 unfold iK at hc;split at hc
 ·split at hc
  ·rename_i x t Si;split at hc
   ·rename_i c' he;obtain⟨u,k1,k2⟩:=Ny (P:=P) (ty:=ty) ht (bF h he) hc;have:ts=#[t]:=by rw[<- Array.toArray_toList (xs:=ts),Si]
    subst this;exact⟨u,λ _=>by simp[builtin,k1],k2⟩
   ·cases hc
  ·cases hc
 ·split at hc
  ·rename_i k x r he;obtain⟨rs,e,hr⟩:=DG (qJ h _ _ he);obtain⟨u,k1,k2⟩:=GC (P:=P) _ _ _ _ hr hc;exact⟨u,λ _=>by simp[builtin,Builtin.min_,e,k1],k2⟩
  ·cases hc
 ·split at hc
  ·rename_i k x r he;obtain⟨rs,e,hr⟩:=DG (qJ h _ _ he);obtain⟨u,k1,k2⟩:=GD (P:=P) _ _ _ _ hr hc;exact⟨u,λ _=>by simp[builtin,Builtin.max_,e,k1],k2⟩
  ·cases hc
 ·cases hc
theorem Au {av:List (Nat×TI)}(ht:aD P av)(h:aQ C σ s a w)(o:Oper){c:CV}(hc:fC av s o.op=some c) :
  ∃ z,(execOp a.eval o).run P w=.ok (.value z) w/\VR w (FB C σ s.heap) σ c z:=by
 obtain⟨dst,op,ty,pos,after,guard⟩:=o;unfold fC at hc;simp only at hc;split at hc
 ·exact⟨_,by simp[execOp],bF h hc⟩
 ·exact⟨_,by simp[execOp],bF h hc⟩
 ·rename_i c' x y;split at hc
  ·rename_i b he;have hb:=bF h he;simp only[VR] at hb;split at hc
   ·rename_i YY;subst YY;exact⟨_,by simp[execOp,hb,asBool],bF h hc⟩
   ·rename_i YY;rw[Bool.not_eq_true] at YY;subst YY;exact⟨_,by simp[execOp,hb,asBool],bF h hc⟩
  ·cases hc
 ·split at hc
  ·rename_i p q hp hq;obtain⟨z,k0,k1,k2⟩:=Lh (P:=P) ht (bF h hp) (bF h hq) hc;exact⟨z,by simp only[execOp,Sem.run_bind,k0,k1,Result.andThen_ok,Sem.run_pure],k2⟩
  ·cases hc
 ·split at hc
  ·rename_i p hp;obtain⟨z,k1,k2⟩:=Qn (P:=P) (bF h hp) hc;exact⟨z,by simp[execOp,k1],k2⟩
  ·cases hc
 ·split at hc
  ·rename_i c' i hx hi;split at hc
   ·rename_i cs hm;obtain⟨ad,e,Sw⟩:=CC h (bF h hx) hm;obtain⟨z,k1,k2⟩:=Dr (P:=P) (ht _ i hi) Sw hc;exact⟨z,by simp[execOp,Instr.loadAt,e,Instr.sureAddr,k1],k2⟩
   ·cases hc
  ·cases hc
 ·split at hc
  ·rename_i c' hx;obtain⟨z,k1,k2⟩:=HZ (P:=P) ht h (bF h hx) hc;exact⟨z,by simp[execOp,k1],k2⟩
  ·cases hc
 ·split at hc
  ·rename_i c' hx;obtain⟨z,k1,k2⟩:=qo (P:=P) ht (bF h hx) hc;exact⟨z,by simp[execOp,k1],k2⟩
  ·cases hc
 ·split at hc
  ·rename_i c' hx;obtain⟨z,k1,k2⟩:=H6 (P:=P) ht (bF h hx) hc;exact⟨z,by simp[execOp,k1],k2⟩
  ·cases hc
 ·split at hc
  ·rename_i c' k n hx hi;have hn:=bF h hi;simp only[VR] at hn;obtain⟨z,k1,k2⟩:=zL (P:=P) (k:=k) ht (bF h hx) hc;exact⟨z,by simp[execOp,hn,k1],k2⟩
  ·cases hc
 ·split at hc
  ·rename_i c' k n hx hi;have hn:=bF h hi;simp only[VR] at hn;obtain⟨z,k1,k2⟩:=E8 (P:=P) (k:=k) ht (bF h hx) hc;exact⟨z,by simp[execOp,hn,k1],k2⟩
  ·cases hc
 ·split at hc
  ·rename_i vs hx;have hv:=bF h hx;simp only[VR] at hv;obtain⟨us,e,hr⟩:=hv;obtain⟨z,k1,k2⟩:=a6.get _ _ hr _ _ hc;exact⟨z,by simp[execOp,e,Instr.extract,k1],k2⟩
  ·cases hc
 ·rename_i f first captured
  split at hc
  ·rename_i hf;obtain⟨cs,Sw,rfl⟩:=Option.map_eq_some_iff.1 hc;have:=qJ h _ _ Sw;have e:first=#[]:=by simpa using hf
   subst e;refine⟨.func (.func f) #[] (captured.map a.eval),by simp[execOp,Instr.makeFunc],?_⟩;simp only[VR];exact⟨captured.toList.map a.eval,by rw[<- map_toArray],this⟩
  ·cases hc
 ·split at hc
  ·rename_i o p hx;cases hc;have hv:=bF h hx;have UH:=hv;simp only[VR] at UH;obtain⟨B,b,_,_,e⟩:=UH;exact⟨_,by simp only[execOp,e];rfl,by rw[<- e];exact hv⟩
  ·rename_i cs hx;cases hc;have hv:=bF h hx;have UH:=hv;simp only[VR,cr] at UH;obtain⟨ad,e,_⟩:=UH;exact⟨_,by simp only[execOp,e];rfl,by rw[<- e];exact hv⟩
  ·rename_i f cs hx;cases hc;have hv:=bF h hx;have UH:=hv;simp only[VR] at UH;obtain⟨vs,e,_⟩:=UH;exact⟨_,by simp only[execOp,e];rfl,by rw[<- e];exact hv⟩
  ·cases hc
 ·rename_i t parts;obtain⟨z,k1,k2⟩:=H9 (P:=P) ht h hc;refine⟨z,?_,k2⟩;have e:(parts.map λ (x:Nat×Operand)=>(x.1,a.eval x.2))=(parts.toList.map λ (p:Nat×Operand)=>(p.1,a.eval p.2)).toArray:=by
   rw[<- map_toArray]
  simp only[execOp,e,Sem.run_bind,k1,Result.andThen_ok,Sem.run_pure]
 ·rename_i cl;split at hc
  ·rename_i b Um;obtain⟨z,k1,k2⟩:=Du (P:=P) (ty:=ty) ht h hc;refine⟨z,?_,k2⟩;have e:(cl.args.toList.map a.eval).toArray=cl.args.map a.eval:=by rw[<- map_toArray]
   rw[e] at k1;simp only[execOp,resolve,Um,Sem.run_bind,Sem.run_pure,Result.andThen_ok,invoke,k1]
  ·cases hc
 ·cases hc
end
section
variable {P:Program}{C:Cx}{σ:Nat->Option OB}{s:St}{a:Act}{w:World}
theorem qV (H:List (Nat×Ob))(o:Nat)(x:Ob):FB C σ (uN H o x)=FB C σ H:=by
 funext b;apply propext;unfold FB;constructor
 ·rintro (h | ⟨p,ob,h,hb⟩)
  ·exact .inl h
  ·rw[fN] at h;split at h
   ·rename_i e;subst e;obtain⟨y,hy,_⟩:=Option.map_eq_some_iff.1 h;exact .inr ⟨o,y,hy,hb⟩
   ·exact .inr ⟨p,ob,h,hb⟩
 ·rintro (h | ⟨p,ob,h,hb⟩)
  ·exact .inl h
  ·by_cases e:o=p
   ·subst e;exact .inr ⟨o,x,by rw[fN,if_pos rfl,h];rfl,hb⟩
   ·exact .inr ⟨p,ob,by rw[fN,if_neg e];exact h,hb⟩
theorem HQ {F:Nat->Prop}{b:Nat}{cs:Array Value}(hb:F b):cO w (w.setRow b cs) F F:=
 ⟨λ ad u hf hu=>⟨by rw[World.cell?_of_block (w:=w) (setRow_other w b ad.block cs (λ e=>hf (e ▸ hb)))];exact hu,hf⟩,
  λ r _ hf hu _=>⟨by rw[setRow_other w b r cs (λ e=>hf (e ▸ hb))];exact hu,hf⟩⟩
theorem xq {F:Nat->Prop}:cO w w.drew F F:=⟨λ _ _ hf hu=>⟨hu,hf⟩,λ _ _ hf hu _=>⟨hu,hf⟩⟩
theorem ll {w':World}{row:Option Nat}{F F':Nat->Prop}(hg:w.grownBy w' row)(hr:∀ b,row=some b->F b)(hF:∀ b,F' b->F b\/w.heap.size<=b):cO w w' F F':=by
 refine⟨λ ad u hf hu=>?_,λ r _ hf hu _=>?_⟩
 ·have RS:=World.block_lt_of_cell? w ad hu;refine⟨by rw[World.cell?_of_block (w:=w) (hg.block ad.block RS (λ e=>hf (hr _ e.symm)))];exact hu,λ h=>?_⟩;rcases hF _ h with h | h
  ·exact hf h
  ·omega
 ·have RS:=(Array.getElem?_eq_some_iff.1 hu).1;refine⟨by rw[hg.block r RS (λ e=>hf (hr _ e.symm))];exact hu,λ h=>?_⟩;rcases hF _ h with h | h
  ·exact hf h
  ·omega
mutual
theorem VR.refs {F:Nat->Prop}:∀ (c:CV) (v:Value) (o:Nat),VR w F σ c v->aP o c=false->∃ B,σ o=some B
 | .int _ _,_,_,_,h=>by simp[aP] at h
 | .bool _,_,_,_,h=>by simp[aP] at h
 | .str _,_,_,_,h=>by simp[aP] at h
 | .aj,_,_,_,h=>by simp[aP] at h
 | .bJ,_,_,_,h=>by simp[aP] at h
 | .cE,_,_,_,h=>by simp[aP] at h
 | .iter p _ _,v,o,hv,h=>by
  simp only[aP,bne_eq_false_iff_eq] at h;subst h;simp only[VR] at hv;obtain⟨B,r,hB,_⟩:=hv;exact⟨B,hB⟩
 | .mp p _,v,o,hv,h=>by
  simp only[aP,bne_eq_false_iff_eq] at h;subst h;simp only[VR] at hv;obtain⟨B,r,arr,clock,hB,_⟩:=hv;exact⟨B,hB⟩
 | .ax _ _,_,_,_,h=>by simp[aP] at h
 | .cQ _,_,_,_,h=>by simp[aP] at h
 | .agg cs,v,o,hv,h=>by
  simp only[VR] at hv;obtain⟨vs,_,r,_⟩:=hv;exact a6.refs cs vs o r (by simpa [aP] using h)
 | .fn _ cs,v,o,hv,h=>by
  simp only[VR] at hv;obtain⟨vs,_,r⟩:=hv;exact a6.refs cs vs o r (by simpa [aP] using h)
 | .iface _ cs,v,o,hv,h=>by
  simp only[VR] at hv;obtain⟨vs,_,r⟩:=hv;exact a6.refs cs vs o r (by simpa [aP] using h)
 | .cB cs,v,o,hv,h=>by
  simp only[VR] at hv;obtain⟨vs,_,r⟩:=hv;exact a6.refs cs vs o r (by simpa [aP] using h)
 | .bb p _ _,v,o,hv,h=>by
  simp only[VR] at hv;obtain⟨B,hB,_⟩:=hv;have:p=o:=by simpa [aP] using h
  subst this;exact⟨B,hB⟩
 | .aw p _,v,o,hv,h=>by
  simp only[VR] at hv;obtain⟨B,b,hB,_⟩:=hv;have:p=o:=by simpa [aP] using h
  subst this;exact⟨B,hB⟩
theorem a6.refs {F:Nat->Prop}:∀ (cs:List CV) (vs:List Value) (o:Nat),a6 w F σ cs vs->ed o cs=false->∃ B,σ o=some B
 | [],_,_,_,h=>by simp[ed] at h
 | c::cs,vs,o,hv,h=>by
  simp only[a6] at hv;obtain⟨v,r,_,h1,h2⟩:=hv;simp only[ed,Bool.and_eq_false_iff] at h;rcases h with h | h
  ·exact VR.refs c v o h1 h
  ·exact a6.refs cs r o h2 h
end
theorem aQ.write (h:aQ C σ s a w){o:Nat}{ob:Ob}{B:OB}{b:Nat}(ho:assoc s.heap o=some ob)(hB:σ o=some B)(hb:B.kf=some b){Tz:List CV}{Yu:List Value}
  (hl:Yu.length=B.room) (Wk:Tz.length<=Yu.length) (hr:a6 w (FB C σ s.heap) σ Tz (Yu.take Tz.length)) (h1:Tz.all one=true) :
  aQ C σ { s with heap:=uN s.heap o { ob with cells:=Tz } } a (w.setRow b Yu.toArray):=by
 obtain⟨B',e1,e2,e3,_,e5⟩:=h.obj o ob ho;rw[hB] at e1;cases e1;obtain⟨cur,k1,k2,k3,k4,k5,k6⟩:=e5 b hb;have hFb:FB C σ s.heap b:=.inr ⟨o,ob,ho,by simp[a7,hB,hb]⟩;have hk:cO w (w.setRow b Yu.toArray) (FB C σ s.heap) (FB C σ s.heap):=HQ hFb;refine⟨h.pQ,h.tm,h.os,h.tape,h.output,by rw[size_setRow];exact h.size,?_,?_,?_,?_,h.nx,h.gA,h.low,h.new⟩
 ·intro b' Sf Sd;rw[setRow_other w b b' _ (λ e=>?_)]
  ·exact h.frame b' Sf Sd
  ·subst e;rcases k4 with k4 | k4
   ·exact Sd k4
   ·omega
 ·intro t c hc;obtain⟨v,h1,h2⟩:=h.env t c hc;simp only[qV];exact⟨v,h1,VR.bG hk c v (λ _ _=>rfl) h2⟩
 ·intro o' R9 Sr;rw[fN] at Sr;split at Sr
  ·rename_i e;subst e;rw[ho] at Sr;cases Sr;refine⟨B,hB,e2,(λ hn=>by rw[hb] at hn;cases hn),h1,λ b' Sf=>?_⟩;rw[hb] at Sf;cases Sf;refine⟨Yu.toArray,setRow_heap w b cur _ _ _ k1,by simpa using hl,k3,k4,by simpa using Wk,?_⟩;simp only[qV];exact a6.bG hk _ _ (λ _ _=>rfl) (by simpa using hr)
  ·rename_i e;obtain⟨B',m1,m2,m3,m4,m5⟩:=h.obj o' R9 Sr;refine⟨B',m1,m2,m3,m4,λ b' Sf=>?_⟩;obtain⟨cur',n1,n2,n3,n4,n5,n6⟩:=m5 b' Sf;have Sb:b'≠b:=λ eb=>e (h.inj o o' ob R9 b ho Sr (by simp[a7,hB,hb]) (by simp[a7,m1,Sf,eb]));refine⟨cur',by rw[setRow_other w b b' _ Sb];exact n1,n2,n3,n4,n5,?_⟩;simp only[qV];exact a6.bG hk _ _ (λ _ _=>rfl) n6
 ·intro o1 o2 ob1 ob2 b' h1 h2 h3 h4;have:∀ {p:Nat} {x y:Ob},assoc (uN s.heap o x) p=some y->∃ z,assoc s.heap p=some z:=λ {p x y} hp=>by
   rw[fN] at hp;split at hp
   ·rename_i e;subst e;obtain⟨z,hz,_⟩:=Option.map_eq_some_iff.1 hp;exact⟨z,hz⟩
   ·exact⟨_,hp⟩
  obtain⟨z1,VC⟩:=this h1;obtain⟨z2,Ti⟩:=this h2;exact h.inj o1 o2 z1 z2 b' VC Ti h3 h4
def sig (σ:Nat->Option OB)(o:Nat)(B:OB):Nat->Option OB:=λ p=>if p=o then some B else σ p
theorem vE {F:Nat->Prop}{c:CV}{v:Value}{o:Nat}{B:OB}(hn:σ o=none)(h:VR w F σ c v):∀ p,aP p c=false->sig σ o B p=σ p:=λ p hp=>by
 obtain⟨B',Uf⟩:=VR.refs c v p h hp;unfold sig;split
 ·rename_i e;subst e;rw[hn] at Uf;cases Uf
 ·rfl
theorem oE {F:Nat->Prop}{cs:List CV}{vs:List Value}{o:Nat}{B:OB}(hn:σ o=none)(h:a6 w F σ cs vs):∀ p,ed p cs=false->sig σ o B p=σ p:=λ p hp=>by
 obtain⟨B',Uf⟩:=a6.refs cs vs p h hp;unfold sig;split
 ·rename_i e;subst e;rw[hn] at Uf;cases Uf
 ·rfl
theorem aQ.Gr (h:aQ C σ s a w){m nx':Nat}(hn:σ m=none)(Vp:C.n0<=m)(UW:m<nx')(hxx:s.nx<=nx'){w':World}(hg:w.grownBy w' none){ob:Ob}{B:OB}(R0:B.sz=ob.sz)(h1:ob.cells.all one=true)(VP:B.kf=none->ob.cells=[])
  (TQ:∀ b,B.kf=some b->w.heap.size<=b/\∃ cur:Array Value,w'.heap[b]? = some (.cells cur ob.elem (0,0))/\cur.size=B.room/\ob.cells.length<=cur.size/\a6 w (FB C σ s.heap) σ ob.cells (cur.toList.take ob.cells.length)) :
  aQ C (sig σ m B) { s with heap:=(m,ob)::s.heap,nx:=nx' } a w'/\(∀ c v,VR w (FB C σ s.heap) σ c v->VR w' (FB C (sig σ m B) ((m,ob)::s.heap)) (sig σ m B) c v):=by
 have hold:∀ {p x},assoc s.heap p=some x->p≠m:=λ {p x} hp e=>by
  subst e;obtain⟨B',e1,_⟩:=h.obj _ _ hp;rw[hn] at e1;cases e1
 have VI:sig σ m B m=some B:=by simp[sig]
 have hs:∀ {p},p≠m->sig σ m B p=σ p:=λ {p} hp=>by simp[sig,hp]
 have hF:∀ b,FB C (sig σ m B) ((m,ob)::s.heap) b->FB C σ s.heap b\/w.heap.size<=b:=by
  rintro b (hb | ⟨p,x,hp,hb⟩)
  ·exact .inl (.inl hb)
  ·simp only[assoc] at hp;split at hp
   ·rename_i e;subst e;simp only[a7,VI,Option.bind_some] at hb;exact .inr (TQ b hb).1
   ·have:=hold hp;simp only[a7,hs this] at hb;exact .inl (.inr ⟨p,x,hp,hb⟩)
 have hk:cO w w' (FB C σ s.heap) (FB C (sig σ m B) ((m,ob)::s.heap)):=ll hg (λ b e=>by cases e) hF;refine⟨⟨h.pQ,h.tm,hg.os.trans h.os,hg.tape.trans h.tape,hg.output.trans h.output,Nat.le_trans h.size hg.size,?_,?_,?_,?_,?_,?_,Nat.le_trans h.low hxx,λ o B' b ho Uf hb=>?_⟩,λ c v hv=>VR.bG hk c v (vE hn hv) hv⟩
 ·intro b hb Sd;rw[hg.block b (Nat.lt_of_lt_of_le hb h.size) xr];exact h.frame b hb Sd
 ·intro t c hc;obtain⟨v,k1,k2⟩:=h.env t c hc;exact⟨v,k1,VR.bG hk c v (vE hn k2) k2⟩
 ·intro p x hp;simp only[assoc] at hp;split at hp
  ·rename_i e;subst e;cases hp;refine⟨B,VI,R0,VP,h1,λ b hb=>?_⟩;obtain⟨k0,cur,k1,k2,k3,k4⟩:=TQ b hb;refine⟨cur,k1,k2,λ hf=>?_,.inr (Nat.le_trans h.size k0),k3,a6.bG hk _ _ (oE hn k4) k4⟩;have:=C.hF.1 b hf;have:=h.size;omega
  ·have Sb:=hold hp;obtain⟨B',m1,m2,m3,m4,m5⟩:=h.obj p x hp;refine⟨B',by rw[hs Sb];exact m1,m2,m3,m4,λ b hb=>?_⟩;obtain⟨cur,n1,n2,n3,n4,n5,n6⟩:=m5 b hb;exact⟨cur,by rw[hg.block b (Array.getElem?_eq_some_iff.1 n1).1 xr];exact n1,n2,n3,n4,n5,a6.bG hk _ _ (oE hn n6) n6⟩
 ·intro p q x y b hp hq V8 WN;have key:∀ {r z},assoc s.heap r=some z->a7 σ r=some b->b<w.heap.size:=λ {r z} hr X5=>by
   obtain⟨B',m1,_,_,_,m5⟩:=h.obj r z hr;obtain⟨cur,n1,_⟩:=m5 b (by simpa [a7,m1] using X5);exact (Array.getElem?_eq_some_iff.1 n1).1
  simp only[assoc] at hp hq;split at hp<;>split at hq
  ·rename_i e1 e2;rw[<- e1,<- e2]
  ·rename_i e1 e2;subst e1;have:=hold hq;simp only[a7,VI,Option.bind_some] at V8;have k1:=(TQ b V8).1;have k2:=key hq (by simpa only[a7,hs this] using WN);omega
  ·rename_i e1 e2;subst e2;have:=hold hp;simp only[a7,VI,Option.bind_some] at WN;have k1:=(TQ b WN).1;have k2:=key hp (by simpa only[a7,hs this] using V8);omega
  ·have m1:=hold hp;have m2:=hold hq;exact h.inj p q x y b hp hq (by simpa only[a7,hs m1] using V8) (by simpa only[a7,hs m2] using WN)
 ·intro p hp;have:p≠m:=λ e=>by subst e;exact absurd hp ZE
  rw[hs this];exact h.nx p (Nat.le_trans hxx hp)
 ·intro p hp;have:=h.low;rw[hs (show p≠m by omega)];exact h.gA p hp
 ·by_cases e:o=m
  ·subst e;rw[VI] at Uf;cases Uf;exact .inr (Nat.le_trans h.size (TQ b hb).1)
  ·rw[hs e] at Uf;exact h.new o B' b ho Uf hb
theorem aQ.fresh (h:aQ C σ s a w){w':World}(hg:w.grownBy w' none){ob:Ob}{B:OB}(R0:B.sz=ob.sz)(h1:ob.cells.all one=true)(VP:B.kf=none->ob.cells=[])
  (TQ:∀ b,B.kf=some b->w.heap.size<=b/\∃ cur:Array Value,w'.heap[b]? = some (.cells cur ob.elem (0,0))/\cur.size=B.room/\ob.cells.length<=cur.size/\a6 w (FB C σ s.heap) σ ob.cells (cur.toList.take ob.cells.length)) :
  aQ C (sig σ s.nx B) { s with heap:=(s.nx,ob)::s.heap,nx:=s.nx+1 } a w'/\(∀ c v,VR w (FB C σ s.heap) σ c v->VR w' (FB C (sig σ s.nx B) ((s.nx,ob)::s.heap)) (sig σ s.nx B) c v):=
 h.Gr (h.nx s.nx (Nat.le_refl _)) h.low (Nat.lt_succ_self _) (Nat.le_succ _) hg R0 h1 VP TQ
theorem oX (o:Obj):w.grownBy (w.alloc o) none:=World.grownBy_alloc w o none
def uA (av:List (Nat×TI))(s:St)(t:TypeId)(x:Operand)(v:Operand):Option St:=
 match ev s x,ev s v,assoc av t with
 | some (.aw o off),some c,some i=>
  match assoc s.heap o with
  | none=>none
  | some ob=>if eF c then none else if c.cells.length=i.size/\off+c.cells.length<=ob.cells.length then some { s with heap:=uN s.heap o { ob with cells:=gP ob.cells off c.cells } } else none
 | _,_,_=>none
theorem gj (cells:List CV)(off:Nat)(cs:List CV)(h:off+cs.length<=cells.length):(gP cells off cs).length=cells.length:=by
 simp[gP];omega
theorem zH {av:List (Nat×TI)}(ht:aD P av)(h:aQ C σ s a w){o:Oper}{t:TypeId}{x v:Operand}(ho:o.op=.store t x v){s':St}(hc:uA av s t x v=some s') :
  ∃ w',(execOp a.eval o).run P w=.ok .skip w'/\aQ C σ s' a w'/\w'.heap.size=w.heap.size:=by
 unfold uA at hc;split at hc
 ·rename_i R9 off c i hx hv hi;split at hc
  ·cases hc
  rename_i ob TU;split at hc
  ·cases hc
  rename_i UO;split at hc
  ·rename_i hlen;cases hc;have kx:=bF h hx;have kv:=bF h hv;simp only[VR] at kx;obtain⟨B,b,hB,hb,kx⟩:=kx;obtain⟨B',e1,e2,_,e4,e5⟩:=h.obj _ ob TU;rw[hB] at e1;cases e1;obtain⟨cur,k1,k2,k3,k4,k5,k6⟩:=e5 b hb;obtain⟨f1,f2⟩:=VR.flat c _ (λ cs e=>by subst e;simp[eF] at UO) (λ k s p e=>by subst e;simp[eF] at UO) kv;have fl:=a6.length _ _ f1;obtain⟨f,z,g1,g2,_⟩:=(ht t i hi).info;have RW:=run_storeCells_at P b off ob.elem (a.eval v).cells.toList 0 cur w k1 (by rw[fl];omega) (a6.jh _ _ f2 f1);simp only[Nat.add_zero] at RW;refine⟨_,?_,h.write TU hB hb (Yu:=cur.toList.take off++(a.eval v).cells.toList++cur.toList.drop (off+(a.eval v).cells.toList.length)) ?_ ?_ ?_ (sB off e4 f2),by simp⟩
   ·have R0:(a.eval v).cells.size=f.size:=by rw[g2,<- hlen.1,<- fl];simp
    simp only[execOp,ho,Instr.storeAt,kx,Instr.sureAddr,storeVar,Sem.run_bind,Sem.run_pure,Result.andThen_ok,cP g1];rw[if_neg (by simp[R0])];simp only[RW,Result.andThen_ok]
   ·simp[fl];omega
   ·rw[gj _ _ _ hlen.2];simp[fl];omega
   ·rw[gj _ _ _ hlen.2];have:=vS k6 off f1;have e:(cur.toList.take off++(a.eval v).cells.toList++cur.toList.drop (off+(a.eval v).cells.toList.length)).take ob.cells.length =
      (cur.toList.take ob.cells.length).take off++(a.eval v).cells.toList++(cur.toList.take ob.cells.length).drop (off+(a.eval v).cells.toList.length):=by
     have RY:ob.cells.length<=cur.toList.length:=by simpa using k5
     generalize (a.eval v).cells.toList=us at *;rw[take_append,take_append];simp only[length_append,length_take,take_take,drop_take];rw[Nat.min_eq_right (show off<=ob.cells.length by omega),Nat.min_eq_left (show off<=cur.toList.length by omega),take_of_length_le (show us.length<=ob.cells.length-off by omega)];congr 2
     ·rw[Nat.min_eq_left (show off<=ob.cells.length by omega)]
    rw[e];exact this
  ·cases hc
 ·cases hc
end
end Go.Can
