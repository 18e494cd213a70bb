/- Lemmas. -/
import Derived.Test.YtlkmbdfhdknlgaaGreatW01
import Derived.Maps.AppendAt
namespace Go.Can
open Go.RowKit List
def yf (d:Option TD)(p q:CV):Option Bool:=
 match d,q with
 | some (.sl _),.aj=>match p with
  | .aj=>some true
  | .az _ n=>if n=0 then none else some false
  | .a7 _ _ n=>if n=0 then none else some false
  | _=>none
 | some (.ptr _),.bL=>match p with
  | .bL=>some true
  | .cM _=>some false
  | .ax _ _=>some false
  | _=>none
 | some .func,.cH=>match p with
  | .cH=>some true
  | .fn _ _=>some false
  | _=>none
 | _,_=>none
def G7 (av:List (Nat×TI))(op:BinOp)(t:TypeId)(p q:CV):Option CV:=
 match p,q with
 | .int _ _,.int _ _=>Fw op .Qo p q
 | .str _,.str _=>Fw op .Qo p q
 | .bool _,.bool _=>match dO av t with
  | some d=>Fw op d p q
  | none=>none
 | _,_=>match op with
  | .eql=>(yf (dO av t) p q).map CV.bool
  | .neq=>(yf (dO av t) p q).map λ b=>CV.bool (!b)
  | _=>none
def cun (op:UnOp)(p:CV):Option CV:=
 match op,p with
 | .not,.bool b=>some (.bool (!b))
 | .neg,.int k n=>some (.int k (k.wrap (0-n)))
 | _,_=>none
def je (av:List (Nat×TI))(s:St)(b:Builtin)(args:List Operand)(ts:List TypeId):Option CV:=
 match b with
 | .len=>match args,ts with
  | [x],[t]=>match ev s x with
   | some c=>Oj av t c
   | none=>none
  | _,_=>none
 | .min=>match BK s args with
  | some (.int k x::r)=>mI QK k x r
  | _=>none
 | .max=>match BK s args with
  | some (.int k x::r)=>mI imax k x r
  | _=>none
 | _=>none
def fD (av:List (Nat×TI))(s:St):Op->Option CV
 | .move x=>ev s x
 | .assign x=>ev s x
 | .pick c x y=>match ev s c with
  | some (.bool b)=>if b then ev s x else ev s y
  | _=>none
 | .binOp op t x y _=>match ev s x,ev s y with
  | some p,some q=>G7 av op t p q
  | _,_=>none
 | .unOp op _ x=>match ev s x with
  | some p=>cun op p
  | none=>none
 | .load t x=>match ev s x,assoc av t with
  | some c,some i=>match iA s c with
   | some cs=>nu i cs
   | none=>none
  | _,_=>none
 | .slice t x lo hi none=>match ev s x with
  | some c=>mG av s t c lo hi
  | none=>none
 | .fieldAddr t x f=>match ev s x with
  | some c=>og av t c f
  | none=>none
 | .field t x f=>match ev s x with
  | some c=>Br av t c f
  | none=>none
 | .indexAddr t x i=>match ev s x,ev s i with
  | some c,some (.int _ n)=>Bp av t c n
  | _,_=>none
 | .index t x i=>match ev s x,ev s i with
  | some c,some (.int _ n)=>wF av t c n
  | _,_=>none
 | .extract x i=>match ev s x with
  | some (.cF vs)=>vs[i]?
  | _=>none
 | .makeFunc (.func f) first captured=>if first.isEmpty then (BK s captured.toList).map (CV.fn f) else none
 | .nilCheck x=>match ev s x with
  | some (.ax o p)=>some (.ax o p)
  | some (.cM cs)=>some (.cM cs)
  | some (.fn f cs)=>some (.fn f cs)
  | _=>none
 | .build t parts=>uW av s t parts.toList
 | .call c=>match c.callee with
  | .builtin b=>je av s b c.args.toList c.argTypes.toList
  | _=>none
 | _=>none
section
variable {P:Program}{C:Cx}{U:Nat->Option OB}{s:St}{a:Act}{w:World}
theorem Ot {F:Nat->Prop}{op:BinOp}{t:TypeId}{p q c:CV}{u v:Value}(hp:VR w F U p u)(hq:VR w F U q v)(d:TD)(hd:d=.bool->P.underlying t=some .bool)(hc:Fw op d p q=some c) :
  ∃ x,(binOp op t u v).run P w=.ok x w/\VR w F U c x:=by
 unfold Fw at hc;split at hc
 .rename_i k a k' b;simp only[VR] at hp hq;subst hp hq;split at hc
  .split at hc
   .cases hc
   .rename_i hb;cases hc;exact⟨_,by simp[binOp,Op.shift,hb],dY _ _⟩
  .split at hc
   .cases hc
   .rename_i hb;cases hc;exact⟨_,by simp[binOp,Op.shift,hb],dY _ _⟩
  .rename_i h1 h2;split at hc
   .rename_i hk;subst hk;exact L3 (λ e=>h1 e) (λ e=>h2 e) hc
   .cases hc
 .simp only[VR] at hp hq;subst hp hq;exact Jv hc
 .rename_i b b';simp only[VR] at hp hq;subst hp hq;split at hc
  .cases hc;exact⟨_,run_eql_bool w t b b' (hd rfl),dU _⟩
  .cases hc;exact⟨_,run_neq_bool w t b b' (hd rfl),dU _⟩
  .cases hc
 .cases hc
theorem MD {t e:TypeId}{i:TI}(hT:cE P t i)(hd:i.d=.ptr e):P.underlying t=some (.pointer e):=by
 obtain⟨d,h1,h2⟩:=hT.BF;rw[hd] at h2;cases d<;>simp only[vH] at h2<;>first | cases h2 | skip
 exact h1
theorem Ji {t:TypeId}{i:TI}(hT:cE P t i)(hd:i.d=.func):∃ x y z,P.underlying t=some (.func x y z):=by
 obtain⟨d,h1,h2⟩:=hT.BF;rw[hd] at h2;cases d<;>simp only[vH] at h2<;>first | cases h2 | skip
 exact⟨_,_,_,h1⟩
theorem o0 (d:Nat){t e:TypeId}(h:P.underlying t=some (.slice e))(A:Option Addr)(n cap:Nat):(Op.equalIn (d+1) t (.slice A n cap) (.slice none 0 0)).run P w=.ok A.isNone w:=by
 cases A<;>simp[Op.equalIn,bB h]
theorem vJ (d:Nat){t e:TypeId}(h:P.underlying t=some (.pointer e))(A:Option Addr):(Op.equalIn (d+1) t (.pointer A) (.pointer none)).run P w=.ok A.isNone w:=by
 cases A<;>simp[Op.equalIn,bB h]
theorem xf (d:Nat){t:TypeId}{x y:Array TypeId}{z:Bool}(h:P.underlying t=some (.func x y z))(f:Fn)(u v:Array Value):(Op.equalIn (d+1) t (.func f u v) .nilFunc).run P w=.ok false w:=by
 simp[Op.equalIn,bB h]
theorem sA (d:Nat){t:TypeId}{x y:Array TypeId}{z:Bool}(h:P.underlying t=some (.func x y z)):(Op.equalIn (d+1) t .nilFunc .nilFunc).run P w=.ok true w:=by
 simp[Op.equalIn,bB h]
theorem zZ {av:List (Nat×TI)}(ht:aF P av){F:Nat->Prop}{t:TypeId}{p q:CV}{u v:Value}{b:Bool}(hp:VR w F U p u)(hq:VR w F U q v)(hc:yf (dO av t) p q=some b) :
  (Op.equal t u v).run P w=.ok b w/\(∀ cs,u≠.agg cs)/\u≠.nilIface/\
   (∀ k n,u≠.int k n)/\(∀ k n,u≠.float k n)/\(∀ k x y,u≠.complex k x y)/\(∀ x,u≠.string x):=by
 unfold yf at hc;split at hc
 .rename_i e hd;obtain⟨it,SW,hd⟩:=Option.map_eq_some_iff.1 hd;have hu:=dK (ht t it SW) hd;simp only[VR] at hq;subst hq;have key:∃ A n cap,u=.slice A n cap/\(A=none↔b=true):=by
   split at hc
   .cases hc;simp only[VR] at hp;subst hp;exact⟨_,_,_,rfl,by simp⟩
   .rename_i cs n;split at hc
    .cases hc
    .rename_i hn;cases hc;simp only[VR,cj] at hp;obtain⟨A,cap,rfl,_,_,h4⟩:=hp;rcases h4 with ⟨h4,_⟩ | ⟨ad,rfl,_⟩
     .exact absurd h4 hn
     .exact⟨_,_,_,rfl,by simp⟩
   .rename_i o off n;split at hc
    .cases hc
    .rename_i hn;cases hc;simp only[VR] at hp;obtain⟨B,_,hp⟩:=hp;split at hp
     .exact absurd hp.2.2 hn
     .obtain⟨cap,rfl,_⟩:=hp;exact⟨_,_,_,rfl,by simp⟩
   .cases hc
  obtain⟨A,n,cap,rfl,hA⟩:=key;refine⟨?_,by simp,by simp,by simp,by simp,by simp,by simp⟩;have e:A.isNone=b:=by
   cases A with
   | none=>simp[hA.1 rfl]
   | some ad=>cases b;rfl;exact absurd (hA.2 rfl) xr
  rw[<- e];exact o0 9999 hu A n cap
 .rename_i e hd;obtain⟨it,SW,hd⟩:=Option.map_eq_some_iff.1 hd;have hu:=MD (ht t it SW) hd;simp only[VR] at hq;subst hq;have key:∃ A,u=.pointer A/\(A=none↔b=true):=by
   split at hc
   .cases hc;simp only[VR] at hp;subst hp;exact⟨_,rfl,by simp⟩
   .cases hc;simp only[VR,cj] at hp;obtain⟨ad,rfl,_⟩:=hp;exact⟨_,rfl,by simp⟩
   .cases hc;simp only[VR] at hp;obtain⟨B,b,_,_,rfl⟩:=hp;exact⟨_,rfl,by simp⟩
   .cases hc
  obtain⟨A,rfl,hA⟩:=key;refine⟨?_,by simp,by simp,by simp,by simp,by simp,by simp⟩;have e:A.isNone=b:=by
   cases A with
   | none=>simp[hA.1 rfl]
   | some ad=>cases b;rfl;exact absurd (hA.2 rfl) xr
  rw[<- e];exact vJ 9999 hu A
 .rename_i hd;obtain⟨it,SW,hd⟩:=Option.map_eq_some_iff.1 hd;obtain⟨x,y,z,hu⟩:=Ji (ht t it SW) hd;simp only[VR] at hq;subst hq;split at hc
  .cases hc;simp only[VR] at hp;subst hp;refine⟨?_,by simp,by simp,by simp,by simp,by simp,by simp⟩;exact sA 9999 hu
  .cases hc;simp only[VR] at hp;obtain⟨vs,rfl,_⟩:=hp;refine⟨?_,by simp,by simp,by simp,by simp,by simp,by simp⟩;exact xf 9999 hu _ _ _
  .cases hc
 .cases hc
theorem lQ {op:BinOp}{t:TypeId}{x y:Operand}{u v:Value}(h1:∀ cs,u≠.agg cs)(h2:u≠.nilIface):(eqGuard op t x y u v).run P w=.ok () w:=by
 unfold eqGuard;split
 all_goals first
  | (rw[if_pos Ts];rfl)
  | (rw[if_neg xr]
     split
     .exact absurd rfl h2
     .exact absurd rfl (h1 _)
     .rfl)
theorem j5 {t:TypeId}{u v:Value}{b:Bool}(he:(Op.equal t u v).run P w=.ok b w)(h1:∀ k n,u≠.int k n)(h2:∀ k n,u≠.float k n)(h3:∀ k x y,u≠.complex k x y)(h4:∀ x,u≠.string x) :
  (binOp .eql t u v).run P w=.ok (.bool b) w/\(binOp .neq t u v).run P w=.ok (.bool (!b)) w:=by
 constructor
 .unfold binOp;split<;>first | exact absurd rfl (h1 _ _) | exact absurd rfl (h2 _ _) | exact absurd rfl (h3 _ _ _) | exact absurd rfl (h4 _) | (simp_all;done)
 .unfold binOp;split<;>first | exact absurd rfl (h1 _ _) | exact absurd rfl (h2 _ _) | exact absurd rfl (h3 _ _ _) | exact absurd rfl (h4 _) | (simp_all;done)
theorem Av {F:Nat->Prop}{p:CV}{u:Value}(hp:VR w F U p u)(h:∀ cs,p≠.agg cs)(ha:p≠.any)(hi:∀ t cs,p≠.iface t cs):(∀ cs,u≠.agg cs)/\u≠.nilIface:=by
 cases p<;>simp only[VR,cj] at hp
 case agg cs=>exact absurd rfl (h cs)
 case az=>obtain⟨A,cap,rfl,_⟩:=hp;simp
 case cM=>obtain⟨ad,rfl,_⟩:=hp;simp
 case fn=>obtain⟨vs,rfl,_⟩:=hp;simp
 case iface t cs=>exact absurd rfl (hi t cs)
 case iter=>obtain⟨B,r,_,_,rfl,_⟩:=hp;simp
 case mp=>obtain⟨B,r,arr,clock,_,_,rfl,_⟩:=hp;simp
 case cF=>obtain⟨vs,rfl,_⟩:=hp;simp
 case a7=>
  obtain⟨B,_,hp⟩:=hp;split at hp
  .obtain⟨rfl,_⟩:=hp;simp
  .obtain⟨cap,rfl,_⟩:=hp;simp
 case ax=>obtain⟨B,b,_,_,rfl⟩:=hp;simp
 case any=>exact absurd rfl ha
 all_goals (subst hp;simp)
theorem LQ {av:List (Nat×TI)}(ht:aF P av){F:Nat->Prop}{op:BinOp}{t:TypeId}{p q c:CV}{u v:Value}(hp:VR w F U p u)(hq:VR w F U q v)(hc:G7 av op t p q=some c) :
  ∃ z,(∀ x y,(eqGuard op t x y u v).run P w=.ok () w)/\(binOp op t u v).run P w=.ok z w/\VR w F U c z:=by
 have fin:∀ (_:∀ cs,p≠.agg cs) (_:p≠.any) (_:∀ t cs,p≠.iface t cs) (d:TD),(d=.bool->P.underlying t=some .bool)->Fw op d p q=some c->∃ z,(∀ x y,(eqGuard op t x y u v).run P w=.ok () w)/\(binOp op t u v).run P w=.ok z w/\VR w F U c z:=λ hn XF U5 d hd h=>by
  obtain⟨h1,h2⟩:=Av hp hn XF U5;obtain⟨z,k1,k2⟩:=Ot hp hq d hd h;exact⟨z,λ _ _=>lQ h1 h2,k1,k2⟩
 unfold G7 at hc;split at hc
 .exact fin xr xr xr _ xr hc
 .exact fin xr xr xr _ xr hc
 .split at hc
  .rename_i d hd;obtain⟨it,SW,hd⟩:=Option.map_eq_some_iff.1 hd;exact fin xr xr xr d (λ e=>Jj (ht t it SW) (by rw[hd,e])) hc
  .cases hc
 .split at hc
  .obtain⟨b,hb,rfl⟩:=Option.map_eq_some_iff.1 hc;obtain⟨h1,h3,h4,h5,h6,h7,h8⟩:=zZ ht hp hq hb;exact⟨_,λ _ _=>lQ h3 h4,(j5 h1 h5 h6 h7 h8).1,dU _⟩
  .obtain⟨b,hb,rfl⟩:=Option.map_eq_some_iff.1 hc;obtain⟨h1,h3,h4,h5,h6,h7,h8⟩:=zZ ht hp hq hb;exact⟨_,λ _ _=>lQ h3 h4,(j5 h1 h5 h6 h7 h8).2,dU _⟩
  .cases hc
theorem Q0 {F:Nat->Prop}{op:UnOp}{p c:CV}{u:Value}(hp:VR w F U p u)(hc:cun op p=some c):∃ z,(Op.unary op u).run P w=.ok z w/\VR w F U c z:=by
 unfold cun at hc;split at hc
 .cases hc;simp only[VR] at hp;subst hp;exact⟨_,by simp[Op.unary],dU _⟩
 .cases hc;simp only[VR] at hp;subst hp;exact⟨_,by simp[Op.unary,Op.intArith],dY _ _⟩
 .cases hc
theorem DU {F:Nat->Prop}{k:IntKind}{x:Int}{cs:List CV}{vs:List Value}(h:aZ w F U (.int k x::cs) vs):∃ r,vs=.int k x::r/\aZ w F U cs r:=by
 simp only[aZ] at h;obtain⟨v,r,rfl,h1,h2⟩:=h;simp only[VR] at h1;subst h1;exact⟨r,rfl,h2⟩
theorem DF {av:List (Nat×TI)}(ht:aF P av)(h:aQ C U s a w){b:Builtin}{args:List Operand}{ts:Array TypeId}{ty:TypeId}{c:CV}(hc:je av s b args ts.toList=some c) :
  ∃ z,(∀ cons,(builtin b ts ty cons (args.map a.eval).toArray).run P w=.ok (.value z) w)/\VR w (FB C U s.heap) U c z:=by
 unfold je at hc;split at hc
 .split at hc
  .rename_i x t SM;split at hc
   .rename_i c' he;obtain⟨u,k1,k2⟩:=Oi (P:=P) (ty:=ty) ht (bH h he) hc;have:ts=#[t]:=by rw[<- Array.toArray_toList (xs:=ts),SM]
    subst this;exact⟨u,λ _=>by simp[builtin,k1],k2⟩
   .cases hc
  .cases hc
 .split at hc
  .rename_i k x r he;obtain⟨rs,e,hr⟩:=DU (rv h _ _ he);obtain⟨u,k1,k2⟩:=GZ (P:=P) _ _ _ _ hr hc;exact⟨u,λ _=>by simp[builtin,Builtin.min_,e,k1],k2⟩
  .cases hc
 .split at hc
  .rename_i k x r he;obtain⟨rs,e,hr⟩:=DU (rv h _ _ he);obtain⟨u,k1,k2⟩:=G0 (P:=P) _ _ _ _ hr hc;exact⟨u,λ _=>by simp[builtin,Builtin.max_,e,k1],k2⟩
  .cases hc
 .cases hc
theorem AF {av:List (Nat×TI)}(ht:aF P av)(h:aQ C U s a w)(o:Oper){c:CV}(hc:fD av s o.op=some c) :
  ∃ z,(execOp a.eval o).run P w=.ok (.value z) w/\VR w (FB C U s.heap) U c z:=by
 obtain⟨dst,op,ty,pos,after,guard⟩:=o;unfold fD at hc;simp only at hc;split at hc
 .exact⟨_,by simp[execOp],bH h hc⟩
 .exact⟨_,by simp[execOp],bH h hc⟩
 .rename_i c' x y;split at hc
  .rename_i b he;have hb:=bH h he;simp only[VR] at hb;split at hc
   .rename_i hbt;subst hbt;exact⟨_,by simp[execOp,hb,asBool],bH h hc⟩
   .rename_i hbt;rw[Bool.not_eq_true] at hbt;subst hbt;exact⟨_,by simp[execOp,hb,asBool],bH h hc⟩
  .cases hc
 .split at hc
  .rename_i p q hp hq;obtain⟨z,k0,k1,k2⟩:=LQ (P:=P) ht (bH h hp) (bH h hq) hc;exact⟨z,by simp only[execOp,Sem.run_bind,k0,k1,Result.andThen_ok,Sem.run_pure],k2⟩
  .cases hc
 .split at hc
  .rename_i p hp;obtain⟨z,k1,k2⟩:=Q0 (P:=P) (bH h hp) hc;exact⟨z,by simp[execOp,k1],k2⟩
  .cases hc
 .split at hc
  .rename_i c' i hx hi;split at hc
   .rename_i cs hm;obtain⟨ad,e,S8⟩:=CO h (bH h hx) hm;obtain⟨z,k1,k2⟩:=DB (P:=P) (ht _ i hi) S8 hc;exact⟨z,by simp[execOp,Instr.loadAt,e,Instr.sureAddr,k1],k2⟩
   .cases hc
  .cases hc
 .split at hc
  .rename_i c' hx;obtain⟨z,k1,k2⟩:=Iu (P:=P) ht h (bH h hx) hc;exact⟨z,by simp[execOp,k1],k2⟩
  .cases hc
 .split at hc
  .rename_i c' hx;obtain⟨z,k1,k2⟩:=qK (P:=P) ht (bH h hx) hc;exact⟨z,by simp[execOp,k1],k2⟩
  .cases hc
 .split at hc
  .rename_i c' hx;obtain⟨z,k1,k2⟩:=IA (P:=P) ht (bH h hx) hc;exact⟨z,by simp[execOp,k1],k2⟩
  .cases hc
 .split at hc
  .rename_i c' k n hx hi;have hn:=bH h hi;simp only[VR] at hn;obtain⟨z,k1,k2⟩:=z4 (P:=P) (k:=k) ht (bH h hx) hc;exact⟨z,by simp[execOp,hn,k1],k2⟩
  .cases hc
 .split at hc
  .rename_i c' k n hx hi;have hn:=bH h hi;simp only[VR] at hn;obtain⟨z,k1,k2⟩:=Ft (P:=P) (k:=k) ht (bH h hx) hc;exact⟨z,by simp[execOp,hn,k1],k2⟩
  .cases hc
 .split at hc
  .rename_i vs hx;have hv:=bH h hx;simp only[VR] at hv;obtain⟨us,e,hr⟩:=hv;obtain⟨z,k1,k2⟩:=aZ.get _ _ hr _ _ hc;exact⟨z,by simp[execOp,e,Instr.extract,k1],k2⟩
  .cases hc
 .rename_i f first captured
  split at hc
  .rename_i hf;obtain⟨cs,S8,rfl⟩:=Option.map_eq_some_iff.1 hc;have:=rv h _ _ S8;have e:first=#[]:=by simpa using hf
   subst e;refine⟨.func (.func f) #[] (captured.map a.eval),by simp[execOp,Instr.makeFunc],?_⟩;simp only[VR];exact⟨captured.toList.map a.eval,by rw[<- map_toArray],this⟩
  .cases hc
 .split at hc
  .rename_i o p hx;cases hc;have hv:=bH h hx;have Vq:=hv;simp only[VR] at Vq;obtain⟨B,b,_,_,e⟩:=Vq;exact⟨_,by simp only[execOp,e];rfl,by rw[<- e];exact hv⟩
  .rename_i cs hx;cases hc;have hv:=bH h hx;have Vq:=hv;simp only[VR,cj] at Vq;obtain⟨ad,e,_⟩:=Vq;exact⟨_,by simp only[execOp,e];rfl,by rw[<- e];exact hv⟩
  .rename_i f cs hx;cases hc;have hv:=bH h hx;have Vq:=hv;simp only[VR] at Vq;obtain⟨vs,e,_⟩:=Vq;exact⟨_,by simp only[execOp,e];rfl,by rw[<- e];exact hv⟩
  .cases hc
 .rename_i t parts;obtain⟨z,k1,k2⟩:=ID (P:=P) ht h hc;refine⟨z,?_,k2⟩;have e:(parts.map λ (x:Nat×Operand)=>(x.1,a.eval x.2))=(parts.toList.map λ (p:Nat×Operand)=>(p.1,a.eval p.2)).toArray:=by
   rw[<- map_toArray]
  simp only[execOp,e,Sem.run_bind,k1,Result.andThen_ok,Sem.run_pure]
 .rename_i cl;split at hc
  .rename_i b U0;obtain⟨z,k1,k2⟩:=DF (P:=P) (ty:=ty) ht h hc;refine⟨z,?_,k2⟩;have e:(cl.args.toList.map a.eval).toArray=cl.args.map a.eval:=by rw[<- map_toArray]
   rw[e] at k1;simp only[execOp,resolve,U0,Sem.run_bind,Sem.run_pure,Result.andThen_ok,invoke,k1]
  .cases hc
 .cases hc
end
section
variable {P:Program}{C:Cx}{U:Nat->Option OB}{s:St}{a:Act}{w:World}
theorem rP (H:List (Nat×Ob))(o:Nat)(x:Ob):FB C U (vc H o x)=FB C U H:=by
 funext b;apply propext;unfold FB;constructor
 .rintro (h | ⟨p,ob,h,hb⟩)
  .exact .inl h
  .rw[fX] at h;split at h
   .rename_i e;subst e;obtain⟨y,hy,_⟩:=Option.map_eq_some_iff.1 h;exact .inr ⟨o,y,hy,hb⟩
   .exact .inr ⟨p,ob,h,hb⟩
 .rintro (h | ⟨p,ob,h,hb⟩)
  .exact .inl h
  .by_cases e:o=p
   .subst e;exact .inr ⟨o,x,by rw[fX,if_pos rfl,h];rfl,hb⟩
   .exact .inr ⟨p,ob,by rw[fX,if_neg e];exact h,hb⟩
theorem Ik {F:Nat->Prop}{b:Nat}{cs:Array Value}(hb:F b):cL w (w.setRow b cs) F F:=
 ⟨λ ad u hf hu=>⟨by rw[World.cell?_of_block (w:=w) (setRow_other w b ad.block cs (λ e=>hf (e ▸ hb)))];exact hu,hf⟩,
  λ r _ hf hu _=>⟨by rw[setRow_other w b r cs (λ e=>hf (e ▸ hb))];exact hu,hf⟩⟩
theorem xO {F:Nat->Prop}:cL w w.drew F F:=⟨λ _ _ hf hu=>⟨hu,hf⟩,λ _ _ hf hu _=>⟨hu,hf⟩⟩
theorem lW {w':World}{row:Option Nat}{F F':Nat->Prop}(hg:w.grownBy w' row)(hr:∀ b,row=some b->F b)(hF:∀ b,F' b->F b\/w.heap.size<=b):cL w w' F F':=by
 refine⟨λ ad u hf hu=>?_,λ r _ hf hu _=>?_⟩
 .have P1:=World.block_lt_of_cell? w ad hu;refine⟨by rw[World.cell?_of_block (w:=w) (hg.block ad.block P1 (λ e=>hf (hr _ e.symm)))];exact hu,λ h=>?_⟩;rcases hF _ h with h | h
  .exact hf h
  .omega
 .have P1:=(Array.getElem?_eq_some_iff.1 hu).1;refine⟨by rw[hg.block r P1 (λ e=>hf (hr _ e.symm))];exact hu,λ h=>?_⟩;rcases hF _ h with h | h
  .exact hf h
  .omega
mutual
theorem VR.refs {F:Nat->Prop}:∀ (c:CV) (v:Value) (o:Nat),VR w F U c v->aS o c=false->∃ B,U o=some B
 | .int _ _,_,_,_,h=>by simp[aS] at h
 | .bool _,_,_,_,h=>by simp[aS] at h
 | .str _,_,_,_,h=>by simp[aS] at h
 | .aj,_,_,_,h=>by simp[aS] at h
 | .bL,_,_,_,h=>by simp[aS] at h
 | .cH,_,_,_,h=>by simp[aS] at h
 | .iter p _ _,v,o,hv,h=>by
  simp only[aS,bne_eq_false_iff_eq] at h;subst h;simp only[VR] at hv;obtain⟨B,r,hB,_⟩:=hv;exact⟨B,hB⟩
 | .mp p _,v,o,hv,h=>by
  simp only[aS,bne_eq_false_iff_eq] at h;subst h;simp only[VR] at hv;obtain⟨B,r,arr,clock,hB,_⟩:=hv;exact⟨B,hB⟩
 | .az _ _,_,_,_,h=>by simp[aS] at h
 | .cM _,_,_,_,h=>by simp[aS] at h
 | .agg cs,v,o,hv,h=>by
  simp only[VR] at hv;obtain⟨vs,_,r,_⟩:=hv;exact aZ.refs cs vs o r (by simpa [aS] using h)
 | .fn _ cs,v,o,hv,h=>by
  simp only[VR] at hv;obtain⟨vs,_,r⟩:=hv;exact aZ.refs cs vs o r (by simpa [aS] using h)
 | .iface _ cs,v,o,hv,h=>by
  simp only[VR] at hv;obtain⟨vs,_,r⟩:=hv;exact aZ.refs cs vs o r (by simpa [aS] using h)
 | .cF cs,v,o,hv,h=>by
  simp only[VR] at hv;obtain⟨vs,_,r⟩:=hv;exact aZ.refs cs vs o r (by simpa [aS] using h)
 | .a7 p _ _,v,o,hv,h=>by
  simp only[VR] at hv;obtain⟨B,hB,_⟩:=hv;have:p=o:=by simpa [aS] using h
  subst this;exact⟨B,hB⟩
 | .ax p _,v,o,hv,h=>by
  simp only[VR] at hv;obtain⟨B,b,hB,_⟩:=hv;have:p=o:=by simpa [aS] using h
  subst this;exact⟨B,hB⟩
theorem aZ.refs {F:Nat->Prop}:∀ (cs:List CV) (vs:List Value) (o:Nat),aZ w F U cs vs->ej o cs=false->∃ B,U o=some B
 | [],_,_,_,h=>by simp[ej] at h
 | c::cs,vs,o,hv,h=>by
  simp only[aZ] at hv;obtain⟨v,r,_,h1,h2⟩:=hv;simp only[ej,Bool.and_eq_false_iff] at h;rcases h with h | h
  .exact VR.refs c v o h1 h
  .exact aZ.refs cs r o h2 h
end
theorem aQ.write (h:aQ C U s a w){o:Nat}{ob:Ob}{B:OB}{b:Nat}(ho:assoc s.heap o=some ob)(hB:U o=some B)(hb:B.kW=some b){Uh:List CV}{Zc:List Value}
  (hl:Zc.length=B.room) (W5:Uh.length<=Zc.length) (hr:aZ w (FB C U s.heap) U Uh (Zc.take Uh.length)) (h1:Uh.all one=true) :
  aQ C U { s with heap:=vc s.heap o { ob with cells:=Uh } } a (w.setRow b Zc.toArray):=by
 obtain⟨B',e1,e2,e3,_,e5⟩:=h.obj o ob ho;rw[hB] at e1;cases e1;obtain⟨cur,k1,k2,k3,k4,k5,k6⟩:=e5 b hb;have hFb:FB C U s.heap b:=.inr ⟨o,ob,ho,by simp[a6,hB,hb]⟩;have hk:cL w (w.setRow b Zc.toArray) (FB C U s.heap) (FB C U s.heap):=Ik hFb;refine⟨h.pB,h.tm,h.os,h.tape,h.output,by rw[size_setRow];exact h.size,?_,?_,?_,?_,h.nx,h.gH,h.low,h.new⟩
 .intro b' SS SR;rw[setRow_other w b b' _ (λ e=>?_)]
  .exact h.frame b' SS SR
  .subst e;rcases k4 with k4 | k4
   .exact SR k4
   .omega
 .intro t c hc;obtain⟨v,h1,h2⟩:=h.env t c hc;simp only[rP];exact⟨v,h1,VR.bD hk c v (λ _ _=>rfl) h2⟩
 .intro o' SN Tc;rw[fX] at Tc;split at Tc
  .rename_i e;subst e;rw[ho] at Tc;cases Tc;refine⟨B,hB,e2,(λ hn=>by rw[hb] at hn;cases hn),h1,λ b' SS=>?_⟩;rw[hb] at SS;cases SS;refine⟨Zc.toArray,setRow_heap w b cur _ _ _ k1,by simpa using hl,k3,k4,by simpa using W5,?_⟩;simp only[rP];exact aZ.bD hk _ _ (λ _ _=>rfl) (by simpa using hr)
  .rename_i e;obtain⟨B',m1,m2,m3,m4,m5⟩:=h.obj o' SN Tc;refine⟨B',m1,m2,m3,m4,λ b' SS=>?_⟩;obtain⟨cur',n1,n2,n3,n4,n5,n6⟩:=m5 b' SS;have SL:b'≠b:=λ eb=>e (h.inj o o' ob SN b ho Tc (by simp[a6,hB,hb]) (by simp[a6,m1,SS,eb]));refine⟨cur',by rw[setRow_other w b b' _ SL];exact n1,n2,n3,n4,n5,?_⟩;simp only[rP];exact aZ.bD hk _ _ (λ _ _=>rfl) n6
 .intro o1 o2 ob1 ob2 b' h1 h2 h3 h4;have:∀ {p:Nat} {x y:Ob},assoc (vc s.heap o x) p=some y->∃ z,assoc s.heap p=some z:=λ {p x y} hp=>by
   rw[fX] at hp;split at hp
   .rename_i e;subst e;obtain⟨z,hz,_⟩:=Option.map_eq_some_iff.1 hp;exact⟨z,hz⟩
   .exact⟨_,hp⟩
  obtain⟨z1,Wh⟩:=this h1;obtain⟨z2,T1⟩:=this h2;exact h.inj o1 o2 z1 z2 b' Wh T1 h3 h4
def sig (U:Nat->Option OB)(o:Nat)(B:OB):Nat->Option OB:=λ p=>if p=o then some B else U p
theorem vY {F:Nat->Prop}{c:CV}{v:Value}{o:Nat}{B:OB}(hn:U o=none)(h:VR w F U c v):∀ p,aS p c=false->sig U o B p=U p:=λ p hp=>by
 obtain⟨B',Uz⟩:=VR.refs c v p h hp;unfold sig;split
 .rename_i e;subst e;rw[hn] at Uz;cases Uz
 .rfl
theorem oY {F:Nat->Prop}{cs:List CV}{vs:List Value}{o:Nat}{B:OB}(hn:U o=none)(h:aZ w F U cs vs):∀ p,ej p cs=false->sig U o B p=U p:=λ p hp=>by
 obtain⟨B',Uz⟩:=aZ.refs cs vs p h hp;unfold sig;split
 .rename_i e;subst e;rw[hn] at Uz;cases Uz
 .rfl
theorem aQ.GO (h:aQ C U s a w){m nx':Nat}(hn:U m=none)(V6:C.n0<=m)(VC:m<nx')(hxx:s.nx<=nx'){w':World}(hg:w.grownBy w' none){ob:Ob}{B:OB}(SB:B.sz=ob.sz)(h1:ob.cells.all one=true)(Ww:B.kW=none->ob.cells=[])
  (Ut:∀ b,B.kW=some b->w.heap.size<=b/\∃ cur:Array Value,w'.heap[b]? = some (.cells cur ob.elem (0,0))/\cur.size=B.room/\ob.cells.length<=cur.size/\aZ w (FB C U s.heap) U ob.cells (cur.toList.take ob.cells.length)) :
  aQ C (sig U m B) { s with heap:=(m,ob)::s.heap,nx:=nx' } a w'/\(∀ c v,VR w (FB C U s.heap) U c v->VR w' (FB C (sig U m B) ((m,ob)::s.heap)) (sig U m B) c v):=by
 have hold:∀ {p x},assoc s.heap p=some x->p≠m:=λ {p x} hp e=>by
  subst e;obtain⟨B',e1,_⟩:=h.obj _ _ hp;rw[hn] at e1;cases e1
 have Wn:sig U m B m=some B:=by simp[sig]
 have hs:∀ {p},p≠m->sig U m B p=U p:=λ {p} hp=>by simp[sig,hp]
 have hF:∀ b,FB C (sig U m B) ((m,ob)::s.heap) b->FB C U s.heap b\/w.heap.size<=b:=by
  rintro b (hb | ⟨p,x,hp,hb⟩)
  .exact .inl (.inl hb)
  .simp only[assoc] at hp;split at hp
   .rename_i e;subst e;simp only[a6,Wn,Option.bind_some] at hb;exact .inr (Ut b hb).1
   .have:=hold hp;simp only[a6,hs this] at hb;exact .inl (.inr ⟨p,x,hp,hb⟩)
 have hk:cL w w' (FB C U s.heap) (FB C (sig U m B) ((m,ob)::s.heap)):=lW hg (λ b e=>by cases e) hF;refine⟨⟨h.pB,h.tm,hg.os.trans h.os,hg.tape.trans h.tape,hg.output.trans h.output,Nat.le_trans h.size hg.size,?_,?_,?_,?_,?_,?_,Nat.le_trans h.low hxx,λ o B' b ho Uz hb=>?_⟩,λ c v hv=>VR.bD hk c v (vY hn hv) hv⟩
 .intro b hb SR;rw[hg.block b (Nat.lt_of_lt_of_le hb h.size) xr];exact h.frame b hb SR
 .intro t c hc;obtain⟨v,k1,k2⟩:=h.env t c hc;exact⟨v,k1,VR.bD hk c v (vY hn k2) k2⟩
 .intro p x hp;simp only[assoc] at hp;split at hp
  .rename_i e;subst e;cases hp;refine⟨B,Wn,SB,Ww,h1,λ b hb=>?_⟩;obtain⟨k0,cur,k1,k2,k3,k4⟩:=Ut b hb;refine⟨cur,k1,k2,λ hf=>?_,.inr (Nat.le_trans h.size k0),k3,aZ.bD hk _ _ (oY hn k4) k4⟩;have:=C.hF.1 b hf;have:=h.size;omega
  .have SL:=hold hp;obtain⟨B',m1,m2,m3,m4,m5⟩:=h.obj p x hp;refine⟨B',by rw[hs SL];exact m1,m2,m3,m4,λ b hb=>?_⟩;obtain⟨cur,n1,n2,n3,n4,n5,n6⟩:=m5 b hb;exact⟨cur,by rw[hg.block b (Array.getElem?_eq_some_iff.1 n1).1 xr];exact n1,n2,n3,n4,n5,aZ.bD hk _ _ (oY hn n6) n6⟩
 .intro p q x y b hp hq WU Xs;have key:∀ {r z},assoc s.heap r=some z->a6 U r=some b->b<w.heap.size:=λ {r z} hr XM=>by
   obtain⟨B',m1,_,_,_,m5⟩:=h.obj r z hr;obtain⟨cur,n1,_⟩:=m5 b (by simpa [a6,m1] using XM);exact (Array.getElem?_eq_some_iff.1 n1).1
  simp only[assoc] at hp hq;split at hp<;>split at hq
  .rename_i e1 e2;rw[<- e1,<- e2]
  .rename_i e1 e2;subst e1;have:=hold hq;simp only[a6,Wn,Option.bind_some] at WU;have k1:=(Ut b WU).1;have k2:=key hq (by simpa only[a6,hs this] using Xs);omega
  .rename_i e1 e2;subst e2;have:=hold hp;simp only[a6,Wn,Option.bind_some] at Xs;have k1:=(Ut b Xs).1;have k2:=key hp (by simpa only[a6,hs this] using WU);omega
  .have m1:=hold hp;have m2:=hold hq;exact h.inj p q x y b hp hq (by simpa only[a6,hs m1] using WU) (by simpa only[a6,hs m2] using Xs)
 .intro p hp;have:p≠m:=λ e=>by subst e;exact absurd hp yBx
  rw[hs this];exact h.nx p (Nat.le_trans hxx hp)
 .intro p hp;have:=h.low;rw[hs (show p≠m by omega)];exact h.gH p hp
 .by_cases e:o=m
  .subst e;rw[Wn] at Uz;cases Uz;exact .inr (Nat.le_trans h.size (Ut b hb).1)
  .rw[hs e] at Uz;exact h.new o B' b ho Uz hb
theorem aQ.fresh (h:aQ C U s a w){w':World}(hg:w.grownBy w' none){ob:Ob}{B:OB}(SB:B.sz=ob.sz)(h1:ob.cells.all one=true)(Ww:B.kW=none->ob.cells=[])
  (Ut:∀ b,B.kW=some b->w.heap.size<=b/\∃ cur:Array Value,w'.heap[b]? = some (.cells cur ob.elem (0,0))/\cur.size=B.room/\ob.cells.length<=cur.size/\aZ w (FB C U s.heap) U ob.cells (cur.toList.take ob.cells.length)) :
  aQ C (sig U s.nx B) { s with heap:=(s.nx,ob)::s.heap,nx:=s.nx+1 } a w'/\(∀ c v,VR w (FB C U s.heap) U c v->VR w' (FB C (sig U s.nx B) ((s.nx,ob)::s.heap)) (sig U s.nx B) c v):=
 h.GO (h.nx s.nx (Nat.le_refl _)) h.low (Nat.lt_succ_self _) (Nat.le_succ _) hg SB h1 Ww Ut
theorem py (o:Obj):w.grownBy (w.alloc o) none:=World.grownBy_alloc w o none
def uS (av:List (Nat×TI))(s:St)(t:TypeId)(x:Operand)(v:Operand):Option St:=
 match ev s x,ev s v,assoc av t with
 | some (.ax o off),some c,some i=>
  match assoc s.heap o with
  | none=>none
  | some ob=>if eI c then none else if c.cells.length=i.size/\off+c.cells.length<=ob.cells.length then some { s with heap:=vc s.heap o { ob with cells:=gX ob.cells off c.cells } } else none
 | _,_,_=>none
theorem gx (cells:List CV)(off:Nat)(cs:List CV)(h:off+cs.length<=cells.length):(gX cells off cs).length=cells.length:=by
 simp[gX];omega
theorem zX {av:List (Nat×TI)}(ht:aF P av)(h:aQ C U s a w){o:Oper}{t:TypeId}{x v:Operand}(ho:o.op=.store t x v){s':St}(hc:uS av s t x v=some s') :
  ∃ w',(execOp a.eval o).run P w=.ok .skip w'/\aQ C U s' a w'/\w'.heap.size=w.heap.size:=by
 unfold uS at hc;split at hc
 .rename_i SN off c i hx hv hi;split at hc
  .cases hc
  rename_i ob Uv;split at hc
  .cases hc
  rename_i Vx;split at hc
  .rename_i hlen;cases hc;have kx:=bH h hx;have kv:=bH h hv;simp only[VR] at kx;obtain⟨B,b,hB,hb,kx⟩:=kx;obtain⟨B',e1,e2,_,e4,e5⟩:=h.obj _ ob Uv;rw[hB] at e1;cases e1;obtain⟨cur,k1,k2,k3,k4,k5,k6⟩:=e5 b hb;obtain⟨f1,f2⟩:=VR.flat c _ (λ cs e=>by subst e;simp[eI] at Vx) (λ k s p e=>by subst e;simp[eI] at Vx) kv;have fl:=aZ.length _ _ f1;obtain⟨f,z,g1,g2,_⟩:=(ht t i hi).info;have Sz:=run_storeCells_at P b off ob.elem (a.eval v).cells.toList 0 cur w k1 (by rw[fl];omega) (aZ.jB _ _ f2 f1);simp only[Nat.add_zero] at Sz;refine⟨_,?_,h.write Uv hB hb (Zc:=cur.toList.take off++(a.eval v).cells.toList++cur.toList.drop (off+(a.eval v).cells.toList.length)) ?_ ?_ ?_ (sW off e4 f2),by simp⟩
   .have SB:(a.eval v).cells.size=f.size:=by rw[g2,<- hlen.1,<- fl];simp
    simp only[execOp,ho,Instr.storeAt,kx,Instr.sureAddr,storeVar,Sem.run_bind,Sem.run_pure,Result.andThen_ok,cT g1];rw[if_neg (by simp[SB])];simp only[Sz,Result.andThen_ok]
   .simp[fl];omega
   .rw[gx _ _ _ hlen.2];simp[fl];omega
   .rw[gx _ _ _ hlen.2];have:=wC k6 off f1;have e:(cur.toList.take off++(a.eval v).cells.toList++cur.toList.drop (off+(a.eval v).cells.toList.length)).take ob.cells.length =
      (cur.toList.take ob.cells.length).take off++(a.eval v).cells.toList++(cur.toList.take ob.cells.length).drop (off+(a.eval v).cells.toList.length):=by
     have SA:ob.cells.length<=cur.toList.length:=by simpa using k5
     generalize (a.eval v).cells.toList=us at *;rw[take_append,take_append];simp only[length_append,length_take,take_take,drop_take];rw[Nat.min_eq_right (show off<=ob.cells.length by omega),Nat.min_eq_left (show off<=cur.toList.length by omega),take_of_length_le (show us.length<=ob.cells.length-off by omega)];congr 2
     .rw[Nat.min_eq_left (show off<=ob.cells.length by omega)]
    rw[e];exact this
  .cases hc
 .cases hc
end
def aY (z:List CV):Nat->List CV
 | 0=>[]
 | n+1=>z++aY z n
theorem fV (z:List CV)(n:Nat):(aY z n).length=n*z.length:=by
 induction n with
 | zero=>simp[aY]
 | succ n ih=>simp[aY,ih,Nat.succ_mul,Nat.add_comm]
theorem Fo (z:List CV)(n i:Nat)(h:i<n*z.length):(aY z n)[i]? = z[i % z.length]?:=by
 induction n generalizing i with
 | zero=>simp at h
 | succ n ih=>
  simp only[aY];rw[getElem?_append];split
  .rename_i hi;rw[Nat.mod_eq_of_lt hi]
  .rename_i hi;rw[ih _ (by rw[Nat.succ_mul] at h;omega)];have VN:0<z.length:=by
    rcases Nat.eq_zero_or_pos z.length with e | e
    .rw[e] at h;simp at h
    .exact e
   congr 1
   conv=>rhs;rw[show i=(i-z.length)+z.length by omega]
   rw[Nat.add_mod_right]
theorem Fm (c:CV)(n:Nat):aY [c] n=replicate n c:=by
 induction n with
 | zero=>rfl
 | succ n ih=>simp[aY,ih,replicate_succ]
section
variable {P:Program}{C:Cx}{U:Nat->Option OB}{s:St}{a:Act}{w:World}
theorem mM {F:Nat->Prop}{zs:Array Value}{z:List CV}(h:aZ w F U z zs.toList)(n:Nat):aZ w F U (aY z n) (madeCells zs (n*zs.size)).toList:=by
 have hl:=aZ.length _ _ h;have W5:zs.size=z.length:=by simpa using hl
 refine aZ.AN _ _ (by simp[size_madeCells,fV,W5]) λ i c hi=>?_;have P1:i<n*z.length:=by
  have:=(List.getElem?_eq_some_iff.1 hi).1;rwa [fV] at this
 rw[Fo z n i P1] at hi;obtain⟨v,k1,k2⟩:=aZ.get _ _ h _ _ hi;refine⟨v,?_,k2⟩;have hlt':i<n*zs.size:=by rw[W5];exact P1
 simp only[madeCells,Array.toList_map,Array.toList_range,getElem?_map,getElem?_range hlt',Option.map_some];rw[W5] at *;have:zs[i % z.length]? = some v:=by simpa using k1
 simp[getElem!_def,this]
theorem kM {z:List CV}(h:z.all one=true)(n:Nat):(aY z n).all one=true:=by
 induction n with
 | zero=>rfl
 | succ n ih=>simp[aY,all_append,h,ih]
def St.new (s:St)(e:TypeId)(sz:Nat)(cs:List CV):St:={ s with heap:=(s.nx,⟨e,sz,cs⟩)::s.heap,nx:=s.nx+1 }
theorem tU (h:aQ C U s a w){e:TypeId}{sz:Nat}{cs:List CV}{us:Array Value}(hr:aZ w (FB C U s.heap) U cs us.toList)(h1:cs.all one=true) :
  aQ C (sig U s.nx ⟨some w.heap.size,us.size,sz⟩) (s.new e sz cs) a (w.alloc (.cells us e)):=by
 have hl:=aZ.length _ _ hr;refine (h.fresh (py _) (ob:=⟨e,sz,cs⟩) (B:=⟨some w.heap.size,us.size,sz⟩) rfl h1 xr λ b hb=>?_).1;simp only[Option.some.injEq] at hb;subst hb;exact⟨Nat.le_refl _,us,heap_alloc_new w _,rfl,by simp only;simp at hl;omega,by simp only;rw[<- hl,take_of_length_le (Nat.le_refl _)];exact hr⟩
def G1 (av:List (Nat×TI))(s:St)(d:Option Tmp)(t:TypeId)(l c:Operand):Option St:=
 match dO av t,ev s l,ev s c with
 | some (.sl e),some (.int _ n),some (.int _ m)=>
  match assoc av e with
  | some ie=>if n=m/\0<=n/\(ie.bytes:Int)*n<=281474976710656/\n<=9223372036854775807 then some ((s.new e ie.size (aY ie.zero n.toNat)).put d (.a7 s.nx 0 n.toNat)) else none
  | none=>none
 | _,_,_=>none
theorem dP {o:Nat}{B:OB}:sig U o B o=some B:=by simp[sig]
theorem LK {av:List (Nat×TI)}(ht:aF P av)(h:aQ C U s a w){o:Oper}{t:TypeId}{l c:Operand}(hd:∀ t,o.dst=some t->t<a.tmps.size)(ho:o.op=.makeSlice t l c){s':St}(hc:G1 av s o.dst t l c=some s') :
  ∃ z w',(execOp a.eval o).run P w=.ok (.value z) w'/\Rel C s' (a.put o.dst z) w':=by
 unfold G1 at hc;split at hc
 .rename_i e k n k' m Td hl hm;obtain⟨it,SW,Td⟩:=Option.map_eq_some_iff.1 Td;split at hc
  .rename_i ie Rz;split at hc
   .rename_i hb;obtain⟨rfl,h0,YN,h63⟩:=hb;cases hc;obtain⟨f,z,g1,g2,g3,g4,g5⟩:=(ht e ie Rz).info;obtain⟨k1,k2⟩:=dr (w:=w) (F:=FB C U s.heap) _ _ g5;have kl:=bH h hl;have kc:=bH h hm;simp only[VR] at kl kc;have SB:f.size=z.cells.size:=by rw[g2,<- (ht e ie Rz).len,<- bX.length _ _ k1];simp
    have hz:=mM (U:=U) (aZ.cJ _ _ k1) n.toNat;have hr:=run_make (P:=P) w t e f z (dK (ht t it SW) Td) g1 g4 k k' n n h0 (Int.le_refl _) (by rw[g3];exact YN) h63;have Te:=tU h (e:=e) (sz:=ie.size) hz (kM k2 n.toNat);have hrm:z.cells.size=ie.size:=by rw[<- SB,g2]
    rw[SB] at hr;refine⟨.slice (some ⟨w.heap.size,0,none⟩) n.toNat n.toNat,_,by simp only[execOp,ho,kl,kc,Sem.run_bind,hr,Result.andThen_ok,Sem.run_pure],_,Te.put hd ?_⟩;simp only[VR];refine⟨_,dP,n.toNat,rfl,Nat.le_refl _,by simp only[maxLen];omega,?_,λ _=>?_⟩
    .simp[size_madeCells,hrm]
    .simp[size_madeCells,hrm]
   .cases hc
  .cases hc
 .cases hc
def Bu (av:List (Nat×TI))(s:St)(d:Option Tmp)(e:TypeId):Option St:=
 match assoc av e with
 | some ie=>some ((s.new e 0 ie.zero).put d (.ax s.nx 0))
 | none=>none
theorem IE {av:List (Nat×TI)}(ht:aF P av)(h:aQ C U s a w){o:Oper}{e:TypeId}(hd:∀ t,o.dst=some t->t<a.tmps.size)(ho:o.op=.alloc e){s':St}(hc:Bu av s o.dst e=some s') :
  ∃ z w',(execOp a.eval o).run P w=.ok (.value z) w'/\Rel C s' (a.put o.dst z) w':=by
 unfold Bu at hc;split at hc
 .rename_i ie Rz;cases hc;obtain⟨f,z,g1,_,_,g4,g5⟩:=(ht e ie Rz).info;obtain⟨k1,k2⟩:=dr (w:=w) (F:=FB C U s.heap) _ _ g5;have Te:=tU h (e:=e) (sz:=0) (aZ.cJ _ _ k1) k2;refine⟨.pointer (some ⟨w.heap.size,0,none⟩),_,?_,_,Te.put hd ?_⟩
  .simp[execOp,ho,Instr.alloc,iV g1 g4,newVar,newRow]
  .simp only[VR];exact⟨_,_,dP,rfl,rfl⟩
 .cases hc
def Oq (s:St)(d:Option Tmp)(e:TypeId)(x:Operand):Option St:=
 match ev s x with
 | some c=>if eI c then none else some ((s.new e 0 c.cells).put d (.ax s.nx 0))
 | none=>none
theorem Oo (h:aQ C U s a w){o:Oper}{e:TypeId}{x:Operand}(hd:∀ t,o.dst=some t->t<a.tmps.size)(ho:o.op=.box e x){s':St}(hc:Oq s o.dst e x=some s') :
  ∃ z w',(execOp a.eval o).run P w=.ok (.value z) w'/\Rel C s' (a.put o.dst z) w':=by
 unfold Oq at hc;split at hc
 .rename_i c hx;split at hc
  .cases hc
  rename_i Vx;cases hc;obtain⟨f1,f2⟩:=VR.flat c _ (λ cs e=>by subst e;simp[eI] at Vx) (λ k s p e=>by subst e;simp[eI] at Vx) (bH h hx);have Te:=tU h (e:=e) (sz:=0) f1 f2;refine⟨.pointer (some ⟨w.heap.size,0,none⟩),_,?_,_,Te.put hd ?_⟩
  .simp[execOp,ho,Instr.box,newVar,newRow]
  .simp only[VR];exact⟨_,_,dP,rfl,rfl⟩
 .cases hc
def ma (av:List (Nat×TI))(s:St)(d:Option Tmp)(t:TypeId)(len:Nat)(parts:List (Nat×Operand)):Option St:=
 match dO av t with
 | some (.sl e)=>
  match assoc av e,jd s parts with
  | some ie,some cs=>
   if len*ie.size<=16777216/\len<=16777216 then
    match oG (λ i=>some (i*ie.size,ie.size)) (aY ie.zero len) cs with
    | some out=>some ((s.new e ie.size out).put d (.a7 s.nx 0 len))
    | none=>none
   else none
  | _,_=>none
 | _=>none
theorem oe (place:Nat->Option (Nat×Nat)):∀ (ps:List (Nat×CV)) (cells out:List CV),oG place cells ps=some out->out.length=cells.length
 | [],cells,out,h=>by simp only[oG] at h;cases h;rfl
 | (i,c)::ps,cells,out,h=>by
  simp only[oG] at h;split at h
  .cases h
  .split at h
   .cases h
   .rename_i SB;simp only[ne_eq,gt_iff_lt,Bool.or_eq_true,decide_eq_true_eq,not_or,Decidable.not_not,Nat.not_lt] at SB;rw[oe place ps _ out h,gx _ _ _ SB.2]
theorem yh {av:List (Nat×TI)}(ht:aF P av)(h:aQ C U s a w){o:Oper}{t:TypeId}{len:Nat}{parts:Array (Nat×Operand)}(hd:∀ t,o.dst=some t->t<a.tmps.size)(ho:o.op=.buildSlice t len parts){s':St}
  (hc:ma av s o.dst t len parts.toList=some s'):∃ z w',(execOp a.eval o).run P w=.ok (.value z) w'/\Rel C s' (a.put o.dst z) w':=by
 unfold ma at hc;split at hc
 .rename_i e Td;obtain⟨it,SW,Td⟩:=Option.map_eq_some_iff.1 Td;split at hc
  .rename_i ie cs Rz S8;split at hc
   .rename_i hb;split at hc
    .rename_i out Wu;cases hc;obtain⟨f,z,g1,g2,g3,g4,g5⟩:=(ht e ie Rz).info;obtain⟨k1,k2⟩:=dr (w:=w) (F:=FB C U s.heap) _ _ g5;have SB:z.cells.size=ie.size:=by rw[<- (ht e ie Rz).len,<- bX.length _ _ k1];simp
     have hz:=mM (U:=U) (aZ.cJ _ _ k1) len;obtain⟨l1,l2⟩:=nq h _ _ S8;obtain⟨us,m1,m2,m3⟩:=pF _ cs (parts.toList.map λ p=>(p.1,a.eval p.2)) _ out (madeCells z.cells (len*z.cells.size)) (by simpa using l1) l2 hz (kM k2 len) Wu;have Te:=tU h (e:=e) (sz:=ie.size) m2 m3;have Yf:us.size=len*ie.size:=by
      have:=aZ.length _ _ m2;rw[oe _ _ _ _ Wu,fV,(ht e ie Rz).len] at this
      simpa using this
     have hp:(parts.map λ (x:Nat×Operand)=>(x.1,a.eval x.2)).toList=parts.toList.map λ (p:Nat×Operand)=>(p.1,a.eval p.2):=by simp
     rw[SB] at m1;refine⟨.slice (some ⟨w.heap.size,0,none⟩) len len,_,?_,_,Te.put hd ?_⟩
     .simp only[execOp,ho,Instr.buildSlice,Sem.run_bind,bB (dK (ht t it SW) Td),Result.andThen_ok,cT g1,g2,hp];rw[if_neg (by have:=hb.1;omega)];by_cases h0:len*ie.size=0
      .have e0:madeCells z.cells 0=#[]:=by simp[madeCells]
       have e2:(Array.range 0).map (λ _=>(default:Value))=#[]:=by simp[Array.range_zero']
       rw[h0,e0] at m1;simp[h0,e2,m1,newRow]
      .have e1:(Array.range (len*ie.size)).map (λ x=>z.cells[x % z.cells.size]!)=madeCells z.cells (len*ie.size):=rfl;simp[h0,iV g1 g4,e1,m1,newRow]
     .simp only[VR];exact⟨_,dP,len,rfl,Nat.le_refl _,by have:=hb.2;simp only[maxLen];omega,by simp[Yf],λ _=>Yf.symm⟩
    .cases hc
   .cases hc
  .cases hc
 .cases hc
def cells? (s:St):CV->Option (List CV×Nat)
 | .az cs n=>some (cs,n)
 | .aj=>some ([],0)
 | .a7 o off n=>match assoc s.heap o with
  | some ob=>some ((ob.cells.drop off).take (n*ob.sz),n)
  | none=>none
 | _=>none
def PA (w:World)(u:Value)(m:Nat)(us:List Value):Prop:=
 (∃ c,u=.slice none 0 c/\m=0/\us=[])\/(∃ ad c,u=.slice (some ad) m c/\∀ j x,us[j]? = some x->w.cell? (ad.add j)=some x)
theorem cells?_ok (h:aQ C U s a w){c:CV}{v:Value}{cs:List CV}{m:Nat}(hv:VR w (FB C U s.heap) U c v)(hm:cells? s c=some (cs,m)) :
  ∃ us,aZ w (FB C U s.heap) U cs us/\cs.all one=true/\PA w v m us:=by
 unfold cells? at hm;split at hm
 .cases hm;simp only[VR,cj] at hv;obtain⟨A,cap,rfl,_,_,h4⟩:=hv;rcases h4 with ⟨rfl,rfl⟩ | ⟨ad,rfl,hmr⟩
  .refine⟨[],by simp[aZ],rfl,?_⟩
   cases A with
   | none=>exact .inl ⟨_,rfl,rfl,rfl⟩
   | some ad=>exact .inr ⟨ad,cap,rfl,by simp⟩
  .obtain⟨us,h1,_,h3⟩:=fH.cells _ _ hmr;exact⟨us,aZ.cJ _ _ h1,fH.Qp _ _ hmr,.inr ⟨ad,cap,rfl,h3⟩⟩
 .cases hm;simp only[VR] at hv;subst hv;exact⟨[],by simp[aZ],rfl,.inl ⟨_,rfl,rfl,rfl⟩⟩
 .rename_i o off n;split at hm
  .rename_i ob ho;cases hm;simp only[VR] at hv;obtain⟨B,hB,hv⟩:=hv;split at hv
   .obtain⟨rfl,rfl,rfl⟩:=hv;exact⟨[],by simp[aZ],by simp,.inl ⟨_,rfl,rfl,rfl⟩⟩
   .rename_i b hb;obtain⟨cap,rfl,_⟩:=hv;obtain⟨us,h1,h2,h3⟩:=(Kl h ho hB hb).drop off;rw[add_lit,Nat.zero_add] at h3;refine⟨us.take (m*ob.sz),aZ.take _ _ _ h1,?_,.inr ⟨_,cap,rfl,λ j x hx=>?_⟩⟩
    .rw[all_eq_true] at h2 |-;exact λ x hx=>h2 x (mem_of_mem_take hx)
    .rw[getElem?_take] at hx;split at hx
     .exact h3 j x hx
     .cases hx
  .cases hm
 .cases hm
theorem vK (base:Nat)(t ty e:TypeId)(i:TypeInfo)(size:Nat)(ht:P.underlying t=some (.slice e))(hi:P.info? e=some i)
  (v:Value) (n:Nat) (xs:List Value) (SR:w.ownsRow base e size v n xs) (c:Nat):(Builtin.append_ #[t,t] ty #[v,.slice none 0 c]).run P w=.ok v w:=by
 rcases SR.2 with ⟨rfl,rfl⟩ | ⟨g,cap,cur,rfl,_,_,hnc,_⟩
 .simp[Builtin.append_,run_underlying ht,sizeOf,typeInfo,hi,Builtin.lenOf,Builtin.firstCells]
 .simp[Builtin.append_,run_underlying ht,sizeOf,typeInfo,hi,Builtin.lenOf,Builtin.firstCells,hnc,storeCells]
theorem pa {t ty e:TypeId}{i:TypeInfo}{z:Value}{size bytes:Nat}(ht:P.underlying t=some (.slice e))(hi:P.info? e=some i)(hz:i.zero=some z)
  (Yn:i.size=size) (YN:i.bytes=bytes) (Zg:z.cells.size=size) (SB:0<size) {v u:Value} {n m:Nat} {xs us:List Value} (SR:w.ownsRow 0 e size v n xs)
  (hl:us.length=m*size) (hs:PA w u m us) (h1:∀ u∈us,u.oneCell'=true) (h63:n+m<=maxLen) (V1:(n+m)*bytes<=140737488355328) :
  ∃ v' w',(Builtin.append_ #[t,t] ty #[v,u]).run P w=.ok v' w'/\w'.ownsRow 0 e size v' (n+m) (xs++us)/\w.grownBy w' v.ownBlock/\(v'.ownBlock=v.ownBlock\/v'.ownBlock=some w.heap.size):=by
 rcases hs with ⟨c,rfl,rfl,rfl⟩ | ⟨ad,c,rfl,hc⟩
 .exact⟨v,w,vK 0 t ty e i size ht hi v n xs SR c,by simpa using SR,World.grownBy.refl w _,.inl rfl⟩
 .obtain⟨v',w',k1,k2,k3,_,k5⟩:=run_append_own_at (P:=P) w 0 t ty e i z size bytes ht hi hz Yn YN Zg SB v n xs SR ad m c us hl hc h1 h63 V1 (Nat.zero_le _);exact⟨v',w',k1,k2,k3,k5⟩
theorem pf {w':World}{e:TypeId}{size:Nat}{v:Value}{k:Nat}{ys:List Value}(h:w'.ownsRow 0 e size v k ys) :
  ∃ B:OB,B.sz=size/\B.kW=v.ownBlock/\(B.kW=none->v=.slice none 0 0/\k=0/\ys=[])/\
   ∀ b,B.kW=some b->∃ cap,∃ cur:Array Value,v=.slice (some ⟨b,0,none⟩) k cap/\w'.heap[b]? = some (.cells cur e (0,0))/\k<=cap/\cap<=maxLen/\cur.size=B.room/\cap*size=B.room/\cur.toList.take ys.length=ys:=by
 have hl:=h.1;rcases h.2 with ⟨rfl,rfl⟩ | ⟨g,cap,cur,rfl,_,hg,h1,h2,h3,h4⟩
 .exact⟨⟨none,0,size⟩,rfl,rfl,λ _=>⟨rfl,rfl,eq_nil_of_length_eq_zero yBz⟩,λ b hb=>by cases hb⟩
 .refine⟨⟨some g,cur.size,size⟩,rfl,rfl,λ hb=>(by cases hb),λ b hb=>?_⟩;simp only[Option.some.injEq] at hb;subst hb;exact⟨cap,cur,rfl,hg,h1,h2,rfl,h3.symm,by rw[hl];exact h4⟩
theorem aQ.grow (h:aQ C U s a w){o:Nat}{ob:Ob}{B B':OB}(ho:assoc s.heap o=some ob)(hB:U o=some B){w':World}(hg:w.grownBy w' B.kW)(SB:B'.sz=ob.sz){Uh:List CV}
  (TW:∀ g,B'.kW=some g->B.kW=some g\/g=w.heap.size) (h1:Uh.all one=true) (Ww:B'.kW=none->Uh=[])
  (Ut:∀ g,B'.kW=some g->∃ cur:Array Value,w'.heap[g]? = some (.cells cur ob.elem (0,0))/\cur.size=B'.room/\Uh.length<=cur.size/\aZ w (FB C U s.heap) U Uh (cur.toList.take Uh.length)) :
  aQ C (sig U s.nx B') { env:=s.env,heap:=(s.nx,{ ob with cells:=Uh })::kC s.heap o,nx:=s.nx+1 } a w':=by
 obtain⟨B0,e1,e2,e3,e4,e5⟩:=h.obj o ob ho;rw[hB] at e1;cases e1;have hn:U s.nx=none:=h.nx s.nx (Nat.le_refl _);have Wn:sig U s.nx B' s.nx=some B':=by simp[sig]
 have hs:∀ {p},p≠s.nx->sig U s.nx B' p=U p:=λ {p} hp=>by simp[sig,hp]
 have hold:∀ {p x},assoc s.heap p=some x->p≠s.nx:=λ {p x} hp e=>by
  subst e;obtain⟨B2,m1,_⟩:=h.obj _ _ hp;rw[hn] at m1;cases m1
 have Yg:∀ {p y},assoc ((s.nx,({ ob with cells:=Uh }:Ob))::kC s.heap o) p=some y->(p=s.nx/\y={ ob with cells:=Uh })\/(p≠s.nx/\p≠o/\assoc s.heap p=some y):=λ {p y} hp=>by
  simp only[assoc] at hp;split at hp
  .rename_i e;cases hp;exact .inl ⟨e.symm,rfl⟩
  .rename_i e;rw[fG] at hp;split at hp
   .cases hp
   .rename_i e2;exact .inr ⟨Ne.symm e,Ne.symm e2,hp⟩
 have P1:∀ {r z b},assoc s.heap r=some z->a6 U r=some b->b<w.heap.size:=λ {r z b} hr XM=>by
  obtain⟨B2,m1,_,_,_,m5⟩:=h.obj r z hr;obtain⟨cur,n1,_⟩:=m5 b (by simpa [a6,m1] using XM);exact (Array.getElem?_eq_some_iff.1 n1).1
 have hF:∀ b,FB C (sig U s.nx B') ((s.nx,({ ob with cells:=Uh }:Ob))::kC s.heap o) b->FB C U s.heap b\/w.heap.size<=b:=by
  rintro b (hb | ⟨p,x,hp,hb⟩)
  .exact .inl (.inl hb)
  .rcases Yg hp with ⟨rfl,_⟩ | ⟨SL,_,W4⟩
   .simp only[a6,Wn,Option.bind_some] at hb;rcases TW b hb with hb | rfl
    .exact .inl (.inr ⟨o,ob,ho,by simp[a6,hB,hb]⟩)
    .exact .inr (Nat.le_refl _)
   .simp only[a6,hs SL] at hb;exact .inl (.inr ⟨p,x,W4,hb⟩)
 have hk:cL w w' (FB C U s.heap) (FB C (sig U s.nx B') ((s.nx,({ ob with cells:=Uh }:Ob))::kC s.heap o)):=lW hg (λ b e=>.inr ⟨o,ob,ho,by simp[a6,hB,e]⟩) hF;refine⟨h.pB,h.tm,hg.os.trans h.os,hg.tape.trans h.tape,hg.output.trans h.output,Nat.le_trans h.size hg.size,?_,?_,?_,?_,?_,?_,Nat.le_trans h.low (Nat.le_succ _),λ p B2 b hp Th hb=>?_⟩
 .intro b hb SR;rw[hg.block b (Nat.lt_of_lt_of_le hb h.size) (λ e=>?_)]
  .exact h.frame b hb SR
  .obtain⟨cur,_,_,_,n4,_⟩:=e5 b e.symm;rcases n4 with n4 | n4
   .exact SR n4
   .omega
 .intro t c hc;obtain⟨v,k3,k4⟩:=h.env t c hc;exact⟨v,k3,VR.bD hk c v (vY hn k4) k4⟩
 .intro p x hp;rcases Yg hp with ⟨rfl,rfl⟩ | ⟨SL,Ty,W4⟩
  .refine⟨B',Wn,SB,Ww,h1,λ g hgb=>?_⟩;obtain⟨cur,k1,k2,k3,k4⟩:=Ut g hgb;refine⟨cur,k1,k2,?_,?_,k3,aZ.bD hk _ _ (oY hn k4) k4⟩
   .rcases TW g hgb with hb | rfl
    .obtain⟨_,_,_,n3,_⟩:=e5 g hb;exact n3
    .intro hf;have:=C.hF.1 _ hf;have:=h.size;omega
   .rcases TW g hgb with hb | rfl
    .obtain⟨_,_,_,_,n4,_⟩:=e5 g hb;exact n4
    .exact .inr h.size
  .obtain⟨B2,m1,m2,m3,m4,m5⟩:=h.obj p x W4;refine⟨B2,by rw[hs SL];exact m1,m2,m3,m4,λ b hb=>?_⟩;obtain⟨cur,n1,n2,n3,n4,n5,n6⟩:=m5 b hb;have Zs:some b≠B.kW:=λ e=>Ty (h.inj p o x ob b W4 ho (by simp[a6,m1,hb]) (by simp[a6,hB,e]));exact⟨cur,by rw[hg.block b (Array.getElem?_eq_some_iff.1 n1).1 Zs];exact n1,n2,n3,n4,n5,aZ.bD hk _ _ (oY hn n6) n6⟩
 .intro p q x y b hp hq WU Xs;rcases Yg hp with ⟨rfl,rfl⟩ | ⟨XW,Ty,W4⟩<;>rcases Yg hq with ⟨e,rfl⟩ | ⟨hnq,hnoq,UH⟩
  .exact e.symm
  .simp only[a6,Wn,Option.bind_some] at WU;have hbq':a6 U q=some b:=by simpa only[a6,hs hnq] using Xs
   rcases TW b WU with hb | rfl
   .exact absurd (h.inj q o y ob b UH ho hbq' (by simp[a6,hB,hb])) hnoq
   .have:=P1 UH hbq';omega
  .subst e;simp only[a6,Wn,Option.bind_some] at Xs;have hbp':a6 U p=some b:=by simpa only[a6,hs XW] using WU
   rcases TW b Xs with hb | rfl
   .exact absurd (h.inj p o x ob b W4 ho hbp' (by simp[a6,hB,hb])) Ty
   .have:=P1 W4 hbp';omega
  .exact h.inj p q x y b W4 UH (by simpa only[a6,hs XW] using WU) (by simpa only[a6,hs hnq] using Xs)
 .intro p hp;have:p≠s.nx:=λ e=>by subst e;exact absurd hp xr
  rw[hs this];exact h.nx p (Nat.le_of_succ_le hp)
 .intro p hp;have:=h.low;rw[hs (show p≠s.nx by omega)];exact h.gH p hp
 .by_cases e:p=s.nx
  .subst e;rw[Wn] at Th;cases Th;rcases TW b hb with hb | rfl
   .obtain⟨_,_,_,_,n4,_⟩:=e5 b hb;exact n4
   .exact .inr h.size
  .rw[hs e] at Th;exact h.new p B2 b hp Th hb
def qj (av:List (Nat×TI))(s:St)(d:Option Tmp)(t:TypeId)(x y:Operand):Option St:=
 match dO av t,ev s x,ev s y with
 | some (.sl e),some p,some q=>
  match assoc av e,cells? s q with
  | some ie,some (news,m)=>
   if 0<ie.size/\0<ie.bytes/\news.length=m*ie.size then
    match p with
    | .aj=>if m*ie.bytes<=140737488355328 then some ((s.new e ie.size news).put d (.a7 s.nx 0 m)) else none
    | .a7 o off n=>match assoc s.heap o with
     | none=>none
     | some ob=>if off=0/\ob.elem=e/\ob.sz=ie.size/\n*ie.size=ob.cells.length/\(n+m)*ie.bytes<=140737488355328 then
       some (St.put { env:=s.env,heap:=(s.nx,{ ob with cells:=ob.cells++news })::kC s.heap o,nx:=s.nx+1 } d (.a7 s.nx 0 (n+m)))
      else none
    | _=>none
   else none
  | _,_=>none
 | _,_,_=>none
theorem bA {α:Type}:∀ (l:List (Nat×α)) (t:Nat) (x:α),assoc l t=some x->(t,x)∈l
 | [],_,_,h=>by simp[assoc] at h
 | (k,v)::r,t,x,h=>by
  simp only[assoc] at h;split at h
  .rename_i e;subst e;cases h;exact mem_cons_self
  .exact mem_cons_of_mem _ (bA r t x h)
theorem yi {av:List (Nat×TI)}(ht:aF P av)(h:aQ C U s a w){o:Oper}{cl:Call}{t:TypeId}{x y:Operand}(hd:∀ t,o.dst=some t->t<a.tmps.size)(ho:o.op=.call cl)(SA:cl.callee=.builtin .append)(Sx:cl.args=#[x,y])(TS:cl.argTypes=#[t,t])
  {s':St} (hc:qj av s o.dst t x y=some s'):∃ z w' B,(execOp a.eval o).run P w=.ok (.value z) w'/\aQ C (sig U s.nx B) s' (a.put o.dst z) w':=by
 unfold qj at hc;split at hc
 .rename_i e p q Td hp hq;obtain⟨it,SW,Td⟩:=Option.map_eq_some_iff.1 Td;split at hc
  .rename_i ie news m Rz S8;split at hc
   .rename_i hb;obtain⟨f,z,g1,g2,g3,g4,g5⟩:=(ht e ie Rz).info;obtain⟨k1,k2⟩:=dr (w:=w) (F:=FB C U s.heap) _ _ g5;have Zg:z.cells.size=ie.size:=by rw[<- (ht e ie Rz).len,<- bX.length _ _ k1];simp
    have hu:=dK (ht t it SW) Td;obtain⟨us,u1,u2,u3⟩:=cells?_ok h (bH h hq) S8;have ul:=aZ.length _ _ u1;have uo:=aZ.jB _ _ u2 u1;have hx:=bH h hp;have T9:∀ {v' w'},(Builtin.append_ #[t,t] o.type #[a.eval x,a.eval y]).run P w=.ok v' w'->(execOp a.eval o).run P w=.ok (.value v') w':=λ {v' w'} hr=>by
     simp[execOp,ho,resolve,SA,Sx,TS,invoke,builtin,hr]
    split at hc
    .split at hc
     .rename_i YN;cases hc;simp only[VR] at hx;have hm:0+m<=maxLen:=by
       have:m<=m*ie.bytes:=Nat.le_mul_of_pos_right m hb.2.1;simp only[maxLen];omega
      obtain⟨v',w',r1,r2,r3,r4⟩:=pa (P:=P) (ty:=o.type) hu g1 g4 g2 g3 Zg hb.1 (World.ownsRow_nil w 0 e ie.size) (by rw[ul];exact hb.2.2) u3 uo hm (by rw[Nat.zero_add];exact YN);rw[<- hx] at r1;rw[Nat.zero_add,nil_append] at r2;obtain⟨B,b1,b2,b3,b4⟩:=pf r2;have Up:=h.fresh (ob:=⟨e,ie.size,news⟩) (B:=B) r3 b1 u2 (λ hn=>by
       have:=(b3 hn).2.2;rw[this] at ul;exact eq_nil_of_length_eq_zero ul.symm) λ b SS=>by
        obtain⟨cap,cur,e1,e2,e3,e4,e5,e6,e7⟩:=b4 b SS;have UE:b=w.heap.size:=by
         rw[b2] at SS;rcases r4 with r4 | r4<;>rw[r4] at SS
         .simp[Value.ownBlock] at SS
         .simpa using SS.symm
        refine⟨by omega,cur,e2,e5,?_,?_⟩
        .simp only;rw[e5,<- e6,hb.2.2];exact Nat.mul_le_mul_right _ e3
        .simp only;rw[<- ul,e7];exact u1
      refine⟨v',w',B,T9 r1,Up.1.put hd ?_⟩;simp only[VR];refine⟨B,dP,?_⟩;split
      .rename_i hn;obtain⟨e1,e2,_⟩:=b3 hn;exact⟨e1,trivial,e2⟩
      .rename_i b SS;obtain⟨cap,cur,e1,e2,e3,e4,e5,e6,e7⟩:=b4 b SS;refine⟨cap,e1,e3,e4,?_,λ _=>?_⟩<;>rw[b1]<;>omega
     .cases hc
    .rename_i SN off n;split at hc
     .cases hc
     rename_i ob Uv;split at hc
     .rename_i UH;obtain⟨rfl,rfl,q3,q4,q5⟩:=UH;cases hc;simp only[VR] at hx;obtain⟨B,hB,hx⟩:=hx;obtain⟨B0,e1,e2,e3,e4,e5⟩:=h.obj _ ob Uv;rw[hB] at e1;cases e1;have hm:n+m<=maxLen:=by
       have:n+m<=(n+m)*ie.bytes:=Nat.le_mul_of_pos_right _ hb.2.1;simp only[maxLen];omega
      have SR:∃ xs,w.ownsRow 0 ob.elem ie.size (a.eval x) n xs/\aZ w (FB C U s.heap) U ob.cells xs/\(a.eval x).ownBlock=B.kW:=by
       split at hx
       .rename_i hn;obtain⟨e,_,rfl⟩:=hx;rw[e,e3 hn,hn];exact⟨[],World.ownsRow_nil w 0 _ _,by simp[aZ],rfl⟩
       .rename_i b WV;obtain⟨cap,e,c1,c2,c3,c4⟩:=hx;obtain⟨cur,n1,n2,n3,n4,n5,n6⟩:=e5 b WV;rw[e,WV];have U6:=c4 trivial;refine⟨cur.toList.take ob.cells.length,⟨?_,.inr ⟨b,cap,cur,rfl,Nat.zero_le _,n1,c1,c2,?_,by rw[q4]⟩⟩,n6,rfl⟩
        .rw[length_take,q4];simp;omega
        .rw[n2,<- U6,e2,q3]
      obtain⟨xs,x1,x2,x3⟩:=SR;have xl:=aZ.length _ _ x2;obtain⟨v',w',r1,r2,r3,r4⟩:=pa (P:=P) (ty:=o.type) hu g1 g4 g2 g3 Zg hb.1 x1 (by rw[ul];exact hb.2.2) u3 uo hm q5;rw[x3] at r3 r4;obtain⟨B',b1,b2,b3,b4⟩:=pf r2;have Up:=h.grow (B':=B') Uv hB r3 (by rw[b1,q3]) (Uh:=ob.cells++news) (λ g hg=>by
        rw[b2] at hg;rcases r4 with r4 | r4<;>rw[r4] at hg
        .exact .inl hg
        .exact .inr (by simpa using hg.symm)) (by simp[e4,u2]) (λ hn=>by
        have:=(b3 hn).2.2;obtain⟨y1,y2⟩:=append_eq_nil_iff.1 this;rw[y1] at xl;rw[y2] at ul;rw[eq_nil_of_length_eq_zero xl.symm,eq_nil_of_length_eq_zero ul.symm];rfl) λ b SS=>by
        obtain⟨cap,cur,e1,e2,e3,e4,e5,e6,e7⟩:=b4 b SS;have hlen:(ob.cells++news).length=(xs++us).length:=by simp[xl,ul]
        refine⟨cur,e2,e5,?_,?_⟩
        .rw[e5,<- e6,length_append,<- q4,hb.2.2,<- Nat.add_mul];exact Nat.mul_le_mul_right _ e3
        .rw[hlen,e7];exact aZ.append _ _ _ _ x2 u1
      refine⟨v',w',B',T9 r1,Up.put hd ?_⟩;simp only[VR];refine⟨B',dP,?_⟩;split
      .rename_i hn;obtain⟨e1,e2,_⟩:=b3 hn;exact⟨e1,trivial,e2⟩
      .rename_i b SS;obtain⟨cap,cur,e1,e2,e3,e4,e5,e6,e7⟩:=b4 b SS;refine⟨cap,e1,e3,e4,?_,λ _=>?_⟩<;>rw[b1]<;>omega
     .cases hc
    .cases hc
   .cases hc
  .cases hc
 .cases hc
end
section
variable {P:Program}{C:Cx}{U:Nat->Option OB}{s:St}{a:Act}{w:World}
def G6 (av:List (Nat×TI))(s:St)(d:Option Tmp)(t:TypeId)(x y:Operand):Option St:=
 match dO av t,ev s x,ev s y with
 | some (.sl e),some (.a7 o off n),some q=>
  match assoc av e,cells? s q,assoc s.heap o with
  | some ie,some (news,m),some ob=>
   if 0<n/\news.length=m*ie.size/\off+n*ie.size<=ob.cells.length then
    some (St.put { s with heap:=vc s.heap o { ob with cells:=gX ob.cells off (news.take ((min m n)*ie.size)) } } d (.int .i64 (min m n:Nat)))
   else none
  | _,_,_=>none
 | _,_,_=>none
theorem LP {av:List (Nat×TI)}(ht:aF P av)(h:aQ C U s a w){o:Oper}{cl:Call}{t t':TypeId}{x y:Operand}(hd:∀ t,o.dst=some t->t<a.tmps.size)(ho:o.op=.call cl)(SA:cl.callee=.builtin .copy)(Sx:cl.args=#[x,y])(TS:cl.argTypes=#[t,t'])
  {s':St} (hc:G6 av s o.dst t x y=some s'):∃ z w',(execOp a.eval o).run P w=.ok (.value z) w'/\Rel C s' (a.put o.dst z) w':=by
 unfold G6 at hc;split at hc
 .rename_i e o' off n q Td hp hq;obtain⟨it,SW,Td⟩:=Option.map_eq_some_iff.1 Td;split at hc
  .rename_i ie news m ob Rz S8 Uv;split at hc
   .rename_i hb;obtain⟨q1,q3,q4⟩:=hb;cases hc;obtain⟨f,z,g1,g2,_⟩:=(ht e ie Rz).info;have hu:=dK (ht t it SW) Td;obtain⟨us,u1,u2,u3⟩:=cells?_ok h (bH h hq) S8;have ul:=aZ.length _ _ u1;have hx:=bH h hp;simp only[VR] at hx;obtain⟨B,hB,hx⟩:=hx;obtain⟨B0,e1,e2,_,e4,e5⟩:=h.obj _ ob Uv;rw[hB] at e1;cases e1;split at hx
    .obtain⟨_,_,h0⟩:=hx;omega
    rename_i b WV;obtain⟨cap,ex,c1,c2,c3,c4⟩:=hx;obtain⟨cur,n1,n2,n3,n4,n5,n6⟩:=e5 b WV;have hk:(us.take ((min m n)*ie.size)).length=min m n*ie.size:=by
     rw[length_take,ul,q3];have:min m n*ie.size<=m*ie.size:=Nat.mul_le_mul_right _ (Nat.min_le_left _ _);omega
    have hkn:min m n*ie.size<=n*ie.size:=Nat.mul_le_mul_right _ (Nat.min_le_right _ _);have u1':=aZ.take ((min m n)*ie.size) _ _ u1;have u2':(news.take ((min m n)*ie.size)).all one=true:=by
     rw[all_eq_true] at u2 |-;exact λ x hx=>u2 x (mem_of_mem_take hx)
    have Sz:=run_storeCells_at P b off ob.elem (us.take ((min m n)*ie.size)) 0 cur w n1 (by rw[hk];omega) (aZ.jB _ _ u2' u1');simp only[Nat.add_zero] at Sz;have Ul:(news.take ((min m n)*ie.size)).length=min m n*ie.size:=by rw[<- aZ.length _ _ u1',hk]
    have hw:=h.write Uv hB WV (Uh:=gX ob.cells off (news.take ((min m n)*ie.size))) (Zc:=cur.toList.take off++us.take ((min m n)*ie.size)++cur.toList.drop (off+(us.take ((min m n)*ie.size)).length)) (by simp[hk];omega)
     (by rw[gx _ _ _ yA];simp[hk];omega) (by
      rw[gx _ _ _ yA];have:=wC n6 off u1';have ee:(cur.toList.take off++us.take ((min m n)*ie.size)++cur.toList.drop (off+(us.take ((min m n)*ie.size)).length)).take ob.cells.length =
        (cur.toList.take ob.cells.length).take off++us.take ((min m n)*ie.size)++(cur.toList.take ob.cells.length).drop (off+(us.take ((min m n)*ie.size)).length):=by
       have SA:ob.cells.length<=cur.toList.length:=by simpa using n5
       generalize us.take ((min m n)*ie.size)=vs at *;rw[take_append,take_append];simp only[length_append,length_take,take_take,drop_take];rw[Nat.min_eq_right (show off<=ob.cells.length by omega),Nat.min_eq_left (show off<=cur.toList.length by omega),take_of_length_le (show vs.length<=ob.cells.length-off by omega)];congr 2
       .rw[Nat.min_eq_left (show off<=ob.cells.length by omega)]
      rw[ee];exact this) (sW off e4 u2')
    refine⟨.int .i64 (min m n:Nat),_,?_,_,hw.put hd (dY _ _)⟩;have W9:∀ k,k=min m n->(Builtin.firstCells ie.size k (a.eval y)).run P w=.ok (us.take (k*ie.size)).toArray w:=by
     rintro k rfl;rcases u3 with ⟨c,e,rfl,rfl⟩ | ⟨ad,c,e,UR⟩
     .simp[e,Builtin.firstCells]
     .rw[e];exact run_firstCells_some (P:=P) w ie.size _ ad m c _ hk λ j x hx=>by
       rw[getElem?_take] at hx;split at hx
       .exact UR j x hx
       .cases hx
    have hlen:(Builtin.lenOf (a.eval y)).run P w=.ok m w:=by
     rcases u3 with ⟨c,e,rfl,rfl⟩ | ⟨ad,c,e,UR⟩<;>simp[e,Builtin.lenOf]
    have UW:Nat.min m n=min m n:=rfl;simp only[execOp,ho,resolve,SA,Sx,TS,Sem.run_bind,Sem.run_pure,Result.andThen_ok,invoke,builtin,Builtin.copy_,map_toArray,map_cons,map_nil];simp only[getElem?_toArray,getElem?_cons_zero,getElem?_cons_succ,Sem.run_bind,bB hu,ex,Result.andThen_ok,hlen,cT g1,g2,UW,W9 _ rfl,Sz,Sem.run_pure,goInt]
   .cases hc
  .cases hc
 .cases hc
theorem BT {α:Type}:∀ (l:List (Nat×α)) (t:Nat) (x:α),assoc l t=some x->vc l t x=l
 | [],_,_,h=>by simp[assoc] at h
 | (k,v)::r,t,x,h=>by
  simp only[assoc] at h;simp only[vc];split at h
  .rename_i e;cases h;rw[if_pos e]
  .rename_i e;rw[if_neg e,BT r t x h]
def Bt (av:List (Nat×TI))(s:St)(d:Option Tmp)(t:TypeId)(x:Operand):Option St:=
 match dO av t,ev s x with
 | some (.sl e),some (.a7 o off n)=>
  match assoc av e,assoc s.heap o with
  | some ie,some ob=>
   if ob.sz=ie.size/\off+n*ie.size<=ob.cells.length then
    some (St.put { s with heap:=vc s.heap o { ob with cells:=gX ob.cells off (aY ie.zero n) } } d (.cF []))
   else none
  | _,_=>none
 | some (.sl _),some .aj=>some (s.put d (.cF []))
 | _,_=>none
theorem IB {av:List (Nat×TI)}(ht:aF P av)(h:aQ C U s a w){o:Oper}{cl:Call}{t:TypeId}{x:Operand}(hd:∀ t,o.dst=some t->t<a.tmps.size)(ho:o.op=.call cl)(SA:cl.callee=.builtin .clear)(Sx:cl.args=#[x])(TS:cl.argTypes=#[t])
  {s':St} (hc:Bt av s o.dst t x=some s'):∃ z w',(execOp a.eval o).run P w=.ok (.value z) w'/\Rel C s' (a.put o.dst z) w':=by
 have hu0:∀ {w':World} {d:Option Tmp} {s:St},VR w' (FB C U s.heap) U (.cF []) (.tuple #[]):=λ {w' d s}=>by
  simp only[VR];exact⟨[],rfl,rfl⟩
 unfold Bt at hc;split at hc
 .rename_i e o' off n Td hp;obtain⟨it,SW,Td⟩:=Option.map_eq_some_iff.1 Td;split at hc
  .rename_i ie ob Rz Uv;split at hc
   .rename_i hb;obtain⟨q1,q2⟩:=hb;cases hc;obtain⟨f,z,g1,g2,_,g4,g5⟩:=(ht e ie Rz).info;obtain⟨k1,k2⟩:=dr (w:=w) (F:=FB C U s.heap) _ _ g5;have hu:=dK (ht t it SW) Td;have hx:=bH h hp;simp only[VR] at hx;obtain⟨B,hB,hx⟩:=hx;obtain⟨B0,e1,e2,e3,e4,e5⟩:=h.obj _ ob Uv;rw[hB] at e1;cases e1;have hzl:(aY ie.zero n).length=n*ie.size:=by rw[fV,(ht e ie Rz).len]
    have none_case:n=0->vc s.heap o' { ob with cells:=gX ob.cells off (aY ie.zero n) }=s.heap:=λ hn=>by
     subst hn;have:gX ob.cells off (aY ie.zero 0)=ob.cells:=by simp[gX,aY]
     rw[this];exact BT _ _ _ Uv
    split at hx
    .obtain⟨ex,rfl,rfl⟩:=hx;rw[none_case rfl];refine⟨.tuple #[],w,?_,_,h.put hd (hu0 (d:=none) (s:=s))⟩;simp only[execOp,ho,resolve,SA,Sx,TS,Sem.run_bind,Sem.run_pure,Result.andThen_ok,invoke,builtin,Builtin.clear_,map_toArray,map_cons,map_nil];simp only[getElem?_toArray,getElem?_cons_zero,Sem.run_bind,bB hu,ex,Result.andThen_ok,Sem.run_pure]
    .rename_i b WV;obtain⟨cap,ex,c1,c2,c3,c4⟩:=hx;obtain⟨cur,n1,n2,n3,n4,n5,n6⟩:=e5 b WV;by_cases hn:n=0
     .subst hn;rw[none_case rfl];refine⟨.tuple #[],w,?_,_,h.put hd (hu0 (d:=none) (s:=s))⟩;simp only[execOp,ho,resolve,SA,Sx,TS,Sem.run_bind,Sem.run_pure,Result.andThen_ok,invoke,builtin,Builtin.clear_,map_toArray,map_cons,map_nil];simp only[getElem?_toArray,getElem?_cons_zero,Sem.run_bind,bB hu,ex,Result.andThen_ok,Sem.run_pure]
     .have SB:z.cells.size=ie.size:=by rw[<- (ht e ie Rz).len,<- bX.length _ _ k1];simp
      have hz:=mM (U:=U) (aZ.cJ _ _ k1) n;have Wh:=kM k2 n;have hul:(Builtin.zeroCells z.cells n).toList=(madeCells z.cells (n*z.cells.size)).toList:=rfl;have hlen:(madeCells z.cells (n*z.cells.size)).toList.length=n*ie.size:=by simp[size_madeCells,SB]
      have Sz:=run_storeCells_at P b off ob.elem (madeCells z.cells (n*z.cells.size)).toList 0 cur w n1 (by rw[hlen];omega) (aZ.jB _ _ Wh hz);simp only[Nat.add_zero] at Sz;have hw:=h.write Uv hB WV (Uh:=gX ob.cells off (aY ie.zero n)) (Zc:=cur.toList.take off++(madeCells z.cells (n*z.cells.size)).toList++cur.toList.drop (off+(madeCells z.cells (n*z.cells.size)).toList.length)) (by simp only[length_append,length_take,length_drop,hlen];simp;omega)
       (by rw[gx _ _ _ yA];simp only[length_append,length_take,length_drop,hlen];simp;omega) (by
        rw[gx _ _ _ yA];have:=wC n6 off hz;have ee:(cur.toList.take off++(madeCells z.cells (n*z.cells.size)).toList++cur.toList.drop (off+(madeCells z.cells (n*z.cells.size)).toList.length)).take ob.cells.length =
          (cur.toList.take ob.cells.length).take off++(madeCells z.cells (n*z.cells.size)).toList++(cur.toList.take ob.cells.length).drop (off+(madeCells z.cells (n*z.cells.size)).toList.length):=by
         have SA:ob.cells.length<=cur.toList.length:=by simpa using n5
         generalize (madeCells z.cells (n*z.cells.size)).toList=vs at *;rw[take_append,take_append];simp only[length_append,length_take,take_take,drop_take];rw[Nat.min_eq_right (show off<=ob.cells.length by omega),Nat.min_eq_left (show off<=cur.toList.length by omega),take_of_length_le (show vs.length<=ob.cells.length-off by omega)];congr 2
         .rw[Nat.min_eq_left (show off<=ob.cells.length by omega)]
        rw[ee];exact this) (sW off e4 Wh)
      refine⟨.tuple #[],_,?_,_,hw.put hd (hu0 (d:=none) (s:={ s with heap:=vc s.heap o' { ob with cells:=gX ob.cells off (aY ie.zero n) } }))⟩;obtain⟨m,rfl⟩:∃ m,n=m+1:=⟨n-1,by omega⟩;simp only[execOp,ho,resolve,SA,Sx,TS,Sem.run_bind,Sem.run_pure,Result.andThen_ok,invoke,builtin,Builtin.clear_,map_toArray,map_cons,map_nil];simp only[getElem?_toArray,getElem?_cons_zero,Sem.run_bind,bB hu,ex,Result.andThen_ok,iV g1 g4,hul,Sz,Sem.run_pure]
   .cases hc
  .cases hc
 .rename_i e Td hp;obtain⟨it,SW,Td⟩:=Option.map_eq_some_iff.1 Td;cases hc;have hu:=dK (ht t it SW) Td;have ex:=bH h hp;simp only[VR] at ex;refine⟨.tuple #[],w,?_,_,h.put hd (hu0 (d:=none) (s:=s))⟩;simp only[execOp,ho,resolve,SA,Sx,TS,Sem.run_bind,Sem.run_pure,Result.andThen_ok,invoke,builtin,Builtin.clear_,map_toArray,map_cons,map_nil];simp only[getElem?_toArray,getElem?_cons_zero,Sem.run_bind,bB hu,ex,Result.andThen_ok,Sem.run_pure]
 .cases hc
end
def bj (nt:Nat)(d:Option Tmp):Bool:=match d with
 | some t=>decide (t<nt)
 | none=>true
def Jy (av:List (Nat×TI))(s:St)(d:Option Tmp)(c:Call):Option St:=
 match c.callee with
 | .builtin .append=>match c.args.toList,c.argTypes.toList with
  | [x,y],[t,t']=>if t=t' then qj av s d t x y else none
  | _,_=>none
 | .builtin .copy=>match c.args.toList,c.argTypes.toList with
  | [x,y],[t,_]=>G6 av s d t x y
  | _,_=>none
 | .builtin .clear=>match c.args.toList,c.argTypes.toList with
  | [x],[t]=>Bt av s d t x
  | _,_=>none
 | .builtin b=>(je av s b c.args.toList c.argTypes.toList).map (s.put d)
 | _=>none
def oV (av:List (Nat×TI))(s:St)(o:Oper):Option St:=
 match o.op with
 | .store t x v=>(uS av s t x v).map (·.del o.dst)
 | .makeSlice t l c=>G1 av s o.dst t l c
 | .alloc e=>Bu av s o.dst e
 | .box e x=>Oq s o.dst e x
 | .buildSlice t len parts=>ma av s o.dst t len parts.toList
 | .call c=>Jy av s o.dst c
 | op=>(fD av s op).map (s.put o.dst)
def nX (e:Option CV)(want:Bool):Option Bool:=match e with
 | some (.bool b)=>some (b == want)
 | some (.cF [])=>some false
 | _=>none
def gV (av:List (Nat×TI))(nt:Nat)(ops:Array Oper)(s:St)(o:Oper):Option St:=
 if bj nt o.dst then
  match o.guard with
  | none=>oV av s o
  | some (j,want)=>match (ops[j]?).bind (·.dst) with
   | none=>none
   | some t=>match nX (assoc s.env t) want with
    | some true=>oV av s o
    | some false=>some (s.put o.dst (.cF []))
    | none=>none
 else none
def zf (av:List (Nat×TI))(nt:Nat)(ops:Array Oper):List Oper->St->Option St
 | [],s=>some s
 | o::r,s=>match gV av nt ops s o with
  | some s'=>zf av nt ops r s'
  | none=>none
section
variable {P:Program}{C:Cx}{s:St}{a:Act}{w:World}{ops:Array Oper}{av:List (Nat×TI)}
theorem ze (ht:aF P av)(h:Rel C s a w){o:Oper}(hd:bj C.nt o.dst=true){s':St}(hs:oV av s o=some s') :
  ∃ w',((∃ z,(execOp a.eval o).run P w=.ok (.value z) w'/\Rel C s' (a.put o.dst z) w')\/((execOp a.eval o).run P w=.ok .skip w'/\Rel C s' (a.put o.dst undef) w')):=by
 obtain⟨U,h⟩:=h;have Td:∀ t,o.dst=some t->t<a.tmps.size:=λ t e=>by
  rw[h.tm];rw[e] at hd
  simpa [bj] using hd
 have quiet:∀ c,fD av s o.op=some c->s.put o.dst c=s'->∃ w',((∃ z,(execOp a.eval o).run P w=.ok (.value z) w'/\Rel C s' (a.put o.dst z) w')\/((execOp a.eval o).run P w=.ok .skip w'/\Rel C s' (a.put o.dst undef) w')):=λ c hc e=>by
  obtain⟨z,k1,k2⟩:=AF ht h o hc;exact⟨w,.inl ⟨z,k1,U,e ▸ h.put Td k2⟩⟩
 unfold oV at hs;split at hs
 .rename_i t x v ho;obtain⟨s1,h1,rfl⟩:=Option.map_eq_some_iff.1 hs;obtain⟨w',k1,k2,_⟩:=zX ht h ho h1;exact⟨w',.inr ⟨k1,U,k2.del undef⟩⟩
 .rename_i t l c ho;obtain⟨z,w',k1,k2⟩:=LK ht h Td ho hs;exact⟨w',.inl ⟨z,k1,k2⟩⟩
 .rename_i e ho;obtain⟨z,w',k1,k2⟩:=IE ht h Td ho hs;exact⟨w',.inl ⟨z,k1,k2⟩⟩
 .rename_i e x ho;obtain⟨z,w',k1,k2⟩:=Oo (P:=P) h Td ho hs;exact⟨w',.inl ⟨z,k1,k2⟩⟩
 .rename_i t len parts ho;obtain⟨z,w',k1,k2⟩:=yh ht h Td ho hs;exact⟨w',.inl ⟨z,k1,k2⟩⟩
 .rename_i cl ho;unfold Jy at hs;split at hs
  .rename_i SA;split at hs
   .rename_i x y t t' ha TS;split at hs
    .rename_i e;subst e;obtain⟨z,w',_,k1,k2⟩:=yi ht h Td ho SA yDk yDi hs;exact⟨w',.inl ⟨z,k1,_,k2⟩⟩
    .cases hs
   .cases hs
  .rename_i SA;split at hs
   .rename_i x y t t' ha TS;obtain⟨z,w',k1,k2⟩:=LP ht h Td ho SA yDk yDi hs;exact⟨w',.inl ⟨z,k1,k2⟩⟩
   .cases hs
  .rename_i SA;split at hs
   .rename_i x t ha TS;obtain⟨z,w',k1,k2⟩:=IB ht h Td ho SA yDk yDi hs;exact⟨w',.inl ⟨z,k1,k2⟩⟩
   .cases hs
  .rename_i b _ _ _ SA;obtain⟨c,hc,e⟩:=Option.map_eq_some_iff.1 hs;exact quiet c (by rw[ho];simp only[fD,SA];exact hc) e
  .cases hs
 .obtain⟨c,hc,e⟩:=Option.map_eq_some_iff.1 hs;exact quiet c hc e
theorem wN (h:Rel C s a w){j:Nat}{t:Tmp}{b:Bool}(hj:(ops[j]?).bind (·.dst)=some t)(he:assoc s.env t=some (.bool b)):yielded ops a.tmps j=some b:=by
 obtain⟨U,h⟩:=h;obtain⟨v,h1,h2⟩:=h.env t _ he;simp only[VR] at h2;subst h2;simp[yielded,hj,h1]
theorem kN (h:Rel C s a w){o:Oper}{j:Nat}{want:Bool}{t:Tmp}{b:Bool}(hg:o.guard=some (j,want))(hj:(ops[j]?).bind (·.dst)=some t)(he:nX (assoc s.env t) want=some b):Region.wanted o (yielded ops a.tmps)=b:=by
 unfold nX at he;split at he
 .rename_i b' hb;cases he;simp[Region.wanted,hg,wN h hj hb]
 .rename_i hb;cases he;obtain⟨U,h⟩:=h;obtain⟨v,h1,h2⟩:=h.env t _ hb;simp only[VR] at h2;obtain⟨vs,rfl,h3⟩:=h2;simp[Region.wanted,hg,yielded,hj,h1]
 .cases he
theorem Rel.skip (h:Rel C s a w){d:Option Tmp}(hd:bj C.nt d=true):Rel C (s.put d (.cF [])) (a.put d undef) w:=by
 obtain⟨U,h⟩:=h;refine⟨U,h.put (λ t e=>?_) ?_⟩
 .rw[h.tm];rw[e] at hd
  simpa [bj] using hd
 .exact⟨[],rfl,rfl⟩
def TL (P:Program)(C:Cx)(ops:Array Oper)(l:List Oper)(s:St)(K:St->Prop):Prop:=
 ∀ a w (Q:Exit->Act->World->Prop),Rel C s a w->(∀ s' a' w',K s'->Rel C s' a' w'->Q .normal a' w')->wpList P ops Q l a w
theorem TL.nil {K:St->Prop}(h:K s):TL P C ops [] s K:=λ _ _ _ hr hQ=>hQ _ _ _ h hr
theorem TL.step (ht:aF P av){o:Oper}{l:List Oper}{K:St->Prop}{s':St}(hs:gV av C.nt ops s o=some s')(h:TL P C ops l s' K):TL P C ops (o::l) s K:=by
 intro a w Q hr hQ;have run:∀ {s'},bj C.nt o.dst=true->Region.wanted o (yielded ops a.tmps)=true->oV av s o=some s'->TL P C ops l s' K->wpList P ops Q (o::l) a w:=λ {s'} hd hw hs h=>by
  unfold wpList;rw[if_pos hw];refine .inl ?_;obtain⟨w',h1 | h1⟩:=ze ht hr hd hs
  .obtain⟨z,k1,k2⟩:=h1;unfold Oper.wp;rw[k1];exact h _ _ Q k2 hQ
  .obtain⟨k1,k2⟩:=h1;unfold Oper.wp;rw[k1];exact h _ _ Q k2 hQ
 unfold gV at hs;split at hs
 .rename_i hd;split at hs
  .rename_i hg;exact run hd (by simp[Region.wanted,hg]) hs h
  .rename_i j want hg;split at hs
   .cases hs
   rename_i t hj;split at hs
   .rename_i hb;exact run hd (kN hr hg hj hb) hs h
   .rename_i hb;cases hs;unfold wpList;rw[if_neg (by simp[kN hr hg hj hb])];exact h _ _ Q (hr.skip hd) hQ
   .cases hs
 .cases hs
def T (P:Program)(C:Cx)(c:Code)(s:St)(Q:Exit->St->Prop):Prop:=
 ∀ a w,Rel C s a w->c.wp P (λ e a' w'=>∃ s',Q e s'/\Rel C s' a' w') a w
def fz (K:St->Prop)(Q:Exit->St->Prop):Exit->St->Prop
 | .normal,s=>K s
 | e,s=>Q e s
theorem T.mono {c:Code}{Q Q':Exit->St->Prop}(h:T P C c s Q)(hq:∀ e s',Q e s'->Q' e s'):T P C c s Q':=λ a w hr=>
 wp_mono (h a w hr) λ e _ _ ⟨s',q,r⟩=>⟨s',hq e s' q,r⟩
theorem T.region {id:Nat}{l:List Oper}{Q:Exit->St->Prop}(h:TL P C l.toArray l s (Q .normal)):T P C (.region id l.toArray false) s Q:=λ a w hr=>
 wp_region_lit (h a w _ hr λ s' _ _ hk S0=>⟨s',hk,S0⟩)
theorem T.seq {x y:Code}{Q:Exit->St->Prop}(h:T P C x s (fz (λ s'=>T P C y s' Q) Q)):T P C (.seq x y) s Q:=λ a w hr=>
 wp_seq (wp_mono (h a w hr) λ e a' w' ⟨s',q,r⟩=>by
  cases e with
  | normal=>exact q a' w' r
  | _=>exact⟨s',q,r⟩)
theorem T.cond {c:Operand}{x y:Code}{b:Bool}{Q:Exit->St->Prop}(hc:ev s c=some (.bool b))(h:T P C (if b then x else y) s Q):T P C (.cond c x y) s Q:=λ a w hr=>by
 have hr0:=hr;obtain⟨U,S0⟩:=hr0;have:=bH S0 hc;simp only[VR] at this;exact wp_cond this (h a w hr)
theorem T.skip {Q:Exit->St->Prop}(h:Q .normal s):T P C .skip s Q:=λ _ _ hr=>wp_skip ⟨s,h,hr⟩
theorem T.exit {id:Nat}{Q:Exit->St->Prop}(h:Q (.exit id) s):T P C (.exit id) s Q:=λ _ _ hr=>wp_exit ⟨s,h,hr⟩
theorem T.ret {Q:Exit->St->Prop}(h:Q .ret s):T P C .ret s Q:=λ _ _ hr=>wp_ret ⟨s,h,hr⟩
theorem T.label {l:Nat}{Q:Exit->St->Prop}(h:Q .normal s):T P C (.label l) s Q:=λ _ _ hr=>wp_label ⟨s,h,hr⟩
theorem T.goto {l:Nat}{Q:Exit->St->Prop}(h:Q (.goto l) s):T P C (.goto l) s Q:=λ _ _ hr=>wp_goto ⟨s,h,hr⟩
def rJ (id:Nat)(Q:Exit->St->Prop):Exit->St->Prop
 | .exit i,s=>if i=id then Q .normal s else Q (.exit i) s
 | e,s=>Q e s
theorem T.block {id:Nat}{c:Code}{Q:Exit->St->Prop}(h:T P C c s (rJ id Q)):T P C (.block id c) s Q:=λ a w hr=>
 wp_block (wp_mono (h a w hr) λ e a' w' ⟨s',q,r⟩=>by
  cases e with
  | exit i=>
   simp only[Exit.inBlock,rJ] at q |-;split
   .rename_i e;rw[if_pos e] at q;exact⟨s',q,r⟩
   .rename_i e;rw[if_neg e] at q;exact⟨s',q,r⟩
  | _=>exact⟨s',q,r⟩)
theorem Eg {c:Code}{Q:Exit->Act->World->Prop}(I:Nat->Act->World->Prop){n:Nat}(h₀:I n a w)
  (round:∀ n a w,I n a w->c.wp P (Exit.then (λ a' w'=>∃ m,m<n/\I m a' w') Q) a w):(Code.loop c).wp P Q a w:=by
 classical
 have hx:∀ a w,(∃ n,I n a w)->∃ n,I n a w/\∀ m,I m a w->n<=m:=λ a w ⟨n,hn⟩=>by
  induction n using Nat.strongRecOn with
  | _ n ih=>
   by_cases h:∃ m,m<n/\I m a w
   .obtain⟨m,hm,hi⟩:=h;exact ih m hm hi
   .exact⟨n,hn,λ m hm=>Nat.le_of_not_lt λ P1=>h ⟨m,P1,hm⟩⟩
 let μ:Act->World->Nat:=λ a w=>if h:∃ n,I n a w then (hx a w h).choose else 0
 have hμ:∀ a w (h:∃ n,I n a w),I (μ a w) a w/\∀ m,I m a w->μ a w<=m:=λ a w h=>by
  simp only[μ,dif_pos h];exact (hx a w h).choose_spec
 refine wp_loop (λ a w=>∃ n,I n a w) μ ⟨n,h₀⟩ λ a w hI=>?_;refine wp_mono (round (μ a w) a w (hμ a w hI).1) λ e a' w' q=>?_
 cases e with
 | normal=>
  obtain⟨m,hm,hi⟩:=q;exact⟨⟨m,hi⟩,Nat.lt_of_le_of_lt ((hμ a' w' ⟨m,hi⟩).2 m hi) hm⟩
 | _=>exact q
theorem T.loop {c:Code}{Q:Exit->St->Prop}(I:Nat->St->Prop){n:Nat}(h₀:I n s)(round:∀ n s,I n s->T P C c s (fz (λ s'=>∃ m,m<n/\I m s') Q)):T P C (.loop c) s Q:=λ a w hr=>
 Eg (λ n a w=>∃ s,I n s/\Rel C s a w) ⟨s,h₀,hr⟩ λ n a w ⟨s,hi,hr⟩=>wp_mono (round n s hi a w hr) λ e a' w' ⟨s',q,r⟩=>by
  cases e with
  | normal=>obtain⟨m,hm,hi⟩:=q;exact⟨m,hm,s',hi,r⟩
  | _=>exact⟨s',q,r⟩
end
end Go.Can
