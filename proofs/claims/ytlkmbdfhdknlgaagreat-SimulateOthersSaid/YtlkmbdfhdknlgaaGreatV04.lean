/- The value of an operation -/
import Derived.Test.YtlkmbdfhdknlgaaGreatV03
import Derived.Maps.AppendAt
namespace Go.Can
open Go.RowKit List
def vX (d:Option TD)(p q:CV):Option Bool:=
 match d,q with
 | some (.sl _),.ak=>match p with
  | .ak=>some true
  | .au _ n=>if n=0 then none else some false
  | .bg _ _ n=>if n=0 then none else some false
  | _=>none
 | some (.ptr _),.bM=>match p with
  | .bM=>some true
  | .de _=>some false
  | .ax _ _=>some false
  | _=>none
 | some .func,.cH=>match p with
  | .cH=>some true
  | .fn _ _=>some false
  | _=>none
 | _,_=>none
def Em (av:List (Nat×TI))(op:BinOp)(t:TypeId)(p q:CV):Option CV:=
 match p,q with
 | .int _ _,.int _ _=>Dd op .Mz p q
 | .str _,.str _=>Dd op .Mz p q
 | .bool _,.bool _=>match dM av t with
  | some d=>Dd op d p q
  | none=>none
 | _,_=>match op with
  | .eql=>(vX (dM av t) p q).map CV.bool
  | .neq=>(vX (dM av t) p q).map λ b=>CV.bool (!b)
  | _=>none
def cun (op:UnOp)(p:CV):Option CV:=
 match op,p with
 | .not,.bool b=>some (.bool (!b))
 | .neg,.int k n=>some (.int k (k.wrap (0-n)))
 | _,_=>none
def iz (av:List (Nat×TI))(s:St)(b:Builtin)(args:List Operand)(ts:List TypeId):Option CV:=
 match b with
 | .len=>match args,ts with
  | [x],[t]=>match ev s x with
   | some c=>KG av t c
   | none=>none
  | _,_=>none
 | .min=>match Bk s args with
  | some (.int k x::r)=>lK MY k x r
  | _=>none
 | .max=>match Bk s args with
  | some (.int k x::r)=>lK imax k x r
  | _=>none
 | _=>none
def fp (av:List (Nat×TI))(s:St):Op->Option CV
 | .move x=>ev s x
 | .assign x=>ev s x
 | .pick c x y=>match ev s c with
  | some (.bool b)=>if b then ev s x else ev s y
  | _=>none
 | .binOp op t x y _=>match ev s x,ev s y with
  | some p,some q=>Em av op t p q
  | _,_=>none
 | .unOp op _ x=>match ev s x with
  | some p=>cun op p
  | none=>none
 | .load t x=>match ev s x,assoc av t with
  | some c,some i=>match gS s c with
   | some cs=>mf i cs
   | none=>none
  | _,_=>none
 | .slice t x lo hi none=>match ev s x with
  | some c=>lJ av s t c lo hi
  | none=>none
 | .fieldAddr t x f=>match ev s x with
  | some c=>mV av t c f
  | none=>none
 | .field t x f=>match ev s x with
  | some c=>zA av t c f
  | none=>none
 | .indexAddr t x i=>match ev s x,ev s i with
  | some c,some (.int _ n)=>zx av t c n
  | _,_=>none
 | .index t x i=>match ev s x,ev s i with
  | some c,some (.int _ n)=>uJ av t c n
  | _,_=>none
 | .extract x i=>match ev s x with
  | some (.bY vs)=>vs[i]?
  | _=>none
 | .makeFunc (.func f) first captured=>if first.isEmpty then (Bk s captured.toList).map (CV.fn f) else none
 | .nilCheck x=>match ev s x with
  | some (.ax o p)=>some (.ax o p)
  | some (.de cs)=>some (.de cs)
  | some (.fn f cs)=>some (.fn f cs)
  | _=>none
 | .build t parts=>sF av s t parts.toList
 | .call c=>match c.callee with
  | .builtin b=>iz av s b c.args.toList c.argTypes.toList
  | _=>none
 | _=>none
section
variable {P:Program}{C:Cx}{σ:Nat->Option OB}{s:St}{a:Act}{w:World}
theorem KM {F:Nat->Prop}{op:BinOp}{t:TypeId}{p q c:CV}{u v:Value}(hp:VR w F σ p u)(hq:VR w F σ q v)(d:TD)(hd:d=.bool->P.underlying t=some .bool)(hc:Dd op d p q=some c) :
  ∃ x,(binOp op t u v).run P w=.ok x w/\VR w F σ c x:=by
 unfold Dd at hc;split at hc
 ·rename_i k a k' b;simp only[VR] at hp hq;subst hp hq;split at hc
  ·split at hc
   ·cases hc
   ·rename_i hb;cases hc;exact⟨_,by simp[binOp,Op.shift,hb],dT _ _⟩
  ·split at hc
   ·cases hc
   ·rename_i hb;cases hc;exact⟨_,by simp[binOp,Op.shift,hb],dT _ _⟩
  ·rename_i h1 h2;split at hc
   ·rename_i hk;subst hk;exact II (λ e=>h1 e) (λ e=>h2 e) hc
   ·cases hc
 ·simp only[VR] at hp hq;subst hp hq;exact GG hc
 ·rename_i b b';simp only[VR] at hp hq;subst hp hq;split at hc
  ·cases hc;exact⟨_,run_eql_bool w t b b' (hd rfl),dL _⟩
  ·cases hc;exact⟨_,run_neq_bool w t b b' (hd rfl),dL _⟩
  ·cases hc
 ·cases hc
theorem Jj {t e:TypeId}{i:TI}(hT:cE P t i)(hd:i.d=.ptr e):P.underlying t=some (.pointer e):=by
 obtain⟨d,h1,h2⟩:=hT.zJ;rw[hd] at h2;cases d<;>simp only[ue] at h2<;>first | cases h2 | skip
 exact h1
theorem Gt {t:TypeId}{i:TI}(hT:cE P t i)(hd:i.d=.func):∃ x y z,P.underlying t=some (.func x y z):=by
 obtain⟨d,h1,h2⟩:=hT.zJ;rw[hd] at h2;cases d<;>simp only[ue] at h2<;>first | cases h2 | skip
 exact⟨_,_,_,h1⟩
theorem nX (d:Nat){t e:TypeId}(h:P.underlying t=some (.slice e))(A:Option Addr)(n cap:Nat):(Op.equalIn (d+1) t (.slice A n cap) (.slice none 0 0)).run P w=.ok A.isNone w:=by
 cases A<;>simp[Op.equalIn,bH h]
theorem uf (d:Nat){t e:TypeId}(h:P.underlying t=some (.pointer e))(A:Option Addr):(Op.equalIn (d+1) t (.pointer A) (.pointer none)).run P w=.ok A.isNone w:=by
 cases A<;>simp[Op.equalIn,bH h]
theorem u0 (d:Nat){t:TypeId}{x y:Array TypeId}{z:Bool}(h:P.underlying t=some (.func x y z))(f:Fn)(u v:Array Value):(Op.equalIn (d+1) t (.func f u v) .nilFunc).run P w=.ok false w:=by
 simp[Op.equalIn,bH h]
theorem qC (d:Nat){t:TypeId}{x y:Array TypeId}{z:Bool}(h:P.underlying t=some (.func x y z)):(Op.equalIn (d+1) t .nilFunc .nilFunc).run P w=.ok true w:=by
 simp[Op.equalIn,bH h]
theorem yd {av:List (Nat×TI)}(ht:aD P av){F:Nat->Prop}{t:TypeId}{p q:CV}{u v:Value}{b:Bool}(hp:VR w F σ p u)(hq:VR w F σ q v)(hc:vX (dM av t) p q=some b) :
  (Op.equal t u v).run P w=.ok b w/\(∀ cs,u≠.agg cs)/\u≠.nilIface/\
   (∀ k n,u≠.int k n)/\(∀ k n,u≠.float k n)/\(∀ k x y,u≠.complex k x y)/\(∀ x,u≠.string x):=by
 unfold vX at hc;split at hc
 ·rename_i e hd;obtain⟨it,Ps,hd⟩:=Option.map_eq_some_iff.1 hd;have hu:=dI (ht t it Ps) hd;simp only[VR] at hq;subst hq;have key:∃ A n cap,u=.slice A n cap/\(A=none↔b=true):=by
   split at hc
   ·cases hc;simp only[VR] at hp;subst hp;exact⟨_,_,_,rfl,by simp⟩
   ·rename_i cs n;split at hc
    ·cases hc
    ·rename_i hn;cases hc;simp only[VR,cr] at hp;obtain⟨A,cap,rfl,_,_,h4⟩:=hp;rcases h4 with ⟨h4,_⟩ | ⟨ad,rfl,_⟩
     ·exact absurd h4 hn
     ·exact⟨_,_,_,rfl,by simp⟩
   ·rename_i o off n;split at hc
    ·cases hc
    ·rename_i hn;cases hc;simp only[VR] at hp;obtain⟨B,_,hp⟩:=hp;split at hp
     ·exact absurd hp.2.2 hn
     ·obtain⟨cap,rfl,_⟩:=hp;exact⟨_,_,_,rfl,by simp⟩
   ·cases hc
  obtain⟨A,n,cap,rfl,hA⟩:=key;refine⟨?_,by simp,by simp,by simp,by simp,by simp,by simp⟩;have e:A.isNone=b:=by
   cases A with
   | none=>simp[hA.1 rfl]
   | some ad=>cases b;rfl;exact absurd (hA.2 rfl) xr
  rw[<- e];exact nX 9999 hu A n cap
 ·rename_i e hd;obtain⟨it,Ps,hd⟩:=Option.map_eq_some_iff.1 hd;have hu:=Jj (ht t it Ps) hd;simp only[VR] at hq;subst hq;have key:∃ A,u=.pointer A/\(A=none↔b=true):=by
   split at hc
   ·cases hc;simp only[VR] at hp;subst hp;exact⟨_,rfl,by simp⟩
   ·cases hc;simp only[VR,cr] at hp;obtain⟨ad,rfl,_⟩:=hp;exact⟨_,rfl,by simp⟩
   ·cases hc;simp only[VR] at hp;obtain⟨B,b,_,_,rfl⟩:=hp;exact⟨_,rfl,by simp⟩
   ·cases hc
  obtain⟨A,rfl,hA⟩:=key;refine⟨?_,by simp,by simp,by simp,by simp,by simp,by simp⟩;have e:A.isNone=b:=by
   cases A with
   | none=>simp[hA.1 rfl]
   | some ad=>cases b;rfl;exact absurd (hA.2 rfl) xr
  rw[<- e];exact uf 9999 hu A
 ·rename_i hd;obtain⟨it,Ps,hd⟩:=Option.map_eq_some_iff.1 hd;obtain⟨x,y,z,hu⟩:=Gt (ht t it Ps) hd;simp only[VR] at hq;subst hq;split at hc
  ·cases hc;simp only[VR] at hp;subst hp;refine⟨?_,by simp,by simp,by simp,by simp,by simp,by simp⟩;exact qC 9999 hu
  ·cases hc;simp only[VR] at hp;obtain⟨vs,rfl,_⟩:=hp;refine⟨?_,by simp,by simp,by simp,by simp,by simp,by simp⟩;exact u0 9999 hu _ _ _
  ·cases hc
 ·cases hc
theorem kO {op:BinOp}{t:TypeId}{x y:Operand}{u v:Value}(h1:∀ cs,u≠.agg cs)(h2:u≠.nilIface):(eqGuard op t x y u v).run P w=.ok () w:=by
 unfold eqGuard;split
 all_goals first
  | (rw[if_pos PU];rfl)
  | (rw[if_neg xr]
     split
     ·exact absurd rfl h2
     ·exact absurd rfl (h1 _)
     ·rfl)
theorem jA {t:TypeId}{u v:Value}{b:Bool}(he:(Op.equal t u v).run P w=.ok b w)(h1:∀ k n,u≠.int k n)(h2:∀ k n,u≠.float k n)(h3:∀ k x y,u≠.complex k x y)(h4:∀ x,u≠.string x) :
  (binOp .eql t u v).run P w=.ok (.bool b) w/\(binOp .neq t u v).run P w=.ok (.bool (!b)) w:=by
 constructor
 ·unfold binOp;split<;>first | exact absurd rfl (h1 _ _) | exact absurd rfl (h2 _ _) | exact absurd rfl (h3 _ _ _) | exact absurd rfl (h4 _) | (simp_all;done)
 ·unfold binOp;split<;>first | exact absurd rfl (h1 _ _) | exact absurd rfl (h2 _ _) | exact absurd rfl (h3 _ _ _) | exact absurd rfl (h4 _) | (simp_all;done)
theorem yL {F:Nat->Prop}{p:CV}{u:Value}(hp:VR w F σ p u)(h:∀ cs,p≠.agg cs)(ha:p≠.any)(hi:∀ t cs,p≠.iface t cs):(∀ cs,u≠.agg cs)/\u≠.nilIface:=by
 cases p<;>simp only[VR,cr] at hp
 case agg cs=>exact absurd rfl (h cs)
 case au=>obtain⟨A,cap,rfl,_⟩:=hp;simp
 case de=>obtain⟨ad,rfl,_⟩:=hp;simp
 case fn=>obtain⟨vs,rfl,_⟩:=hp;simp
 case iface t cs=>exact absurd rfl (hi t cs)
 case iter=>obtain⟨B,r,_,_,rfl,_⟩:=hp;simp
 case mp=>obtain⟨B,r,arr,clock,_,_,rfl,_⟩:=hp;simp
 case bY=>obtain⟨vs,rfl,_⟩:=hp;simp
 case bg=>
  obtain⟨B,_,hp⟩:=hp;split at hp
  ·obtain⟨rfl,_⟩:=hp;simp
  ·obtain⟨cap,rfl,_⟩:=hp;simp
 case ax=>obtain⟨B,b,_,_,rfl⟩:=hp;simp
 case any=>exact absurd rfl ha
 all_goals (subst hp;simp)
theorem Iy {av:List (Nat×TI)}(ht:aD P av){F:Nat->Prop}{op:BinOp}{t:TypeId}{p q c:CV}{u v:Value}(hp:VR w F σ p u)(hq:VR w F σ q v)(hc:Em av op t p q=some c) :
  ∃ z,(∀ x y,(eqGuard op t x y u v).run P w=.ok () w)/\(binOp op t u v).run P w=.ok z w/\VR w F σ c z:=by
 have fin:∀ (_:∀ cs,p≠.agg cs) (_:p≠.any) (_:∀ t cs,p≠.iface t cs) (d:TD),(d=.bool->P.underlying t=some .bool)->Dd op d p q=some c->∃ z,(∀ x y,(eqGuard op t x y u v).run P w=.ok () w)/\(binOp op t u v).run P w=.ok z w/\VR w F σ c z:=λ hn T6 QV d hd h=>by
  obtain⟨h1,h2⟩:=yL hp hn T6 QV;obtain⟨z,k1,k2⟩:=KM hp hq d hd h;exact⟨z,λ _ _=>kO h1 h2,k1,k2⟩
 unfold Em at hc;split at hc
 ·exact fin xr xr xr _ xr hc
 ·exact fin xr xr xr _ xr hc
 ·split at hc
  ·rename_i d hd;obtain⟨it,Ps,hd⟩:=Option.map_eq_some_iff.1 hd;exact fin xr xr xr d (λ e=>Gu (ht t it Ps) (by rw[hd,e])) hc
  ·cases hc
 ·split at hc
  ·obtain⟨b,hb,rfl⟩:=Option.map_eq_some_iff.1 hc;obtain⟨h1,h3,h4,h5,h6,h7,h8⟩:=yd ht hp hq hb;exact⟨_,λ _ _=>kO h3 h4,(jA h1 h5 h6 h7 h8).1,dL _⟩
  ·obtain⟨b,hb,rfl⟩:=Option.map_eq_some_iff.1 hc;obtain⟨h1,h3,h4,h5,h6,h7,h8⟩:=yd ht hp hq hb;exact⟨_,λ _ _=>kO h3 h4,(jA h1 h5 h6 h7 h8).2,dL _⟩
  ·cases hc
theorem Ni {F:Nat->Prop}{op:UnOp}{p c:CV}{u:Value}(hp:VR w F σ p u)(hc:cun op p=some c):∃ z,(Op.unary op u).run P w=.ok z w/\VR w F σ c z:=by
 unfold cun at hc;split at hc
 ·cases hc;simp only[VR] at hp;subst hp;exact⟨_,by simp[Op.unary],dL _⟩
 ·cases hc;simp only[VR] at hp;subst hp;exact⟨_,by simp[Op.unary,Op.intArith],dT _ _⟩
 ·cases hc
theorem BS {F:Nat->Prop}{k:IntKind}{x:Int}{cs:List CV}{vs:List Value}(h:a7 w F σ (.int k x::cs) vs):∃ r,vs=.int k x::r/\a7 w F σ cs r:=by
 simp only[a7] at h;obtain⟨v,r,rfl,h1,h2⟩:=h;simp only[VR] at h1;subst h1;exact⟨r,rfl,h2⟩
theorem BJ {av:List (Nat×TI)}(ht:aD P av)(h:aO C σ s a w){b:Builtin}{args:List Operand}{ts:Array TypeId}{ty:TypeId}{c:CV}(hc:iz av s b args ts.toList=some c) :
  ∃ z,(∀ cons,(builtin b ts ty cons (args.map a.eval).toArray).run P w=.ok (.value z) w)/\VR w (FB C σ s.heap) σ c z:=by
 unfold iz at hc;split at hc
 ·split at hc
  ·rename_i x t O5;split at hc
   ·rename_i c' he;obtain⟨u,k1,k2⟩:=KF (P:=P) (ty:=ty) ht (bG h he) hc;have:ts=#[t]:=by rw[<- Array.toArray_toList (xs:=ts),O5]
    subst this;exact⟨u,λ _=>by simp[builtin,k1],k2⟩
   ·cases hc
  ·cases hc
 ·split at hc
  ·rename_i k x r he;obtain⟨rs,e,hr⟩:=BS (p8 h _ _ he);obtain⟨u,k1,k2⟩:=Ed (P:=P) _ _ _ _ hr hc;exact⟨u,λ _=>by simp[builtin,Builtin.min_,e,k1],k2⟩
  ·cases hc
 ·split at hc
  ·rename_i k x r he;obtain⟨rs,e,hr⟩:=BS (p8 h _ _ he);obtain⟨u,k1,k2⟩:=Ee (P:=P) _ _ _ _ hr hc;exact⟨u,λ _=>by simp[builtin,Builtin.max_,e,k1],k2⟩
  ·cases hc
 ·cases hc
theorem uA {av:List (Nat×TI)}(ht:aD P av)(h:aO C σ s a w)(o:Oper){c:CV}(hc:fp av s o.op=some c) :
  ∃ z,(execOp a.eval o).run P w=.ok (.value z) w/\VR w (FB C σ s.heap) σ c z:=by
 obtain⟨dst,op,ty,pos,after,guard⟩:=o;unfold fp at hc;simp only at hc;split at hc
 ·exact⟨_,by simp[execOp],bG h hc⟩
 ·exact⟨_,by simp[execOp],bG h hc⟩
 ·rename_i c' x y;split at hc
  ·rename_i b he;have hb:=bG h he;simp only[VR] at hb;split at hc
   ·rename_i Ya;subst Ya;exact⟨_,by simp[execOp,hb,asBool],bG h hc⟩
   ·rename_i Ya;rw[Bool.not_eq_true] at Ya;subst Ya;exact⟨_,by simp[execOp,hb,asBool],bG h hc⟩
  ·cases hc
 ·split at hc
  ·rename_i p q hp hq;obtain⟨z,k0,k1,k2⟩:=Iy (P:=P) ht (bG h hp) (bG h hq) hc;exact⟨z,by simp only[execOp,Sem.run_bind,k0,k1,Result.andThen_ok,Sem.run_pure],k2⟩
  ·cases hc
 ·split at hc
  ·rename_i p hp;obtain⟨z,k1,k2⟩:=Ni (P:=P) (bG h hp) hc;exact⟨z,by simp[execOp,k1],k2⟩
  ·cases hc
 ·split at hc
  ·rename_i c' i hx hi;split at hc
   ·rename_i cs hm;obtain⟨ad,e,PQ⟩:=AL h (bG h hx) hm;obtain⟨z,k1,k2⟩:=BF (P:=P) (ht _ i hi) PQ hc;exact⟨z,by simp[execOp,Instr.loadAt,e,Instr.sureAddr,k1],k2⟩
   ·cases hc
  ·cases hc
 ·split at hc
  ·rename_i c' hx;obtain⟨z,k1,k2⟩:=FL (P:=P) ht h (bG h hx) hc;exact⟨z,by simp[execOp,k1],k2⟩
  ·cases hc
 ·split at hc
  ·rename_i c' hx;obtain⟨z,k1,k2⟩:=pH (P:=P) ht (bG h hx) hc;exact⟨z,by simp[execOp,k1],k2⟩
  ·cases hc
 ·split at hc
  ·rename_i c' hx;obtain⟨z,k1,k2⟩:=FO (P:=P) ht (bG h hx) hc;exact⟨z,by simp[execOp,k1],k2⟩
  ·cases hc
 ·split at hc
  ·rename_i c' k n hx hi;have hn:=bG h hi;simp only[VR] at hn;obtain⟨z,k1,k2⟩:=yg (P:=P) (k:=k) ht (bG h hx) hc;exact⟨z,by simp[execOp,hn,k1],k2⟩
  ·cases hc
 ·split at hc
  ·rename_i c' k n hx hi;have hn:=bG h hi;simp only[VR] at hn;obtain⟨z,k1,k2⟩:=Db (P:=P) (k:=k) ht (bG h hx) hc;exact⟨z,by simp[execOp,hn,k1],k2⟩
  ·cases hc
 ·split at hc
  ·rename_i vs hx;have hv:=bG h hx;simp only[VR] at hv;obtain⟨us,e,hr⟩:=hv;obtain⟨z,k1,k2⟩:=a7.get _ _ hr _ _ hc;exact⟨z,by simp[execOp,e,Instr.extract,k1],k2⟩
  ·cases hc
 ·rename_i f first captured
  split at hc
  ·rename_i hf;obtain⟨cs,PQ,rfl⟩:=Option.map_eq_some_iff.1 hc;have:=p8 h _ _ PQ;have e:first=#[]:=by simpa using hf
   subst e;refine⟨.func (.func f) #[] (captured.map a.eval),by simp[execOp,Instr.makeFunc],?_⟩;simp only[VR];exact⟨captured.toList.map a.eval,by rw[<- map_toArray],this⟩
  ·cases hc
 ·split at hc
  ·rename_i o p hx;cases hc;have hv:=bG h hx;have RM:=hv;simp only[VR] at RM;obtain⟨B,b,_,_,e⟩:=RM;exact⟨_,by simp only[execOp,e];rfl,by rw[<- e];exact hv⟩
  ·rename_i cs hx;cases hc;have hv:=bG h hx;have RM:=hv;simp only[VR,cr] at RM;obtain⟨ad,e,_⟩:=RM;exact⟨_,by simp only[execOp,e];rfl,by rw[<- e];exact hv⟩
  ·rename_i f cs hx;cases hc;have hv:=bG h hx;have RM:=hv;simp only[VR] at RM;obtain⟨vs,e,_⟩:=RM;exact⟨_,by simp only[execOp,e];rfl,by rw[<- e];exact hv⟩
  ·cases hc
 ·rename_i t parts;obtain⟨z,k1,k2⟩:=FR (P:=P) ht h hc;refine⟨z,?_,k2⟩;have e:(parts.map λ (x:Nat×Operand)=>(x.1,a.eval x.2))=(parts.toList.map λ (p:Nat×Operand)=>(p.1,a.eval p.2)).toArray:=by
   rw[<- map_toArray]
  simp only[execOp,e,Sem.run_bind,k1,Result.andThen_ok,Sem.run_pure]
 ·rename_i cl;split at hc
  ·rename_i b Rs;obtain⟨z,k1,k2⟩:=BJ (P:=P) (ty:=ty) ht h hc;refine⟨z,?_,k2⟩;have e:(cl.args.toList.map a.eval).toArray=cl.args.map a.eval:=by rw[<- map_toArray]
   rw[e] at k1;simp only[execOp,resolve,Rs,Sem.run_bind,Sem.run_pure,Result.andThen_ok,invoke,k1]
  ·cases hc
 ·cases hc
end
section
variable {P:Program}{C:Cx}{σ:Nat->Option OB}{s:St}{a:Act}{w:World}
theorem qi (H:List (Nat×Ob))(o:Nat)(x:Ob):FB C σ (sM H o x)=FB C σ H:=by
 funext b;apply propext;unfold FB;constructor
 ·rintro (h | ⟨p,ob,h,hb⟩)
  ·exact .inl h
  ·rw[fF] at h;split at h
   ·rename_i e;subst e;obtain⟨y,hy,_⟩:=Option.map_eq_some_iff.1 h;exact .inr ⟨o,y,hy,hb⟩
   ·exact .inr ⟨p,ob,h,hb⟩
 ·rintro (h | ⟨p,ob,h,hb⟩)
  ·exact .inl h
  ·by_cases e:o=p
   ·subst e;exact .inr ⟨o,x,by rw[fF,if_pos rfl,h];rfl,hb⟩
   ·exact .inr ⟨p,ob,by rw[fF,if_neg e];exact h,hb⟩
theorem FC {F:Nat->Prop}{b:Nat}{cs:Array Value}(hb:F b):cY w (w.setRow b cs) F F:=
 ⟨λ ad u hf hu=>⟨by rw[World.cell?_of_block (w:=w) (setRow_other w b ad.block cs (λ e=>hf (e ▸ hb)))];exact hu,hf⟩,
  λ r _ hf hu _=>⟨by rw[setRow_other w b r cs (λ e=>hf (e ▸ hb))];exact hu,hf⟩⟩
theorem vH {F:Nat->Prop}:cY w w.drew F F:=⟨λ _ _ hf hu=>⟨hu,hf⟩,λ _ _ hf hu _=>⟨hu,hf⟩⟩
theorem kP {w':World}{row:Option Nat}{F F':Nat->Prop}(hg:w.grownBy w' row)(hr:∀ b,row=some b->F b)(hF:∀ b,F' b->F b\/w.heap.size<=b):cY w w' F F':=by
 refine⟨λ ad u hf hu=>?_,λ r _ hf hu _=>?_⟩
 ·have OT:=World.block_lt_of_cell? w ad hu;refine⟨by rw[World.cell?_of_block (w:=w) (hg.block ad.block OT (λ e=>hf (hr _ e.symm)))];exact hu,λ h=>?_⟩;rcases hF _ h with h | h
  ·exact hf h
  ·omega
 ·have OT:=(Array.getElem?_eq_some_iff.1 hu).1;refine⟨by rw[hg.block r OT (λ e=>hf (hr _ e.symm))];exact hu,λ h=>?_⟩;rcases hF _ h with h | h
  ·exact hf h
  ·omega
mutual
theorem VR.refs {F:Nat->Prop}:∀ (c:CV) (v:Value) (o:Nat),VR w F σ c v->aP o c=false->∃ B,σ o=some B
 | .int _ _,_,_,_,h=>by simp[aP] at h
 | .bool _,_,_,_,h=>by simp[aP] at h
 | .str _,_,_,_,h=>by simp[aP] at h
 | .ak,_,_,_,h=>by simp[aP] at h
 | .bM,_,_,_,h=>by simp[aP] at h
 | .cH,_,_,_,h=>by simp[aP] at h
 | .iter p _ _,v,o,hv,h=>by
  simp only[aP,bne_eq_false_iff_eq] at h;subst h;simp only[VR] at hv;obtain⟨B,r,hB,_⟩:=hv;exact⟨B,hB⟩
 | .mp p _,v,o,hv,h=>by
  simp only[aP,bne_eq_false_iff_eq] at h;subst h;simp only[VR] at hv;obtain⟨B,r,arr,clock,hB,_⟩:=hv;exact⟨B,hB⟩
 | .au _ _,_,_,_,h=>by simp[aP] at h
 | .de _,_,_,_,h=>by simp[aP] at h
 | .agg cs,v,o,hv,h=>by
  simp only[VR] at hv;obtain⟨vs,_,r,_⟩:=hv;exact a7.refs cs vs o r (by simpa [aP] using h)
 | .fn _ cs,v,o,hv,h=>by
  simp only[VR] at hv;obtain⟨vs,_,r⟩:=hv;exact a7.refs cs vs o r (by simpa [aP] using h)
 | .iface _ cs,v,o,hv,h=>by
  simp only[VR] at hv;obtain⟨vs,_,r⟩:=hv;exact a7.refs cs vs o r (by simpa [aP] using h)
 | .bY cs,v,o,hv,h=>by
  simp only[VR] at hv;obtain⟨vs,_,r⟩:=hv;exact a7.refs cs vs o r (by simpa [aP] using h)
 | .bg p _ _,v,o,hv,h=>by
  simp only[VR] at hv;obtain⟨B,hB,_⟩:=hv;have:p=o:=by simpa [aP] using h
  subst this;exact⟨B,hB⟩
 | .ax p _,v,o,hv,h=>by
  simp only[VR] at hv;obtain⟨B,b,hB,_⟩:=hv;have:p=o:=by simpa [aP] using h
  subst this;exact⟨B,hB⟩
theorem a7.refs {F:Nat->Prop}:∀ (cs:List CV) (vs:List Value) (o:Nat),a7 w F σ cs vs->dY o cs=false->∃ B,σ o=some B
 | [],_,_,_,h=>by simp[dY] at h
 | c::cs,vs,o,hv,h=>by
  simp only[a7] at hv;obtain⟨v,r,_,h1,h2⟩:=hv;simp only[dY,Bool.and_eq_false_iff] at h;rcases h with h | h
  ·exact VR.refs c v o h1 h
  ·exact a7.refs cs r o h2 h
end
theorem aO.write (h:aO C σ s a w){o:Nat}{ob:Ob}{B:OB}{b:Nat}(ho:assoc s.heap o=some ob)(hB:σ o=some B)(hb:B.j7=some b){QH:List CV}{VA:List Value}
  (hl:VA.length=B.room) (Tq:QH.length<=VA.length) (hr:a7 w (FB C σ s.heap) σ QH (VA.take QH.length)) (h1:QH.all one=true) :
  aO C σ { s with heap:=sM s.heap o { ob with cells:=QH } } a (w.setRow b VA.toArray):=by
 obtain⟨B',e1,e2,e3,_,e5⟩:=h.obj o ob ho;rw[hB] at e1;cases e1;obtain⟨cur,k1,k2,k3,k4,k5,k6⟩:=e5 b hb;have hFb:FB C σ s.heap b:=.inr ⟨o,ob,ho,by simp[a9,hB,hb]⟩;have hk:cY w (w.setRow b VA.toArray) (FB C σ s.heap) (FB C σ s.heap):=FC hFb;refine⟨h.oz,h.tm,h.os,h.tape,h.output,by rw[size_setRow];exact h.size,?_,?_,?_,?_,h.nx,h.fX,h.low,h.new⟩
 ·intro b' Pf Po;rw[setRow_other w b b' _ (λ e=>?_)]
  ·exact h.frame b' Pf Po
  ·subst e;rcases k4 with k4 | k4
   ·exact Po k4
   ·omega
 ·intro t c hc;obtain⟨v,h1,h2⟩:=h.env t c hc;simp only[qi];exact⟨v,h1,VR.bL hk c v (λ _ _=>rfl) h2⟩
 ·intro o' Pe Pt;rw[fF] at Pt;split at Pt
  ·rename_i e;subst e;rw[ho] at Pt;cases Pt;refine⟨B,hB,e2,(λ hn=>by rw[hb] at hn;cases hn),h1,λ b' Pf=>?_⟩;rw[hb] at Pf;cases Pf;refine⟨VA.toArray,setRow_heap w b cur _ _ _ k1,by simpa using hl,k3,k4,by simpa using Tq,?_⟩;simp only[qi];exact a7.bL hk _ _ (λ _ _=>rfl) (by simpa using hr)
  ·rename_i e;obtain⟨B',m1,m2,m3,m4,m5⟩:=h.obj o' Pe Pt;refine⟨B',m1,m2,m3,m4,λ b' Pf=>?_⟩;obtain⟨cur',n1,n2,n3,n4,n5,n6⟩:=m5 b' Pf;have Pp:b'≠b:=λ eb=>e (h.inj o o' ob Pe b ho Pt (by simp[a9,hB,hb]) (by simp[a9,m1,Pf,eb]));refine⟨cur',by rw[setRow_other w b b' _ Pp];exact n1,n2,n3,n4,n5,?_⟩;simp only[qi];exact a7.bL hk _ _ (λ _ _=>rfl) n6
 ·intro o1 o2 ob1 ob2 b' h1 h2 h3 h4;have:∀ {p:Nat} {x y:Ob},assoc (sM s.heap o x) p=some y->∃ z,assoc s.heap p=some z:=λ {p x y} hp=>by
   rw[fF] at hp;split at hp
   ·rename_i e;subst e;obtain⟨z,hz,_⟩:=Option.map_eq_some_iff.1 hp;exact⟨z,hz⟩
   ·exact⟨_,hp⟩
  obtain⟨z1,Sc⟩:=this h1;obtain⟨z2,Qs⟩:=this h2;exact h.inj o1 o2 z1 z2 b' Sc Qs h3 h4
def sig (σ:Nat->Option OB)(o:Nat)(B:OB):Nat->Option OB:=λ p=>if p=o then some B else σ p
theorem ux {F:Nat->Prop}{c:CV}{v:Value}{o:Nat}{B:OB}(hn:σ o=none)(h:VR w F σ c v):∀ p,aP p c=false->sig σ o B p=σ p:=λ p hp=>by
 obtain⟨B',Rm⟩:=VR.refs c v p h hp;unfold sig;split
 ·rename_i e;subst e;rw[hn] at Rm;cases Rm
 ·rfl
theorem nV {F:Nat->Prop}{cs:List CV}{vs:List Value}{o:Nat}{B:OB}(hn:σ o=none)(h:a7 w F σ cs vs):∀ p,dY p cs=false->sig σ o B p=σ p:=λ p hp=>by
 obtain⟨B',Rm⟩:=a7.refs cs vs p h hp;unfold sig;split
 ·rename_i e;subst e;rw[hn] at Rm;cases Rm
 ·rfl
theorem aO.D5 (h:aO C σ s a w){m nx':Nat}(hn:σ m=none)(SC:C.n0<=m)(To:m<nx')(hxx:s.nx<=nx'){w':World}(hg:w.grownBy w' none){ob:Ob}{B:OB}(O0:B.sz=ob.sz)(h1:ob.cells.all one=true)(SV:B.j7=none->ob.cells=[])
  (QR:∀ b,B.j7=some b->w.heap.size<=b/\∃ cur:Array Value,w'.heap[b]? = some (.cells cur ob.elem (0,0))/\cur.size=B.room/\ob.cells.length<=cur.size/\a7 w (FB C σ s.heap) σ ob.cells (cur.toList.take ob.cells.length)) :
  aO C (sig σ m B) { s with heap:=(m,ob)::s.heap,nx:=nx' } a w'/\(∀ c v,VR w (FB C σ s.heap) σ c v->VR w' (FB C (sig σ m B) ((m,ob)::s.heap)) (sig σ m B) c v):=by
 have hold:∀ {p x},assoc s.heap p=some x->p≠m:=λ {p x} hp e=>by
  subst e;obtain⟨B',e1,_⟩:=h.obj _ _ hp;rw[hn] at e1;cases e1
 have SP:sig σ m B m=some B:=by simp[sig]
 have hs:∀ {p},p≠m->sig σ m B p=σ p:=λ {p} hp=>by simp[sig,hp]
 have hF:∀ b,FB C (sig σ m B) ((m,ob)::s.heap) b->FB C σ s.heap b\/w.heap.size<=b:=by
  rintro b (hb | ⟨p,x,hp,hb⟩)
  ·exact .inl (.inl hb)
  ·simp only[assoc] at hp;split at hp
   ·rename_i e;subst e;simp only[a9,SP,Option.bind_some] at hb;exact .inr (QR b hb).1
   ·have:=hold hp;simp only[a9,hs this] at hb;exact .inl (.inr ⟨p,x,hp,hb⟩)
 have hk:cY w w' (FB C σ s.heap) (FB C (sig σ m B) ((m,ob)::s.heap)):=kP hg (λ b e=>by cases e) hF;refine⟨⟨h.oz,h.tm,hg.os.trans h.os,hg.tape.trans h.tape,hg.output.trans h.output,Nat.le_trans h.size hg.size,?_,?_,?_,?_,?_,?_,Nat.le_trans h.low hxx,λ o B' b ho Rm hb=>?_⟩,λ c v hv=>VR.bL hk c v (ux hn hv) hv⟩
 ·intro b hb Po;rw[hg.block b (Nat.lt_of_lt_of_le hb h.size) xr];exact h.frame b hb Po
 ·intro t c hc;obtain⟨v,k1,k2⟩:=h.env t c hc;exact⟨v,k1,VR.bL hk c v (ux hn k2) k2⟩
 ·intro p x hp;simp only[assoc] at hp;split at hp
  ·rename_i e;subst e;cases hp;refine⟨B,SP,O0,SV,h1,λ b hb=>?_⟩;obtain⟨k0,cur,k1,k2,k3,k4⟩:=QR b hb;refine⟨cur,k1,k2,λ hf=>?_,.inr (Nat.le_trans h.size k0),k3,a7.bL hk _ _ (nV hn k4) k4⟩;have:=C.hF.1 b hf;have:=h.size;omega
  ·have Pp:=hold hp;obtain⟨B',m1,m2,m3,m4,m5⟩:=h.obj p x hp;refine⟨B',by rw[hs Pp];exact m1,m2,m3,m4,λ b hb=>?_⟩;obtain⟨cur,n1,n2,n3,n4,n5,n6⟩:=m5 b hb;exact⟨cur,by rw[hg.block b (Array.getElem?_eq_some_iff.1 n1).1 xr];exact n1,n2,n3,n4,n5,a7.bL hk _ _ (nV hn n6) n6⟩
 ·intro p q x y b hp hq Te TU;have key:∀ {r z},assoc s.heap r=some z->a9 σ r=some b->b<w.heap.size:=λ {r z} hr U1=>by
   obtain⟨B',m1,_,_,_,m5⟩:=h.obj r z hr;obtain⟨cur,n1,_⟩:=m5 b (by simpa [a9,m1] using U1);exact (Array.getElem?_eq_some_iff.1 n1).1
  simp only[assoc] at hp hq;split at hp<;>split at hq
  ·rename_i e1 e2;rw[<- e1,<- e2]
  ·rename_i e1 e2;subst e1;have:=hold hq;simp only[a9,SP,Option.bind_some] at Te;have k1:=(QR b Te).1;have k2:=key hq (by simpa only[a9,hs this] using TU);omega
  ·rename_i e1 e2;subst e2;have:=hold hp;simp only[a9,SP,Option.bind_some] at TU;have k1:=(QR b TU).1;have k2:=key hp (by simpa only[a9,hs this] using Te);omega
  ·have m1:=hold hp;have m2:=hold hq;exact h.inj p q x y b hp hq (by simpa only[a9,hs m1] using Te) (by simpa only[a9,hs m2] using TU)
 ·intro p hp;have:p≠m:=λ e=>by subst e;exact absurd hp WG
  rw[hs this];exact h.nx p (Nat.le_trans hxx hp)
 ·intro p hp;have:=h.low;rw[hs (show p≠m by omega)];exact h.fX p hp
 ·by_cases e:o=m
  ·subst e;rw[SP] at Rm;cases Rm;exact .inr (Nat.le_trans h.size (QR b hb).1)
  ·rw[hs e] at Rm;exact h.new o B' b ho Rm hb
theorem aO.fresh (h:aO C σ s a w){w':World}(hg:w.grownBy w' none){ob:Ob}{B:OB}(O0:B.sz=ob.sz)(h1:ob.cells.all one=true)(SV:B.j7=none->ob.cells=[])
  (QR:∀ b,B.j7=some b->w.heap.size<=b/\∃ cur:Array Value,w'.heap[b]? = some (.cells cur ob.elem (0,0))/\cur.size=B.room/\ob.cells.length<=cur.size/\a7 w (FB C σ s.heap) σ ob.cells (cur.toList.take ob.cells.length)) :
  aO C (sig σ s.nx B) { s with heap:=(s.nx,ob)::s.heap,nx:=s.nx+1 } a w'/\(∀ c v,VR w (FB C σ s.heap) σ c v->VR w' (FB C (sig σ s.nx B) ((s.nx,ob)::s.heap)) (sig σ s.nx B) c v):=
 h.D5 (h.nx s.nx (Nat.le_refl _)) h.low (Nat.lt_succ_self _) (Nat.le_succ _) hg O0 h1 SV QR
theorem ou (o:Obj):w.grownBy (w.alloc o) none:=World.grownBy_alloc w o none
def sC (av:List (Nat×TI))(s:St)(t:TypeId)(x:Operand)(v:Operand):Option St:=
 match ev s x,ev s v,assoc av t with
 | some (.ax o off),some c,some i=>
  match assoc s.heap o with
  | none=>none
  | some ob=>if ez c then none else if c.cells.length=i.size/\off+c.cells.length<=ob.cells.length then some { s with heap:=sM s.heap o { ob with cells:=gC ob.cells off c.cells } } else none
 | _,_,_=>none
theorem fO (cells:List CV)(off:Nat)(cs:List CV)(h:off+cs.length<=cells.length):(gC cells off cs).length=cells.length:=by
 simp[gC];omega
theorem yb {av:List (Nat×TI)}(ht:aD P av)(h:aO C σ s a w){o:Oper}{t:TypeId}{x v:Operand}(ho:o.op=.store t x v){s':St}(hc:sC av s t x v=some s') :
  ∃ w',(execOp a.eval o).run P w=.ok .skip w'/\aO C σ s' a w'/\w'.heap.size=w.heap.size:=by
 unfold sC at hc;split at hc
 ·rename_i Pe off c i hx hv hi;split at hc
  ·cases hc
  rename_i ob QT;split at hc
  ·cases hc
  rename_i RP;split at hc
  ·rename_i hlen;cases hc;have kx:=bG h hx;have kv:=bG h hv;simp only[VR] at kx;obtain⟨B,b,hB,hb,kx⟩:=kx;obtain⟨B',e1,e2,_,e4,e5⟩:=h.obj _ ob QT;rw[hB] at e1;cases e1;obtain⟨cur,k1,k2,k3,k4,k5,k6⟩:=e5 b hb;obtain⟨f1,f2⟩:=VR.flat c _ (λ cs e=>by subst e;simp[ez] at RP) (λ k s p e=>by subst e;simp[ez] at RP) kv;have fl:=a7.length _ _ f1;obtain⟨f,z,g1,g2,_⟩:=(ht t i hi).info;have Pk:=run_storeCells_at P b off ob.elem (a.eval v).cells.toList 0 cur w k1 (by rw[fl];omega) (a7.ja _ _ f2 f1);simp only[Nat.add_zero] at Pk;refine⟨_,?_,h.write QT hB hb (VA:=cur.toList.take off++(a.eval v).cells.toList++cur.toList.drop (off+(a.eval v).cells.toList.length)) ?_ ?_ ?_ (qW off e4 f2),by simp⟩
   ·have O0:(a.eval v).cells.size=f.size:=by rw[g2,<- hlen.1,<- fl];simp
    simp only[execOp,ho,Instr.storeAt,kx,Instr.sureAddr,storeVar,Sem.run_bind,Sem.run_pure,Result.andThen_ok,db g1];rw[if_neg (by simp[O0])];simp only[Pk,Result.andThen_ok]
   ·simp[fl];omega
   ·rw[fO _ _ _ hlen.2];simp[fl];omega
   ·rw[fO _ _ _ hlen.2];have:=uH k6 off f1;have e:(cur.toList.take off++(a.eval v).cells.toList++cur.toList.drop (off+(a.eval v).cells.toList.length)).take ob.cells.length =
      (cur.toList.take ob.cells.length).take off++(a.eval v).cells.toList++(cur.toList.take ob.cells.length).drop (off+(a.eval v).cells.toList.length):=by
     have O2:ob.cells.length<=cur.toList.length:=by simpa using k5
     generalize (a.eval v).cells.toList=us at *;rw[take_append,take_append];simp only[length_append,length_take,take_take,drop_take];rw[Nat.min_eq_right (show off<=ob.cells.length by omega),Nat.min_eq_left (show off<=cur.toList.length by omega),take_of_length_le (show us.length<=ob.cells.length-off by omega)];congr 2
     ·rw[Nat.min_eq_left (show off<=ob.cells.length by omega)]
    rw[e];exact this
  ·cases hc
 ·cases hc
end
end Go.Can
