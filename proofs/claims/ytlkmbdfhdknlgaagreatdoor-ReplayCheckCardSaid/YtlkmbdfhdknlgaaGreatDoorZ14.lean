/- Contracts with known results; the walk's short forms. No fun -/
import Derived.Test.YtlkmbdfhdknlgaaGreatDoorZ13
namespace Go.Can
@[reducible] def jQ (r0:CV)(H:List (Nat×Ob))(n:Nat):CV→St→Prop:=fun r s=>r=r0∧s.heap=H∧s.nx=n
section
variable {P:Program}{C:Cx}{s:St}{ops:Array Oper}{ak:List (Nat×TI)}
theorem TL.cd (Mw:ay P ak){o:Oper}{l:List Oper}{c:Call}{g:FuncId}{cs:List CV}{K:St→Prop}{r0:CV}{H1:List (Nat×Ob)}(ks:List Nat){H:List (Nat×Ob)}(n:Nat)(hb:Body P ak g cs H n (jQ r0 H1 n))(hd:a9 C.nt o.dst=true)(hg:bM ops s o=Option.some true)(ho:o.op=.call c)(Kj:bl s c=Option.some (g,cs))
  (hp:er s.heap ks=Option.some H) (hn:n≤s.nx) (ha:aO n cs=true) (hH:cV n H=true) (hk:kA ks H1=true)
  (hK:TL P C ops l (St.put ⟨s.env,H1++dG s.heap ks,s.nx⟩ o.dst r0) K):TL P C ops (o::l) s K:=
 TL.Ej Mw ks n hd hg ho Kj hp hn ha hH hb (fun r s1 h=>⟨h.2.2,by rw[h.2.1];exact hk⟩) fun r s1 h=>by rw[h.1,h.2.1];exact hK
variable {W:List oR}{nt N:Nat}{dyn:List (Nat×Nat)}{K:St→Prop}{i:Nat}{r:List Nat}{res:Nat→Er}
theorem RX.cd {o:Oper}{cl:Call}{g:FuncId}{cs:List CV}{r0:CV}{H1:List (Nat×Ob)}(ks dO:List Nat){H:List (Nat×Ob)}(n:Nat)(hb:Body P ak g cs H n (jQ r0 H1 n))(hi:ops[i]? = Option.some o)(hd:a9 nt o.dst=true)(hg:bM ops s o=Option.some true)(hu:bR o=Option.some cl)(Kj:bl s cl=Option.some (g,cs))
  (hp:er s.heap ks=Option.some H) (hn:n≤s.nx) (ha:aO n cs=true) (hH:cV n H=true) (hk:kA ks H1=true) (hv:xU dyn res i ks=true) (hc:(dO.all fun p=>ks.contains p)=true) (hs:∀ p∈ks,p∉dO→assoc H1 p=assoc H p)
  (hK:rV W dyn res i (ny r0 ks dO H1)∧kV ak W nt ops N dyn (zD P ak W nt ops N dyn K) r (note dyn res i (ny r0 ks dO H1)) (St.put ⟨s.env,H1++dG s.heap ks,s.nx⟩ o.dst r0)):RX P ak W nt ops N dyn K (i::r) res s:=by
 refine RX.Ej ks dO n hi hd hg hu Kj hp hn ha hH hb hv hc (fun v s1 h=>⟨h.2.2,by rw[h.2.1];exact hk,fun p N3=>?_⟩) fun v s1 h=>by rw[h.1,h.2.1];exact hK
 rw[h.2.1];by_cases hm:p∈ks
 ·exact hs p hm N3
 ·obtain⟨i1,_⟩:=j3 hp;have h1:assoc H p=none:=by
   cases h2:assoc H p with
   | none=>rfl
   | some y=>exact (hm (i1 p y h2).1).elim
  have h2:assoc H1 p=none:=by
   cases h3:assoc H1 p with
   | none=>rfl
   | some y=>exact (hm (pg hk p y h3)).elim
  rw[h1,h2]
theorem Body.ret {f:FuncId}{args:List CV}{H:List (Nat×Ob)}{n:Nat}{R R':CV→St→Prop}(h:Body P ak f args H n R)(hR:∀ r s,R r s→R' r s):Body P ak f args H n R':=by
 obtain⟨fn,c,h1,h2,h3,h4,h5⟩:=h;have key:∀ (C:Cx) s,aa C (fun s'=>∃ r,bf ak fn s'=some r∧R r s') s→aa C (fun s'=>∃ r,bf ak fn s'=some r∧R' r s') s:=fun C s ⟨s',⟨r,q1,q2⟩,hl⟩=>⟨s',⟨r,q1,hR r s' q2⟩,hl⟩;refine⟨fn,c,h1,h2,h3,h4,fun C hC xJ=>T.mono (h5 C hC xJ) fun e s q=>?_⟩
 cases e with
 | normal=>exact key C s q
 | ret=>exact key C s q
 | _=>exact q
end
def oN:Option CV→List Nat
 | some v=>jE v
 | none=>[]
def oNO (s:St):Option Operand→List Nat
 | some x=>oN (ev s x)
 | none=>[]
theorem CL (s:St)(op:Op):Fe s op=op.operands.toList.flatMap fun x=>oN (ev s x):=rfl
theorem CK (s:St)(t:TypeId)(x:Operand):Fe s (.load t x)=oN (ev s x):=by
 rw[CL];exact List.append_nil _
theorem AV (s:St)(t:TypeId)(x:Operand)(a b c:Option Operand):Fe s (.slice t x a b c)=oN (ev s x)++oNO s a++oNO s b++oNO s c:=by
 rw[CL];cases a<;>cases b<;>cases c<;>simp[Op.operands,oNO]
@[simp] theorem dL (a b:Nat):((a:Int) == (b:Int))=decide (a=b):=by
 by_cases h:a=b
 ·simp[h]
 ·have:¬ (a:Int)=(b:Int):=by omega
  simp only[h,decide_false];exact beq_eq_false_iff_ne.2 this
@[simp] theorem natbeq_0 (a:Nat):((a:Int) == 0)=decide (a=0):=dL a 0
@[simp] theorem natbeq_1 (a:Nat):((a:Int) == 1)=decide (a=1):=dL a 1
@[simp] theorem natbeq_2 (a:Nat):((a:Int) == 2)=decide (a=2):=dL a 2
@[simp] theorem natbeq_3 (a:Nat):((a:Int) == 3)=decide (a=3):=dL a 3
@[simp] theorem natbeq_4 (a:Nat):((a:Int) == 4)=decide (a=4):=dL a 4
@[simp] theorem natbeq_5 (a:Nat):((a:Int) == 5)=decide (a=5):=dL a 5
@[simp] theorem natbeq_6 (a:Nat):((a:Int) == 6)=decide (a=6):=dL a 6
@[simp] theorem natbeq_7 (a:Nat):((a:Int) == 7)=decide (a=7):=dL a 7
@[simp] theorem natbeq_8 (a:Nat):((a:Int) == 8)=decide (a=8):=dL a 8
@[simp] theorem natbeq_9 (a:Nat):((a:Int) == 9)=decide (a=9):=dL a 9
@[simp] theorem Jv (a:Nat):((a:Int) == 10)=decide (a=10):=dL a 10
@[simp] theorem Ju (a:Nat):((a:Int) == 11)=decide (a=11):=dL a 11
@[simp] theorem Jt (a:Nat):((a:Int) == 12)=decide (a=12):=dL a 12
@[simp] theorem Js (a:Nat):((a:Int) == 13)=decide (a=13):=dL a 13
@[simp] theorem Jr (a:Nat):((a:Int) == 14)=decide (a=14):=dL a 14
@[simp] theorem Jq (a:Nat):((a:Int) == 15)=decide (a=15):=dL a 15
@[simp] theorem Jp (a:Nat):((a:Int) == 16)=decide (a=16):=dL a 16
@[simp] theorem Jo (a:Nat):((a:Int) == 17)=decide (a=17):=dL a 17
@[simp] theorem Jn (a:Nat):((a:Int) == 18)=decide (a=18):=dL a 18
@[simp] theorem Jm (a:Nat):((a:Int) == 19)=decide (a=19):=dL a 19
@[simp] theorem natlt_2 (a:Nat):((a:Int)<2)=(a<2):=by rw[eq_iff_iff];omega
@[simp] theorem natle_2 (a:Nat):((a:Int)≤2)=(a≤2):=by rw[eq_iff_iff];omega
@[simp] theorem natgt_2 (a:Nat):(2<(a:Int))=(2<a):=by rw[eq_iff_iff];omega
@[simp] theorem natge_2 (a:Nat):(2≤(a:Int))=(2≤a):=by rw[eq_iff_iff];omega
@[simp] theorem nateq_2 (a:Nat):((a:Int)=2)=(a=2):=by rw[eq_iff_iff];omega
@[simp] theorem natlt_3 (a:Nat):((a:Int)<3)=(a<3):=by rw[eq_iff_iff];omega
@[simp] theorem natle_3 (a:Nat):((a:Int)≤3)=(a≤3):=by rw[eq_iff_iff];omega
@[simp] theorem natgt_3 (a:Nat):(3<(a:Int))=(3<a):=by rw[eq_iff_iff];omega
@[simp] theorem natge_3 (a:Nat):(3≤(a:Int))=(3≤a):=by rw[eq_iff_iff];omega
@[simp] theorem nateq_3 (a:Nat):((a:Int)=3)=(a=3):=by rw[eq_iff_iff];omega
@[simp] theorem natlt_4 (a:Nat):((a:Int)<4)=(a<4):=by rw[eq_iff_iff];omega
@[simp] theorem natle_4 (a:Nat):((a:Int)≤4)=(a≤4):=by rw[eq_iff_iff];omega
@[simp] theorem natgt_4 (a:Nat):(4<(a:Int))=(4<a):=by rw[eq_iff_iff];omega
@[simp] theorem natge_4 (a:Nat):(4≤(a:Int))=(4≤a):=by rw[eq_iff_iff];omega
@[simp] theorem nateq_4 (a:Nat):((a:Int)=4)=(a=4):=by rw[eq_iff_iff];omega
@[simp] theorem natlt_5 (a:Nat):((a:Int)<5)=(a<5):=by rw[eq_iff_iff];omega
@[simp] theorem natle_5 (a:Nat):((a:Int)≤5)=(a≤5):=by rw[eq_iff_iff];omega
@[simp] theorem natgt_5 (a:Nat):(5<(a:Int))=(5<a):=by rw[eq_iff_iff];omega
@[simp] theorem natge_5 (a:Nat):(5≤(a:Int))=(5≤a):=by rw[eq_iff_iff];omega
@[simp] theorem nateq_5 (a:Nat):((a:Int)=5)=(a=5):=by rw[eq_iff_iff];omega
@[simp] theorem natlt_6 (a:Nat):((a:Int)<6)=(a<6):=by rw[eq_iff_iff];omega
@[simp] theorem natle_6 (a:Nat):((a:Int)≤6)=(a≤6):=by rw[eq_iff_iff];omega
@[simp] theorem natgt_6 (a:Nat):(6<(a:Int))=(6<a):=by rw[eq_iff_iff];omega
@[simp] theorem natge_6 (a:Nat):(6≤(a:Int))=(6≤a):=by rw[eq_iff_iff];omega
@[simp] theorem nateq_6 (a:Nat):((a:Int)=6)=(a=6):=by rw[eq_iff_iff];omega
@[simp] theorem natlt_7 (a:Nat):((a:Int)<7)=(a<7):=by rw[eq_iff_iff];omega
@[simp] theorem natle_7 (a:Nat):((a:Int)≤7)=(a≤7):=by rw[eq_iff_iff];omega
@[simp] theorem natgt_7 (a:Nat):(7<(a:Int))=(7<a):=by rw[eq_iff_iff];omega
@[simp] theorem natge_7 (a:Nat):(7≤(a:Int))=(7≤a):=by rw[eq_iff_iff];omega
@[simp] theorem nateq_7 (a:Nat):((a:Int)=7)=(a=7):=by rw[eq_iff_iff];omega
@[simp] theorem natlt_8 (a:Nat):((a:Int)<8)=(a<8):=by rw[eq_iff_iff];omega
@[simp] theorem natle_8 (a:Nat):((a:Int)≤8)=(a≤8):=by rw[eq_iff_iff];omega
@[simp] theorem natgt_8 (a:Nat):(8<(a:Int))=(8<a):=by rw[eq_iff_iff];omega
@[simp] theorem natge_8 (a:Nat):(8≤(a:Int))=(8≤a):=by rw[eq_iff_iff];omega
@[simp] theorem nateq_8 (a:Nat):((a:Int)=8)=(a=8):=by rw[eq_iff_iff];omega
@[simp] theorem natlt_9 (a:Nat):((a:Int)<9)=(a<9):=by rw[eq_iff_iff];omega
@[simp] theorem natle_9 (a:Nat):((a:Int)≤9)=(a≤9):=by rw[eq_iff_iff];omega
@[simp] theorem natgt_9 (a:Nat):(9<(a:Int))=(9<a):=by rw[eq_iff_iff];omega
@[simp] theorem natge_9 (a:Nat):(9≤(a:Int))=(9≤a):=by rw[eq_iff_iff];omega
@[simp] theorem nateq_9 (a:Nat):((a:Int)=9)=(a=9):=by rw[eq_iff_iff];omega
@[simp] theorem natlt_10 (a:Nat):((a:Int)<10)=(a<10):=by rw[eq_iff_iff];omega
@[simp] theorem natle_10 (a:Nat):((a:Int)≤10)=(a≤10):=by rw[eq_iff_iff];omega
@[simp] theorem natgt_10 (a:Nat):(10<(a:Int))=(10<a):=by rw[eq_iff_iff];omega
@[simp] theorem natge_10 (a:Nat):(10≤(a:Int))=(10≤a):=by rw[eq_iff_iff];omega
@[simp] theorem nateq_10 (a:Nat):((a:Int)=10)=(a=10):=by rw[eq_iff_iff];omega
@[simp] theorem natlt_11 (a:Nat):((a:Int)<11)=(a<11):=by rw[eq_iff_iff];omega
@[simp] theorem natle_11 (a:Nat):((a:Int)≤11)=(a≤11):=by rw[eq_iff_iff];omega
@[simp] theorem natgt_11 (a:Nat):(11<(a:Int))=(11<a):=by rw[eq_iff_iff];omega
@[simp] theorem natge_11 (a:Nat):(11≤(a:Int))=(11≤a):=by rw[eq_iff_iff];omega
@[simp] theorem nateq_11 (a:Nat):((a:Int)=11)=(a=11):=by rw[eq_iff_iff];omega
@[simp] theorem natlt_12 (a:Nat):((a:Int)<12)=(a<12):=by rw[eq_iff_iff];omega
@[simp] theorem natle_12 (a:Nat):((a:Int)≤12)=(a≤12):=by rw[eq_iff_iff];omega
@[simp] theorem natgt_12 (a:Nat):(12<(a:Int))=(12<a):=by rw[eq_iff_iff];omega
@[simp] theorem natge_12 (a:Nat):(12≤(a:Int))=(12≤a):=by rw[eq_iff_iff];omega
@[simp] theorem nateq_12 (a:Nat):((a:Int)=12)=(a=12):=by rw[eq_iff_iff];omega
@[simp] theorem natlt_13 (a:Nat):((a:Int)<13)=(a<13):=by rw[eq_iff_iff];omega
@[simp] theorem natle_13 (a:Nat):((a:Int)≤13)=(a≤13):=by rw[eq_iff_iff];omega
@[simp] theorem natgt_13 (a:Nat):(13<(a:Int))=(13<a):=by rw[eq_iff_iff];omega
@[simp] theorem natge_13 (a:Nat):(13≤(a:Int))=(13≤a):=by rw[eq_iff_iff];omega
@[simp] theorem nateq_13 (a:Nat):((a:Int)=13)=(a=13):=by rw[eq_iff_iff];omega
@[simp] theorem natlt_14 (a:Nat):((a:Int)<14)=(a<14):=by rw[eq_iff_iff];omega
@[simp] theorem natle_14 (a:Nat):((a:Int)≤14)=(a≤14):=by rw[eq_iff_iff];omega
@[simp] theorem natgt_14 (a:Nat):(14<(a:Int))=(14<a):=by rw[eq_iff_iff];omega
@[simp] theorem natge_14 (a:Nat):(14≤(a:Int))=(14≤a):=by rw[eq_iff_iff];omega
@[simp] theorem nateq_14 (a:Nat):((a:Int)=14)=(a=14):=by rw[eq_iff_iff];omega
@[simp] theorem natlt_15 (a:Nat):((a:Int)<15)=(a<15):=by rw[eq_iff_iff];omega
@[simp] theorem natle_15 (a:Nat):((a:Int)≤15)=(a≤15):=by rw[eq_iff_iff];omega
@[simp] theorem natgt_15 (a:Nat):(15<(a:Int))=(15<a):=by rw[eq_iff_iff];omega
@[simp] theorem natge_15 (a:Nat):(15≤(a:Int))=(15≤a):=by rw[eq_iff_iff];omega
@[simp] theorem nateq_15 (a:Nat):((a:Int)=15)=(a=15):=by rw[eq_iff_iff];omega
@[simp] theorem natlt_16 (a:Nat):((a:Int)<16)=(a<16):=by rw[eq_iff_iff];omega
@[simp] theorem natle_16 (a:Nat):((a:Int)≤16)=(a≤16):=by rw[eq_iff_iff];omega
@[simp] theorem natgt_16 (a:Nat):(16<(a:Int))=(16<a):=by rw[eq_iff_iff];omega
@[simp] theorem natge_16 (a:Nat):(16≤(a:Int))=(16≤a):=by rw[eq_iff_iff];omega
@[simp] theorem nateq_16 (a:Nat):((a:Int)=16)=(a=16):=by rw[eq_iff_iff];omega
@[simp] theorem natlt_17 (a:Nat):((a:Int)<17)=(a<17):=by rw[eq_iff_iff];omega
@[simp] theorem natle_17 (a:Nat):((a:Int)≤17)=(a≤17):=by rw[eq_iff_iff];omega
@[simp] theorem natgt_17 (a:Nat):(17<(a:Int))=(17<a):=by rw[eq_iff_iff];omega
@[simp] theorem natge_17 (a:Nat):(17≤(a:Int))=(17≤a):=by rw[eq_iff_iff];omega
@[simp] theorem nateq_17 (a:Nat):((a:Int)=17)=(a=17):=by rw[eq_iff_iff];omega
@[simp] theorem natlt_18 (a:Nat):((a:Int)<18)=(a<18):=by rw[eq_iff_iff];omega
@[simp] theorem natle_18 (a:Nat):((a:Int)≤18)=(a≤18):=by rw[eq_iff_iff];omega
@[simp] theorem natgt_18 (a:Nat):(18<(a:Int))=(18<a):=by rw[eq_iff_iff];omega
@[simp] theorem natge_18 (a:Nat):(18≤(a:Int))=(18≤a):=by rw[eq_iff_iff];omega
@[simp] theorem nateq_18 (a:Nat):((a:Int)=18)=(a=18):=by rw[eq_iff_iff];omega
@[simp] theorem natlt_19 (a:Nat):((a:Int)<19)=(a<19):=by rw[eq_iff_iff];omega
@[simp] theorem natle_19 (a:Nat):((a:Int)≤19)=(a≤19):=by rw[eq_iff_iff];omega
@[simp] theorem natgt_19 (a:Nat):(19<(a:Int))=(19<a):=by rw[eq_iff_iff];omega
@[simp] theorem natge_19 (a:Nat):(19≤(a:Int))=(19≤a):=by rw[eq_iff_iff];omega
@[simp] theorem nateq_19 (a:Nat):((a:Int)=19)=(a=19):=by rw[eq_iff_iff];omega
@[simp] theorem natlt_20 (a:Nat):((a:Int)<20)=(a<20):=by rw[eq_iff_iff];omega
@[simp] theorem natle_20 (a:Nat):((a:Int)≤20)=(a≤20):=by rw[eq_iff_iff];omega
@[simp] theorem natgt_20 (a:Nat):(20<(a:Int))=(20<a):=by rw[eq_iff_iff];omega
@[simp] theorem natge_20 (a:Nat):(20≤(a:Int))=(20≤a):=by rw[eq_iff_iff];omega
@[simp] theorem nateq_20 (a:Nat):((a:Int)=20)=(a=20):=by rw[eq_iff_iff];omega
@[simp] theorem natlt_24 (a:Nat):((a:Int)<24)=(a<24):=by rw[eq_iff_iff];omega
@[simp] theorem natle_24 (a:Nat):((a:Int)≤24)=(a≤24):=by rw[eq_iff_iff];omega
@[simp] theorem natgt_24 (a:Nat):(24<(a:Int))=(24<a):=by rw[eq_iff_iff];omega
@[simp] theorem natge_24 (a:Nat):(24≤(a:Int))=(24≤a):=by rw[eq_iff_iff];omega
@[simp] theorem nateq_24 (a:Nat):((a:Int)=24)=(a=24):=by rw[eq_iff_iff];omega
@[simp] theorem natlt_26 (a:Nat):((a:Int)<26)=(a<26):=by rw[eq_iff_iff];omega
@[simp] theorem natle_26 (a:Nat):((a:Int)≤26)=(a≤26):=by rw[eq_iff_iff];omega
@[simp] theorem natgt_26 (a:Nat):(26<(a:Int))=(26<a):=by rw[eq_iff_iff];omega
@[simp] theorem natge_26 (a:Nat):(26≤(a:Int))=(26≤a):=by rw[eq_iff_iff];omega
@[simp] theorem nateq_26 (a:Nat):((a:Int)=26)=(a=26):=by rw[eq_iff_iff];omega
@[simp] theorem natlt_36 (a:Nat):((a:Int)<36)=(a<36):=by rw[eq_iff_iff];omega
@[simp] theorem natle_36 (a:Nat):((a:Int)≤36)=(a≤36):=by rw[eq_iff_iff];omega
@[simp] theorem natgt_36 (a:Nat):(36<(a:Int))=(36<a):=by rw[eq_iff_iff];omega
@[simp] theorem natge_36 (a:Nat):(36≤(a:Int))=(36≤a):=by rw[eq_iff_iff];omega
@[simp] theorem nateq_36 (a:Nat):((a:Int)=36)=(a=36):=by rw[eq_iff_iff];omega
@[simp] theorem nateq_1 (a:Nat):((a:Int)=1)=(a=1):=by rw[eq_iff_iff];omega
@[simp] theorem natlt_1 (a:Nat):((a:Int)<1)=(a<1):=by rw[eq_iff_iff];omega
@[simp] theorem JI (s:St)(o:Oper):ui [] s o=false:=rfl
@[simp] theorem WOk_e (W:List oR):IF W []:=fun _ _ _ h=>by cases h
attribute [simp] Ay kV zD rV chk xU note yv ny gB rF yK pV
attribute [simp] Ai oE bytesOf rO bM bR gG oG xY CM CK AV oN oNO jE oJ wR rmL JK nX nC Im
end Go.Can
namespace Go.aT
open Go.Can
def bO (L:List Int)(i n:Nat):Nat×Nat:=match L[i]? with
 | none=>(0,i)
 | some x=>((x % (n:Int)).toNat,i+1)
theorem cI (L:List Int)(i:Nat){n:Nat}(h:0<n):(bO L i n).1<n:=by
 unfold bO;split
 ·exact h
 ·rename_i x _;have h1:=Int.emod_nonneg x (show (n:Int)≠0 by omega);have h2:=Int.emod_lt_of_pos x (show (0:Int)<n by omega);simp only;omega
theorem aV (L:List Int){i:Nat}(n:Nat)(h:i≤L.length):(bO L i n).2≤L.length:=by
 unfold bO;split
 ·exact h
 ·rename_i x hx;exact (List.getElem?_eq_some_iff.1 hx).1
def sE (L:List Int)(i:Nat):Nat×Nat:=if (bO L i 8).1=1 then bO L (bO L i 8).2 4611686018427387904 else bO L (bO L i 8).2 4
theorem FC (L:List Int)(i:Nat):(sE L i).1<4611686018427387904:=by
 unfold sE;split
 ·exact cI _ _ yA
 ·exact Nat.lt_of_lt_of_le (cI L _ (show 0<4 by omega)) yA
theorem FD (L:List Int){i:Nat}(h:i≤L.length):(sE L i).2≤L.length:=by
 unfold sE;split
 ·exact aV _ _ (aV _ _ h)
 ·exact aV _ _ (aV _ _ h)
def oa (L:List Int)(ns:List ByteArray)(i:Nat):Ex×Nat:=
 if 0<ns.length∧(bO L i 2).1=1 then (.nm (ns.getD (bO L (bO L i 2).2 ns.length).1 eS),(bO L (bO L i 2).2 ns.length).2)
 else (.num (sE L (if 0<ns.length then (bO L i 2).2 else i)).1,(sE L (if 0<ns.length then (bO L i 2).2 else i)).2)
theorem xi (L:List Int)(ns:List ByteArray){i:Nat}(h:i≤L.length):(oa L ns i).2≤L.length:=by
 unfold oa;split
 ·exact aV _ _ (aV _ _ h)
 ·refine FD L ?_;split
  ·exact aV _ _ h
  ·exact h
def ov (L:List Int)(ns:List ByteArray):Nat→Nat→Ex×Nat
 | 0,i=>oa L ns (bO L i 10).2
 | d+1,i=>
  if (bO L i 10).1<2 then oa L ns (bO L i 10).2
  else if (bO L i 10).1<4 then (.un ((bO L i 10).1 % 2) (ov L ns d (bO L i 10).2).1,(ov L ns d (bO L i 10).2).2)
  else (.bin (bO L (bO L i 10).2 13).1 (ov L ns d (bO L (bO L i 10).2 13).2).1 (ov L ns d (ov L ns d (bO L (bO L i 10).2 13).2).2).1,(ov L ns d (ov L ns d (bO L (bO L i 10).2 13).2).2).2)
theorem lI (L:List Int)(ns:List ByteArray):∀ (d:Nat) {i:Nat},i≤L.length→(ov L ns d i).2≤L.length
 | 0,i,h=>xi L ns (aV _ _ h)
 | d+1,i,h=>by
  rw[ov];split
  ·exact xi L ns (aV _ _ h)
  ·split
   ·exact lI L ns d (aV _ _ h)
   ·exact lI L ns d (lI L ns d (aV _ _ (aV _ _ h)))
def cL (L:List Int)(ar:Bool)(vars:List ByteArray)(i:Nat):Ex×Nat:=if ar=true then ov L vars (1+(bO L i 2).1) (bO L i 2).2 else ov L vars 0 i
def mv (L:List Int)(ar:Bool)(vars:List ByteArray)(size i:Nat):Ex×Nat:=
 if ar=true∧(bO L i 3).1=1 then ov L vars 1 (bO L i 3).2 else (.num (bO L (if ar=true then (bO L i 3).2 else i) size).1,(bO L (if ar=true then (bO L i 3).2 else i) size).2)
theorem iW (L:List Int)(ar:Bool)(vars:List ByteArray){i:Nat}(h:i≤L.length):(cL L ar vars i).2≤L.length:=by
 unfold cL;split
 ·exact lI _ _ _ (aV _ _ h)
 ·exact lI _ _ _ h
theorem FP (L:List Int)(ar:Bool)(vars:List ByteArray)(size:Nat){i:Nat}(h:i≤L.length):(mv L ar vars size i).2≤L.length:=by
 unfold mv;split
 ·exact lI _ _ _ (aV _ _ h)
 ·refine aV _ _ ?_;split
  ·exact aV _ _ h
  ·exact h
def BT (p:Pm):List ByteArray:=if p.mutex=true then [p.name,p.name] else []
def bH (ms:List Mx)(ps:List Pm):List ByteArray:=ms.map (·.name)++ps.flatMap BT
def jv (ms:List Mx)(j:Nat):Nat:=match ms[j]? with
 | some m=>m.size
 | none=>0
def g7 (L:List Int)(ar:Bool)(ms:List Mx)(ps:List Pm)(vars:List ByteArray)(i:Nat):Rf×Nat:=
 if (bO L i (bH ms ps).length).1<ms.length∧0<jv ms (bO L i (bH ms ps).length).1 then
  (⟨(bH ms ps).getD (bO L i (bH ms ps).length).1 eS,some (mv L ar vars (jv ms (bO L i (bH ms ps).length).1) (bO L i (bH ms ps).length).2).1⟩,(mv L ar vars (jv ms (bO L i (bH ms ps).length).1) (bO L i (bH ms ps).length).2).2)
 else (⟨(bH ms ps).getD (bO L i (bH ms ps).length).1 eS,none⟩,(bO L i (bH ms ps).length).2)
theorem nW (L:List Int)(ar:Bool)(ms:List Mx)(ps:List Pm)(vars:List ByteArray){i:Nat}(h:i≤L.length):(g7 L ar ms ps vars i).2≤L.length:=by
 unfold g7;split
 ·exact FP _ _ _ _ (aV _ _ h)
 ·exact aV _ _ h
def cE (L:List Int)(ar:Bool)(ms:List Mx)(ps:List Pm)(vars:List ByteArray):List Pm→Nat→List Ar×Nat
 | [],i=>([],i)
 | p::r,i=>if p.mutex=true then (.ru (g7 L ar ms ps vars i).1::(cE L ar ms ps vars r (g7 L ar ms ps vars i).2).1,(cE L ar ms ps vars r (g7 L ar ms ps vars i).2).2)
  else (.exp (cL L ar vars i).1::(cE L ar ms ps vars r (cL L ar vars i).2).1,(cE L ar ms ps vars r (cL L ar vars i).2).2)
theorem oI (L:List Int)(ar:Bool)(ms:List Mx)(ps:List Pm)(vars:List ByteArray):∀ (l:List Pm) {i:Nat},i≤L.length→(cE L ar ms ps vars l i).2≤L.length
 | [],_,h=>h
 | p::r,i,h=>by
  rw[cE];split
  ·exact oI L ar ms ps vars r (nW _ _ _ _ _ h)
  ·exact oI L ar ms ps vars r (iW _ _ _ h)
def strs (ns:List ByteArray):CV:=.au (ns.map .str) ns.length
def eA (left:Nat):ByteArray:=⟨#[118]⟩++⟨#[UInt8.ofNat (97+left % 26),UInt8.ofNat (97+left / 26 % 26)]⟩
structure G5 where
 out:List Sm
 vars:List ByteArray
 i:Nat
 left:Nat
structure Wr where
 L:List Int
 ar:Bool
 ms:List Mx
 fs:List (ByteArray×List Pm)
abbrev Rec:=List ByteArray→Nat→Nat→Nat→Nat→List Sm×Nat×Nat
def xE (w:Wr)(rec:Rec)(ps:List Pm)(vars:List ByteArray)(i left:Nat):G5:=
 ⟨.cR false (g7 w.L w.ar w.ms ps vars i).1::(rec vars 0 2 (g7 w.L w.ar w.ms ps vars i).2 left).1++[.cR true (g7 w.L w.ar w.ms ps vars i).1],vars,(rec vars 0 2 (g7 w.L w.ar w.ms ps vars i).2 left).2.1,(rec vars 0 2 (g7 w.L w.ar w.ms ps vars i).2 left).2.2⟩
def fH (w:Wr)(ps:List Pm)(vars:List ByteArray)(go:Bool)(i left:Nat):G5:=
 ⟨[.dm go (w.fs.getD (bO w.L i w.fs.length).1 (eS,[])).1 (cE w.L w.ar w.ms ps vars (w.fs.getD (bO w.L i w.fs.length).1 (eS,[])).2 (bO w.L i w.fs.length).2).1],vars,(cE w.L w.ar w.ms ps vars (w.fs.getD (bO w.L i w.fs.length).1 (eS,[])).2 (bO w.L i w.fs.length).2).2,left⟩
def Jz (w:Wr)(rec:Rec)(vars:List ByteArray)(deep i left:Nat):G5:=
 let e:=cL w.L w.ar vars i
 let th:=rec vars (deep-1) 3 e.2 left
 let c:=bO w.L th.2.1 2
 if c.1=1 then
  let el:=rec vars (deep-1) 3 c.2 th.2.2
  ⟨[.jS e.1 th.1 el.1],vars,el.2.1,el.2.2⟩
 else ⟨[.jS e.1 th.1 []],vars,c.2,th.2.2⟩
def IS (w:Wr)(rec:Rec)(vars:List ByteArray)(deep i left:Nat):G5:=
 let e:=cL w.L w.ar vars i
 let th:=rec vars (deep-1) 3 e.2 left
 ⟨[.cb e.1 th.1],vars,th.2.1,th.2.2⟩
def vC (w:Wr)(rec:Rec)(ps:List Pm)(vars:List ByteArray)(deep i0 left:Nat):G5:=
 let k:=(bO w.L i0 14).1
 let i:=(bO w.L i0 14).2
 if k<4 then ⟨[.cR false (g7 w.L w.ar w.ms ps vars i).1],vars,(g7 w.L w.ar w.ms ps vars i).2,left⟩
 else if k<7 then ⟨[.cR true (g7 w.L w.ar w.ms ps vars i).1],vars,(g7 w.L w.ar w.ms ps vars i).2,left⟩
 else if k=7 then ⟨[.fN (eA left) (cL w.L w.ar vars i).1],vars++[eA left],(cL w.L w.ar vars i).2,left⟩
 else if k=8∧0<vars.length then ⟨[.gz (vars.getD (bO w.L i vars.length).1 eS) (cL w.L w.ar vars (bO w.L i vars.length).2).1],vars,(cL w.L w.ar vars (bO w.L i vars.length).2).2,left⟩
 else if k=9 then fH w ps vars false i left
 else if k=10 then fH w ps vars true i left
 else if k=11∧0<deep then Jz w rec vars deep i left
 else if k=12∧0<deep then IS w rec vars deep i left
 else if k=13∧(bO w.L i 3).1=1 then ⟨[.ia],vars,(bO w.L i 3).2,left⟩
 else if k=13 then xE w rec ps vars (bO w.L i 3).2 left
 else xE w rec ps vars i left
def pT (w:Wr)(rec:Rec)(ps:List Pm)(deep:Nat):Nat→List ByteArray→Nat→Nat→List Sm×Nat×Nat
 | 0,_,i,left=>([],i,left)
 | n+1,vars,i,left=>
  if left=0 then ([],i,left) else
  let s:=vC w rec ps vars deep i (left-1)
  let r:=pT w rec ps deep n s.vars s.i s.left
  (s.out++r.1,r.2)
def k9 (w:Wr)(ps:List Pm):Nat→Rec
 | 0=>fun _ _ most i left=>([],(bO w.L i (most+1)).2,left)
 | f+1=>fun vars deep most i left=>pT w (k9 w ps f) ps deep (bO w.L i (most+1)).1 vars (bO w.L i (most+1)).2 left
def sj (L:List Int)(rec:Rec):Prop:=∀ vars deep most i left,i≤L.length→(rec vars deep most i left).2.1≤L.length∧(rec vars deep most i left).1.length+2*(rec vars deep most i left).2.2≤2*left
structure EC (L:List Int)(vars:List ByteArray)(left:Nat)(b:G5):Prop where
 i:b.i≤L.length
 n:b.out.length+2*b.left≤2*(left+1)
 v:b.vars.length+b.left≤vars.length+left+1
 l:b.left≤left
 p:0<b.out.length
theorem Af {w:Wr}{rec:Rec}(h:sj w.L rec)(ps:List Pm)(vars:List ByteArray){i:Nat}(left:Nat)(hi:i≤w.L.length):EC w.L vars left (xE w rec ps vars i left):=by
 obtain⟨h1,h2⟩:=h vars 0 2 _ left (nW w.L w.ar w.ms ps vars hi);refine⟨h1,?_,?_,?_,?_⟩<;>simp only[xE,List.length_append,List.length_cons,List.length_nil]<;>omega
theorem xX {w:Wr}(ps:List Pm)(vars:List ByteArray)(go:Bool){i:Nat}(left:Nat)(hi:i≤w.L.length):EC w.L vars left (fH w ps vars go i left):=by
 refine⟨oI _ _ _ _ _ _ (aV _ _ hi),?_,?_,?_,?_⟩<;>simp only[fH,List.length_cons,List.length_nil]<;>omega
theorem Hb {w:Wr}{rec:Rec}(h:sj w.L rec)(vars:List ByteArray)(deep:Nat){i:Nat}(left:Nat)(hi:i≤w.L.length):EC w.L vars left (IS w rec vars deep i left):=by
 obtain⟨h1,h2⟩:=h vars (deep-1) 3 _ left (iW w.L w.ar vars hi);refine⟨h1,?_,?_,?_,?_⟩<;>simp only[IS,List.length_cons,List.length_nil]<;>omega
theorem H6 {w:Wr}{rec:Rec}(h:sj w.L rec)(vars:List ByteArray)(deep:Nat){i:Nat}(left:Nat)(hi:i≤w.L.length):EC w.L vars left (Jz w rec vars deep i left):=by
 obtain⟨h1,h2⟩:=h vars (deep-1) 3 _ left (iW w.L w.ar vars hi);obtain⟨h3,h4⟩:=h vars (deep-1) 3 (bO w.L (rec vars (deep-1) 3 (cL w.L w.ar vars i).2 left).2.1 2).2 (rec vars (deep-1) 3 (cL w.L w.ar vars i).2 left).2.2 (aV _ _ h1);unfold Jz;simp only;split
 ·refine⟨h3,?_,?_,?_,?_⟩<;>simp only[List.length_cons,List.length_nil]<;>omega
 ·refine⟨aV _ _ h1,?_,?_,?_,?_⟩<;>simp only[List.length_cons,List.length_nil]<;>omega
theorem Cv {w:Wr}{rec:Rec}(h:sj w.L rec)(ps:List Pm)(vars:List ByteArray)(deep:Nat){i:Nat}(left:Nat)(hi:i≤w.L.length):EC w.L vars left (vC w rec ps vars deep i left):=by
 have Kp:=aV w.L 14 hi;unfold vC;simp only;split
 ·exact⟨nW _ _ _ _ _ Kp,by simp<;>omega,by simp<;>omega,Nat.le_refl _,by simp⟩
 split
 ·exact⟨nW _ _ _ _ _ Kp,by simp<;>omega,by simp<;>omega,Nat.le_refl _,by simp⟩
 split
 ·exact⟨iW _ _ _ Kp,by simp<;>omega,by simp<;>omega,Nat.le_refl _,by simp⟩
 split
 ·exact⟨iW _ _ _ (aV _ _ Kp),by simp<;>omega,by simp<;>omega,Nat.le_refl _,by simp⟩
 split
 ·exact xX ps vars false left Kp
 split
 ·exact xX ps vars true left Kp
 split
 ·exact H6 h vars deep left Kp
 split
 ·exact Hb h vars deep left Kp
 split
 ·exact⟨aV _ _ Kp,by simp<;>omega,by simp<;>omega,Nat.le_refl _,by simp⟩
 split
 ·exact Af h ps vars left (aV _ _ Kp)
 ·exact Af h ps vars left Kp
theorem Dk {w:Wr}{rec:Rec}(h:sj w.L rec)(ps:List Pm)(deep:Nat):∀ (n:Nat) (vars:List ByteArray) (i left:Nat),i≤w.L.length→(pT w rec ps deep n vars i left).2.1≤w.L.length∧(pT w rec ps deep n vars i left).1.length+2*(pT w rec ps deep n vars i left).2.2≤2*left
 | 0,vars,i,left,hi=>⟨hi,by simp[pT]⟩
 | n+1,vars,i,left,hi=>by
  rw[pT];split
  ·exact⟨hi,by simp⟩
  ·have h1:=Cv h ps vars deep (left-1) hi;obtain⟨h2,h3⟩:=Dk h ps deep n (vC w rec ps vars deep i (left-1)).vars (vC w rec ps vars deep i (left-1)).i (vC w rec ps vars deep i (left-1)).left h1.i;refine⟨h2,?_⟩;have:=h1.n;simp only[List.length_append];omega
theorem qB (w:Wr)(ps:List Pm):∀ f:Nat,sj w.L (k9 w ps f)
 | 0=>fun vars deep most i left hi=>⟨aV _ _ hi,by simp[k9]⟩
 | f+1=>fun vars deep most i left hi=>Dk (qB w ps f) ps deep _ vars _ left (aV _ _ hi)
def dr (n:Nat):ByteArray:=⟨#[UInt8.ofNat n]⟩
def oO (L:List Int):Nat→Nat→Nat→List Mx×Nat
 | 0,_,i=>([],i)
 | n+1,j,i=>
  if (bO L i 5).1=1 then (⟨dr (97+j),true,0⟩ :: (oO L n (j+1) (bO L i 5).2).1,(oO L n (j+1) (bO L i 5).2).2)
  else if (bO L i 5).1=2 then (⟨dr (97+j),false,1+(bO L (bO L i 5).2 3).1⟩ :: (oO L n (j+1) (bO L (bO L i 5).2 3).2).1,(oO L n (j+1) (bO L (bO L i 5).2 3).2).2)
  else (⟨dr (97+j),false,0⟩ :: (oO L n (j+1) (bO L i 5).2).1,(oO L n (j+1) (bO L i 5).2).2)
def sJ (L:List Int):Nat→Nat→Nat→List Gl×Nat
 | 0,_,i=>([],i)
 | n+1,j,i=>(⟨⟨#[103]⟩++dr (48+j),((bO L i 5).1:Int)-2⟩ :: (sJ L n (j+1) (bO L i 5).2).1,(sJ L n (j+1) (bO L i 5).2).2)
def zH (L:List Int):Nat→Nat→List Pm×Nat
 | 0,i=>([],i)
 | n+1,i=>(⟨⟨#[112]⟩++dr (48+(n+1)),decide (0<(bO L i 3).1)⟩ :: (zH L n (bO L i 3).2).1,(zH L n (bO L i 3).2).2)
def rJ (L:List Int):Nat→Nat→Nat→List Fu×Nat
 | 0,_,i=>([],i)
 | n+1,j,i=>
  let p:=zH L (if j=0 then 0 else (bO L i 3).1) (bO L i 3).2
  (⟨if j=0 then ⟨#[109,97,105,110]⟩ else ⟨#[102]⟩++dr (48+j),p.1,[]⟩ :: (rJ L n (j+1) p.2).1,(rJ L n (j+1) p.2).2)
def ij (gs:List Gl)(ps:List Pm):List ByteArray:=gs.map (·.name)++ps.flatMap fun p=>if p.mutex=true then [] else [p.name]
def Ge (w:Wr)(gs:List Gl):Nat→Nat→List Fu→Nat→Nat→List Fu
 | 0,_,fs,_,_=>fs
 | n+1,j,fs,i,left=>
  match fs[j]? with
  | none=>fs
  | some f=>
   let b:=k9 w f.params left (ij gs f.params) 2 6 i left
   Ge w gs n (j+1) (fs.set j ⟨f.name,f.params,b.1⟩) b.2.1 b.2.2
def zV (l:List Int):Pg:=
 let L:=l.take 400
 let a:=bO L 0 3
 let nm:=bO L a.2 4
 let ms:=oO L (1+nm.1) 0 nm.2
 let ng:=bO L ms.2 3
 let gs:=sJ L ng.1 0 ng.2
 let nf:=bO L gs.2 4
 let fs:=rJ L (nf.1+1) 0 nf.2
 ⟨gs.1,ms.1,Ge ⟨L,decide (a.1=1),ms.1,fs.1.map fun f=>(f.name,f.params)⟩ gs.1 (nf.1+1) 0 fs.1 fs.2 24⟩
end Go.aT
