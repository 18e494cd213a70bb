/- Contracts with known results; the walk's short forms. No fun -/
import Derived.Test.YtnecpnjdonibmaaGreatZ13
namespace Go.Can
@[reducible] def iy (r0:CV)(H:List (Nat×Ob))(n:Nat):CV→St→Prop:=fun r s=>r=r0∧s.heap=H∧s.nx=n
section
variable {P:Program}{C:Cx}{s:St}{ops:Array Oper}{au:List (Nat×TI)}
theorem TL.cD (Se:aB P au){o:Oper}{l:List Oper}{c:Call}{g:FuncId}{cs:List CV}{K:St→Prop}{r0:CV}{H1:List (Nat×Ob)}(ks:List Nat){H:List (Nat×Ob)}(n:Nat)(hb:Body P au g cs H n (iy r0 H1 n))(hd:aZ C.nt o.dst=true)(hg:bN ops s o=Option.some true)(ho:o.op=.call c)(Qb:bl s c=Option.some (g,cs))
  (hp:dX s.heap ks=Option.some H) (hn:n≤s.nx) (ha:aS n cs=true) (hH:cT n H=true) (hk:lx ks H1=true)
  (hK:TL P C ops l (St.put ⟨s.env,H1++dy s.heap ks,s.nx⟩ o.dst r0) K):TL P C ops (o::l) s K:=
 TL.Iv Se ks n hd hg ho Qb hp hn ha hH hb (fun r s1 h=>⟨h.2.2,by rw[h.2.1];exact hk⟩) fun r s1 h=>by rw[h.1,h.2.1];exact hK
variable {W:List q9}{nt N:Nat}{dyn:List (Nat×Nat)}{K:St→Prop}{i:Nat}{r:List Nat}{res:Nat→Er}
theorem RX.cD {o:Oper}{cl:Call}{g:FuncId}{cs:List CV}{r0:CV}{H1:List (Nat×Ob)}(ks eP:List Nat){H:List (Nat×Ob)}(n:Nat)(hb:Body P au g cs H n (iy r0 H1 n))(hi:ops[i]? = Option.some o)(hd:aZ nt o.dst=true)(hg:bN ops s o=Option.some true)(hu:cc o=Option.some cl)(Qb:bl s cl=Option.some (g,cs))
  (hp:dX s.heap ks=Option.some H) (hn:n≤s.nx) (ha:aS n cs=true) (hH:cT n H=true) (hk:lx ks H1=true) (hv:Au dyn res i ks=true) (hc:(eP.all fun p=>ks.contains p)=true) (hs:∀ p∈ks,p∉eP→assoc H1 p=assoc H p)
  (hK:uF W dyn res i (oE r0 ks eP H1)∧lV au W nt ops N dyn (CE P au W nt ops N dyn K) r (note dyn res i (oE r0 ks eP H1)) (St.put ⟨s.env,H1++dy s.heap ks,s.nx⟩ o.dst r0)):RX P au W nt ops N dyn K (i::r) res s:=by
 refine RX.Iv ks eP n hi hd hg hu Qb hp hn ha hH hb hv hc (fun v s1 h=>⟨h.2.2,by rw[h.2.1];exact hk,fun p T5=>?_⟩) fun v s1 h=>by rw[h.1,h.2.1];exact hK
 rw[h.2.1];by_cases hm:p∈ks
 ·exact hs p hm T5
 ·obtain⟨i1,_⟩:=kP hp;have h1:assoc H p=none:=by
   cases h2:assoc H p with
   | none=>rfl
   | some y=>exact (hm (i1 p y h2).1).elim
  have h2:assoc H1 p=none:=by
   cases h3:assoc H1 p with
   | none=>rfl
   | some y=>exact (hm (qk hk p y h3)).elim
  rw[h1,h2]
theorem Body.ret {f:FuncId}{args:List CV}{H:List (Nat×Ob)}{n:Nat}{R R':CV→St→Prop}(h:Body P au f args H n R)(hR:∀ r s,R r s→R' r s):Body P au f args H n R':=by
 obtain⟨fn,c,h1,h2,h3,h4,h5⟩:=h;have key:∀ (C:Cx) s,aa C (fun s'=>∃ r,bD au fn s'=some r∧R r s') s→aa C (fun s'=>∃ r,bD au fn s'=some r∧R' r s') s:=fun C s ⟨s',⟨r,q1,q2⟩,hl⟩=>⟨s',⟨r,q1,hR r s' q2⟩,hl⟩;refine⟨fn,c,h1,h2,h3,h4,fun C hC PN=>T.mono (h5 C hC PN) fun e s q=>?_⟩
 cases e with
 | normal=>exact key C s q
 | ret=>exact key C s q
 | _=>exact q
end
def oN:Option CV→List Nat
 | some v=>kp v
 | none=>[]
def oNO (s:St):Option Operand→List Nat
 | some x=>oN (ev s x)
 | none=>[]
theorem GK (s:St)(op:Op):Jv s op=op.operands.toList.flatMap fun x=>oN (ev s x):=rfl
theorem GJ (s:St)(t:TypeId)(x:Operand):Jv s (.load t x)=oN (ev s x):=by
 rw[GK];exact List.append_nil _
theorem D9 (s:St)(t:TypeId)(x:Operand)(a b c:Option Operand):Jv s (.slice t x a b c)=oN (ev s x)++oNO s a++oNO s b++oNO s c:=by
 rw[GK];cases a<;>cases b<;>cases c<;>simp[Op.operands,oNO]
@[simp] theorem dY (a b:Nat):((a:Int) == (b:Int))=decide (a=b):=by
 by_cases h:a=b
 ·simp[h]
 ·have:¬ (a:Int)=(b:Int):=by omega
  simp only[h,decide_false];exact beq_eq_false_iff_ne.2 this
@[simp] theorem natbeq_0 (a:Nat):((a:Int) == 0)=decide (a=0):=dY a 0
@[simp] theorem natbeq_1 (a:Nat):((a:Int) == 1)=decide (a=1):=dY a 1
@[simp] theorem natbeq_2 (a:Nat):((a:Int) == 2)=decide (a=2):=dY a 2
@[simp] theorem natbeq_3 (a:Nat):((a:Int) == 3)=decide (a=3):=dY a 3
@[simp] theorem natbeq_4 (a:Nat):((a:Int) == 4)=decide (a=4):=dY a 4
@[simp] theorem natbeq_5 (a:Nat):((a:Int) == 5)=decide (a=5):=dY a 5
@[simp] theorem natbeq_6 (a:Nat):((a:Int) == 6)=decide (a=6):=dY a 6
@[simp] theorem natbeq_7 (a:Nat):((a:Int) == 7)=decide (a=7):=dY a 7
@[simp] theorem natbeq_8 (a:Nat):((a:Int) == 8)=decide (a=8):=dY a 8
@[simp] theorem natbeq_9 (a:Nat):((a:Int) == 9)=decide (a=9):=dY a 9
@[simp] theorem Of (a:Nat):((a:Int) == 10)=decide (a=10):=dY a 10
@[simp] theorem Oe (a:Nat):((a:Int) == 11)=decide (a=11):=dY a 11
@[simp] theorem Od (a:Nat):((a:Int) == 12)=decide (a=12):=dY a 12
@[simp] theorem Oc (a:Nat):((a:Int) == 13)=decide (a=13):=dY a 13
@[simp] theorem Oa (a:Nat):((a:Int) == 14)=decide (a=14):=dY a 14
@[simp] theorem N9 (a:Nat):((a:Int) == 15)=decide (a=15):=dY a 15
@[simp] theorem N8 (a:Nat):((a:Int) == 16)=decide (a=16):=dY a 16
@[simp] theorem N7 (a:Nat):((a:Int) == 17)=decide (a=17):=dY a 17
@[simp] theorem N6 (a:Nat):((a:Int) == 18)=decide (a=18):=dY a 18
@[simp] theorem N5 (a:Nat):((a:Int) == 19)=decide (a=19):=dY a 19
@[simp] theorem natlt_2 (a:Nat):((a:Int)<2)=(a<2):=by rw[eq_iff_iff];omega
@[simp] theorem natle_2 (a:Nat):((a:Int)≤2)=(a≤2):=by rw[eq_iff_iff];omega
@[simp] theorem natgt_2 (a:Nat):(2<(a:Int))=(2<a):=by rw[eq_iff_iff];omega
@[simp] theorem natge_2 (a:Nat):(2≤(a:Int))=(2≤a):=by rw[eq_iff_iff];omega
@[simp] theorem nateq_2 (a:Nat):((a:Int)=2)=(a=2):=by rw[eq_iff_iff];omega
@[simp] theorem natlt_3 (a:Nat):((a:Int)<3)=(a<3):=by rw[eq_iff_iff];omega
@[simp] theorem natle_3 (a:Nat):((a:Int)≤3)=(a≤3):=by rw[eq_iff_iff];omega
@[simp] theorem natgt_3 (a:Nat):(3<(a:Int))=(3<a):=by rw[eq_iff_iff];omega
@[simp] theorem natge_3 (a:Nat):(3≤(a:Int))=(3≤a):=by rw[eq_iff_iff];omega
@[simp] theorem nateq_3 (a:Nat):((a:Int)=3)=(a=3):=by rw[eq_iff_iff];omega
@[simp] theorem natlt_4 (a:Nat):((a:Int)<4)=(a<4):=by rw[eq_iff_iff];omega
@[simp] theorem natle_4 (a:Nat):((a:Int)≤4)=(a≤4):=by rw[eq_iff_iff];omega
@[simp] theorem natgt_4 (a:Nat):(4<(a:Int))=(4<a):=by rw[eq_iff_iff];omega
@[simp] theorem natge_4 (a:Nat):(4≤(a:Int))=(4≤a):=by rw[eq_iff_iff];omega
@[simp] theorem nateq_4 (a:Nat):((a:Int)=4)=(a=4):=by rw[eq_iff_iff];omega
@[simp] theorem natlt_5 (a:Nat):((a:Int)<5)=(a<5):=by rw[eq_iff_iff];omega
@[simp] theorem natle_5 (a:Nat):((a:Int)≤5)=(a≤5):=by rw[eq_iff_iff];omega
@[simp] theorem natgt_5 (a:Nat):(5<(a:Int))=(5<a):=by rw[eq_iff_iff];omega
@[simp] theorem natge_5 (a:Nat):(5≤(a:Int))=(5≤a):=by rw[eq_iff_iff];omega
@[simp] theorem nateq_5 (a:Nat):((a:Int)=5)=(a=5):=by rw[eq_iff_iff];omega
@[simp] theorem natlt_6 (a:Nat):((a:Int)<6)=(a<6):=by rw[eq_iff_iff];omega
@[simp] theorem natle_6 (a:Nat):((a:Int)≤6)=(a≤6):=by rw[eq_iff_iff];omega
@[simp] theorem natgt_6 (a:Nat):(6<(a:Int))=(6<a):=by rw[eq_iff_iff];omega
@[simp] theorem natge_6 (a:Nat):(6≤(a:Int))=(6≤a):=by rw[eq_iff_iff];omega
@[simp] theorem nateq_6 (a:Nat):((a:Int)=6)=(a=6):=by rw[eq_iff_iff];omega
@[simp] theorem natlt_7 (a:Nat):((a:Int)<7)=(a<7):=by rw[eq_iff_iff];omega
@[simp] theorem natle_7 (a:Nat):((a:Int)≤7)=(a≤7):=by rw[eq_iff_iff];omega
@[simp] theorem natgt_7 (a:Nat):(7<(a:Int))=(7<a):=by rw[eq_iff_iff];omega
@[simp] theorem natge_7 (a:Nat):(7≤(a:Int))=(7≤a):=by rw[eq_iff_iff];omega
@[simp] theorem nateq_7 (a:Nat):((a:Int)=7)=(a=7):=by rw[eq_iff_iff];omega
@[simp] theorem natlt_8 (a:Nat):((a:Int)<8)=(a<8):=by rw[eq_iff_iff];omega
@[simp] theorem natle_8 (a:Nat):((a:Int)≤8)=(a≤8):=by rw[eq_iff_iff];omega
@[simp] theorem natgt_8 (a:Nat):(8<(a:Int))=(8<a):=by rw[eq_iff_iff];omega
@[simp] theorem natge_8 (a:Nat):(8≤(a:Int))=(8≤a):=by rw[eq_iff_iff];omega
@[simp] theorem nateq_8 (a:Nat):((a:Int)=8)=(a=8):=by rw[eq_iff_iff];omega
@[simp] theorem natlt_9 (a:Nat):((a:Int)<9)=(a<9):=by rw[eq_iff_iff];omega
@[simp] theorem natle_9 (a:Nat):((a:Int)≤9)=(a≤9):=by rw[eq_iff_iff];omega
@[simp] theorem natgt_9 (a:Nat):(9<(a:Int))=(9<a):=by rw[eq_iff_iff];omega
@[simp] theorem natge_9 (a:Nat):(9≤(a:Int))=(9≤a):=by rw[eq_iff_iff];omega
@[simp] theorem nateq_9 (a:Nat):((a:Int)=9)=(a=9):=by rw[eq_iff_iff];omega
@[simp] theorem natlt_10 (a:Nat):((a:Int)<10)=(a<10):=by rw[eq_iff_iff];omega
@[simp] theorem natle_10 (a:Nat):((a:Int)≤10)=(a≤10):=by rw[eq_iff_iff];omega
@[simp] theorem natgt_10 (a:Nat):(10<(a:Int))=(10<a):=by rw[eq_iff_iff];omega
@[simp] theorem natge_10 (a:Nat):(10≤(a:Int))=(10≤a):=by rw[eq_iff_iff];omega
@[simp] theorem nateq_10 (a:Nat):((a:Int)=10)=(a=10):=by rw[eq_iff_iff];omega
@[simp] theorem natlt_11 (a:Nat):((a:Int)<11)=(a<11):=by rw[eq_iff_iff];omega
@[simp] theorem natle_11 (a:Nat):((a:Int)≤11)=(a≤11):=by rw[eq_iff_iff];omega
@[simp] theorem natgt_11 (a:Nat):(11<(a:Int))=(11<a):=by rw[eq_iff_iff];omega
@[simp] theorem natge_11 (a:Nat):(11≤(a:Int))=(11≤a):=by rw[eq_iff_iff];omega
@[simp] theorem nateq_11 (a:Nat):((a:Int)=11)=(a=11):=by rw[eq_iff_iff];omega
@[simp] theorem natlt_12 (a:Nat):((a:Int)<12)=(a<12):=by rw[eq_iff_iff];omega
@[simp] theorem natle_12 (a:Nat):((a:Int)≤12)=(a≤12):=by rw[eq_iff_iff];omega
@[simp] theorem natgt_12 (a:Nat):(12<(a:Int))=(12<a):=by rw[eq_iff_iff];omega
@[simp] theorem natge_12 (a:Nat):(12≤(a:Int))=(12≤a):=by rw[eq_iff_iff];omega
@[simp] theorem nateq_12 (a:Nat):((a:Int)=12)=(a=12):=by rw[eq_iff_iff];omega
@[simp] theorem natlt_13 (a:Nat):((a:Int)<13)=(a<13):=by rw[eq_iff_iff];omega
@[simp] theorem natle_13 (a:Nat):((a:Int)≤13)=(a≤13):=by rw[eq_iff_iff];omega
@[simp] theorem natgt_13 (a:Nat):(13<(a:Int))=(13<a):=by rw[eq_iff_iff];omega
@[simp] theorem natge_13 (a:Nat):(13≤(a:Int))=(13≤a):=by rw[eq_iff_iff];omega
@[simp] theorem nateq_13 (a:Nat):((a:Int)=13)=(a=13):=by rw[eq_iff_iff];omega
@[simp] theorem natlt_14 (a:Nat):((a:Int)<14)=(a<14):=by rw[eq_iff_iff];omega
@[simp] theorem natle_14 (a:Nat):((a:Int)≤14)=(a≤14):=by rw[eq_iff_iff];omega
@[simp] theorem natgt_14 (a:Nat):(14<(a:Int))=(14<a):=by rw[eq_iff_iff];omega
@[simp] theorem natge_14 (a:Nat):(14≤(a:Int))=(14≤a):=by rw[eq_iff_iff];omega
@[simp] theorem nateq_14 (a:Nat):((a:Int)=14)=(a=14):=by rw[eq_iff_iff];omega
@[simp] theorem natlt_15 (a:Nat):((a:Int)<15)=(a<15):=by rw[eq_iff_iff];omega
@[simp] theorem natle_15 (a:Nat):((a:Int)≤15)=(a≤15):=by rw[eq_iff_iff];omega
@[simp] theorem natgt_15 (a:Nat):(15<(a:Int))=(15<a):=by rw[eq_iff_iff];omega
@[simp] theorem natge_15 (a:Nat):(15≤(a:Int))=(15≤a):=by rw[eq_iff_iff];omega
@[simp] theorem nateq_15 (a:Nat):((a:Int)=15)=(a=15):=by rw[eq_iff_iff];omega
@[simp] theorem natlt_16 (a:Nat):((a:Int)<16)=(a<16):=by rw[eq_iff_iff];omega
@[simp] theorem natle_16 (a:Nat):((a:Int)≤16)=(a≤16):=by rw[eq_iff_iff];omega
@[simp] theorem natgt_16 (a:Nat):(16<(a:Int))=(16<a):=by rw[eq_iff_iff];omega
@[simp] theorem natge_16 (a:Nat):(16≤(a:Int))=(16≤a):=by rw[eq_iff_iff];omega
@[simp] theorem nateq_16 (a:Nat):((a:Int)=16)=(a=16):=by rw[eq_iff_iff];omega
@[simp] theorem natlt_17 (a:Nat):((a:Int)<17)=(a<17):=by rw[eq_iff_iff];omega
@[simp] theorem natle_17 (a:Nat):((a:Int)≤17)=(a≤17):=by rw[eq_iff_iff];omega
@[simp] theorem natgt_17 (a:Nat):(17<(a:Int))=(17<a):=by rw[eq_iff_iff];omega
@[simp] theorem natge_17 (a:Nat):(17≤(a:Int))=(17≤a):=by rw[eq_iff_iff];omega
@[simp] theorem nateq_17 (a:Nat):((a:Int)=17)=(a=17):=by rw[eq_iff_iff];omega
@[simp] theorem natlt_18 (a:Nat):((a:Int)<18)=(a<18):=by rw[eq_iff_iff];omega
@[simp] theorem natle_18 (a:Nat):((a:Int)≤18)=(a≤18):=by rw[eq_iff_iff];omega
@[simp] theorem natgt_18 (a:Nat):(18<(a:Int))=(18<a):=by rw[eq_iff_iff];omega
@[simp] theorem natge_18 (a:Nat):(18≤(a:Int))=(18≤a):=by rw[eq_iff_iff];omega
@[simp] theorem nateq_18 (a:Nat):((a:Int)=18)=(a=18):=by rw[eq_iff_iff];omega
@[simp] theorem natlt_19 (a:Nat):((a:Int)<19)=(a<19):=by rw[eq_iff_iff];omega
@[simp] theorem natle_19 (a:Nat):((a:Int)≤19)=(a≤19):=by rw[eq_iff_iff];omega
@[simp] theorem natgt_19 (a:Nat):(19<(a:Int))=(19<a):=by rw[eq_iff_iff];omega
@[simp] theorem natge_19 (a:Nat):(19≤(a:Int))=(19≤a):=by rw[eq_iff_iff];omega
@[simp] theorem nateq_19 (a:Nat):((a:Int)=19)=(a=19):=by rw[eq_iff_iff];omega
@[simp] theorem natlt_20 (a:Nat):((a:Int)<20)=(a<20):=by rw[eq_iff_iff];omega
@[simp] theorem natle_20 (a:Nat):((a:Int)≤20)=(a≤20):=by rw[eq_iff_iff];omega
@[simp] theorem natgt_20 (a:Nat):(20<(a:Int))=(20<a):=by rw[eq_iff_iff];omega
@[simp] theorem natge_20 (a:Nat):(20≤(a:Int))=(20≤a):=by rw[eq_iff_iff];omega
@[simp] theorem nateq_20 (a:Nat):((a:Int)=20)=(a=20):=by rw[eq_iff_iff];omega
@[simp] theorem natlt_24 (a:Nat):((a:Int)<24)=(a<24):=by rw[eq_iff_iff];omega
@[simp] theorem natle_24 (a:Nat):((a:Int)≤24)=(a≤24):=by rw[eq_iff_iff];omega
@[simp] theorem natgt_24 (a:Nat):(24<(a:Int))=(24<a):=by rw[eq_iff_iff];omega
@[simp] theorem natge_24 (a:Nat):(24≤(a:Int))=(24≤a):=by rw[eq_iff_iff];omega
@[simp] theorem nateq_24 (a:Nat):((a:Int)=24)=(a=24):=by rw[eq_iff_iff];omega
@[simp] theorem natlt_26 (a:Nat):((a:Int)<26)=(a<26):=by rw[eq_iff_iff];omega
@[simp] theorem natle_26 (a:Nat):((a:Int)≤26)=(a≤26):=by rw[eq_iff_iff];omega
@[simp] theorem natgt_26 (a:Nat):(26<(a:Int))=(26<a):=by rw[eq_iff_iff];omega
@[simp] theorem natge_26 (a:Nat):(26≤(a:Int))=(26≤a):=by rw[eq_iff_iff];omega
@[simp] theorem nateq_26 (a:Nat):((a:Int)=26)=(a=26):=by rw[eq_iff_iff];omega
@[simp] theorem natlt_36 (a:Nat):((a:Int)<36)=(a<36):=by rw[eq_iff_iff];omega
@[simp] theorem natle_36 (a:Nat):((a:Int)≤36)=(a≤36):=by rw[eq_iff_iff];omega
@[simp] theorem natgt_36 (a:Nat):(36<(a:Int))=(36<a):=by rw[eq_iff_iff];omega
@[simp] theorem natge_36 (a:Nat):(36≤(a:Int))=(36≤a):=by rw[eq_iff_iff];omega
@[simp] theorem nateq_36 (a:Nat):((a:Int)=36)=(a=36):=by rw[eq_iff_iff];omega
@[simp] theorem nateq_1 (a:Nat):((a:Int)=1)=(a=1):=by rw[eq_iff_iff];omega
@[simp] theorem natlt_1 (a:Nat):((a:Int)<1)=(a<1):=by rw[eq_iff_iff];omega
@[simp] theorem Ov (s:St)(o:Oper):wR [] s o=false:=rfl
@[simp] theorem WOk_e (W:List q9):Nn W []:=fun _ _ _ h=>by cases h
attribute [simp] DJ lV CE uF chk Au note A9 oE hU uk Bn qU
attribute [simp] Dt pE bytesOf uz bN cc ig pM AA GL GJ D9 oN oNO kp pP zw rmL Ox oZ oH M6
end Go.Can
namespace Go.aP
open Go.Can
def bZ (L:List Int)(i n:Nat):Nat×Nat:=match L[i]? with
 | none=>(0,i)
 | some x=>((x % (n:Int)).toNat,i+1)
theorem da (L:List Int)(i:Nat){n:Nat}(h:0<n):(bZ L i n).1<n:=by
 unfold bZ;split
 ·exact h
 ·rename_i x _;have h1:=Int.emod_nonneg x (show (n:Int)≠0 by omega);have h2:=Int.emod_lt_of_pos x (show (0:Int)<n by omega);simp only;omega
theorem a8 (L:List Int){i:Nat}(n:Nat)(h:i≤L.length):(bZ L i n).2≤L.length:=by
 unfold bZ;split
 ·exact h
 ·rename_i x hx;exact (List.getElem?_eq_some_iff.1 hx).1
def vg (L:List Int)(i:Nat):Nat×Nat:=if (bZ L i 8).1=1 then bZ L (bZ L i 8).2 4611686018427387904 else bZ L (bZ L i 8).2 4
theorem JQ (L:List Int)(i:Nat):(vg L i).1<4611686018427387904:=by
 unfold vg;split
 ·exact da _ _ yA
 ·exact Nat.lt_of_lt_of_le (da L _ (show 0<4 by omega)) yA
theorem JR (L:List Int){i:Nat}(h:i≤L.length):(vg L i).2≤L.length:=by
 unfold vg;split
 ·exact a8 _ _ (a8 _ _ h)
 ·exact a8 _ _ (a8 _ _ h)
def pf (L:List Int)(ns:List ByteArray)(i:Nat):Ex×Nat:=
 if 0<ns.length∧(bZ L i 2).1=1 then (.nm (ns.getD (bZ L (bZ L i 2).2 ns.length).1 eS),(bZ L (bZ L i 2).2 ns.length).2)
 else (.num (vg L (if 0<ns.length then (bZ L i 2).2 else i)).1,(vg L (if 0<ns.length then (bZ L i 2).2 else i)).2)
theorem zO (L:List Int)(ns:List ByteArray){i:Nat}(h:i≤L.length):(pf L ns i).2≤L.length:=by
 unfold pf;split
 ·exact a8 _ _ (a8 _ _ h)
 ·refine JR L ?_;split
  ·exact a8 _ _ h
  ·exact h
def py (L:List Int)(ns:List ByteArray):Nat→Nat→Ex×Nat
 | 0,i=>pf L ns (bZ L i 10).2
 | d+1,i=>
  if (bZ L i 10).1<2 then pf L ns (bZ L i 10).2
  else if (bZ L i 10).1<4 then (.un ((bZ L i 10).1 % 2) (py L ns d (bZ L i 10).2).1,(py L ns d (bZ L i 10).2).2)
  else (.bin (bZ L (bZ L i 10).2 13).1 (py L ns d (bZ L (bZ L i 10).2 13).2).1 (py L ns d (py L ns d (bZ L (bZ L i 10).2 13).2).2).1,(py L ns d (py L ns d (bZ L (bZ L i 10).2 13).2).2).2)
theorem mC (L:List Int)(ns:List ByteArray):∀ (d:Nat) {i:Nat},i≤L.length→(py L ns d i).2≤L.length
 | 0,i,h=>zO L ns (a8 _ _ h)
 | d+1,i,h=>by
  rw[py];split
  ·exact zO L ns (a8 _ _ h)
  ·split
   ·exact mC L ns d (a8 _ _ h)
   ·exact mC L ns d (mC L ns d (a8 _ _ (a8 _ _ h)))
def dc (L:List Int)(ar:Bool)(vars:List ByteArray)(i:Nat):Ex×Nat:=if ar=true then py L vars (1+(bZ L i 2).1) (bZ L i 2).2 else py L vars 0 i
def nH (L:List Int)(ar:Bool)(vars:List ByteArray)(size i:Nat):Ex×Nat:=
 if ar=true∧(bZ L i 3).1=1 then py L vars 1 (bZ L i 3).2 else (.num (bZ L (if ar=true then (bZ L i 3).2 else i) size).1,(bZ L (if ar=true then (bZ L i 3).2 else i) size).2)
theorem jF (L:List Int)(ar:Bool)(vars:List ByteArray){i:Nat}(h:i≤L.length):(dc L ar vars i).2≤L.length:=by
 unfold dc;split
 ·exact mC _ _ _ (a8 _ _ h)
 ·exact mC _ _ _ h
theorem J5 (L:List Int)(ar:Bool)(vars:List ByteArray)(size:Nat){i:Nat}(h:i≤L.length):(nH L ar vars size i).2≤L.length:=by
 unfold nH;split
 ·exact mC _ _ _ (a8 _ _ h)
 ·refine a8 _ _ ?_;split
  ·exact a8 _ _ h
  ·exact h
def Fw (p:Pm):List ByteArray:=if p.mutex=true then [p.name,p.name] else []
def bQ (ms:List Mx)(ps:List Pm):List ByteArray:=ms.map (·.name)++ps.flatMap Fw
def j8 (ms:List Mx)(j:Nat):Nat:=match ms[j]? with
 | some m=>m.size
 | none=>0
def iU (L:List Int)(ar:Bool)(ms:List Mx)(ps:List Pm)(vars:List ByteArray)(i:Nat):Rf×Nat:=
 if (bZ L i (bQ ms ps).length).1<ms.length∧0<j8 ms (bZ L i (bQ ms ps).length).1 then
  (⟨(bQ ms ps).getD (bZ L i (bQ ms ps).length).1 eS,some (nH L ar vars (j8 ms (bZ L i (bQ ms ps).length).1) (bZ L i (bQ ms ps).length).2).1⟩,(nH L ar vars (j8 ms (bZ L i (bQ ms ps).length).1) (bZ L i (bQ ms ps).length).2).2)
 else (⟨(bQ ms ps).getD (bZ L i (bQ ms ps).length).1 eS,none⟩,(bZ L i (bQ ms ps).length).2)
theorem oY (L:List Int)(ar:Bool)(ms:List Mx)(ps:List Pm)(vars:List ByteArray){i:Nat}(h:i≤L.length):(iU L ar ms ps vars i).2≤L.length:=by
 unfold iU;split
 ·exact J5 _ _ _ _ (a8 _ _ h)
 ·exact a8 _ _ h
def cV (L:List Int)(ar:Bool)(ms:List Mx)(ps:List Pm)(vars:List ByteArray):List Pm→Nat→List Ar×Nat
 | [],i=>([],i)
 | p::r,i=>if p.mutex=true then (.ua (iU L ar ms ps vars i).1::(cV L ar ms ps vars r (iU L ar ms ps vars i).2).1,(cV L ar ms ps vars r (iU L ar ms ps vars i).2).2)
  else (.exp (dc L ar vars i).1::(cV L ar ms ps vars r (dc L ar vars i).2).1,(cV L ar ms ps vars r (dc L ar vars i).2).2)
theorem pO (L:List Int)(ar:Bool)(ms:List Mx)(ps:List Pm)(vars:List ByteArray):∀ (l:List Pm) {i:Nat},i≤L.length→(cV L ar ms ps vars l i).2≤L.length
 | [],_,h=>h
 | p::r,i,h=>by
  rw[cV];split
  ·exact pO L ar ms ps vars r (oY _ _ _ _ _ h)
  ·exact pO L ar ms ps vars r (jF _ _ _ h)
def strs (ns:List ByteArray):CV:=.az (ns.map .str) ns.length
def eR (left:Nat):ByteArray:=⟨#[118]⟩++⟨#[UInt8.ofNat (97+left % 26),UInt8.ofNat (97+left / 26 % 26)]⟩
structure Lt where
 out:List Sm
 vars:List ByteArray
 i:Nat
 left:Nat
structure Wr where
 L:List Int
 ar:Bool
 ms:List Mx
 fs:List (ByteArray×List Pm)
abbrev Rec:=List ByteArray→Nat→Nat→Nat→Nat→List Sm×Nat×Nat
def Af (w:Wr)(rec:Rec)(ps:List Pm)(vars:List ByteArray)(i left:Nat):Lt:=
 ⟨.di false (iU w.L w.ar w.ms ps vars i).1::(rec vars 0 2 (iU w.L w.ar w.ms ps vars i).2 left).1++[.di true (iU w.L w.ar w.ms ps vars i).1],vars,(rec vars 0 2 (iU w.L w.ar w.ms ps vars i).2 left).2.1,(rec vars 0 2 (iU w.L w.ar w.ms ps vars i).2 left).2.2⟩
def gu (w:Wr)(ps:List Pm)(vars:List ByteArray)(go:Bool)(i left:Nat):Lt:=
 ⟨[.dI go (w.fs.getD (bZ w.L i w.fs.length).1 (eS,[])).1 (cV w.L w.ar w.ms ps vars (w.fs.getD (bZ w.L i w.fs.length).1 (eS,[])).2 (bZ w.L i w.fs.length).2).1],vars,(cV w.L w.ar w.ms ps vars (w.fs.getD (bZ w.L i w.fs.length).1 (eS,[])).2 (bZ w.L i w.fs.length).2).2,left⟩
def Oj (w:Wr)(rec:Rec)(vars:List ByteArray)(deep i left:Nat):Lt:=
 let e:=dc w.L w.ar vars i
 let th:=rec vars (deep-1) 3 e.2 left
 let c:=bZ w.L th.2.1 2
 if c.1=1 then
  let el:=rec vars (deep-1) 3 c.2 th.2.2
  ⟨[.kG e.1 th.1 el.1],vars,el.2.1,el.2.2⟩
 else ⟨[.kG e.1 th.1 []],vars,c.2,th.2.2⟩
def Nt (w:Wr)(rec:Rec)(vars:List ByteArray)(deep i left:Nat):Lt:=
 let e:=dc w.L w.ar vars i
 let th:=rec vars (deep-1) 3 e.2 left
 ⟨[.cC e.1 th.1],vars,th.2.1,th.2.2⟩
def yI (w:Wr)(rec:Rec)(ps:List Pm)(vars:List ByteArray)(deep i0 left:Nat):Lt:=
 let k:=(bZ w.L i0 14).1
 let i:=(bZ w.L i0 14).2
 if k<4 then ⟨[.di false (iU w.L w.ar w.ms ps vars i).1],vars,(iU w.L w.ar w.ms ps vars i).2,left⟩
 else if k<7 then ⟨[.di true (iU w.L w.ar w.ms ps vars i).1],vars,(iU w.L w.ar w.ms ps vars i).2,left⟩
 else if k=7 then ⟨[.gA (eR left) (dc w.L w.ar vars i).1],vars++[eR left],(dc w.L w.ar vars i).2,left⟩
 else if k=8∧0<vars.length then ⟨[.hD (vars.getD (bZ w.L i vars.length).1 eS) (dc w.L w.ar vars (bZ w.L i vars.length).2).1],vars,(dc w.L w.ar vars (bZ w.L i vars.length).2).2,left⟩
 else if k=9 then gu w ps vars false i left
 else if k=10 then gu w ps vars true i left
 else if k=11∧0<deep then Oj w rec vars deep i left
 else if k=12∧0<deep then Nt w rec vars deep i left
 else if k=13∧(bZ w.L i 3).1=1 then ⟨[.jb],vars,(bZ w.L i 3).2,left⟩
 else if k=13 then Af w rec ps vars (bZ w.L i 3).2 left
 else Af w rec ps vars i left
def qP (w:Wr)(rec:Rec)(ps:List Pm)(deep:Nat):Nat→List ByteArray→Nat→Nat→List Sm×Nat×Nat
 | 0,_,i,left=>([],i,left)
 | n+1,vars,i,left=>
  if left=0 then ([],i,left) else
  let s:=yI w rec ps vars deep i (left-1)
  let r:=qP w rec ps deep n s.vars s.i s.left
  (s.out++r.1,r.2)
def l7 (w:Wr)(ps:List Pm):Nat→Rec
 | 0=>fun _ _ most i left=>([],(bZ w.L i (most+1)).2,left)
 | f+1=>fun vars deep most i left=>qP w (l7 w ps f) ps deep (bZ w.L i (most+1)).1 vars (bZ w.L i (most+1)).2 left
def uT (L:List Int)(rec:Rec):Prop:=∀ vars deep most i left,i≤L.length→(rec vars deep most i left).2.1≤L.length∧(rec vars deep most i left).1.length+2*(rec vars deep most i left).2.2≤2*left
structure IH (L:List Int)(vars:List ByteArray)(left:Nat)(b:Lt):Prop where
 i:b.i≤L.length
 n:b.out.length+2*b.left≤2*(left+1)
 v:b.vars.length+b.left≤vars.length+left+1
 l:b.left≤left
 p:0<b.out.length
theorem Dq {w:Wr}{rec:Rec}(h:uT w.L rec)(ps:List Pm)(vars:List ByteArray){i:Nat}(left:Nat)(hi:i≤w.L.length):IH w.L vars left (Af w rec ps vars i left):=by
 obtain⟨h1,h2⟩:=h vars 0 2 _ left (oY w.L w.ar w.ms ps vars hi);refine⟨h1,?_,?_,?_,?_⟩<;>simp only[Af,List.length_append,List.length_cons,List.length_nil]<;>omega
theorem Ay {w:Wr}(ps:List Pm)(vars:List ByteArray)(go:Bool){i:Nat}(left:Nat)(hi:i≤w.L.length):IH w.L vars left (gu w ps vars go i left):=by
 refine⟨pO _ _ _ _ _ _ (a8 _ _ hi),?_,?_,?_,?_⟩<;>simp only[gu,List.length_cons,List.length_nil]<;>omega
theorem LH {w:Wr}{rec:Rec}(h:uT w.L rec)(vars:List ByteArray)(deep:Nat){i:Nat}(left:Nat)(hi:i≤w.L.length):IH w.L vars left (Nt w rec vars deep i left):=by
 obtain⟨h1,h2⟩:=h vars (deep-1) 3 _ left (jF w.L w.ar vars hi);refine⟨h1,?_,?_,?_,?_⟩<;>simp only[Nt,List.length_cons,List.length_nil]<;>omega
theorem ML {w:Wr}{rec:Rec}(h:uT w.L rec)(vars:List ByteArray)(deep:Nat){i:Nat}(left:Nat)(hi:i≤w.L.length):IH w.L vars left (Oj w rec vars deep i left):=by
 obtain⟨h1,h2⟩:=h vars (deep-1) 3 _ left (jF w.L w.ar vars hi);obtain⟨h3,h4⟩:=h vars (deep-1) 3 (bZ w.L (rec vars (deep-1) 3 (dc w.L w.ar vars i).2 left).2.1 2).2 (rec vars (deep-1) 3 (dc w.L w.ar vars i).2 left).2.2 (a8 _ _ h1);unfold Oj;simp only;split
 ·refine⟨h3,?_,?_,?_,?_⟩<;>simp only[List.length_cons,List.length_nil]<;>omega
 ·refine⟨a8 _ _ h1,?_,?_,?_,?_⟩<;>simp only[List.length_cons,List.length_nil]<;>omega
theorem Gf {w:Wr}{rec:Rec}(h:uT w.L rec)(ps:List Pm)(vars:List ByteArray)(deep:Nat){i:Nat}(left:Nat)(hi:i≤w.L.length):IH w.L vars left (yI w rec ps vars deep i left):=by
 have Qm:=a8 w.L 14 hi;unfold yI;simp only;split
 ·exact⟨oY _ _ _ _ _ Qm,by simp<;>omega,by simp<;>omega,Nat.le_refl _,by simp⟩
 split
 ·exact⟨oY _ _ _ _ _ Qm,by simp<;>omega,by simp<;>omega,Nat.le_refl _,by simp⟩
 split
 ·exact⟨jF _ _ _ Qm,by simp<;>omega,by simp<;>omega,Nat.le_refl _,by simp⟩
 split
 ·exact⟨jF _ _ _ (a8 _ _ Qm),by simp<;>omega,by simp<;>omega,Nat.le_refl _,by simp⟩
 split
 ·exact Ay ps vars false left Qm
 split
 ·exact Ay ps vars true left Qm
 split
 ·exact ML h vars deep left Qm
 split
 ·exact LH h vars deep left Qm
 split
 ·exact⟨a8 _ _ Qm,by simp<;>omega,by simp<;>omega,Nat.le_refl _,by simp⟩
 split
 ·exact Dq h ps vars left (a8 _ _ Qm)
 ·exact Dq h ps vars left Qm
theorem Hl {w:Wr}{rec:Rec}(h:uT w.L rec)(ps:List Pm)(deep:Nat):∀ (n:Nat) (vars:List ByteArray) (i left:Nat),i≤w.L.length→(qP w rec ps deep n vars i left).2.1≤w.L.length∧(qP w rec ps deep n vars i left).1.length+2*(qP w rec ps deep n vars i left).2.2≤2*left
 | 0,vars,i,left,hi=>⟨hi,by simp[qP]⟩
 | n+1,vars,i,left,hi=>by
  rw[qP];split
  ·exact⟨hi,by simp⟩
  ·have h1:=Gf h ps vars deep (left-1) hi;obtain⟨h2,h3⟩:=Hl h ps deep n (yI w rec ps vars deep i (left-1)).vars (yI w rec ps vars deep i (left-1)).i (yI w rec ps vars deep i (left-1)).left h1.i;refine⟨h2,?_⟩;have:=h1.n;simp only[List.length_append];omega
theorem sE (w:Wr)(ps:List Pm):∀ f:Nat,uT w.L (l7 w ps f)
 | 0=>fun vars deep most i left hi=>⟨a8 _ _ hi,by simp[l7]⟩
 | f+1=>fun vars deep most i left hi=>Hl (sE w ps f) ps deep _ vars _ left (a8 _ _ hi)
def dK (n:Nat):ByteArray:=⟨#[UInt8.ofNat n]⟩
def pZ (L:List Int):Nat→Nat→Nat→List Mx×Nat
 | 0,_,i=>([],i)
 | n+1,j,i=>
  if (bZ L i 5).1=1 then (⟨dK (97+j),true,0⟩ :: (pZ L n (j+1) (bZ L i 5).2).1,(pZ L n (j+1) (bZ L i 5).2).2)
  else if (bZ L i 5).1=2 then (⟨dK (97+j),false,1+(bZ L (bZ L i 5).2 3).1⟩ :: (pZ L n (j+1) (bZ L (bZ L i 5).2 3).2).1,(pZ L n (j+1) (bZ L (bZ L i 5).2 3).2).2)
  else (⟨dK (97+j),false,0⟩ :: (pZ L n (j+1) (bZ L i 5).2).1,(pZ L n (j+1) (bZ L i 5).2).2)
def vj (L:List Int):Nat→Nat→Nat→List Gl×Nat
 | 0,_,i=>([],i)
 | n+1,j,i=>(⟨⟨#[103]⟩++dK (48+j),((bZ L i 5).1:Int)-2⟩ :: (vj L n (j+1) (bZ L i 5).2).1,(vj L n (j+1) (bZ L i 5).2).2)
def CL (L:List Int):Nat→Nat→List Pm×Nat
 | 0,i=>([],i)
 | n+1,i=>(⟨⟨#[112]⟩++dK (48+(n+1)),decide (0<(bZ L i 3).1)⟩ :: (CL L n (bZ L i 3).2).1,(CL L n (bZ L i 3).2).2)
def uu (L:List Int):Nat→Nat→Nat→List Fu×Nat
 | 0,_,i=>([],i)
 | n+1,j,i=>
  let p:=CL L (if j=0 then 0 else (bZ L i 3).1) (bZ L i 3).2
  (⟨if j=0 then ⟨#[109,97,105,110]⟩ else ⟨#[102]⟩++dK (48+j),p.1,[]⟩ :: (uu L n (j+1) p.2).1,(uu L n (j+1) p.2).2)
def jf (gs:List Gl)(ps:List Pm):List ByteArray:=gs.map (·.name)++ps.flatMap fun p=>if p.mutex=true then [] else [p.name]
def Ky (w:Wr)(gs:List Gl):Nat→Nat→List Fu→Nat→Nat→List Fu
 | 0,_,fs,_,_=>fs
 | n+1,j,fs,i,left=>
  match fs[j]? with
  | none=>fs
  | some f=>
   let b:=l7 w f.params left (jf gs f.params) 2 6 i left
   Ky w gs n (j+1) (fs.set j ⟨f.name,f.params,b.1⟩) b.2.1 b.2.2
def C2 (l:List Int):Pg:=
 let L:=l.take 400
 let a:=bZ L 0 3
 let nm:=bZ L a.2 4
 let ms:=pZ L (1+nm.1) 0 nm.2
 let ng:=bZ L ms.2 3
 let gs:=vj L ng.1 0 ng.2
 let nf:=bZ L gs.2 4
 let fs:=uu L (nf.1+1) 0 nf.2
 ⟨gs.1,ms.1,Ky ⟨L,decide (a.1=1),ms.1,fs.1.map fun f=>(f.name,f.params)⟩ gs.1 (nf.1+1) 0 fs.1 fs.2 24⟩
end Go.aP
