/- Contracts with known results; the walk's short forms. No fun -/
import Derived.Test.YtlkmbdfhdknlgaaGreatDoorZ12
namespace Go.Can
@[reducible] def jA (r0:CV)(H:List (Nat×Ob))(n:Nat):CV→St→Prop:=fun r s=>r=r0∧s.heap=H∧s.nx=n
section
variable {P:Program}{C:Cx}{s:St}{ops:Array Oper}{av:List (Nat×TI)}
theorem TL.bS (Q8:aF P av){o:Oper}{l:List Oper}{c:Call}{g:FuncId}{cs:List CV}{K:St→Prop}{r0:CV}{H1:List (Nat×Ob)}(ks:List Nat){H:List (Nat×Ob)}(n:Nat)(hb:Body P av g cs H n (jA r0 H1 n))(hd:bt C.nt o.dst=true)(hg:b9 ops s o=Option.some true)(ho:o.op=.call c)(OG:bB s c=Option.some (g,cs))
  (hp:fk s.heap ks=Option.some H) (hn:n≤s.nx) (ha:a6 n cs=true) (hH:dD n H=true) (hk:me ks H1=true)
  (hK:TL P C ops l (St.put ⟨s.env,H1++eB s.heap ks,s.nx⟩ o.dst r0) K):TL P C ops (o::l) s K:=
 TL.Ir Q8 ks n hd hg ho OG hp hn ha hH hb (fun r s1 h=>⟨h.2.2,by rw[h.2.1];exact hk⟩) fun r s1 h=>by rw[h.1,h.2.1];exact hK
variable {W:List rh}{nt N:Nat}{dyn:List (Nat×Nat)}{K:St→Prop}{i:Nat}{r:List Nat}{res:Nat→Er}
theorem RX.bS {o:Oper}{cl:Call}{g:FuncId}{cs:List CV}{r0:CV}{H1:List (Nat×Ob)}(ks dw:List Nat){H:List (Nat×Ob)}(n:Nat)(hb:Body P av g cs H n (jA r0 H1 n))(hi:ops[i]? = Option.some o)(hd:bt nt o.dst=true)(hg:b9 ops s o=Option.some true)(hu:cg o=Option.some cl)(OG:bB s cl=Option.some (g,cs))
  (hp:fk s.heap ks=Option.some H) (hn:n≤s.nx) (ha:a6 n cs=true) (hH:dD n H=true) (hk:me ks H1=true) (hv:Bh dyn res i ks=true) (hc:(dw.all fun p=>ks.contains p)=true) (hs:∀ p∈ks,p∉dw→assoc H1 p=assoc H p)
  (hK:vu W dyn res i (pP r0 ks dw H1)∧mK av W nt ops N dyn (C7 P av W nt ops N dyn K) r (note dyn res i (pP r0 ks dw H1)) (St.put ⟨s.env,H1++eB s.heap ks,s.nx⟩ o.dst r0)):RX P av W nt ops N dyn K (i::r) res s:=by
 refine RX.Ir ks dw n hi hd hg hu OG hp hn ha hH hb hv hc (fun v s1 h=>⟨h.2.2,by rw[h.2.1];exact hk,fun p R1=>?_⟩) fun v s1 h=>by rw[h.1,h.2.1];exact hK
 rw[h.2.1];by_cases hm:p∈ks
 ·exact hs p hm R1
 ·obtain⟨i1,_⟩:=lH hp;have h1:assoc H p=none:=by
   cases h2:assoc H p with
   | none=>rfl
   | some y=>exact (hm (i1 p y h2).1).elim
  have h2:assoc H1 p=none:=by
   cases h3:assoc H1 p with
   | none=>rfl
   | some y=>exact (hm (rV hk p y h3)).elim
  rw[h1,h2]
theorem Body.ret {f:FuncId}{args:List CV}{H:List (Nat×Ob)}{n:Nat}{R R':CV→St→Prop}(h:Body P av f args H n R)(hR:∀ r s,R r s→R' r s):Body P av f args H n R':=by
 obtain⟨fn,c,h1,h2,h3,h4,h5⟩:=h;have key:∀ (C:Cx) s,aa C (fun s'=>∃ r,bm av fn s'=some r∧R r s') s→aa C (fun s'=>∃ r,bm av fn s'=some r∧R' r s') s:=fun C s ⟨s',⟨r,q1,q2⟩,hl⟩=>⟨s',⟨r,q1,hR r s' q2⟩,hl⟩;refine⟨fn,c,h1,h2,h3,h4,fun C hC N8=>T.mono (h5 C hC N8) fun e s q=>?_⟩
 cases e with
 | normal=>exact key C s q
 | ret=>exact key C s q
 | _=>exact q
end
def oN:Option CV→List Nat
 | some v=>kX v
 | none=>[]
def oNO (s:St):Option Operand→List Nat
 | some x=>oN (ev s x)
 | none=>[]
theorem GJ (s:St)(op:Op):Jo s op=op.operands.toList.flatMap fun x=>oN (ev s x):=rfl
theorem GI (s:St)(t:TypeId)(x:Operand):Jo s (.load t x)=oN (ev s x):=by
 rw[GJ];exact List.append_nil _
theorem EN (s:St)(t:TypeId)(x:Operand)(a b c:Option Operand):Jo s (.slice t x a b c)=oN (ev s x)++oNO s a++oNO s b++oNO s c:=by
 rw[GJ];cases a<;>cases b<;>cases c<;>simp[Op.operands,oNO]
@[simp] theorem eH (a b:Nat):((a:Int) == (b:Int))=decide (a=b):=by
 by_cases h:a=b
 ·simp[h]
 ·have:¬ (a:Int)=(b:Int):=by omega
  simp only[h,decide_false];exact beq_eq_false_iff_ne.2 this
@[simp] theorem natbeq_0 (a:Nat):((a:Int) == 0)=decide (a=0):=eH a 0
@[simp] theorem natbeq_1 (a:Nat):((a:Int) == 1)=decide (a=1):=eH a 1
@[simp] theorem natbeq_2 (a:Nat):((a:Int) == 2)=decide (a=2):=eH a 2
@[simp] theorem natbeq_3 (a:Nat):((a:Int) == 3)=decide (a=3):=eH a 3
@[simp] theorem natbeq_4 (a:Nat):((a:Int) == 4)=decide (a=4):=eH a 4
@[simp] theorem natbeq_5 (a:Nat):((a:Int) == 5)=decide (a=5):=eH a 5
@[simp] theorem natbeq_6 (a:Nat):((a:Int) == 6)=decide (a=6):=eH a 6
@[simp] theorem natbeq_7 (a:Nat):((a:Int) == 7)=decide (a=7):=eH a 7
@[simp] theorem natbeq_8 (a:Nat):((a:Int) == 8)=decide (a=8):=eH a 8
@[simp] theorem natbeq_9 (a:Nat):((a:Int) == 9)=decide (a=9):=eH a 9
@[simp] theorem NJ (a:Nat):((a:Int) == 10)=decide (a=10):=eH a 10
@[simp] theorem NH (a:Nat):((a:Int) == 11)=decide (a=11):=eH a 11
@[simp] theorem NG (a:Nat):((a:Int) == 12)=decide (a=12):=eH a 12
@[simp] theorem NF (a:Nat):((a:Int) == 13)=decide (a=13):=eH a 13
@[simp] theorem ND (a:Nat):((a:Int) == 14)=decide (a=14):=eH a 14
@[simp] theorem NC (a:Nat):((a:Int) == 15)=decide (a=15):=eH a 15
@[simp] theorem NB (a:Nat):((a:Int) == 16)=decide (a=16):=eH a 16
@[simp] theorem NA (a:Nat):((a:Int) == 17)=decide (a=17):=eH a 17
@[simp] theorem Nz (a:Nat):((a:Int) == 18)=decide (a=18):=eH a 18
@[simp] theorem Ny (a:Nat):((a:Int) == 19)=decide (a=19):=eH a 19
@[simp] theorem natlt_2 (a:Nat):((a:Int)<2)=(a<2):=by rw[eq_iff_iff];omega
@[simp] theorem natle_2 (a:Nat):((a:Int)≤2)=(a≤2):=by rw[eq_iff_iff];omega
@[simp] theorem natgt_2 (a:Nat):(2<(a:Int))=(2<a):=by rw[eq_iff_iff];omega
@[simp] theorem natge_2 (a:Nat):(2≤(a:Int))=(2≤a):=by rw[eq_iff_iff];omega
@[simp] theorem nateq_2 (a:Nat):((a:Int)=2)=(a=2):=by rw[eq_iff_iff];omega
@[simp] theorem natlt_3 (a:Nat):((a:Int)<3)=(a<3):=by rw[eq_iff_iff];omega
@[simp] theorem natle_3 (a:Nat):((a:Int)≤3)=(a≤3):=by rw[eq_iff_iff];omega
@[simp] theorem natgt_3 (a:Nat):(3<(a:Int))=(3<a):=by rw[eq_iff_iff];omega
@[simp] theorem natge_3 (a:Nat):(3≤(a:Int))=(3≤a):=by rw[eq_iff_iff];omega
@[simp] theorem nateq_3 (a:Nat):((a:Int)=3)=(a=3):=by rw[eq_iff_iff];omega
@[simp] theorem natlt_4 (a:Nat):((a:Int)<4)=(a<4):=by rw[eq_iff_iff];omega
@[simp] theorem natle_4 (a:Nat):((a:Int)≤4)=(a≤4):=by rw[eq_iff_iff];omega
@[simp] theorem natgt_4 (a:Nat):(4<(a:Int))=(4<a):=by rw[eq_iff_iff];omega
@[simp] theorem natge_4 (a:Nat):(4≤(a:Int))=(4≤a):=by rw[eq_iff_iff];omega
@[simp] theorem nateq_4 (a:Nat):((a:Int)=4)=(a=4):=by rw[eq_iff_iff];omega
@[simp] theorem natlt_5 (a:Nat):((a:Int)<5)=(a<5):=by rw[eq_iff_iff];omega
@[simp] theorem natle_5 (a:Nat):((a:Int)≤5)=(a≤5):=by rw[eq_iff_iff];omega
@[simp] theorem natgt_5 (a:Nat):(5<(a:Int))=(5<a):=by rw[eq_iff_iff];omega
@[simp] theorem natge_5 (a:Nat):(5≤(a:Int))=(5≤a):=by rw[eq_iff_iff];omega
@[simp] theorem nateq_5 (a:Nat):((a:Int)=5)=(a=5):=by rw[eq_iff_iff];omega
@[simp] theorem natlt_6 (a:Nat):((a:Int)<6)=(a<6):=by rw[eq_iff_iff];omega
@[simp] theorem natle_6 (a:Nat):((a:Int)≤6)=(a≤6):=by rw[eq_iff_iff];omega
@[simp] theorem natgt_6 (a:Nat):(6<(a:Int))=(6<a):=by rw[eq_iff_iff];omega
@[simp] theorem natge_6 (a:Nat):(6≤(a:Int))=(6≤a):=by rw[eq_iff_iff];omega
@[simp] theorem nateq_6 (a:Nat):((a:Int)=6)=(a=6):=by rw[eq_iff_iff];omega
@[simp] theorem natlt_7 (a:Nat):((a:Int)<7)=(a<7):=by rw[eq_iff_iff];omega
@[simp] theorem natle_7 (a:Nat):((a:Int)≤7)=(a≤7):=by rw[eq_iff_iff];omega
@[simp] theorem natgt_7 (a:Nat):(7<(a:Int))=(7<a):=by rw[eq_iff_iff];omega
@[simp] theorem natge_7 (a:Nat):(7≤(a:Int))=(7≤a):=by rw[eq_iff_iff];omega
@[simp] theorem nateq_7 (a:Nat):((a:Int)=7)=(a=7):=by rw[eq_iff_iff];omega
@[simp] theorem natlt_8 (a:Nat):((a:Int)<8)=(a<8):=by rw[eq_iff_iff];omega
@[simp] theorem natle_8 (a:Nat):((a:Int)≤8)=(a≤8):=by rw[eq_iff_iff];omega
@[simp] theorem natgt_8 (a:Nat):(8<(a:Int))=(8<a):=by rw[eq_iff_iff];omega
@[simp] theorem natge_8 (a:Nat):(8≤(a:Int))=(8≤a):=by rw[eq_iff_iff];omega
@[simp] theorem nateq_8 (a:Nat):((a:Int)=8)=(a=8):=by rw[eq_iff_iff];omega
@[simp] theorem natlt_9 (a:Nat):((a:Int)<9)=(a<9):=by rw[eq_iff_iff];omega
@[simp] theorem natle_9 (a:Nat):((a:Int)≤9)=(a≤9):=by rw[eq_iff_iff];omega
@[simp] theorem natgt_9 (a:Nat):(9<(a:Int))=(9<a):=by rw[eq_iff_iff];omega
@[simp] theorem natge_9 (a:Nat):(9≤(a:Int))=(9≤a):=by rw[eq_iff_iff];omega
@[simp] theorem nateq_9 (a:Nat):((a:Int)=9)=(a=9):=by rw[eq_iff_iff];omega
@[simp] theorem natlt_10 (a:Nat):((a:Int)<10)=(a<10):=by rw[eq_iff_iff];omega
@[simp] theorem natle_10 (a:Nat):((a:Int)≤10)=(a≤10):=by rw[eq_iff_iff];omega
@[simp] theorem natgt_10 (a:Nat):(10<(a:Int))=(10<a):=by rw[eq_iff_iff];omega
@[simp] theorem natge_10 (a:Nat):(10≤(a:Int))=(10≤a):=by rw[eq_iff_iff];omega
@[simp] theorem nateq_10 (a:Nat):((a:Int)=10)=(a=10):=by rw[eq_iff_iff];omega
@[simp] theorem natlt_11 (a:Nat):((a:Int)<11)=(a<11):=by rw[eq_iff_iff];omega
@[simp] theorem natle_11 (a:Nat):((a:Int)≤11)=(a≤11):=by rw[eq_iff_iff];omega
@[simp] theorem natgt_11 (a:Nat):(11<(a:Int))=(11<a):=by rw[eq_iff_iff];omega
@[simp] theorem natge_11 (a:Nat):(11≤(a:Int))=(11≤a):=by rw[eq_iff_iff];omega
@[simp] theorem nateq_11 (a:Nat):((a:Int)=11)=(a=11):=by rw[eq_iff_iff];omega
@[simp] theorem natlt_12 (a:Nat):((a:Int)<12)=(a<12):=by rw[eq_iff_iff];omega
@[simp] theorem natle_12 (a:Nat):((a:Int)≤12)=(a≤12):=by rw[eq_iff_iff];omega
@[simp] theorem natgt_12 (a:Nat):(12<(a:Int))=(12<a):=by rw[eq_iff_iff];omega
@[simp] theorem natge_12 (a:Nat):(12≤(a:Int))=(12≤a):=by rw[eq_iff_iff];omega
@[simp] theorem nateq_12 (a:Nat):((a:Int)=12)=(a=12):=by rw[eq_iff_iff];omega
@[simp] theorem natlt_13 (a:Nat):((a:Int)<13)=(a<13):=by rw[eq_iff_iff];omega
@[simp] theorem natle_13 (a:Nat):((a:Int)≤13)=(a≤13):=by rw[eq_iff_iff];omega
@[simp] theorem natgt_13 (a:Nat):(13<(a:Int))=(13<a):=by rw[eq_iff_iff];omega
@[simp] theorem natge_13 (a:Nat):(13≤(a:Int))=(13≤a):=by rw[eq_iff_iff];omega
@[simp] theorem nateq_13 (a:Nat):((a:Int)=13)=(a=13):=by rw[eq_iff_iff];omega
@[simp] theorem natlt_14 (a:Nat):((a:Int)<14)=(a<14):=by rw[eq_iff_iff];omega
@[simp] theorem natle_14 (a:Nat):((a:Int)≤14)=(a≤14):=by rw[eq_iff_iff];omega
@[simp] theorem natgt_14 (a:Nat):(14<(a:Int))=(14<a):=by rw[eq_iff_iff];omega
@[simp] theorem natge_14 (a:Nat):(14≤(a:Int))=(14≤a):=by rw[eq_iff_iff];omega
@[simp] theorem nateq_14 (a:Nat):((a:Int)=14)=(a=14):=by rw[eq_iff_iff];omega
@[simp] theorem natlt_15 (a:Nat):((a:Int)<15)=(a<15):=by rw[eq_iff_iff];omega
@[simp] theorem natle_15 (a:Nat):((a:Int)≤15)=(a≤15):=by rw[eq_iff_iff];omega
@[simp] theorem natgt_15 (a:Nat):(15<(a:Int))=(15<a):=by rw[eq_iff_iff];omega
@[simp] theorem natge_15 (a:Nat):(15≤(a:Int))=(15≤a):=by rw[eq_iff_iff];omega
@[simp] theorem nateq_15 (a:Nat):((a:Int)=15)=(a=15):=by rw[eq_iff_iff];omega
@[simp] theorem natlt_16 (a:Nat):((a:Int)<16)=(a<16):=by rw[eq_iff_iff];omega
@[simp] theorem natle_16 (a:Nat):((a:Int)≤16)=(a≤16):=by rw[eq_iff_iff];omega
@[simp] theorem natgt_16 (a:Nat):(16<(a:Int))=(16<a):=by rw[eq_iff_iff];omega
@[simp] theorem natge_16 (a:Nat):(16≤(a:Int))=(16≤a):=by rw[eq_iff_iff];omega
@[simp] theorem nateq_16 (a:Nat):((a:Int)=16)=(a=16):=by rw[eq_iff_iff];omega
@[simp] theorem natlt_17 (a:Nat):((a:Int)<17)=(a<17):=by rw[eq_iff_iff];omega
@[simp] theorem natle_17 (a:Nat):((a:Int)≤17)=(a≤17):=by rw[eq_iff_iff];omega
@[simp] theorem natgt_17 (a:Nat):(17<(a:Int))=(17<a):=by rw[eq_iff_iff];omega
@[simp] theorem natge_17 (a:Nat):(17≤(a:Int))=(17≤a):=by rw[eq_iff_iff];omega
@[simp] theorem nateq_17 (a:Nat):((a:Int)=17)=(a=17):=by rw[eq_iff_iff];omega
@[simp] theorem natlt_18 (a:Nat):((a:Int)<18)=(a<18):=by rw[eq_iff_iff];omega
@[simp] theorem natle_18 (a:Nat):((a:Int)≤18)=(a≤18):=by rw[eq_iff_iff];omega
@[simp] theorem natgt_18 (a:Nat):(18<(a:Int))=(18<a):=by rw[eq_iff_iff];omega
@[simp] theorem natge_18 (a:Nat):(18≤(a:Int))=(18≤a):=by rw[eq_iff_iff];omega
@[simp] theorem nateq_18 (a:Nat):((a:Int)=18)=(a=18):=by rw[eq_iff_iff];omega
@[simp] theorem natlt_19 (a:Nat):((a:Int)<19)=(a<19):=by rw[eq_iff_iff];omega
@[simp] theorem natle_19 (a:Nat):((a:Int)≤19)=(a≤19):=by rw[eq_iff_iff];omega
@[simp] theorem natgt_19 (a:Nat):(19<(a:Int))=(19<a):=by rw[eq_iff_iff];omega
@[simp] theorem natge_19 (a:Nat):(19≤(a:Int))=(19≤a):=by rw[eq_iff_iff];omega
@[simp] theorem nateq_19 (a:Nat):((a:Int)=19)=(a=19):=by rw[eq_iff_iff];omega
@[simp] theorem natlt_20 (a:Nat):((a:Int)<20)=(a<20):=by rw[eq_iff_iff];omega
@[simp] theorem natle_20 (a:Nat):((a:Int)≤20)=(a≤20):=by rw[eq_iff_iff];omega
@[simp] theorem natgt_20 (a:Nat):(20<(a:Int))=(20<a):=by rw[eq_iff_iff];omega
@[simp] theorem natge_20 (a:Nat):(20≤(a:Int))=(20≤a):=by rw[eq_iff_iff];omega
@[simp] theorem nateq_20 (a:Nat):((a:Int)=20)=(a=20):=by rw[eq_iff_iff];omega
@[simp] theorem natlt_24 (a:Nat):((a:Int)<24)=(a<24):=by rw[eq_iff_iff];omega
@[simp] theorem natle_24 (a:Nat):((a:Int)≤24)=(a≤24):=by rw[eq_iff_iff];omega
@[simp] theorem natgt_24 (a:Nat):(24<(a:Int))=(24<a):=by rw[eq_iff_iff];omega
@[simp] theorem natge_24 (a:Nat):(24≤(a:Int))=(24≤a):=by rw[eq_iff_iff];omega
@[simp] theorem nateq_24 (a:Nat):((a:Int)=24)=(a=24):=by rw[eq_iff_iff];omega
@[simp] theorem natlt_26 (a:Nat):((a:Int)<26)=(a<26):=by rw[eq_iff_iff];omega
@[simp] theorem natle_26 (a:Nat):((a:Int)≤26)=(a≤26):=by rw[eq_iff_iff];omega
@[simp] theorem natgt_26 (a:Nat):(26<(a:Int))=(26<a):=by rw[eq_iff_iff];omega
@[simp] theorem natge_26 (a:Nat):(26≤(a:Int))=(26≤a):=by rw[eq_iff_iff];omega
@[simp] theorem nateq_26 (a:Nat):((a:Int)=26)=(a=26):=by rw[eq_iff_iff];omega
@[simp] theorem natlt_36 (a:Nat):((a:Int)<36)=(a<36):=by rw[eq_iff_iff];omega
@[simp] theorem natle_36 (a:Nat):((a:Int)≤36)=(a≤36):=by rw[eq_iff_iff];omega
@[simp] theorem natgt_36 (a:Nat):(36<(a:Int))=(36<a):=by rw[eq_iff_iff];omega
@[simp] theorem natge_36 (a:Nat):(36≤(a:Int))=(36≤a):=by rw[eq_iff_iff];omega
@[simp] theorem nateq_36 (a:Nat):((a:Int)=36)=(a=36):=by rw[eq_iff_iff];omega
@[simp] theorem nateq_1 (a:Nat):((a:Int)=1)=(a=1):=by rw[eq_iff_iff];omega
@[simp] theorem natlt_1 (a:Nat):((a:Int)<1)=(a<1):=by rw[eq_iff_iff];omega
@[simp] theorem NY (s:St)(o:Oper):xN [] s o=false:=rfl
@[simp] theorem WOk_e (W:List rh):MP W []:=fun _ _ _ h=>by cases h
attribute [simp] Ed mK C7 vu chk Bh note BQ pP iz vb B6 sL
attribute [simp] DV qM bytesOf vo b9 cg iF qQ Bn GK GI EN oN oNO kX qT Ae rmL N0 qo pU My
end Go.Can
namespace Go.aN
open Go.Can
def bN (L:List Int)(i n:Nat):Nat×Nat:=match L[i]? with
 | none=>(0,i)
 | some x=>((x % (n:Int)).toNat,i+1)
theorem cH (L:List Int)(i:Nat){n:Nat}(h:0<n):(bN L i n).1<n:=by
 unfold bN;split
 ·exact h
 ·rename_i x _;have h1:=Int.emod_nonneg x (show (n:Int)≠0 by omega);have h2:=Int.emod_lt_of_pos x (show (0:Int)<n by omega);simp only;omega
theorem aV (L:List Int){i:Nat}(n:Nat)(h:i≤L.length):(bN L i n).2≤L.length:=by
 unfold bN;split
 ·exact h
 ·rename_i x hx;exact (List.getElem?_eq_some_iff.1 hx).1
def vW (L:List Int)(i:Nat):Nat×Nat:=if (bN L i 8).1=1 then bN L (bN L i 8).2 4611686018427387904 else bN L (bN L i 8).2 4
theorem JH (L:List Int)(i:Nat):(vW L i).1<4611686018427387904:=by
 unfold vW;split
 ·exact cH _ _ yA
 ·exact Nat.lt_of_lt_of_le (cH L _ (show 0<4 by omega)) yA
theorem JI (L:List Int){i:Nat}(h:i≤L.length):(vW L i).2≤L.length:=by
 unfold vW;split
 ·exact aV _ _ (aV _ _ h)
 ·exact aV _ _ (aV _ _ h)
def qv (L:List Int)(ns:List ByteArray)(i:Nat):Ex×Nat:=
 if 0<ns.length∧(bN L i 2).1=1 then (.nm (ns.getD (bN L (bN L i 2).2 ns.length).1 eS),(bN L (bN L i 2).2 ns.length).2)
 else (.num (vW L (if 0<ns.length then (bN L i 2).2 else i)).1,(vW L (if 0<ns.length then (bN L i 2).2 else i)).2)
theorem Av (L:List Int)(ns:List ByteArray){i:Nat}(h:i≤L.length):(qv L ns i).2≤L.length:=by
 unfold qv;split
 ·exact aV _ _ (aV _ _ h)
 ·refine JI L ?_;split
  ·exact aV _ _ h
  ·exact h
def qF (L:List Int)(ns:List ByteArray):Nat→Nat→Ex×Nat
 | 0,i=>qv L ns (bN L i 10).2
 | d+1,i=>
  if (bN L i 10).1<2 then qv L ns (bN L i 10).2
  else if (bN L i 10).1<4 then (.un ((bN L i 10).1 % 2) (qF L ns d (bN L i 10).2).1,(qF L ns d (bN L i 10).2).2)
  else (.bin (bN L (bN L i 10).2 13).1 (qF L ns d (bN L (bN L i 10).2 13).2).1 (qF L ns d (qF L ns d (bN L (bN L i 10).2 13).2).2).1,(qF L ns d (qF L ns d (bN L (bN L i 10).2 13).2).2).2)
theorem nD (L:List Int)(ns:List ByteArray):∀ (d:Nat) {i:Nat},i≤L.length→(qF L ns d i).2≤L.length
 | 0,i,h=>Av L ns (aV _ _ h)
 | d+1,i,h=>by
  rw[qF];split
  ·exact Av L ns (aV _ _ h)
  ·split
   ·exact nD L ns d (aV _ _ h)
   ·exact nD L ns d (nD L ns d (aV _ _ (aV _ _ h)))
def dj (L:List Int)(ar:Bool)(vars:List ByteArray)(i:Nat):Ex×Nat:=if ar=true then qF L vars (1+(bN L i 2).1) (bN L i 2).2 else qF L vars 0 i
def oO (L:List Int)(ar:Bool)(vars:List ByteArray)(size i:Nat):Ex×Nat:=
 if ar=true∧(bN L i 3).1=1 then qF L vars 1 (bN L i 3).2 else (.num (bN L (if ar=true then (bN L i 3).2 else i) size).1,(bN L (if ar=true then (bN L i 3).2 else i) size).2)
theorem jZ (L:List Int)(ar:Bool)(vars:List ByteArray){i:Nat}(h:i≤L.length):(dj L ar vars i).2≤L.length:=by
 unfold dj;split
 ·exact nD _ _ _ (aV _ _ h)
 ·exact nD _ _ _ h
theorem JU (L:List Int)(ar:Bool)(vars:List ByteArray)(size:Nat){i:Nat}(h:i≤L.length):(oO L ar vars size i).2≤L.length:=by
 unfold oO;split
 ·exact nD _ _ _ (aV _ _ h)
 ·refine aV _ _ ?_;split
  ·exact aV _ _ h
  ·exact h
def FN (p:Pm):List ByteArray:=if p.mutex=true then [p.name,p.name] else []
def bT (ms:List Mx)(ps:List Pm):List ByteArray:=ms.map (·.name)++ps.flatMap FN
def kN (ms:List Mx)(j:Nat):Nat:=match ms[j]? with
 | some m=>m.size
 | none=>0
def jd (L:List Int)(ar:Bool)(ms:List Mx)(ps:List Pm)(vars:List ByteArray)(i:Nat):Rf×Nat:=
 if (bN L i (bT ms ps).length).1<ms.length∧0<kN ms (bN L i (bT ms ps).length).1 then
  (⟨(bT ms ps).getD (bN L i (bT ms ps).length).1 eS,some (oO L ar vars (kN ms (bN L i (bT ms ps).length).1) (bN L i (bT ms ps).length).2).1⟩,(oO L ar vars (kN ms (bN L i (bT ms ps).length).1) (bN L i (bT ms ps).length).2).2)
 else (⟨(bT ms ps).getD (bN L i (bT ms ps).length).1 eS,none⟩,(bN L i (bT ms ps).length).2)
theorem qn (L:List Int)(ar:Bool)(ms:List Mx)(ps:List Pm)(vars:List ByteArray){i:Nat}(h:i≤L.length):(jd L ar ms ps vars i).2≤L.length:=by
 unfold jd;split
 ·exact JU _ _ _ _ (aV _ _ h)
 ·exact aV _ _ h
def db (L:List Int)(ar:Bool)(ms:List Mx)(ps:List Pm)(vars:List ByteArray):List Pm→Nat→List Ar×Nat
 | [],i=>([],i)
 | p::r,i=>if p.mutex=true then (.uX (jd L ar ms ps vars i).1::(db L ar ms ps vars r (jd L ar ms ps vars i).2).1,(db L ar ms ps vars r (jd L ar ms ps vars i).2).2)
  else (.exp (dj L ar vars i).1::(db L ar ms ps vars r (dj L ar vars i).2).1,(db L ar ms ps vars r (dj L ar vars i).2).2)
theorem qS (L:List Int)(ar:Bool)(ms:List Mx)(ps:List Pm)(vars:List ByteArray):∀ (l:List Pm) {i:Nat},i≤L.length→(db L ar ms ps vars l i).2≤L.length
 | [],_,h=>h
 | p::r,i,h=>by
  rw[db];split
  ·exact qS L ar ms ps vars r (qn _ _ _ _ _ h)
  ·exact qS L ar ms ps vars r (jZ _ _ _ h)
def strs (ns:List ByteArray):CV:=.az (ns.map .str) ns.length
def fq (left:Nat):ByteArray:=⟨#[118]⟩++⟨#[UInt8.ofNat (97+left % 26),UInt8.ofNat (97+left / 26 % 26)]⟩
structure Ld where
 out:List Sm
 vars:List ByteArray
 i:Nat
 left:Nat
structure Wr where
 L:List Int
 ar:Bool
 ms:List Mx
 fs:List (ByteArray×List Pm)
abbrev Rec:=List ByteArray→Nat→Nat→Nat→Nat→List Sm×Nat×Nat
def AS (w:Wr)(rec:Rec)(ps:List Pm)(vars:List ByteArray)(i left:Nat):Ld:=
 ⟨.dx false (jd w.L w.ar w.ms ps vars i).1::(rec vars 0 2 (jd w.L w.ar w.ms ps vars i).2 left).1++[.dx true (jd w.L w.ar w.ms ps vars i).1],vars,(rec vars 0 2 (jd w.L w.ar w.ms ps vars i).2 left).2.1,(rec vars 0 2 (jd w.L w.ar w.ms ps vars i).2 left).2.2⟩
def gJ (w:Wr)(ps:List Pm)(vars:List ByteArray)(go:Bool)(i left:Nat):Ld:=
 ⟨[.dU go (w.fs.getD (bN w.L i w.fs.length).1 (eS,[])).1 (db w.L w.ar w.ms ps vars (w.fs.getD (bN w.L i w.fs.length).1 (eS,[])).2 (bN w.L i w.fs.length).2).1],vars,(db w.L w.ar w.ms ps vars (w.fs.getD (bN w.L i w.fs.length).1 (eS,[])).2 (bN w.L i w.fs.length).2).2,left⟩
def NO (w:Wr)(rec:Rec)(vars:List ByteArray)(deep i left:Nat):Ld:=
 let e:=dj w.L w.ar vars i
 let th:=rec vars (deep-1) 3 e.2 left
 let c:=bN w.L th.2.1 2
 if c.1=1 then
  let el:=rec vars (deep-1) 3 c.2 th.2.2
  ⟨[.lu e.1 th.1 el.1],vars,el.2.1,el.2.2⟩
 else ⟨[.lu e.1 th.1 []],vars,c.2,th.2.2⟩
def M3 (w:Wr)(rec:Rec)(vars:List ByteArray)(deep i left:Nat):Ld:=
 let e:=dj w.L w.ar vars i
 let th:=rec vars (deep-1) 3 e.2 left
 ⟨[.cE e.1 th.1],vars,th.2.1,th.2.2⟩
def zh (w:Wr)(rec:Rec)(ps:List Pm)(vars:List ByteArray)(deep i0 left:Nat):Ld:=
 let k:=(bN w.L i0 14).1
 let i:=(bN w.L i0 14).2
 if k<4 then ⟨[.dx false (jd w.L w.ar w.ms ps vars i).1],vars,(jd w.L w.ar w.ms ps vars i).2,left⟩
 else if k<7 then ⟨[.dx true (jd w.L w.ar w.ms ps vars i).1],vars,(jd w.L w.ar w.ms ps vars i).2,left⟩
 else if k=7 then ⟨[.gP (fq left) (dj w.L w.ar vars i).1],vars++[fq left],(dj w.L w.ar vars i).2,left⟩
 else if k=8∧0<vars.length then ⟨[.iy (vars.getD (bN w.L i vars.length).1 eS) (dj w.L w.ar vars (bN w.L i vars.length).2).1],vars,(dj w.L w.ar vars (bN w.L i vars.length).2).2,left⟩
 else if k=9 then gJ w ps vars false i left
 else if k=10 then gJ w ps vars true i left
 else if k=11∧0<deep then NO w rec vars deep i left
 else if k=12∧0<deep then M3 w rec vars deep i left
 else if k=13∧(bN w.L i 3).1=1 then ⟨[.jm],vars,(bN w.L i 3).2,left⟩
 else if k=13 then AS w rec ps vars (bN w.L i 3).2 left
 else AS w rec ps vars i left
def sJ (w:Wr)(rec:Rec)(ps:List Pm)(deep:Nat):Nat→List ByteArray→Nat→Nat→List Sm×Nat×Nat
 | 0,_,i,left=>([],i,left)
 | n+1,vars,i,left=>
  if left=0 then ([],i,left) else
  let s:=zh w rec ps vars deep i (left-1)
  let r:=sJ w rec ps deep n s.vars s.i s.left
  (s.out++r.1,r.2)
def mQ (w:Wr)(ps:List Pm):Nat→Rec
 | 0=>fun _ _ most i left=>([],(bN w.L i (most+1)).2,left)
 | f+1=>fun vars deep most i left=>sJ w (mQ w ps f) ps deep (bN w.L i (most+1)).1 vars (bN w.L i (most+1)).2 left
def vJ (L:List Int)(rec:Rec):Prop:=∀ vars deep most i left,i≤L.length→(rec vars deep most i left).2.1≤L.length∧(rec vars deep most i left).1.length+2*(rec vars deep most i left).2.2≤2*left
structure II (L:List Int)(vars:List ByteArray)(left:Nat)(b:Ld):Prop where
 i:b.i≤L.length
 n:b.out.length+2*b.left≤2*(left+1)
 v:b.vars.length+b.left≤vars.length+left+1
 l:b.left≤left
 p:0<b.out.length
theorem DS {w:Wr}{rec:Rec}(h:vJ w.L rec)(ps:List Pm)(vars:List ByteArray){i:Nat}(left:Nat)(hi:i≤w.L.length):II w.L vars left (AS w rec ps vars i left):=by
 obtain⟨h1,h2⟩:=h vars 0 2 _ left (qn w.L w.ar w.ms ps vars hi);refine⟨h1,?_,?_,?_,?_⟩<;>simp only[AS,List.length_append,List.length_cons,List.length_nil]<;>omega
theorem Bk {w:Wr}(ps:List Pm)(vars:List ByteArray)(go:Bool){i:Nat}(left:Nat)(hi:i≤w.L.length):II w.L vars left (gJ w ps vars go i left):=by
 refine⟨qS _ _ _ _ _ _ (aV _ _ hi),?_,?_,?_,?_⟩<;>simp only[gJ,List.length_cons,List.length_nil]<;>omega
theorem Lk {w:Wr}{rec:Rec}(h:vJ w.L rec)(vars:List ByteArray)(deep:Nat){i:Nat}(left:Nat)(hi:i≤w.L.length):II w.L vars left (M3 w rec vars deep i left):=by
 obtain⟨h1,h2⟩:=h vars (deep-1) 3 _ left (jZ w.L w.ar vars hi);refine⟨h1,?_,?_,?_,?_⟩<;>simp only[M3,List.length_cons,List.length_nil]<;>omega
theorem Mk {w:Wr}{rec:Rec}(h:vJ w.L rec)(vars:List ByteArray)(deep:Nat){i:Nat}(left:Nat)(hi:i≤w.L.length):II w.L vars left (NO w rec vars deep i left):=by
 obtain⟨h1,h2⟩:=h vars (deep-1) 3 _ left (jZ w.L w.ar vars hi);obtain⟨h3,h4⟩:=h vars (deep-1) 3 (bN w.L (rec vars (deep-1) 3 (dj w.L w.ar vars i).2 left).2.1 2).2 (rec vars (deep-1) 3 (dj w.L w.ar vars i).2 left).2.2 (aV _ _ h1);unfold NO;simp only;split
 ·refine⟨h3,?_,?_,?_,?_⟩<;>simp only[List.length_cons,List.length_nil]<;>omega
 ·refine⟨aV _ _ h1,?_,?_,?_,?_⟩<;>simp only[List.length_cons,List.length_nil]<;>omega
theorem Gq {w:Wr}{rec:Rec}(h:vJ w.L rec)(ps:List Pm)(vars:List ByteArray)(deep:Nat){i:Nat}(left:Nat)(hi:i≤w.L.length):II w.L vars left (zh w rec ps vars deep i left):=by
 have OL:=aV w.L 14 hi;unfold zh;simp only;split
 ·exact⟨qn _ _ _ _ _ OL,by simp<;>omega,by simp<;>omega,Nat.le_refl _,by simp⟩
 split
 ·exact⟨qn _ _ _ _ _ OL,by simp<;>omega,by simp<;>omega,Nat.le_refl _,by simp⟩
 split
 ·exact⟨jZ _ _ _ OL,by simp<;>omega,by simp<;>omega,Nat.le_refl _,by simp⟩
 split
 ·exact⟨jZ _ _ _ (aV _ _ OL),by simp<;>omega,by simp<;>omega,Nat.le_refl _,by simp⟩
 split
 ·exact Bk ps vars false left OL
 split
 ·exact Bk ps vars true left OL
 split
 ·exact Mk h vars deep left OL
 split
 ·exact Lk h vars deep left OL
 split
 ·exact⟨aV _ _ OL,by simp<;>omega,by simp<;>omega,Nat.le_refl _,by simp⟩
 split
 ·exact DS h ps vars left (aV _ _ OL)
 ·exact DS h ps vars left OL
theorem Hh {w:Wr}{rec:Rec}(h:vJ w.L rec)(ps:List Pm)(deep:Nat):∀ (n:Nat) (vars:List ByteArray) (i left:Nat),i≤w.L.length→(sJ w rec ps deep n vars i left).2.1≤w.L.length∧(sJ w rec ps deep n vars i left).1.length+2*(sJ w rec ps deep n vars i left).2.2≤2*left
 | 0,vars,i,left,hi=>⟨hi,by simp[sJ]⟩
 | n+1,vars,i,left,hi=>by
  rw[sJ];split
  ·exact⟨hi,by simp⟩
  ·have h1:=Gq h ps vars deep (left-1) hi;obtain⟨h2,h3⟩:=Hh h ps deep n (zh w rec ps vars deep i (left-1)).vars (zh w rec ps vars deep i (left-1)).i (zh w rec ps vars deep i (left-1)).left h1.i;refine⟨h2,?_⟩;have:=h1.n;simp only[List.length_append];omega
theorem uh (w:Wr)(ps:List Pm):∀ f:Nat,vJ w.L (mQ w ps f)
 | 0=>fun vars deep most i left hi=>⟨aV _ _ hi,by simp[mQ]⟩
 | f+1=>fun vars deep most i left hi=>Hh (uh w ps f) ps deep _ vars _ left (aV _ _ hi)
def dY (n:Nat):ByteArray:=⟨#[UInt8.ofNat n]⟩
def qY (L:List Int):Nat→Nat→Nat→List Mx×Nat
 | 0,_,i=>([],i)
 | n+1,j,i=>
  if (bN L i 5).1=1 then (⟨dY (97+j),true,0⟩ :: (qY L n (j+1) (bN L i 5).2).1,(qY L n (j+1) (bN L i 5).2).2)
  else if (bN L i 5).1=2 then (⟨dY (97+j),false,1+(bN L (bN L i 5).2 3).1⟩ :: (qY L n (j+1) (bN L (bN L i 5).2 3).2).1,(qY L n (j+1) (bN L (bN L i 5).2 3).2).2)
  else (⟨dY (97+j),false,0⟩ :: (qY L n (j+1) (bN L i 5).2).1,(qY L n (j+1) (bN L i 5).2).2)
def v9 (L:List Int):Nat→Nat→Nat→List Gl×Nat
 | 0,_,i=>([],i)
 | n+1,j,i=>(⟨⟨#[103]⟩++dY (48+j),((bN L i 5).1:Int)-2⟩ :: (v9 L n (j+1) (bN L i 5).2).1,(v9 L n (j+1) (bN L i 5).2).2)
def De (L:List Int):Nat→Nat→List Pm×Nat
 | 0,i=>([],i)
 | n+1,i=>(⟨⟨#[112]⟩++dY (48+(n+1)),decide (0<(bN L i 3).1)⟩ :: (De L n (bN L i 3).2).1,(De L n (bN L i 3).2).2)
def vf (L:List Int):Nat→Nat→Nat→List Fu×Nat
 | 0,_,i=>([],i)
 | n+1,j,i=>
  let p:=De L (if j=0 then 0 else (bN L i 3).1) (bN L i 3).2
  (⟨if j=0 then ⟨#[109,97,105,110]⟩ else ⟨#[102]⟩++dY (48+j),p.1,[]⟩ :: (vf L n (j+1) p.2).1,(vf L n (j+1) p.2).2)
def jq (gs:List Gl)(ps:List Pm):List ByteArray:=gs.map (·.name)++ps.flatMap fun p=>if p.mutex=true then [] else [p.name]
def Kk (w:Wr)(gs:List Gl):Nat→Nat→List Fu→Nat→Nat→List Fu
 | 0,_,fs,_,_=>fs
 | n+1,j,fs,i,left=>
  match fs[j]? with
  | none=>fs
  | some f=>
   let b:=mQ w f.params left (jq gs f.params) 2 6 i left
   Kk w gs n (j+1) (fs.set j ⟨f.name,f.params,b.1⟩) b.2.1 b.2.2
def Dt (l:List Int):Pg:=
 let L:=l.take 400
 let a:=bN L 0 3
 let nm:=bN L a.2 4
 let ms:=qY L (1+nm.1) 0 nm.2
 let ng:=bN L ms.2 3
 let gs:=v9 L ng.1 0 ng.2
 let nf:=bN L gs.2 4
 let fs:=vf L (nf.1+1) 0 nf.2
 ⟨gs.1,ms.1,Kk ⟨L,decide (a.1=1),ms.1,fs.1.map fun f=>(f.name,f.params)⟩ gs.1 (nf.1+1) 0 fs.1 fs.2 24⟩
def iC (c:UInt8):Bool:=c == 32 || c == 9 || c == 10 || c == 13
def isLet (c:UInt8):Bool:=(decide (97≤c.toNat) && decide (c.toNat≤122)) || (decide (65≤c.toNat) && decide (c.toNat≤90)) || decide (c.toNat=95)
def cY (c:UInt8):Bool:=decide (48≤c.toNat) && decide (c.toNat≤57)
def fB (c:UInt8):Bool:=isLet c || cY c
def rI:List (List UInt8):=[[118,97,114],[109,117,116,101,120],[114,109,117,116,101,120],[102,117,110,99],[108,111,99,107],[117,110,108,111,99,107],[103,111],[105,102],[101,108,115,101],[119,104,105,108,101],[114,101,116,117,114,110]]
def mb:List UInt8:=[40,41,123,125,91,93,44,59,61,43,45,42,47,37,60,62,33]
def rv:List (UInt8×UInt8):=[(60,61),(62,61),(61,61),(33,61),(38,38),(124,124)]
def lh (w:List UInt8):Nat:=w.foldl (fun n c=>10*n+(c.toNat-48)) 0
def tG:List UInt8→Nat
 | a::b::_=>if (a,b)∈rv then 2 else if a∈mb then 1 else 0
 | [a]=>if a∈mb then 1 else 0
 | []=>0
inductive Lx:List UInt8→Nat→Prop
 | nil (n:Nat):Lx [] n
 | sp {c:UInt8} {r:List UInt8} {n:Nat}:iC c=true→Lx r n→Lx (c::r) n
 | nm {c:UInt8} {r:List UInt8} {n:Nat}:isLet c=true→(((c::r).takeWhile fB).length≤16∨(c::r).takeWhile fB∈rI)→Lx ((c::r).dropWhile fB) n→Lx (c::r) (n+1)
 | num {c:UInt8} {r:List UInt8} {n:Nat}:cY c=true→lh ((c::r).takeWhile cY)<9223372036854775808→Lx ((c::r).dropWhile cY) n→Lx (c::r) (n+1)
 | sg {c:UInt8} {r:List UInt8} {n:Nat}:isLet c=false→cY c=false→iC c=false→(c=47→r.head?≠some 47)→0<tG (c::r)→Lx ((c::r).drop (tG (c::r))) n→Lx (c::r) (n+1)
theorem Lx.mono {r:List UInt8}{n m:Nat}(h:Lx r n)(hm:n≤m):Lx r m:=by
 induction h generalizing m with
 | nil=>exact .nil _
 | sp a _ ih=>exact .sp a (ih hm)
 | nm a b _ ih=>
  obtain⟨k,rfl⟩:∃ k,m=k+1:=⟨m-1,by omega⟩;exact .nm a b (ih yA)
 | num a b _ ih=>
  obtain⟨k,rfl⟩:∃ k,m=k+1:=⟨m-1,by omega⟩;exact .num a b (ih yA)
 | sg a b c d e _ ih=>
  obtain⟨k,rfl⟩:∃ k,m=k+1:=⟨m-1,by omega⟩;exact .sg a b c d e (ih yA)
def Stop (r:List UInt8):Prop:=∀ c,r.head? = some c→fB c=false∧c≠61∧c≠47
theorem jN {p:UInt8→Bool}:∀ (w r:List UInt8),(w.all p=true)→(∀ c,r.head? = some c→p c=false)→(w++r).takeWhile p=w∧(w++r).dropWhile p=r
 | [],r,_,h=>by
  cases r with
  | nil=>exact⟨rfl,rfl⟩
  | cons c r=>
   have:=h c rfl;simp[this]
 | a::w,r,ha,h=>by
  simp only[List.all_cons,Bool.and_eq_true] at ha;obtain⟨h1,h2⟩:=jN w r ha.2 h;constructor
  ·rw[List.cons_append,List.takeWhile_cons,if_pos ha.1,h1]
  ·rw[List.cons_append,List.dropWhile_cons,if_pos ha.1,h2]
def Tok (s:List UInt8)(k:Nat):Prop:=∀ r n,Stop r→Lx r n→Lx (s++r) (n+k)
theorem Tok.name {s:List UInt8}(h0:∃ c t,s=c::t∧isLet c=true)(h1:s.all fB=true)(h2:s.length≤16∨s∈rI):Tok s 1:=by
 intro r n hr hl;obtain⟨c,t,rfl,hc⟩:=h0;obtain⟨e1,e2⟩:=jN (c::t) r h1 fun x hx=>(hr x hx).1;rw[List.cons_append] at e1 e2 ⊢;exact Lx.nm hc (by rw[e1];exact h2) (by rw[e2];exact hl)
theorem Tok.num {s:List UInt8}(h0:s≠[])(h1:s.all cY=true)(h2:lh s<9223372036854775808):Tok s 1:=by
 intro r n hr hl
 cases s with
 | nil=>exact absurd rfl h0
 | cons c t=>
  have hd:∀ x,r.head? = some x→cY x=false:=fun x hx=>by
   have:=(hr x hx).1;simp only[fB,Bool.or_eq_false_iff] at this;exact this.2
  obtain⟨e1,e2⟩:=jN (c::t) r h1 hd;simp only[List.all_cons,Bool.and_eq_true] at h1;rw[List.cons_append] at e1 e2 ⊢;exact Lx.num h1.1 (by rw[e1];exact h2) (by rw[e2];exact hl)
theorem Lx.one {c:UInt8}{r:List UInt8}{n:Nat}(hc:c∈mb)(hr:∀ x,r.head? = some x→x≠61∧x≠47)(hl:Lx r n):Lx (c::r) (n+1):=by
 have hx:(∀ b,(c,b)∈rv→b=61):=by
  intro b hb;simp only[mb,List.mem_cons,List.not_mem_nil,or_false] at hc;rcases hc with rfl | rfl | rfl | rfl | rfl | rfl | rfl | rfl | rfl | rfl | rfl | rfl | rfl | rfl | rfl | rfl | rfl<;>simp_all [rv]
 have hs:tG (c::r)=1:=by
  cases r with
  | nil=>simp[tG,hc]
  | cons b t=>
   have hb:(c,b)∉rv:=fun h=>(hr b rfl).1 (hx b h);simp[tG,hc,hb]
 have h3:isLet c=false∧cY c=false∧iC c=false:=by
  simp only[mb,List.mem_cons,List.not_mem_nil,or_false] at hc;rcases hc with rfl | rfl | rfl | rfl | rfl | rfl | rfl | rfl | rfl | rfl | rfl | rfl | rfl | rfl | rfl | rfl | rfl<;>decide
 refine Lx.sg h3.1 h3.2.1 h3.2.2 (fun _ h=>(hr 47 h).2 rfl) (by rw[hs];exact Nat.one_pos) ?_;rw[hs];exact hl
theorem Lx.yp {c:UInt8}{r:List UInt8}{n:Nat}(hc:c∈mb)(h:c≠60∧c≠62∧c≠61∧c≠33∧c≠47)(hl:Lx r n):Lx (c::r) (n+1):=by
 have hs:tG (c::r)=1:=by
  cases r with
  | nil=>simp[tG,hc]
  | cons b t=>
   have hb:(c,b)∉rv:=by
    simp only[mb,List.mem_cons,List.not_mem_nil,or_false] at hc;rcases hc with rfl | rfl | rfl | rfl | rfl | rfl | rfl | rfl | rfl | rfl | rfl | rfl | rfl | rfl | rfl | rfl | rfl<;>simp_all [rv]
   simp[tG,hc,hb]
 have h3:isLet c=false∧cY c=false∧iC c=false:=by
  simp only[mb,List.mem_cons,List.not_mem_nil,or_false] at hc;rcases hc with rfl | rfl | rfl | rfl | rfl | rfl | rfl | rfl | rfl | rfl | rfl | rfl | rfl | rfl | rfl | rfl | rfl<;>decide
 refine Lx.sg h3.1 h3.2.1 h3.2.2 (fun e=>absurd e h.2.2.2.2) (by rw[hs];exact Nat.one_pos) ?_;rw[hs];exact hl
theorem Lx.two {a b:UInt8}{r:List UInt8}{n:Nat}(hc:(a,b)∈rv)(hl:Lx r n):Lx (a::b::r) (n+1):=by
 have hs:tG (a::b::r)=2:=by simp[tG,hc]
 have h3:isLet a=false∧cY a=false∧iC a=false∧a≠47:=by
  simp only[rv,List.mem_cons,List.not_mem_nil,or_false,Prod.mk.injEq] at hc;rcases hc with ⟨rfl,_⟩ | ⟨rfl,_⟩ | ⟨rfl,_⟩ | ⟨rfl,_⟩ | ⟨rfl,_⟩ | ⟨rfl,_⟩<;>decide
 refine Lx.sg h3.1 h3.2.1 h3.2.2.1 (fun e=>absurd e h3.2.2.2) (by rw[hs];omega) ?_;rw[hs];exact hl
theorem Stop.cons {c:UInt8}(r:List UInt8)(h:fB c=false∧c≠61∧c≠47):Stop (c::r):=by
 intro x hx;simp only[List.head?_cons,Option.some.injEq] at hx;exact hx ▸ h
theorem Lx.inv {c:UInt8}{r:List UInt8}{n:Nat}(h:Lx (c::r) n)(hs:iC c=false):∃ m,n=m+1∧
  ((isLet c=true∧(((c::r).takeWhile fB).length≤16∨(c::r).takeWhile fB∈rI)∧Lx ((c::r).dropWhile fB) m)∨
   (isLet c=false∧cY c=true∧lh ((c::r).takeWhile cY)<9223372036854775808∧Lx ((c::r).dropWhile cY) m)∨
   (isLet c=false∧cY c=false∧(c=47→r.head?≠some 47)∧0<tG (c::r)∧Lx ((c::r).drop (tG (c::r))) m)):=by
 cases h with
 | sp a _=>rw[a] at hs;cases hs
 | nm a b d=>exact⟨_,rfl,.inl ⟨a,b,d⟩⟩
 | num a b d=>
  have hn:isLet c=false:=by
   simp only[cY,Bool.and_eq_true,decide_eq_true_eq] at a;simp only[isLet,Bool.or_eq_false_iff,Bool.and_eq_false_iff,decide_eq_false_iff_not];omega
  exact⟨_,rfl,.inr (.inl ⟨hn,a,b,d⟩)⟩
 | sg a b d e f g=>exact⟨_,rfl,.inr (.inr ⟨a,b,e,f,g⟩)⟩
def qX (l:List UInt8):Nat:=(l.takeWhile iC).length
theorem Lx.skip {r:List UInt8}{n:Nat}(h:Lx r n):Lx (r.drop (qX r)) n:=by
 induction h with
 | nil n=>exact .nil n
 | @sp c r n a b ih=>
  have:qX (c::r)=qX r+1:=by simp[qX,a]
  rw[this,List.drop_succ_cons];exact ih
 | @nm c r n a b d _=>
  have hs:iC c=false:=by
   simp only[isLet,Bool.or_eq_true,Bool.and_eq_true,decide_eq_true_eq] at a
   cases h:iC c with
   | false=>rfl
   | true=>
    simp only[iC,Bool.or_eq_true,beq_iff_eq] at h;rcases h with ((rfl | rfl) | rfl) | rfl<;>revert a<;>decide
  have:qX (c::r)=0:=by simp[qX,hs]
  rw[this];exact .nm a b d
 | @num c r n a b d _=>
  have hs:iC c=false:=by
   simp only[cY,Bool.and_eq_true,decide_eq_true_eq] at a
   cases h:iC c with
   | false=>rfl
   | true=>
    simp only[iC,Bool.or_eq_true,beq_iff_eq] at h;rcases h with ((rfl | rfl) | rfl) | rfl<;>revert a<;>decide
  have:qX (c::r)=0:=by simp[qX,hs]
  rw[this];exact .num a b d
 | @sg c r n a b d e f g _=>
  have:qX (c::r)=0:=by simp[qX,d]
  rw[this];exact .sg a b d e f g
theorem zH {l:List UInt8}{c:UInt8}(h:(l.drop (qX l)).head? = some c):iC c=false:=by
 unfold qX at h
 induction l with
 | nil=>simp at h
 | cons a r ih=>
  cases ha:iC a with
  | true=>
   simp only[List.takeWhile_cons,ha,if_true,List.length_cons,List.drop_succ_cons] at h;exact ih h
  | false=>
   simp only[List.takeWhile_cons,ha] at h;simp at h;rw[← h];exact ha
def bs (s:ByteArray):List UInt8:=s.data.toList
theorem gB (a b:ByteArray):bs (a++b)=bs a++bs b:=by simp[bs,ByteArray.data_append]
theorem bs_mk (l:List UInt8):bs ⟨l.toArray⟩=l:=by simp[bs]
def j4 (n:Nat):ByteArray:=if n<10 then dY (48+n) else j4 (n / 10)++dY (48+n % 10)
termination_by n
decreasing_by omega
def kV (n:Int):ByteArray:=if n<0 then ⟨#[45]⟩++j4 (-n).toNat else j4 n.toNat
def mY (op:Nat):Nat:=if op=17 then 0 else if op=16 then 1 else if 10≤op∧op≤15 then 2 else if op=8∨op=9 then 3 else if 5≤op∧op≤7 then 4 else if op=3∨op=4 then 5 else 6
def Ex.lI:Ex→Nat
 | .zero=>0
 | .num _=>1
 | .nm _=>2
 | .un k _=>3+k
 | .bin k _ _=>5+k
 | .loc _=>18
 | .jX _=>19
def Ex.st (e:Ex):Nat:=mY e.lI
def sY (b:Bool)(x:ByteArray):ByteArray:=if b=true then ⟨#[40]⟩++x++⟨#[41]⟩ else x
def CN:List ByteArray:=[⟨#[42]⟩,⟨#[47]⟩,⟨#[37]⟩,⟨#[43]⟩,⟨#[45]⟩,⟨#[60]⟩,⟨#[60,61]⟩,⟨#[62]⟩,⟨#[62,61]⟩,⟨#[61,61]⟩,⟨#[33,61]⟩,⟨#[38,38]⟩,⟨#[124,124]⟩]
def iK:Ex→ByteArray
 | .num n=>j4 n
 | .nm s=>s
 | .un k e=>(if k=0 then ⟨#[45]⟩ else ⟨#[33]⟩)++sY (decide (e.st<5)) (iK e)
 | .bin k a b=>sY (decide (a.st<mY (5+k))) (iK a)++⟨#[32]⟩++CN.getD k ⟨#[]⟩++⟨#[32]⟩++sY (decide (b.st≤mY (5+k))) (iK b)
 | _=>⟨#[]⟩
def B8 (r:Rf):ByteArray:=match r.index with
 | none=>r.name
 | some e=>r.name++⟨#[91]⟩++iK e++⟨#[93]⟩
def NZ:Ar→ByteArray
 | .uX r=>⟨#[109,117,116,101,120,32]⟩++B8 r
 | .exp e=>iK e
def vG:Bool→List Ar→ByteArray
 | _,[]=>⟨#[]⟩
 | first,a::r=>(if first=true then ⟨#[]⟩ else ⟨#[44,32]⟩)++NZ a++vG false r
def tf (l:List Ar):ByteArray:=⟨#[40]⟩++vG true l++⟨#[41]⟩
def zC:ByteArray:=⟨#[118,97,114,32]⟩
def Gi:ByteArray:=⟨#[32,61,32]⟩
def iS:ByteArray:=⟨#[59]⟩
def M5:ByteArray:=⟨#[103,111,32]⟩
def wK:ByteArray:=⟨#[108,111,99,107,32]⟩
def nW:ByteArray:=⟨#[117,110,108,111,99,107,32]⟩
def M4:ByteArray:=⟨#[105,102,32]⟩
def xX:ByteArray:=⟨#[119,104,105,108,101,32]⟩
def qf:ByteArray:=⟨#[32,123,10]⟩
def kL:ByteArray:=⟨#[125]⟩
def zE:ByteArray:=⟨#[32,101,108,115,101,32,123,10]⟩
def I4:ByteArray:=⟨#[114,101,116,117,114,110,59]⟩
def tNl:ByteArray:=⟨#[10]⟩
def qd:ByteArray:=⟨#[9]⟩
mutual
def kM (N5:ByteArray):Sm→ByteArray
 | .gP s e=>zC++s++Gi++iK e++iS
 | .iy s e=>s++Gi++iK e++iS
 | .dU g s l=>(if g=true then M5++s else s)++tf l++iS
 | .dx u r=>(if u=true then nW else wK)++B8 r++iS
 | .lu e th el=>M4++iK e++qf++jc (N5++qd) th++N5++kL++(if el.length=0 then ⟨#[]⟩ else zE++jc (N5++qd) el++N5++kL)
 | .cE e th=>xX++iK e++qf++jc (N5++qd) th++N5++kL
 | .jm=>I4
def jc (N5:ByteArray):List Sm→ByteArray
 | []=>⟨#[]⟩
 | s::r=>N5++kM N5 s++tNl++jc N5 r
end
def KR (g:Gl):ByteArray:=zC++g.name++(if g.init=0 then ⟨#[]⟩ else Gi++kV g.init)++⟨#[59,10]⟩
def JK (m:Mx):ByteArray:=(if m.re=true then ⟨#[114]⟩ else ⟨#[]⟩)++⟨#[109,117,116,101,120,32]⟩++m.name++(if m.size=0 then ⟨#[]⟩ else ⟨#[91]⟩++kV m.size++⟨#[93]⟩)++⟨#[59,10]⟩
def uN:Bool→List Pm→ByteArray
 | _,[]=>⟨#[]⟩
 | first,p::r=>(if first=true then ⟨#[]⟩ else ⟨#[44,32]⟩)++(if p.mutex=true then ⟨#[109,117,116,101,120,32]⟩ else ⟨#[]⟩)++p.name++uN false r
def FP (f:Fu):ByteArray:=⟨#[102,117,110,99,32]⟩++f.name++⟨#[40]⟩++uN true f.params++⟨#[41,32,123,10]⟩++jc qd f.body++⟨#[125,10]⟩
def jx {α:Type}(f:α→ByteArray):List α→ByteArray
 | []=>⟨#[]⟩
 | a::r=>f a++jx f r
def ET (p:Pg):ByteArray:=jx KR p.gs++jx JK p.ms++jx FP p.fs
def dh (s:ByteArray):Prop:=(∃ c t,bs s=c::t∧isLet c=true)∧(bs s).all fB=true∧(bs s).length≤16
def ca (S:List UInt8→Prop)(s:ByteArray)(k b:Nat):Prop:=(bs s).length≤b∧∀ r n,S r→Lx r n→Lx (bs s++r) (n+k)
def Any (_:List UInt8):Prop:=True
theorem ca.app {S S':List UInt8→Prop}{s s':ByteArray}{k k' b b':Nat}(h:ca S s k b)(h':ca S' s' k' b')(hS:∀ r,S' r→S (bs s'++r)):ca S' (s++s') (k' + k) (b+b'):=by
 refine⟨by rw[gB,List.length_append];have:=h.1;have:=h'.1;omega,fun r n hr hl=>?_⟩;rw[gB,List.append_assoc,← Nat.add_assoc];exact h.2 _ _ (hS r hr) (h'.2 r n hr hl)
theorem ca.mono {S:List UInt8→Prop}{s:ByteArray}{k k' b b':Nat}(h:ca S s k b)(hk:k≤k')(hb:b≤b'):ca S s k' b':=
 ⟨Nat.le_trans h.1 hb,fun r n hr hl=>(h.2 r n hr hl).mono yA⟩
theorem ca.any {s:ByteArray}{k b:Nat}(h:ca Any s k b)(S:List UInt8→Prop):ca S s k b:=⟨h.1,fun r n _ hl=>h.2 r n trivial hl⟩
theorem ca.nil (S:List UInt8→Prop):ca S ⟨#[]⟩ 0 0:=⟨Nat.le_refl _,fun _ _ _ hl=>hl⟩
theorem ca.nm {s:ByteArray}(h:dh s):ca Stop s 1 16:=⟨h.2.2,Tok.name h.1 h.2.1 (.inl h.2.2)⟩
theorem ca.word {l:List UInt8}(h0:∃ c t,l=c::t∧isLet c=true)(h1:l.all fB=true)(h2:l.length≤16)(s:ByteArray)(hs:bs s=l++[32]):ca Any s 1 17:=by
 refine⟨by rw[hs];simp;omega,fun r n _ hl=>?_⟩;rw[hs,List.append_assoc];exact Tok.name h0 h1 (.inl h2) _ _ (Stop.cons _ Oi) (Lx.sp Oi hl)
theorem ca.sign {c:UInt8}(hc:c∈mb)(h:c≠60∧c≠62∧c≠61∧c≠33∧c≠47):ca Any ⟨#[c]⟩ 1 1:=⟨Nat.le_refl _,fun _ _ _ hl=>Lx.yp hc h hl⟩
theorem qK (n:Nat):bs (dY n)=[UInt8.ofNat n]:=rfl
theorem yU:∀ n:Nat,(bs (j4 n)).all cY=true∧bs (j4 n)≠[]∧lh (bs (j4 n))=n∧∀ b,n<10 ^ (b+1)→(bs (j4 n)).length≤b+1:=by
 intro n
 induction n using Nat.strongRecOn with
 | _ n ih=>
 have hd:∀ k,k<10→cY (UInt8.ofNat (48+k))=true∧(UInt8.ofNat (48+k)).toNat-48=k:=by decide
 rw[j4];split
 ·rename_i h;obtain⟨a,b⟩:=hd n h;refine⟨by rw[qK];simp only[List.all_cons,List.all_nil,a,Bool.and_self],by rw[qK];simp,by rw[qK];simp only[lh,List.foldl_cons,List.foldl_nil,b];omega,fun b hb=>by rw[qK];simp⟩
 ·rename_i h;obtain⟨a,b⟩:=hd (n % 10) yA;obtain⟨i1,i2,i3,i4⟩:=ih (n / 10) yA;rw[gB,qK];refine⟨by rw[List.all_append,i1];simp only[List.all_cons,List.all_nil,a,Bool.and_self],by simp,?_,fun b hb=>?_⟩
  ·unfold lh at i3 ⊢;rw[List.foldl_append,i3];simp only[List.foldl_cons,List.foldl_nil,b];omega
  ·cases b with
   | zero=>omega
   | succ b=>
    have:=i4 b (by rw[Nat.pow_succ] at hb;omega);simp;omega
theorem ca.dig {n:Nat}(h:n<9223372036854775808):ca Stop (j4 n) 1 19:=by
 obtain⟨i1,i2,i3,i4⟩:=yU n;exact⟨i4 18 yA,Tok.num i2 i1 (by rw[i3];exact h)⟩
def fK (ns:List ByteArray):Nat→Ex→Prop
 | _,.num n=>n<4611686018427387904
 | _,.nm s=>s∈ns
 | d+1,.un k e=>k<2∧fK ns d e
 | d+1,.bin k a b=>k<13∧fK ns d a∧fK ns d b
 | _,_=>False
def BB:Nat→Nat
 | 0=>1
 | d+1=>2*BB d+5
def Hd (s:ByteArray):Prop:=∃ c t,bs s=c::t∧c≠61∧c≠47
theorem Hd.app {s:ByteArray}(h:Hd s)(t:ByteArray):Hd (s++t):=by
 obtain⟨c,u,h1,h2⟩:=h;exact⟨c,u++bs t,by rw[gB,h1,List.cons_append],h2⟩
theorem Hd.nm {s:ByteArray}(h:dh s):Hd s:=by
 obtain⟨⟨c,t,h1,h2⟩,_⟩:=h;refine⟨c,t,h1,?_,?_⟩<;>rintro rfl<;>revert h2<;>decide
theorem Hd.dig (n:Nat):Hd (j4 n):=by
 obtain⟨i1,i2,_,_⟩:=yU n
 cases hb:bs (j4 n) with
 | nil=>exact absurd hb i2
 | cons c t=>
  rw[hb] at i1;simp only[List.all_cons,Bool.and_eq_true] at i1;refine⟨c,t,hb,?_,?_⟩<;>rintro rfl<;>have:=i1.1<;>revert this<;>decide
theorem Hd.par {s:ByteArray}(h:Hd s)(b:Bool):Hd (sY b s):=by
 unfold sY;split
 ·exact Hd.app (Hd.app ⟨40,[],rfl,by decide,by decide⟩ _) _
 ·exact h
theorem Hd.ex {ns:List ByteArray}(hn:∀ s∈ns,dh s):∀ (d:Nat) (e:Ex),fK ns d e→Hd (iK e)
 | _,.num n,_=>Hd.dig n
 | _,.nm s,h=>Hd.nm (hn s (by simpa [fK] using h))
 | d+1,.un k e,h=>by
  simp only[iK];refine Hd.app ?_ _;split
  ·exact⟨45,[],rfl,by decide,by decide⟩
  ·exact⟨33,[],rfl,by decide,by decide⟩
 | d+1,.bin k a b,h=>by
  simp only[fK] at h;simp only[iK];exact Hd.app (Hd.app (Hd.app (Hd.app (Hd.par (Hd.ex hn d a h.2.1) _) _) _) _) _
 | 0,.un _ _,h=>h.elim
 | 0,.bin _ _ _,h=>h.elim
 | 0,.zero,h=>h.elim
 | 0,.loc _,h=>h.elim
 | 0,.jX _,h=>h.elim
 | _+1,.zero,h=>h.elim
 | _+1,.loc _,h=>h.elim
 | _+1,.jX _,h=>h.elim
theorem ca.par {s:ByteArray}{k b:Nat}(h:ca Stop s k b)(c:Bool):ca Stop (sY c s) (k+2) (b+2):=by
 unfold sY;split
 ·have h1:=(ca.sign (c:=40) Oi Oi).app h fun _ _=>trivial;have h2:=h1.app (ca.sign (c:=41) Oi Oi) fun r _=>Stop.cons _ Oi;exact (h2.any Stop).mono yA yA
 ·exact h.mono yA yA
theorem ca.op {k:Nat}(hk:k<13):ca Any (⟨#[32]⟩++CN.getD k ⟨#[]⟩++⟨#[32]⟩) 1 4:=by
 refine⟨?_,fun r n _ hl=>?_⟩
 ·revert k;decide
 have SJ:Lx (32::r) n:=Lx.sp Oi hl;have h1:∀ c:UInt8,c∈mb→Lx (32::c::32::r) (n+1):=fun c hc=>Lx.sp Oi (Lx.one hc N3 SJ);have h2:∀ a b:UInt8,(a,b)∈rv→Lx (32::a::b::32::r) (n+1):=fun a b hc=>Lx.sp Oi (Lx.two hc SJ)
 match k,hk with
 | 0,_=>exact h1 42 Oi
 | 1,_=>exact h1 47 Oi
 | 2,_=>exact h1 37 Oi
 | 3,_=>exact h1 43 Oi
 | 4,_=>exact h1 45 Oi
 | 5,_=>exact h1 60 Oi
 | 6,_=>exact h2 60 61 Oi
 | 7,_=>exact h1 62 Oi
 | 8,_=>exact h2 62 61 Oi
 | 9,_=>exact h2 61 61 Oi
 | 10,_=>exact h2 33 61 Oi
 | 11,_=>exact h2 38 38 Oi
 | 12,_=>exact h2 124 124 Oi
theorem tY (d:Nat):1≤BB d:=by cases d<;>simp[BB]
theorem ca.ex {ns:List ByteArray}(hn:∀ s∈ns,dh s):∀ (d:Nat) (e:Ex),fK ns d e→ca Stop (iK e) (BB d) (24*BB d)
 | d,.num n,h=>by
  have h1:n<4611686018427387904:=by simpa [fK] using h
  have:=tY d;exact (ca.dig (n:=n) yA).mono yA yA
 | d,.nm s,h=>by
  have:=tY d;exact (ca.nm (hn s (by simpa [fK] using h))).mono yA yA
 | d+1,.un k e,h=>by
  simp only[fK] at h;have h1:=(ca.ex hn d e h.2).par (decide (e.st<5));have hh:=Hd.par (Hd.ex hn d e h.2) (decide (e.st<5));simp only[iK];have:=tY d;split
  ·exact ((ca.sign (c:=45) Oi Oi).app h1 fun _ _=>trivial).mono TU TU
  ·refine⟨?_,fun r n hr hl=>?_⟩
   ·rw[gB,List.length_append];have:=h1.1;simp only[BB];show 1+_≤_;omega
   ·rw[gB];have h2:=h1.2 r n hr hl;obtain⟨c,t,e1,e2⟩:=hh;rw[List.append_assoc];rw[e1] at h2 ⊢;exact (Lx.one (c:=33) Oi (by rintro x hx;simp at hx;exact hx ▸ e2) h2).mono TU
 | d+1,.bin k a b,h=>by
  simp only[fK] at h;have ha:=(ca.ex hn d a h.2.1).par (decide (a.st<mY (5+k)));have hb:=(ca.ex hn d b h.2.2).par (decide (b.st≤mY (5+k)));have ho:=ca.op h.1;have h1:=(ha.app ho fun r _=>by
   rw[gB,gB];exact Stop.cons _ Oi).app hb fun _ _=>trivial
  simp only[iK,ByteArray.append_assoc] at h1 ⊢;have:=tY d;exact h1.mono TU TU
 | 0,.un _ _,h=>h.elim
 | 0,.bin _ _ _,h=>h.elim
 | 0,.zero,h=>h.elim
 | 0,.loc _,h=>h.elim
 | 0,.jX _,h=>h.elim
 | _+1,.zero,h=>h.elim
 | _+1,.loc _,h=>h.elim
 | _+1,.jX _,h=>h.elim
end Go.aN
