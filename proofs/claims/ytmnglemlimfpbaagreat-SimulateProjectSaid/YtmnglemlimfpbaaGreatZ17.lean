/- Contracts with known results; the walk's short forms. No fun -/
import Derived.Test.YtmnglemlimfpbaaGreatZ16
namespace Go.Can
@[reducible] def kk (r0:CV)(H:List (Nat×Ob))(n:Nat):CV→St→Prop:=fun r s=>r=r0∧s.heap=H∧s.nx=n
section
variable {P:Program}{C:Cx}{s:St}{ops:Array Oper}{aq:List (Nat×TI)}
theorem TL.cO (ht0:ay P aq){o:Oper}{l:List Oper}{c:Call}{g:FuncId}{cs:List CV}{K:St→Prop}{r0:CV}{H1:List (Nat×Ob)}(ks:List Nat){H:List (Nat×Ob)}(n:Nat)(hb:Body P aq g cs H n (kk r0 H1 n))(hd:aU C.nt o.dst=true)(hg:bU ops s o=Option.some true)(ho:o.op=.call c)(hca:bl s c=Option.some (g,cs))
  (hp:dZ s.heap ks=Option.some H) (hn:n≤s.nx) (ha:aQ n cs=true) (hH:de n H=true) (hk:j6 ks H1=true)
  (hK:TL P C ops l (St.put ⟨s.env,H1++dx s.heap ks,s.nx⟩ o.dst r0) K):TL P C ops (o::l) s K:=
 TL.Ht ht0 ks n hd hg ho hca hp hn ha hH hb (fun r s1 h=>⟨h.2.2,by rw[h.2.1];exact hk⟩) fun r s1 h=>by rw[h.1,h.2.1];exact hK
variable {nt N:Nat}{dyn:List (Nat×Nat)}{K:St→Prop}{i:Nat}{r:List Nat}{res:Nat→Er}
theorem RX.cO {o:Oper}{cl:Call}{g:FuncId}{cs:List CV}{r0:CV}{H1:List (Nat×Ob)}(ks chg:List Nat){H:List (Nat×Ob)}(n:Nat)(hb:Body P aq g cs H n (kk r0 H1 n))(hi:ops[i]? = Option.some o)(hd:aU nt o.dst=true)(hg:bU ops s o=Option.some true)(hu:cg o=Option.some cl)(hca:bl s cl=Option.some (g,cs))
  (hp:dZ s.heap ks=Option.some H) (hn:n≤s.nx) (ha:aQ n cs=true) (hH:de n H=true) (hk:j6 ks H1=true) (hv:yU dyn res i ks=true) (hc:(chg.all fun p=>ks.contains p)=true) (hs:∀ p∈ks,p∉chg→assoc H1 p=assoc H p)
  (hK:EV dyn res i (iR r0 ks chg H1)=true∧px aq nt ops N dyn (FH P aq nt ops N dyn K) r (note dyn res i (iR r0 ks chg H1)) (St.put ⟨s.env,H1++dx s.heap ks,s.nx⟩ o.dst r0)):RX P aq nt ops N dyn K (i::r) res s:=by
 refine RX.Ht ks chg n hi hd hg hu hca hp hn ha hH hb hv hc (fun v s1 h=>⟨h.2.2,by rw[h.2.1];exact hk,fun p hp'=>?_⟩) fun v s1 h=>by rw[h.1,h.2.1];exact hK
 rw[h.2.1]
 by_cases hm:p∈ks
 ·exact hs p hm hp'
 ·obtain⟨i1,_⟩:=jU hp
  have h1:assoc H p=none:=by
   cases h2:assoc H p with
   | none=>rfl
   | some y=>exact (hm (i1 p y h2).1).elim
  have h2:assoc H1 p=none:=by
   cases h3:assoc H1 p with
   | none=>rfl
   | some y=>exact (hm (rq hk p y h3)).elim
  rw[h1,h2]
theorem Body.ret {f:FuncId}{args:List CV}{H:List (Nat×Ob)}{n:Nat}{R R':CV→St→Prop}(h:Body P aq f args H n R)(hR:∀ r s,R r s→R' r s):Body P aq f args H n R':=by
 obtain⟨fn,c,h1,h2,h3,h4,h5⟩:=h
 have key:∀ (C:Cx) s,aa C (fun s'=>∃ r,bw aq fn s'=some r∧R r s') s→aa C (fun s'=>∃ r,bw aq fn s'=some r∧R' r s') s:=fun C s ⟨s',⟨r,q1,q2⟩,hl⟩=>⟨s',⟨r,q1,hR r s' q2⟩,hl⟩
 refine⟨fn,c,h1,h2,h3,h4,fun C hC hC0=>T.mono (h5 C hC hC0) fun e s q=>?_⟩
 cases e with
 | normal=>exact key C s q
 | ret=>exact key C s q
 | _=>exact q
end
def oN:Option CV→List Nat
 | some v=>lj v
 | none=>[]
def oNO (s:St):Option Operand→List Nat
 | some x=>oN (ev s x)
 | none=>[]
theorem FP (s:St)(op:Op):Ij s op=op.operands.toList.flatMap fun x=>oN (ev s x):=rfl
theorem FO (s:St)(t:TypeId)(x:Operand):Ij s (.load t x)=oN (ev s x):=by
 rw[FP]
 exact List.append_nil _
theorem DV (s:St)(t:TypeId)(x:Operand)(a b c:Option Operand):Ij s (.slice t x a b c)=oN (ev s x)++oNO s a++oNO s b++oNO s c:=by
 rw[FP]
 cases a<;>cases b<;>cases c<;>simp[Op.operands,oNO]
@[simp] theorem eN (a b:Nat):((a:Int) == (b:Int))=decide (a=b):=by
 by_cases h:a=b
 ·simp[h]
 ·have:¬ (a:Int)=(b:Int):=by omega
  simp only[h,decide_false]
  exact beq_eq_false_iff_ne.2 this
@[simp] theorem natbeq_0 (a:Nat):((a:Int) == 0)=decide (a=0):=eN a 0
@[simp] theorem natbeq_1 (a:Nat):((a:Int) == 1)=decide (a=1):=eN a 1
@[simp] theorem natbeq_2 (a:Nat):((a:Int) == 2)=decide (a=2):=eN a 2
@[simp] theorem natbeq_3 (a:Nat):((a:Int) == 3)=decide (a=3):=eN a 3
@[simp] theorem natbeq_4 (a:Nat):((a:Int) == 4)=decide (a=4):=eN a 4
@[simp] theorem natbeq_5 (a:Nat):((a:Int) == 5)=decide (a=5):=eN a 5
@[simp] theorem natbeq_6 (a:Nat):((a:Int) == 6)=decide (a=6):=eN a 6
@[simp] theorem natbeq_7 (a:Nat):((a:Int) == 7)=decide (a=7):=eN a 7
@[simp] theorem natbeq_8 (a:Nat):((a:Int) == 8)=decide (a=8):=eN a 8
@[simp] theorem natbeq_9 (a:Nat):((a:Int) == 9)=decide (a=9):=eN a 9
@[simp] theorem Mk (a:Nat):((a:Int) == 10)=decide (a=10):=eN a 10
@[simp] theorem Mj (a:Nat):((a:Int) == 11)=decide (a=11):=eN a 11
@[simp] theorem Mi (a:Nat):((a:Int) == 12)=decide (a=12):=eN a 12
@[simp] theorem Mh (a:Nat):((a:Int) == 13)=decide (a=13):=eN a 13
@[simp] theorem Mg (a:Nat):((a:Int) == 14)=decide (a=14):=eN a 14
@[simp] theorem Mf (a:Nat):((a:Int) == 15)=decide (a=15):=eN a 15
@[simp] theorem Me (a:Nat):((a:Int) == 16)=decide (a=16):=eN a 16
@[simp] theorem Md (a:Nat):((a:Int) == 17)=decide (a=17):=eN a 17
@[simp] theorem Mc (a:Nat):((a:Int) == 18)=decide (a=18):=eN a 18
@[simp] theorem Mb (a:Nat):((a:Int) == 19)=decide (a=19):=eN a 19
@[simp] theorem natlt_2 (a:Nat):((a:Int)<2)=(a<2):=by rw[eq_iff_iff];omega
@[simp] theorem natle_2 (a:Nat):((a:Int)≤2)=(a≤2):=by rw[eq_iff_iff];omega
@[simp] theorem natgt_2 (a:Nat):(2<(a:Int))=(2<a):=by rw[eq_iff_iff];omega
@[simp] theorem natge_2 (a:Nat):(2≤(a:Int))=(2≤a):=by rw[eq_iff_iff];omega
@[simp] theorem nateq_2 (a:Nat):((a:Int)=2)=(a=2):=by rw[eq_iff_iff];omega
@[simp] theorem natlt_3 (a:Nat):((a:Int)<3)=(a<3):=by rw[eq_iff_iff];omega
@[simp] theorem natle_3 (a:Nat):((a:Int)≤3)=(a≤3):=by rw[eq_iff_iff];omega
@[simp] theorem natgt_3 (a:Nat):(3<(a:Int))=(3<a):=by rw[eq_iff_iff];omega
@[simp] theorem natge_3 (a:Nat):(3≤(a:Int))=(3≤a):=by rw[eq_iff_iff];omega
@[simp] theorem nateq_3 (a:Nat):((a:Int)=3)=(a=3):=by rw[eq_iff_iff];omega
@[simp] theorem natlt_4 (a:Nat):((a:Int)<4)=(a<4):=by rw[eq_iff_iff];omega
@[simp] theorem natle_4 (a:Nat):((a:Int)≤4)=(a≤4):=by rw[eq_iff_iff];omega
@[simp] theorem natgt_4 (a:Nat):(4<(a:Int))=(4<a):=by rw[eq_iff_iff];omega
@[simp] theorem natge_4 (a:Nat):(4≤(a:Int))=(4≤a):=by rw[eq_iff_iff];omega
@[simp] theorem nateq_4 (a:Nat):((a:Int)=4)=(a=4):=by rw[eq_iff_iff];omega
@[simp] theorem natlt_5 (a:Nat):((a:Int)<5)=(a<5):=by rw[eq_iff_iff];omega
@[simp] theorem natle_5 (a:Nat):((a:Int)≤5)=(a≤5):=by rw[eq_iff_iff];omega
@[simp] theorem natgt_5 (a:Nat):(5<(a:Int))=(5<a):=by rw[eq_iff_iff];omega
@[simp] theorem natge_5 (a:Nat):(5≤(a:Int))=(5≤a):=by rw[eq_iff_iff];omega
@[simp] theorem nateq_5 (a:Nat):((a:Int)=5)=(a=5):=by rw[eq_iff_iff];omega
@[simp] theorem natlt_6 (a:Nat):((a:Int)<6)=(a<6):=by rw[eq_iff_iff];omega
@[simp] theorem natle_6 (a:Nat):((a:Int)≤6)=(a≤6):=by rw[eq_iff_iff];omega
@[simp] theorem natgt_6 (a:Nat):(6<(a:Int))=(6<a):=by rw[eq_iff_iff];omega
@[simp] theorem natge_6 (a:Nat):(6≤(a:Int))=(6≤a):=by rw[eq_iff_iff];omega
@[simp] theorem nateq_6 (a:Nat):((a:Int)=6)=(a=6):=by rw[eq_iff_iff];omega
@[simp] theorem natlt_7 (a:Nat):((a:Int)<7)=(a<7):=by rw[eq_iff_iff];omega
@[simp] theorem natle_7 (a:Nat):((a:Int)≤7)=(a≤7):=by rw[eq_iff_iff];omega
@[simp] theorem natgt_7 (a:Nat):(7<(a:Int))=(7<a):=by rw[eq_iff_iff];omega
@[simp] theorem natge_7 (a:Nat):(7≤(a:Int))=(7≤a):=by rw[eq_iff_iff];omega
@[simp] theorem nateq_7 (a:Nat):((a:Int)=7)=(a=7):=by rw[eq_iff_iff];omega
@[simp] theorem natlt_8 (a:Nat):((a:Int)<8)=(a<8):=by rw[eq_iff_iff];omega
@[simp] theorem natle_8 (a:Nat):((a:Int)≤8)=(a≤8):=by rw[eq_iff_iff];omega
@[simp] theorem natgt_8 (a:Nat):(8<(a:Int))=(8<a):=by rw[eq_iff_iff];omega
@[simp] theorem natge_8 (a:Nat):(8≤(a:Int))=(8≤a):=by rw[eq_iff_iff];omega
@[simp] theorem nateq_8 (a:Nat):((a:Int)=8)=(a=8):=by rw[eq_iff_iff];omega
@[simp] theorem natlt_9 (a:Nat):((a:Int)<9)=(a<9):=by rw[eq_iff_iff];omega
@[simp] theorem natle_9 (a:Nat):((a:Int)≤9)=(a≤9):=by rw[eq_iff_iff];omega
@[simp] theorem natgt_9 (a:Nat):(9<(a:Int))=(9<a):=by rw[eq_iff_iff];omega
@[simp] theorem natge_9 (a:Nat):(9≤(a:Int))=(9≤a):=by rw[eq_iff_iff];omega
@[simp] theorem nateq_9 (a:Nat):((a:Int)=9)=(a=9):=by rw[eq_iff_iff];omega
@[simp] theorem natlt_10 (a:Nat):((a:Int)<10)=(a<10):=by rw[eq_iff_iff];omega
@[simp] theorem natle_10 (a:Nat):((a:Int)≤10)=(a≤10):=by rw[eq_iff_iff];omega
@[simp] theorem natgt_10 (a:Nat):(10<(a:Int))=(10<a):=by rw[eq_iff_iff];omega
@[simp] theorem natge_10 (a:Nat):(10≤(a:Int))=(10≤a):=by rw[eq_iff_iff];omega
@[simp] theorem nateq_10 (a:Nat):((a:Int)=10)=(a=10):=by rw[eq_iff_iff];omega
@[simp] theorem natlt_11 (a:Nat):((a:Int)<11)=(a<11):=by rw[eq_iff_iff];omega
@[simp] theorem natle_11 (a:Nat):((a:Int)≤11)=(a≤11):=by rw[eq_iff_iff];omega
@[simp] theorem natgt_11 (a:Nat):(11<(a:Int))=(11<a):=by rw[eq_iff_iff];omega
@[simp] theorem natge_11 (a:Nat):(11≤(a:Int))=(11≤a):=by rw[eq_iff_iff];omega
@[simp] theorem nateq_11 (a:Nat):((a:Int)=11)=(a=11):=by rw[eq_iff_iff];omega
@[simp] theorem natlt_12 (a:Nat):((a:Int)<12)=(a<12):=by rw[eq_iff_iff];omega
@[simp] theorem natle_12 (a:Nat):((a:Int)≤12)=(a≤12):=by rw[eq_iff_iff];omega
@[simp] theorem natgt_12 (a:Nat):(12<(a:Int))=(12<a):=by rw[eq_iff_iff];omega
@[simp] theorem natge_12 (a:Nat):(12≤(a:Int))=(12≤a):=by rw[eq_iff_iff];omega
@[simp] theorem nateq_12 (a:Nat):((a:Int)=12)=(a=12):=by rw[eq_iff_iff];omega
@[simp] theorem natlt_13 (a:Nat):((a:Int)<13)=(a<13):=by rw[eq_iff_iff];omega
@[simp] theorem natle_13 (a:Nat):((a:Int)≤13)=(a≤13):=by rw[eq_iff_iff];omega
@[simp] theorem natgt_13 (a:Nat):(13<(a:Int))=(13<a):=by rw[eq_iff_iff];omega
@[simp] theorem natge_13 (a:Nat):(13≤(a:Int))=(13≤a):=by rw[eq_iff_iff];omega
@[simp] theorem nateq_13 (a:Nat):((a:Int)=13)=(a=13):=by rw[eq_iff_iff];omega
@[simp] theorem natlt_14 (a:Nat):((a:Int)<14)=(a<14):=by rw[eq_iff_iff];omega
@[simp] theorem natle_14 (a:Nat):((a:Int)≤14)=(a≤14):=by rw[eq_iff_iff];omega
@[simp] theorem natgt_14 (a:Nat):(14<(a:Int))=(14<a):=by rw[eq_iff_iff];omega
@[simp] theorem natge_14 (a:Nat):(14≤(a:Int))=(14≤a):=by rw[eq_iff_iff];omega
@[simp] theorem nateq_14 (a:Nat):((a:Int)=14)=(a=14):=by rw[eq_iff_iff];omega
@[simp] theorem natlt_15 (a:Nat):((a:Int)<15)=(a<15):=by rw[eq_iff_iff];omega
@[simp] theorem natle_15 (a:Nat):((a:Int)≤15)=(a≤15):=by rw[eq_iff_iff];omega
@[simp] theorem natgt_15 (a:Nat):(15<(a:Int))=(15<a):=by rw[eq_iff_iff];omega
@[simp] theorem natge_15 (a:Nat):(15≤(a:Int))=(15≤a):=by rw[eq_iff_iff];omega
@[simp] theorem nateq_15 (a:Nat):((a:Int)=15)=(a=15):=by rw[eq_iff_iff];omega
@[simp] theorem natlt_16 (a:Nat):((a:Int)<16)=(a<16):=by rw[eq_iff_iff];omega
@[simp] theorem natle_16 (a:Nat):((a:Int)≤16)=(a≤16):=by rw[eq_iff_iff];omega
@[simp] theorem natgt_16 (a:Nat):(16<(a:Int))=(16<a):=by rw[eq_iff_iff];omega
@[simp] theorem natge_16 (a:Nat):(16≤(a:Int))=(16≤a):=by rw[eq_iff_iff];omega
@[simp] theorem nateq_16 (a:Nat):((a:Int)=16)=(a=16):=by rw[eq_iff_iff];omega
@[simp] theorem natlt_17 (a:Nat):((a:Int)<17)=(a<17):=by rw[eq_iff_iff];omega
@[simp] theorem natle_17 (a:Nat):((a:Int)≤17)=(a≤17):=by rw[eq_iff_iff];omega
@[simp] theorem natgt_17 (a:Nat):(17<(a:Int))=(17<a):=by rw[eq_iff_iff];omega
@[simp] theorem natge_17 (a:Nat):(17≤(a:Int))=(17≤a):=by rw[eq_iff_iff];omega
@[simp] theorem nateq_17 (a:Nat):((a:Int)=17)=(a=17):=by rw[eq_iff_iff];omega
@[simp] theorem natlt_18 (a:Nat):((a:Int)<18)=(a<18):=by rw[eq_iff_iff];omega
@[simp] theorem natle_18 (a:Nat):((a:Int)≤18)=(a≤18):=by rw[eq_iff_iff];omega
@[simp] theorem natgt_18 (a:Nat):(18<(a:Int))=(18<a):=by rw[eq_iff_iff];omega
@[simp] theorem natge_18 (a:Nat):(18≤(a:Int))=(18≤a):=by rw[eq_iff_iff];omega
@[simp] theorem nateq_18 (a:Nat):((a:Int)=18)=(a=18):=by rw[eq_iff_iff];omega
@[simp] theorem natlt_19 (a:Nat):((a:Int)<19)=(a<19):=by rw[eq_iff_iff];omega
@[simp] theorem natle_19 (a:Nat):((a:Int)≤19)=(a≤19):=by rw[eq_iff_iff];omega
@[simp] theorem natgt_19 (a:Nat):(19<(a:Int))=(19<a):=by rw[eq_iff_iff];omega
@[simp] theorem natge_19 (a:Nat):(19≤(a:Int))=(19≤a):=by rw[eq_iff_iff];omega
@[simp] theorem nateq_19 (a:Nat):((a:Int)=19)=(a=19):=by rw[eq_iff_iff];omega
@[simp] theorem natlt_20 (a:Nat):((a:Int)<20)=(a<20):=by rw[eq_iff_iff];omega
@[simp] theorem natle_20 (a:Nat):((a:Int)≤20)=(a≤20):=by rw[eq_iff_iff];omega
@[simp] theorem natgt_20 (a:Nat):(20<(a:Int))=(20<a):=by rw[eq_iff_iff];omega
@[simp] theorem natge_20 (a:Nat):(20≤(a:Int))=(20≤a):=by rw[eq_iff_iff];omega
@[simp] theorem nateq_20 (a:Nat):((a:Int)=20)=(a=20):=by rw[eq_iff_iff];omega
@[simp] theorem natlt_24 (a:Nat):((a:Int)<24)=(a<24):=by rw[eq_iff_iff];omega
@[simp] theorem natle_24 (a:Nat):((a:Int)≤24)=(a≤24):=by rw[eq_iff_iff];omega
@[simp] theorem natgt_24 (a:Nat):(24<(a:Int))=(24<a):=by rw[eq_iff_iff];omega
@[simp] theorem natge_24 (a:Nat):(24≤(a:Int))=(24≤a):=by rw[eq_iff_iff];omega
@[simp] theorem nateq_24 (a:Nat):((a:Int)=24)=(a=24):=by rw[eq_iff_iff];omega
@[simp] theorem natlt_26 (a:Nat):((a:Int)<26)=(a<26):=by rw[eq_iff_iff];omega
@[simp] theorem natle_26 (a:Nat):((a:Int)≤26)=(a≤26):=by rw[eq_iff_iff];omega
@[simp] theorem natgt_26 (a:Nat):(26<(a:Int))=(26<a):=by rw[eq_iff_iff];omega
@[simp] theorem natge_26 (a:Nat):(26≤(a:Int))=(26≤a):=by rw[eq_iff_iff];omega
@[simp] theorem nateq_26 (a:Nat):((a:Int)=26)=(a=26):=by rw[eq_iff_iff];omega
@[simp] theorem natlt_36 (a:Nat):((a:Int)<36)=(a<36):=by rw[eq_iff_iff];omega
@[simp] theorem natle_36 (a:Nat):((a:Int)≤36)=(a≤36):=by rw[eq_iff_iff];omega
@[simp] theorem natgt_36 (a:Nat):(36<(a:Int))=(36<a):=by rw[eq_iff_iff];omega
@[simp] theorem natge_36 (a:Nat):(36≤(a:Int))=(36≤a):=by rw[eq_iff_iff];omega
@[simp] theorem nateq_36 (a:Nat):((a:Int)=36)=(a=36):=by rw[eq_iff_iff];omega
@[simp] theorem nateq_1 (a:Nat):((a:Int)=1)=(a=1):=by rw[eq_iff_iff];omega
@[simp] theorem natlt_1 (a:Nat):((a:Int)<1)=(a<1):=by rw[eq_iff_iff];omega
attribute [simp] px FH EV yU note zj iR la ml BJ sq
attribute [simp] Dj qC bytesOf rD bU cg jz qD oc FQ FO DV oN oNO lj qH zW rmL Lu eX pP Lg
mutual
theorem a6 (n:Nat):∀ c:CV,tree c=true→a8 n c=true
 | .bx _ _ _,h=>by simp[tree] at h
 | .aw _ _,h=>by simp[tree] at h
 | .iter _ _ _,h=>by simp[tree] at h
 | .mp _ _,h=>by simp[tree] at h
 | .agg cs,h=>by
  simp only[tree] at h
  simp only[a8]
  exact gx n cs h
 | .fn _ cs,h=>by
  simp only[tree] at h
  simp only[a8]
  exact gx n cs h
 | .iface _ cs,h=>by
  simp only[tree] at h
  simp only[a8]
  exact gx n cs h
 | .cr cs,h=>by
  simp only[tree] at h
  simp only[a8]
  exact gx n cs h
 | .int _ _,_=>rfl
 | .bool _,_=>rfl
 | .str _,_=>rfl
 | .av _ _,_=>rfl
 | .ah,_=>rfl
 | .cM _,_=>rfl
 | .bm,_=>rfl
 | .cw,_=>rfl
 | .any,_=>rfl
theorem gx (n:Nat):∀ cs:List CV,trees cs=true→aQ n cs=true
 | [],_=>rfl
 | c::cs,h=>by
  simp only[trees,Bool.and_eq_true] at h
  simp only[aQ,Bool.and_eq_true]
  exact⟨a6 n c h.1,gx n cs h.2⟩
end
mutual
theorem mb (n:Nat):∀ c:CV,tree c=true→aF n c=true
 | .bx _ _ _,h=>by simp[tree] at h
 | .aw _ _,h=>by simp[tree] at h
 | .iter _ _ _,h=>by simp[tree] at h
 | .mp _ _,h=>by simp[tree] at h
 | .agg cs,h=>by
  simp only[tree] at h
  simp only[aF]
  exact jd n cs h
 | .fn _ cs,h=>by
  simp only[tree] at h
  simp only[aF]
  exact jd n cs h
 | .iface _ cs,h=>by
  simp only[tree] at h
  simp only[aF]
  exact jd n cs h
 | .cr cs,h=>by
  simp only[tree] at h
  simp only[aF]
  exact jd n cs h
 | .int _ _,_=>rfl
 | .bool _,_=>rfl
 | .str _,_=>rfl
 | .av _ _,_=>rfl
 | .ah,_=>rfl
 | .cM _,_=>rfl
 | .bm,_=>rfl
 | .cw,_=>rfl
 | .any,_=>rfl
theorem jd (n:Nat):∀ cs:List CV,trees cs=true→dJ n cs=true
 | [],_=>rfl
 | c::cs,h=>by
  simp only[trees,Bool.and_eq_true] at h
  simp only[dJ,Bool.and_eq_true]
  exact⟨mb n c h.1,jd n cs h.2⟩
end
def dj (o q:Nat):CV→CV
 | .bx p off n=>.bx (if p=o then q else p) off n
 | .aw p off=>.aw (if p=o then q else p) off
 | c=>c
def m8 (o q:Nat):CV→Bool
 | .bx p _ _=>p != q
 | .aw p _=>p != q
 | c=>aF o c && aF q c
def ky (o q:Nat):CV→CV
 | .agg cs=>.agg (cs.map (dj o q))
 | c=>dj o q c
def y9 (o q:Nat):CV→Bool
 | .agg cs=>cs.all (m8 o q)
 | c=>m8 o q c
def wO (o q:Nat):List (Nat×CV)→List (Nat×CV)
 | []=>[]
 | (t,c)::r=>(t,ky o q c)::wO o q r
def ye (o q:Nat):List (Nat×Ob)→List (Nat×Ob)
 | []=>[]
 | (k,ob)::r=>(if k=o then q else k,⟨ob.elem,ob.sz,ob.cells.map (dj o q)⟩)::ye o q r
def okH (o q:Nat):List (Nat×Ob)→Bool
 | []=>true
 | (_,ob)::r=>ob.cells.all (m8 o q) && okH o q r
section
variable {P:Program}{C:Cx}{σ:Nat→Option OB}{s:St}{a:Act}{w:World}
theorem F1 (o q:Nat)(c:CV):one (dj o q c)=one c:=by cases c<;>rfl
theorem qJ (o q:Nat)(cs:List CV):(cs.map (dj o q)).all one=cs.all one:=by
 induction cs with
 | nil=>rfl
 | cons c cs ih=>simp only[List.map_cons,List.all_cons,F1,ih]
theorem VR.dj {F F':Nat→Prop}{σ':Nat→Option OB}{o q:Nat}(hk:cF w w F F')(hq:σ' q=σ o)(hne:∀ p,p≠q→σ' p=σ p){c:CV}{v:Value}(hok:m8 o q c=true)(h:VR w F σ c v):VR w F' σ' (dj o q c) v:=by
 have gen:aF q c=true→VR w F' σ' c v:=fun hn=>VR.bp hk _ _ (fun p hp=>hne p fun e=>by subst e;rw[hn] at hp;cases hp) h
 cases c with
 | bx p off n=>
  simp only[m8,bne_iff_ne,ne_eq] at hok
  simp only[Can.dj]
  split
  ·rename_i e
   subst e
   simp only[VR] at h ⊢
   obtain⟨B,h1,h2⟩:=h
   exact⟨B,by rw[hq];exact h1,h2⟩
  ·exact gen (by simpa [aF] using hok)
 | aw p off=>
  simp only[m8,bne_iff_ne,ne_eq] at hok
  simp only[Can.dj]
  split
  ·rename_i e
   subst e
   simp only[VR] at h ⊢
   obtain⟨B,b,h1,h2⟩:=h
   exact⟨B,b,by rw[hq];exact h1,h2⟩
  ·exact gen (by simpa [aF] using hok)
 | _=>
  simp only[m8,Bool.and_eq_true] at hok
  exact gen hok.2
theorem aS.dj {F F':Nat→Prop}{σ':Nat→Option OB}{o q:Nat}(hk:cF w w F F')(hq:σ' q=σ o)(hne:∀ p,p≠q→σ' p=σ p):∀ {cs:List CV} {vs:List Value},cs.all (m8 o q)=true→aS w F σ cs vs→aS w F' σ' (cs.map (Can.dj o q)) vs
 | [],_,_,h=>h
 | c::cs,_,hok,⟨v,r,e,h1,h2⟩=>by
  simp only[List.all_cons,Bool.and_eq_true] at hok
  exact⟨v,r,e,VR.dj hk hq hne hok.1 h1,aS.dj hk hq hne hok.2 h2⟩
theorem VR.ky {F F':Nat→Prop}{σ':Nat→Option OB}{o q:Nat}(hk:cF w w F F')(hq:σ' q=σ o)(hne:∀ p,p≠q→σ' p=σ p){c:CV}{v:Value}(hok:y9 o q c=true)(h:VR w F σ c v):VR w F' σ' (ky o q c) v:=by
 cases c with
 | agg cs=>
  simp only[VR] at h
  obtain⟨vs,h1,h2,h3⟩:=h
  simp only[Can.ky,VR]
  exact⟨vs,h1,aS.dj hk hq hne hok h2,by rw[qJ];exact h3⟩
 | _=>
  simp only[y9] at hok
  simp only[Can.ky]
  exact VR.dj hk hq hne hok h
theorem rW (o q:Nat):∀ (e:List (Nat×CV)) (t:Nat) (c:CV),assoc (wO o q e) t=some c→∃ d,assoc e t=some d∧c=Can.ky o q d
 | [],_,_,h=>by simp[wO,assoc] at h
 | (k,d)::r,t,c,h=>by
  simp only[wO,assoc] at h ⊢
  split at h
  ·rename_i e
   rw[if_pos e]
   cases h
   exact⟨d,rfl,rfl⟩
  ·rename_i e
   rw[if_neg e]
   exact rW o q r t c h
theorem j3 (o q:Nat):∀ (H:List (Nat×Ob)) (p:Nat) (ob:Ob),assoc H q=none→assoc (ye o q H) p=some ob→∃ p' ob',assoc H p'=some ob'∧p=(if p'=o then q else p')∧ob=⟨ob'.elem,ob'.sz,ob'.cells.map (Can.dj o q)⟩
 | [],_,_,_,h=>by simp[ye,assoc] at h
 | (k,x)::r,p,ob,hq,h=>by
  by_cases hkq:k=q
  ·simp[assoc,hkq] at hq
  ·simp only[assoc,if_neg hkq] at hq
   by_cases e:(if k=o then q else k)=p
   ·simp only[ye,assoc,if_pos e,Option.some.injEq] at h
    exact⟨k,x,by simp[assoc],e.symm,h.symm⟩
   ·simp only[ye,assoc,if_neg e] at h
    obtain⟨p',ob',h1,h2,h3⟩:=j3 o q r p ob hq h
    refine⟨p',ob',?_,h2,h3⟩
    simp only[assoc]
    rw[if_neg fun e'=>e (by rw[h2,e'])]
    exact h1
theorem F5 (o q:Nat):∀ {H:List (Nat×Ob)},okH o q H=true→∀ p ob,assoc H p=some ob→ob.cells.all (m8 o q)=true
 | [],_,p,ob,h=>by simp[assoc] at h
 | (k,x)::r,h,p,ob,hp=>by
  simp only[okH,Bool.and_eq_true] at h
  simp only[assoc] at hp
  split at hp
  ·cases hp;exact h.1
  ·exact F5 o q h.2 p ob hp
theorem Le.oP (o q:Nat){ob:Ob}(ho:assoc s.heap o=Option.some ob)(hq:assoc s.heap q=Option.none)(hn:C.n0≤q)(hx:q<s.nx)(he:(s.env.all fun x=>y9 o q x.2)=true)(hH:okH o q s.heap=true):Le C s ⟨wO o q s.env,ye o q s.heap,s.nx⟩:=by
 intro a w ⟨σ,h⟩
 rw[List.all_eq_true] at he
 obtain⟨σ',hσ⟩:∃ σ':Nat→Option OB,∀ x,σ' x=if x=q then σ o else σ x:=⟨_,fun _=>rfl⟩
 have s1:σ' q=σ o:=by rw[hσ,if_pos rfl]
 have s2:∀ p,p≠q→σ' p=σ p:=fun p hp=>by rw[hσ,if_neg hp]
 have s3:∀ p,p≠q→σ' (if p=o then q else p)=σ p:=fun p hp=>by
  split
  ·rename_i e;rw[s1,e]
  ·exact s2 p hp
 have hdom:∀ p x,assoc s.heap p=some x→p≠q:=fun p x hp e=>by rw[e,hq] at hp;cases hp
 have hF:∀ b,FB C σ' (ye o q s.heap) b→FB C σ s.heap b:=by
  rintro b (hb | ⟨p,x,hp,hb⟩)
  ·exact .inl hb
  ·obtain⟨p',y,h1,h2,h3⟩:=j3 o q s.heap p x hq hp
   refine .inr ⟨p',y,h1,?_⟩
   unfold aV at hb ⊢
   rwa [h2,s3 p' (hdom p' y h1)] at hb
 have hk:cF w w (FB C σ s.heap) (FB C σ' (ye o q s.heap)):=cF.same hF
 refine⟨σ',h.nq,h.tm,h.os,h.tape,h.output,h.size,h.frame,?_,?_,?_,?_,?_,h.low,?_⟩
 ·intro t c hc
  obtain⟨d,hd,rfl⟩:=rW o q s.env t c hc
  obtain⟨v,k1,k2⟩:=h.env t d hd
  exact⟨v,k1,VR.ky hk s1 s2 (he _ (bB _ _ _ hd)) k2⟩
 ·intro p x hp
  obtain⟨p',y,h1,h2,h3⟩:=j3 o q s.heap p x hq hp
  obtain⟨B,m1,m2,m3,m4,m5⟩:=h.obj p' y h1
  subst h3
  refine⟨B,by rw[h2,s3 p' (hdom p' y h1)];exact m1,m2,fun hb=>by simp[m3 hb],by simp only[qJ];exact m4,fun b hb=>?_⟩
  obtain⟨cur,n1,n2,n3,n4,n5,n6⟩:=m5 b hb
  refine⟨cur,n1,n2,n3,n4,by simpa using n5,?_⟩
  simp only[List.length_map]
  exact aS.dj hk s1 s2 (F5 o q hH p' y h1) n6
 ·intro p p1 x x1 b hp hp1 hb hb1
  obtain⟨p',y,h1,h2,h3⟩:=j3 o q s.heap p x hq hp
  obtain⟨p1',y1,g1,g2,g3⟩:=j3 o q s.heap p1 x1 hq hp1
  unfold aV at hb hb1
  rw[h2,s3 p' (hdom p' y h1)] at hb
  rw[g2,s3 p1' (hdom p1' y1 g1)] at hb1
  have:=h.inj p' p1' y y1 b h1 g1 hb hb1
  rw[h2,g2,this]
 ·intro p hp
  simp only at hp
  rw[s2 p yA]
  exact h.nx p hp
 ·intro p hp
  rw[s2 p yA]
  exact h.fj p hp
 ·intro p B b hp hB hb
  by_cases e:p=q
  ·subst e
   rw[s1] at hB
   obtain⟨B',m1,_,_,_,m5⟩:=h.obj o ob ho
   rw[m1] at hB
   cases hB
   obtain⟨cur,_,_,_,n4,_⟩:=m5 b hb
   exact n4
  ·rw[s2 p e] at hB
   exact h.new p B b hp hB hb
@[simp] theorem ren1_int (o q:Nat)(k:IntKind)(n:Int):dj o q (.int k n)=(.int k n):=rfl
@[simp] theorem ok1_int (o q:Nat)(k:IntKind)(n:Int):m8 o q (.int k n)=(aF o (.int k n) && aF q (.int k n)):=rfl
@[simp] theorem renC_int (o q:Nat)(k:IntKind)(n:Int):ky o q (.int k n)=(.int k n):=rfl
@[simp] theorem okC_int (o q:Nat)(k:IntKind)(n:Int):y9 o q (.int k n)=(aF o (.int k n) && aF q (.int k n)):=rfl
@[simp] theorem LU (o q:Nat)(b:Bool):dj o q (.bool b)=(.bool b):=rfl
@[simp] theorem ok1_bool (o q:Nat)(b:Bool):m8 o q (.bool b)=(aF o (.bool b) && aF q (.bool b)):=rfl
@[simp] theorem LQ (o q:Nat)(b:Bool):ky o q (.bool b)=(.bool b):=rfl
@[simp] theorem okC_bool (o q:Nat)(b:Bool):y9 o q (.bool b)=(aF o (.bool b) && aF q (.bool b)):=rfl
@[simp] theorem ren1_str (o q:Nat)(s:ByteArray):dj o q (.str s)=(.str s):=rfl
@[simp] theorem ok1_str (o q:Nat)(s:ByteArray):m8 o q (.str s)=(aF o (.str s) && aF q (.str s)):=rfl
@[simp] theorem renC_str (o q:Nat)(s:ByteArray):ky o q (.str s)=(.str s):=rfl
@[simp] theorem okC_str (o q:Nat)(s:ByteArray):y9 o q (.str s)=(aF o (.str s) && aF q (.str s)):=rfl
@[simp] theorem ren1_agg (o q:Nat)(cs:List CV):dj o q (.agg cs)=(.agg cs):=rfl
@[simp] theorem ok1_agg (o q:Nat)(cs:List CV):m8 o q (.agg cs)=(aF o (.agg cs) && aF q (.agg cs)):=rfl
@[simp] theorem renC_agg (o q:Nat)(cs:List CV):ky o q (.agg cs)=.agg (cs.map (dj o q)):=rfl
@[simp] theorem okC_agg (o q:Nat)(cs:List CV):y9 o q (.agg cs)=cs.all (m8 o q):=rfl
@[simp] theorem ren1_tsl (o q:Nat)(cs:List CV)(n:Nat):dj o q (.av cs n)=(.av cs n):=rfl
@[simp] theorem ok1_tsl (o q:Nat)(cs:List CV)(n:Nat):m8 o q (.av cs n)=(aF o (.av cs n) && aF q (.av cs n)):=rfl
@[simp] theorem renC_tsl (o q:Nat)(cs:List CV)(n:Nat):ky o q (.av cs n)=(.av cs n):=rfl
@[simp] theorem okC_tsl (o q:Nat)(cs:List CV)(n:Nat):y9 o q (.av cs n)=(aF o (.av cs n) && aF q (.av cs n)):=rfl
@[simp] theorem Kq (o q:Nat)  : dj o q .ah=.ah:=rfl
@[simp] theorem L2 (o q:Nat)  : m8 o q .ah=(aF o .ah && aF q .ah):=rfl
@[simp] theorem Kn (o q:Nat)  : ky o q .ah=.ah:=rfl
@[simp] theorem LX (o q:Nat)  : y9 o q .ah=(aF o .ah && aF q .ah):=rfl
@[simp] theorem LR (o q:Nat)(cs:List CV):dj o q (.cM cs)=(.cM cs):=rfl
@[simp] theorem ok1_tptr (o q:Nat)(cs:List CV):m8 o q (.cM cs)=(aF o (.cM cs) && aF q (.cM cs)):=rfl
@[simp] theorem LO (o q:Nat)(cs:List CV):ky o q (.cM cs)=(.cM cs):=rfl
@[simp] theorem okC_tptr (o q:Nat)(cs:List CV):y9 o q (.cM cs)=(aF o (.cM cs) && aF q (.cM cs)):=rfl
@[simp] theorem Ju (o q:Nat)  : dj o q .bm=.bm:=rfl
@[simp] theorem KJ (o q:Nat)  : m8 o q .bm=(aF o .bm && aF q .bm):=rfl
@[simp] theorem Jt (o q:Nat)  : ky o q .bm=.bm:=rfl
@[simp] theorem KI (o q:Nat)  : y9 o q .bm=(aF o .bm && aF q .bm):=rfl
@[simp] theorem ren1_fn (o q:Nat)(f:FuncId)(cs:List CV):dj o q (.fn f cs)=(.fn f cs):=rfl
@[simp] theorem ok1_fn (o q:Nat)(f:FuncId)(cs:List CV):m8 o q (.fn f cs)=(aF o (.fn f cs) && aF q (.fn f cs)):=rfl
@[simp] theorem renC_fn (o q:Nat)(f:FuncId)(cs:List CV):ky o q (.fn f cs)=(.fn f cs):=rfl
@[simp] theorem okC_fn (o q:Nat)(f:FuncId)(cs:List CV):y9 o q (.fn f cs)=(aF o (.fn f cs) && aF q (.fn f cs)):=rfl
@[simp] theorem Kr (o q:Nat)  : dj o q .cw=.cw:=rfl
@[simp] theorem L3 (o q:Nat)  : m8 o q .cw=(aF o .cw && aF q .cw):=rfl
@[simp] theorem Ko (o q:Nat)  : ky o q .cw=.cw:=rfl
@[simp] theorem LY (o q:Nat)  : y9 o q .cw=(aF o .cw && aF q .cw):=rfl
@[simp] theorem Ks (o q:Nat)(t:TypeId)(cs:List CV):dj o q (.iface t cs)=(.iface t cs):=rfl
@[simp] theorem L4 (o q:Nat)(t:TypeId)(cs:List CV):m8 o q (.iface t cs)=(aF o (.iface t cs) && aF q (.iface t cs)):=rfl
@[simp] theorem Kp (o q:Nat)(t:TypeId)(cs:List CV):ky o q (.iface t cs)=(.iface t cs):=rfl
@[simp] theorem LZ (o q:Nat)(t:TypeId)(cs:List CV):y9 o q (.iface t cs)=(aF o (.iface t cs) && aF q (.iface t cs)):=rfl
@[simp] theorem ren1_tup (o q:Nat)(cs:List CV):dj o q (.cr cs)=(.cr cs):=rfl
@[simp] theorem ok1_tup (o q:Nat)(cs:List CV):m8 o q (.cr cs)=(aF o (.cr cs) && aF q (.cr cs)):=rfl
@[simp] theorem renC_tup (o q:Nat)(cs:List CV):ky o q (.cr cs)=(.cr cs):=rfl
@[simp] theorem okC_tup (o q:Nat)(cs:List CV):y9 o q (.cr cs)=(aF o (.cr cs) && aF q (.cr cs)):=rfl
@[simp] theorem ren1_osl (o q:Nat)(p f n:Nat):dj o q (.bx p f n)=.bx (if p=o then q else p) f n:=rfl
@[simp] theorem ok1_osl (o q:Nat)(p f n:Nat):m8 o q (.bx p f n)=(p != q):=rfl
@[simp] theorem renC_osl (o q:Nat)(p f n:Nat):ky o q (.bx p f n)=.bx (if p=o then q else p) f n:=rfl
@[simp] theorem okC_osl (o q:Nat)(p f n:Nat):y9 o q (.bx p f n)=(p != q):=rfl
@[simp] theorem LS (o q:Nat)(p f:Nat):dj o q (.aw p f)=.aw (if p=o then q else p) f:=rfl
@[simp] theorem ok1_optr (o q:Nat)(p f:Nat):m8 o q (.aw p f)=(p != q):=rfl
@[simp] theorem LP (o q:Nat)(p f:Nat):ky o q (.aw p f)=.aw (if p=o then q else p) f:=rfl
@[simp] theorem okC_optr (o q:Nat)(p f:Nat):y9 o q (.aw p f)=(p != q):=rfl
@[simp] theorem ren1_any (o q:Nat)  : dj o q .any=.any:=rfl
@[simp] theorem ok1_any (o q:Nat)  : m8 o q .any=(aF o .any && aF q .any):=rfl
@[simp] theorem renC_any (o q:Nat)  : ky o q .any=.any:=rfl
@[simp] theorem okC_any (o q:Nat)  : y9 o q .any=(aF o .any && aF q .any):=rfl
attribute [simp] wO ye okH
end
theorem cB {α:Type}{f:α→List CV}{n:Nat}(hf:∀ x,(f x).length=n){m:List α}{i:Nat}{e:α}(h:m[i]? = some e)(k:Nat)(hk:k≤n):(m.flatMap f).drop (i*n+k)=(f e).drop k++(m.drop (i+1)).flatMap f:=by
 rw[← List.drop_drop,aE hf h,List.drop_append_of_le_length (by rw[hf];exact hk)]
theorem qg (o q:Nat)(c:CV)(h:tree c=true):m8 o q c=true:=by
 cases c<;>first | (simp[tree] at h;done) | (simp only[m8,Bool.and_eq_true];exact⟨mb _ _ h,mb _ _ h⟩)
theorem DU (o q:Nat)(c:CV)(h:tree c=true):dj o q c=c:=by
 cases c<;>first | (simp[tree] at h;done) | rfl
theorem iB {cs:List CV}(h:trees cs=true):∀ c∈cs,tree c=true:=by
 induction cs with
 | nil=>simp
 | cons c cs ih=>
  simp only[trees,Bool.and_eq_true] at h
  intro x hx
  rcases List.mem_cons.1 hx with rfl | hx
  ·exact h.1
  ·exact ih h.2 x hx
theorem aj {cs:List CV}(h:trees cs=true)(n:Nat):cs.all (a8 n)=true:=List.all_eq_true.2 fun c hc=>a6 n c (iB h c hc)
theorem bh {cs:List CV}(h:trees cs=true)(o q:Nat):cs.all (m8 o q)=true:=List.all_eq_true.2 fun c hc=>qg o q c (iB h c hc)
theorem aY {cs:List CV}(h:trees cs=true)(o q:Nat):cs.map (dj o q)=cs:=by
 have:∀ c∈cs,dj o q c=id c:=fun c hc=>DU o q c (iB h c hc)
 rw[List.map_congr_left this,List.map_id]
end Go.Can
