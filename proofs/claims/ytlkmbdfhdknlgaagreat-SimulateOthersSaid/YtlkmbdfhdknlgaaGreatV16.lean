/- Contracts with known resul -/
import Derived.Test.YtlkmbdfhdknlgaaGreatV15
namespace Go.Can
open List
@[reducible] def jk (r0:CV)(H:List (Nat×Ob))(n:Nat):CV->St->Prop:=λ r s=>r=r0/\s.heap=H/\s.nx=n
section
variable {P:Program}{C:Cx}{s:St}{ops:Array Oper}{av:List (Nat×TI)}
theorem TL.di (RQ:aD P av){o:Oper}{l:List Oper}{c:Call}{g:FuncId}{cs:List CV}{K:St->Prop}{r0:CV}{H1:List (Nat×Ob)}(ks:List Nat){H:List (Nat×Ob)}(n:Nat)(hb:Body P av g cs H n (jk r0 H1 n))(hd:bl C.nt o.dst=true)(hg:bW ops s o=Option.some true)(ho:o.op=.call c)(Pc:bJ s c=Option.some (g,cs))
  (hp:eK s.heap ks=Option.some H) (hn:n<=s.nx) (ha:aX n cs=true) (hH:dq n H=true) (hk:mD ks H1=true)
  (hK:TL P C ops l (St.put ⟨s.env,H1++ec s.heap ks,s.nx⟩ o.dst r0) K):TL P C ops (o::l) s K:=
 TL.IA RQ ks n hd hg ho Pc hp hn ha hH hb (λ r s1 h=>⟨h.2.2,by rw[h.2.1];exact hk⟩) λ r s1 h=>by rw[h.1,h.2.1];exact hK
variable {W:List rz}{nt N:Nat}{dyn:List (Nat×Nat)}{K:St->Prop}{i:Nat}{r:List Nat}{res:Nat->Er}
theorem RX.di {o:Oper}{cl:Call}{g:FuncId}{cs:List CV}{r0:CV}{H1:List (Nat×Ob)}(ks g8:List Nat){H:List (Nat×Ob)}(n:Nat)(hb:Body P av g cs H n (jk r0 H1 n))(hi:ops[i]? = Option.some o)(hd:bl nt o.dst=true)(hg:bW ops s o=Option.some true)(hu:cB o=Option.some cl)(Pc:bJ s cl=Option.some (g,cs))
  (hp:eK s.heap ks=Option.some H) (hn:n<=s.nx) (ha:aX n cs=true) (hH:dq n H=true) (hk:mD ks H1=true) (hv:zy dyn res i ks=true) (hc:(g8.all λ p=>ks.contains p)=true) (hs:∀ p∈ks,p∉g8->assoc H1 p=assoc H p)
  (hK:um W dyn res i (qd r0 ks g8 H1)/\mr av W nt ops N dyn (Cq P av W nt ops N dyn K) r (note dyn res i (qd r0 ks g8 H1)) (St.put ⟨s.env,H1++ec s.heap ks,s.nx⟩ o.dst r0)):RX P av W nt ops N dyn K (i::r) res s:=by
 refine RX.IA ks g8 n hi hd hg hu Pc hp hn ha hH hb hv hc (λ v s1 h=>⟨h.2.2,by rw[h.2.1];exact hk,λ p SR=>?_⟩) λ v s1 h=>by rw[h.1,h.2.1];exact hK
 rw[h.2.1];by_cases hm:p∈ks
 ·exact hs p hm SR
 ·obtain⟨i1,_⟩:=j5 hp;have h1:assoc H p=none:=by
   cases h2:assoc H p with
   | none=>rfl
   | some y=>exact (hm (i1 p y h2).1).elim
  have h2:assoc H1 p=none:=by
   cases h3:assoc H1 p with
   | none=>rfl
   | some y=>exact (hm (sf hk p y h3)).elim
  rw[h1,h2]
theorem Body.ret {f:FuncId}{args:List CV}{H:List (Nat×Ob)}{n:Nat}{R R':CV->St->Prop}(h:Body P av f args H n R)(hR:∀ r s,R r s->R' r s):Body P av f args H n R':=by
 obtain⟨fn,c,h1,h2,h3,h4,h5⟩:=h;have key:∀ (C:Cx) s,aa C (λ s'=>∃ r,bQ av fn s'=some r/\R r s') s->aa C (λ s'=>∃ r,bQ av fn s'=some r/\R' r s') s:=λ C s ⟨s',⟨r,q1,q2⟩,hl⟩=>⟨s',⟨r,q1,hR r s' q2⟩,hl⟩;refine⟨fn,c,h1,h2,h3,h4,λ C hC OR=>T.mono (h5 C hC OR) λ e s q=>?_⟩
 cases e with
 | normal=>exact key C s q
 | ret=>exact key C s q
 | _=>exact q
end
def oN:Option CV->List Nat
 | some v=>lz v
 | none=>[]
def oNO (s:St):Option Operand->List Nat
 | some x=>oN (ev s x)
 | none=>[]
theorem G2 (s:St)(op:Op):JG s op=op.operands.toList.flatMap λ x=>oN (ev s x):=rfl
theorem G1 (s:St)(t:TypeId)(x:Operand):JG s (.load t x)=oN (ev s x):=by
 rw[G2];exact append_nil _
theorem E4 (s:St)(t:TypeId)(x:Operand)(a b c:Option Operand):JG s (.slice t x a b c)=oN (ev s x)++oNO s a++oNO s b++oNO s c:=by
 rw[G2];cases a<;>cases b<;>cases c<;>simp[Op.operands,oNO]
@[simp] theorem e8 (a b:Nat):((a:Int) == (b:Int))=decide (a=b):=by
 by_cases h:a=b
 ·simp[h]
 ·have:¬ (a:Int)=(b:Int):=by omega
  simp only[h,decide_false];exact beq_eq_false_iff_ne.2 this
@[simp] theorem natbeq_0 (a:Nat):((a:Int) == 0)=decide (a=0):=e8 a 0
@[simp] theorem natbeq_1 (a:Nat):((a:Int) == 1)=decide (a=1):=e8 a 1
@[simp] theorem natbeq_2 (a:Nat):((a:Int) == 2)=decide (a=2):=e8 a 2
@[simp] theorem natbeq_3 (a:Nat):((a:Int) == 3)=decide (a=3):=e8 a 3
@[simp] theorem natbeq_4 (a:Nat):((a:Int) == 4)=decide (a=4):=e8 a 4
@[simp] theorem natbeq_5 (a:Nat):((a:Int) == 5)=decide (a=5):=e8 a 5
@[simp] theorem natbeq_6 (a:Nat):((a:Int) == 6)=decide (a=6):=e8 a 6
@[simp] theorem natbeq_7 (a:Nat):((a:Int) == 7)=decide (a=7):=e8 a 7
@[simp] theorem natbeq_8 (a:Nat):((a:Int) == 8)=decide (a=8):=e8 a 8
@[simp] theorem natbeq_9 (a:Nat):((a:Int) == 9)=decide (a=9):=e8 a 9
@[simp] theorem Ou (a:Nat):((a:Int) == 10)=decide (a=10):=e8 a 10
@[simp] theorem Ot (a:Nat):((a:Int) == 11)=decide (a=11):=e8 a 11
@[simp] theorem Oq (a:Nat):((a:Int) == 12)=decide (a=12):=e8 a 12
@[simp] theorem Oo (a:Nat):((a:Int) == 13)=decide (a=13):=e8 a 13
@[simp] theorem On (a:Nat):((a:Int) == 14)=decide (a=14):=e8 a 14
@[simp] theorem Om (a:Nat):((a:Int) == 15)=decide (a=15):=e8 a 15
@[simp] theorem Ol (a:Nat):((a:Int) == 16)=decide (a=16):=e8 a 16
@[simp] theorem Ok (a:Nat):((a:Int) == 17)=decide (a=17):=e8 a 17
@[simp] theorem Oj (a:Nat):((a:Int) == 18)=decide (a=18):=e8 a 18
@[simp] theorem Oi (a:Nat):((a:Int) == 19)=decide (a=19):=e8 a 19
@[simp] theorem natlt_2 (a:Nat):((a:Int)<2)=(a<2):=by rw[eq_iff_iff];omega
@[simp] theorem natle_2 (a:Nat):((a:Int)<=2)=(a<=2):=by rw[eq_iff_iff];omega
@[simp] theorem natgt_2 (a:Nat):(2<(a:Int))=(2<a):=by rw[eq_iff_iff];omega
@[simp] theorem natge_2 (a:Nat):(2<=(a:Int))=(2<=a):=by rw[eq_iff_iff];omega
@[simp] theorem nateq_2 (a:Nat):((a:Int)=2)=(a=2):=by rw[eq_iff_iff];omega
@[simp] theorem natlt_3 (a:Nat):((a:Int)<3)=(a<3):=by rw[eq_iff_iff];omega
@[simp] theorem natle_3 (a:Nat):((a:Int)<=3)=(a<=3):=by rw[eq_iff_iff];omega
@[simp] theorem natgt_3 (a:Nat):(3<(a:Int))=(3<a):=by rw[eq_iff_iff];omega
@[simp] theorem natge_3 (a:Nat):(3<=(a:Int))=(3<=a):=by rw[eq_iff_iff];omega
@[simp] theorem nateq_3 (a:Nat):((a:Int)=3)=(a=3):=by rw[eq_iff_iff];omega
@[simp] theorem natlt_4 (a:Nat):((a:Int)<4)=(a<4):=by rw[eq_iff_iff];omega
@[simp] theorem natle_4 (a:Nat):((a:Int)<=4)=(a<=4):=by rw[eq_iff_iff];omega
@[simp] theorem natgt_4 (a:Nat):(4<(a:Int))=(4<a):=by rw[eq_iff_iff];omega
@[simp] theorem natge_4 (a:Nat):(4<=(a:Int))=(4<=a):=by rw[eq_iff_iff];omega
@[simp] theorem nateq_4 (a:Nat):((a:Int)=4)=(a=4):=by rw[eq_iff_iff];omega
@[simp] theorem natlt_5 (a:Nat):((a:Int)<5)=(a<5):=by rw[eq_iff_iff];omega
@[simp] theorem natle_5 (a:Nat):((a:Int)<=5)=(a<=5):=by rw[eq_iff_iff];omega
@[simp] theorem natgt_5 (a:Nat):(5<(a:Int))=(5<a):=by rw[eq_iff_iff];omega
@[simp] theorem natge_5 (a:Nat):(5<=(a:Int))=(5<=a):=by rw[eq_iff_iff];omega
@[simp] theorem nateq_5 (a:Nat):((a:Int)=5)=(a=5):=by rw[eq_iff_iff];omega
@[simp] theorem natlt_6 (a:Nat):((a:Int)<6)=(a<6):=by rw[eq_iff_iff];omega
@[simp] theorem natle_6 (a:Nat):((a:Int)<=6)=(a<=6):=by rw[eq_iff_iff];omega
@[simp] theorem natgt_6 (a:Nat):(6<(a:Int))=(6<a):=by rw[eq_iff_iff];omega
@[simp] theorem natge_6 (a:Nat):(6<=(a:Int))=(6<=a):=by rw[eq_iff_iff];omega
@[simp] theorem nateq_6 (a:Nat):((a:Int)=6)=(a=6):=by rw[eq_iff_iff];omega
@[simp] theorem natlt_7 (a:Nat):((a:Int)<7)=(a<7):=by rw[eq_iff_iff];omega
@[simp] theorem natle_7 (a:Nat):((a:Int)<=7)=(a<=7):=by rw[eq_iff_iff];omega
@[simp] theorem natgt_7 (a:Nat):(7<(a:Int))=(7<a):=by rw[eq_iff_iff];omega
@[simp] theorem natge_7 (a:Nat):(7<=(a:Int))=(7<=a):=by rw[eq_iff_iff];omega
@[simp] theorem nateq_7 (a:Nat):((a:Int)=7)=(a=7):=by rw[eq_iff_iff];omega
@[simp] theorem natlt_8 (a:Nat):((a:Int)<8)=(a<8):=by rw[eq_iff_iff];omega
@[simp] theorem natle_8 (a:Nat):((a:Int)<=8)=(a<=8):=by rw[eq_iff_iff];omega
@[simp] theorem natgt_8 (a:Nat):(8<(a:Int))=(8<a):=by rw[eq_iff_iff];omega
@[simp] theorem natge_8 (a:Nat):(8<=(a:Int))=(8<=a):=by rw[eq_iff_iff];omega
@[simp] theorem nateq_8 (a:Nat):((a:Int)=8)=(a=8):=by rw[eq_iff_iff];omega
@[simp] theorem natlt_9 (a:Nat):((a:Int)<9)=(a<9):=by rw[eq_iff_iff];omega
@[simp] theorem natle_9 (a:Nat):((a:Int)<=9)=(a<=9):=by rw[eq_iff_iff];omega
@[simp] theorem natgt_9 (a:Nat):(9<(a:Int))=(9<a):=by rw[eq_iff_iff];omega
@[simp] theorem natge_9 (a:Nat):(9<=(a:Int))=(9<=a):=by rw[eq_iff_iff];omega
@[simp] theorem nateq_9 (a:Nat):((a:Int)=9)=(a=9):=by rw[eq_iff_iff];omega
@[simp] theorem natlt_10 (a:Nat):((a:Int)<10)=(a<10):=by rw[eq_iff_iff];omega
@[simp] theorem natle_10 (a:Nat):((a:Int)<=10)=(a<=10):=by rw[eq_iff_iff];omega
@[simp] theorem natgt_10 (a:Nat):(10<(a:Int))=(10<a):=by rw[eq_iff_iff];omega
@[simp] theorem natge_10 (a:Nat):(10<=(a:Int))=(10<=a):=by rw[eq_iff_iff];omega
@[simp] theorem nateq_10 (a:Nat):((a:Int)=10)=(a=10):=by rw[eq_iff_iff];omega
@[simp] theorem natlt_11 (a:Nat):((a:Int)<11)=(a<11):=by rw[eq_iff_iff];omega
@[simp] theorem natle_11 (a:Nat):((a:Int)<=11)=(a<=11):=by rw[eq_iff_iff];omega
@[simp] theorem natgt_11 (a:Nat):(11<(a:Int))=(11<a):=by rw[eq_iff_iff];omega
@[simp] theorem natge_11 (a:Nat):(11<=(a:Int))=(11<=a):=by rw[eq_iff_iff];omega
@[simp] theorem nateq_11 (a:Nat):((a:Int)=11)=(a=11):=by rw[eq_iff_iff];omega
@[simp] theorem natlt_12 (a:Nat):((a:Int)<12)=(a<12):=by rw[eq_iff_iff];omega
@[simp] theorem natle_12 (a:Nat):((a:Int)<=12)=(a<=12):=by rw[eq_iff_iff];omega
@[simp] theorem natgt_12 (a:Nat):(12<(a:Int))=(12<a):=by rw[eq_iff_iff];omega
@[simp] theorem natge_12 (a:Nat):(12<=(a:Int))=(12<=a):=by rw[eq_iff_iff];omega
@[simp] theorem nateq_12 (a:Nat):((a:Int)=12)=(a=12):=by rw[eq_iff_iff];omega
@[simp] theorem natlt_13 (a:Nat):((a:Int)<13)=(a<13):=by rw[eq_iff_iff];omega
@[simp] theorem natle_13 (a:Nat):((a:Int)<=13)=(a<=13):=by rw[eq_iff_iff];omega
@[simp] theorem natgt_13 (a:Nat):(13<(a:Int))=(13<a):=by rw[eq_iff_iff];omega
@[simp] theorem natge_13 (a:Nat):(13<=(a:Int))=(13<=a):=by rw[eq_iff_iff];omega
@[simp] theorem nateq_13 (a:Nat):((a:Int)=13)=(a=13):=by rw[eq_iff_iff];omega
@[simp] theorem natlt_14 (a:Nat):((a:Int)<14)=(a<14):=by rw[eq_iff_iff];omega
@[simp] theorem natle_14 (a:Nat):((a:Int)<=14)=(a<=14):=by rw[eq_iff_iff];omega
@[simp] theorem natgt_14 (a:Nat):(14<(a:Int))=(14<a):=by rw[eq_iff_iff];omega
@[simp] theorem natge_14 (a:Nat):(14<=(a:Int))=(14<=a):=by rw[eq_iff_iff];omega
@[simp] theorem nateq_14 (a:Nat):((a:Int)=14)=(a=14):=by rw[eq_iff_iff];omega
@[simp] theorem natlt_15 (a:Nat):((a:Int)<15)=(a<15):=by rw[eq_iff_iff];omega
@[simp] theorem natle_15 (a:Nat):((a:Int)<=15)=(a<=15):=by rw[eq_iff_iff];omega
@[simp] theorem natgt_15 (a:Nat):(15<(a:Int))=(15<a):=by rw[eq_iff_iff];omega
@[simp] theorem natge_15 (a:Nat):(15<=(a:Int))=(15<=a):=by rw[eq_iff_iff];omega
@[simp] theorem nateq_15 (a:Nat):((a:Int)=15)=(a=15):=by rw[eq_iff_iff];omega
@[simp] theorem natlt_16 (a:Nat):((a:Int)<16)=(a<16):=by rw[eq_iff_iff];omega
@[simp] theorem natle_16 (a:Nat):((a:Int)<=16)=(a<=16):=by rw[eq_iff_iff];omega
@[simp] theorem natgt_16 (a:Nat):(16<(a:Int))=(16<a):=by rw[eq_iff_iff];omega
@[simp] theorem natge_16 (a:Nat):(16<=(a:Int))=(16<=a):=by rw[eq_iff_iff];omega
@[simp] theorem nateq_16 (a:Nat):((a:Int)=16)=(a=16):=by rw[eq_iff_iff];omega
@[simp] theorem natlt_17 (a:Nat):((a:Int)<17)=(a<17):=by rw[eq_iff_iff];omega
@[simp] theorem natle_17 (a:Nat):((a:Int)<=17)=(a<=17):=by rw[eq_iff_iff];omega
@[simp] theorem natgt_17 (a:Nat):(17<(a:Int))=(17<a):=by rw[eq_iff_iff];omega
@[simp] theorem natge_17 (a:Nat):(17<=(a:Int))=(17<=a):=by rw[eq_iff_iff];omega
@[simp] theorem nateq_17 (a:Nat):((a:Int)=17)=(a=17):=by rw[eq_iff_iff];omega
@[simp] theorem natlt_18 (a:Nat):((a:Int)<18)=(a<18):=by rw[eq_iff_iff];omega
@[simp] theorem natle_18 (a:Nat):((a:Int)<=18)=(a<=18):=by rw[eq_iff_iff];omega
@[simp] theorem natgt_18 (a:Nat):(18<(a:Int))=(18<a):=by rw[eq_iff_iff];omega
@[simp] theorem natge_18 (a:Nat):(18<=(a:Int))=(18<=a):=by rw[eq_iff_iff];omega
@[simp] theorem nateq_18 (a:Nat):((a:Int)=18)=(a=18):=by rw[eq_iff_iff];omega
@[simp] theorem natlt_19 (a:Nat):((a:Int)<19)=(a<19):=by rw[eq_iff_iff];omega
@[simp] theorem natle_19 (a:Nat):((a:Int)<=19)=(a<=19):=by rw[eq_iff_iff];omega
@[simp] theorem natgt_19 (a:Nat):(19<(a:Int))=(19<a):=by rw[eq_iff_iff];omega
@[simp] theorem natge_19 (a:Nat):(19<=(a:Int))=(19<=a):=by rw[eq_iff_iff];omega
@[simp] theorem nateq_19 (a:Nat):((a:Int)=19)=(a=19):=by rw[eq_iff_iff];omega
@[simp] theorem natlt_20 (a:Nat):((a:Int)<20)=(a<20):=by rw[eq_iff_iff];omega
@[simp] theorem natle_20 (a:Nat):((a:Int)<=20)=(a<=20):=by rw[eq_iff_iff];omega
@[simp] theorem natgt_20 (a:Nat):(20<(a:Int))=(20<a):=by rw[eq_iff_iff];omega
@[simp] theorem natge_20 (a:Nat):(20<=(a:Int))=(20<=a):=by rw[eq_iff_iff];omega
@[simp] theorem nateq_20 (a:Nat):((a:Int)=20)=(a=20):=by rw[eq_iff_iff];omega
@[simp] theorem natlt_24 (a:Nat):((a:Int)<24)=(a<24):=by rw[eq_iff_iff];omega
@[simp] theorem natle_24 (a:Nat):((a:Int)<=24)=(a<=24):=by rw[eq_iff_iff];omega
@[simp] theorem natgt_24 (a:Nat):(24<(a:Int))=(24<a):=by rw[eq_iff_iff];omega
@[simp] theorem natge_24 (a:Nat):(24<=(a:Int))=(24<=a):=by rw[eq_iff_iff];omega
@[simp] theorem nateq_24 (a:Nat):((a:Int)=24)=(a=24):=by rw[eq_iff_iff];omega
@[simp] theorem natlt_26 (a:Nat):((a:Int)<26)=(a<26):=by rw[eq_iff_iff];omega
@[simp] theorem natle_26 (a:Nat):((a:Int)<=26)=(a<=26):=by rw[eq_iff_iff];omega
@[simp] theorem natgt_26 (a:Nat):(26<(a:Int))=(26<a):=by rw[eq_iff_iff];omega
@[simp] theorem natge_26 (a:Nat):(26<=(a:Int))=(26<=a):=by rw[eq_iff_iff];omega
@[simp] theorem nateq_26 (a:Nat):((a:Int)=26)=(a=26):=by rw[eq_iff_iff];omega
@[simp] theorem natlt_36 (a:Nat):((a:Int)<36)=(a<36):=by rw[eq_iff_iff];omega
@[simp] theorem natle_36 (a:Nat):((a:Int)<=36)=(a<=36):=by rw[eq_iff_iff];omega
@[simp] theorem natgt_36 (a:Nat):(36<(a:Int))=(36<a):=by rw[eq_iff_iff];omega
@[simp] theorem natge_36 (a:Nat):(36<=(a:Int))=(36<=a):=by rw[eq_iff_iff];omega
@[simp] theorem nateq_36 (a:Nat):((a:Int)=36)=(a=36):=by rw[eq_iff_iff];omega
@[simp] theorem nateq_1 (a:Nat):((a:Int)=1)=(a=1):=by rw[eq_iff_iff];omega
@[simp] theorem natlt_1 (a:Nat):((a:Int)<1)=(a<1):=by rw[eq_iff_iff];omega
@[simp] theorem OK (s:St)(o:Oper):yj [] s o=false:=rfl
@[simp] theorem WOk_e (W:List rz):Nz W []:=λ _ _ _ h=>by cases h
attribute [simp] Eu mr Cq um chk zy note Ce qd iY vJ Cv td
attribute [simp] Ec q8 bytesOf vT bW cB jE rh BL G3 G1 E4 oN oNO lz ru AA rmL OM nA qg Nj
mutual
theorem bq (n:Nat):∀ c:CV,tree c=true->aU n c=true
 | .bg _ _ _,h=>by simp[tree] at h
 | .ax _ _,h=>by simp[tree] at h
 | .iter _ _ _,h=>by simp[tree] at h
 | .mp _ _,h=>by simp[tree] at h
 | .agg cs,h=>by
  simp only[tree] at h;simp only[aU];exact bK n cs h
 | .fn _ cs,h=>by
  simp only[tree] at h;simp only[aU];exact bK n cs h
 | .iface _ cs,h=>by
  simp only[tree] at h;simp only[aU];exact bK n cs h
 | .bY cs,h=>by
  simp only[tree] at h;simp only[aU];exact bK n cs h
 | .int _ _,_=>rfl
 | .bool _,_=>rfl
 | .str _,_=>rfl
 | .au _ _,_=>rfl
 | .ak,_=>rfl
 | .de _,_=>rfl
 | .bM,_=>rfl
 | .cH,_=>rfl
 | .any,_=>rfl
theorem bK (n:Nat):∀ cs:List CV,trees cs=true->aX n cs=true
 | [],_=>rfl
 | c::cs,h=>by
  simp only[trees,Bool.and_eq_true] at h;simp only[aX,Bool.and_eq_true];exact⟨bq n c h.1,bK n cs h.2⟩
end
mutual
theorem mo (n:Nat):∀ c:CV,tree c=true->aP n c=true
 | .bg _ _ _,h=>by simp[tree] at h
 | .ax _ _,h=>by simp[tree] at h
 | .iter _ _ _,h=>by simp[tree] at h
 | .mp _ _,h=>by simp[tree] at h
 | .agg cs,h=>by
  simp only[tree] at h;simp only[aP];exact jl n cs h
 | .fn _ cs,h=>by
  simp only[tree] at h;simp only[aP];exact jl n cs h
 | .iface _ cs,h=>by
  simp only[tree] at h;simp only[aP];exact jl n cs h
 | .bY cs,h=>by
  simp only[tree] at h;simp only[aP];exact jl n cs h
 | .int _ _,_=>rfl
 | .bool _,_=>rfl
 | .str _,_=>rfl
 | .au _ _,_=>rfl
 | .ak,_=>rfl
 | .de _,_=>rfl
 | .bM,_=>rfl
 | .cH,_=>rfl
 | .any,_=>rfl
theorem jl (n:Nat):∀ cs:List CV,trees cs=true->dY n cs=true
 | [],_=>rfl
 | c::cs,h=>by
  simp only[trees,Bool.and_eq_true] at h;simp only[dY,Bool.and_eq_true];exact⟨mo n c h.1,jl n cs h.2⟩
end
def dE (o q:Nat):CV->CV
 | .bg p off n=>.bg (if p=o then q else p) off n
 | .ax p off=>.ax (if p=o then q else p) off
 | c=>c
def nC (o q:Nat):CV->Bool
 | .bg p _ _=>p != q
 | .ax p _=>p != q
 | c=>aP o c && aP q c
def kE (o q:Nat):CV->CV
 | .agg cs=>.agg (cs.map (dE o q))
 | c=>dE o q c
def zL (o q:Nat):CV->Bool
 | .agg cs=>cs.all (nC o q)
 | c=>nC o q c
def xv (o q:Nat):List (Nat×CV)->List (Nat×CV)
 | []=>[]
 | (t,c)::r=>(t,kE o q c)::xv o q r
def yQ (o q:Nat):List (Nat×Ob)->List (Nat×Ob)
 | []=>[]
 | (k,ob)::r=>(if k=o then q else k,⟨ob.elem,ob.sz,ob.cells.map (dE o q)⟩)::yQ o q r
def okH (o q:Nat):List (Nat×Ob)->Bool
 | []=>true
 | (_,ob)::r=>ob.cells.all (nC o q) && okH o q r
section
variable {P:Program}{C:Cx}{σ:Nat->Option OB}{s:St}{a:Act}{w:World}
theorem He (o q:Nat)(c:CV):one (dE o q c)=one c:=by cases c<;>rfl
theorem ry (o q:Nat)(cs:List CV):(cs.map (dE o q)).all one=cs.all one:=by
 induction cs with
 | nil=>rfl
 | cons c cs ih=>simp only[map_cons,all_cons,He,ih]
theorem VR.dE {F F':Nat->Prop}{σ':Nat->Option OB}{o q:Nat}(hk:cY w w F F')(hq:σ' q=σ o)(Pp:∀ p,p≠q->σ' p=σ p){c:CV}{v:Value}(O8:nC o q c=true)(h:VR w F σ c v):VR w F' σ' (dE o q c) v:=by
 have gen:aP q c=true->VR w F' σ' c v:=λ hn=>VR.bL hk _ _ (λ p hp=>Pp p λ e=>by subst e;rw[hn] at hp;cases hp) h
 cases c with
 | bg p off n=>
  simp only[nC,bne_iff_ne,ne_eq] at O8;simp only[Can.dE];split
  ·rename_i e;subst e;simp only[VR] at h |-;obtain⟨B,h1,h2⟩:=h;exact⟨B,by rw[hq];exact h1,h2⟩
  ·exact gen (by simpa [aP] using O8)
 | ax p off=>
  simp only[nC,bne_iff_ne,ne_eq] at O8;simp only[Can.dE];split
  ·rename_i e;subst e;simp only[VR] at h |-;obtain⟨B,b,h1,h2⟩:=h;exact⟨B,b,by rw[hq];exact h1,h2⟩
  ·exact gen (by simpa [aP] using O8)
 | _=>
  simp only[nC,Bool.and_eq_true] at O8;exact gen O8.2
theorem a7.dE {F F':Nat->Prop}{σ':Nat->Option OB}{o q:Nat}(hk:cY w w F F')(hq:σ' q=σ o)(Pp:∀ p,p≠q->σ' p=σ p):∀ {cs:List CV} {vs:List Value},cs.all (nC o q)=true->a7 w F σ cs vs->a7 w F' σ' (cs.map (Can.dE o q)) vs
 | [],_,_,h=>h
 | c::cs,_,O8,⟨v,r,e,h1,h2⟩=>by
  simp only[all_cons,Bool.and_eq_true] at O8;exact⟨v,r,e,VR.dE hk hq Pp O8.1 h1,a7.dE hk hq Pp O8.2 h2⟩
theorem VR.kE {F F':Nat->Prop}{σ':Nat->Option OB}{o q:Nat}(hk:cY w w F F')(hq:σ' q=σ o)(Pp:∀ p,p≠q->σ' p=σ p){c:CV}{v:Value}(O8:zL o q c=true)(h:VR w F σ c v):VR w F' σ' (kE o q c) v:=by
 cases c with
 | agg cs=>
  simp only[VR] at h;obtain⟨vs,h1,h2,h3⟩:=h;simp only[Can.kE,VR];exact⟨vs,h1,a7.dE hk hq Pp O8 h2,by rw[ry];exact h3⟩
 | _=>
  simp only[zL] at O8;simp only[Can.kE];exact VR.dE hk hq Pp O8 h
theorem sR (o q:Nat):∀ (e:List (Nat×CV)) (t:Nat) (c:CV),assoc (xv o q e) t=some c->∃ d,assoc e t=some d/\c=Can.kE o q d
 | [],_,_,h=>by simp[xv,assoc] at h
 | (k,d)::r,t,c,h=>by
  simp only[xv,assoc] at h |-;split at h
  ·rename_i e;rw[if_pos e];cases h;exact⟨d,rfl,rfl⟩
  ·rename_i e;rw[if_neg e];exact sR o q r t c h
theorem ke (o q:Nat):∀ (H:List (Nat×Ob)) (p:Nat) (ob:Ob),assoc H q=none->assoc (yQ o q H) p=some ob->∃ p' Pe,assoc H p'=some Pe/\p=(if p'=o then q else p')/\ob=⟨Pe.elem,Pe.sz,Pe.cells.map (Can.dE o q)⟩
 | [],_,_,_,h=>by simp[yQ,assoc] at h
 | (k,x)::r,p,ob,hq,h=>by
  by_cases hkq:k=q
  ·simp[assoc,hkq] at hq
  ·simp only[assoc,if_neg hkq] at hq;by_cases e:(if k=o then q else k)=p
   ·simp only[yQ,assoc,if_pos e,Option.some.injEq] at h;exact⟨k,x,by simp[assoc],e.symm,h.symm⟩
   ·simp only[yQ,assoc,if_neg e] at h;obtain⟨p',Pe,h1,h2,h3⟩:=ke o q r p ob hq h;refine⟨p',Pe,?_,h2,h3⟩;simp only[assoc];rw[if_neg λ e'=>e (by rw[h2,e'])];exact h1
theorem Hh (o q:Nat):∀ {H:List (Nat×Ob)},okH o q H=true->∀ p ob,assoc H p=some ob->ob.cells.all (nC o q)=true
 | [],_,p,ob,h=>by simp[assoc] at h
 | (k,x)::r,h,p,ob,hp=>by
  simp only[okH,Bool.and_eq_true] at h;simp only[assoc] at hp;split at hp
  ·cases hp;exact h.1
  ·exact Hh o q h.2 p ob hp
theorem Le.ph (o q:Nat){ob:Ob}(ho:assoc s.heap o=Option.some ob)(hq:assoc s.heap q=Option.none)(hn:C.n0<=q)(hx:q<s.nx)(he:(s.env.all λ x=>zL o q x.2)=true)(hH:okH o q s.heap=true):Le C s ⟨xv o q s.env,yQ o q s.heap,s.nx⟩:=by
 intro a w ⟨σ,h⟩;rw[all_eq_true] at he;obtain⟨σ',hσ⟩:∃ σ':Nat->Option OB,∀ x,σ' x=if x=q then σ o else σ x:=⟨_,λ _=>rfl⟩
 have s1:σ' q=σ o:=by rw[hσ,if_pos rfl]
 have s2:∀ p,p≠q->σ' p=σ p:=λ p hp=>by rw[hσ,if_neg hp]
 have s3:∀ p,p≠q->σ' (if p=o then q else p)=σ p:=λ p hp=>by
  split
  ·rename_i e;rw[s1,e]
  ·exact s2 p hp
 have Ua:∀ p x,assoc s.heap p=some x->p≠q:=λ p x hp e=>by rw[e,hq] at hp;cases hp
 have hF:∀ b,FB C σ' (yQ o q s.heap) b->FB C σ s.heap b:=by
  rintro b (hb | ⟨p,x,hp,hb⟩)
  ·exact .inl hb
  ·obtain⟨p',y,h1,h2,h3⟩:=ke o q s.heap p x hq hp;refine .inr ⟨p',y,h1,?_⟩;unfold a9 at hb |-;rwa [h2,s3 p' (Ua p' y h1)] at hb
 have hk:cY w w (FB C σ s.heap) (FB C σ' (yQ o q s.heap)):=cY.same hF;refine⟨σ',h.oz,h.tm,h.os,h.tape,h.output,h.size,h.frame,?_,?_,?_,?_,?_,h.low,?_⟩
 ·intro t c hc;obtain⟨d,hd,rfl⟩:=sR o q s.env t c hc;obtain⟨v,k1,k2⟩:=h.env t d hd;exact⟨v,k1,VR.kE hk s1 s2 (he _ (bF _ _ _ hd)) k2⟩
 ·intro p x hp;obtain⟨p',y,h1,h2,h3⟩:=ke o q s.heap p x hq hp;obtain⟨B,m1,m2,m3,m4,m5⟩:=h.obj p' y h1;subst h3;refine⟨B,by rw[h2,s3 p' (Ua p' y h1)];exact m1,m2,λ hb=>by simp[m3 hb],by simp only[ry];exact m4,λ b hb=>?_⟩;obtain⟨cur,n1,n2,n3,n4,n5,n6⟩:=m5 b hb;refine⟨cur,n1,n2,n3,n4,by simpa using n5,?_⟩;simp only[length_map];exact a7.dE hk s1 s2 (Hh o q hH p' y h1) n6
 ·intro p p1 x x1 b hp Ws hb Tg;obtain⟨p',y,h1,h2,h3⟩:=ke o q s.heap p x hq hp;obtain⟨p1',y1,g1,g2,g3⟩:=ke o q s.heap p1 x1 hq Ws;unfold a9 at hb Tg;rw[h2,s3 p' (Ua p' y h1)] at hb;rw[g2,s3 p1' (Ua p1' y1 g1)] at Tg;have:=h.inj p' p1' y y1 b h1 g1 hb Tg;rw[h2,g2,this]
 ·intro p hp;simp only at hp;rw[s2 p yA];exact h.nx p hp
 ·intro p hp;rw[s2 p yA];exact h.fX p hp
 ·intro p B b hp hB hb;by_cases e:p=q
  ·subst e;rw[s1] at hB;obtain⟨B',m1,_,_,_,m5⟩:=h.obj o ob ho;rw[m1] at hB;cases hB;obtain⟨cur,_,_,_,n4,_⟩:=m5 b hb;exact n4
  ·rw[s2 p e] at hB;exact h.new p B b hp hB hb
@[simp] theorem ren1_int (o q:Nat)(k:IntKind)(n:Int):dE o q (.int k n)=(.int k n):=rfl
@[simp] theorem ok1_int (o q:Nat)(k:IntKind)(n:Int):nC o q (.int k n)=(aP o (.int k n) && aP q (.int k n)):=rfl
@[simp] theorem renC_int (o q:Nat)(k:IntKind)(n:Int):kE o q (.int k n)=(.int k n):=rfl
@[simp] theorem okC_int (o q:Nat)(k:IntKind)(n:Int):zL o q (.int k n)=(aP o (.int k n) && aP q (.int k n)):=rfl
@[simp] theorem N3 (o q:Nat)(b:Bool):dE o q (.bool b)=(.bool b):=rfl
@[simp] theorem ok1_bool (o q:Nat)(b:Bool):nC o q (.bool b)=(aP o (.bool b) && aP q (.bool b)):=rfl
@[simp] theorem NZ (o q:Nat)(b:Bool):kE o q (.bool b)=(.bool b):=rfl
@[simp] theorem okC_bool (o q:Nat)(b:Bool):zL o q (.bool b)=(aP o (.bool b) && aP q (.bool b)):=rfl
@[simp] theorem ren1_str (o q:Nat)(s:ByteArray):dE o q (.str s)=(.str s):=rfl
@[simp] theorem ok1_str (o q:Nat)(s:ByteArray):nC o q (.str s)=(aP o (.str s) && aP q (.str s)):=rfl
@[simp] theorem renC_str (o q:Nat)(s:ByteArray):kE o q (.str s)=(.str s):=rfl
@[simp] theorem okC_str (o q:Nat)(s:ByteArray):zL o q (.str s)=(aP o (.str s) && aP q (.str s)):=rfl
@[simp] theorem ren1_agg (o q:Nat)(cs:List CV):dE o q (.agg cs)=(.agg cs):=rfl
@[simp] theorem ok1_agg (o q:Nat)(cs:List CV):nC o q (.agg cs)=(aP o (.agg cs) && aP q (.agg cs)):=rfl
@[simp] theorem renC_agg (o q:Nat)(cs:List CV):kE o q (.agg cs)=.agg (cs.map (dE o q)):=rfl
@[simp] theorem okC_agg (o q:Nat)(cs:List CV):zL o q (.agg cs)=cs.all (nC o q):=rfl
@[simp] theorem ren1_tsl (o q:Nat)(cs:List CV)(n:Nat):dE o q (.au cs n)=(.au cs n):=rfl
@[simp] theorem ok1_tsl (o q:Nat)(cs:List CV)(n:Nat):nC o q (.au cs n)=(aP o (.au cs n) && aP q (.au cs n)):=rfl
@[simp] theorem renC_tsl (o q:Nat)(cs:List CV)(n:Nat):kE o q (.au cs n)=(.au cs n):=rfl
@[simp] theorem okC_tsl (o q:Nat)(cs:List CV)(n:Nat):zL o q (.au cs n)=(aP o (.au cs n) && aP q (.au cs n)):=rfl
@[simp] theorem Ml (o q:Nat)  : dE o q .ak=.ak:=rfl
@[simp] theorem N8 (o q:Nat)  : nC o q .ak=(aP o .ak && aP q .ak):=rfl
@[simp] theorem Mi (o q:Nat)  : kE o q .ak=.ak:=rfl
@[simp] theorem N5 (o q:Nat)  : zL o q .ak=(aP o .ak && aP q .ak):=rfl
@[simp] theorem N0 (o q:Nat)(cs:List CV):dE o q (.de cs)=(.de cs):=rfl
@[simp] theorem ok1_tptr (o q:Nat)(cs:List CV):nC o q (.de cs)=(aP o (.de cs) && aP q (.de cs)):=rfl
@[simp] theorem NX (o q:Nat)(cs:List CV):kE o q (.de cs)=(.de cs):=rfl
@[simp] theorem okC_tptr (o q:Nat)(cs:List CV):zL o q (.de cs)=(aP o (.de cs) && aP q (.de cs)):=rfl
@[simp] theorem K5 (o q:Nat)  : dE o q .bM=.bM:=rfl
@[simp] theorem MF (o q:Nat)  : nC o q .bM=(aP o .bM && aP q .bM):=rfl
@[simp] theorem K4 (o q:Nat)  : kE o q .bM=.bM:=rfl
@[simp] theorem ME (o q:Nat)  : zL o q .bM=(aP o .bM && aP q .bM):=rfl
@[simp] theorem ren1_fn (o q:Nat)(f:FuncId)(cs:List CV):dE o q (.fn f cs)=(.fn f cs):=rfl
@[simp] theorem ok1_fn (o q:Nat)(f:FuncId)(cs:List CV):nC o q (.fn f cs)=(aP o (.fn f cs) && aP q (.fn f cs)):=rfl
@[simp] theorem renC_fn (o q:Nat)(f:FuncId)(cs:List CV):kE o q (.fn f cs)=(.fn f cs):=rfl
@[simp] theorem okC_fn (o q:Nat)(f:FuncId)(cs:List CV):zL o q (.fn f cs)=(aP o (.fn f cs) && aP q (.fn f cs)):=rfl
@[simp] theorem Mm (o q:Nat)  : dE o q .cH=.cH:=rfl
@[simp] theorem N9 (o q:Nat)  : nC o q .cH=(aP o .cH && aP q .cH):=rfl
@[simp] theorem Mj (o q:Nat)  : kE o q .cH=.cH:=rfl
@[simp] theorem N6 (o q:Nat)  : zL o q .cH=(aP o .cH && aP q .cH):=rfl
@[simp] theorem Mn (o q:Nat)(t:TypeId)(cs:List CV):dE o q (.iface t cs)=(.iface t cs):=rfl
@[simp] theorem Oa (o q:Nat)(t:TypeId)(cs:List CV):nC o q (.iface t cs)=(aP o (.iface t cs) && aP q (.iface t cs)):=rfl
@[simp] theorem Mk (o q:Nat)(t:TypeId)(cs:List CV):kE o q (.iface t cs)=(.iface t cs):=rfl
@[simp] theorem N7 (o q:Nat)(t:TypeId)(cs:List CV):zL o q (.iface t cs)=(aP o (.iface t cs) && aP q (.iface t cs)):=rfl
@[simp] theorem ren1_tup (o q:Nat)(cs:List CV):dE o q (.bY cs)=(.bY cs):=rfl
@[simp] theorem ok1_tup (o q:Nat)(cs:List CV):nC o q (.bY cs)=(aP o (.bY cs) && aP q (.bY cs)):=rfl
@[simp] theorem renC_tup (o q:Nat)(cs:List CV):kE o q (.bY cs)=(.bY cs):=rfl
@[simp] theorem okC_tup (o q:Nat)(cs:List CV):zL o q (.bY cs)=(aP o (.bY cs) && aP q (.bY cs)):=rfl
@[simp] theorem ren1_osl (o q:Nat)(p f n:Nat):dE o q (.bg p f n)=.bg (if p=o then q else p) f n:=rfl
@[simp] theorem ok1_osl (o q:Nat)(p f n:Nat):nC o q (.bg p f n)=(p != q):=rfl
@[simp] theorem renC_osl (o q:Nat)(p f n:Nat):kE o q (.bg p f n)=.bg (if p=o then q else p) f n:=rfl
@[simp] theorem okC_osl (o q:Nat)(p f n:Nat):zL o q (.bg p f n)=(p != q):=rfl
@[simp] theorem N1 (o q:Nat)(p f:Nat):dE o q (.ax p f)=.ax (if p=o then q else p) f:=rfl
@[simp] theorem ok1_optr (o q:Nat)(p f:Nat):nC o q (.ax p f)=(p != q):=rfl
@[simp] theorem NY (o q:Nat)(p f:Nat):kE o q (.ax p f)=.ax (if p=o then q else p) f:=rfl
@[simp] theorem okC_optr (o q:Nat)(p f:Nat):zL o q (.ax p f)=(p != q):=rfl
@[simp] theorem ren1_any (o q:Nat)  : dE o q .any=.any:=rfl
@[simp] theorem ok1_any (o q:Nat)  : nC o q .any=(aP o .any && aP q .any):=rfl
@[simp] theorem renC_any (o q:Nat)  : kE o q .any=.any:=rfl
@[simp] theorem okC_any (o q:Nat)  : zL o q .any=(aP o .any && aP q .any):=rfl
attribute [simp] xv yQ okH
end
theorem cq {α:Type}{f:α->List CV}{n:Nat}(hf:∀ x,(f x).length=n){m:List α}{i:Nat}{e:α}(h:m[i]? = some e)(k:Nat)(hk:k<=n):(m.flatMap f).drop (i*n+k)=(f e).drop k++(m.drop (i+1)).flatMap f:=by
 rw[<- drop_drop,aH hf h,drop_append_of_le_length (by rw[hf];exact hk)]
theorem qI (o q:Nat)(c:CV)(h:tree c=true):nC o q c=true:=by
 cases c<;>first | (simp[tree] at h;done) | (simp only[nC,Bool.and_eq_true];exact⟨mo _ _ h,mo _ _ h⟩)
theorem E3 (o q:Nat)(c:CV)(h:tree c=true):dE o q c=c:=by
 cases c<;>first | (simp[tree] at h;done) | rfl
theorem iU {cs:List CV}(h:trees cs=true):∀ c∈cs,tree c=true:=by
 induction cs with
 | nil=>simp
 | cons c cs ih=>
  simp only[trees,Bool.and_eq_true] at h;intro x hx;rcases mem_cons.1 hx with rfl | hx
  ·exact h.1
  ·exact ih h.2 x hx
theorem aj {cs:List CV}(h:trees cs=true)(n:Nat):cs.all (aU n)=true:=all_eq_true.2 λ c hc=>bq n c (iU h c hc)
theorem bC {cs:List CV}(h:trees cs=true)(o q:Nat):cs.all (nC o q)=true:=all_eq_true.2 λ c hc=>qI o q c (iU h c hc)
theorem bm {cs:List CV}(h:trees cs=true)(o q:Nat):cs.map (dE o q)=cs:=by
 have:∀ c∈cs,dE o q c=id c:=λ c hc=>E3 o q c (iU h c hc);rw[map_congr_left this,map_id]
end Go.Can
