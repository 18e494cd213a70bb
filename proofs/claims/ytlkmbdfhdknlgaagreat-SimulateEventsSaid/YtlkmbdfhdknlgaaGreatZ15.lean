/- Contracts with known resul -/
import Derived.Test.YtlkmbdfhdknlgaaGreatZ14
namespace Go.Can
open List
@[reducible] def jC (r0:CV)(H:List (Nat×Ob))(n:Nat):CV->St->Prop:=λ r s=>r=r0/\s.heap=H/\s.nx=n
section
variable {P:Program}{C:Cx}{s:St}{ops:Array Oper}{av:List (Nat×TI)}
theorem TL.cU (Uu:aD P av){o:Oper}{l:List Oper}{c:Call}{g:FuncId}{cs:List CV}{K:St->Prop}{r0:CV}{H1:List (Nat×Ob)}(ks:List Nat){H:List (Nat×Ob)}(n:Nat)(hb:Body P av g cs H n (jC r0 H1 n))(hd:bm C.nt o.dst=true)(hg:bY ops s o=Option.some true)(ho:o.op=.call c)(Se:bM s c=Option.some (g,cs))
  (hp:eZ s.heap ks=Option.some H) (hn:n<=s.nx) (ha:ba n cs=true) (hH:dh n H=true) (hk:nu ks H1=true)
  (hK:TL P C ops l (St.put ⟨s.env,H1++ep s.heap ks,s.nx⟩ o.dst r0) K):TL P C ops (o::l) s K:=
 TL.Lj Uu ks n hd hg ho Se hp hn ha hH hb (λ r s1 h=>⟨h.2.2,by rw[h.2.1];exact hk⟩) λ r s1 h=>by rw[h.1,h.2.1];exact hK
variable {W:List uI}{nt N:Nat}{dyn:List (Nat×Nat)}{K:St->Prop}{i:Nat}{r:List Nat}{res:Nat->Er}
theorem RX.cU {o:Oper}{cl:Call}{g:FuncId}{cs:List CV}{r0:CV}{H1:List (Nat×Ob)}(ks eT:List Nat){H:List (Nat×Ob)}(n:Nat)(hb:Body P av g cs H n (jC r0 H1 n))(hi:ops[i]? = Option.some o)(hd:bm nt o.dst=true)(hg:bY ops s o=Option.some true)(hu:ct o=Option.some cl)(Se:bM s cl=Option.some (g,cs))
  (hp:eZ s.heap ks=Option.some H) (hn:n<=s.nx) (ha:ba n cs=true) (hH:dh n H=true) (hk:nu ks H1=true) (hv:Bi dyn res i ks=true) (hc:(eT.all λ p=>ks.contains p)=true) (hs:∀ p∈ks,p∉eT->assoc H1 p=assoc H p)
  (hK:vu W dyn res i (qP r0 ks eT H1)/\nh av W nt ops N dyn (Ec P av W nt ops N dyn K) r (note dyn res i (qP r0 ks eT H1)) (St.put ⟨s.env,H1++ep s.heap ks,s.nx⟩ o.dst r0)):RX P av W nt ops N dyn K (i::r) res s:=by
 refine RX.Lj ks eT n hi hd hg hu Se hp hn ha hH hb hv hc (λ v s1 h=>⟨h.2.2,by rw[h.2.1];exact hk,λ p Wh=>?_⟩) λ v s1 h=>by rw[h.1,h.2.1];exact hK
 rw[h.2.1];by_cases hm:p∈ks
 ·exact hs p hm Wh
 ·obtain⟨i1,_⟩:=j9 hp;have h1:assoc H p=none:=by
   cases h2:assoc H p with
   | none=>rfl
   | some y=>exact (hm (i1 p y h2).1).elim
  have h2:assoc H1 p=none:=by
   cases h3:assoc H1 p with
   | none=>rfl
   | some y=>exact (hm (uh hk p y h3)).elim
  rw[h1,h2]
theorem Body.ret {f:FuncId}{args:List CV}{H:List (Nat×Ob)}{n:Nat}{R R':CV->St->Prop}(h:Body P av f args H n R)(hR:∀ r s,R r s->R' r s):Body P av f args H n R':=by
 obtain⟨fn,c,h1,h2,h3,h4,h5⟩:=h;have key:∀ (C:Cx) s,aa C (λ s'=>∃ r,bL av fn s'=some r/\R r s') s->aa C (λ s'=>∃ r,bL av fn s'=some r/\R' r s') s:=λ C s ⟨s',⟨r,q1,q2⟩,hl⟩=>⟨s',⟨r,q1,hR r s' q2⟩,hl⟩;refine⟨fn,c,h1,h2,h3,h4,λ C hC RR=>T.mono (h5 C hC RR) λ e s q=>?_⟩
 cases e with
 | normal=>exact key C s q
 | ret=>exact key C s q
 | _=>exact q
end
def oN:Option CV->List Nat
 | some v=>lY v
 | none=>[]
def oNO (s:St):Option Operand->List Nat
 | some x=>oN (ev s x)
 | none=>[]
theorem Ju (s:St)(op:Op):Mt s op=op.operands.toList.flatMap λ x=>oN (ev s x):=rfl
theorem Jt (s:St)(t:TypeId)(x:Operand):Mt s (.load t x)=oN (ev s x):=by
 rw[Ju];exact append_nil _
theorem Hq (s:St)(t:TypeId)(x:Operand)(a b c:Option Operand):Mt s (.slice t x a b c)=oN (ev s x)++oNO s a++oNO s b++oNO s c:=by
 rw[Ju];cases a<;>cases b<;>cases c<;>simp[Op.operands,oNO]
@[simp] theorem fv (a b:Nat):((a:Int) == (b:Int))=decide (a=b):=by
 by_cases h:a=b
 ·simp[h]
 ·have:¬ (a:Int)=(b:Int):=by omega
  simp only[h,decide_false];exact beq_eq_false_iff_ne.2 this
@[simp] theorem natbeq_0 (a:Nat):((a:Int) == 0)=decide (a=0):=fv a 0
@[simp] theorem natbeq_1 (a:Nat):((a:Int) == 1)=decide (a=1):=fv a 1
@[simp] theorem natbeq_2 (a:Nat):((a:Int) == 2)=decide (a=2):=fv a 2
@[simp] theorem natbeq_3 (a:Nat):((a:Int) == 3)=decide (a=3):=fv a 3
@[simp] theorem natbeq_4 (a:Nat):((a:Int) == 4)=decide (a=4):=fv a 4
@[simp] theorem natbeq_5 (a:Nat):((a:Int) == 5)=decide (a=5):=fv a 5
@[simp] theorem natbeq_6 (a:Nat):((a:Int) == 6)=decide (a=6):=fv a 6
@[simp] theorem natbeq_7 (a:Nat):((a:Int) == 7)=decide (a=7):=fv a 7
@[simp] theorem natbeq_8 (a:Nat):((a:Int) == 8)=decide (a=8):=fv a 8
@[simp] theorem natbeq_9 (a:Nat):((a:Int) == 9)=decide (a=9):=fv a 9
@[simp] theorem Rv (a:Nat):((a:Int) == 10)=decide (a=10):=fv a 10
@[simp] theorem Ru (a:Nat):((a:Int) == 11)=decide (a=11):=fv a 11
@[simp] theorem Rt (a:Nat):((a:Int) == 12)=decide (a=12):=fv a 12
@[simp] theorem Rs (a:Nat):((a:Int) == 13)=decide (a=13):=fv a 13
@[simp] theorem Rq (a:Nat):((a:Int) == 14)=decide (a=14):=fv a 14
@[simp] theorem Rp (a:Nat):((a:Int) == 15)=decide (a=15):=fv a 15
@[simp] theorem Ro (a:Nat):((a:Int) == 16)=decide (a=16):=fv a 16
@[simp] theorem Rn (a:Nat):((a:Int) == 17)=decide (a=17):=fv a 17
@[simp] theorem Rm (a:Nat):((a:Int) == 18)=decide (a=18):=fv a 18
@[simp] theorem Rl (a:Nat):((a:Int) == 19)=decide (a=19):=fv a 19
@[simp] theorem natlt_2 (a:Nat):((a:Int)<2)=(a<2):=by rw[eq_iff_iff];omega
@[simp] theorem natle_2 (a:Nat):((a:Int)<=2)=(a<=2):=by rw[eq_iff_iff];omega
@[simp] theorem natgt_2 (a:Nat):(2<(a:Int))=(2<a):=by rw[eq_iff_iff];omega
@[simp] theorem natge_2 (a:Nat):(2<=(a:Int))=(2<=a):=by rw[eq_iff_iff];omega
@[simp] theorem nateq_2 (a:Nat):((a:Int)=2)=(a=2):=by rw[eq_iff_iff];omega
@[simp] theorem natlt_3 (a:Nat):((a:Int)<3)=(a<3):=by rw[eq_iff_iff];omega
@[simp] theorem natle_3 (a:Nat):((a:Int)<=3)=(a<=3):=by rw[eq_iff_iff];omega
@[simp] theorem natgt_3 (a:Nat):(3<(a:Int))=(3<a):=by rw[eq_iff_iff];omega
@[simp] theorem natge_3 (a:Nat):(3<=(a:Int))=(3<=a):=by rw[eq_iff_iff];omega
@[simp] theorem nateq_3 (a:Nat):((a:Int)=3)=(a=3):=by rw[eq_iff_iff];omega
@[simp] theorem natlt_4 (a:Nat):((a:Int)<4)=(a<4):=by rw[eq_iff_iff];omega
@[simp] theorem natle_4 (a:Nat):((a:Int)<=4)=(a<=4):=by rw[eq_iff_iff];omega
@[simp] theorem natgt_4 (a:Nat):(4<(a:Int))=(4<a):=by rw[eq_iff_iff];omega
@[simp] theorem natge_4 (a:Nat):(4<=(a:Int))=(4<=a):=by rw[eq_iff_iff];omega
@[simp] theorem nateq_4 (a:Nat):((a:Int)=4)=(a=4):=by rw[eq_iff_iff];omega
@[simp] theorem natlt_5 (a:Nat):((a:Int)<5)=(a<5):=by rw[eq_iff_iff];omega
@[simp] theorem natle_5 (a:Nat):((a:Int)<=5)=(a<=5):=by rw[eq_iff_iff];omega
@[simp] theorem natgt_5 (a:Nat):(5<(a:Int))=(5<a):=by rw[eq_iff_iff];omega
@[simp] theorem natge_5 (a:Nat):(5<=(a:Int))=(5<=a):=by rw[eq_iff_iff];omega
@[simp] theorem nateq_5 (a:Nat):((a:Int)=5)=(a=5):=by rw[eq_iff_iff];omega
@[simp] theorem natlt_6 (a:Nat):((a:Int)<6)=(a<6):=by rw[eq_iff_iff];omega
@[simp] theorem natle_6 (a:Nat):((a:Int)<=6)=(a<=6):=by rw[eq_iff_iff];omega
@[simp] theorem natgt_6 (a:Nat):(6<(a:Int))=(6<a):=by rw[eq_iff_iff];omega
@[simp] theorem natge_6 (a:Nat):(6<=(a:Int))=(6<=a):=by rw[eq_iff_iff];omega
@[simp] theorem nateq_6 (a:Nat):((a:Int)=6)=(a=6):=by rw[eq_iff_iff];omega
@[simp] theorem natlt_7 (a:Nat):((a:Int)<7)=(a<7):=by rw[eq_iff_iff];omega
@[simp] theorem natle_7 (a:Nat):((a:Int)<=7)=(a<=7):=by rw[eq_iff_iff];omega
@[simp] theorem natgt_7 (a:Nat):(7<(a:Int))=(7<a):=by rw[eq_iff_iff];omega
@[simp] theorem natge_7 (a:Nat):(7<=(a:Int))=(7<=a):=by rw[eq_iff_iff];omega
@[simp] theorem nateq_7 (a:Nat):((a:Int)=7)=(a=7):=by rw[eq_iff_iff];omega
@[simp] theorem natlt_8 (a:Nat):((a:Int)<8)=(a<8):=by rw[eq_iff_iff];omega
@[simp] theorem natle_8 (a:Nat):((a:Int)<=8)=(a<=8):=by rw[eq_iff_iff];omega
@[simp] theorem natgt_8 (a:Nat):(8<(a:Int))=(8<a):=by rw[eq_iff_iff];omega
@[simp] theorem natge_8 (a:Nat):(8<=(a:Int))=(8<=a):=by rw[eq_iff_iff];omega
@[simp] theorem nateq_8 (a:Nat):((a:Int)=8)=(a=8):=by rw[eq_iff_iff];omega
@[simp] theorem natlt_9 (a:Nat):((a:Int)<9)=(a<9):=by rw[eq_iff_iff];omega
@[simp] theorem natle_9 (a:Nat):((a:Int)<=9)=(a<=9):=by rw[eq_iff_iff];omega
@[simp] theorem natgt_9 (a:Nat):(9<(a:Int))=(9<a):=by rw[eq_iff_iff];omega
@[simp] theorem natge_9 (a:Nat):(9<=(a:Int))=(9<=a):=by rw[eq_iff_iff];omega
@[simp] theorem nateq_9 (a:Nat):((a:Int)=9)=(a=9):=by rw[eq_iff_iff];omega
@[simp] theorem natlt_10 (a:Nat):((a:Int)<10)=(a<10):=by rw[eq_iff_iff];omega
@[simp] theorem natle_10 (a:Nat):((a:Int)<=10)=(a<=10):=by rw[eq_iff_iff];omega
@[simp] theorem natgt_10 (a:Nat):(10<(a:Int))=(10<a):=by rw[eq_iff_iff];omega
@[simp] theorem natge_10 (a:Nat):(10<=(a:Int))=(10<=a):=by rw[eq_iff_iff];omega
@[simp] theorem nateq_10 (a:Nat):((a:Int)=10)=(a=10):=by rw[eq_iff_iff];omega
@[simp] theorem natlt_11 (a:Nat):((a:Int)<11)=(a<11):=by rw[eq_iff_iff];omega
@[simp] theorem natle_11 (a:Nat):((a:Int)<=11)=(a<=11):=by rw[eq_iff_iff];omega
@[simp] theorem natgt_11 (a:Nat):(11<(a:Int))=(11<a):=by rw[eq_iff_iff];omega
@[simp] theorem natge_11 (a:Nat):(11<=(a:Int))=(11<=a):=by rw[eq_iff_iff];omega
@[simp] theorem nateq_11 (a:Nat):((a:Int)=11)=(a=11):=by rw[eq_iff_iff];omega
@[simp] theorem natlt_12 (a:Nat):((a:Int)<12)=(a<12):=by rw[eq_iff_iff];omega
@[simp] theorem natle_12 (a:Nat):((a:Int)<=12)=(a<=12):=by rw[eq_iff_iff];omega
@[simp] theorem natgt_12 (a:Nat):(12<(a:Int))=(12<a):=by rw[eq_iff_iff];omega
@[simp] theorem natge_12 (a:Nat):(12<=(a:Int))=(12<=a):=by rw[eq_iff_iff];omega
@[simp] theorem nateq_12 (a:Nat):((a:Int)=12)=(a=12):=by rw[eq_iff_iff];omega
@[simp] theorem natlt_13 (a:Nat):((a:Int)<13)=(a<13):=by rw[eq_iff_iff];omega
@[simp] theorem natle_13 (a:Nat):((a:Int)<=13)=(a<=13):=by rw[eq_iff_iff];omega
@[simp] theorem natgt_13 (a:Nat):(13<(a:Int))=(13<a):=by rw[eq_iff_iff];omega
@[simp] theorem natge_13 (a:Nat):(13<=(a:Int))=(13<=a):=by rw[eq_iff_iff];omega
@[simp] theorem nateq_13 (a:Nat):((a:Int)=13)=(a=13):=by rw[eq_iff_iff];omega
@[simp] theorem natlt_14 (a:Nat):((a:Int)<14)=(a<14):=by rw[eq_iff_iff];omega
@[simp] theorem natle_14 (a:Nat):((a:Int)<=14)=(a<=14):=by rw[eq_iff_iff];omega
@[simp] theorem natgt_14 (a:Nat):(14<(a:Int))=(14<a):=by rw[eq_iff_iff];omega
@[simp] theorem natge_14 (a:Nat):(14<=(a:Int))=(14<=a):=by rw[eq_iff_iff];omega
@[simp] theorem nateq_14 (a:Nat):((a:Int)=14)=(a=14):=by rw[eq_iff_iff];omega
@[simp] theorem natlt_15 (a:Nat):((a:Int)<15)=(a<15):=by rw[eq_iff_iff];omega
@[simp] theorem natle_15 (a:Nat):((a:Int)<=15)=(a<=15):=by rw[eq_iff_iff];omega
@[simp] theorem natgt_15 (a:Nat):(15<(a:Int))=(15<a):=by rw[eq_iff_iff];omega
@[simp] theorem natge_15 (a:Nat):(15<=(a:Int))=(15<=a):=by rw[eq_iff_iff];omega
@[simp] theorem nateq_15 (a:Nat):((a:Int)=15)=(a=15):=by rw[eq_iff_iff];omega
@[simp] theorem natlt_16 (a:Nat):((a:Int)<16)=(a<16):=by rw[eq_iff_iff];omega
@[simp] theorem natle_16 (a:Nat):((a:Int)<=16)=(a<=16):=by rw[eq_iff_iff];omega
@[simp] theorem natgt_16 (a:Nat):(16<(a:Int))=(16<a):=by rw[eq_iff_iff];omega
@[simp] theorem natge_16 (a:Nat):(16<=(a:Int))=(16<=a):=by rw[eq_iff_iff];omega
@[simp] theorem nateq_16 (a:Nat):((a:Int)=16)=(a=16):=by rw[eq_iff_iff];omega
@[simp] theorem natlt_17 (a:Nat):((a:Int)<17)=(a<17):=by rw[eq_iff_iff];omega
@[simp] theorem natle_17 (a:Nat):((a:Int)<=17)=(a<=17):=by rw[eq_iff_iff];omega
@[simp] theorem natgt_17 (a:Nat):(17<(a:Int))=(17<a):=by rw[eq_iff_iff];omega
@[simp] theorem natge_17 (a:Nat):(17<=(a:Int))=(17<=a):=by rw[eq_iff_iff];omega
@[simp] theorem nateq_17 (a:Nat):((a:Int)=17)=(a=17):=by rw[eq_iff_iff];omega
@[simp] theorem natlt_18 (a:Nat):((a:Int)<18)=(a<18):=by rw[eq_iff_iff];omega
@[simp] theorem natle_18 (a:Nat):((a:Int)<=18)=(a<=18):=by rw[eq_iff_iff];omega
@[simp] theorem natgt_18 (a:Nat):(18<(a:Int))=(18<a):=by rw[eq_iff_iff];omega
@[simp] theorem natge_18 (a:Nat):(18<=(a:Int))=(18<=a):=by rw[eq_iff_iff];omega
@[simp] theorem nateq_18 (a:Nat):((a:Int)=18)=(a=18):=by rw[eq_iff_iff];omega
@[simp] theorem natlt_19 (a:Nat):((a:Int)<19)=(a<19):=by rw[eq_iff_iff];omega
@[simp] theorem natle_19 (a:Nat):((a:Int)<=19)=(a<=19):=by rw[eq_iff_iff];omega
@[simp] theorem natgt_19 (a:Nat):(19<(a:Int))=(19<a):=by rw[eq_iff_iff];omega
@[simp] theorem natge_19 (a:Nat):(19<=(a:Int))=(19<=a):=by rw[eq_iff_iff];omega
@[simp] theorem nateq_19 (a:Nat):((a:Int)=19)=(a=19):=by rw[eq_iff_iff];omega
@[simp] theorem natlt_20 (a:Nat):((a:Int)<20)=(a<20):=by rw[eq_iff_iff];omega
@[simp] theorem natle_20 (a:Nat):((a:Int)<=20)=(a<=20):=by rw[eq_iff_iff];omega
@[simp] theorem natgt_20 (a:Nat):(20<(a:Int))=(20<a):=by rw[eq_iff_iff];omega
@[simp] theorem natge_20 (a:Nat):(20<=(a:Int))=(20<=a):=by rw[eq_iff_iff];omega
@[simp] theorem nateq_20 (a:Nat):((a:Int)=20)=(a=20):=by rw[eq_iff_iff];omega
@[simp] theorem natlt_24 (a:Nat):((a:Int)<24)=(a<24):=by rw[eq_iff_iff];omega
@[simp] theorem natle_24 (a:Nat):((a:Int)<=24)=(a<=24):=by rw[eq_iff_iff];omega
@[simp] theorem natgt_24 (a:Nat):(24<(a:Int))=(24<a):=by rw[eq_iff_iff];omega
@[simp] theorem natge_24 (a:Nat):(24<=(a:Int))=(24<=a):=by rw[eq_iff_iff];omega
@[simp] theorem nateq_24 (a:Nat):((a:Int)=24)=(a=24):=by rw[eq_iff_iff];omega
@[simp] theorem natlt_26 (a:Nat):((a:Int)<26)=(a<26):=by rw[eq_iff_iff];omega
@[simp] theorem natle_26 (a:Nat):((a:Int)<=26)=(a<=26):=by rw[eq_iff_iff];omega
@[simp] theorem natgt_26 (a:Nat):(26<(a:Int))=(26<a):=by rw[eq_iff_iff];omega
@[simp] theorem natge_26 (a:Nat):(26<=(a:Int))=(26<=a):=by rw[eq_iff_iff];omega
@[simp] theorem nateq_26 (a:Nat):((a:Int)=26)=(a=26):=by rw[eq_iff_iff];omega
@[simp] theorem natlt_36 (a:Nat):((a:Int)<36)=(a<36):=by rw[eq_iff_iff];omega
@[simp] theorem natle_36 (a:Nat):((a:Int)<=36)=(a<=36):=by rw[eq_iff_iff];omega
@[simp] theorem natgt_36 (a:Nat):(36<(a:Int))=(36<a):=by rw[eq_iff_iff];omega
@[simp] theorem natge_36 (a:Nat):(36<=(a:Int))=(36<=a):=by rw[eq_iff_iff];omega
@[simp] theorem nateq_36 (a:Nat):((a:Int)=36)=(a=36):=by rw[eq_iff_iff];omega
@[simp] theorem nateq_1 (a:Nat):((a:Int)=1)=(a=1):=by rw[eq_iff_iff];omega
@[simp] theorem natlt_1 (a:Nat):((a:Int)<1)=(a<1):=by rw[eq_iff_iff];omega
@[simp] theorem RL (s:St)(o:Oper):zS [] s o=false:=rfl
@[simp] theorem WOk_e (W:List uI):QG W []:=λ _ _ _ h=>by cases h
attribute [simp] GX nh Ec vu chk Bi note D0 qP je xv Ee u5
attribute [simp] GB sI bytesOf xK bY ct jL sM Dz Jv Jt Hq oN oNO lY sP Cr rmL RN p8 qT Qo
mutual
theorem bP (n:Nat):∀ c:CV,tree c=true->aU n c=true
 | .bb _ _ _,h=>by simp[tree] at h
 | .aw _ _,h=>by simp[tree] at h
 | .iter _ _ _,h=>by simp[tree] at h
 | .mp _ _,h=>by simp[tree] at h
 | .agg cs,h=>by
  simp only[tree] at h;simp only[aU];exact bD n cs h
 | .fn _ cs,h=>by
  simp only[tree] at h;simp only[aU];exact bD n cs h
 | .iface _ cs,h=>by
  simp only[tree] at h;simp only[aU];exact bD n cs h
 | .cB cs,h=>by
  simp only[tree] at h;simp only[aU];exact bD n cs h
 | .int _ _,_=>rfl
 | .bool _,_=>rfl
 | .str _,_=>rfl
 | .ax _ _,_=>rfl
 | .aj,_=>rfl
 | .cQ _,_=>rfl
 | .bJ,_=>rfl
 | .cE,_=>rfl
 | .any,_=>rfl
theorem bD (n:Nat):∀ cs:List CV,trees cs=true->ba n cs=true
 | [],_=>rfl
 | c::cs,h=>by
  simp only[trees,Bool.and_eq_true] at h;simp only[ba,Bool.and_eq_true];exact⟨bP n c h.1,bD n cs h.2⟩
end
mutual
theorem m9 (n:Nat):∀ c:CV,tree c=true->aP n c=true
 | .bb _ _ _,h=>by simp[tree] at h
 | .aw _ _,h=>by simp[tree] at h
 | .iter _ _ _,h=>by simp[tree] at h
 | .mp _ _,h=>by simp[tree] at h
 | .agg cs,h=>by
  simp only[tree] at h;simp only[aP];exact jq n cs h
 | .fn _ cs,h=>by
  simp only[tree] at h;simp only[aP];exact jq n cs h
 | .iface _ cs,h=>by
  simp only[tree] at h;simp only[aP];exact jq n cs h
 | .cB cs,h=>by
  simp only[tree] at h;simp only[aP];exact jq n cs h
 | .int _ _,_=>rfl
 | .bool _,_=>rfl
 | .str _,_=>rfl
 | .ax _ _,_=>rfl
 | .aj,_=>rfl
 | .cQ _,_=>rfl
 | .bJ,_=>rfl
 | .cE,_=>rfl
 | .any,_=>rfl
theorem jq (n:Nat):∀ cs:List CV,trees cs=true->ed n cs=true
 | [],_=>rfl
 | c::cs,h=>by
  simp only[trees,Bool.and_eq_true] at h;simp only[ed,Bool.and_eq_true];exact⟨m9 n c h.1,jq n cs h.2⟩
end
def dC (o q:Nat):CV->CV
 | .bb p off n=>.bb (if p=o then q else p) off n
 | .aw p off=>.aw (if p=o then q else p) off
 | c=>c
def od (o q:Nat):CV->Bool
 | .bb p _ _=>p != q
 | .aw p _=>p != q
 | c=>aP o c && aP q c
def kZ (o q:Nat):CV->CV
 | .agg cs=>.agg (cs.map (dC o q))
 | c=>dC o q c
def By (o q:Nat):CV->Bool
 | .agg cs=>cs.all (od o q)
 | c=>od o q c
def y3 (o q:Nat):List (Nat×CV)->List (Nat×CV)
 | []=>[]
 | (t,c)::r=>(t,kZ o q c)::y3 o q r
def Ap (o q:Nat):List (Nat×Ob)->List (Nat×Ob)
 | []=>[]
 | (k,ob)::r=>(if k=o then q else k,⟨ob.elem,ob.sz,ob.cells.map (dC o q)⟩)::Ap o q r
def okH (o q:Nat):List (Nat×Ob)->Bool
 | []=>true
 | (_,ob)::r=>ob.cells.all (od o q) && okH o q r
section
variable {P:Program}{C:Cx}{σ:Nat->Option OB}{s:St}{a:Act}{w:World}
theorem JJ (o q:Nat)(c:CV):one (dC o q c)=one c:=by cases c<;>rfl
theorem sR (o q:Nat)(cs:List CV):(cs.map (dC o q)).all one=cs.all one:=by
 induction cs with
 | nil=>rfl
 | cons c cs ih=>simp only[map_cons,all_cons,JJ,ih]
theorem VR.dC {F F':Nat->Prop}{σ':Nat->Option OB}{o q:Nat}(hk:cO w w F F')(hq:σ' q=σ o)(Sb:∀ p,p≠q->σ' p=σ p){c:CV}{v:Value}(Sg:od o q c=true)(h:VR w F σ c v):VR w F' σ' (dC o q c) v:=by
 have gen:aP q c=true->VR w F' σ' c v:=λ hn=>VR.bG hk _ _ (λ p hp=>Sb p λ e=>by subst e;rw[hn] at hp;cases hp) h
 cases c with
 | bb p off n=>
  simp only[od,bne_iff_ne,ne_eq] at Sg;simp only[Can.dC];split
  ·rename_i e;subst e;simp only[VR] at h |-;obtain⟨B,h1,h2⟩:=h;exact⟨B,by rw[hq];exact h1,h2⟩
  ·exact gen (by simpa [aP] using Sg)
 | aw p off=>
  simp only[od,bne_iff_ne,ne_eq] at Sg;simp only[Can.dC];split
  ·rename_i e;subst e;simp only[VR] at h |-;obtain⟨B,b,h1,h2⟩:=h;exact⟨B,b,by rw[hq];exact h1,h2⟩
  ·exact gen (by simpa [aP] using Sg)
 | _=>
  simp only[od,Bool.and_eq_true] at Sg;exact gen Sg.2
theorem a6.dC {F F':Nat->Prop}{σ':Nat->Option OB}{o q:Nat}(hk:cO w w F F')(hq:σ' q=σ o)(Sb:∀ p,p≠q->σ' p=σ p):∀ {cs:List CV} {vs:List Value},cs.all (od o q)=true->a6 w F σ cs vs->a6 w F' σ' (cs.map (Can.dC o q)) vs
 | [],_,_,h=>h
 | c::cs,_,Sg,⟨v,r,e,h1,h2⟩=>by
  simp only[all_cons,Bool.and_eq_true] at Sg;exact⟨v,r,e,VR.dC hk hq Sb Sg.1 h1,a6.dC hk hq Sb Sg.2 h2⟩
theorem VR.kZ {F F':Nat->Prop}{σ':Nat->Option OB}{o q:Nat}(hk:cO w w F F')(hq:σ' q=σ o)(Sb:∀ p,p≠q->σ' p=σ p){c:CV}{v:Value}(Sg:By o q c=true)(h:VR w F σ c v):VR w F' σ' (kZ o q c) v:=by
 cases c with
 | agg cs=>
  simp only[VR] at h;obtain⟨vs,h1,h2,h3⟩:=h;simp only[Can.kZ,VR];exact⟨vs,h1,a6.dC hk hq Sb Sg h2,by rw[sR];exact h3⟩
 | _=>
  simp only[By] at Sg;simp only[Can.kZ];exact VR.dC hk hq Sb Sg h
theorem uR (o q:Nat):∀ (e:List (Nat×CV)) (t:Nat) (c:CV),assoc (y3 o q e) t=some c->∃ d,assoc e t=some d/\c=Can.kZ o q d
 | [],_,_,h=>by simp[y3,assoc] at h
 | (k,d)::r,t,c,h=>by
  simp only[y3,assoc] at h |-;split at h
  ·rename_i e;rw[if_pos e];cases h;exact⟨d,rfl,rfl⟩
  ·rename_i e;rw[if_neg e];exact uR o q r t c h
theorem ku (o q:Nat):∀ (H:List (Nat×Ob)) (p:Nat) (ob:Ob),assoc H q=none->assoc (Ap o q H) p=some ob->∃ p' R9,assoc H p'=some R9/\p=(if p'=o then q else p')/\ob=⟨R9.elem,R9.sz,R9.cells.map (Can.dC o q)⟩
 | [],_,_,_,h=>by simp[Ap,assoc] at h
 | (k,x)::r,p,ob,hq,h=>by
  by_cases hkq:k=q
  ·simp[assoc,hkq] at hq
  ·simp only[assoc,if_neg hkq] at hq;by_cases e:(if k=o then q else k)=p
   ·simp only[Ap,assoc,if_pos e,Option.some.injEq] at h;exact⟨k,x,by simp[assoc],e.symm,h.symm⟩
   ·simp only[Ap,assoc,if_neg e] at h;obtain⟨p',R9,h1,h2,h3⟩:=ku o q r p ob hq h;refine⟨p',R9,?_,h2,h3⟩;simp only[assoc];rw[if_neg λ e'=>e (by rw[h2,e'])];exact h1
theorem JM (o q:Nat):∀ {H:List (Nat×Ob)},okH o q H=true->∀ p ob,assoc H p=some ob->ob.cells.all (od o q)=true
 | [],_,p,ob,h=>by simp[assoc] at h
 | (k,x)::r,h,p,ob,hp=>by
  simp only[okH,Bool.and_eq_true] at h;simp only[assoc] at hp;split at hp
  ·cases hp;exact h.1
  ·exact JM o q h.2 p ob hp
theorem Le.p7 (o q:Nat){ob:Ob}(ho:assoc s.heap o=Option.some ob)(hq:assoc s.heap q=Option.none)(hn:C.n0<=q)(hx:q<s.nx)(he:(s.env.all λ x=>By o q x.2)=true)(hH:okH o q s.heap=true):Le C s ⟨y3 o q s.env,Ap o q s.heap,s.nx⟩:=by
 intro a w ⟨σ,h⟩;rw[all_eq_true] at he;obtain⟨σ',hσ⟩:∃ σ':Nat->Option OB,∀ x,σ' x=if x=q then σ o else σ x:=⟨_,λ _=>rfl⟩
 have s1:σ' q=σ o:=by rw[hσ,if_pos rfl]
 have s2:∀ p,p≠q->σ' p=σ p:=λ p hp=>by rw[hσ,if_neg hp]
 have s3:∀ p,p≠q->σ' (if p=o then q else p)=σ p:=λ p hp=>by
  split
  ·rename_i e;rw[s1,e]
  ·exact s2 p hp
 have W5:∀ p x,assoc s.heap p=some x->p≠q:=λ p x hp e=>by rw[e,hq] at hp;cases hp
 have hF:∀ b,FB C σ' (Ap o q s.heap) b->FB C σ s.heap b:=by
  rintro b (hb | ⟨p,x,hp,hb⟩)
  ·exact .inl hb
  ·obtain⟨p',y,h1,h2,h3⟩:=ku o q s.heap p x hq hp;refine .inr ⟨p',y,h1,?_⟩;unfold a7 at hb |-;rwa [h2,s3 p' (W5 p' y h1)] at hb
 have hk:cO w w (FB C σ s.heap) (FB C σ' (Ap o q s.heap)):=cO.same hF;refine⟨σ',h.pQ,h.tm,h.os,h.tape,h.output,h.size,h.frame,?_,?_,?_,?_,?_,h.low,?_⟩
 ·intro t c hc;obtain⟨d,hd,rfl⟩:=uR o q s.env t c hc;obtain⟨v,k1,k2⟩:=h.env t d hd;exact⟨v,k1,VR.kZ hk s1 s2 (he _ (bx _ _ _ hd)) k2⟩
 ·intro p x hp;obtain⟨p',y,h1,h2,h3⟩:=ku o q s.heap p x hq hp;obtain⟨B,m1,m2,m3,m4,m5⟩:=h.obj p' y h1;subst h3;refine⟨B,by rw[h2,s3 p' (W5 p' y h1)];exact m1,m2,λ hb=>by simp[m3 hb],by simp only[sR];exact m4,λ b hb=>?_⟩;obtain⟨cur,n1,n2,n3,n4,n5,n6⟩:=m5 b hb;refine⟨cur,n1,n2,n3,n4,by simpa using n5,?_⟩;simp only[length_map];exact a6.dC hk s1 s2 (JM o q hH p' y h1) n6
 ·intro p p1 x x1 b hp Zj hb Vl;obtain⟨p',y,h1,h2,h3⟩:=ku o q s.heap p x hq hp;obtain⟨p1',y1,g1,g2,g3⟩:=ku o q s.heap p1 x1 hq Zj;unfold a7 at hb Vl;rw[h2,s3 p' (W5 p' y h1)] at hb;rw[g2,s3 p1' (W5 p1' y1 g1)] at Vl;have:=h.inj p' p1' y y1 b h1 g1 hb Vl;rw[h2,g2,this]
 ·intro p hp;simp only at hp;rw[s2 p yA];exact h.nx p hp
 ·intro p hp;rw[s2 p yA];exact h.gA p hp
 ·intro p B b hp hB hb;by_cases e:p=q
  ·subst e;rw[s1] at hB;obtain⟨B',m1,_,_,_,m5⟩:=h.obj o ob ho;rw[m1] at hB;cases hB;obtain⟨cur,_,_,_,n4,_⟩:=m5 b hb;exact n4
  ·rw[s2 p e] at hB;exact h.new p B b hp hB hb
@[simp] theorem ren1_int (o q:Nat)(k:IntKind)(n:Int):dC o q (.int k n)=(.int k n):=rfl
@[simp] theorem ok1_int (o q:Nat)(k:IntKind)(n:Int):od o q (.int k n)=(aP o (.int k n) && aP q (.int k n)):=rfl
@[simp] theorem renC_int (o q:Nat)(k:IntKind)(n:Int):kZ o q (.int k n)=(.int k n):=rfl
@[simp] theorem okC_int (o q:Nat)(k:IntKind)(n:Int):By o q (.int k n)=(aP o (.int k n) && aP q (.int k n)):=rfl
@[simp] theorem Q4 (o q:Nat)(b:Bool):dC o q (.bool b)=(.bool b):=rfl
@[simp] theorem ok1_bool (o q:Nat)(b:Bool):od o q (.bool b)=(aP o (.bool b) && aP q (.bool b)):=rfl
@[simp] theorem Q1 (o q:Nat)(b:Bool):kZ o q (.bool b)=(.bool b):=rfl
@[simp] theorem okC_bool (o q:Nat)(b:Bool):By o q (.bool b)=(aP o (.bool b) && aP q (.bool b)):=rfl
@[simp] theorem ren1_str (o q:Nat)(s:ByteArray):dC o q (.str s)=(.str s):=rfl
@[simp] theorem ok1_str (o q:Nat)(s:ByteArray):od o q (.str s)=(aP o (.str s) && aP q (.str s)):=rfl
@[simp] theorem renC_str (o q:Nat)(s:ByteArray):kZ o q (.str s)=(.str s):=rfl
@[simp] theorem okC_str (o q:Nat)(s:ByteArray):By o q (.str s)=(aP o (.str s) && aP q (.str s)):=rfl
@[simp] theorem ren1_agg (o q:Nat)(cs:List CV):dC o q (.agg cs)=(.agg cs):=rfl
@[simp] theorem ok1_agg (o q:Nat)(cs:List CV):od o q (.agg cs)=(aP o (.agg cs) && aP q (.agg cs)):=rfl
@[simp] theorem renC_agg (o q:Nat)(cs:List CV):kZ o q (.agg cs)=.agg (cs.map (dC o q)):=rfl
@[simp] theorem okC_agg (o q:Nat)(cs:List CV):By o q (.agg cs)=cs.all (od o q):=rfl
@[simp] theorem ren1_tsl (o q:Nat)(cs:List CV)(n:Nat):dC o q (.ax cs n)=(.ax cs n):=rfl
@[simp] theorem ok1_tsl (o q:Nat)(cs:List CV)(n:Nat):od o q (.ax cs n)=(aP o (.ax cs n) && aP q (.ax cs n)):=rfl
@[simp] theorem renC_tsl (o q:Nat)(cs:List CV)(n:Nat):kZ o q (.ax cs n)=(.ax cs n):=rfl
@[simp] theorem okC_tsl (o q:Nat)(cs:List CV)(n:Nat):By o q (.ax cs n)=(aP o (.ax cs n) && aP q (.ax cs n)):=rfl
@[simp] theorem Pu (o q:Nat)  : dC o q .aj=.aj:=rfl
@[simp] theorem Ra (o q:Nat)  : od o q .aj=(aP o .aj && aP q .aj):=rfl
@[simp] theorem Pq (o q:Nat)  : kZ o q .aj=.aj:=rfl
@[simp] theorem Q7 (o q:Nat)  : By o q .aj=(aP o .aj && aP q .aj):=rfl
@[simp] theorem Q2 (o q:Nat)(cs:List CV):dC o q (.cQ cs)=(.cQ cs):=rfl
@[simp] theorem ok1_tptr (o q:Nat)(cs:List CV):od o q (.cQ cs)=(aP o (.cQ cs) && aP q (.cQ cs)):=rfl
@[simp] theorem QZ (o q:Nat)(cs:List CV):kZ o q (.cQ cs)=(.cQ cs):=rfl
@[simp] theorem okC_tptr (o q:Nat)(cs:List CV):By o q (.cQ cs)=(aP o (.cQ cs) && aP q (.cQ cs)):=rfl
@[simp] theorem N8 (o q:Nat)  : dC o q .bJ=.bJ:=rfl
@[simp] theorem PQ (o q:Nat)  : od o q .bJ=(aP o .bJ && aP q .bJ):=rfl
@[simp] theorem N7 (o q:Nat)  : kZ o q .bJ=.bJ:=rfl
@[simp] theorem PO (o q:Nat)  : By o q .bJ=(aP o .bJ && aP q .bJ):=rfl
@[simp] theorem ren1_fn (o q:Nat)(f:FuncId)(cs:List CV):dC o q (.fn f cs)=(.fn f cs):=rfl
@[simp] theorem ok1_fn (o q:Nat)(f:FuncId)(cs:List CV):od o q (.fn f cs)=(aP o (.fn f cs) && aP q (.fn f cs)):=rfl
@[simp] theorem renC_fn (o q:Nat)(f:FuncId)(cs:List CV):kZ o q (.fn f cs)=(.fn f cs):=rfl
@[simp] theorem okC_fn (o q:Nat)(f:FuncId)(cs:List CV):By o q (.fn f cs)=(aP o (.fn f cs) && aP q (.fn f cs)):=rfl
@[simp] theorem Pv (o q:Nat)  : dC o q .cE=.cE:=rfl
@[simp] theorem Rb (o q:Nat)  : od o q .cE=(aP o .cE && aP q .cE):=rfl
@[simp] theorem Ps (o q:Nat)  : kZ o q .cE=.cE:=rfl
@[simp] theorem Q8 (o q:Nat)  : By o q .cE=(aP o .cE && aP q .cE):=rfl
@[simp] theorem Pw (o q:Nat)(t:TypeId)(cs:List CV):dC o q (.iface t cs)=(.iface t cs):=rfl
@[simp] theorem Rc (o q:Nat)(t:TypeId)(cs:List CV):od o q (.iface t cs)=(aP o (.iface t cs) && aP q (.iface t cs)):=rfl
@[simp] theorem Pt (o q:Nat)(t:TypeId)(cs:List CV):kZ o q (.iface t cs)=(.iface t cs):=rfl
@[simp] theorem Q9 (o q:Nat)(t:TypeId)(cs:List CV):By o q (.iface t cs)=(aP o (.iface t cs) && aP q (.iface t cs)):=rfl
@[simp] theorem ren1_tup (o q:Nat)(cs:List CV):dC o q (.cB cs)=(.cB cs):=rfl
@[simp] theorem ok1_tup (o q:Nat)(cs:List CV):od o q (.cB cs)=(aP o (.cB cs) && aP q (.cB cs)):=rfl
@[simp] theorem renC_tup (o q:Nat)(cs:List CV):kZ o q (.cB cs)=(.cB cs):=rfl
@[simp] theorem okC_tup (o q:Nat)(cs:List CV):By o q (.cB cs)=(aP o (.cB cs) && aP q (.cB cs)):=rfl
@[simp] theorem ren1_osl (o q:Nat)(p f n:Nat):dC o q (.bb p f n)=.bb (if p=o then q else p) f n:=rfl
@[simp] theorem ok1_osl (o q:Nat)(p f n:Nat):od o q (.bb p f n)=(p != q):=rfl
@[simp] theorem renC_osl (o q:Nat)(p f n:Nat):kZ o q (.bb p f n)=.bb (if p=o then q else p) f n:=rfl
@[simp] theorem okC_osl (o q:Nat)(p f n:Nat):By o q (.bb p f n)=(p != q):=rfl
@[simp] theorem Q3 (o q:Nat)(p f:Nat):dC o q (.aw p f)=.aw (if p=o then q else p) f:=rfl
@[simp] theorem ok1_optr (o q:Nat)(p f:Nat):od o q (.aw p f)=(p != q):=rfl
@[simp] theorem Q0 (o q:Nat)(p f:Nat):kZ o q (.aw p f)=.aw (if p=o then q else p) f:=rfl
@[simp] theorem okC_optr (o q:Nat)(p f:Nat):By o q (.aw p f)=(p != q):=rfl
@[simp] theorem ren1_any (o q:Nat)  : dC o q .any=.any:=rfl
@[simp] theorem ok1_any (o q:Nat)  : od o q .any=(aP o .any && aP q .any):=rfl
@[simp] theorem renC_any (o q:Nat)  : kZ o q .any=.any:=rfl
@[simp] theorem okC_any (o q:Nat)  : By o q .any=(aP o .any && aP q .any):=rfl
attribute [simp] y3 Ap okH
end
theorem b9 {α:Type}{f:α->List CV}{n:Nat}(hf:∀ x,(f x).length=n){m:List α}{i:Nat}{e:α}(h:m[i]? = some e)(k:Nat)(hk:k<=n):(m.flatMap f).drop (i*n+k)=(f e).drop k++(m.drop (i+1)).flatMap f:=by
 rw[<- drop_drop,aI hf h,drop_append_of_le_length (by rw[hf];exact hk)]
theorem r8 (o q:Nat)(c:CV)(h:tree c=true):od o q c=true:=by
 cases c<;>first | (simp[tree] at h;done) | (simp only[od,Bool.and_eq_true];exact⟨m9 _ _ h,m9 _ _ h⟩)
theorem Hn (o q:Nat)(c:CV)(h:tree c=true):dC o q c=c:=by
 cases c<;>first | (simp[tree] at h;done) | rfl
theorem mo {cs:List CV}(h:trees cs=true):∀ c∈cs,tree c=true:=by
 induction cs with
 | nil=>simp
 | cons c cs ih=>
  simp only[trees,Bool.and_eq_true] at h;intro x hx;rcases mem_cons.1 hx with rfl | hx
  ·exact h.1
  ·exact ih h.2 x hx
theorem ai {cs:List CV}(h:trees cs=true)(n:Nat):cs.all (aU n)=true:=all_eq_true.2 λ c hc=>bP n c (mo h c hc)
theorem bw {cs:List CV}(h:trees cs=true)(o q:Nat):cs.all (od o q)=true:=all_eq_true.2 λ c hc=>r8 o q c (mo h c hc)
theorem bl {cs:List CV}(h:trees cs=true)(o q:Nat):cs.map (dC o q)=cs:=by
 have:∀ c∈cs,dC o q c=id c:=λ c hc=>Hn o q c (mo h c hc);rw[map_congr_left this,map_id]
end Go.Can
