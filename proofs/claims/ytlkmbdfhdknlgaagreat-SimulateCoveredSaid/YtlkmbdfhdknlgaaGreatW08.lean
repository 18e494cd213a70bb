/- Lemmas. -/
import Derived.Test.YtlkmbdfhdknlgaaGreatW07
import Derived.Test.YtlkmbdfhdknlgaaGreatProg
import Derived.KernelRfl
namespace Go.Can
@[reducible] def iO (r0:CV)(H:List (Nat×Ob))(n:Nat):CV->St->Prop:=λ r s=>r=r0/\s.heap=H/\s.nx=n
section
variable {P:Program}{C:Cx}{s:St}{ops:Array Oper}{av:List (Nat×TI)}
theorem TL.cZ (UT:aF P av){o:Oper}{l:List Oper}{c:Call}{g:FuncId}{cs:List CV}{K:St->Prop}{r0:CV}{H1:List (Nat×Ob)}(ks:List Nat){H:List (Nat×Ob)}(n:Nat)(hb:Body P av g cs H n (iO r0 H1 n))(hd:bj C.nt o.dst=true)(hg:ca ops s o=Option.some true)(ho:o.op=.call c)(SP:bK s c=Option.some (g,cs))
  (hp:eZ s.heap ks=Option.some H) (hn:n<=s.nx) (ha:ba n cs=true) (hH:dn n H=true) (hk:nS ks H1=true)
  (hK:TL P C ops l (St.put ⟨s.env,H1++eA s.heap ks,s.nx⟩ o.dst r0) K):TL P C ops (o::l) s K:=
 TL.LS UT ks n hd hg ho SP hp hn ha hH hb (λ r s1 h=>⟨h.2.2,by rw[h.2.1];exact hk⟩) λ r s1 h=>by rw[h.1,h.2.1];exact hK
variable {W:List u5}{nt N:Nat}{dyn:List (Nat×Nat)}{K:St->Prop}{i:Nat}{r:List Nat}{res:Nat->Er}
theorem RX.cZ {o:Oper}{cl:Call}{g:FuncId}{cs:List CV}{r0:CV}{H1:List (Nat×Ob)}(ks eT:List Nat){H:List (Nat×Ob)}(n:Nat)(hb:Body P av g cs H n (iO r0 H1 n))(hi:ops[i]? = Option.some o)(hd:bj nt o.dst=true)(hg:ca ops s o=Option.some true)(hu:cz o=Option.some cl)(SP:bK s cl=Option.some (g,cs))
  (hp:eZ s.heap ks=Option.some H) (hn:n<=s.nx) (ha:ba n cs=true) (hH:dn n H=true) (hk:nS ks H1=true) (hv:Bq dyn res i ks=true) (hc:(eT.all λ p=>ks.contains p)=true) (hs:∀ p∈ks,p∉eT->assoc H1 p=assoc H p)
  (hK:vQ W dyn res i (rH r0 ks eT H1)/\nL av W nt ops N dyn (Ez P av W nt ops N dyn K) r (note dyn res i (rH r0 ks eT H1)) (St.put ⟨s.env,H1++eA s.heap ks,s.nx⟩ o.dst r0)):RX P av W nt ops N dyn K (i::r) res s:=by
 refine RX.LS ks eT n hi hd hg hu SP hp hn ha hH hb hv hc (λ v s1 h=>⟨h.2.2,by rw[h.2.1];exact hk,λ p W4=>?_⟩) λ v s1 h=>by rw[h.1,h.2.1];exact hK
 rw[h.2.1];by_cases hm:p∈ks
 .exact hs p hm W4
 .obtain⟨i1,_⟩:=kQ hp;have h1:assoc H p=none:=by
   cases h2:assoc H p with
   | none=>rfl
   | some y=>exact (hm (i1 p y h2).1).elim
  have h2:assoc H1 p=none:=by
   cases h3:assoc H1 p with
   | none=>rfl
   | some y=>exact (hm (uG hk p y h3)).elim
  rw[h1,h2]
theorem Body.ret {f:FuncId}{args:List CV}{H:List (Nat×Ob)}{n:Nat}{R R':CV->St->Prop}(h:Body P av f args H n R)(hR:∀ r s,R r s->R' r s):Body P av f args H n R':=by
 obtain⟨fn,c,h1,h2,h3,h4,h5⟩:=h;have key:∀ (C:Cx) s,aa C (λ s'=>∃ r,bJ av fn s'=some r/\R r s') s->aa C (λ s'=>∃ r,bJ av fn s'=some r/\R' r s') s:=λ C s ⟨s',⟨r,q1,q2⟩,hl⟩=>⟨s',⟨r,q1,hR r s' q2⟩,hl⟩;refine⟨fn,c,h1,h2,h3,h4,λ C hC M0=>T.mono (h5 C hC M0) λ e s q=>?_⟩
 cases e with
 | normal=>exact key C s q
 | ret=>exact key C s q
 | _=>exact q
end
def oN:Option CV->List Nat
 | some v=>mA v
 | none=>[]
def oNO (s:St):Option Operand->List Nat
 | some x=>oN (ev s x)
 | none=>[]
theorem JZ (s:St)(op:Op):M7 s op=op.operands.toList.flatMap λ x=>oN (ev s x):=rfl
theorem JY (s:St)(t:TypeId)(x:Operand):M7 s (.load t x)=oN (ev s x):=by
 rw[JZ];exact List.append_nil _
theorem HM (s:St)(t:TypeId)(x:Operand)(a b c:Option Operand):M7 s (.slice t x a b c)=oN (ev s x)++oNO s a++oNO s b++oNO s c:=by
 rw[JZ];cases a<;>cases b<;>cases c<;>simp[Op.operands,oNO]
@[simp] theorem fw (a b:Nat):((a:Int) == (b:Int))=decide (a=b):=by
 by_cases h:a=b
 .simp[h]
 .have:¬ (a:Int)=(b:Int):=by omega
  simp only[h,decide_false];exact beq_eq_false_iff_ne.2 this
@[simp] theorem natbeq_0 (a:Nat):((a:Int) == 0)=decide (a=0):=fw a 0
@[simp] theorem natbeq_1 (a:Nat):((a:Int) == 1)=decide (a=1):=fw a 1
@[simp] theorem natbeq_2 (a:Nat):((a:Int) == 2)=decide (a=2):=fw a 2
@[simp] theorem natbeq_3 (a:Nat):((a:Int) == 3)=decide (a=3):=fw a 3
@[simp] theorem natbeq_4 (a:Nat):((a:Int) == 4)=decide (a=4):=fw a 4
@[simp] theorem natbeq_5 (a:Nat):((a:Int) == 5)=decide (a=5):=fw a 5
@[simp] theorem natbeq_6 (a:Nat):((a:Int) == 6)=decide (a=6):=fw a 6
@[simp] theorem natbeq_7 (a:Nat):((a:Int) == 7)=decide (a=7):=fw a 7
@[simp] theorem natbeq_8 (a:Nat):((a:Int) == 8)=decide (a=8):=fw a 8
@[simp] theorem natbeq_9 (a:Nat):((a:Int) == 9)=decide (a=9):=fw a 9
@[simp] theorem R9 (a:Nat):((a:Int) == 10)=decide (a=10):=fw a 10
@[simp] theorem R8 (a:Nat):((a:Int) == 11)=decide (a=11):=fw a 11
@[simp] theorem R7 (a:Nat):((a:Int) == 12)=decide (a=12):=fw a 12
@[simp] theorem R6 (a:Nat):((a:Int) == 13)=decide (a=13):=fw a 13
@[simp] theorem R5 (a:Nat):((a:Int) == 14)=decide (a=14):=fw a 14
@[simp] theorem R4 (a:Nat):((a:Int) == 15)=decide (a=15):=fw a 15
@[simp] theorem R3 (a:Nat):((a:Int) == 16)=decide (a=16):=fw a 16
@[simp] theorem R2 (a:Nat):((a:Int) == 17)=decide (a=17):=fw a 17
@[simp] theorem R1 (a:Nat):((a:Int) == 18)=decide (a=18):=fw a 18
@[simp] theorem R0 (a:Nat):((a:Int) == 19)=decide (a=19):=fw a 19
@[simp] theorem natlt_2 (a:Nat):((a:Int)<2)=(a<2):=by rw[eq_iff_iff];omega
@[simp] theorem natle_2 (a:Nat):((a:Int)<=2)=(a<=2):=by rw[eq_iff_iff];omega
@[simp] theorem natgt_2 (a:Nat):(2<(a:Int))=(2<a):=by rw[eq_iff_iff];omega
@[simp] theorem natge_2 (a:Nat):(2<=(a:Int))=(2<=a):=by rw[eq_iff_iff];omega
@[simp] theorem nateq_2 (a:Nat):((a:Int)=2)=(a=2):=by rw[eq_iff_iff];omega
@[simp] theorem natlt_3 (a:Nat):((a:Int)<3)=(a<3):=by rw[eq_iff_iff];omega
@[simp] theorem natle_3 (a:Nat):((a:Int)<=3)=(a<=3):=by rw[eq_iff_iff];omega
@[simp] theorem natgt_3 (a:Nat):(3<(a:Int))=(3<a):=by rw[eq_iff_iff];omega
@[simp] theorem natge_3 (a:Nat):(3<=(a:Int))=(3<=a):=by rw[eq_iff_iff];omega
@[simp] theorem nateq_3 (a:Nat):((a:Int)=3)=(a=3):=by rw[eq_iff_iff];omega
@[simp] theorem natlt_4 (a:Nat):((a:Int)<4)=(a<4):=by rw[eq_iff_iff];omega
@[simp] theorem natle_4 (a:Nat):((a:Int)<=4)=(a<=4):=by rw[eq_iff_iff];omega
@[simp] theorem natgt_4 (a:Nat):(4<(a:Int))=(4<a):=by rw[eq_iff_iff];omega
@[simp] theorem natge_4 (a:Nat):(4<=(a:Int))=(4<=a):=by rw[eq_iff_iff];omega
@[simp] theorem nateq_4 (a:Nat):((a:Int)=4)=(a=4):=by rw[eq_iff_iff];omega
@[simp] theorem natlt_5 (a:Nat):((a:Int)<5)=(a<5):=by rw[eq_iff_iff];omega
@[simp] theorem natle_5 (a:Nat):((a:Int)<=5)=(a<=5):=by rw[eq_iff_iff];omega
@[simp] theorem natgt_5 (a:Nat):(5<(a:Int))=(5<a):=by rw[eq_iff_iff];omega
@[simp] theorem natge_5 (a:Nat):(5<=(a:Int))=(5<=a):=by rw[eq_iff_iff];omega
@[simp] theorem nateq_5 (a:Nat):((a:Int)=5)=(a=5):=by rw[eq_iff_iff];omega
@[simp] theorem natlt_6 (a:Nat):((a:Int)<6)=(a<6):=by rw[eq_iff_iff];omega
@[simp] theorem natle_6 (a:Nat):((a:Int)<=6)=(a<=6):=by rw[eq_iff_iff];omega
@[simp] theorem natgt_6 (a:Nat):(6<(a:Int))=(6<a):=by rw[eq_iff_iff];omega
@[simp] theorem natge_6 (a:Nat):(6<=(a:Int))=(6<=a):=by rw[eq_iff_iff];omega
@[simp] theorem nateq_6 (a:Nat):((a:Int)=6)=(a=6):=by rw[eq_iff_iff];omega
@[simp] theorem natlt_7 (a:Nat):((a:Int)<7)=(a<7):=by rw[eq_iff_iff];omega
@[simp] theorem natle_7 (a:Nat):((a:Int)<=7)=(a<=7):=by rw[eq_iff_iff];omega
@[simp] theorem natgt_7 (a:Nat):(7<(a:Int))=(7<a):=by rw[eq_iff_iff];omega
@[simp] theorem natge_7 (a:Nat):(7<=(a:Int))=(7<=a):=by rw[eq_iff_iff];omega
@[simp] theorem nateq_7 (a:Nat):((a:Int)=7)=(a=7):=by rw[eq_iff_iff];omega
@[simp] theorem natlt_8 (a:Nat):((a:Int)<8)=(a<8):=by rw[eq_iff_iff];omega
@[simp] theorem natle_8 (a:Nat):((a:Int)<=8)=(a<=8):=by rw[eq_iff_iff];omega
@[simp] theorem natgt_8 (a:Nat):(8<(a:Int))=(8<a):=by rw[eq_iff_iff];omega
@[simp] theorem natge_8 (a:Nat):(8<=(a:Int))=(8<=a):=by rw[eq_iff_iff];omega
@[simp] theorem nateq_8 (a:Nat):((a:Int)=8)=(a=8):=by rw[eq_iff_iff];omega
@[simp] theorem natlt_9 (a:Nat):((a:Int)<9)=(a<9):=by rw[eq_iff_iff];omega
@[simp] theorem natle_9 (a:Nat):((a:Int)<=9)=(a<=9):=by rw[eq_iff_iff];omega
@[simp] theorem natgt_9 (a:Nat):(9<(a:Int))=(9<a):=by rw[eq_iff_iff];omega
@[simp] theorem natge_9 (a:Nat):(9<=(a:Int))=(9<=a):=by rw[eq_iff_iff];omega
@[simp] theorem nateq_9 (a:Nat):((a:Int)=9)=(a=9):=by rw[eq_iff_iff];omega
@[simp] theorem natlt_10 (a:Nat):((a:Int)<10)=(a<10):=by rw[eq_iff_iff];omega
@[simp] theorem natle_10 (a:Nat):((a:Int)<=10)=(a<=10):=by rw[eq_iff_iff];omega
@[simp] theorem natgt_10 (a:Nat):(10<(a:Int))=(10<a):=by rw[eq_iff_iff];omega
@[simp] theorem natge_10 (a:Nat):(10<=(a:Int))=(10<=a):=by rw[eq_iff_iff];omega
@[simp] theorem nateq_10 (a:Nat):((a:Int)=10)=(a=10):=by rw[eq_iff_iff];omega
@[simp] theorem natlt_11 (a:Nat):((a:Int)<11)=(a<11):=by rw[eq_iff_iff];omega
@[simp] theorem natle_11 (a:Nat):((a:Int)<=11)=(a<=11):=by rw[eq_iff_iff];omega
@[simp] theorem natgt_11 (a:Nat):(11<(a:Int))=(11<a):=by rw[eq_iff_iff];omega
@[simp] theorem natge_11 (a:Nat):(11<=(a:Int))=(11<=a):=by rw[eq_iff_iff];omega
@[simp] theorem nateq_11 (a:Nat):((a:Int)=11)=(a=11):=by rw[eq_iff_iff];omega
@[simp] theorem natlt_12 (a:Nat):((a:Int)<12)=(a<12):=by rw[eq_iff_iff];omega
@[simp] theorem natle_12 (a:Nat):((a:Int)<=12)=(a<=12):=by rw[eq_iff_iff];omega
@[simp] theorem natgt_12 (a:Nat):(12<(a:Int))=(12<a):=by rw[eq_iff_iff];omega
@[simp] theorem natge_12 (a:Nat):(12<=(a:Int))=(12<=a):=by rw[eq_iff_iff];omega
@[simp] theorem nateq_12 (a:Nat):((a:Int)=12)=(a=12):=by rw[eq_iff_iff];omega
@[simp] theorem natlt_13 (a:Nat):((a:Int)<13)=(a<13):=by rw[eq_iff_iff];omega
@[simp] theorem natle_13 (a:Nat):((a:Int)<=13)=(a<=13):=by rw[eq_iff_iff];omega
@[simp] theorem natgt_13 (a:Nat):(13<(a:Int))=(13<a):=by rw[eq_iff_iff];omega
@[simp] theorem natge_13 (a:Nat):(13<=(a:Int))=(13<=a):=by rw[eq_iff_iff];omega
@[simp] theorem nateq_13 (a:Nat):((a:Int)=13)=(a=13):=by rw[eq_iff_iff];omega
@[simp] theorem natlt_14 (a:Nat):((a:Int)<14)=(a<14):=by rw[eq_iff_iff];omega
@[simp] theorem natle_14 (a:Nat):((a:Int)<=14)=(a<=14):=by rw[eq_iff_iff];omega
@[simp] theorem natgt_14 (a:Nat):(14<(a:Int))=(14<a):=by rw[eq_iff_iff];omega
@[simp] theorem natge_14 (a:Nat):(14<=(a:Int))=(14<=a):=by rw[eq_iff_iff];omega
@[simp] theorem nateq_14 (a:Nat):((a:Int)=14)=(a=14):=by rw[eq_iff_iff];omega
@[simp] theorem natlt_15 (a:Nat):((a:Int)<15)=(a<15):=by rw[eq_iff_iff];omega
@[simp] theorem natle_15 (a:Nat):((a:Int)<=15)=(a<=15):=by rw[eq_iff_iff];omega
@[simp] theorem natgt_15 (a:Nat):(15<(a:Int))=(15<a):=by rw[eq_iff_iff];omega
@[simp] theorem natge_15 (a:Nat):(15<=(a:Int))=(15<=a):=by rw[eq_iff_iff];omega
@[simp] theorem nateq_15 (a:Nat):((a:Int)=15)=(a=15):=by rw[eq_iff_iff];omega
@[simp] theorem natlt_16 (a:Nat):((a:Int)<16)=(a<16):=by rw[eq_iff_iff];omega
@[simp] theorem natle_16 (a:Nat):((a:Int)<=16)=(a<=16):=by rw[eq_iff_iff];omega
@[simp] theorem natgt_16 (a:Nat):(16<(a:Int))=(16<a):=by rw[eq_iff_iff];omega
@[simp] theorem natge_16 (a:Nat):(16<=(a:Int))=(16<=a):=by rw[eq_iff_iff];omega
@[simp] theorem nateq_16 (a:Nat):((a:Int)=16)=(a=16):=by rw[eq_iff_iff];omega
@[simp] theorem natlt_17 (a:Nat):((a:Int)<17)=(a<17):=by rw[eq_iff_iff];omega
@[simp] theorem natle_17 (a:Nat):((a:Int)<=17)=(a<=17):=by rw[eq_iff_iff];omega
@[simp] theorem natgt_17 (a:Nat):(17<(a:Int))=(17<a):=by rw[eq_iff_iff];omega
@[simp] theorem natge_17 (a:Nat):(17<=(a:Int))=(17<=a):=by rw[eq_iff_iff];omega
@[simp] theorem nateq_17 (a:Nat):((a:Int)=17)=(a=17):=by rw[eq_iff_iff];omega
@[simp] theorem natlt_18 (a:Nat):((a:Int)<18)=(a<18):=by rw[eq_iff_iff];omega
@[simp] theorem natle_18 (a:Nat):((a:Int)<=18)=(a<=18):=by rw[eq_iff_iff];omega
@[simp] theorem natgt_18 (a:Nat):(18<(a:Int))=(18<a):=by rw[eq_iff_iff];omega
@[simp] theorem natge_18 (a:Nat):(18<=(a:Int))=(18<=a):=by rw[eq_iff_iff];omega
@[simp] theorem nateq_18 (a:Nat):((a:Int)=18)=(a=18):=by rw[eq_iff_iff];omega
@[simp] theorem natlt_19 (a:Nat):((a:Int)<19)=(a<19):=by rw[eq_iff_iff];omega
@[simp] theorem natle_19 (a:Nat):((a:Int)<=19)=(a<=19):=by rw[eq_iff_iff];omega
@[simp] theorem natgt_19 (a:Nat):(19<(a:Int))=(19<a):=by rw[eq_iff_iff];omega
@[simp] theorem natge_19 (a:Nat):(19<=(a:Int))=(19<=a):=by rw[eq_iff_iff];omega
@[simp] theorem nateq_19 (a:Nat):((a:Int)=19)=(a=19):=by rw[eq_iff_iff];omega
@[simp] theorem natlt_20 (a:Nat):((a:Int)<20)=(a<20):=by rw[eq_iff_iff];omega
@[simp] theorem natle_20 (a:Nat):((a:Int)<=20)=(a<=20):=by rw[eq_iff_iff];omega
@[simp] theorem natgt_20 (a:Nat):(20<(a:Int))=(20<a):=by rw[eq_iff_iff];omega
@[simp] theorem natge_20 (a:Nat):(20<=(a:Int))=(20<=a):=by rw[eq_iff_iff];omega
@[simp] theorem nateq_20 (a:Nat):((a:Int)=20)=(a=20):=by rw[eq_iff_iff];omega
@[simp] theorem natlt_24 (a:Nat):((a:Int)<24)=(a<24):=by rw[eq_iff_iff];omega
@[simp] theorem natle_24 (a:Nat):((a:Int)<=24)=(a<=24):=by rw[eq_iff_iff];omega
@[simp] theorem natgt_24 (a:Nat):(24<(a:Int))=(24<a):=by rw[eq_iff_iff];omega
@[simp] theorem natge_24 (a:Nat):(24<=(a:Int))=(24<=a):=by rw[eq_iff_iff];omega
@[simp] theorem nateq_24 (a:Nat):((a:Int)=24)=(a=24):=by rw[eq_iff_iff];omega
@[simp] theorem natlt_26 (a:Nat):((a:Int)<26)=(a<26):=by rw[eq_iff_iff];omega
@[simp] theorem natle_26 (a:Nat):((a:Int)<=26)=(a<=26):=by rw[eq_iff_iff];omega
@[simp] theorem natgt_26 (a:Nat):(26<(a:Int))=(26<a):=by rw[eq_iff_iff];omega
@[simp] theorem natge_26 (a:Nat):(26<=(a:Int))=(26<=a):=by rw[eq_iff_iff];omega
@[simp] theorem nateq_26 (a:Nat):((a:Int)=26)=(a=26):=by rw[eq_iff_iff];omega
@[simp] theorem natlt_36 (a:Nat):((a:Int)<36)=(a<36):=by rw[eq_iff_iff];omega
@[simp] theorem natle_36 (a:Nat):((a:Int)<=36)=(a<=36):=by rw[eq_iff_iff];omega
@[simp] theorem natgt_36 (a:Nat):(36<(a:Int))=(36<a):=by rw[eq_iff_iff];omega
@[simp] theorem natge_36 (a:Nat):(36<=(a:Int))=(36<=a):=by rw[eq_iff_iff];omega
@[simp] theorem nateq_36 (a:Nat):((a:Int)=36)=(a=36):=by rw[eq_iff_iff];omega
@[simp] theorem nateq_1 (a:Nat):((a:Int)=1)=(a=1):=by rw[eq_iff_iff];omega
@[simp] theorem natlt_1 (a:Nat):((a:Int)<1)=(a<1):=by rw[eq_iff_iff];omega
@[simp] theorem Sp (s:St)(o:Oper):Aa [] s o=false:=rfl
@[simp] theorem WOk_e (W:List u5):Rh W []:=λ _ _ _ h=>by cases h
attribute [simp] Hi nL Ez vQ chk Bq note Ej rH jy xQ EB vz
attribute [simp] GY s7 bytesOf x7 ca cz jF tz DK J0 JY HM oN oNO mA tM CC rmL Sr qu rN Q1
end Go.Can
namespace Go.aK
open Go.Can
def cw (L:List Int)(i n:Nat):Nat×Nat:=match L[i]? with
 | none=>(0,i)
 | some x=>((x % (n:Int)).toNat,i+1)
theorem dH (L:List Int)(i:Nat){n:Nat}(h:0<n):(cw L i n).1<n:=by
 unfold cw;split
 .exact h
 .rename_i x _;have h1:=Int.emod_nonneg x (show (n:Int)≠0 by omega);have h2:=Int.emod_lt_of_pos x (show (0:Int)<n by omega);simp only;omega
theorem bq (L:List Int){i:Nat}(n:Nat)(h:i<=L.length):(cw L i n).2<=L.length:=by
 unfold cw;split
 .exact h
 .rename_i x hx;exact (List.getElem?_eq_some_iff.1 hx).1
def yS (L:List Int)(i:Nat):Nat×Nat:=if (cw L i 8).1=1 then cw L (cw L i 8).2 4611686018427387904 else cw L (cw L i 8).2 4
theorem Nz (L:List Int)(i:Nat):(yS L i).1<4611686018427387904:=by
 unfold yS;split
 .exact dH _ _ yA
 .exact Nat.lt_of_lt_of_le (dH L _ (show 0<4 by omega)) yA
theorem NA (L:List Int){i:Nat}(h:i<=L.length):(yS L i).2<=L.length:=by
 unfold yS;split
 .exact bq _ _ (bq _ _ h)
 .exact bq _ _ (bq _ _ h)
def sJ (L:List Int)(ns:List ByteArray)(i:Nat):Ex×Nat:=
 if 0<ns.length/\(cw L i 2).1=1 then (.nm (ns.getD (cw L (cw L i 2).2 ns.length).1 eS),(cw L (cw L i 2).2 ns.length).2)
 else (.num (yS L (if 0<ns.length then (cw L i 2).2 else i)).1,(yS L (if 0<ns.length then (cw L i 2).2 else i)).2)
theorem CW (L:List Int)(ns:List ByteArray){i:Nat}(h:i<=L.length):(sJ L ns i).2<=L.length:=by
 unfold sJ;split
 .exact bq _ _ (bq _ _ h)
 .refine NA L ?_;split
  .exact bq _ _ h
  .exact h
def sS (L:List Int)(ns:List ByteArray):Nat->Nat->Ex×Nat
 | 0,i=>sJ L ns (cw L i 10).2
 | d+1,i=>
  if (cw L i 10).1<2 then sJ L ns (cw L i 10).2
  else if (cw L i 10).1<4 then (.un ((cw L i 10).1 % 2) (sS L ns d (cw L i 10).2).1,(sS L ns d (cw L i 10).2).2)
  else (.bin (cw L (cw L i 10).2 13).1 (sS L ns d (cw L (cw L i 10).2 13).2).1 (sS L ns d (sS L ns d (cw L (cw L i 10).2 13).2).2).1,(sS L ns d (sS L ns d (cw L (cw L i 10).2 13).2).2).2)
theorem pA (L:List Int)(ns:List ByteArray):∀ (d:Nat) {i:Nat},i<=L.length->(sS L ns d i).2<=L.length
 | 0,i,h=>CW L ns (bq _ _ h)
 | d+1,i,h=>by
  rw[sS];split
  .exact CW L ns (bq _ _ h)
  .split
   .exact pA L ns d (bq _ _ h)
   .exact pA L ns d (pA L ns d (bq _ _ (bq _ _ h)))
def dJ (L:List Int)(ar:Bool)(vars:List ByteArray)(i:Nat):Ex×Nat:=if ar=true then sS L vars (1+(cw L i 2).1) (cw L i 2).2 else sS L vars 0 i
def qx (L:List Int)(ar:Bool)(vars:List ByteArray)(size i:Nat):Ex×Nat:=
 if ar=true/\(cw L i 3).1=1 then sS L vars 1 (cw L i 3).2 else (.num (cw L (if ar=true then (cw L i 3).2 else i) size).1,(cw L (if ar=true then (cw L i 3).2 else i) size).2)
theorem lp (L:List Int)(ar:Bool)(vars:List ByteArray){i:Nat}(h:i<=L.length):(dJ L ar vars i).2<=L.length:=by
 unfold dJ;split
 .exact pA _ _ _ (bq _ _ h)
 .exact pA _ _ _ h
theorem NX (L:List Int)(ar:Bool)(vars:List ByteArray)(size:Nat){i:Nat}(h:i<=L.length):(qx L ar vars size i).2<=L.length:=by
 unfold qx;split
 .exact pA _ _ _ (bq _ _ h)
 .refine bq _ _ ?_;split
  .exact bq _ _ h
  .exact h
def IW (p:Pm):List ByteArray:=if p.mutex=true then [p.name,p.name] else []
def cg (ms:List Mx)(ps:List Pm):List ByteArray:=ms.map (·.name)++ps.flatMap IW
def mg (ms:List Mx)(j:Nat):Nat:=match ms[j]? with
 | some m=>m.size
 | none=>0
def j6 (L:List Int)(ar:Bool)(ms:List Mx)(ps:List Pm)(vars:List ByteArray)(i:Nat):Rf×Nat:=
 if (cw L i (cg ms ps).length).1<ms.length/\0<mg ms (cw L i (cg ms ps).length).1 then
  (⟨(cg ms ps).getD (cw L i (cg ms ps).length).1 eS,some (qx L ar vars (mg ms (cw L i (cg ms ps).length).1) (cw L i (cg ms ps).length).2).1⟩,(qx L ar vars (mg ms (cw L i (cg ms ps).length).1) (cw L i (cg ms ps).length).2).2)
 else (⟨(cg ms ps).getD (cw L i (cg ms ps).length).1 eS,none⟩,(cw L i (cg ms ps).length).2)
theorem sB (L:List Int)(ar:Bool)(ms:List Mx)(ps:List Pm)(vars:List ByteArray){i:Nat}(h:i<=L.length):(j6 L ar ms ps vars i).2<=L.length:=by
 unfold j6;split
 .exact NX _ _ _ _ (bq _ _ h)
 .exact bq _ _ h
def dC (L:List Int)(ar:Bool)(ms:List Mx)(ps:List Pm)(vars:List ByteArray):List Pm->Nat->List Ar×Nat
 | [],i=>([],i)
 | p::r,i=>if p.mutex=true then (.xF (j6 L ar ms ps vars i).1::(dC L ar ms ps vars r (j6 L ar ms ps vars i).2).1,(dC L ar ms ps vars r (j6 L ar ms ps vars i).2).2)
  else (.exp (dJ L ar vars i).1::(dC L ar ms ps vars r (dJ L ar vars i).2).1,(dC L ar ms ps vars r (dJ L ar vars i).2).2)
theorem tK (L:List Int)(ar:Bool)(ms:List Mx)(ps:List Pm)(vars:List ByteArray):∀ (l:List Pm) {i:Nat},i<=L.length->(dC L ar ms ps vars l i).2<=L.length
 | [],_,h=>h
 | p::r,i,h=>by
  rw[dC];split
  .exact tK L ar ms ps vars r (sB _ _ _ _ _ h)
  .exact tK L ar ms ps vars r (lp _ _ _ h)
def strs (ns:List ByteArray):CV:=.az (ns.map .str) ns.length
end Go.aK
namespace Go.Proofs.YtlkmbdfhdknlgaaGreat
open Go.Can Tryz
def av:List (Nat×TI):=[
 (3,⟨.int .i64,1,8,[.int .i64 0]⟩),
 (4,⟨.bool,1,1,[.bool false]⟩),
 (5,⟨.int .u8,1,1,[.int .u8 0]⟩),
 (6,⟨.int .u8,1,1,[.int .u8 0]⟩),
 (9,⟨.str,1,16,[.str ⟨#[]⟩]⟩),
 (22,⟨.sl 3,1,24,[.aj]⟩),
 (23,⟨.sl 132,1,24,[.aj]⟩),
 (24,⟨.sl 98,1,24,[.aj]⟩),
 (25,⟨.sl 136,1,24,[.aj]⟩),
 (27,⟨.bp [(0,23),(1,24),(2,25)],3,72,[.aj,.aj,.aj]⟩),
 (28,⟨.sl 150,1,24,[.aj]⟩),
 (30,⟨.bp [(0,22),(1,24),(2,28),(3,3)],4,80,[.aj,.aj,.aj,.int .i64 0]⟩),
 (31,⟨.sl 95,1,24,[.aj]⟩),
 (32,⟨.sl 22,1,24,[.aj]⟩),
 (34,⟨.bp [(0,31),(1,32),(2,22)],3,72,[.aj,.aj,.aj]⟩),
 (37,⟨.sl 122,1,24,[.aj]⟩),
 (38,⟨.sl 81,1,24,[.aj]⟩),
 (40,⟨.bp [(0,22),(1,37),(2,38),(3,3)],4,80,[.aj,.aj,.aj,.int .i64 0]⟩),
 (43,⟨.sl 4,1,24,[.aj]⟩),
 (46,⟨.sl 54,1,24,[.aj]⟩),
 (48,⟨.bp [(0,3),(1,46)],2,32,[.int .i64 0,.aj]⟩),
 (54,⟨.bp [(0,3),(1,3)],2,16,[.int .i64 0,.int .i64 0]⟩),
 (69,⟨.int .i64,1,8,[.int .i64 0]⟩),
 (77,⟨.bp [(0,3),(1,3),(2,22),(3,22)],4,64,[.int .i64 0,.int .i64 0,.aj,.aj]⟩),
 (79,⟨.sl 77,1,24,[.aj]⟩),
 (81,⟨.bp [(0,79)],1,24,[.aj]⟩),
 (83,⟨.sl 85,1,24,[.aj]⟩),
 (85,⟨.bp [(0,3),(1,3),(2,9),(3,83)],4,56,[.int .i64 0,.int .i64 0,.str ⟨#[]⟩,.aj]⟩),
 (87,⟨.bp [(0,4),(1,3),(2,83)],3,40,[.bool false,.int .i64 0,.aj]⟩),
 (88,⟨.sl 87,1,24,[.aj]⟩),
 (90,⟨.bp [(0,3),(1,3),(2,4),(3,85),(7,87),(10,83),(11,88)],12,168,[.int .i64 0,.int .i64 0,.bool false,.int .i64 0,.int .i64 0,.str ⟨#[]⟩,.aj,.bool false,.int .i64 0,.aj,.aj,.aj]⟩),
 (95,⟨.bp [(0,3),(1,22)],2,32,[.int .i64 0,.aj]⟩),
 (98,⟨.bp [(0,9),(1,4),(2,3)],3,32,[.str ⟨#[]⟩,.bool false,.int .i64 0]⟩),
 (110,⟨.sl 5,1,24,[.aj]⟩),
 (122,⟨.bp [(0,3),(1,3)],2,16,[.int .i64 0,.int .i64 0]⟩),
 (106,⟨.ptr 77,1,8,[.bL]⟩),
 (124,⟨.ptr 126,1,8,[.bL]⟩),
 (126,⟨.bp [(0,22),(1,3)],2,32,[.aj,.int .i64 0]⟩),
 (128,⟨.bp [(0,124),(1,27),(4,3),(5,4)],6,96,[.bL,.aj,.aj,.aj,.int .i64 0,.bool false]⟩),
 (130,⟨.sl 9,1,24,[.aj]⟩),
 (132,⟨.bp [(0,9),(1,3)],2,24,[.str ⟨#[]⟩,.int .i64 0]⟩),
 (133,⟨.sl 138,1,24,[.aj]⟩),
 (134,⟨.sl 207,1,24,[.aj]⟩),
 (136,⟨.bp [(0,9),(1,133),(2,134)],3,64,[.str ⟨#[]⟩,.aj,.aj]⟩),
 (138,⟨.bp [(0,9),(1,4)],2,24,[.str ⟨#[]⟩,.bool false]⟩),
 (141,⟨.sl 145,1,24,[.aj]⟩),
 (145,⟨.bp [(0,9),(1,3),(2,3)],3,32,[.str ⟨#[]⟩,.int .i64 0,.int .i64 0]⟩),
 (148,⟨.sl 90,1,24,[.aj]⟩),
 (150,⟨.bp [(0,9),(1,3),(2,3),(3,3),(4,148)],5,64,[.str ⟨#[]⟩,.int .i64 0,.int .i64 0,.int .i64 0,.aj]⟩),
 (162,⟨.sl 32,1,24,[.aj]⟩),
 (175,⟨.sl 190,1,24,[.aj]⟩),
 (180,⟨.bp [(0,175),(1,3),(2,3),(3,69),(4,3),(5,3)],6,64,[.aj,.int .i64 0,.int .i64 0,.int .i64 0,.int .i64 0,.int .i64 0]⟩),
 (190,⟨.bp [(0,3),(1,9),(2,3),(3,3)],4,40,[.int .i64 0,.str ⟨#[]⟩,.int .i64 0,.int .i64 0]⟩),
 (201,⟨.bp [(0,32),(1,162),(2,22)],3,72,[.aj,.aj,.aj]⟩),
 (204,⟨.bp [(0,9),(1,83)],2,40,[.str ⟨#[]⟩,.aj]⟩),
 (205,⟨.sl 243,1,24,[.aj]⟩),
 (207,⟨.bp [(0,3),(1,9),(2,85),(6,204),(8,205),(9,134),(10,134)],11,192,[.int .i64 0,.str ⟨#[]⟩,.int .i64 0,.int .i64 0,.str ⟨#[]⟩,.aj,.str ⟨#[]⟩,.aj,.aj,.aj,.aj]⟩),
 (215,⟨.bp [(0,27),(3,141),(4,3),(5,3),(6,3),(7,69),(8,148),(9,22)],10,176,[.aj,.aj,.aj,.aj,.int .i64 0,.int .i64 0,.int .i64 0,.int .i64 0,.aj,.aj]⟩),
 (219,⟨.arr 6 3,6,48,[.int .i64 0,.int .i64 0,.int .i64 0,.int .i64 0,.int .i64 0,.int .i64 0]⟩),
 (221,⟨.bp [(0,3),(1,3),(2,219)],8,64,[.int .i64 0,.int .i64 0,.int .i64 0,.int .i64 0,.int .i64 0,.int .i64 0,.int .i64 0,.int .i64 0]⟩),
 (228,⟨.bp [(0,22),(1,22)],2,48,[.aj,.aj]⟩),
 (236,⟨.func,1,8,[.cH]⟩),
 (240,⟨.sl 3,1,24,[.aj]⟩),
 (243,⟨.bp [(0,4),(1,204),(3,85)],7,104,[.bool false,.str ⟨#[]⟩,.aj,.int .i64 0,.int .i64 0,.str ⟨#[]⟩,.aj]⟩),
 (264,⟨.bp [(0,30),(4,95),(6,3),(7,236)],8,128,[.aj,.aj,.aj,.int .i64 0,.int .i64 0,.aj,.int .i64 0,.cH]⟩),
 (269,⟨.int .u64,1,8,[.int .u64 0]⟩),
 (280,⟨.bp [],0,0,[]⟩),
 (282,⟨.bp [(0,3)],1,8,[.int .i64 0]⟩),
 (283,⟨.bp [(0,3)],1,8,[.int .i64 0]⟩),
 (284,⟨.bp [],0,0,[]⟩)]
theorem af:aF prog av:=
 aF.cons (cE.mk' Bw Bw rfl) <|
 aF.cons (cE.mk' Bw Bw rfl) <|
 aF.cons (cE.mk' Bw Bw rfl) <|
 aF.cons (cE.mk' Bw Bw rfl) <|
 aF.cons (cE.mk' Bw Bw rfl) <|
 aF.cons (cE.mk' Bw Bw rfl) <|
 aF.cons (cE.mk' Bw Bw rfl) <|
 aF.cons (cE.mk' Bw Bw rfl) <|
 aF.cons (cE.mk' Bw Bw rfl) <|
 aF.cons (cE.mk' Bw Bw rfl) <|
 aF.cons (cE.mk' Bw Bw rfl) <|
 aF.cons (cE.mk' Bw Bw rfl) <|
 aF.cons (cE.mk' Bw Bw rfl) <|
 aF.cons (cE.mk' Bw Bw rfl) <|
 aF.cons (cE.mk' Bw Bw rfl) <|
 aF.cons (cE.mk' Bw Bw rfl) <|
 aF.cons (cE.mk' Bw Bw rfl) <|
 aF.cons (cE.mk' Bw Bw rfl) <|
 aF.cons (cE.mk' Bw Bw rfl) <|
 aF.cons (cE.mk' Bw Bw rfl) <|
 aF.cons (cE.mk' Bw Bw rfl) <|
 aF.cons (cE.mk' Bw Bw rfl) <|
 aF.cons (cE.mk' Bw Bw rfl) <|
 aF.cons (cE.mk' Bw Bw rfl) <|
 aF.cons (cE.mk' Bw Bw rfl) <|
 aF.cons (cE.mk' Bw Bw rfl) <|
 aF.cons (cE.mk' Bw Bw rfl) <|
 aF.cons (cE.mk' Bw Bw rfl) <|
 aF.cons (cE.mk' Bw Bw rfl) <|
 aF.cons (cE.mk' Bw Bw rfl) <|
 aF.cons (cE.mk' Bw Bw rfl) <|
 aF.cons (cE.mk' Bw Bw rfl) <|
 aF.cons (cE.mk' Bw Bw rfl) <|
 aF.cons (cE.mk' Bw Bw rfl) <|
 aF.cons (cE.mk' Bw Bw rfl) <|
 aF.cons (cE.mk' Bw Bw rfl) <|
 aF.cons (cE.mk' Bw Bw rfl) <|
 aF.cons (cE.mk' Bw Bw rfl) <|
 aF.cons (cE.mk' Bw Bw rfl) <|
 aF.cons (cE.mk' Bw Bw rfl) <|
 aF.cons (cE.mk' Bw Bw rfl) <|
 aF.cons (cE.mk' Bw Bw rfl) <|
 aF.cons (cE.mk' Bw Bw rfl) <|
 aF.cons (cE.mk' Bw Bw rfl) <|
 aF.cons (cE.mk' Bw Bw rfl) <|
 aF.cons (cE.mk' Bw Bw rfl) <|
 aF.cons (cE.mk' Bw Bw rfl) <|
 aF.cons (cE.mk' Bw Bw rfl) <|
 aF.cons (cE.mk' Bw Bw rfl) <|
 aF.cons (cE.mk' Bw Bw rfl) <|
 aF.cons (cE.mk' Bw Bw rfl) <|
 aF.cons (cE.mk' Bw Bw rfl) <|
 aF.cons (cE.mk' Bw Bw rfl) <|
 aF.cons (cE.mk' Bw Bw rfl) <|
 aF.cons (cE.mk' Bw Bw rfl) <|
 aF.cons (cE.mk' Bw Bw rfl) <|
 aF.cons (cE.mk' Bw Bw rfl) <|
 aF.cons (cE.mk' Bw Bw rfl) <|
 aF.cons (cE.mk' Bw Bw rfl) <|
 aF.cons (cE.mk' Bw Bw rfl) <|
 aF.cons (cE.mk' Bw Bw rfl) <|
 aF.cons (cE.mk' Bw Bw rfl) <|
 aF.cons (cE.mk' Bw Bw rfl) <|
 aF.cons (cE.mk' Bw Bw rfl) <|
 aF.cons (cE.mk' Bw Bw rfl) <|
 aF.cons (cE.mk' Bw Bw rfl) <|
 aF.cons (cE.mk' Bw Bw rfl) <|
 aF.cons (cE.mk' Bw Bw rfl) <|
 aF.cons (cE.mk' Bw Bw rfl) <|
 aF.cons (cE.mk' Bw Bw rfl) <| aF.nil
@[simp] theorem tab3:assoc av 3=some ⟨.int .i64,1,8,[.int .i64 0]⟩:=rfl
@[simp] theorem tab4:assoc av 4=some ⟨.bool,1,1,[.bool false]⟩:=rfl
@[simp] theorem tab5:assoc av 5=some ⟨.int .u8,1,1,[.int .u8 0]⟩:=rfl
@[simp] theorem tab6:assoc av 6=some ⟨.int .u8,1,1,[.int .u8 0]⟩:=rfl
@[simp] theorem tab9:assoc av 9=some ⟨.str,1,16,[.str ⟨#[]⟩]⟩:=rfl
@[simp] theorem tab22:assoc av 22=some ⟨.sl 3,1,24,[.aj]⟩:=rfl
@[simp] theorem tab23:assoc av 23=some ⟨.sl 132,1,24,[.aj]⟩:=rfl
@[simp] theorem tab24:assoc av 24=some ⟨.sl 98,1,24,[.aj]⟩:=rfl
@[simp] theorem tab25:assoc av 25=some ⟨.sl 136,1,24,[.aj]⟩:=rfl
@[simp] theorem tab27:assoc av 27=some ⟨.bp [(0,23),(1,24),(2,25)],3,72,[.aj,.aj,.aj]⟩:=rfl
@[simp] theorem tab28:assoc av 28=some ⟨.sl 150,1,24,[.aj]⟩:=rfl
@[simp] theorem tab30:assoc av 30=some ⟨.bp [(0,22),(1,24),(2,28),(3,3)],4,80,[.aj,.aj,.aj,.int .i64 0]⟩:=rfl
@[simp] theorem tab31:assoc av 31=some ⟨.sl 95,1,24,[.aj]⟩:=rfl
@[simp] theorem tab32:assoc av 32=some ⟨.sl 22,1,24,[.aj]⟩:=rfl
@[simp] theorem tab34:assoc av 34=some ⟨.bp [(0,31),(1,32),(2,22)],3,72,[.aj,.aj,.aj]⟩:=rfl
@[simp] theorem tab37:assoc av 37=some ⟨.sl 122,1,24,[.aj]⟩:=rfl
@[simp] theorem tab38:assoc av 38=some ⟨.sl 81,1,24,[.aj]⟩:=rfl
@[simp] theorem tab40:assoc av 40=some ⟨.bp [(0,22),(1,37),(2,38),(3,3)],4,80,[.aj,.aj,.aj,.int .i64 0]⟩:=rfl
@[simp] theorem tab43:assoc av 43=some ⟨.sl 4,1,24,[.aj]⟩:=rfl
@[simp] theorem tab46:assoc av 46=some ⟨.sl 54,1,24,[.aj]⟩:=rfl
@[simp] theorem tab48:assoc av 48=some ⟨.bp [(0,3),(1,46)],2,32,[.int .i64 0,.aj]⟩:=rfl
@[simp] theorem tab54:assoc av 54=some ⟨.bp [(0,3),(1,3)],2,16,[.int .i64 0,.int .i64 0]⟩:=rfl
@[simp] theorem tab69:assoc av 69=some ⟨.int .i64,1,8,[.int .i64 0]⟩:=rfl
@[simp] theorem tab77:assoc av 77=some ⟨.bp [(0,3),(1,3),(2,22),(3,22)],4,64,[.int .i64 0,.int .i64 0,.aj,.aj]⟩:=rfl
@[simp] theorem tab79:assoc av 79=some ⟨.sl 77,1,24,[.aj]⟩:=rfl
@[simp] theorem tab81:assoc av 81=some ⟨.bp [(0,79)],1,24,[.aj]⟩:=rfl
@[simp] theorem tab83:assoc av 83=some ⟨.sl 85,1,24,[.aj]⟩:=rfl
@[simp] theorem tab85:assoc av 85=some ⟨.bp [(0,3),(1,3),(2,9),(3,83)],4,56,[.int .i64 0,.int .i64 0,.str ⟨#[]⟩,.aj]⟩:=rfl
@[simp] theorem tab87:assoc av 87=some ⟨.bp [(0,4),(1,3),(2,83)],3,40,[.bool false,.int .i64 0,.aj]⟩:=rfl
@[simp] theorem tab88:assoc av 88=some ⟨.sl 87,1,24,[.aj]⟩:=rfl
@[simp] theorem tab90:assoc av 90=some ⟨.bp [(0,3),(1,3),(2,4),(3,85),(7,87),(10,83),(11,88)],12,168,[.int .i64 0,.int .i64 0,.bool false,.int .i64 0,.int .i64 0,.str ⟨#[]⟩,.aj,.bool false,.int .i64 0,.aj,.aj,.aj]⟩:=rfl
@[simp] theorem tab95:assoc av 95=some ⟨.bp [(0,3),(1,22)],2,32,[.int .i64 0,.aj]⟩:=rfl
@[simp] theorem tab98:assoc av 98=some ⟨.bp [(0,9),(1,4),(2,3)],3,32,[.str ⟨#[]⟩,.bool false,.int .i64 0]⟩:=rfl
@[simp] theorem tab110:assoc av 110=some ⟨.sl 5,1,24,[.aj]⟩:=rfl
@[simp] theorem tab122:assoc av 122=some ⟨.bp [(0,3),(1,3)],2,16,[.int .i64 0,.int .i64 0]⟩:=rfl
@[simp] theorem tab106:assoc av 106=some ⟨.ptr 77,1,8,[.bL]⟩:=rfl
@[simp] theorem tab124:assoc av 124=some ⟨.ptr 126,1,8,[.bL]⟩:=rfl
@[simp] theorem tab126:assoc av 126=some ⟨.bp [(0,22),(1,3)],2,32,[.aj,.int .i64 0]⟩:=rfl
@[simp] theorem tab128:assoc av 128=some ⟨.bp [(0,124),(1,27),(4,3),(5,4)],6,96,[.bL,.aj,.aj,.aj,.int .i64 0,.bool false]⟩:=rfl
@[simp] theorem tab130:assoc av 130=some ⟨.sl 9,1,24,[.aj]⟩:=rfl
@[simp] theorem tab132:assoc av 132=some ⟨.bp [(0,9),(1,3)],2,24,[.str ⟨#[]⟩,.int .i64 0]⟩:=rfl
@[simp] theorem tab133:assoc av 133=some ⟨.sl 138,1,24,[.aj]⟩:=rfl
@[simp] theorem tab134:assoc av 134=some ⟨.sl 207,1,24,[.aj]⟩:=rfl
@[simp] theorem tab136:assoc av 136=some ⟨.bp [(0,9),(1,133),(2,134)],3,64,[.str ⟨#[]⟩,.aj,.aj]⟩:=rfl
@[simp] theorem tab138:assoc av 138=some ⟨.bp [(0,9),(1,4)],2,24,[.str ⟨#[]⟩,.bool false]⟩:=rfl
@[simp] theorem tab141:assoc av 141=some ⟨.sl 145,1,24,[.aj]⟩:=rfl
@[simp] theorem tab145:assoc av 145=some ⟨.bp [(0,9),(1,3),(2,3)],3,32,[.str ⟨#[]⟩,.int .i64 0,.int .i64 0]⟩:=rfl
@[simp] theorem tab148:assoc av 148=some ⟨.sl 90,1,24,[.aj]⟩:=rfl
@[simp] theorem tab150:assoc av 150=some ⟨.bp [(0,9),(1,3),(2,3),(3,3),(4,148)],5,64,[.str ⟨#[]⟩,.int .i64 0,.int .i64 0,.int .i64 0,.aj]⟩:=rfl
@[simp] theorem tab162:assoc av 162=some ⟨.sl 32,1,24,[.aj]⟩:=rfl
@[simp] theorem tab175:assoc av 175=some ⟨.sl 190,1,24,[.aj]⟩:=rfl
@[simp] theorem tab180:assoc av 180=some ⟨.bp [(0,175),(1,3),(2,3),(3,69),(4,3),(5,3)],6,64,[.aj,.int .i64 0,.int .i64 0,.int .i64 0,.int .i64 0,.int .i64 0]⟩:=rfl
@[simp] theorem tab190:assoc av 190=some ⟨.bp [(0,3),(1,9),(2,3),(3,3)],4,40,[.int .i64 0,.str ⟨#[]⟩,.int .i64 0,.int .i64 0]⟩:=rfl
@[simp] theorem tab201:assoc av 201=some ⟨.bp [(0,32),(1,162),(2,22)],3,72,[.aj,.aj,.aj]⟩:=rfl
@[simp] theorem tab204:assoc av 204=some ⟨.bp [(0,9),(1,83)],2,40,[.str ⟨#[]⟩,.aj]⟩:=rfl
@[simp] theorem tab205:assoc av 205=some ⟨.sl 243,1,24,[.aj]⟩:=rfl
@[simp] theorem tab207:assoc av 207=some ⟨.bp [(0,3),(1,9),(2,85),(6,204),(8,205),(9,134),(10,134)],11,192,[.int .i64 0,.str ⟨#[]⟩,.int .i64 0,.int .i64 0,.str ⟨#[]⟩,.aj,.str ⟨#[]⟩,.aj,.aj,.aj,.aj]⟩:=rfl
@[simp] theorem tab215:assoc av 215=some ⟨.bp [(0,27),(3,141),(4,3),(5,3),(6,3),(7,69),(8,148),(9,22)],10,176,[.aj,.aj,.aj,.aj,.int .i64 0,.int .i64 0,.int .i64 0,.int .i64 0,.aj,.aj]⟩:=rfl
@[simp] theorem tab219:assoc av 219=some ⟨.arr 6 3,6,48,[.int .i64 0,.int .i64 0,.int .i64 0,.int .i64 0,.int .i64 0,.int .i64 0]⟩:=rfl
@[simp] theorem tab221:assoc av 221=some ⟨.bp [(0,3),(1,3),(2,219)],8,64,[.int .i64 0,.int .i64 0,.int .i64 0,.int .i64 0,.int .i64 0,.int .i64 0,.int .i64 0,.int .i64 0]⟩:=rfl
@[simp] theorem tab228:assoc av 228=some ⟨.bp [(0,22),(1,22)],2,48,[.aj,.aj]⟩:=rfl
@[simp] theorem tab236:assoc av 236=some ⟨.func,1,8,[.cH]⟩:=rfl
@[simp] theorem tab240:assoc av 240=some ⟨.sl 3,1,24,[.aj]⟩:=rfl
@[simp] theorem tab243:assoc av 243=some ⟨.bp [(0,4),(1,204),(3,85)],7,104,[.bool false,.str ⟨#[]⟩,.aj,.int .i64 0,.int .i64 0,.str ⟨#[]⟩,.aj]⟩:=rfl
@[simp] theorem tab264:assoc av 264=some ⟨.bp [(0,30),(4,95),(6,3),(7,236)],8,128,[.aj,.aj,.aj,.int .i64 0,.int .i64 0,.aj,.int .i64 0,.cH]⟩:=rfl
@[simp] theorem tab269:assoc av 269=some ⟨.int .u64,1,8,[.int .u64 0]⟩:=rfl
@[simp] theorem tab280:assoc av 280=some ⟨.bp [],0,0,[]⟩:=rfl
@[simp] theorem tab282:assoc av 282=some ⟨.bp [(0,3)],1,8,[.int .i64 0]⟩:=rfl
@[simp] theorem tab283:assoc av 283=some ⟨.bp [(0,3)],1,8,[.int .i64 0]⟩:=rfl
@[simp] theorem tab284:assoc av 284=some ⟨.bp [],0,0,[]⟩:=rfl
theorem follows:Tryz.prog.follows .mixedOrders=true:=by kernel_rfl
theorem cr (n:Int)(h : -9223372036854775808<=n)(h':n<=9223372036854775807):IntKind.i64.wrap n=n:=IntWalk.i64_in n ⟨h,h'⟩
section
variable {C:Cx}{s:St}{Q:Exit->St->Prop}{x y:Code}{id:Nat}{l:List Oper}{ops:Array Oper}{K:St->Prop}
theorem aq (h:BJ av C.nt l.toArray (DZ prog C l.toArray (fz (λ s'=>T prog C y s' Q) Q .normal)) l s):T prog C (.seq (.region id l.toArray false) y) s Q:=T.seq (T.go' af h)
theorem aW (h:BJ av C.nt l.toArray (DZ prog C l.toArray (fz (λ s'=>T prog C x s' (fz (λ s'=>T prog C y s' Q) Q)) (fz (λ s'=>T prog C y s' Q) Q) .normal)) l s):T prog C (.seq (.seq (.region id l.toArray false) x) y) s Q:=T.seq (T.seq (T.go' af h))
theorem cS {o:Oper}{c:Call}{g:FuncId}{cs:List CV}{r:CV}(ht:trees cs=true)(hp:ae prog g cs r)(h:BJ av C.nt ops (DZ prog C ops K) l (s.put o.dst r))(hd:bj C.nt o.dst=true:=by simp[hC])(hg:o.guard=none:=by rfl)(ho:o.op=.call c:=by rfl)(SP:bK s c=some (g,cs):=by rfl):TL prog C ops (o::l) s K:=TL.call hd hg ho (bW.of SP ht hp) (TL.go' af h)
end
section
variable {C:Cx}{s:St}{Q:Exit->St->Prop}{x y:Code}{c:Operand}{id:Nat}{l:List Oper}
theorem gk (h:Q .normal s)(hc:ev s c=some (.bool false):=by rfl):T prog C (.cond c x .skip) s Q:=T.cond (b:=false) hc (T.skip h)
theorem jk (h:Q .normal s)(hc:ev s c=some (.bool true):=by rfl):T prog C (.cond c .skip y) s Q:=T.cond (b:=true) hc (T.skip h)
theorem bg (h:T prog C (if false then x else y) s Q)(hc:ev s c=some (.bool false):=by rfl):T prog C (.cond c x y) s Q:=T.cond (b:=false) hc h
theorem qJ (h:T prog C (if false then x else y) s Q)(hc:ev s c=some (.bool false):=by first | rfl | (simp[ev,assoc];done)):T prog C (.cond c x y) s Q:=T.cond (b:=false) hc h
theorem du (h:T prog C (if true then x else y) s Q)(hc:ev s c=some (.bool true):=by rfl):T prog C (.cond c x y) s Q:=T.cond (b:=true) hc h
theorem aM (h:BJ av C.nt l.toArray (DZ prog C l.toArray (Q .normal)) l s):T prog C (.region id l.toArray false) s Q:=T.go' af h
theorem eE {i:Nat}(h:T prog C x s (rJ i (fz (λ s'=>T prog C y s' Q) Q))):T prog C (.seq (.block i x) y) s Q:=T.seq (T.block h)
end
end Go.Proofs.YtlkmbdfhdknlgaaGreat
namespace Go.Can
open List
mutual
theorem bG (n:Nat):∀ c:CV,tree c=true->aU n c=true
 | .a7 _ _ _,h=>by simp[tree] at h
 | .ax _ _,h=>by simp[tree] at h
 | .iter _ _ _,h=>by simp[tree] at h
 | .mp _ _,h=>by simp[tree] at h
 | .agg cs,h=>by
  simp only[tree] at h;simp only[aU];exact bF n cs h
 | .fn _ cs,h=>by
  simp only[tree] at h;simp only[aU];exact bF n cs h
 | .iface _ cs,h=>by
  simp only[tree] at h;simp only[aU];exact bF n cs h
 | .cF cs,h=>by
  simp only[tree] at h;simp only[aU];exact bF n cs h
 | .int _ _,_=>rfl
 | .bool _,_=>rfl
 | .str _,_=>rfl
 | .az _ _,_=>rfl
 | .aj,_=>rfl
 | .cM _,_=>rfl
 | .bL,_=>rfl
 | .cH,_=>rfl
 | .any,_=>rfl
theorem bF (n:Nat):∀ cs:List CV,trees cs=true->ba n cs=true
 | [],_=>rfl
 | c::cs,h=>by
  simp only[trees,Bool.and_eq_true] at h;simp only[ba,Bool.and_eq_true];exact⟨bG n c h.1,bF n cs h.2⟩
end
mutual
theorem nE (n:Nat):∀ c:CV,tree c=true->aS n c=true
 | .a7 _ _ _,h=>by simp[tree] at h
 | .ax _ _,h=>by simp[tree] at h
 | .iter _ _ _,h=>by simp[tree] at h
 | .mp _ _,h=>by simp[tree] at h
 | .agg cs,h=>by
  simp only[tree] at h;simp only[aS];exact jN n cs h
 | .fn _ cs,h=>by
  simp only[tree] at h;simp only[aS];exact jN n cs h
 | .iface _ cs,h=>by
  simp only[tree] at h;simp only[aS];exact jN n cs h
 | .cF cs,h=>by
  simp only[tree] at h;simp only[aS];exact jN n cs h
 | .int _ _,_=>rfl
 | .bool _,_=>rfl
 | .str _,_=>rfl
 | .az _ _,_=>rfl
 | .aj,_=>rfl
 | .cM _,_=>rfl
 | .bL,_=>rfl
 | .cH,_=>rfl
 | .any,_=>rfl
theorem jN (n:Nat):∀ cs:List CV,trees cs=true->ej n cs=true
 | [],_=>rfl
 | c::cs,h=>by
  simp only[trees,Bool.and_eq_true] at h;simp only[ej,Bool.and_eq_true];exact⟨nE n c h.1,jN n cs h.2⟩
end
def dG (o q:Nat):CV->CV
 | .a7 p off n=>.a7 (if p=o then q else p) off n
 | .ax p off=>.ax (if p=o then q else p) off
 | c=>c
def oM (o q:Nat):CV->Bool
 | .a7 p _ _=>p != q
 | .ax p _=>p != q
 | c=>aS o c && aS q c
def lL (o q:Nat):CV->CV
 | .agg cs=>.agg (cs.map (dG o q))
 | c=>dG o q c
def BI (o q:Nat):CV->Bool
 | .agg cs=>cs.all (oM o q)
 | c=>oM o q c
def zm (o q:Nat):List (Nat×CV)->List (Nat×CV)
 | []=>[]
 | (t,c)::r=>(t,lL o q c)::zm o q r
def AA (o q:Nat):List (Nat×Ob)->List (Nat×Ob)
 | []=>[]
 | (k,ob)::r=>(if k=o then q else k,⟨ob.elem,ob.sz,ob.cells.map (dG o q)⟩)::AA o q r
def okH (o q:Nat):List (Nat×Ob)->Bool
 | []=>true
 | (_,ob)::r=>ob.cells.all (oM o q) && okH o q r
section
variable {P:Program}{C:Cx}{U:Nat->Option OB}{s:St}{a:Act}{w:World}
theorem Kh (o q:Nat)(c:CV):one (dG o q c)=one c:=by cases c<;>rfl
theorem tY (o q:Nat)(cs:List CV):(cs.map (dG o q)).all one=cs.all one:=by
 induction cs with
 | nil=>rfl
 | cons c cs ih=>simp only[map_cons,all_cons,Kh,ih]
theorem VR.dG {F F':Nat->Prop}{σ':Nat->Option OB}{o q:Nat}(hk:cL w w F F')(hq:σ' q=U o)(SL:∀ p,p≠q->σ' p=U p){c:CV}{v:Value}(SU:oM o q c=true)(h:VR w F U c v):VR w F' σ' (dG o q c) v:=by
 have gen:aS q c=true->VR w F' σ' c v:=λ hn=>VR.bD hk _ _ (λ p hp=>SL p λ e=>by subst e;rw[hn] at hp;cases hp) h
 cases c with
 | a7 p off n=>
  simp only[oM,bne_iff_ne,ne_eq] at SU;simp only[Can.dG];split
  .rename_i e;subst e;simp only[VR] at h |-;obtain⟨B,h1,h2⟩:=h;exact⟨B,by rw[hq];exact h1,h2⟩
  .exact gen (by simpa [aS] using SU)
 | ax p off=>
  simp only[oM,bne_iff_ne,ne_eq] at SU;simp only[Can.dG];split
  .rename_i e;subst e;simp only[VR] at h |-;obtain⟨B,b,h1,h2⟩:=h;exact⟨B,b,by rw[hq];exact h1,h2⟩
  .exact gen (by simpa [aS] using SU)
 | _=>
  simp only[oM,Bool.and_eq_true] at SU;exact gen SU.2
theorem aZ.dG {F F':Nat->Prop}{σ':Nat->Option OB}{o q:Nat}(hk:cL w w F F')(hq:σ' q=U o)(SL:∀ p,p≠q->σ' p=U p):∀ {cs:List CV} {vs:List Value},cs.all (oM o q)=true->aZ w F U cs vs->aZ w F' σ' (cs.map (Can.dG o q)) vs
 | [],_,_,h=>h
 | c::cs,_,SU,⟨v,r,e,h1,h2⟩=>by
  simp only[all_cons,Bool.and_eq_true] at SU;exact⟨v,r,e,VR.dG hk hq SL SU.1 h1,aZ.dG hk hq SL SU.2 h2⟩
theorem VR.lL {F F':Nat->Prop}{σ':Nat->Option OB}{o q:Nat}(hk:cL w w F F')(hq:σ' q=U o)(SL:∀ p,p≠q->σ' p=U p){c:CV}{v:Value}(SU:BI o q c=true)(h:VR w F U c v):VR w F' σ' (lL o q c) v:=by
 cases c with
 | agg cs=>
  simp only[VR] at h;obtain⟨vs,h1,h2,h3⟩:=h;simp only[Can.lL,VR];exact⟨vs,h1,aZ.dG hk hq SL SU h2,by rw[tY];exact h3⟩
 | _=>
  simp only[BI] at SU;simp only[Can.lL];exact VR.dG hk hq SL SU h
theorem vh (o q:Nat):∀ (e:List (Nat×CV)) (t:Nat) (c:CV),assoc (zm o q e) t=some c->∃ d,assoc e t=some d/\c=Can.lL o q d
 | [],_,_,h=>by simp[zm,assoc] at h
 | (k,d)::r,t,c,h=>by
  simp only[zm,assoc] at h |-;split at h
  .rename_i e;rw[if_pos e];cases h;exact⟨d,rfl,rfl⟩
  .rename_i e;rw[if_neg e];exact vh o q r t c h
theorem k8 (o q:Nat):∀ (H:List (Nat×Ob)) (p:Nat) (ob:Ob),assoc H q=none->assoc (AA o q H) p=some ob->∃ p' SN,assoc H p'=some SN/\p=(if p'=o then q else p')/\ob=⟨SN.elem,SN.sz,SN.cells.map (Can.dG o q)⟩
 | [],_,_,_,h=>by simp[AA,assoc] at h
 | (k,x)::r,p,ob,hq,h=>by
  by_cases hkq:k=q
  .simp[assoc,hkq] at hq
  .simp only[assoc,if_neg hkq] at hq;by_cases e:(if k=o then q else k)=p
   .simp only[AA,assoc,if_pos e,Option.some.injEq] at h;exact⟨k,x,by simp[assoc],e.symm,h.symm⟩
   .simp only[AA,assoc,if_neg e] at h;obtain⟨p',SN,h1,h2,h3⟩:=k8 o q r p ob hq h;refine⟨p',SN,?_,h2,h3⟩;simp only[assoc];rw[if_neg λ e'=>e (by rw[h2,e'])];exact h1
theorem Kk (o q:Nat):∀ {H:List (Nat×Ob)},okH o q H=true->∀ p ob,assoc H p=some ob->ob.cells.all (oM o q)=true
 | [],_,p,ob,h=>by simp[assoc] at h
 | (k,x)::r,h,p,ob,hp=>by
  simp only[okH,Bool.and_eq_true] at h;simp only[assoc] at hp;split at hp
  .cases hp;exact h.1
  .exact Kk o q h.2 p ob hp
theorem Le.qt (o q:Nat){ob:Ob}(ho:assoc s.heap o=Option.some ob)(hq:assoc s.heap q=Option.none)(hn:C.n0<=q)(hx:q<s.nx)(he:(s.env.all λ x=>BI o q x.2)=true)(hH:okH o q s.heap=true):Le C s ⟨zm o q s.env,AA o q s.heap,s.nx⟩:=by
 intro a w ⟨U,h⟩;rw[all_eq_true] at he;obtain⟨σ',hσ⟩:∃ σ':Nat->Option OB,∀ x,σ' x=if x=q then U o else U x:=⟨_,λ _=>rfl⟩
 have s1:σ' q=U o:=by rw[hσ,if_pos rfl]
 have s2:∀ p,p≠q->σ' p=U p:=λ p hp=>by rw[hσ,if_neg hp]
 have s3:∀ p,p≠q->σ' (if p=o then q else p)=U p:=λ p hp=>by
  split
  .rename_i e;rw[s1,e]
  .exact s2 p hp
 have XL:∀ p x,assoc s.heap p=some x->p≠q:=λ p x hp e=>by rw[e,hq] at hp;cases hp
 have hF:∀ b,FB C σ' (AA o q s.heap) b->FB C U s.heap b:=by
  rintro b (hb | ⟨p,x,hp,hb⟩)
  .exact .inl hb
  .obtain⟨p',y,h1,h2,h3⟩:=k8 o q s.heap p x hq hp;refine .inr ⟨p',y,h1,?_⟩;unfold a6 at hb |-;rwa [h2,s3 p' (XL p' y h1)] at hb
 have hk:cL w w (FB C U s.heap) (FB C σ' (AA o q s.heap)):=cL.same hF;refine⟨σ',h.pB,h.tm,h.os,h.tape,h.output,h.size,h.frame,?_,?_,?_,?_,?_,h.low,?_⟩
 .intro t c hc;obtain⟨d,hd,rfl⟩:=vh o q s.env t c hc;obtain⟨v,k1,k2⟩:=h.env t d hd;exact⟨v,k1,VR.lL hk s1 s2 (he _ (bA _ _ _ hd)) k2⟩
 .intro p x hp;obtain⟨p',y,h1,h2,h3⟩:=k8 o q s.heap p x hq hp;obtain⟨B,m1,m2,m3,m4,m5⟩:=h.obj p' y h1;subst h3;refine⟨B,by rw[h2,s3 p' (XL p' y h1)];exact m1,m2,λ hb=>by simp[m3 hb],by simp only[tY];exact m4,λ b hb=>?_⟩;obtain⟨cur,n1,n2,n3,n4,n5,n6⟩:=m5 b hb;refine⟨cur,n1,n2,n3,n4,by simpa using n5,?_⟩;simp only[length_map];exact aZ.dG hk s1 s2 (Kk o q hH p' y h1) n6
 .intro p p1 x x1 b hp ZX hb WW;obtain⟨p',y,h1,h2,h3⟩:=k8 o q s.heap p x hq hp;obtain⟨p1',y1,g1,g2,g3⟩:=k8 o q s.heap p1 x1 hq ZX;unfold a6 at hb WW;rw[h2,s3 p' (XL p' y h1)] at hb;rw[g2,s3 p1' (XL p1' y1 g1)] at WW;have:=h.inj p' p1' y y1 b h1 g1 hb WW;rw[h2,g2,this]
 .intro p hp;simp only at hp;rw[s2 p yA];exact h.nx p hp
 .intro p hp;rw[s2 p yA];exact h.gH p hp
 .intro p B b hp hB hb;by_cases e:p=q
  .subst e;rw[s1] at hB;obtain⟨B',m1,_,_,_,m5⟩:=h.obj o ob ho;rw[m1] at hB;cases hB;obtain⟨cur,_,_,_,n4,_⟩:=m5 b hb;exact n4
  .rw[s2 p e] at hB;exact h.new p B b hp hB hb
@[simp] theorem ren1_int (o q:Nat)(k:IntKind)(n:Int):dG o q (.int k n)=(.int k n):=rfl
@[simp] theorem ok1_int (o q:Nat)(k:IntKind)(n:Int):oM o q (.int k n)=(aS o (.int k n) && aS q (.int k n)):=rfl
@[simp] theorem renC_int (o q:Nat)(k:IntKind)(n:Int):lL o q (.int k n)=(.int k n):=rfl
@[simp] theorem okC_int (o q:Nat)(k:IntKind)(n:Int):BI o q (.int k n)=(aS o (.int k n) && aS q (.int k n)):=rfl
@[simp] theorem RK (o q:Nat)(b:Bool):dG o q (.bool b)=(.bool b):=rfl
@[simp] theorem ok1_bool (o q:Nat)(b:Bool):oM o q (.bool b)=(aS o (.bool b) && aS q (.bool b)):=rfl
@[simp] theorem RH (o q:Nat)(b:Bool):lL o q (.bool b)=(.bool b):=rfl
@[simp] theorem okC_bool (o q:Nat)(b:Bool):BI o q (.bool b)=(aS o (.bool b) && aS q (.bool b)):=rfl
@[simp] theorem ren1_str (o q:Nat)(s:ByteArray):dG o q (.str s)=(.str s):=rfl
@[simp] theorem ok1_str (o q:Nat)(s:ByteArray):oM o q (.str s)=(aS o (.str s) && aS q (.str s)):=rfl
@[simp] theorem renC_str (o q:Nat)(s:ByteArray):lL o q (.str s)=(.str s):=rfl
@[simp] theorem okC_str (o q:Nat)(s:ByteArray):BI o q (.str s)=(aS o (.str s) && aS q (.str s)):=rfl
@[simp] theorem ren1_agg (o q:Nat)(cs:List CV):dG o q (.agg cs)=(.agg cs):=rfl
@[simp] theorem ok1_agg (o q:Nat)(cs:List CV):oM o q (.agg cs)=(aS o (.agg cs) && aS q (.agg cs)):=rfl
@[simp] theorem renC_agg (o q:Nat)(cs:List CV):lL o q (.agg cs)=.agg (cs.map (dG o q)):=rfl
@[simp] theorem okC_agg (o q:Nat)(cs:List CV):BI o q (.agg cs)=cs.all (oM o q):=rfl
@[simp] theorem ren1_tsl (o q:Nat)(cs:List CV)(n:Nat):dG o q (.az cs n)=(.az cs n):=rfl
@[simp] theorem ok1_tsl (o q:Nat)(cs:List CV)(n:Nat):oM o q (.az cs n)=(aS o (.az cs n) && aS q (.az cs n)):=rfl
@[simp] theorem renC_tsl (o q:Nat)(cs:List CV)(n:Nat):lL o q (.az cs n)=(.az cs n):=rfl
@[simp] theorem okC_tsl (o q:Nat)(cs:List CV)(n:Nat):BI o q (.az cs n)=(aS o (.az cs n) && aS q (.az cs n)):=rfl
@[simp] theorem P9 (o q:Nat)  : dG o q .aj=.aj:=rfl
@[simp] theorem RQ (o q:Nat)  : oM o q .aj=(aS o .aj && aS q .aj):=rfl
@[simp] theorem P6 (o q:Nat)  : lL o q .aj=.aj:=rfl
@[simp] theorem RN (o q:Nat)  : BI o q .aj=(aS o .aj && aS q .aj):=rfl
@[simp] theorem RI (o q:Nat)(cs:List CV):dG o q (.cM cs)=(.cM cs):=rfl
@[simp] theorem ok1_tptr (o q:Nat)(cs:List CV):oM o q (.cM cs)=(aS o (.cM cs) && aS q (.cM cs)):=rfl
@[simp] theorem RE (o q:Nat)(cs:List CV):lL o q (.cM cs)=(.cM cs):=rfl
@[simp] theorem okC_tptr (o q:Nat)(cs:List CV):BI o q (.cM cs)=(aS o (.cM cs) && aS q (.cM cs)):=rfl
@[simp] theorem OS (o q:Nat)  : dG o q .bL=.bL:=rfl
@[simp] theorem Qu (o q:Nat)  : oM o q .bL=(aS o .bL && aS q .bL):=rfl
@[simp] theorem OR (o q:Nat)  : lL o q .bL=.bL:=rfl
@[simp] theorem Qt (o q:Nat)  : BI o q .bL=(aS o .bL && aS q .bL):=rfl
@[simp] theorem ren1_fn (o q:Nat)(f:FuncId)(cs:List CV):dG o q (.fn f cs)=(.fn f cs):=rfl
@[simp] theorem ok1_fn (o q:Nat)(f:FuncId)(cs:List CV):oM o q (.fn f cs)=(aS o (.fn f cs) && aS q (.fn f cs)):=rfl
@[simp] theorem renC_fn (o q:Nat)(f:FuncId)(cs:List CV):lL o q (.fn f cs)=(.fn f cs):=rfl
@[simp] theorem okC_fn (o q:Nat)(f:FuncId)(cs:List CV):BI o q (.fn f cs)=(aS o (.fn f cs) && aS q (.fn f cs)):=rfl
@[simp] theorem Qa (o q:Nat)  : dG o q .cH=.cH:=rfl
@[simp] theorem RR (o q:Nat)  : oM o q .cH=(aS o .cH && aS q .cH):=rfl
@[simp] theorem P7 (o q:Nat)  : lL o q .cH=.cH:=rfl
@[simp] theorem RO (o q:Nat)  : BI o q .cH=(aS o .cH && aS q .cH):=rfl
@[simp] theorem Qb (o q:Nat)(t:TypeId)(cs:List CV):dG o q (.iface t cs)=(.iface t cs):=rfl
@[simp] theorem RS (o q:Nat)(t:TypeId)(cs:List CV):oM o q (.iface t cs)=(aS o (.iface t cs) && aS q (.iface t cs)):=rfl
@[simp] theorem P8 (o q:Nat)(t:TypeId)(cs:List CV):lL o q (.iface t cs)=(.iface t cs):=rfl
@[simp] theorem RP (o q:Nat)(t:TypeId)(cs:List CV):BI o q (.iface t cs)=(aS o (.iface t cs) && aS q (.iface t cs)):=rfl
@[simp] theorem ren1_tup (o q:Nat)(cs:List CV):dG o q (.cF cs)=(.cF cs):=rfl
@[simp] theorem ok1_tup (o q:Nat)(cs:List CV):oM o q (.cF cs)=(aS o (.cF cs) && aS q (.cF cs)):=rfl
@[simp] theorem renC_tup (o q:Nat)(cs:List CV):lL o q (.cF cs)=(.cF cs):=rfl
@[simp] theorem okC_tup (o q:Nat)(cs:List CV):BI o q (.cF cs)=(aS o (.cF cs) && aS q (.cF cs)):=rfl
@[simp] theorem ren1_osl (o q:Nat)(p f n:Nat):dG o q (.a7 p f n)=.a7 (if p=o then q else p) f n:=rfl
@[simp] theorem ok1_osl (o q:Nat)(p f n:Nat):oM o q (.a7 p f n)=(p != q):=rfl
@[simp] theorem renC_osl (o q:Nat)(p f n:Nat):lL o q (.a7 p f n)=.a7 (if p=o then q else p) f n:=rfl
@[simp] theorem okC_osl (o q:Nat)(p f n:Nat):BI o q (.a7 p f n)=(p != q):=rfl
@[simp] theorem RJ (o q:Nat)(p f:Nat):dG o q (.ax p f)=.ax (if p=o then q else p) f:=rfl
@[simp] theorem ok1_optr (o q:Nat)(p f:Nat):oM o q (.ax p f)=(p != q):=rfl
@[simp] theorem RG (o q:Nat)(p f:Nat):lL o q (.ax p f)=.ax (if p=o then q else p) f:=rfl
@[simp] theorem okC_optr (o q:Nat)(p f:Nat):BI o q (.ax p f)=(p != q):=rfl
@[simp] theorem ren1_any (o q:Nat)  : dG o q .any=.any:=rfl
@[simp] theorem ok1_any (o q:Nat)  : oM o q .any=(aS o .any && aS q .any):=rfl
@[simp] theorem renC_any (o q:Nat)  : lL o q .any=.any:=rfl
@[simp] theorem okC_any (o q:Nat)  : BI o q .any=(aS o .any && aS q .any):=rfl
attribute [simp] zm AA okH
end
theorem cb {α:Type}{f:α->List CV}{n:Nat}(hf:∀ x,(f x).length=n){m:List α}{i:Nat}{e:α}(h:m[i]? = some e)(k:Nat)(hk:k<=n):(m.flatMap f).drop (i*n+k)=(f e).drop k++(m.drop (i+1)).flatMap f:=by
 rw[<- drop_drop,aL hf h,drop_append_of_le_length (by rw[hf];exact hk)]
theorem sG (o q:Nat)(c:CV)(h:tree c=true):oM o q c=true:=by
 cases c<;>first | (simp[tree] at h;done) | (simp only[oM,Bool.and_eq_true];exact⟨nE _ _ h,nE _ _ h⟩)
theorem HL (o q:Nat)(c:CV)(h:tree c=true):dG o q c=c:=by
 cases c<;>first | (simp[tree] at h;done) | rfl
theorem ju {cs:List CV}(h:trees cs=true):∀ c∈cs,tree c=true:=by
 induction cs with
 | nil=>simp
 | cons c cs ih=>
  simp only[trees,Bool.and_eq_true] at h;intro x hx;rcases mem_cons.1 hx with rfl | hx
  .exact h.1
  .exact ih h.2 x hx
theorem ai {cs:List CV}(h:trees cs=true)(n:Nat):cs.all (aU n)=true:=all_eq_true.2 λ c hc=>bG n c (ju h c hc)
theorem bx {cs:List CV}(h:trees cs=true)(o q:Nat):cs.all (oM o q)=true:=all_eq_true.2 λ c hc=>sG o q c (ju h c hc)
theorem bl {cs:List CV}(h:trees cs=true)(o q:Nat):cs.map (dG o q)=cs:=by
 have:∀ c∈cs,dG o q c=id c:=λ c hc=>HL o q c (ju h c hc);rw[map_congr_left this,map_id]
mutual
/-- The objects' numbers turned. -/
def cO (ρ:Nat->Nat):CV->CV
 | .int k n=>.int k n
 | .bool b=>.bool b
 | .str s=>.str s
 | .agg cs=>.agg (aX ρ cs)
 | .az cs n=>.az cs n
 | .aj=>.aj
 | .cM cs=>.cM cs
 | .bL=>.bL
 | .fn f cs=>.fn f (aX ρ cs)
 | .cH=>.cH
 | .iface t cs=>.iface t (aX ρ cs)
 | .iter k s p=>.iter (ρ k) s p
 | .mp k es=>.mp (ρ k) es
 | .cF cs=>.cF (aX ρ cs)
 | .a7 o f n=>.a7 (ρ o) f n
 | .ax o f=>.ax (ρ o) f
 | .any=>.any
def aX (ρ:Nat->Nat):List CV->List CV
 | []=>[]
 | c::cs=>cO ρ c::aX ρ cs
end
theorem cd (ρ:Nat->Nat):∀ cs:List CV,aX ρ cs=cs.map (cO ρ)
 | []=>rfl
 | c::cs=>by rw[aX,cd ρ cs,map_cons]
theorem Nq (ρ:Nat->Nat)(c:CV):one (cO ρ c)=one c:=by cases c<;>rfl
theorem gI (ρ:Nat->Nat)(cs:List CV):(aX ρ cs).all one=cs.all one:=by
 induction cs with
 | nil=>rfl
 | cons c cs ih=>simp only[aX,all_cons,Nq,ih]
mutual
theorem VR.dx {w:World}{F:Nat->Prop}{U:Nat->Option OB}(ρ:Nat->Nat):∀ (c:CV) (v:Value),VR w F U (cO ρ c) v↔VR w F (λ p=>U (ρ p)) c v
 | .int _ _,v=>by simp only[cO,VR]
 | .bool _,v=>by simp only[cO,VR]
 | .str _,v=>by simp only[cO,VR]
 | .agg cs,v=>by
  simp only[cO,VR,gI];constructor
  .rintro⟨vs,h1,h2,h3⟩;exact⟨vs,h1,(aZ.dx ρ cs vs).1 h2,h3⟩
  .rintro⟨vs,h1,h2,h3⟩;exact⟨vs,h1,(aZ.dx ρ cs vs).2 h2,h3⟩
 | .az _ _,v=>by simp only[cO,VR]
 | .aj,v=>by simp only[cO,VR]
 | .cM _,v=>by simp only[cO,VR]
 | .bL,v=>by simp only[cO,VR]
 | .fn _ cs,v=>by
  simp only[cO,VR];constructor
  .rintro⟨vs,h1,h2⟩;exact⟨vs,h1,(aZ.dx ρ cs vs).1 h2⟩
  .rintro⟨vs,h1,h2⟩;exact⟨vs,h1,(aZ.dx ρ cs vs).2 h2⟩
 | .cH,v=>by simp only[cO,VR]
 | .iface _ cs,v=>by
  simp only[cO,VR];constructor
  .rintro⟨vs,h1,h2⟩;exact⟨vs,h1,(aZ.dx ρ cs vs).1 h2⟩
  .rintro⟨vs,h1,h2⟩;exact⟨vs,h1,(aZ.dx ρ cs vs).2 h2⟩
 | .iter _ _ _,v=>by simp only[cO,VR]
 | .mp _ _,v=>by simp only[cO,VR]
 | .cF cs,v=>by
  simp only[cO,VR];constructor
  .rintro⟨vs,h1,h2⟩;exact⟨vs,h1,(aZ.dx ρ cs vs).1 h2⟩
  .rintro⟨vs,h1,h2⟩;exact⟨vs,h1,(aZ.dx ρ cs vs).2 h2⟩
 | .a7 _ _ _,v=>by simp only[cO,VR]
 | .ax _ _,v=>by simp only[cO,VR]
 | .any,v=>by simp only[cO,VR]
theorem aZ.dx {w:World}{F:Nat->Prop}{U:Nat->Option OB}(ρ:Nat->Nat):∀ (cs:List CV) (vs:List Value),aZ w F U (aX ρ cs) vs↔aZ w F (λ p=>U (ρ p)) cs vs
 | [],vs=>by simp only[aX,aZ]
 | c::cs,vs=>by
  simp only[aX,aZ];constructor
  .rintro⟨v,r,h1,h2,h3⟩;exact⟨v,r,h1,(VR.dx ρ c v).1 h2,(aZ.dx ρ cs r).1 h3⟩
  .rintro⟨v,r,h1,h2,h3⟩;exact⟨v,r,h1,(VR.dx ρ c v).2 h2,(aZ.dx ρ cs r).2 h3⟩
end
def bb (ρ:Nat->Nat)(ob:Ob):Ob:=⟨ob.elem,ob.sz,aX ρ ob.cells⟩
def bz (ρ:Nat->Nat):List (Nat×Ob)->List (Nat×Ob)
 | []=>[]
 | (k,ob)::r=>(ρ k,bb ρ ob)::bz ρ r
def cq (ρ:Nat->Nat):List (Nat×CV)->List (Nat×CV)
 | []=>[]
 | (t,c)::r=>(t,cO ρ c)::cq ρ r
theorem gz (ρ:Nat->Nat):∀ (e:List (Nat×CV)) (t:Nat),assoc (cq ρ e) t=(assoc e t).map (cO ρ)
 | [],t=>rfl
 | (k,c)::r,t=>by
  simp only[cq,assoc];split
  .rfl
  .exact gz ρ r t
theorem cD {ρ:Nat->Nat}(hi:∀ x y,ρ x=ρ y->x=y):∀ (H:List (Nat×Ob)) (o:Nat),assoc (bz ρ H) (ρ o)=(assoc H o).map (bb ρ)
 | [],o=>rfl
 | (k,c)::r,o=>by
  simp only[bz,assoc];by_cases h:k=o
  .simp[h]
  .have:¬ ρ k=ρ o:=λ e=>h (hi _ _ e);simp only[if_neg h,if_neg this];exact cD hi r o
theorem eY {ρ:Nat->Nat}:∀ (H:List (Nat×Ob)) (q:Nat) (ob:Ob),assoc (bz ρ H) q=some ob->∃ o,q=ρ o
 | [],q,ob,h=>by simp[bz,assoc] at h
 | (k,c)::r,q,ob,h=>by
  simp only[bz,assoc] at h;split at h
  .rename_i e;exact⟨k,e.symm⟩
  .exact eY r q ob h
section
variable {P:Program}{C:Cx}{U:Nat->Option OB}{s:St}{a:Act}{w:World}{ops:Array Oper}{av:List (Nat×TI)}
theorem HI (ρ:Nat->Nat)(cs:List CV)(k:Nat):aX ρ (cs.drop k)=(aX ρ cs).drop k:=by rw[cd,cd,map_drop]
theorem HH (ρ:Nat->Nat)(cs:List CV)(k:Nat):aX ρ (cs.take k)=(aX ρ cs).take k:=by rw[cd,cd,map_take]
theorem gT (ρ:Nat->Nat)(cs:List CV):(aX ρ cs).length=cs.length:=by rw[cd,length_map]
theorem Ia {ρ:Nat->Nat}(hi:∀ x y,ρ x=ρ y->x=y)(e:List (Nat×CV))(H:List (Nat×Ob))(n m:Nat)(c:CV)(ht:∀ cs,c=.cM cs->aX ρ cs=cs):iA ⟨cq ρ e,bz ρ H,m⟩ (cO ρ c)=(iA ⟨e,H,n⟩ c).map (aX ρ):=by
 cases c with
 | cM cs=>
  simp only[cO,iA,Option.map_some,Option.some.injEq];exact (ht cs rfl).symm
 | ax o off=>
  simp only[cO,iA,cD hi]
  cases assoc H o with
  | none=>rfl
  | some ob=>simp[bb,HI]
 | _=>rfl
mutual
theorem cj.tree {w:World}{F:Nat->Prop}:∀ (c:CV) (v:Value),cj w F c v->Can.tree c=true
 | .int _ _,_,_=>rfl
 | .bool _,_,_=>rfl
 | .str _,_,_=>rfl
 | .agg cs,v,h=>by
  simp only[cj] at h;obtain⟨vs,_,h2,_⟩:=h;simp only[Can.tree];exact bX.tree cs vs h2
 | .az _ _,_,_=>rfl
 | .aj,_,_=>rfl
 | .cM _,_,_=>rfl
 | .bL,_,_=>rfl
 | .fn _ cs,v,h=>by
  simp only[cj] at h;obtain⟨vs,_,h2⟩:=h;simp only[Can.tree];exact bX.tree cs vs h2
 | .cH,_,_=>rfl
 | .iface _ cs,v,h=>by
  simp only[cj] at h;obtain⟨vs,_,h2⟩:=h;simp only[Can.tree];exact bX.tree cs vs h2
 | .iter _ _ _,v,h=>by simp[cj] at h
 | .mp _ _,v,h=>by simp[cj] at h
 | .cF cs,v,h=>by
  simp only[cj] at h;obtain⟨vs,_,h2⟩:=h;simp only[Can.tree];exact bX.tree cs vs h2
 | .a7 _ _ _,v,h=>by simp[cj] at h
 | .ax _ _,v,h=>by simp[cj] at h
 | .any,_,_=>rfl
theorem bX.tree {w:World}{F:Nat->Prop}:∀ (cs:List CV) (vs:List Value),bX w F cs vs->trees cs=true
 | [],_,_=>rfl
 | c::cs,vs,h=>by
  simp only[bX] at h;obtain⟨v,r,_,h2,h3⟩:=h;simp only[trees,cj.tree c v h2,bX.tree cs r h3,Bool.and_self]
end
theorem fH.tree {w:World}{F:Nat->Prop}:∀ (cs:List CV) (ad:Addr),fH w F cs ad->trees cs=true
 | [],_,_=>rfl
 | c::cs,ad,h=>by
  simp only[fH] at h;obtain⟨⟨u,_,_,h3⟩,_,h5⟩:=h;simp only[trees,cj.tree c u h3,fH.tree cs _ h5,Bool.and_self]
mutual
theorem iW (ρ:Nat->Nat):∀ c:CV,Can.tree c=true->cO ρ c=c
 | .int _ _,_=>rfl
 | .bool _,_=>rfl
 | .str _,_=>rfl
 | .agg cs,h=>by
  simp only[Can.tree] at h;rw[cO,ah ρ cs h]
 | .az _ _,_=>rfl
 | .aj,_=>rfl
 | .cM _,_=>rfl
 | .bL,_=>rfl
 | .fn _ cs,h=>by
  simp only[Can.tree] at h;rw[cO,ah ρ cs h]
 | .cH,_=>rfl
 | .iface _ cs,h=>by
  simp only[Can.tree] at h;rw[cO,ah ρ cs h]
 | .iter _ _ _,h=>by simp[Can.tree] at h
 | .mp _ _,h=>by simp[Can.tree] at h
 | .cF cs,h=>by
  simp only[Can.tree] at h;rw[cO,ah ρ cs h]
 | .a7 _ _ _,h=>by simp[Can.tree] at h
 | .ax _ _,h=>by simp[Can.tree] at h
 | .any,_=>rfl
theorem ah (ρ:Nat->Nat):∀ cs:List CV,trees cs=true->aX ρ cs=cs
 | [],_=>rfl
 | c::cs,h=>by
  simp only[trees,Bool.and_eq_true] at h;rw[aX,iW ρ c h.1,ah ρ cs h.2]
end
theorem Iy (ρ:Nat->Nat)(i:TI)(cs:List CV):nu i (aX ρ cs)=(nu i cs).map (cO ρ):=by
 unfold nu;rw[gT];split
 .split
  .simp[cO,HH]
  .rfl
 .cases cs<;>rfl
theorem Iv {ρ:Nat->Nat}(hi:∀ x y,ρ x=ρ y->x=y){e:List (Nat×CV)}{H:List (Nat×Ob)}{n m:Nat}(ht:∀ t cs,assoc e t=some (.cM cs)->aX ρ cs=cs)(r:ResultVar):qI av ⟨cq ρ e,bz ρ H,m⟩ r=(qI av ⟨e,H,n⟩ r).map (cO ρ):=by
 cases r with
 | tmp t=>exact gz ρ e t
 | cell x t=>
  simp only[qI,gz]
  cases hx:assoc e x with
  | none=>rfl
  | some c=>
   have hm:=Ia hi e H n m c λ cs hc=>ht x cs (by rw[hx,hc])
   cases ht':assoc av t with
   | none=>rfl
   | some i=>
    simp only[Option.map_some,hm]
    cases iA ⟨e,H,n⟩ c with
    | none=>rfl
    | some cs=>exact Iy ρ i cs
theorem zY {ρ:Nat->Nat}(hi:∀ x y,ρ x=ρ y->x=y){e:List (Nat×CV)}{H:List (Nat×Ob)}{n m:Nat}(ht:∀ t cs,assoc e t=some (.cM cs)->aX ρ cs=cs):∀ rs:List ResultVar,l8 av ⟨cq ρ e,bz ρ H,m⟩ rs=(l8 av ⟨e,H,n⟩ rs).map (aX ρ)
 | []=>rfl
 | r::rs=>by
  simp only[l8,Iv (n:=n) (m:=m) hi ht r,zY (n:=n) (m:=m) hi ht rs]
  cases qI av ⟨e,H,n⟩ r with
  | none=>rfl
  | some c=>cases l8 av ⟨e,H,n⟩ rs<;>rfl
theorem sV {ρ:Nat->Nat}(hi:∀ x y,ρ x=ρ y->x=y){e:List (Nat×CV)}{H:List (Nat×Ob)}{n m:Nat}(ht:∀ t cs,assoc e t=some (.cM cs)->aX ρ cs=cs)(fn:Func):bJ av fn ⟨cq ρ e,bz ρ H,m⟩=(bJ av fn ⟨e,H,n⟩).map (cO ρ):=by
 simp only[bJ,zY (n:=n) (m:=m) hi ht]
 cases l8 av ⟨e,H,n⟩ fn.results.toList with
 | none=>rfl
 | some cs=>
  match cs with
  | []=>rfl
  | [c]=>rfl
  | c::d::r=>rfl
theorem zT (ρ:Nat->Nat)(args:List CV):(enter (aX ρ args)).env=cq ρ (enter args).env:=by
 have:∀ (args:List CV) (k:Nat),((aX ρ args).zipIdx k).map (λ x=>(x.2,x.1))=cq ρ ((args.zipIdx k).map λ x=>(x.2,x.1)):=by
  intro args
  induction args with
  | nil=>intro k;rfl
  | cons c cs ih=>intro k;simp only[aX,zipIdx_cons,map_cons,cq,ih]
 exact this args 0
theorem Body.qt {ρ:Nat->Nat}(hi:∀ x y,ρ x=ρ y->x=y){f:FuncId}{args:List CV}{H:List (Nat×Ob)}{n n':Nat}{R:CV->St->Prop}(hρ:∀ p,p<n->ρ p<n')(h:Body P av f args H n R)(ha:ba n args=true)(hH:dn n H=true)(hR:∀ r s,R r s->s.nx=n) :
  Body P av f (aX ρ args) (bz ρ H) n' λ r s=>∃ r1 s1,R r1 s1/\r=cO ρ r1/\s=⟨cq ρ s1.env,bz ρ s1.heap,n'⟩:=by
 obtain⟨fn,c,hf,hb,Tu,hl,hT⟩:=h;refine⟨fn,c,hf,hb,Tu,by rw[gT];exact hl,λ C' hC M0 a w ⟨U,hr⟩=>?_⟩;rw[zT] at hr;have Sx:∀ (t:Nat) c o,assoc (enter args).env t=some c->aS o c=false->o<n:=λ t c o hc ho=>by
  obtain⟨_,h2⟩:=fW args 0 t c hc;have hm:c∈args:=mem_of_getElem? h2;rw[aT,all_eq_true] at ha;exact mT n c o (ha c hm) ho
 obtain⟨σt,hσt⟩:∃ σt:Nat->Option OB,σt=below (λ p=>U (ρ p)) n λ _=>none:=⟨_,rfl⟩;have t1:∀ p,p<n->σt p=U (ρ p):=λ p hp=>by rw[hσt];exact gZ hp
 have t2:∀ p,n<=p->σt p=none:=λ p hp=>by rw[hσt];exact lE hp
 have UN:∀ (G:List (Nat×Ob)),(∀ o ob,assoc G o=some ob->o<n)->∀ b,(C'.F b\/∃ o ob,assoc G o=some ob/\a6 σt o=some b)↔FB C' U (bz ρ G) b:=λ G hG b=>by
  unfold FB;constructor
  .rintro (h | ⟨o,ob,ho,hx⟩)
   .exact .inl h
   .refine .inr ⟨ρ o,bb ρ ob,by rw[cD hi,ho];rfl,?_⟩;unfold a6 at hx |-;rwa [t1 o (hG o ob ho)] at hx
  .rintro (h | ⟨q,ob,hq,hx⟩)
   .exact .inl h
   .obtain⟨o,rfl⟩:=eY G q ob hq;rw[cD hi] at hq;obtain⟨SN,ho,_⟩:=Option.map_eq_some_iff.1 hq;refine .inr ⟨o,SN,ho,?_⟩;unfold a6 at hx |-;rwa [t1 o (hG o SN ho)]
 have Uy:∀ o ob,assoc H o=some ob->o<n:=λ o ob ho=>(jD hH o ob ho).1;have h0:aQ ⟨C'.w0,C'.F,C'.own,C'.hF,C'.nt,σt,n⟩ σt ⟨(enter args).env,H,n⟩ a w:=by
  have hK:cL w w (FB C' U (bz ρ H)) (FB ⟨C'.w0,C'.F,C'.own,C'.hF,C'.nt,σt,n⟩ σt H):=cL.same λ b hx=>(UN H Uy b).1 hx;refine⟨hr.pB,hr.tm,hr.os,hr.tape,hr.output,hr.size,hr.frame,?_,?_,?_,λ o ho=>t2 o ho,λ _ _=>rfl,Nat.le_refl _,λ o B b ho hB _=>by rw[t2 o ho] at hB;cases hB⟩
  .intro t c hc;obtain⟨v,k1,k2⟩:=hr.env t (cO ρ c) (by rw[gz,hc];rfl);refine⟨v,k1,?_⟩;exact VR.bD hK _ _ (λ o ho=>t1 o (Sx t c o hc ho)) ((VR.dx ρ c v).1 k2)
  .intro o ob ho;obtain⟨B,m1,m2,m3,m4,m5⟩:=hr.obj (ρ o) (bb ρ ob) (by rw[cD hi,ho];rfl);have P1:=Uy o ob ho;refine⟨B,by rw[t1 o P1];exact m1,m2,λ hb=>?_,by have:=m4;simp only[bb,gI] at this;exact this,λ b hb=>?_⟩
   .have:=m3 hb;simp only[bb] at this;have hl:=gT ρ ob.cells;rw[this] at hl;exact eq_nil_of_length_eq_zero hl.symm
   .obtain⟨cur,n1,n2,n3,n4,n5,n6⟩:=m5 b hb;simp only[bb,gT] at n5 n6;refine⟨cur,n1,n2,n3,n4,n5,?_⟩;exact aZ.bD hK _ _ (λ p hp=>t1 p (fC n _ p (jD hH o ob ho).2 hp)) ((aZ.dx ρ _ _).1 n6)
  .intro o o' ob SN b ho Tc hx Ur;unfold a6 at hx Ur;rw[t1 o (Uy o ob ho)] at hx;rw[t1 o' (Uy o' SN Tc)] at Ur;exact hi _ _ (hr.inj (ρ o) (ρ o') (bb ρ ob) (bb ρ SN) b (by rw[cD hi,ho];rfl) (by rw[cD hi,Tc];rfl) hx Ur)
 refine wp_mono (hT ⟨C'.w0,C'.F,C'.own,C'.hF,C'.nt,σt,n⟩ hC rfl a w ⟨_,h0⟩) λ e a' w' ⟨s1,q,σ1,TU⟩=>?_;have fin:aa ⟨C'.w0,C'.F,C'.own,C'.hF,C'.nt,σt,n⟩ (λ s'=>∃ r,bJ av fn s'=some r/\R r s') s1 ->
   ∃ s',aa C' (λ s'=>∃ r,bJ av fn s'=some r/\∃ r1 s1,R r1 s1/\r=cO ρ r1/\s'=⟨cq ρ s1.env,bz ρ s1.heap,n'⟩) s'/\Rel C' s' a' w':=λ⟨s2,⟨r,q1,q2⟩,hle⟩=>by
  obtain⟨σ2,Tb⟩:=hle _ _ ⟨σ1,TU⟩;have Wv:=hR r s2 q2;obtain⟨e2,H2,n2⟩:=s2;simp only at Wv;subst Wv;have hσ2:σ2=σt:=by
   funext p;rcases Nat.lt_or_ge p n2 with hp | hp
   .exact Tb.gH p hp
   .rw[Tb.nx p hp,t2 p hp]
  subst hσ2;have P1:∀ o B,σ2 o=some B->o<n2:=λ o B hB=>Nat.lt_of_not_le λ hle=>by rw[Tb.nx o hle] at hB;cases hB
  have Xp:∀ o ob,assoc H2 o=some ob->o<n2:=λ o ob ho=>by
   obtain⟨B,m1,_⟩:=Tb.obj o ob ho;exact P1 o B m1
  have hK:cL w' w' (FB ⟨C'.w0,C'.F,C'.own,C'.hF,C'.nt,σ2,n2⟩ σ2 H2) (FB C' U (bz ρ H2)):=cL.same λ b hx=>(UN H2 Xp b).2 hx;refine⟨⟨cq ρ e2,bz ρ H2,n'⟩,aa.here ⟨cO ρ r,?_,r,_,q2,rfl,rfl⟩,U,?_⟩
  .rw[sV (n:=n2) hi (λ t cs hc=>?_),q1]
   .rfl
   .obtain⟨v,_,k2⟩:=Tb.env t _ hc;simp only[VR,cj] at k2;obtain⟨ad,_,h3⟩:=k2;exact ah ρ cs (fH.tree cs ad h3)
  .refine⟨Tb.pB,Tb.tm,Tb.os,Tb.tape,Tb.output,Tb.size,Tb.frame,?_,?_,?_,hr.nx,hr.gH,by rw[M0];exact Nat.le_refl _,hr.new⟩
   .intro t c hc;simp only[gz] at hc;obtain⟨d,hd,rfl⟩:=Option.map_eq_some_iff.1 hc;obtain⟨v,k1,k2⟩:=Tb.env t d hd;refine⟨v,k1,(VR.dx ρ d v).2 (VR.bD hK _ _ (λ o ho=>?_) k2)⟩;obtain⟨B,hB⟩:=VR.refs _ _ o k2 ho;exact (t1 o (P1 o B hB)).symm
   .intro q ob hq;obtain⟨o,rfl⟩:=eY H2 q ob hq;simp only[cD hi] at hq;obtain⟨SN,ho,rfl⟩:=Option.map_eq_some_iff.1 hq;obtain⟨B,m1,m2,m3,m4,m5⟩:=Tb.obj o SN ho;refine⟨B,by rw[<- t1 o (Xp o SN ho)];exact m1,m2,λ hb=>by simp only[bb,m3 hb];rfl,by simp only[bb,gI];exact m4,λ b hb=>?_⟩;obtain⟨cur,n1,n2',n3,n4,n5,n6⟩:=m5 b hb;simp only[bb,gT];refine⟨cur,n1,n2',n3,n4,n5,(aZ.dx ρ _ _).2 (aZ.bD hK _ _ (λ p hp=>?_) n6)⟩;obtain⟨B',Uz⟩:=aZ.refs _ _ p n6 hp;exact (t1 p (P1 p B' Uz)).symm
   .intro q q' ob SN b hq UH hx Ur;obtain⟨o,rfl⟩:=eY H2 q ob hq;obtain⟨o',rfl⟩:=eY H2 q' SN UH;simp only[cD hi] at hq UH;obtain⟨x,ho,_⟩:=Option.map_eq_some_iff.1 hq;obtain⟨x',Tc,_⟩:=Option.map_eq_some_iff.1 UH;unfold a6 at hx Ur;rw[<- t1 o (Xp o x ho)] at hx;rw[<- t1 o' (Xp o' x' Tc)] at Ur;rw[Tb.inj o o' x x' b ho Tc hx Ur]
 cases e with
 | normal=>exact fin q
 | ret=>exact fin q
 | exit _=>exact q.elim
 | goto _=>exact q.elim
 | panic _=>exact q.elim
 | outgrown=>exact q.elim
def ss (a b p:Nat):Nat:=if p=a then b else if p=b then a else p
theorem MK (a b:Nat):∀ x y,ss a b x=ss a b y->x=y:=by
 intro x y h;unfold ss at h;split at h<;>split at h<;>(try split at h)<;>(try split at h)<;>omega
theorem PT {a b n m:Nat}(ha:a<n)(hb:b<m)(hn:n<=m):∀ p,p<n->ss a b p<m:=by
 intro p hp;unfold ss;split
 .exact hb
 .split<;>omega
theorem Body.retX {f:FuncId}{args:List CV}{H H1:List (Nat×Ob)}{n m:Nat}{r0:CV}(a b:Nat)(h:Body P av f args H n (iO r0 H1 n))(ha:a<n)(hb:b<m)(hn:n<=m)(hr:ba n args=true)(hH:dn n H=true)(ht:tree r0=true) :
  Body P av f (aX (ss a b) args) (bz (ss a b) H) m (iO r0 (bz (ss a b) H1) m):=
 (Body.qt (MK a b) (PT ha hb hn) h hr hH λ r s h=>h.2.2).ret λ r s ⟨r1,s1,h1,h2,h3⟩=>by
  obtain⟨k1,k2,k3⟩:=h1;subst h3;rw[h2,k1,iW _ _ ht,k2];exact⟨rfl,rfl,rfl⟩
theorem TL.ke (UT:aF P av){o:Oper}{l:List Oper}{c:Call}{g:FuncId}{args:List CV}{K:St->Prop}{r0:CV}{H1:List (Nat×Ob)}(a b:Nat)(ks:List Nat){H:List (Nat×Ob)}(n:Nat)(hb:Body P av g args H n (iO r0 H1 n))(hd:bj C.nt o.dst=true)(hg:ca ops s o=Option.some true)(ho:o.op=.call c)(SP:bK s c=Option.some (g,aX (ss a b) args))
  (hp:eZ s.heap ks=Option.some (bz (ss a b) H)) (han:a<n) (hbn:b<s.nx) (hn:n<=s.nx) (ha:ba n args=true) (hH:dn n H=true) (ht:tree r0=true) (ha2:ba s.nx (aX (ss a b) args)=true) (hH2:dn s.nx (bz (ss a b) H)=true) (hk:nS ks (bz (ss a b) H1)=true)
  (hK:TL P C ops l (St.put ⟨s.env,bz (ss a b) H1++eA s.heap ks,s.nx⟩ o.dst r0) K):TL P C ops (o::l) s K:=
 TL.cZ UT ks s.nx (hb.retX a b han hbn hn ha hH ht) hd hg ho SP hp (Nat.le_refl _) ha2 hH2 hk hK
variable {W:List u5}{nt N:Nat}{dyn:List (Nat×Nat)}{K:St->Prop}{i:Nat}{r:List Nat}{res:Nat->Er}
theorem RX.ke {o:Oper}{cl:Call}{g:FuncId}{args:List CV}{r0:CV}{H1:List (Nat×Ob)}(a b:Nat)(ks eT:List Nat){H:List (Nat×Ob)}(n:Nat)(hb:Body P av g args H n (iO r0 H1 n))(hi:ops[i]? = Option.some o)(hd:bj nt o.dst=true)(hg:ca ops s o=Option.some true)(hu:cz o=Option.some cl)(SP:bK s cl=Option.some (g,aX (ss a b) args))
  (hp:eZ s.heap ks=Option.some (bz (ss a b) H)) (han:a<n) (hbn:b<s.nx) (hn:n<=s.nx) (ha:ba n args=true) (hH:dn n H=true) (ht:tree r0=true) (ha2:ba s.nx (aX (ss a b) args)=true) (hH2:dn s.nx (bz (ss a b) H)=true) (hk:nS ks (bz (ss a b) H1)=true) (hv:Bq dyn res i ks=true) (hc:(eT.all λ p=>ks.contains p)=true) (hs:∀ p∈ks,p∉eT->assoc (bz (ss a b) H1) p=assoc (bz (ss a b) H) p)
  (hK:vQ W dyn res i (rH r0 ks eT (bz (ss a b) H1))/\nL av W nt ops N dyn (Ez P av W nt ops N dyn K) r (note dyn res i (rH r0 ks eT (bz (ss a b) H1))) (St.put ⟨s.env,bz (ss a b) H1++eA s.heap ks,s.nx⟩ o.dst r0)):RX P av W nt ops N dyn K (i::r) res s:=
 RX.cZ ks eT s.nx (hb.retX a b han hbn hn ha hH ht) hi hd hg hu SP hp (Nat.le_refl _) ha2 hH2 hk hv hc hs hK
attribute [simp] bz ss
end
end Go.Can
namespace Go.Proofs.YtlkmbdfhdknlgaaGreat
open Go.Can Go.aK List Tryz
theorem Ag (x n:Int)(h0:0<n)(h1:n<=4611686018427387904):(IntKind.i64.wrap (x.tmod n+n)).tmod n=x % n/\n≠0:=by
 have WW : -n<x.tmod n:=by
  have:=Int.lt_tmod_of_pos x h0;omega
 have T0:x.tmod n<n:=Int.tmod_lt_of_pos x h0;have hw:=cr (x.tmod n+n) yA yA;refine⟨?_,by omega⟩;rw[hw,Int.tmod_eq_emod_of_nonneg yA,Int.add_emod_right,Int.tmod_def];simp
theorem pO (x n:Int)(h0:0<n)(h1:n<=4611686018427387904):ae prog 32 [I x,I n] (I (x % n)):=by
 refine ae.aD af Tryz.func32 rfl Bw (by simp[Tryz.ntmps32]) rfl λ C hC M0=>?_;rw[Tryz.ntmps32] at hC;obtain⟨ha,hn⟩:=Ag x n h0 h1;apply aq;simp[hC];apply aq;simp[hC,hn,ha];apply T.ret;apply aa.here;simp[Tryz.results32]
theorem QZ (l:List Int)(n:Nat)(_hl:l.length<=9223372036854775807):ae prog 64 [ints l,I n] (ints (l.take n)):=by
 refine ae.aD af Tryz.func64 rfl Bw (by simp[Tryz.ntmps64]) rfl λ C hC M0=>?_;rw[Tryz.ntmps64] at hC;apply aq;simp[hC];apply aW;simp[hC,ints];refine T.bw rfl (λ h=>?_) (λ h=>?_)
 .have hn:n<l.length:=by simpa using h
  have XF:n<=l.length:=by omega
  apply aq;simp[hC,hn,XF];apply T.ret;apply aa.here;simp[Tryz.results64]
 .have hn:l.length<=n:=by simpa using h
  apply T.skip;simp;apply aq;simp[hC];apply T.ret;apply aa.here;simp[Tryz.results64];exact⟨(take_of_length_le (by simpa using hn)).symm,(Nat.min_eq_right hn).symm⟩
def aJ (L:List Int)(i:Nat):Ob:=⟨126,0,[ints L,I i]⟩
def bu (l:List ByteArray):Ob:=⟨9,1,l.map .str⟩
theorem fc (l:List ByteArray):trees (l.map CV.str)=true:=by
 induction l with
 | nil=>rfl
 | cons a r ih=>simp only[map_cons,trees,ih,tree,Bool.and_self]
@[simp] theorem nmOb_frz (l:List ByteArray)(o:Nat)(cs:List CV)(n:Nat):(⟨(bu l).elem,(bu l).sz,(bu l).cells.map (cC o cs n)⟩:Ob)=bu l:=by simp[bu]
@[simp] theorem RB (ρ:Nat->Nat)(l:List ByteArray):bb ρ (bu l)=bu l:=by
 simp only[bb,bu,ah ρ _ (fc l)]
@[simp] theorem P0 (ρ:Nat->Nat)(L:List Int)(i:Nat):bb ρ (aJ L i)=aJ L i:=by
 simp only[bb,aJ,ah ρ [ints L,I i] rfl]
@[simp] theorem NB (l:List ByteArray)(n:Nat):(bu l).cells.all (aU n)=true:=ai (fc l) n
@[simp] theorem nmOb_lts (l:List ByteArray)(n:Nat):ba n (bu l).cells=true:=by rw[aT];exact ai (fc l) n
@[simp] theorem OA (l:List ByteArray)(n:Nat):l.all (aU n∘CV.str)=true:=all_eq_true.2 λ _ _=>rfl
@[simp] theorem Px (l:List ByteArray)(o q:Nat):l.all (oM o q∘CV.str)=true:=all_eq_true.2 λ _ _=>rfl
@[simp] theorem IL (l:List ByteArray)(n o q:Nat):l.all (aU n∘dG o q∘CV.str)=true:=all_eq_true.2 λ _ _=>rfl
@[simp] theorem Qc (o q:Nat):dG o q∘CV.str=CV.str:=rfl
@[simp] theorem nmOb_ok1 (l:List ByteArray)(o q:Nat):(bu l).cells.all (oM o q)=true:=bx (fc l) o q
@[simp] theorem H7 (l:List ByteArray)(o q:Nat):(bu l).cells.map (dG o q)=(bu l).cells:=bl (fc l) o q
@[simp] theorem nmOb_eta (l:List ByteArray):(⟨(bu l).elem,(bu l).sz,(bu l).cells⟩:Ob)=bu l:=rfl
@[simp] theorem RZ (l:List ByteArray)(n o q:Nat):(bu l).cells.all (aU n∘dG o q)=true:=by rw[<- all_map,H7];exact NB l n
@[simp] theorem Rw (L:List Int)(i o:Nat)(cs:List CV)(n:Nat):(⟨(aJ L i).elem,(aJ L i).sz,(aJ L i).cells.map (cC o cs n)⟩:Ob)=aJ L i:=by simp[aJ,ints]
theorem cQ (L:List Int)(i n:Nat)(_hi:i<=L.length)(hL:L.length<=1000)(hn:0<n)(U5:n<=4611686018427387904) :
  Body prog av 65 [.ax 0 0,I n] [(0,aJ L i)] 1 (iO (I (cw L i n).1) [(0,aJ L (cw L i n).2)] 1):=by
 refine Body.iZ Tryz.func65 rfl Bw (by simp[Tryz.ntmps65]) λ C hC M0=>?_;rw[Tryz.ntmps65] at hC;apply aq;simp[hC];refine T.seq (T.seq ?_);refine T.rx af follows [0,1,2,3,4,5,6,7,8,9] [] Bw ?_;simp[hC,aJ,ints];refine T.bw rfl (λ h=>?_) (λ h=>?_)
 .have Jz:L.length<=i:=by simpa using h
  have hx:cw L i n=(0,i):=by
   unfold cw;rw[getElem?_eq_none Jz]
  apply aq;simp[hC];apply T.ret;refine aa.trim [4] [0] 1 xr yA ⟨_,rfl,?_⟩;simp[iO,hx]
 .have Jz:i<L.length:=by simpa using h
  obtain⟨x,Xi⟩:∃ x,L[i]? = some x:=⟨L[i],getElem?_eq_getElem Jz⟩;have hx:cw L i n=((x % (n:Int)).toNat,i+1):=by
   unfold cw;rw[Xi]
  have wi:=cr ((i:Int)+1) yA yA;have wj:((i:Int)+1)-1=(i:Int):=by omega
  have wk:=cr (i:Int) yA yA;have he:=Int.emod_nonneg x (show (n:Int)≠0 by omega);have het:(((x % (n:Int)).toNat:Nat):Int)=x % n:=Int.toNat_of_nonneg he;have hxd:(L.map dg).drop i=I x::(L.map dg).drop (i+1):=by
   rw[drop_eq_getElem_cons (by simpa using Jz)];have:=(List.getElem?_eq_some_iff.1 Xi).2;simp[dg,this]
  apply T.skip;simp;apply aq;simp[hC,wi];apply T.seq;refine T.rx af follows [0,1,2,3,4,5,6,7,8,9,10,11,12,13] [] Bw ?_;simp[hC,wj,wk,Jz,hxd];refine RX.call rfl xr rfl rfl rfl rfl (pO x n yA yA) ?_;simp;apply T.ret;refine aa.trim [4] [0] 1 xr yA ⟨_,rfl,?_⟩;simp[iO,hx,het]
theorem H5 (L:List Int)(i:Nat)(hi:i<=L.length)(hL:L.length<=1000) :
  Body prog av 189 [.ax 0 0] [(0,aJ L i)] 1 (iO (I (yS L i).1) [(0,aJ L (yS L i).2)] 1):=by
 refine Body.iZ Tryz.func189 rfl Bw (by simp[Tryz.ntmps189]) λ C hC M0=>?_;rw[Tryz.ntmps189] at hC;apply aq;simp[hC];apply aW;simp[hC];refine TL.cZ af [0] 1 (cQ L i 8 hi hL yA yA) Rg rfl rfl rfl rfl xr TJ TG rfl (TL.go' af ?_);simp[hC];have hi8:=bq L 8 hi;refine T.bw rfl (λ h=>?_) (λ h=>?_)
 .have h1:(cw L i 8).1=1:=by simp at h;omega
  apply aq;simp[hC];refine TL.cZ af [0] 1 (cQ L _ 4611686018427387904 hi8 hL yA yA) Rg rfl rfl rfl rfl xr TJ TG rfl (TL.go' af ?_);simp[hC];apply T.ret;refine aa.trim [2] [0] 1 WL yA ⟨_,rfl,?_⟩;simp[iO,yS,h1]
 .have h1:¬ (cw L i 8).1=1:=by simp at h;omega
  apply T.skip;simp;apply aq;simp[hC];refine TL.cZ af [0] 1 (cQ L _ 4 hi8 hL yA yA) Rg rfl rfl rfl rfl xr TJ TG rfl (TL.go' af ?_);simp[hC];apply T.ret;refine aa.trim [2] [0] 1 WL yA ⟨_,rfl,?_⟩;simp[iO,yS,h1]
def I0:List CV:=[.int .i64 0,.int .i64 0,.str ⟨#[]⟩,.aj]
theorem jR {ns:List ByteArray}{i:Nat}(h:i<ns.length):(ns.map CV.str).drop i=.str (ns.getD i eS)::(ns.map CV.str).drop (i+1):=by
 rw[drop_eq_getElem_cons UA];simp[h]
theorem Lk (L:List Int)(ns:List ByteArray)(d i:Nat)(h:d=0\/(cw L i 10).1<2):sS L ns d i=sJ L ns (cw L i 10).2:=by
 cases d with
 | zero=>rfl
 | succ d=>
  rw[sS,if_pos];rcases h with h | h
  .cases h
  .exact h
theorem a9:∀ a b:List CV,trees (a++b)=(trees a && trees b)
 | [],b=>by simp[trees]
 | x::r,b=>by simp[trees,Bool.and_assoc]
@[simp] theorem aO (e:Ex):trees (bf e)=true:=by cases e<;>rfl
theorem drop8 (a:Ex)(x y z w:CV):drop 8 (bf a++[x,y,z,w])=[]:=drop_eq_nil_of_le (by simp[bC])
theorem sd (e:Ex):take 4 (bf e)=bf e:=take_of_length_le (by simp[bC])
theorem Hw (a b:Ex):take 8 (bf a++bf b)=bf a++bf b:=take_of_length_le (by simp[bC])
theorem JW (n:Nat)(e:Ex)(x:CV)(h:x∈bf e):aU n x=true:=by
 rw[bZ] at h;simp only[mem_cons,not_mem_nil,or_false] at h;rcases h with rfl | rfl | rfl | rfl<;>rfl
theorem ij (n:Nat)(e:Ex):(bf e).all (aU n)=true:=all_eq_true.2 (JW n e)
@[simp] theorem nz_exC (e:Ex):(bf e).map nz=bf e:=by cases e<;>rfl
@[simp] theorem frz_exC (o:Nat)(cs:List CV)(n:Nat)(e:Ex):(bf e).map (cC o cs n)=bf e:=by cases e<;>rfl
attribute [simp] sd Hw bC
theorem xb (L:List Int)(hL:L.length<=1000)(ns:List ByteArray)(Vr:ns.length<=1000):∀ (d i:Nat),d<=1000->i<=L.length ->
  Body prog av 159 [.ax 0 0,.a7 3 0 ns.length,I d] [(0,aJ L i),(3,bu ns)] 4 (iO (.agg (bf (sS L ns d i).1)) [(0,aJ L (sS L ns d i).2),(3,bu ns)] 4):=by
 intro d
 induction d using Nat.strongRecOn with
 | _ d ih=>
 intro i hd hi;refine Body.iZ Tryz.func159 rfl Bw (by simp[Tryz.ntmps159]) λ C hC M0=>?_;rw[Tryz.ntmps159] at hC;apply aq;simp[hC];apply aq;simp[hC];refine TL.cZ af [0] 1 (cQ L i 10 hi hL yA yA) Rg rfl rfl rfl rfl xr TJ TG rfl (TL.go' af ?_);simp[hC];have Tf:=bq L 10 hi;have XY:=Lk L ns d i;generalize hk:cw L i 10=k at Tf XY;apply eE;refine T.cut (λ s=>s=⟨[(10,.bool (decide (d=0) || decide (k.1<2))),(7,I k.1),(6,.ax 4 0),(0,.ax 0 0),(1,.a7 3 0 ns.length),(2,I d)],[(0,aJ L k.2),(3,bu ns),(4,⟨85,0,I0⟩)],5⟩) ?_ ?_
 .by_cases h0:d=0
  .apply aM;simp[hC,h0];refine aa.trim [10,7,6,0,1,2] [0,3,4] 5 WL yA ?_;simp[I0]
  .apply aM;simp[hC,h0];refine aa.trim [10,7,6,0,1,2] [0,3,4] 5 WL yA ?_;simp[I0]
 .rintro s rfl;refine T.bw rfl (λ h=>?_) (λ h=>?_)
  .have hl:d=0\/k.1<2:=by simpa using h
   rw[XY hl];clear XY ih
      /- the leaf: is there a name to be taken? -/
   refine T.seq (T.cut (λ s=>s=⟨[(24,.bool (decide (0<ns.length/\(cw L k.2 2).1=1))),(6,.ax 4 0),(0,.ax 0 0),(1,.a7 3 0 ns.length)],[(0,aJ L (if 0<ns.length then (cw L k.2 2).2 else k.2)),(3,bu ns),(4,⟨85,0,I0⟩)],5⟩) ?_ ?_)
   .by_cases hns0:0<ns.length
    .apply aM;simp[hC,hns0];refine TL.cZ af [0] 1 (cQ L k.2 2 Tf hL yA yA) Rg rfl rfl rfl rfl xr TJ TG rfl (TL.go' af ?_);simp[hC];refine aa.trim [24,6,0,1] [0,3,4] 5 (by simp[aJ,I0]) yA ?_;simp[I0]
    .apply aM;simp[hC,hns0];refine aa.trim [24,6,0,1] [0,3,4] 5 (by simp[aJ,I0]) yA ?_;simp[I0]
   .rintro s rfl;have TQ:=bq L 2 Tf;refine T.bw rfl (λ h=>?_) (λ h=>?_)
    .have hh:0<ns.length/\(cw L k.2 2).1=1:=by simpa using h
     have P1:=dH L (cw L k.2 2).2 hh.1;have OZ:=jR P1;apply aq;simp[hC,hh.1];refine TL.cZ af [0] 1 (cQ L _ ns.length TQ hL yA yA) Rg rfl rfl rfl rfl xr TJ TG rfl (TL.go' af ?_);simp[hC,P1,OZ,bu,I0];apply T.ret;refine aa.le (Le.nz [] [4]) ?_;simp;refine aa.le (Le.di (o:=4) rfl rfl) ?_;simp;refine aa.trim [6] [0,3] 4 WL yA ⟨_,rfl,?_⟩;simp[iO,sJ,hh.1,hh.2,bf,eS,P1]
    .have hh:¬ (0<ns.length/\(cw L k.2 2).1=1):=by simpa using h
     have WB:(if 0<ns.length then (cw L k.2 2).2 else k.2)<=L.length:=by
      split
      .exact TQ
      .exact Tf
     apply T.skip;simp;apply aq;simp[hC];refine TL.cZ af [0] 1 (H5 L _ WB hL) Rg rfl rfl rfl rfl xr TJ TG rfl (TL.go' af ?_);simp[hC,I0];apply T.ret;refine aa.le (Le.nz [] [4]) ?_;simp;refine aa.le (Le.di (o:=4) rfl rfl) ?_;simp;refine aa.trim [6] [0,3] 4 WL yA ⟨_,rfl,?_⟩;simp[iO,sJ,hh,bf,eS]
  .have Xq:¬ d=0/\¬ k.1<2:=by simpa using h
   obtain⟨e,rfl⟩:∃ e,d=e+1:=⟨d-1,by omega⟩;have Z5:((e+1:Nat):Int)-1=(e:Int):=by omega
   have we:=cr (e:Int) yA yA;have ihe:=ih e yA;apply aq;simp[hC];refine T.bw rfl (λ h=>?_) (λ h=>?_)
   .have hk4:k.1<4:=by simpa using h
    have hx:sS L ns (e+1) i=(.un (k.1 % 2) (sS L ns e k.2).1,(sS L ns e k.2).2):=by
     rw[sS,hk,if_neg Xq.2,if_pos hk4]
    have Y2:=pA L ns e Tf;have wm:=cr (3+(k.1:Int) % 2) yA yA;have htm:(k.1:Int).tmod 2=(k.1:Int) % 2:=Int.tmod_eq_emod_of_nonneg yA;apply aq;simp[hC,we,htm,wm];refine TL.cZ af [0,3] 4 (ihe k.2 yA Tf) Rg rfl rfl rfl rfl xr TJ TG rfl (TL.go' af ?_);simp[hC,I0,bC,aY];apply T.ret;refine aa.le (Le.trim [6] [0,3,4,5] 6 yCq yA) ?_;simp;refine aa.le (Le.di (o:=5) rfl (by simp only[aO])) ?_;simp;refine aa.le (Le.di (o:=4) rfl rfl) ?_;simp;refine aa.trim [6] [0,3] 4 WL yA ⟨_,rfl,?_⟩;simp[iO,hx,bf,eS]
   .have hk4:¬ k.1<4:=by simpa using h
    have hx:sS L ns (e+1) i=(.bin (cw L k.2 13).1 (sS L ns e (cw L k.2 13).2).1 (sS L ns e (sS L ns e (cw L k.2 13).2).2).1,(sS L ns e (sS L ns e (cw L k.2 13).2).2).2):=by
     rw[sS,hk,if_neg Xq.2,if_neg hk4]
    have Y2:=bq L 13 Tf;have Z2:=pA L ns e Y2;have wb:=cr (5+((cw L k.2 13).1:Int)) yA (by have:=dH L k.2 (show 0<13 by omega);omega);apply T.skip;simp;apply aq;simp[hC];refine TL.cZ af [0] 1 (cQ L k.2 13 Tf hL yA yA) Rg rfl rfl rfl rfl xr TJ TG rfl (TL.go' af ?_);simp[hC,wb,we];refine TL.cZ af [0,3] 4 (ihe _ yA Y2) Rg rfl rfl rfl rfl xr TJ TG rfl (TL.go' af ?_);simp[hC,we];refine TL.cZ af [0,3] 4 (ihe _ yA Z2) Rg rfl rfl rfl rfl xr TJ TG rfl (TL.go' af ?_);simp[hC,I0,bC,aY,drop8];apply T.ret;refine aa.le (Le.trim [6] [0,3,4,5] 6 yCq yA) ?_;simp;refine aa.le (Le.di (o:=5) rfl (by simp only[a9,aO,Bool.and_self])) ?_;simp;refine aa.le (Le.di (o:=4) rfl rfl) ?_;simp;refine aa.trim [6] [0,3] 4 WL yA ⟨_,rfl,?_⟩;simp[iO,hx,bf,eS]
end Go.Proofs.YtlkmbdfhdknlgaaGreat
namespace Go.Can
open Go.RowKit List
section
variable {C:Cx}{U:Nat->Option OB}{s:St}{w:World}
theorem aZ.B9 {F:Nat->Prop}{c c':CV}(hc:∀ v,VR w F U c v->VR w F U c' v):∀ {cs:List CV} {vs:List Value} {i:Nat},cs[i]? = some c->aZ w F U cs vs->aZ w F U (cs.set i c') vs
 | [],_,_,h,_=>by simp at h
 | d::cs,_,0,h,⟨v,r,e,h1,h2⟩=>by
  simp only[getElem?_cons_zero,Option.some.injEq] at h;subst h;exact⟨v,r,e,hc v h1,h2⟩
 | d::cs,_,i+1,h,⟨v,r,e,h1,h2⟩=>by
  simp only[getElem?_cons_succ] at h;exact⟨v,r,e,h1,aZ.B9 hc h h2⟩
theorem vD {c:CV}(hc:one c=true):∀ (cs:List CV) (i:Nat),cs.all one=true->(cs.set i c).all one=true
 | [],_,h=>h
 | d::cs,0,h=>by
  simp only[all_cons,Bool.and_eq_true] at h;simp only[set_cons_zero,all_cons,hc,h.2,Bool.and_self]
 | d::cs,i+1,h=>by
  simp only[all_cons,Bool.and_eq_true] at h;simp only[set_cons_succ,all_cons,h.1,Bool.true_and];exact vD hc cs i h.2
theorem Le.mU (o i:Nat)(e:TypeId)(sz:Nat){ob:Ob}(ho:assoc s.heap o=some ob)(hi:ob.cells[i]? = some .aj):Le C s ⟨s.env,(s.nx,⟨e,sz,[]⟩)::vc s.heap o ⟨ob.elem,ob.sz,ob.cells.set i (.a7 s.nx 0 0)⟩,s.nx+1⟩:=by
 intro a w ⟨U,hr⟩;obtain⟨h1,h2⟩:=hr.fresh (World.grownBy.refl w none) (ob:=⟨e,sz,[]⟩) (B:=⟨none,0,sz⟩) rfl rfl (λ _=>rfl) (λ b hb=>by cases hb);have SL:¬ s.nx=o:=λ h=>by
  obtain⟨B,m1,_⟩:=hr.obj o ob ho;rw[hr.nx o yA] at m1;cases m1
 have hG:(s.nx,(⟨e,sz,[]⟩:Ob))::vc s.heap o ⟨ob.elem,ob.sz,ob.cells.set i (.a7 s.nx 0 0)⟩=vc ((s.nx,⟨e,sz,[]⟩)::s.heap) o ⟨ob.elem,ob.sz,ob.cells.set i (.a7 s.nx 0 0)⟩:=by
  simp only[vc,if_neg SL]
 have hoG:assoc ((s.nx,(⟨e,sz,[]⟩:Ob))::s.heap) o=some ob:=by simp only[assoc,if_neg SL,ho]
 rw[hG];have X6:=rP (C:=C) (U:=sig U s.nx ⟨none,0,sz⟩) ((s.nx,(⟨e,sz,[]⟩:Ob))::s.heap) o ⟨ob.elem,ob.sz,ob.cells.set i (.a7 s.nx 0 0)⟩;refine⟨_,h1.pB,h1.tm,h1.os,h1.tape,h1.output,h1.size,h1.frame,?_,?_,?_,h1.nx,h1.gH,h1.low,h1.new⟩
 .intro t c hc;obtain⟨v,k1,k2⟩:=h1.env t c hc;exact⟨v,k1,by rw[X6];exact k2⟩
 .intro p x hp;simp only[fX] at hp;unfold ObR;rw[X6];split at hp
  .rename_i eo;subst eo;rw[hoG] at hp;simp only[Option.map_some,Option.some.injEq] at hp;subst hp;obtain⟨B,m1,m2,m3,m4,m5⟩:=h1.obj o ob hoG;refine⟨B,m1,m2,λ hb=>by simp[m3 hb] at hi,vD rfl _ _ m4,λ b hb=>?_⟩;obtain⟨cur,n1,n2,n3,n4,n5,n6⟩:=m5 b hb;refine⟨cur,n1,n2,n3,n4,by simpa using n5,?_⟩;simp only[length_set];refine aZ.B9 (λ v hv=>?_) hi n6;simp only[VR] at hv |-;exact⟨⟨none,0,sz⟩,dP,hv,trivial,trivial⟩
  .exact h1.obj p x hp
 .intro p p' x x' b hp W4 hb SS;have dom:∀ q y,assoc (vc ((s.nx,(⟨e,sz,[]⟩:Ob))::s.heap) o ⟨ob.elem,ob.sz,ob.cells.set i (.a7 s.nx 0 0)⟩) q=some y->∃ z,assoc ((s.nx,(⟨e,sz,[]⟩:Ob))::s.heap) q=some z:=λ q y hq=>by
   rw[fX] at hq;split at hq
   .rename_i eo;subst eo;exact⟨ob,hoG⟩
   .exact⟨y,hq⟩
  obtain⟨z,hz⟩:=dom p x hp;obtain⟨z',UM⟩:=dom p' x' W4;exact h1.inj p p' z z' b hz UM hb SS
theorem Le.up (n:Nat)(h:s.nx<=n):Le C s ⟨s.env,s.heap,n⟩:=by
 intro a w ⟨U,hr⟩;exact⟨U,hr.pB,hr.tm,hr.os,hr.tape,hr.output,hr.size,hr.frame,hr.env,hr.obj,hr.inj,λ o ho=>hr.nx o (Nat.le_trans h ho),hr.gH,Nat.le_trans hr.low h,hr.new⟩
end
end Go.Can
