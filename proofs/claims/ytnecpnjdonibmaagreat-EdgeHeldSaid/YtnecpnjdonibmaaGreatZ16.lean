/- Contracts with known results; the walk's short forms. No fun -/
import Derived.Test.YtnecpnjdonibmaaGreatZ15
namespace Go.Can
@[reducible] def jb (r0:CV)(H:List (Nat×Ob))(n:Nat):CV→St→Prop:=fun r s=>r=r0∧s.heap=H∧s.nx=n
section
variable {P:Program}{C:Cx}{s:St}{ops:Array Oper}{ak:List (Nat×TI)}
theorem TL.cK (Rp:aG P ak){o:Oper}{l:List Oper}{c:Call}{g:FuncId}{cs:List CV}{K:St→Prop}{r0:CV}{H1:List (Nat×Ob)}(ks:List Nat){H:List (Nat×Ob)}(n:Nat)(hb:Body P ak g cs H n (jb r0 H1 n))(hd:a6 C.nt o.dst=true)(hg:bZ ops s o=Option.some true)(ho:o.op=.call c)(Ps:bm s c=Option.some (g,cs))
  (hp:eg s.heap ks=Option.some H) (hn:n≤s.nx) (ha:aX n cs=true) (hH:dc n H=true) (hk:j8 ks H1=true)
  (hK:TL P C ops l (St.put ⟨s.env,H1++dx s.heap ks,s.nx⟩ o.dst r0) K):TL P C ops (o::l) s K:=
 TL.Jo Rp ks n hd hg ho Ps hp hn ha hH hb (fun r s1 h=>⟨h.2.2,by rw[h.2.1];exact hk⟩) fun r s1 h=>by rw[h.1,h.2.1];exact hK
variable {nt N:Nat}{dyn:List (Nat×Nat)}{K:St→Prop}{i:Nat}{r:List Nat}{res:Nat→Er}
theorem RX.cK {o:Oper}{cl:Call}{g:FuncId}{cs:List CV}{r0:CV}{H1:List (Nat×Ob)}(ks du:List Nat){H:List (Nat×Ob)}(n:Nat)(hb:Body P ak g cs H n (jb r0 H1 n))(hi:ops[i]? = Option.some o)(hd:a6 nt o.dst=true)(hg:bZ ops s o=Option.some true)(hu:ck o=Option.some cl)(Ps:bm s cl=Option.some (g,cs))
  (hp:eg s.heap ks=Option.some H) (hn:n≤s.nx) (ha:aX n cs=true) (hH:dc n H=true) (hk:j8 ks H1=true) (hv:zP dyn res i ks=true) (hc:(du.all fun p=>ks.contains p)=true) (hs:∀ p∈ks,p∉du→assoc H1 p=assoc H p)
  (hK:Gx dyn res i (iO r0 ks du H1)=true∧pJ ak nt ops N dyn (Hv P ak nt ops N dyn K) r (note dyn res i (iO r0 ks du H1)) (St.put ⟨s.env,H1++dx s.heap ks,s.nx⟩ o.dst r0)):RX P ak nt ops N dyn K (i::r) res s:=by
 refine RX.Jo ks du n hi hd hg hu Ps hp hn ha hH hb hv hc (fun v s1 h=>⟨h.2.2,by rw[h.2.1];exact hk,fun p Td=>?_⟩) fun v s1 h=>by rw[h.1,h.2.1];exact hK
 rw[h.2.1];by_cases hm:p∈ks
 ·exact hs p hm Td
 ·obtain⟨i1,_⟩:=jZ hp;have h1:assoc H p=none:=by
   cases h2:assoc H p with
   | none=>rfl
   | some y=>exact (hm (i1 p y h2).1).elim
  have h2:assoc H1 p=none:=by
   cases h3:assoc H1 p with
   | none=>rfl
   | some y=>exact (hm (sd hk p y h3)).elim
  rw[h1,h2]
theorem Body.ret {f:FuncId}{args:List CV}{H:List (Nat×Ob)}{n:Nat}{R R':CV→St→Prop}(h:Body P ak f args H n R)(hR:∀ r s,R r s→R' r s):Body P ak f args H n R':=by
 obtain⟨fn,c,h1,h2,h3,h4,h5⟩:=h;have key:∀ (C:Cx) s,ae C (fun s'=>∃ r,bG ak fn s'=some r∧R r s') s→ae C (fun s'=>∃ r,bG ak fn s'=some r∧R' r s') s:=fun C s ⟨s',⟨r,q1,q2⟩,hl⟩=>⟨s',⟨r,q1,hR r s' q2⟩,hl⟩;refine⟨fn,c,h1,h2,h3,h4,fun C hC O0=>T.mono (h5 C hC O0) fun e s q=>?_⟩
 cases e with
 | normal=>exact key C s q
 | ret=>exact key C s q
 | _=>exact q
end
def oN:Option CV→List Nat
 | some v=>ll v
 | none=>[]
def oNO (s:St):Option Operand→List Nat
 | some x=>oN (ev s x)
 | none=>[]
theorem HE (s:St)(op:Op):Kf s op=op.operands.toList.flatMap fun x=>oN (ev s x):=rfl
theorem HD (s:St)(t:TypeId)(x:Operand):Kf s (.load t x)=oN (ev s x):=by
 rw[HE];exact List.append_nil _
theorem Fq (s:St)(t:TypeId)(x:Operand)(a b c:Option Operand):Kf s (.slice t x a b c)=oN (ev s x)++oNO s a++oNO s b++oNO s c:=by
 rw[HE];cases a<;>cases b<;>cases c<;>simp[Op.operands,oNO]
@[simp] theorem eN (a b:Nat):((a:Int) == (b:Int))=decide (a=b):=by
 by_cases h:a=b
 ·simp[h]
 ·have:¬ (a:Int)=(b:Int):=by omega
  simp only[h,decide_false];exact beq_eq_false_iff_ne.2 this
@[simp] theorem natbeq_0 (a:Nat):((a:Int) == 0)=decide (a=0):=eN a 0
@[simp] theorem natbeq_1 (a:Nat):((a:Int) == 1)=decide (a=1):=eN a 1
@[simp] theorem natbeq_2 (a:Nat):((a:Int) == 2)=decide (a=2):=eN a 2
@[simp] theorem natbeq_3 (a:Nat):((a:Int) == 3)=decide (a=3):=eN a 3
@[simp] theorem natbeq_4 (a:Nat):((a:Int) == 4)=decide (a=4):=eN a 4
@[simp] theorem natbeq_5 (a:Nat):((a:Int) == 5)=decide (a=5):=eN a 5
@[simp] theorem natbeq_6 (a:Nat):((a:Int) == 6)=decide (a=6):=eN a 6
@[simp] theorem natbeq_7 (a:Nat):((a:Int) == 7)=decide (a=7):=eN a 7
@[simp] theorem natbeq_8 (a:Nat):((a:Int) == 8)=decide (a=8):=eN a 8
@[simp] theorem natbeq_9 (a:Nat):((a:Int) == 9)=decide (a=9):=eN a 9
@[simp] theorem OG (a:Nat):((a:Int) == 10)=decide (a=10):=eN a 10
@[simp] theorem OF (a:Nat):((a:Int) == 11)=decide (a=11):=eN a 11
@[simp] theorem OE (a:Nat):((a:Int) == 12)=decide (a=12):=eN a 12
@[simp] theorem OD (a:Nat):((a:Int) == 13)=decide (a=13):=eN a 13
@[simp] theorem OC (a:Nat):((a:Int) == 14)=decide (a=14):=eN a 14
@[simp] theorem OA (a:Nat):((a:Int) == 15)=decide (a=15):=eN a 15
@[simp] theorem Oz (a:Nat):((a:Int) == 16)=decide (a=16):=eN a 16
@[simp] theorem Oy (a:Nat):((a:Int) == 17)=decide (a=17):=eN a 17
@[simp] theorem Ox (a:Nat):((a:Int) == 18)=decide (a=18):=eN a 18
@[simp] theorem Ow (a:Nat):((a:Int) == 19)=decide (a=19):=eN a 19
@[simp] theorem natlt_2 (a:Nat):((a:Int)<2)=(a<2):=by rw[eq_iff_iff];omega
@[simp] theorem natle_2 (a:Nat):((a:Int)≤2)=(a≤2):=by rw[eq_iff_iff];omega
@[simp] theorem natgt_2 (a:Nat):(2<(a:Int))=(2<a):=by rw[eq_iff_iff];omega
@[simp] theorem natge_2 (a:Nat):(2≤(a:Int))=(2≤a):=by rw[eq_iff_iff];omega
@[simp] theorem nateq_2 (a:Nat):((a:Int)=2)=(a=2):=by rw[eq_iff_iff];omega
@[simp] theorem natlt_3 (a:Nat):((a:Int)<3)=(a<3):=by rw[eq_iff_iff];omega
@[simp] theorem natle_3 (a:Nat):((a:Int)≤3)=(a≤3):=by rw[eq_iff_iff];omega
@[simp] theorem natgt_3 (a:Nat):(3<(a:Int))=(3<a):=by rw[eq_iff_iff];omega
@[simp] theorem natge_3 (a:Nat):(3≤(a:Int))=(3≤a):=by rw[eq_iff_iff];omega
@[simp] theorem nateq_3 (a:Nat):((a:Int)=3)=(a=3):=by rw[eq_iff_iff];omega
@[simp] theorem natlt_4 (a:Nat):((a:Int)<4)=(a<4):=by rw[eq_iff_iff];omega
@[simp] theorem natle_4 (a:Nat):((a:Int)≤4)=(a≤4):=by rw[eq_iff_iff];omega
@[simp] theorem natgt_4 (a:Nat):(4<(a:Int))=(4<a):=by rw[eq_iff_iff];omega
@[simp] theorem natge_4 (a:Nat):(4≤(a:Int))=(4≤a):=by rw[eq_iff_iff];omega
@[simp] theorem nateq_4 (a:Nat):((a:Int)=4)=(a=4):=by rw[eq_iff_iff];omega
@[simp] theorem natlt_5 (a:Nat):((a:Int)<5)=(a<5):=by rw[eq_iff_iff];omega
@[simp] theorem natle_5 (a:Nat):((a:Int)≤5)=(a≤5):=by rw[eq_iff_iff];omega
@[simp] theorem natgt_5 (a:Nat):(5<(a:Int))=(5<a):=by rw[eq_iff_iff];omega
@[simp] theorem natge_5 (a:Nat):(5≤(a:Int))=(5≤a):=by rw[eq_iff_iff];omega
@[simp] theorem nateq_5 (a:Nat):((a:Int)=5)=(a=5):=by rw[eq_iff_iff];omega
@[simp] theorem natlt_6 (a:Nat):((a:Int)<6)=(a<6):=by rw[eq_iff_iff];omega
@[simp] theorem natle_6 (a:Nat):((a:Int)≤6)=(a≤6):=by rw[eq_iff_iff];omega
@[simp] theorem natgt_6 (a:Nat):(6<(a:Int))=(6<a):=by rw[eq_iff_iff];omega
@[simp] theorem natge_6 (a:Nat):(6≤(a:Int))=(6≤a):=by rw[eq_iff_iff];omega
@[simp] theorem nateq_6 (a:Nat):((a:Int)=6)=(a=6):=by rw[eq_iff_iff];omega
@[simp] theorem natlt_7 (a:Nat):((a:Int)<7)=(a<7):=by rw[eq_iff_iff];omega
@[simp] theorem natle_7 (a:Nat):((a:Int)≤7)=(a≤7):=by rw[eq_iff_iff];omega
@[simp] theorem natgt_7 (a:Nat):(7<(a:Int))=(7<a):=by rw[eq_iff_iff];omega
@[simp] theorem natge_7 (a:Nat):(7≤(a:Int))=(7≤a):=by rw[eq_iff_iff];omega
@[simp] theorem nateq_7 (a:Nat):((a:Int)=7)=(a=7):=by rw[eq_iff_iff];omega
@[simp] theorem natlt_8 (a:Nat):((a:Int)<8)=(a<8):=by rw[eq_iff_iff];omega
@[simp] theorem natle_8 (a:Nat):((a:Int)≤8)=(a≤8):=by rw[eq_iff_iff];omega
@[simp] theorem natgt_8 (a:Nat):(8<(a:Int))=(8<a):=by rw[eq_iff_iff];omega
@[simp] theorem natge_8 (a:Nat):(8≤(a:Int))=(8≤a):=by rw[eq_iff_iff];omega
@[simp] theorem nateq_8 (a:Nat):((a:Int)=8)=(a=8):=by rw[eq_iff_iff];omega
@[simp] theorem natlt_9 (a:Nat):((a:Int)<9)=(a<9):=by rw[eq_iff_iff];omega
@[simp] theorem natle_9 (a:Nat):((a:Int)≤9)=(a≤9):=by rw[eq_iff_iff];omega
@[simp] theorem natgt_9 (a:Nat):(9<(a:Int))=(9<a):=by rw[eq_iff_iff];omega
@[simp] theorem natge_9 (a:Nat):(9≤(a:Int))=(9≤a):=by rw[eq_iff_iff];omega
@[simp] theorem nateq_9 (a:Nat):((a:Int)=9)=(a=9):=by rw[eq_iff_iff];omega
@[simp] theorem natlt_10 (a:Nat):((a:Int)<10)=(a<10):=by rw[eq_iff_iff];omega
@[simp] theorem natle_10 (a:Nat):((a:Int)≤10)=(a≤10):=by rw[eq_iff_iff];omega
@[simp] theorem natgt_10 (a:Nat):(10<(a:Int))=(10<a):=by rw[eq_iff_iff];omega
@[simp] theorem natge_10 (a:Nat):(10≤(a:Int))=(10≤a):=by rw[eq_iff_iff];omega
@[simp] theorem nateq_10 (a:Nat):((a:Int)=10)=(a=10):=by rw[eq_iff_iff];omega
@[simp] theorem natlt_11 (a:Nat):((a:Int)<11)=(a<11):=by rw[eq_iff_iff];omega
@[simp] theorem natle_11 (a:Nat):((a:Int)≤11)=(a≤11):=by rw[eq_iff_iff];omega
@[simp] theorem natgt_11 (a:Nat):(11<(a:Int))=(11<a):=by rw[eq_iff_iff];omega
@[simp] theorem natge_11 (a:Nat):(11≤(a:Int))=(11≤a):=by rw[eq_iff_iff];omega
@[simp] theorem nateq_11 (a:Nat):((a:Int)=11)=(a=11):=by rw[eq_iff_iff];omega
@[simp] theorem natlt_12 (a:Nat):((a:Int)<12)=(a<12):=by rw[eq_iff_iff];omega
@[simp] theorem natle_12 (a:Nat):((a:Int)≤12)=(a≤12):=by rw[eq_iff_iff];omega
@[simp] theorem natgt_12 (a:Nat):(12<(a:Int))=(12<a):=by rw[eq_iff_iff];omega
@[simp] theorem natge_12 (a:Nat):(12≤(a:Int))=(12≤a):=by rw[eq_iff_iff];omega
@[simp] theorem nateq_12 (a:Nat):((a:Int)=12)=(a=12):=by rw[eq_iff_iff];omega
@[simp] theorem natlt_13 (a:Nat):((a:Int)<13)=(a<13):=by rw[eq_iff_iff];omega
@[simp] theorem natle_13 (a:Nat):((a:Int)≤13)=(a≤13):=by rw[eq_iff_iff];omega
@[simp] theorem natgt_13 (a:Nat):(13<(a:Int))=(13<a):=by rw[eq_iff_iff];omega
@[simp] theorem natge_13 (a:Nat):(13≤(a:Int))=(13≤a):=by rw[eq_iff_iff];omega
@[simp] theorem nateq_13 (a:Nat):((a:Int)=13)=(a=13):=by rw[eq_iff_iff];omega
@[simp] theorem natlt_14 (a:Nat):((a:Int)<14)=(a<14):=by rw[eq_iff_iff];omega
@[simp] theorem natle_14 (a:Nat):((a:Int)≤14)=(a≤14):=by rw[eq_iff_iff];omega
@[simp] theorem natgt_14 (a:Nat):(14<(a:Int))=(14<a):=by rw[eq_iff_iff];omega
@[simp] theorem natge_14 (a:Nat):(14≤(a:Int))=(14≤a):=by rw[eq_iff_iff];omega
@[simp] theorem nateq_14 (a:Nat):((a:Int)=14)=(a=14):=by rw[eq_iff_iff];omega
@[simp] theorem natlt_15 (a:Nat):((a:Int)<15)=(a<15):=by rw[eq_iff_iff];omega
@[simp] theorem natle_15 (a:Nat):((a:Int)≤15)=(a≤15):=by rw[eq_iff_iff];omega
@[simp] theorem natgt_15 (a:Nat):(15<(a:Int))=(15<a):=by rw[eq_iff_iff];omega
@[simp] theorem natge_15 (a:Nat):(15≤(a:Int))=(15≤a):=by rw[eq_iff_iff];omega
@[simp] theorem nateq_15 (a:Nat):((a:Int)=15)=(a=15):=by rw[eq_iff_iff];omega
@[simp] theorem natlt_16 (a:Nat):((a:Int)<16)=(a<16):=by rw[eq_iff_iff];omega
@[simp] theorem natle_16 (a:Nat):((a:Int)≤16)=(a≤16):=by rw[eq_iff_iff];omega
@[simp] theorem natgt_16 (a:Nat):(16<(a:Int))=(16<a):=by rw[eq_iff_iff];omega
@[simp] theorem natge_16 (a:Nat):(16≤(a:Int))=(16≤a):=by rw[eq_iff_iff];omega
@[simp] theorem nateq_16 (a:Nat):((a:Int)=16)=(a=16):=by rw[eq_iff_iff];omega
@[simp] theorem natlt_17 (a:Nat):((a:Int)<17)=(a<17):=by rw[eq_iff_iff];omega
@[simp] theorem natle_17 (a:Nat):((a:Int)≤17)=(a≤17):=by rw[eq_iff_iff];omega
@[simp] theorem natgt_17 (a:Nat):(17<(a:Int))=(17<a):=by rw[eq_iff_iff];omega
@[simp] theorem natge_17 (a:Nat):(17≤(a:Int))=(17≤a):=by rw[eq_iff_iff];omega
@[simp] theorem nateq_17 (a:Nat):((a:Int)=17)=(a=17):=by rw[eq_iff_iff];omega
@[simp] theorem natlt_18 (a:Nat):((a:Int)<18)=(a<18):=by rw[eq_iff_iff];omega
@[simp] theorem natle_18 (a:Nat):((a:Int)≤18)=(a≤18):=by rw[eq_iff_iff];omega
@[simp] theorem natgt_18 (a:Nat):(18<(a:Int))=(18<a):=by rw[eq_iff_iff];omega
@[simp] theorem natge_18 (a:Nat):(18≤(a:Int))=(18≤a):=by rw[eq_iff_iff];omega
@[simp] theorem nateq_18 (a:Nat):((a:Int)=18)=(a=18):=by rw[eq_iff_iff];omega
@[simp] theorem natlt_19 (a:Nat):((a:Int)<19)=(a<19):=by rw[eq_iff_iff];omega
@[simp] theorem natle_19 (a:Nat):((a:Int)≤19)=(a≤19):=by rw[eq_iff_iff];omega
@[simp] theorem natgt_19 (a:Nat):(19<(a:Int))=(19<a):=by rw[eq_iff_iff];omega
@[simp] theorem natge_19 (a:Nat):(19≤(a:Int))=(19≤a):=by rw[eq_iff_iff];omega
@[simp] theorem nateq_19 (a:Nat):((a:Int)=19)=(a=19):=by rw[eq_iff_iff];omega
@[simp] theorem natlt_20 (a:Nat):((a:Int)<20)=(a<20):=by rw[eq_iff_iff];omega
@[simp] theorem natle_20 (a:Nat):((a:Int)≤20)=(a≤20):=by rw[eq_iff_iff];omega
@[simp] theorem natgt_20 (a:Nat):(20<(a:Int))=(20<a):=by rw[eq_iff_iff];omega
@[simp] theorem natge_20 (a:Nat):(20≤(a:Int))=(20≤a):=by rw[eq_iff_iff];omega
@[simp] theorem nateq_20 (a:Nat):((a:Int)=20)=(a=20):=by rw[eq_iff_iff];omega
@[simp] theorem natlt_24 (a:Nat):((a:Int)<24)=(a<24):=by rw[eq_iff_iff];omega
@[simp] theorem natle_24 (a:Nat):((a:Int)≤24)=(a≤24):=by rw[eq_iff_iff];omega
@[simp] theorem natgt_24 (a:Nat):(24<(a:Int))=(24<a):=by rw[eq_iff_iff];omega
@[simp] theorem natge_24 (a:Nat):(24≤(a:Int))=(24≤a):=by rw[eq_iff_iff];omega
@[simp] theorem nateq_24 (a:Nat):((a:Int)=24)=(a=24):=by rw[eq_iff_iff];omega
@[simp] theorem natlt_26 (a:Nat):((a:Int)<26)=(a<26):=by rw[eq_iff_iff];omega
@[simp] theorem natle_26 (a:Nat):((a:Int)≤26)=(a≤26):=by rw[eq_iff_iff];omega
@[simp] theorem natgt_26 (a:Nat):(26<(a:Int))=(26<a):=by rw[eq_iff_iff];omega
@[simp] theorem natge_26 (a:Nat):(26≤(a:Int))=(26≤a):=by rw[eq_iff_iff];omega
@[simp] theorem nateq_26 (a:Nat):((a:Int)=26)=(a=26):=by rw[eq_iff_iff];omega
@[simp] theorem natlt_36 (a:Nat):((a:Int)<36)=(a<36):=by rw[eq_iff_iff];omega
@[simp] theorem natle_36 (a:Nat):((a:Int)≤36)=(a≤36):=by rw[eq_iff_iff];omega
@[simp] theorem natgt_36 (a:Nat):(36<(a:Int))=(36<a):=by rw[eq_iff_iff];omega
@[simp] theorem natge_36 (a:Nat):(36≤(a:Int))=(36≤a):=by rw[eq_iff_iff];omega
@[simp] theorem nateq_36 (a:Nat):((a:Int)=36)=(a=36):=by rw[eq_iff_iff];omega
@[simp] theorem nateq_1 (a:Nat):((a:Int)=1)=(a=1):=by rw[eq_iff_iff];omega
@[simp] theorem natlt_1 (a:Nat):((a:Int)<1)=(a<1):=by rw[eq_iff_iff];omega
attribute [simp] pJ Hv Gx zP note Ag iO ld mj Cp sZ
attribute [simp] EA qQ bytesOf sw bZ ck iN qU ov HF HD Fq oN oNO ll qX AQ rmL NL eY p7 Nx
end Go.Can
namespace Go.aP
open Go.Can
def cd (L:List Int)(i n:Nat):Nat×Nat:=match L[i]? with
 | none=>(0,i)
 | some x=>((x % (n:Int)).toNat,i+1)
theorem dm (L:List Int)(i:Nat){n:Nat}(h:0<n):(cd L i n).1<n:=by
 unfold cd;split
 ·exact h
 ·rename_i x _;have h1:=Int.emod_nonneg x (show (n:Int)≠0 by omega);have h2:=Int.emod_lt_of_pos x (show (0:Int)<n by omega);simp only;omega
theorem ba (L:List Int){i:Nat}(n:Nat)(h:i≤L.length):(cd L i n).2≤L.length:=by
 unfold cd;split
 ·exact h
 ·rename_i x hx;exact (List.getElem?_eq_some_iff.1 hx).1
def wW (L:List Int)(i:Nat):Nat×Nat:=if (cd L i 8).1=1 then cd L (cd L i 8).2 4611686018427387904 else cd L (cd L i 8).2 4
theorem Kz (L:List Int)(i:Nat):(wW L i).1<4611686018427387904:=by
 unfold wW;split
 ·exact dm _ _ yA
 ·exact Nat.lt_of_lt_of_le (dm L _ (show 0<4 by omega)) yA
theorem KA (L:List Int){i:Nat}(h:i≤L.length):(wW L i).2≤L.length:=by
 unfold wW;split
 ·exact ba _ _ (ba _ _ h)
 ·exact ba _ _ (ba _ _ h)
def qA (L:List Int)(ns:List ByteArray)(i:Nat):Ex×Nat:=
 if 0<ns.length∧(cd L i 2).1=1 then (.nm (ns.getD (cd L (cd L i 2).2 ns.length).1 eS),(cd L (cd L i 2).2 ns.length).2)
 else (.num (wW L (if 0<ns.length then (cd L i 2).2 else i)).1,(wW L (if 0<ns.length then (cd L i 2).2 else i)).2)
theorem Ba (L:List Int)(ns:List ByteArray){i:Nat}(h:i≤L.length):(qA L ns i).2≤L.length:=by
 unfold qA;split
 ·exact ba _ _ (ba _ _ h)
 ·refine KA L ?_;split
  ·exact ba _ _ h
  ·exact h
def qK (L:List Int)(ns:List ByteArray):Nat→Nat→Ex×Nat
 | 0,i=>qA L ns (cd L i 10).2
 | d+1,i=>
  if (cd L i 10).1<2 then qA L ns (cd L i 10).2
  else if (cd L i 10).1<4 then (.un ((cd L i 10).1 % 2) (qK L ns d (cd L i 10).2).1,(qK L ns d (cd L i 10).2).2)
  else (.bin (cd L (cd L i 10).2 13).1 (qK L ns d (cd L (cd L i 10).2 13).2).1 (qK L ns d (qK L ns d (cd L (cd L i 10).2 13).2).2).1,(qK L ns d (qK L ns d (cd L (cd L i 10).2 13).2).2).2)
theorem nZ (L:List Int)(ns:List ByteArray):∀ (d:Nat) {i:Nat},i≤L.length→(qK L ns d i).2≤L.length
 | 0,i,h=>Ba L ns (ba _ _ h)
 | d+1,i,h=>by
  rw[qK];split
  ·exact Ba L ns (ba _ _ h)
  ·split
   ·exact nZ L ns d (ba _ _ h)
   ·exact nZ L ns d (nZ L ns d (ba _ _ (ba _ _ h)))
def dq (L:List Int)(ar:Bool)(vars:List ByteArray)(i:Nat):Ex×Nat:=if ar=true then qK L vars (1+(cd L i 2).1) (cd L i 2).2 else qK L vars 0 i
def pa (L:List Int)(ar:Bool)(vars:List ByteArray)(size i:Nat):Ex×Nat:=
 if ar=true∧(cd L i 3).1=1 then qK L vars 1 (cd L i 3).2 else (.num (cd L (if ar=true then (cd L i 3).2 else i) size).1,(cd L (if ar=true then (cd L i 3).2 else i) size).2)
theorem kf (L:List Int)(ar:Bool)(vars:List ByteArray){i:Nat}(h:i≤L.length):(dq L ar vars i).2≤L.length:=by
 unfold dq;split
 ·exact nZ _ _ _ (ba _ _ h)
 ·exact nZ _ _ _ h
theorem KO (L:List Int)(ar:Bool)(vars:List ByteArray)(size:Nat){i:Nat}(h:i≤L.length):(pa L ar vars size i).2≤L.length:=by
 unfold pa;split
 ·exact nZ _ _ _ (ba _ _ h)
 ·refine ba _ _ ?_;split
  ·exact ba _ _ h
  ·exact h
def Gt (p:Pm):List ByteArray:=if p.mutex=true then [p.name,p.name] else []
def bX (ms:List Mx)(ps:List Pm):List ByteArray:=ms.map (·.name)++ps.flatMap Gt
def kX (ms:List Mx)(j:Nat):Nat:=match ms[j]? with
 | some m=>m.size
 | none=>0
def jz (L:List Int)(ar:Bool)(ms:List Mx)(ps:List Pm)(vars:List ByteArray)(i:Nat):Rf×Nat:=
 if (cd L i (bX ms ps).length).1<ms.length∧0<kX ms (cd L i (bX ms ps).length).1 then
  (⟨(bX ms ps).getD (cd L i (bX ms ps).length).1 eS,some (pa L ar vars (kX ms (cd L i (bX ms ps).length).1) (cd L i (bX ms ps).length).2).1⟩,(pa L ar vars (kX ms (cd L i (bX ms ps).length).1) (cd L i (bX ms ps).length).2).2)
 else (⟨(bX ms ps).getD (cd L i (bX ms ps).length).1 eS,none⟩,(cd L i (bX ms ps).length).2)
theorem qt (L:List Int)(ar:Bool)(ms:List Mx)(ps:List Pm)(vars:List ByteArray){i:Nat}(h:i≤L.length):(jz L ar ms ps vars i).2≤L.length:=by
 unfold jz;split
 ·exact KO _ _ _ _ (ba _ _ h)
 ·exact ba _ _ h
def de (L:List Int)(ar:Bool)(ms:List Mx)(ps:List Pm)(vars:List ByteArray):List Pm→Nat→List Ar×Nat
 | [],i=>([],i)
 | p::r,i=>if p.mutex=true then (.vm (jz L ar ms ps vars i).1::(de L ar ms ps vars r (jz L ar ms ps vars i).2).1,(de L ar ms ps vars r (jz L ar ms ps vars i).2).2)
  else (.exp (dq L ar vars i).1::(de L ar ms ps vars r (dq L ar vars i).2).1,(de L ar ms ps vars r (dq L ar vars i).2).2)
theorem qW (L:List Int)(ar:Bool)(ms:List Mx)(ps:List Pm)(vars:List ByteArray):∀ (l:List Pm) {i:Nat},i≤L.length→(de L ar ms ps vars l i).2≤L.length
 | [],_,h=>h
 | p::r,i,h=>by
  rw[de];split
  ·exact qW L ar ms ps vars r (qt _ _ _ _ _ h)
  ·exact qW L ar ms ps vars r (kf _ _ _ h)
def strs (ns:List ByteArray):CV:=.aA (ns.map .str) ns.length
def fG (left:Nat):ByteArray:=⟨#[118]⟩++⟨#[UInt8.ofNat (97+left % 26),UInt8.ofNat (97+left / 26 % 26)]⟩
structure L6 where
 out:List Sm
 vars:List ByteArray
 i:Nat
 left:Nat
structure Wr where
 L:List Int
 ar:Bool
 ms:List Mx
 fs:List (ByteArray×List Pm)
abbrev Rec:=List ByteArray→Nat→Nat→Nat→Nat→List Sm×Nat×Nat
def Bv (w:Wr)(rec:Rec)(ps:List Pm)(vars:List ByteArray)(i left:Nat):L6:=
 ⟨.dA false (jz w.L w.ar w.ms ps vars i).1::(rec vars 0 2 (jz w.L w.ar w.ms ps vars i).2 left).1++[.dA true (jz w.L w.ar w.ms ps vars i).1],vars,(rec vars 0 2 (jz w.L w.ar w.ms ps vars i).2 left).2.1,(rec vars 0 2 (jz w.L w.ar w.ms ps vars i).2 left).2.2⟩
def gX (w:Wr)(ps:List Pm)(vars:List ByteArray)(go:Bool)(i left:Nat):L6:=
 ⟨[.ef go (w.fs.getD (cd w.L i w.fs.length).1 (eS,[])).1 (de w.L w.ar w.ms ps vars (w.fs.getD (cd w.L i w.fs.length).1 (eS,[])).2 (cd w.L i w.fs.length).2).1],vars,(de w.L w.ar w.ms ps vars (w.fs.getD (cd w.L i w.fs.length).1 (eS,[])).2 (cd w.L i w.fs.length).2).2,left⟩
def OK (w:Wr)(rec:Rec)(vars:List ByteArray)(deep i left:Nat):L6:=
 let e:=dq w.L w.ar vars i
 let th:=rec vars (deep-1) 3 e.2 left
 let c:=cd w.L th.2.1 2
 if c.1=1 then
  let el:=rec vars (deep-1) 3 c.2 th.2.2
  ⟨[.lE e.1 th.1 el.1],vars,el.2.1,el.2.2⟩
 else ⟨[.lE e.1 th.1 []],vars,c.2,th.2.2⟩
def NV (w:Wr)(rec:Rec)(vars:List ByteArray)(deep i left:Nat):L6:=
 let e:=dq w.L w.ar vars i
 let th:=rec vars (deep-1) 3 e.2 left
 ⟨[.cJ e.1 th.1],vars,th.2.1,th.2.2⟩
def z5 (w:Wr)(rec:Rec)(ps:List Pm)(vars:List ByteArray)(deep i0 left:Nat):L6:=
 let k:=(cd w.L i0 14).1
 let i:=(cd w.L i0 14).2
 if k<4 then ⟨[.dA false (jz w.L w.ar w.ms ps vars i).1],vars,(jz w.L w.ar w.ms ps vars i).2,left⟩
 else if k<7 then ⟨[.dA true (jz w.L w.ar w.ms ps vars i).1],vars,(jz w.L w.ar w.ms ps vars i).2,left⟩
 else if k=7 then ⟨[.g6 (fG left) (dq w.L w.ar vars i).1],vars++[fG left],(dq w.L w.ar vars i).2,left⟩
 else if k=8∧0<vars.length then ⟨[.iD (vars.getD (cd w.L i vars.length).1 eS) (dq w.L w.ar vars (cd w.L i vars.length).2).1],vars,(dq w.L w.ar vars (cd w.L i vars.length).2).2,left⟩
 else if k=9 then gX w ps vars false i left
 else if k=10 then gX w ps vars true i left
 else if k=11∧0<deep then OK w rec vars deep i left
 else if k=12∧0<deep then NV w rec vars deep i left
 else if k=13∧(cd w.L i 3).1=1 then ⟨[.jF],vars,(cd w.L i 3).2,left⟩
 else if k=13 then Bv w rec ps vars (cd w.L i 3).2 left
 else Bv w rec ps vars i left
def sT (w:Wr)(rec:Rec)(ps:List Pm)(deep:Nat):Nat→List ByteArray→Nat→Nat→List Sm×Nat×Nat
 | 0,_,i,left=>([],i,left)
 | n+1,vars,i,left=>
  if left=0 then ([],i,left) else
  let s:=z5 w rec ps vars deep i (left-1)
  let r:=sT w rec ps deep n s.vars s.i s.left
  (s.out++r.1,r.2)
def nu (w:Wr)(ps:List Pm):Nat→Rec
 | 0=>fun _ _ most i left=>([],(cd w.L i (most+1)).2,left)
 | f+1=>fun vars deep most i left=>sT w (nu w ps f) ps deep (cd w.L i (most+1)).1 vars (cd w.L i (most+1)).2 left
def wC (L:List Int)(rec:Rec):Prop:=∀ vars deep most i left,i≤L.length→(rec vars deep most i left).2.1≤L.length∧(rec vars deep most i left).1.length+2*(rec vars deep most i left).2.2≤2*left
structure JD (L:List Int)(vars:List ByteArray)(left:Nat)(b:L6):Prop where
 i:b.i≤L.length
 n:b.out.length+2*b.left≤2*(left+1)
 v:b.vars.length+b.left≤vars.length+left+1
 l:b.left≤left
 p:0<b.out.length
theorem Ew {w:Wr}{rec:Rec}(h:wC w.L rec)(ps:List Pm)(vars:List ByteArray){i:Nat}(left:Nat)(hi:i≤w.L.length):JD w.L vars left (Bv w rec ps vars i left):=by
 obtain⟨h1,h2⟩:=h vars 0 2 _ left (qt w.L w.ar w.ms ps vars hi);refine⟨h1,?_,?_,?_,?_⟩<;>simp only[Bv,List.length_append,List.length_cons,List.length_nil]<;>omega
theorem BK {w:Wr}(ps:List Pm)(vars:List ByteArray)(go:Bool){i:Nat}(left:Nat)(hi:i≤w.L.length):JD w.L vars left (gX w ps vars go i left):=by
 refine⟨qW _ _ _ _ _ _ (ba _ _ hi),?_,?_,?_,?_⟩<;>simp only[gX,List.length_cons,List.length_nil]<;>omega
theorem Mi {w:Wr}{rec:Rec}(h:wC w.L rec)(vars:List ByteArray)(deep:Nat){i:Nat}(left:Nat)(hi:i≤w.L.length):JD w.L vars left (NV w rec vars deep i left):=by
 obtain⟨h1,h2⟩:=h vars (deep-1) 3 _ left (kf w.L w.ar vars hi);refine⟨h1,?_,?_,?_,?_⟩<;>simp only[NV,List.length_cons,List.length_nil]<;>omega
theorem Ni {w:Wr}{rec:Rec}(h:wC w.L rec)(vars:List ByteArray)(deep:Nat){i:Nat}(left:Nat)(hi:i≤w.L.length):JD w.L vars left (OK w rec vars deep i left):=by
 obtain⟨h1,h2⟩:=h vars (deep-1) 3 _ left (kf w.L w.ar vars hi);obtain⟨h3,h4⟩:=h vars (deep-1) 3 (cd w.L (rec vars (deep-1) 3 (dq w.L w.ar vars i).2 left).2.1 2).2 (rec vars (deep-1) 3 (dq w.L w.ar vars i).2 left).2.2 (ba _ _ h1);unfold OK;simp only;split
 ·refine⟨h3,?_,?_,?_,?_⟩<;>simp only[List.length_cons,List.length_nil]<;>omega
 ·refine⟨ba _ _ h1,?_,?_,?_,?_⟩<;>simp only[List.length_cons,List.length_nil]<;>omega
theorem Hh {w:Wr}{rec:Rec}(h:wC w.L rec)(ps:List Pm)(vars:List ByteArray)(deep:Nat){i:Nat}(left:Nat)(hi:i≤w.L.length):JD w.L vars left (z5 w rec ps vars deep i left):=by
 have PI:=ba w.L 14 hi;unfold z5;simp only;split
 ·exact⟨qt _ _ _ _ _ PI,by simp<;>omega,by simp<;>omega,Nat.le_refl _,by simp⟩
 split
 ·exact⟨qt _ _ _ _ _ PI,by simp<;>omega,by simp<;>omega,Nat.le_refl _,by simp⟩
 split
 ·exact⟨kf _ _ _ PI,by simp<;>omega,by simp<;>omega,Nat.le_refl _,by simp⟩
 split
 ·exact⟨kf _ _ _ (ba _ _ PI),by simp<;>omega,by simp<;>omega,Nat.le_refl _,by simp⟩
 split
 ·exact BK ps vars false left PI
 split
 ·exact BK ps vars true left PI
 split
 ·exact Ni h vars deep left PI
 split
 ·exact Mi h vars deep left PI
 split
 ·exact⟨ba _ _ PI,by simp<;>omega,by simp<;>omega,Nat.le_refl _,by simp⟩
 split
 ·exact Ew h ps vars left (ba _ _ PI)
 ·exact Ew h ps vars left PI
theorem Ie {w:Wr}{rec:Rec}(h:wC w.L rec)(ps:List Pm)(deep:Nat):∀ (n:Nat) (vars:List ByteArray) (i left:Nat),i≤w.L.length→(sT w rec ps deep n vars i left).2.1≤w.L.length∧(sT w rec ps deep n vars i left).1.length+2*(sT w rec ps deep n vars i left).2.2≤2*left
 | 0,vars,i,left,hi=>⟨hi,by simp[sT]⟩
 | n+1,vars,i,left,hi=>by
  rw[sT];split
  ·exact⟨hi,by simp⟩
  ·have h1:=Hh h ps vars deep (left-1) hi;obtain⟨h2,h3⟩:=Ie h ps deep n (z5 w rec ps vars deep i (left-1)).vars (z5 w rec ps vars deep i (left-1)).i (z5 w rec ps vars deep i (left-1)).left h1.i;refine⟨h2,?_⟩;have:=h1.n;simp only[List.length_append];omega
theorem uD (w:Wr)(ps:List Pm):∀ f:Nat,wC w.L (nu w ps f)
 | 0=>fun vars deep most i left hi=>⟨ba _ _ hi,by simp[nu]⟩
 | f+1=>fun vars deep most i left hi=>Ie (uD w ps f) ps deep _ vars _ left (ba _ _ hi)
def ep (n:Nat):ByteArray:=⟨#[UInt8.ofNat n]⟩
def ru (L:List Int):Nat→Nat→Nat→List Mx×Nat
 | 0,_,i=>([],i)
 | n+1,j,i=>
  if (cd L i 5).1=1 then (⟨ep (97+j),true,0⟩ :: (ru L n (j+1) (cd L i 5).2).1,(ru L n (j+1) (cd L i 5).2).2)
  else if (cd L i 5).1=2 then (⟨ep (97+j),false,1+(cd L (cd L i 5).2 3).1⟩ :: (ru L n (j+1) (cd L (cd L i 5).2 3).2).1,(ru L n (j+1) (cd L (cd L i 5).2 3).2).2)
  else (⟨ep (97+j),false,0⟩ :: (ru L n (j+1) (cd L i 5).2).1,(ru L n (j+1) (cd L i 5).2).2)
def wZ (L:List Int):Nat→Nat→Nat→List Gl×Nat
 | 0,_,i=>([],i)
 | n+1,j,i=>(⟨⟨#[103]⟩++ep (48+j),((cd L i 5).1:Int)-2⟩ :: (wZ L n (j+1) (cd L i 5).2).1,(wZ L n (j+1) (cd L i 5).2).2)
def DQ (L:List Int):Nat→Nat→List Pm×Nat
 | 0,i=>([],i)
 | n+1,i=>(⟨⟨#[112]⟩++ep (48+(n+1)),decide (0<(cd L i 3).1)⟩ :: (DQ L n (cd L i 3).2).1,(DQ L n (cd L i 3).2).2)
def vJ (L:List Int):Nat→Nat→Nat→List Fu×Nat
 | 0,_,i=>([],i)
 | n+1,j,i=>
  let p:=DQ L (if j=0 then 0 else (cd L i 3).1) (cd L i 3).2
  (⟨if j=0 then ⟨#[109,97,105,110]⟩ else ⟨#[102]⟩++ep (48+j),p.1,[]⟩ :: (vJ L n (j+1) p.2).1,(vJ L n (j+1) p.2).2)
def jJ (gs:List Gl)(ps:List Pm):List ByteArray:=gs.map (·.name)++ps.flatMap fun p=>if p.mutex=true then [] else [p.name]
def Lb (w:Wr)(gs:List Gl):Nat→Nat→List Fu→Nat→Nat→List Fu
 | 0,_,fs,_,_=>fs
 | n+1,j,fs,i,left=>
  match fs[j]? with
  | none=>fs
  | some f=>
   let b:=nu w f.params left (jJ gs f.params) 2 6 i left
   Lb w gs n (j+1) (fs.set j ⟨f.name,f.params,b.1⟩) b.2.1 b.2.2
def D2 (l:List Int):Pg:=
 let L:=l.take 400
 let a:=cd L 0 3
 let nm:=cd L a.2 4
 let ms:=ru L (1+nm.1) 0 nm.2
 let ng:=cd L ms.2 3
 let gs:=wZ L ng.1 0 ng.2
 let nf:=cd L gs.2 4
 let fs:=vJ L (nf.1+1) 0 nf.2
 ⟨gs.1,ms.1,Lb ⟨L,decide (a.1=1),ms.1,fs.1.map fun f=>(f.name,f.params)⟩ gs.1 (nf.1+1) 0 fs.1 fs.2 24⟩
end Go.aP
