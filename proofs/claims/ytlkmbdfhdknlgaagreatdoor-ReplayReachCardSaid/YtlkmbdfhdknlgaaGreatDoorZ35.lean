/- Exits as folds; the program's rounds of summaries; the depth -/
import Derived.Test.YtlkmbdfhdknlgaaGreatDoorZ34
namespace Go.aN
open Go.Can
def BA (u:Un)(x:Is)(L:Nat)(t:List (List Nat)):Nat→List Nat
 | 0=>sS L
 | k+1=>if (au u x)[k]?.map gM=some true then mJ (BA u x L t k) (t.getD k []) else BA u x L t k
theorem yN {u:Un}{x:Is}{L n:Nat}{t:List (List Nat)}(ht:tg L n t):∀ k,k≤n→qW L (BA u x L t k)
 | 0,_=>BH L
 | k+1,hk=>by
  have ih:=yN (u:=u) (x:=x) ht k yA;unfold BA;split
  ·obtain⟨r,hr,hw⟩:=ht.get (p:=k) yA;rw[List.getD_eq_getElem?_getD,hr];exact BR ih hw
  ·exact ih
theorem GD {z:In}:gM z=true↔z=.ret:=by cases z<;>simp[gM]
theorem DK {u:Un}{x:Is}{L n:Nat}{t:List (List Nat)}(ht:tg L n t){d e:Nat}:∀ k,k≤n→(bb (BA u x L t k) d e=true↔∃ pc,pc<k∧(au u x)[pc]? = some .ret∧eL t pc d e=true)
 | 0,_=>by simp[BA,xQ]
 | k+1,hk=>by
  have ih:=DK (u:=u) (x:=x) (d:=d) (e:=e) ht k yA;have hw:=yN (u:=u) (x:=x) ht k yA;obtain⟨r,hr,Yp⟩:=ht.get (p:=k) yA;have hg:t.getD k []=r:=by rw[List.getD_eq_getElem?_getD,hr];rfl
  have W8:eL t k d e=bb r d e:=jJ hr d e;unfold BA;split
  ·rename_i RY;have hz:(au u x)[k]? = some .ret:=by
    cases hc:(au u x)[k]? with
    | none=>rw[hc] at RY;cases RY
    | some z=>
     rw[hc] at RY;simp only[Option.map_some,Option.some.injEq] at RY;rw[GD.1 RY]
   rw[hg,xV (by rw[hw.len,Yp.len]),Bool.or_eq_true,ih];constructor
   ·rintro (⟨pc,h1,h2,h3⟩ | h)
    ·exact⟨pc,by omega,h2,h3⟩
    ·exact⟨k,by omega,hz,by rw[W8];exact h⟩
   ·rintro⟨pc,h1,h2,h3⟩;by_cases hp:pc=k
    ·subst hp;rw[W8] at h3;exact .inr h3
    ·exact .inl ⟨pc,by omega,h2,h3⟩
  ·rename_i RY;rw[ih];constructor
   ·rintro⟨pc,h1,h2,h3⟩;exact⟨pc,by omega,h2,h3⟩
   ·rintro⟨pc,h1,h2,h3⟩;by_cases hp:pc=k
    ·subst hp;rw[h2] at RY;exact (RY rfl).elim
    ·exact⟨pc,by omega,h2,h3⟩
theorem J2 {u:Un}{c:Cl}{m L i:Nat}{x:Is}(hx:c.is[i]? = some x)(sm:List (List Nat)):BA u x L (qc L (au u x).length (Ri u c m L (wP sm) i)) (au u x).length=Cw u c m L sm i:=by
 have hw:=iG L (au u x).length (Ri u c m L (wP sm) i);refine Dc (yN hw _ (Nat.le_refl _)) fun d e hd he=>?_;rw[DK hw _ (Nat.le_refl _)];constructor
 ·rintro⟨pc,h1,h2,h3⟩;exact⟨pc,x,hx,h2,(qb h1 hd he).1 h3⟩
 ·rintro⟨pc,y,h1,h2,h3⟩;rw[hx] at h1;cases h1;have hl:=(List.getElem?_eq_some_iff.1 h2).1;exact⟨pc,hl,h2,(qb hl hd he).2 h3⟩
section
variable {u:Un}{c:Cl}{m L:Nat}
theorem AK (H:FU u c L){i d:Nat}:bb (pJ u c m L) i d=true↔pf u c m L i d:=by
 unfold bb pJ;rw[List.getD_eq_getElem?_getD,List.getElem?_map];by_cases hi:i<c.is.length
 ·rw[List.getElem?_eq_getElem Wa];simp only[List.getElem_range,Option.map_some,Option.getD_some];by_cases hd:d≤L
  ·exact ot hd
  ·constructor
   ·intro h;exact (hd (CM (nu L _) h)).elim
   ·intro h;exact (hd (Cz H h).2).elim
 ·rw[List.getElem?_eq_none Wa];constructor
  ·intro h;simp at h
  ·intro h;exact (hi (Cz H h).1).elim
theorem ap_be (H:FU u c L){i pc:Nat}{x:Is}(h:pc<(au u x).length):BD ((dX u c m L i x).getD pc []) ((pJ u c m L).getD i 0)=lJ L (Be u c m L i pc):=
 Dw (ID h) fun e _=>by
  rw[zd h];exact⟨fun⟨d,h1,h2⟩=>⟨d,(AK H).1 h1,h2⟩,fun⟨d,h1,h2⟩=>⟨d,(AK H).2 h1,h2⟩⟩
noncomputable def wz (u:Un) (c:Cl) (m L i:Nat) (x:Is):List Nat:=(List.range (au u x).length).map fun pc=>lJ L (Be u c m L i pc)
noncomputable def CO (u:Un) (c:Cl) (m L:Nat):List (List Nat):=(List.range c.is.length).map fun i=>match c.is[i]? with
 | some x=>wz u c m L i x
 | none=>[]
theorem D7 {i:Nat}{x:Is}(hx:c.is[i]? = some x):(CO u c m L)[i]? = some (wz u c m L i x):=by
 have hl:=(List.getElem?_eq_some_iff.1 hx).1;rw[CO,List.getElem?_map,List.getElem?_eq_getElem (by simpa using hl)];simp only[List.getElem_range,Option.map_some,hx]
theorem D8 {i pc:Nat}{x:Is}(h:pc<(au u x).length):(wz u c m L i x)[pc]? = some (lJ L (Be u c m L i pc)):=by
 rw[wz,List.getElem?_map,List.getElem?_eq_getElem QW];simp
end
theorem w63 {x:Nat}(h:x<2 ^ 63):IntKind.i64.wrap (x:Int)=x:=IntWalk.i64_in _ ⟨by omega,by omega⟩
theorem shr_i64 (x d:Nat)(hd:d≤64):Int.fdiv (x:Int) (2 ^ (min ((d:Int)).toNat IntKind.i64.bits))=((x >>> d:Nat):Int):=by
 have h1:min ((d:Int)).toNat IntKind.i64.bits=d:=by
  show min ((d:Int)).toNat 64=d;omega
 rw[h1,Nat.shiftRight_eq_div_pow,Int.fdiv_eq_ediv_of_nonneg _ (Int.le_of_lt (Int.pow_pos yA))];norm_cast
theorem Ko (x d:Nat):(x >>> d) &&& 1=if x.testBit d=true then 1 else 0:=by
 rw[Nat.and_one_is_mod,Nat.testBit_eq_decide_div_mod_eq,Nat.shiftRight_eq_div_pow];by_cases h:x / 2 ^ d % 2=1
 ·simp[h]
 ·have:x / 2 ^ d % 2=0:=by omega
  simp[this]
theorem Jc {d:Nat}(hd:d≤62):IntKind.i64.wrap (1*2 ^ (min ((d:Int)).toNat IntKind.i64.bits))=((2 ^ d:Nat):Int):=by
 have h1:min ((d:Int)).toNat IntKind.i64.bits=d:=by
  show min ((d:Int)).toNat 64=d;omega
 rw[h1];have h2:(2:Nat) ^ d<2 ^ 63:=Nat.pow_lt_pow_right yA yA;have h3:(1*2 ^ d:Int)=((2 ^ d:Nat):Int):=by push_cast;omega
 rw[h3,w63 h2]
theorem JM {x:Nat}(h:x<2 ^ 63):x % 2 ^ IntKind.i64.bits=x:=by
 show x % 2 ^ 64=x;omega
theorem and_s {x y:Nat}(hx:x<2 ^ 63)(hy:y<2 ^ 63):IntKind.i64.wrap ((x % 2 ^ IntKind.i64.bits &&& y % 2 ^ IntKind.i64.bits:Nat):Int)=((x &&& y:Nat):Int):=by
 rw[JM hx,JM hy,w63 (Nat.and_lt_two_pow x hy)]
theorem LW {x y:Nat}(hx:x<2 ^ 63)(hy:y<2 ^ 63):IntKind.i64.wrap ((x % 2 ^ IntKind.i64.bits ||| y % 2 ^ IntKind.i64.bits:Nat):Int)=((x ||| y:Nat):Int):=by
 rw[JM hx,JM hy,w63 (Nat.or_lt_two_pow hx hy)]
theorem shr_s (x:Nat){d:Nat}(hd:d≤64):Int.fdiv (x:Int) (2 ^ (min d IntKind.i64.bits))=((x >>> d:Nat):Int):=by
 have h1:min d IntKind.i64.bits=d:=by
  show min d 64=d;omega
 rw[h1,Nat.shiftRight_eq_div_pow,Int.fdiv_eq_ediv_of_nonneg _ (Int.le_of_lt (Int.pow_pos yA))];norm_cast
theorem bit_s {x d:Nat}(hx:x<2 ^ 63)(hd:d≤64):∃ y z:Nat,Int.fdiv (x:Int) (2 ^ (min d IntKind.i64.bits))=(y:Int)∧IntKind.i64.wrap ((y % 2 ^ IntKind.i64.bits &&& 1 % 2 ^ IntKind.i64.bits:Nat):Int)=(z:Int)∧((z:Int) == 1)=x.testBit d:=by
 refine⟨x >>> d,_,shr_s x hd,and_s (y:=1) (Nat.lt_of_le_of_lt (Nat.shiftRight_le x d) hx) yA,?_⟩;rw[Ko];cases x.testBit d<;>rfl
theorem shl_s {d:Nat}(hd:d≤62):IntKind.i64.wrap (2 ^ (min d IntKind.i64.bits))=((2 ^ d:Nat):Int):=by
 have h:=Jc hd;rw[Int.one_mul] at h
 simpa using h
end Go.aN
namespace Go.Proofs.YtlkmbdfhdknlgaaGreatDoor
open Go.Can Go.aN
theorem B7 (x d:Nat)(hx:x<2 ^ 63)(hd:d≤60):ae Tryz.prog 15 [I x,I d] (.bool (decide (d≤8) && x.testBit d)):=by
 refine ae.aH af Tryz.func15 rfl N4 (by simp[Tryz.ntmps15]) rfl fun C hC N8=>?_;rw[Tryz.ntmps15] at hC;obtain⟨y,z,b1,b2,b3⟩:=bit_s hx (d:=d) yA;have b0:¬ ((d:Int)<0):=by omega
 apply ai;simp[hC];by_cases h8:d≤8
 ·have h8':(d:Int)≤8:=by omega
  apply ai;simp[hC,h8',b0,b1,b2,b3];apply T.ret;apply aa.here;simp[Tryz.results15,h8]
 ·have h8':¬ (d:Int)≤8:=by omega
  apply ai;simp[hC,h8'];apply T.ret;apply aa.here;simp[Tryz.results15,h8]
def J80 (r:List Nat)(x:Nat)(m:Nat)(s:St):Prop:=∃ i a:Nat,m=r.length-i∧i≤r.length∧a<2 ^ 63∧a ||| FE (r.drop i) x i=BD r x∧s=⟨[(6,I i),(5,I a),(0,aB r),(1,I x)],[],0⟩
theorem IE {r:List Nat}{i s:Nat}(h:r[i]? = some s)(x:Nat):FE (r.drop i) x i=(if x.testBit i=true then s else 0) ||| FE (r.drop (i+1)) x (i+1):=by
 have hl:=(List.getElem?_eq_some_iff.1 h).1;rw[List.drop_eq_getElem_cons hl];have:=(List.getElem?_eq_some_iff.1 h).2;rw[this,FE]
theorem rK (r:List Nat)(x:Nat)(hl:r.length≤9)(hr:∀ s∈r,s<2 ^ 63)(hx:x<2 ^ 63):ae Tryz.prog 44 [aB r,I x] (I (BD r x)):=by
 have tr:=bj r;refine ae.aH af Tryz.func44 rfl N4 (by simp[Tryz.ntmps44]) rfl fun C hC N8=>?_;rw[Tryz.ntmps44] at hC;apply ai;simp[hC];apply ai;simp[hC];apply aL;simp[hC];apply T.block;refine T.aI (J80 r x) (n:=r.length) ?_ ?_
 ·refine aa.trim [6,5,0,1] [] 0 (by simp[-List.all_eq_true,a9 0 _ (aE r)]) yA ⟨0,0,by omega,by omega,by omega,by simp[BD],?_⟩;simp
 ·rintro n s ⟨i,a,rfl,hi,ha,RN,rfl⟩;simp only[aB];by_cases N6:i<r.length
  ·obtain⟨b,hb⟩:∃ b,r[i]? = some b:=⟨_,List.getElem?_eq_getElem N6⟩;have N7:=fA hb;have Qd:=hr b (List.mem_of_getElem? hb);have Oo:=B7 x i hx yA;have wi:=cf ((i:Int)+1) yA yA;have OH:=IE hb x;have h8:i≤8:=by omega
   have XF:=LW (x:=a) (y:=b) ha Qd;have Oz:trees [I x,I i]=true:=rfl;apply aL;simp[hC,N6];refine fh ?_;simp;apply eG;apply ai;simp[hC];refine dc Oz Oo ?_;simp[h8]
   cases UE:x.testBit i with
   | true=>
    refine T.cond (b:=true) Vz ?_;simp;apply aY;simp[hC,N6,N7,XF];apply aY;simp[hC,wi];refine⟨r.length-(i+1),by omega,aa.trim [6,5,0,1] [] 0 QA yA ⟨i+1,a ||| b,rfl,by omega,Nat.or_lt_two_pow ha Qd,?_,?_⟩⟩
    ·rw[← RN,OH,UE,if_pos rfl,Nat.or_assoc]
    ·simp[aB]
   | false=>
    refine T.cond (b:=false) Vz (T.skip ?_);simp;apply aY;simp[hC,wi];refine⟨r.length-(i+1),by omega,aa.trim [6,5,0,1] [] 0 QA yA ⟨i+1,a,rfl,by omega,ha,?_,?_⟩⟩
    ·rw[← RN,OH,UE];simp
    ·simp[aB]
  ·have Oe:i=r.length:=by omega
   subst Oe;rw[List.drop_length,FE,Nat.or_zero] at RN;apply aL;simp[hC];refine aX ?_;simp;apply T.exit;simp;apply ai;simp[hC];apply T.ret;apply aa.here;rw[RN];simp[Tryz.results44]
theorem Lt {L i:Nat}(c:Int)(h:i<L+1):(sV L c)[i]? = some (if 0≤(i:Int)+c∧(i:Int)+c≤L then 2 ^ ((i:Int)+c).toNat else 0):=by
 simp[sV,List.getElem?_range h]
theorem n7 (L:Nat)(c:Int):(sV L c).length=L+1:=by simp[sV]
def J148 (L:Nat)(c:Int)(m:Nat)(s:St):Prop:=∃ i:Nat,m=L+1-i∧i≤L+1∧s=⟨[(6,I i),(5,.bp 0 0 (L+1)),(0,I L),(1,I c)],[(0,⟨3,1,jY (sV L c) i⟩)],1⟩
theorem wT (L:Nat)(c:Int)(hL:L≤8)(h1 : -1≤c)(h2:c≤1):ae Tryz.prog 74 [I L,I c] (aB (sV L c)):=by
 refine ae.aH af Tryz.func74 rfl N4 (by simp[Tryz.ntmps74]) (aE _) fun C hC N8=>?_;rw[Tryz.ntmps74] at hC;have wL:=cf ((L:Int)+1) yA yA;have bd:0≤(L:Int)+1∧8*((L:Int)+1)≤281474976710656∧(L:Int)+1≤9223372036854775807:=by omega
 apply ai;simp[hC];apply ai;simp[hC,wL,bd];apply aL;simp[hC];apply T.block;refine T.aI (J148 L c) (n:=L+1) ?_ ?_
 ·refine aa.trim [6,5,0,1] [0] 1 QA yA ⟨0,by omega,by omega,?_⟩;rw[r7,n7];simp
 ·rintro n s ⟨i,rfl,hi,rfl⟩;have O8:(jY (sV L c) i).length=L+1:=by rw[vj (by rw[n7];exact hi),n7]
  have U7:=pF (sV L c) i;by_cases N6:i<L+1
  ·have WT:(i:Int)≤(L:Int):=by omega
   have wi:=cf ((i:Int)+1) yA yA;have wc:=cf ((i:Int)+c) yA yA;have Qg:=Lt c N6;apply aL;simp[hC,WT];refine fh ?_;simp;apply eG;apply ai;simp[hC,wc];by_cases h0:0≤(i:Int)+c
   ·obtain⟨e,he⟩:∃ e:Nat,(i:Int)+c=e:=⟨((i:Int)+c).toNat,by omega⟩;rw[he] at Qg;simp only[he];by_cases hL2:(e:Int)≤(L:Int)
    ·have Ws:=shl_s (d:=e) yA;rw[if_pos ⟨by omega,hL2⟩,Int.toNat_natCast] at Qg;apply ai;simp[hC,hL2];refine cB ?_;simp;have b0:¬ ((e:Int)<0):=by omega
     have hiI:(i:Int)<(L:Int)+1:=by omega
     have QR:i≤L:=by omega
     apply aY;simp[hC,b0,Ws,QR,O8,hiI];apply aY;simp[hC,wi];refine⟨L+1-(i+1),by omega,aa.trim [6,5,0,1] [0] 1 yCm yA ⟨i+1,rfl,by omega,?_⟩⟩;rw[← vi Qg];simp
    ·rw[if_neg yA] at Qg;apply ai;simp[hC,hL2];refine dv ?_;simp;apply aY;simp[hC,wi];refine⟨L+1-(i+1),by omega,aa.trim [6,5,0,1] [0] 1 (by simp[-List.all_eq_true,ah U7]) yA ⟨i+1,rfl,by omega,?_⟩⟩;rw[xy Qg];simp
   ·rw[if_neg yA] at Qg;apply ai;simp[hC,h0];refine dv ?_;simp;apply aY;simp[hC,wi];refine⟨L+1-(i+1),by omega,aa.trim [6,5,0,1] [0] 1 (by simp[-List.all_eq_true,ah U7]) yA ⟨i+1,rfl,by omega,?_⟩⟩;rw[xy Qg];simp
  ·have Oe:i=L+1:=by omega
   subst Oe;have Tg:=vk (sV L c);rw[n7] at Tg;have tF:=bj (sV L c);have Rb:¬ ((L:Int)+1≤(L:Int)):=by omega
   rw[Tg] at O8 ⊢;apply aL;simp[hC,Rb];refine aX ?_;simp;apply T.exit;simp;apply ai;simp[hC];apply T.ret;refine aa.le (Le.cV (o:=0) rfl tF) ?_;apply aa.here;have On:List.take (L+1) ((sV L c).map fun n:Nat=>I n)=(sV L c).map fun n:Nat=>I n:=List.take_of_length_le (by rw[List.length_map,n7];omega);simp[Tryz.results74,aB,n7,On]
theorem oC (a b:List Nat):(q9 a b).length=a.length:=by simp[q9]
theorem ME {a b:List Nat}{i x:Nat}(h:a[i]? = some x):(q9 a b)[i]? = some (BD b x):=by simp[q9,h]
def J150 (a b:List Nat)(m:Nat)(s:St):Prop:=∃ i:Nat,m=a.length-i∧i≤a.length∧s=⟨[(6,I i),(5,.bp 0 0 a.length),(0,aB a),(1,aB b)],[(0,⟨3,1,jY (q9 a b) i⟩)],1⟩
theorem GL (a b:List Nat)(la:a.length≤9)(lb:b.length≤9)(ha:∀ s∈a,s<2 ^ 63)(hb:∀ s∈b,s<2 ^ 63):ae Tryz.prog 76 [aB a,aB b] (aB (q9 a b)):=by
 refine ae.aH af Tryz.func76 rfl N4 (by simp[Tryz.ntmps76]) (aE _) fun C hC N8=>?_;rw[Tryz.ntmps76] at hC;have ta:=bj a;have tb:=bj b;have bd:8*(a.length:Int)≤281474976710656∧(a.length:Int)≤9223372036854775807:=by omega
 simp only[aB];apply ai;simp[hC];apply ai;simp[hC,bd];apply aL;simp[hC];apply T.block;refine T.aI (J150 a b) (n:=a.length) ?_ ?_
 ·refine aa.trim [6,5,0,1] [0] 1 QA yA ⟨0,by omega,by omega,?_⟩;rw[r7,oC];simp[aB]
 ·rintro n s ⟨i,rfl,hi,rfl⟩;have O8:(jY (q9 a b) i).length=a.length:=by rw[vj (by rw[oC];exact hi),oC]
  have U7:=pF (q9 a b) i;simp only[aB];by_cases N6:i<a.length
  ·obtain⟨x,hx⟩:∃ x,a[i]? = some x:=⟨_,List.getElem?_eq_getElem N6⟩;have N7:=fA hx;have Qg:=ME (b:=b) hx;have wi:=cf ((i:Int)+1) yA yA;have RN:=rK b x lb hb (ha x (List.mem_of_getElem? hx));have Oz:trees [aB b,I x]=true:=by simp only[trees,aE,tree,Bool.and_self]
   simp only[aB] at RN Oz;apply aL;simp[hC,N6];refine fh ?_;simp;apply eG;apply aY;simp[hC,N6,N7];refine dc Oz RN ?_;have WS:i+1≤a.length:=N6;simp[hC,N6,WS,O8];apply aY;simp[hC,wi];refine⟨a.length-(i+1),by omega,aa.trim [6,5,0,1] [0] 1 yCm yA ⟨i+1,rfl,by omega,?_⟩⟩;rw[← vi Qg];simp[aB]
  ·have Oe:i=a.length:=by omega
   subst Oe;have Tg:=vk (q9 a b);rw[oC] at Tg;have tF:=bj (q9 a b);rw[Tg] at O8 ⊢;apply aL;simp[hC];refine aX ?_;simp;apply T.exit;simp;apply ai;simp[hC];apply T.ret;refine aa.le (Le.cV (o:=0) rfl tF) ?_;apply aa.here;have On:List.take a.length ((q9 a b).map fun n:Nat=>I n)=(q9 a b).map fun n:Nat=>I n:=List.take_of_length_le (by rw[List.length_map,oC];omega);simp[Tryz.results76,oC,On]
theorem nO {a b:List Nat}(h:b.length=a.length):(mJ a b).length=a.length:=by simp[mJ,h]
theorem Lm {a b:List Nat}{i x y:Nat}(h1:a[i]? = some x)(h2:b[i]? = some y):(mJ a b)[i]? = some (x ||| y):=by simp[mJ,List.getElem?_zipWith,h1,h2]
def J151 (a b:List Nat)(m:Nat)(s:St):Prop:=∃ i:Nat,m=a.length-i∧i≤a.length∧s=⟨[(6,I i),(5,.bp 0 0 a.length),(0,aB a),(1,aB b)],[(0,⟨3,1,jY (mJ a b) i⟩)],1⟩
theorem C8 (a b:List Nat)(la:a.length≤1000)(lb:b.length=a.length)(ha:∀ s∈a,s<2 ^ 63)(hb:∀ s∈b,s<2 ^ 63):ae Tryz.prog 77 [aB a,aB b] (aB (mJ a b)):=by
 refine ae.aH af Tryz.func77 rfl N4 (by simp[Tryz.ntmps77]) (aE _) fun C hC N8=>?_;rw[Tryz.ntmps77] at hC;have ta:=bj a;have tb:=bj b;have bd:8*(a.length:Int)≤281474976710656∧(a.length:Int)≤9223372036854775807:=by omega
 simp only[aB];apply ai;simp[hC];apply ai;simp[hC,bd];apply aL;simp[hC];apply T.block;refine T.aI (J151 a b) (n:=a.length) ?_ ?_
 ·refine aa.trim [6,5,0,1] [0] 1 QA yA ⟨0,by omega,by omega,?_⟩;rw[r7,nO lb];simp[aB]
 ·rintro n s ⟨i,rfl,hi,rfl⟩;have O8:(jY (mJ a b) i).length=a.length:=by rw[vj (by rw[nO lb];exact hi),nO lb]
  have U7:=pF (mJ a b) i;simp only[aB];by_cases N6:i<a.length
  ·obtain⟨x,hx⟩:∃ x,a[i]? = some x:=⟨_,List.getElem?_eq_getElem N6⟩;have Zh:i<b.length:=by omega
   obtain⟨y,hy⟩:∃ y,b[i]? = some y:=⟨_,List.getElem?_eq_getElem Zh⟩;have N7:=fA hx;have Pc:=fA hy;have Qg:=Lm hx hy;have wi:=cf ((i:Int)+1) yA yA;have XF:=LW (ha x (List.mem_of_getElem? hx)) (hb y (List.mem_of_getElem? hy));have WS:i+1≤a.length:=N6;apply aL;simp[hC,N6];refine fh ?_;simp;apply eG;refine T.rx af follows [0,1,2,3,4,5,6,7,8,9,10,11,12] [] N4 ?_;simp[hC,N6,Zh,N7,Pc,XF,WS,O8];apply aY;simp[hC,wi];refine⟨a.length-(i+1),by omega,aa.trim [6,5,0,1] [0] 1 yCm yA ⟨i+1,rfl,by omega,?_⟩⟩;rw[← vi Qg];simp[aB]
  ·have Oe:i=a.length:=by omega
   subst Oe;have Tg:=vk (mJ a b);rw[nO lb] at Tg;have tF:=bj (mJ a b);rw[Tg] at O8 ⊢;apply aL;simp[hC];refine aX ?_;simp;apply T.exit;simp;apply ai;simp[hC];apply T.ret;refine aa.le (Le.cV (o:=0) rfl tF) ?_;apply aa.here;have On:List.take a.length ((mJ a b).map fun n:Nat=>I n)=(mJ a b).map fun n:Nat=>I n:=List.take_of_length_le (by rw[List.length_map,nO lb];omega);simp[Tryz.results77,nO lb,On]
end Go.Proofs.YtlkmbdfhdknlgaaGreatDoor
namespace Go.aN
open Go.Can
theorem Au {cs:List CV}(h:cs.length=11):∃ c1 c2 c3 c4 c5 c6 c7 c8 c9 Xi Xh,cs=[c1,c2,c3,c4,c5,c6,c7,c8,c9,Xi,Xh]:=by
 match cs,h with
 | [a,b,c,d,e,f,g,h,i,j,k],_=>exact⟨a,b,c,d,e,f,g,h,i,j,k,rfl⟩
end Go.aN
namespace Go.Proofs.YtlkmbdfhdknlgaaGreatDoor
open Go.Can Go.aN
theorem HQ (e:Ex):(bM e).all one=true:=by cases e<;>rfl
theorem Jv (o:Option Ex):one (oZ o)=true:=by rw[nq];rfl
theorem GP (q:Pl):(pt q).all one=true:=by simp only[pt,List.all_cons,List.all_nil,Jv];rfl
theorem nA (x:In):(cU x).all one=true:=by
 cases x<;>simp only[cU,List.cons_append,List.nil_append,List.append_assoc,List.all_append,List.all_cons,List.all_nil,HQ,GP,one,Bool.and_self,Bool.and_true,Bool.true_and]<;>rfl
theorem G5 (is:Is)(q:Pl)(h:q.param=true→q.index<is.bI.length):ae Tryz.prog 117 [.agg (cC is),.agg (pt q)] (I (oq is q)):=by
 refine ae.aH af Tryz.func117 rfl N4 (by simp[Tryz.ntmps117]) rfl fun C hC N8=>?_;rw[Tryz.ntmps117] at hC;simp only[cC,pt,aB,nq];apply ai;simp[hC]
 cases hq:q.param with
 | true=>
  have Oa:=h hq;obtain⟨n,hn⟩:∃ n,is.bI[q.index]? = some n:=⟨_,List.getElem?_eq_getElem Oa⟩;have N7:=fA hn;have WD:oq is q=n:=by simp[oq,hq,List.getD_eq_getElem?_getD,hn]
  apply aL;simp[hC,Oa];refine cB ?_;simp;apply ai;simp[hC,Oa,N7];apply T.ret;apply aa.here;simp[Tryz.results117,WD]
 | false=>
  have WD:oq is q=q.index:=by simp[oq,hq]
  apply aL;simp[hC];refine dv ?_;simp;apply ai;simp[hC];apply T.ret;apply aa.here;simp[Tryz.results117,WD]
set_option maxHeartbeats 2000000 in
theorem uJ {u:Un}(hu:im u){x:Is}(hx:pY u x){k:Nat}{z:In}(hz:(au u x)[k]? = some z)(m:Nat):ae Tryz.prog 28 [cK u,.agg (cC x),I k,I m] (I (dw x m z)):=by
 obtain⟨pq,OT,N9,Sx,Zg⟩:=nE hu hx hz;rw[N9] at hz;have Po:=(List.getElem?_eq_some_iff.1 OT).1;have Ot:=(List.getElem?_eq_some_iff.1 hz).1;have N7:=a8 (f:=jS) (n:=5) fQ OT 4 yA;have OQ:=aD (f:=cU) (n:=12) eg hz;have Rv:=nA z;have SR:=iu z;have Oj:=aP u;simp only[bX,ints] at Oj;obtain⟨xc,Pt,PH⟩:=gT z;obtain⟨c1,c2,c3,c4,c5,c6,c7,c8,c9,Xi,Xh,rfl⟩:=Au PH;rw[Pt] at OQ Rv SR;simp only[List.all_cons,List.all_nil,Bool.and_true,Bool.and_eq_true] at Rv;obtain⟨_,o1,o2,o3,o4,o5,o6,o7,o8,o9,Z6,Z5⟩:=Rv;refine ae.aH af Tryz.func28 rfl N4 (by simp[Tryz.ntmps28]) rfl fun C hC N8=>?_;rw[Tryz.ntmps28] at hC;simp only[cK,bX,cC,ints];apply ai;simp[hC];apply ai;simp[hC,Po,N7,jS,Ot,OQ];apply eG;by_cases VU:∃ un p,z=.lock un p
 ·obtain⟨un,p,rfl⟩:=VU;have hp:pt p=[c7,c8,c9]:=by
   have h:=congrArg (fun l=>(l.drop 7).take 3) Pt
   simpa [cU,bM,pt] using h
  have YP:IL u.ms u.gs.length pq.locals pq.bI p:=Zg;have hq:p.param=true→p.index<x.bI.length:=fun h=>by
   rw[Sx];rcases YP with h6 | h6
   ·exact h6.2.1
   ·rw[h] at h6;cases h6.1
  have Qw:=wU x p hq;rw[hp] at Qw;have h2:trees [c7,c8,c9]=true:=by rw[← hp];exact jC p
  have tp:trees [.agg (cC x),.agg [c7,c8,c9]]=true:=by
   rw[show trees [.agg (cC x),.agg [c7,c8,c9]]=(trees (cC x) && (trees [c7,c8,c9] && true)) from rfl,bD,h2];rfl
  simp only[cC] at Qw tp
  cases un with
  | false=>
   have Ol:mN (.lock false p)=4:=rfl;rw[Ol];apply ai;simp[hC];refine TL.bY Oc rfl rfl rfl rfl (bH.of rfl tp Qw) (TL.go' af ?_);by_cases QF:oq x p=m
   ·have hc:dw x m (.lock false p)=1:=by simp[dw,QF]
    rw[hc];simp[hC,QF];refine cB ?_;simp;apply ai;simp[hC];apply T.ret;apply aa.here;simp[Tryz.results28]
   ·have hc:dw x m (.lock false p)=0:=by simp[dw,QF]
    have WG:¬ ((oq x p:Int)=(m:Int)):=by omega
    rw[hc];simp[hC];refine T.cond (b:=false) (by simp[ev,assoc,QF]) ?_;simp;apply ai;simp[hC];refine dv ?_;simp;apply ai;simp[hC];apply T.ret;apply aa.here;simp[Tryz.results28]
  | true=>
   have Ol:mN (.lock true p)=5:=rfl;rw[Ol];apply ai;simp[hC];refine aX ?_;simp;apply ai;simp[hC];refine TL.bY Oc rfl rfl rfl rfl (bH.of rfl tp Qw) (TL.go' af ?_);by_cases QF:oq x p=m
   ·have hc:dw x m (.lock true p)=-1:=by simp[dw,QF]
    rw[hc];simp[hC,QF];refine cB ?_;simp;apply ai;simp[hC];apply T.ret;apply aa.here;simp[Tryz.results28]
   ·have hc:dw x m (.lock true p)=0:=by simp[dw,QF]
    rw[hc];simp[hC];refine T.cond (b:=false) (by simp[ev,assoc,QF]) (T.skip ?_);simp;apply ai;simp[hC];apply T.ret;apply aa.here;simp[Tryz.results28]
 ·have ON:(((mN z:Int) == 4)=false∧((mN z:Int) == 5)=false)∧dw x m z=0:=by
   cases z with
   | lock un p=>exact (VU ⟨un,p,rfl⟩).elim
   | call g t l ps=>cases g<;>exact⟨⟨rfl,rfl⟩,rfl⟩
   | _=>exact⟨⟨rfl,rfl⟩,rfl⟩
  obtain⟨⟨h4,h5⟩,hc⟩:=ON;rw[hc];apply ai;simp[hC,h4];refine aX ?_;simp;apply ai;simp[hC,h5];refine dv ?_;simp;apply ai;simp[hC];apply T.ret;apply aa.here;simp[Tryz.results28]
theorem D1 (x:Is)(m:Nat)(z:In) : -1≤dw x m z∧dw x m z≤1:=by
 unfold dw;split
 ·split
  ·split<;>omega
  ·omega
 ·omega
theorem jy (x:Mx):aG x≤8:=by unfold aG;split<;>omega
theorem uW (x:Mx):(eM x).length=3:=rfl
theorem Jg {u:Un}(hu:im u){x:Is}(hx:pY u x){k:Nat}{z:In}(hz:(au u x)[k]? = some z){m:Nat}{xm:Mx}(hm:u.ms[m]? = some xm):ae Tryz.prog 75 [cK u,.agg (cC x),I k,I m] (aB (sV (aG xm) (dw x m z))):=by
 have Rp:=uJ hu hx hz m;have Pw:=tJ xm;have Ws:=wT (aG xm) (dw x m z) (jy xm) (D1 x m z).1 (D1 x m z).2;have Qx:=(List.getElem?_eq_some_iff.1 hm).1;have Uy:=aD (f:=eM) (n:=3) uW hm;have Oj:=aP u;have ti:=bD x;have t1:trees [.agg (eM xm)]=true:=rfl;have t2:trees [cK u,.agg (cC x),I k,I m]=true:=by simp only[trees,tree,cK,Oj,ti,Bool.and_self]
 have t3:trees [I (aG xm),I (dw x m z)]=true:=rfl;refine ae.aH af Tryz.func75 rfl N4 (by simp[Tryz.ntmps75]) (aE _) fun C hC N8=>?_;rw[Tryz.ntmps75] at hC;simp only[cK,bX,cC,ints] at Rp t2 ⊢;apply ai;simp[hC];refine T.seq (T.rx af follows [0,1,2,3,4,6,7,8,9,5,10,11,12] [(6,5),(7,5)] N4 ?_);simp[hC,Qx,Uy,eM];simp only[eM] at Pw t1;refine RX.call rfl rfl rfl rfl rfl t1 Pw ?_;simp;refine RX.call rfl rfl rfl rfl rfl t2 Rp ?_;simp;refine RX.call rfl rfl rfl rfl rfl t3 Ws ?_;simp;apply T.ret;apply aa.here;simp[Tryz.results75]
theorem z7 {u:Un}(hu:im u){x:Is}(hx:pY u x){k:Nat}{z:In}(hz:(au u x)[k]? = some z):ae Tryz.prog 93 [cK u,.agg (cC x),I k] (.agg (cU z)):=by
 obtain⟨pq,OT,N9,Sx,Zg⟩:=nE hu hx hz;rw[N9] at hz;have Po:=(List.getElem?_eq_some_iff.1 OT).1;have Ot:=(List.getElem?_eq_some_iff.1 hz).1;have N7:=a8 (f:=jS) (n:=5) fQ OT 4 yA;have OQ:=aD (f:=cU) (n:=12) eg hz;have Rv:=nA z;have SR:=iu z;have Oj:=aP u;simp only[bX,ints] at Oj;obtain⟨xc,Pt,PH⟩:=gT z;obtain⟨c1,c2,c3,c4,c5,c6,c7,c8,c9,Xi,Xh,rfl⟩:=Au PH;rw[Pt] at OQ Rv SR ⊢;simp only[List.all_cons,List.all_nil,Bool.and_true,Bool.and_eq_true] at Rv;obtain⟨_,o1,o2,o3,o4,o5,o6,o7,o8,o9,Z6,Z5⟩:=Rv;have Qh:tree (.agg [I (mN z),c1,c2,c3,c4,c5,c6,c7,c8,c9,Xi,Xh])=true:=by simp only[tree,SR]
 refine ae.aH af Tryz.func93 rfl N4 (by simp[Tryz.ntmps93]) Qh fun C hC N8=>?_;rw[Tryz.ntmps93] at hC;simp only[cK,bX,cC,ints];apply ai;simp[hC];apply ai;simp[hC,Po,N7,jS,Ot,OQ];apply T.ret;apply aa.here;simp[Tryz.results93]
set_option maxHeartbeats 2000000 in
theorem Cd {u:Un}(hu:im u){x:Is}(hx:pY u x){k:Nat}{z:In}(hz:(au u x)[k]? = some z)(m:Nat):ae Tryz.prog 90 [cK u,.agg (cC x),I k,I m] (I (dw x m z)):=by
 have QT:=z7 hu hx hz;obtain⟨pq,OT,N9,Sx,Zg⟩:=nE hu hx hz;have Rv:=nA z;have SR:=iu z;have Oj:=aP u;have ti:=bD x;obtain⟨xc,Pt,PH⟩:=gT z;obtain⟨c1,c2,c3,c4,c5,c6,c7,c8,c9,Xi,Xh,rfl⟩:=Au PH;rw[Pt] at Rv SR QT;simp only[List.all_cons,List.all_nil,Bool.and_true,Bool.and_eq_true] at Rv;obtain⟨_,o1,o2,o3,o4,o5,o6,o7,o8,o9,Z6,Z5⟩:=Rv;have t2:trees [cK u,.agg (cC x),I k]=true:=by simp only[trees,tree,cK,Oj,ti,Bool.and_self]
 refine ae.aH af Tryz.func90 rfl N4 (by simp[Tryz.ntmps90]) rfl fun C hC N8=>?_;rw[Tryz.ntmps90] at hC;simp only[cK,bX,cC,ints] at QT t2 ⊢;apply ai;simp[hC];apply ai;simp[hC];refine dc t2 QT ?_;simp[hC];by_cases VU:∃ un p,z=.lock un p
 ·obtain⟨un,p,rfl⟩:=VU;have hp:pt p=[c7,c8,c9]:=by
   have h:=congrArg (fun l=>(l.drop 7).take 3) Pt
   simpa [cU,bM,pt] using h
  have YP:IL u.ms u.gs.length pq.locals pq.bI p:=Zg;have hq:p.param=true→p.index<x.bI.length:=fun h=>by
   rw[Sx];rcases YP with h6 | h6
   ·exact h6.2.1
   ·rw[h] at h6;cases h6.1
  have Qw:=G5 x p hq;rw[hp] at Qw;have h2:trees [c7,c8,c9]=true:=by rw[← hp];exact jC p
  have tp:trees [.agg (cC x),.agg [c7,c8,c9]]=true:=by
   rw[show trees [.agg (cC x),.agg [c7,c8,c9]]=(trees (cC x) && (trees [c7,c8,c9] && true)) from rfl,bD,h2];rfl
  simp only[cC] at Qw tp
  cases un with
  | false=>
   have Ol:mN (.lock false p)=4:=rfl;rw[Ol];apply aL;simp[hC];refine TL.bY Oc rfl rfl rfl rfl (bH.of rfl tp Qw) (TL.go' af ?_);by_cases QF:oq x p=m
   ·have hc:dw x m (.lock false p)=1:=by simp[dw,QF]
    rw[hc];simp[hC,QF];refine dv ?_;simp;apply aL;simp[hC];refine cB ?_;simp;apply ai;simp[hC];apply T.ret;apply aa.here;simp[Tryz.results90]
   ·have hc:dw x m (.lock false p)=0:=by simp[dw,QF]
    have WG:((oq x p:Int) != (m:Int))=true:=by rw[bne_iff_ne];omega
    rw[hc];simp[hC,WG];refine cB ?_;simp;apply ai;simp[hC];apply T.ret;apply aa.here;simp[Tryz.results90]
  | true=>
   have Ol:mN (.lock true p)=5:=rfl;rw[Ol];apply aL;simp[hC];refine TL.bY Oc rfl rfl rfl rfl (bH.of rfl tp Qw) (TL.go' af ?_);by_cases QF:oq x p=m
   ·have hc:dw x m (.lock true p)=-1:=by simp[dw,QF]
    rw[hc];simp[hC,QF];refine dv ?_;simp;apply aL;simp[hC];refine dv ?_;simp;apply ai;simp[hC];apply T.ret;apply aa.here;simp[Tryz.results90]
   ·have hc:dw x m (.lock true p)=0:=by simp[dw,QF]
    have WG:((oq x p:Int) != (m:Int))=true:=by rw[bne_iff_ne];omega
    rw[hc];simp[hC,WG];refine cB ?_;simp;apply ai;simp[hC];apply T.ret;apply aa.here;simp[Tryz.results90]
 ·have ON:(((mN z:Int) != 4)=true∧((mN z:Int) != 5)=true)∧dw x m z=0:=by
   cases z with
   | lock un p=>exact (VU ⟨un,p,rfl⟩).elim
   | call g t l ps=>cases g<;>exact⟨⟨rfl,rfl⟩,rfl⟩
   | _=>exact⟨⟨rfl,rfl⟩,rfl⟩
  obtain⟨⟨h4,h5⟩,hc⟩:=ON;rw[hc];apply aL;simp[hC,h4,h5];refine cB ?_;simp;apply ai;simp[hC];apply T.ret;apply aa.here;simp[Tryz.results90]
theorem F6 (g p:Nat):fU [p] g=if g=p then [g] else [min g p,max g p]:=by
 unfold fU cq;by_cases h:g=p
 ·simp[h]
 ·rw[if_neg h];by_cases h2:p<g
  ·simp[h,h2];omega
  ·simp[h,h2];omega
theorem qj {u:Un}(hu:im u){x:Is}(hx:pY u x){k:Nat}{z:In}(hz:(au u x)[k]? = some z)(hk:k≤1000000):ae Tryz.prog 24 [cK u,.agg (cC x),I k] (aB (dJ z k)):=by
 obtain⟨pq,OT,N9,Sx,Zg⟩:=nE hu hx hz;rw[N9] at hz;have Po:=(List.getElem?_eq_some_iff.1 OT).1;have Ot:=(List.getElem?_eq_some_iff.1 hz).1;have N7:=a8 (f:=jS) (n:=5) fQ OT 4 yA;have OQ:=aD (f:=cU) (n:=12) eg hz;have Rv:=nA z;have SR:=iu z;have Oj:=aP u;have wk:=cf ((k:Int)+1) yA yA;simp only[bX,ints] at Oj;obtain⟨xc,Pt,PH⟩:=gT z;obtain⟨c1,c2,c3,c4,c5,c6,c7,c8,c9,Xi,Xh,rfl⟩:=Au PH;rw[Pt] at OQ Rv SR;simp only[List.all_cons,List.all_nil,Bool.and_true,Bool.and_eq_true] at Rv;obtain⟨_,o1,o2,o3,o4,o5,o6,o7,o8,o9,Z6,Z5⟩:=Rv;refine ae.aH af Tryz.func24 rfl N4 (by simp[Tryz.ntmps24]) (aE _) fun C hC N8=>?_;rw[Tryz.ntmps24] at hC;simp only[cK,bX,cC,ints];apply ai;simp[hC];apply ai;simp[hC,Po,N7,jS,Ot,OQ];apply aL;simp[hC];apply T.block
 cases z with
 | ret=>
  have Ol:mN In.ret=8:=rfl;rw[Ol];apply ai;simp[hC];refine cB ?_;simp;apply ai;simp[hC];apply T.ret;simp;refine aa.le (Le.trim [6] [] 0 N3 yA) ?_;simp;refine aa.le (Le.nz [6] []) ?_;apply aa.here;simp[dJ,aB]
 | jump g=>
  have Ol:mN (In.jump g)=7:=rfl;have SN:c1=I g:=by
   have h:=congrArg (fun l=>l.drop 1) Pt;simp[cU] at h;exact h.1.symm
  subst SN;rw[Ol];apply ai;simp[hC];refine aX ?_;simp;apply ai;simp[hC];refine cB ?_;simp;apply ai;simp[hC];apply T.ret;simp;refine aa.le (Le.trim [6] [3] 4 N3 yA) ?_;simp;refine aa.le (Le.cV (o:=3) rfl rfl) ?_;apply aa.here;simp[dJ,aB]
 | branch g e=>
  have Ol:mN (In.branch g e)=6:=rfl;have SN:c1=I g:=by
   have h:=congrArg (fun l=>l.drop 1) Pt;simp[cU] at h;exact h.1.symm
  subst SN;have hw:=zL [k+1] g N3;have OV:dJ (In.branch g e) k=fU [k+1] g:=by rw[F6];rfl
  have Oz:trees [aB [k+1],I g]=true:=rfl;rw[OV,Ol];apply ai;simp[hC];refine aX ?_;simp;apply ai;simp[hC];refine aX ?_;simp;apply ai;simp[hC];refine cB ?_;simp;apply ai;simp[hC,wk];refine TL.le (Le.cV (o:=3) rfl rfl) ?_;simp;refine dc Oz hw ?_;simp[hC];apply T.ret;simp;refine aa.le (Le.trim [6] [] 0 (by simp[aB]) yA) ?_;simp;apply aa.here;simp
 | set t gl e=>
  rw[show mN (In.set t gl e)=1 from rfl];apply ai;simp[hC];refine aX ?_;simp;apply ai;simp[hC];refine aX ?_;simp;apply ai;simp[hC];refine dv ?_;simp;apply ai;simp[hC,wk];apply T.ret;refine aa.le (Le.trim [6] [3] 4 N3 yA) ?_;simp;refine aa.le (Le.cV (o:=3) rfl rfl) ?_;apply aa.here;simp[dJ,aB]
 | call g t l ps=>
  cases g with
  | true=>
   rw[show mN (In.call true t l ps)=3 from rfl];apply ai;simp[hC];refine aX ?_;simp;apply ai;simp[hC];refine aX ?_;simp;apply ai;simp[hC];refine dv ?_;simp;apply ai;simp[hC,wk];apply T.ret;refine aa.le (Le.trim [6] [3] 4 N3 yA) ?_;simp;refine aa.le (Le.cV (o:=3) rfl rfl) ?_;apply aa.here;simp[dJ,aB]
  | false=>
   rw[show mN (In.call false t l ps)=2 from rfl];apply ai;simp[hC];refine aX ?_;simp;apply ai;simp[hC];refine aX ?_;simp;apply ai;simp[hC];refine dv ?_;simp;apply ai;simp[hC,wk];apply T.ret;refine aa.le (Le.trim [6] [3] 4 N3 yA) ?_;simp;refine aa.le (Le.cV (o:=3) rfl rfl) ?_;apply aa.here;simp[dJ,aB]
 | lock un p=>
  cases un with
  | true=>
   rw[show mN (In.lock true p)=5 from rfl];apply ai;simp[hC];refine aX ?_;simp;apply ai;simp[hC];refine aX ?_;simp;apply ai;simp[hC];refine dv ?_;simp;apply ai;simp[hC,wk];apply T.ret;refine aa.le (Le.trim [6] [3] 4 N3 yA) ?_;simp;refine aa.le (Le.cV (o:=3) rfl rfl) ?_;apply aa.here;simp[dJ,aB]
  | false=>
   rw[show mN (In.lock false p)=4 from rfl];apply ai;simp[hC];refine aX ?_;simp;apply ai;simp[hC];refine aX ?_;simp;apply ai;simp[hC];refine dv ?_;simp;apply ai;simp[hC,wk];apply T.ret;refine aa.le (Le.trim [6] [3] 4 N3 yA) ?_;simp;refine aa.le (Le.cV (o:=3) rfl rfl) ?_;apply aa.here;simp[dJ,aB]
end Go.Proofs.YtlkmbdfhdknlgaaGreatDoor
