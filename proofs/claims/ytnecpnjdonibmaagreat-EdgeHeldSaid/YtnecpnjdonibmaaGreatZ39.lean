/- has, With. -/
import Derived.Test.YtnecpnjdonibmaaGreatZ38
namespace Go.Proofs.YtnecpnjdonibmaaGreat
open Go.Can Go.aP
def J94 (l:List Nat)(x:Nat)(m:Nat)(s:St):Prop:=∃ i:Nat,m=l.length-i∧i≤l.length∧(x∉l.take i)∧s=⟨[(5,I i),(0,az l),(1,I x)],[],0⟩
theorem Kc (l:List Nat)(x:Nat)(hl:l.length≤100000):af Tryz.prog 205 [az l,I x] (.bool (decide (x∈l))):=by
 refine af.aK ai Tryz.func205 rfl OV (by simp[Tryz.ntmps205]) rfl fun C hC O0=>?_;rw[Tryz.ntmps205] at hC;simp only[az];apply aq;simp[hC];apply aO;simp[hC];apply T.block;refine T.aH (J94 l x) (n:=l.length) ?_ ?_
 ·refine ae.trim [5,0,1] [] 0 QJ yA ⟨0,by omega,by omega,by simp,?_⟩;simp[az]
 ·rintro n s ⟨i,rfl,hi,hx,rfl⟩;simp only[az];by_cases OX:i<l.length
  ·obtain⟨a,ha⟩:∃ a,l[i]? = some a:=⟨l[i],List.getElem?_eq_getElem OX⟩;have OZ:=cZ ha;have wi:=cC ((i:Int)+1) yA yA;have Pd:l.take (i+1)=l.take i++[a]:=by rw[List.take_add_one,ha];rfl
   apply aO;simp[hC,OX];refine fB ?_;simp;apply ed;by_cases hax:a=x
   ·have hd:decide (x∈l)=true:=by simp only[decide_eq_true_eq];exact hax ▸ List.mem_of_getElem? ha
    subst hax;apply aq;simp[hC,OX,OZ];refine fE ?_;simp;apply aq;simp[hC];apply T.ret;apply ae.here;rw[hd];simp[Tryz.results205]
   ·have Pf:((a:Int) == (x:Int))=false:=by
     rw[beq_eq_false_iff_ne];omega
    apply aq;simp[hC,OX,OZ,Pf];refine gw ?_;simp;apply aV;simp[hC,wi];refine⟨l.length-(i+1),by omega,ae.trim [5,0,1] [] 0 QJ yA ⟨i+1,rfl,by omega,?_,?_⟩⟩
    ·rw[Pd,List.mem_append,List.mem_singleton,not_or];exact⟨hx,fun h=>hax h.symm⟩
    ·simp[az]
  ·have O6:i=l.length:=by omega
   subst O6;rw[List.take_length] at hx;have hd:decide (x∈l)=false:=by simp[hx]
   apply aO;simp[hC];refine a7 ?_;simp;apply T.exit;simp;apply aq;simp[hC];apply T.ret;apply ae.here;rw[hd];simp[Tryz.results205]
theorem Ac:∀ (l:List Nat) (x i:Nat),i<cD l x→∃ a,l[i]? = some a∧a<x
 | [],x,i,h=>by simp[cD] at h
 | b::r,x,i,h=>by
  simp only[cD,List.takeWhile_cons] at h;split at h
  ·rename_i hb
   cases i with
   | zero=>exact⟨b,rfl,by simpa using hb⟩
   | succ i=>
    obtain⟨a,h1,h2⟩:=Ac r x i (by simp only[cD];simpa using h);exact⟨a,by simpa using h1,h2⟩
  ·simp at h
theorem xf:∀ (l:List Nat) (x:Nat),cD l x≤l.length∧∀ a,l[cD l x]? = some a→¬ a<x
 | [],x=>⟨by simp[cD],fun a h=>by simp[cD] at h⟩
 | b::r,x=>by
  obtain⟨h1,h2⟩:=xf r x;simp only[cD,List.takeWhile_cons] at h1 h2 ⊢;split
  ·exact⟨by simpa using h1,fun a h=>h2 a RC⟩
  ·rename_i hb;refine⟨by simp,fun a h=>?_⟩;simp only[List.length_nil,List.getElem?_cons_zero,Option.some.injEq] at h;subst h
   simpa using hb
def J61 (l:List Nat)(x:Nat)(m:Nat)(s:St):Prop:=∃ i:Nat,m=cD l x-i∧i≤cD l x∧s=⟨[(5,I i),(0,az l),(1,I x)],[],0⟩
theorem Ax (l:List Nat)(x:Nat)(hl:l.length≤100000):af Tryz.prog 139 [az l,I x] (az (gh l x)):=by
 have hhas:=Kc l x hl;have tl:=aC l;obtain⟨TW,Ug⟩:=xf l x;refine af.aK ai Tryz.func139 rfl OV (by simp[Tryz.ntmps139]) (aD _) fun C hC O0=>?_;rw[Tryz.ntmps139] at hC;apply aq;simp[hC];apply aO;simp[hC];have O3:trees [az l,I x]=true:=by simp only[trees,aD,tree,Bool.and_self]
 refine dz O3 hhas ?_;simp;by_cases hm:x∈l
 ·have hw:gh l x=l:=if_pos hm;rw[hw];refine T.cond (b:=true) (by simp[ev,assoc,hm]) ?_;simp;apply aq;simp[hC];apply T.ret;apply ae.here;simp[Tryz.results139]
 ·have hw:gh l x=l.take (cD l x)++x::l.drop (cD l x):=if_neg hm;rw[hw];refine T.cond (b:=false) (by simp[ev,assoc,hm]) (T.skip ?_);simp;apply aq;simp[hC];apply ed;refine T.aH (J61 l x) (n:=cD l x) ?_ ?_
  ·refine ae.trim [5,0,1] [] 0 (by simp[-List.all_eq_true,aW 0 _ (aD l)]) yA ⟨0,by omega,by omega,?_⟩;simp
  ·rintro n s ⟨i,rfl,hi,rfl⟩;simp only[az];by_cases OX:i<cD l x
   ·obtain⟨a,ha,hax⟩:=Ac l x i OX;have OZ:=cZ ha;have SF:i<l.length:=(List.getElem?_eq_some_iff.1 ha).1;have wi:=cC ((i:Int)+1) yA yA;have hax':(a:Int)<(x:Int):=by omega
    apply aO;simp[hC,SF,OZ,hax'];refine fB ?_;simp;apply T.block;apply aV;simp[hC,wi];refine⟨cD l x-(i+1),by omega,ae.trim [5,0,1] [] 0 QJ yA ⟨i+1,rfl,by omega,?_⟩⟩;simp[az]
   ·have O6:i=cD l x:=by omega
    subst O6;apply T.seq;refine T.cut (fun s=>s=⟨[(21,.bool false),(5,I (cD l x)),(0,az l),(1,I x)],[],0⟩) ?_ ?_
    ·cases Qj:l[cD l x]? with
     | none=>
      have SF:¬ cD l x<l.length:=by
       rw[List.getElem?_eq_none_iff] at Qj;omega
      apply aV;simp[hC,SF];refine ae.trim [21,5,0,1] [] 0 QJ yA ?_;simp[az]
     | some a=>
      have SF:=(List.getElem?_eq_some_iff.1 Qj).1;have OZ:=cZ Qj;have RW:¬ (a:Int)<(x:Int):=by have:=Ug a Qj;omega
      apply aV;simp[hC,SF,OZ,RW];refine ae.trim [21,5,0,1] [] 0 QJ yA ?_;simp[az]
    rintro s rfl;refine a7 ?_;simp;apply T.exit;simp[az];have Si:cD l x*8≤140737488355328:=by omega
    have Qz:(cD l x+1)*8≤140737488355328:=by omega
    have hb3:(l.length+1)*8≤140737488355328:=by omega
    have hb4:(cD l x+1+(l.length-cD l x))*8≤140737488355328:=by omega
    apply T.seq;refine T.rx ai follows [0,1,2,3,4,5,6,7,8,9,10,11,12] [(0,3),(0,6),(0,10),(3,6),(4,6),(4,10),(6,10),(7,10)] OV ?_;simp[hC,TW,Si,Qz,hb4,bb];apply T.ret;have Ze:List.take (l.length-cD l x) (List.drop (cD l x) (l.map fun n:Nat=>I n))=(l.drop (cD l x)).map fun n:Nat=>I n:=by
     rw[← List.map_drop,List.take_of_length_le OU]
    have Pt:List.take (cD l x) (l.map fun n:Nat=>I n)++I x::((l.drop (cD l x)).map fun n:Nat=>I n)=(l.take (cD l x)++x::l.drop (cD l x)).map fun n:Nat=>I n:=by simp
    have hlen:cD l x+1+(l.length-cD l x)=(l.take (cD l x)++x::l.drop (cD l x)).length:=by simp;omega
    have tN:=aC (l.take (cD l x)++x::l.drop (cD l x));simp only[Ze];rw[Pt];have Pd:List.take (l.take (cD l x)++x::l.drop (cD l x)).length ((l.take (cD l x)++x::l.drop (cD l x)).map fun n:Nat=>I n)=(l.take (cD l x)++x::l.drop (cD l x)).map fun n:Nat=>I n:=List.take_of_length_le OU;rw[hlen];generalize hL:(l.take (cD l x)++x::l.drop (cD l x))=L at tN Pd;refine ae.le (Le.trim [4] [15] 16 (by simp[-List.all_eq_true,ah tN]) yA) ?_;simp;refine ae.le (Le.dp (o:=15) rfl tN) ?_;simp[Pd];apply ae.here;simp;exact⟨by rw[← hL];simp,by rw[← hL];simp;omega⟩
end Go.Proofs.YtnecpnjdonibmaaGreat
namespace Go.aP
open Go.Can
theorem NW {x:Nat}(h:x<2 ^ 63):IntKind.i64.wrap (x:Int)=x:=IntWalk.i64_in _ ⟨by omega,by omega⟩
theorem zX (x:Nat):BitVec.ofInt IntKind.i64.bits (x:Int)=BitVec.ofNat 64 x:=BitVec.ofInt_natCast 64 x
theorem and_i64 {x y:Nat}(hx:x<2 ^ 63)(hy:y<2 ^ 63):IntKind.i64.wrap ((BitVec.ofInt IntKind.i64.bits (x:Int) &&& BitVec.ofInt IntKind.i64.bits (y:Int)).toNat:Int)=((x &&& y:Nat):Int):=by
 rw[zX,zX];have h1:(BitVec.ofNat 64 x &&& BitVec.ofNat 64 y).toNat=x &&& y:=by
  rw[BitVec.toNat_and,BitVec.toNat_ofNat,BitVec.toNat_ofNat,Nat.mod_eq_of_lt yA,Nat.mod_eq_of_lt yA]
 refine Eq.trans (congrArg (fun n:Nat=>IntKind.i64.wrap (n:Int)) h1) (NW ?_);exact Nat.and_lt_two_pow x hy
def xd (a b:Nat):Nat:=a ^^^ (a &&& b)
theorem uz (a b e:Nat):(xd a b).testBit e=(a.testBit e && !b.testBit e):=by
 rw[xd,Nat.testBit_xor,Nat.testBit_and];cases a.testBit e<;>cases b.testBit e<;>rfl
theorem I1 {a b:Nat}(h:a<2 ^ 63):xd a b<2 ^ 63:=Nat.xor_lt_two_pow h (Nat.lt_of_le_of_lt Nat.and_le_left h)
theorem NM {x y:Nat}(hx:x<2 ^ 63)(_hy:y<2 ^ 63):IntKind.i64.wrap ((BitVec.ofInt IntKind.i64.bits (x:Int) &&& ~~~BitVec.ofInt IntKind.i64.bits (y:Int)).toNat:Int)=((xd x y:Nat):Int):=by
 rw[zX,zX];have h1:(BitVec.ofNat 64 x &&& ~~~BitVec.ofNat 64 y).toNat=xd x y:=by
  refine Nat.eq_of_testBit_eq fun e=>?_;rw[uz];by_cases he:e<64
  ·rw[BitVec.testBit_toNat,BitVec.getLsbD_and,BitVec.getLsbD_not,BitVec.getLsbD_ofNat,BitVec.getLsbD_ofNat];simp[he]
  ·have h2:x.testBit e=false:=Nat.testBit_lt_two_pow (Nat.lt_of_lt_of_le hx (Nat.pow_le_pow_right yA yA));rw[h2];exact Nat.testBit_lt_two_pow (Nat.lt_of_lt_of_le (BitVec.isLt _) (Nat.pow_le_pow_right yA yA))
 exact Eq.trans (congrArg (fun n:Nat=>IntKind.i64.wrap (n:Int)) h1) (NW (I1 hx))
theorem Bu (a b:Nat):xd a b=0↔a ||| b=b:=by
 constructor
 ·intro h;refine Nat.eq_of_testBit_eq fun e=>?_;have h1:=uz a b e;rw[h,Nat.zero_testBit] at h1;rw[Nat.testBit_or];cases ha:a.testBit e<;>cases hb:b.testBit e<;>simp_all
 ·intro h;refine Nat.eq_of_testBit_eq fun e=>?_;have h1:=congrArg (fun n:Nat=>n.testBit e) h;simp only[Nat.testBit_or] at h1;rw[uz,Nat.zero_testBit];cases ha:a.testBit e<;>cases hb:b.testBit e<;>simp_all
theorem Ev (a:Nat):xd a 1=0↔a≤1:=by
 rw[Bu];constructor
 ·intro h;rw[← h];exact Nat.left_le_or
 ·intro h;have:a=0∨a=1:=by omega
  rcases this with rfl | rfl<;>rfl
theorem shr_i64 (x d:Nat)(hd:d≤64):Int.fdiv (x:Int) (2 ^ (min ((d:Int)).toNat IntKind.i64.bits))=((x >>> d:Nat):Int):=by
 have h1:min ((d:Int)).toNat IntKind.i64.bits=d:=by
  show min ((d:Int)).toNat 64=d;omega
 rw[h1,Nat.shiftRight_eq_div_pow,Int.fdiv_eq_ediv_of_nonneg _ (Int.le_of_lt (Int.pow_pos yA))];norm_cast
theorem Lf (x d:Nat):(x >>> d) &&& 1=if x.testBit d=true then 1 else 0:=by
 rw[Nat.and_one_is_mod,Nat.testBit_eq_decide_div_mod_eq,Nat.shiftRight_eq_div_pow];by_cases h:x / 2 ^ d % 2=1
 ·simp[h]
 ·have:x / 2 ^ d % 2=0:=by omega
  simp[this]
theorem J5 {d:Nat}(hd:d≤62):IntKind.i64.wrap (1*2 ^ (min ((d:Int)).toNat IntKind.i64.bits))=((2 ^ d:Nat):Int):=by
 have h1:min ((d:Int)).toNat IntKind.i64.bits=d:=by
  show min ((d:Int)).toNat 64=d;omega
 rw[h1];have h2:(2:Nat) ^ d<2 ^ 63:=Nat.pow_lt_pow_right yA yA;have h3:(1*2 ^ d:Int)=((2 ^ d:Nat):Int):=by push_cast;omega
 rw[h3,NW h2]
theorem FJ {x:Nat}(h:x<2 ^ 63):x % 2 ^ IntKind.i64.bits=x:=by
 show x % 2 ^ 64=x;omega
theorem Jy {x y:Nat}(hx:x<2 ^ 63)(hy:y<2 ^ 63):IntKind.i64.wrap ((x % 2 ^ IntKind.i64.bits &&& y % 2 ^ IntKind.i64.bits:Nat):Int)=((x &&& y:Nat):Int):=by
 rw[FJ hx,FJ hy,NW (Nat.and_lt_two_pow x hy)]
theorem CB {x y:Nat}(hx:x<2 ^ 63)(hy:y<2 ^ 63):IntKind.i64.wrap ((x % 2 ^ IntKind.i64.bits ||| y % 2 ^ IntKind.i64.bits:Nat):Int)=((x ||| y:Nat):Int):=by
 rw[FJ hx,FJ hy,NW (Nat.or_lt_two_pow hx hy)]
theorem shr_s (x:Nat){d:Nat}(hd:d≤64):Int.fdiv (x:Int) (2 ^ (min d IntKind.i64.bits))=((x >>> d:Nat):Int):=by
 have h1:min d IntKind.i64.bits=d:=by
  show min d 64=d;omega
 rw[h1,Nat.shiftRight_eq_div_pow,Int.fdiv_eq_ediv_of_nonneg _ (Int.le_of_lt (Int.pow_pos yA))];norm_cast
theorem LU {x d:Nat}(hx:x<2 ^ 63)(hd:d≤64):∃ y z:Nat,Int.fdiv (x:Int) (2 ^ (min d IntKind.i64.bits))=(y:Int)∧IntKind.i64.wrap ((y % 2 ^ IntKind.i64.bits &&& 1 % 2 ^ IntKind.i64.bits:Nat):Int)=(z:Int)∧((z:Int) == 1)=x.testBit d:=by
 refine⟨x >>> d,_,shr_s x hd,Jy (y:=1) (Nat.lt_of_le_of_lt (Nat.shiftRight_le x d) hx) yA,?_⟩;rw[Lf];cases x.testBit d<;>rfl
theorem Ln {d:Nat}(hd:d≤62):IntKind.i64.wrap (2 ^ (min d IntKind.i64.bits))=((2 ^ d:Nat):Int):=by
 have h:=J5 hd;rw[Int.one_mul] at h
 simpa using h
theorem BN {x y:Nat}(hx:x<2 ^ 63)(hy:y<2 ^ 63):(x &&& (2 ^ 64-1-y))=xd x y:=by
 have h1:(BitVec.ofNat 64 x &&& ~~~BitVec.ofNat 64 y).toNat=xd x y:=by
  refine Nat.eq_of_testBit_eq fun e=>?_;rw[uz];by_cases he:e<64
  ·rw[BitVec.testBit_toNat,BitVec.getLsbD_and,BitVec.getLsbD_not,BitVec.getLsbD_ofNat,BitVec.getLsbD_ofNat];simp[he]
  ·have h2:x.testBit e=false:=Nat.testBit_lt_two_pow (Nat.lt_of_lt_of_le hx (Nat.pow_le_pow_right yA yA));rw[h2];exact Nat.testBit_lt_two_pow (Nat.lt_of_lt_of_le (BitVec.isLt _) (Nat.pow_le_pow_right yA yA))
 rw[BitVec.toNat_and,BitVec.toNat_not,BitVec.toNat_ofNat,BitVec.toNat_ofNat,Nat.mod_eq_of_lt yA,Nat.mod_eq_of_lt yA] at h1;exact h1
theorem qY {x y:Nat}(hx:x<2 ^ 63)(hy:y<2 ^ 63):IntKind.i64.wrap ((x % 2 ^ IntKind.i64.bits &&& 2 ^ IntKind.i64.bits-1-y % 2 ^ IntKind.i64.bits:Nat):Int)=((xd x y:Nat):Int):=by
 rw[FJ hx,FJ hy];exact (congrArg (fun n:Nat=>IntKind.i64.wrap (n:Int)) (BN hx hy)).trans (NW (I1 hx))
theorem I0 {x y:Nat}:(((xd x y:Nat):Int) != 0)=!decide (x ||| y=y):=by
 have h:=Bu x y;by_cases hd:x ||| y=y
 ·rw[h.2 hd];simp[hd]
 ·have:xd x y≠0:=fun e=>hd (h.1 e);simp[hd,this]
end Go.aP
namespace Go.Proofs.YtnecpnjdonibmaaGreat
open Go.Can Go.aP
theorem Mv (x d:Nat)(hx:x<2 ^ 63)(hd:d≤60):af Tryz.prog 20 [I x,I d] (.bool (decide (d≤8) && x.testBit d)):=by
 refine af.aK ai Tryz.func20 rfl OV (by simp[Tryz.ntmps20]) rfl fun C hC O0=>?_;rw[Tryz.ntmps20] at hC;obtain⟨y,z,b1,b2,b3⟩:=LU hx (d:=d) yA;have b0:¬ ((d:Int)<0):=by omega
 apply aq;simp[hC];by_cases h8:d≤8
 ·have h8':(d:Int)≤8:=by omega
  apply aq;simp[hC,h8',b0,b1,b2,b3];apply T.ret;apply ae.here;simp[Tryz.results20,h8]
 ·have h8':¬ (d:Int)≤8:=by omega
  apply aq;simp[hC,h8'];apply T.ret;apply ae.here;simp[Tryz.results20,h8]
def J80 (r:List Nat)(x:Nat)(m:Nat)(s:St):Prop:=∃ i a:Nat,m=r.length-i∧i≤r.length∧a<2 ^ 63∧a ||| De (r.drop i) x i=uF r x∧s=⟨[(6,I i),(5,I a),(0,az r),(1,I x)],[],0⟩
theorem BM {r:List Nat}{i s:Nat}(h:r[i]? = some s)(x:Nat):De (r.drop i) x i=(if x.testBit i=true then s else 0) ||| De (r.drop (i+1)) x (i+1):=by
 have hl:=(List.getElem?_eq_some_iff.1 h).1;rw[List.drop_eq_getElem_cons hl];have:=(List.getElem?_eq_some_iff.1 h).2;rw[this,De]
theorem rX (r:List Nat)(x:Nat)(hl:r.length≤9)(hr:∀ s∈r,s<2 ^ 63)(hx:x<2 ^ 63):af Tryz.prog 80 [az r,I x] (I (uF r x)):=by
 have tr:=aC r;refine af.aK ai Tryz.func80 rfl OV (by simp[Tryz.ntmps80]) rfl fun C hC O0=>?_;rw[Tryz.ntmps80] at hC;apply aq;simp[hC];apply aq;simp[hC];apply aO;simp[hC];apply T.block;refine T.aH (J80 r x) (n:=r.length) ?_ ?_
 ·refine ae.trim [6,5,0,1] [] 0 (by simp[-List.all_eq_true,aW 0 _ (aD r)]) yA ⟨0,0,by omega,by omega,by omega,by simp[uF],?_⟩;simp
 ·rintro n s ⟨i,a,rfl,hi,ha,PJ,rfl⟩;simp only[az];by_cases OX:i<r.length
  ·obtain⟨b,hb⟩:∃ b,r[i]? = some b:=⟨_,List.getElem?_eq_getElem OX⟩;have OZ:=cZ hb;have P4:=hr b (List.mem_of_getElem? hb);have Pj:=Mv x i hx yA;have wi:=cC ((i:Int)+1) yA yA;have Pw:=BM hb x;have h8:i≤8:=by omega
   have Tw:=CB (x:=a) (y:=b) ha P4;have O3:trees [I x,I i]=true:=rfl;apply aO;simp[hC,OX];refine fB ?_;simp;apply ed;apply aq;simp[hC];refine dz O3 Pj ?_;simp[h8]
   cases U8:x.testBit i with
   | true=>
    refine T.cond (b:=true) RD ?_;simp;apply aV;simp[hC,OX,OZ,Tw];apply aV;simp[hC,wi];refine⟨r.length-(i+1),by omega,ae.trim [6,5,0,1] [] 0 QJ yA ⟨i+1,a ||| b,rfl,by omega,Nat.or_lt_two_pow ha P4,?_,?_⟩⟩
    ·rw[← PJ,Pw,U8,if_pos rfl,Nat.or_assoc]
    ·simp[az]
   | false=>
    refine T.cond (b:=false) RD (T.skip ?_);simp;apply aV;simp[hC,wi];refine⟨r.length-(i+1),by omega,ae.trim [6,5,0,1] [] 0 QJ yA ⟨i+1,a,rfl,by omega,ha,?_,?_⟩⟩
    ·rw[← PJ,Pw,U8];simp
    ·simp[az]
  ·have O6:i=r.length:=by omega
   subst O6;rw[List.drop_length,De,Nat.or_zero] at PJ;apply aO;simp[hC];refine a7 ?_;simp;apply T.exit;simp;apply aq;simp[hC];apply T.ret;apply ae.here;rw[PJ];simp[Tryz.results80]
def J179 (r:List Nat)(x:Nat)(m:Nat)(s:St):Prop:=∃ i a:Nat,m=r.length-i∧i≤r.length∧a<2 ^ 63∧a ||| De (r.drop i) x i=uF r x∧s=⟨[(10,I i),(9,I r.length),(8,az r),(5,I a),(1,I x)],[],0⟩
theorem Fg (r:List Nat)(x:Nat)(hl:r.length≤9)(hr:∀ s∈r,s<2 ^ 63)(hx:x<2 ^ 63):af Tryz.prog 179 [az r,I x] (I (uF r x)):=by
 have tr:=aC r;refine af.aK ai Tryz.func179 rfl OV (by simp[Tryz.ntmps179]) rfl fun C hC O0=>?_;rw[Tryz.ntmps179] at hC;apply aq;simp[hC];apply aq;simp[hC];simp only[az];apply aO;simp[hC];apply T.block;refine T.aH (J179 r x) (n:=r.length) ?_ ?_
 ·refine ae.trim [10,9,8,5,1] [] 0 QJ yA ⟨0,0,by omega,by omega,by omega,by simp[uF],?_⟩;simp[az]
 ·rintro n s ⟨i,a,rfl,hi,ha,PJ,rfl⟩;simp only[az];by_cases OX:i<r.length
  ·obtain⟨b,hb⟩:∃ b,r[i]? = some b:=⟨_,List.getElem?_eq_getElem OX⟩;have OZ:=cZ hb;have P4:=hr b (List.mem_of_getElem? hb);have wi:=cC ((i:Int)+1) yA yA;have Pw:=BM hb x;have Tw:=CB (x:=a) (y:=b) ha P4;obtain⟨y,z,b1,b2,b3⟩:=LU hx (d:=i) yA;have b0:¬ ((i:Int)<0):=by omega
   apply aq;simp[hC,OX];refine T.seq (T.cond (b:=true) rfl (T.skip ?_));simp;apply ed;apply aq;simp[hC,OX,OZ];apply aq;simp[hC,b0,b1,b2,b3]
   cases U8:x.testBit i with
   | true=>
    refine T.cond (b:=true) RD ?_;simp;apply aV;simp[hC,Tw];apply aV;simp[hC,wi];refine⟨r.length-(i+1),by omega,ae.trim [10,9,8,5,1] [] 0 QJ yA ⟨i+1,a ||| b,rfl,by omega,Nat.or_lt_two_pow ha P4,?_,?_⟩⟩
    ·rw[← PJ,Pw,U8,if_pos rfl,Nat.or_assoc]
    ·simp[az]
   | false=>
    refine T.cond (b:=false) RD (T.skip ?_);simp;apply aV;simp[hC,wi];refine⟨r.length-(i+1),by omega,ae.trim [10,9,8,5,1] [] 0 QJ yA ⟨i+1,a,rfl,by omega,ha,?_,?_⟩⟩
    ·rw[← PJ,Pw,U8];simp
    ·simp[az]
  ·have O6:i=r.length:=by omega
   subst O6;rw[List.drop_length,De,Nat.or_zero] at PJ;apply aq;simp[hC];refine T.seq (T.cond (b:=false) rfl (T.exit ?_));simp;apply aq;simp[hC];apply T.ret;apply ae.here;rw[PJ];simp[Tryz.results179]
theorem r9 (r:List Nat)(x:Nat)(hl:r.length≤9)(hr:∀ s∈r,s<2 ^ 63)(hx:x<2 ^ 63):af Tryz.prog 113 [az r,I x] (I (uF r x)):=by
 have h:=Fg r x hl hr hx;have O3:trees [az r,I x]=true:=by simp only[trees,aD,tree,Bool.and_self]
 refine af.aK ai Tryz.func113 rfl OV (by simp[Tryz.ntmps113]) rfl fun C hC O0=>?_;rw[Tryz.ntmps113] at hC;apply aq;simp[hC];apply aq;simp[hC];refine dz O3 h ?_;simp[hC];apply T.ret;apply ae.here;simp[Tryz.results113]
theorem Hq {L i:Nat}(c:Int)(h:i<L+1):(kr L c)[i]? = some (if 0≤(i:Int)+c∧(i:Int)+c≤L then 2 ^ ((i:Int)+c).toNat else 0):=by
 simp[kr,List.getElem?_range h]
theorem gE (L:Nat)(c:Int):(kr L c).length=L+1:=by simp[kr]
def J148 (L:Nat)(c:Int)(m:Nat)(s:St):Prop:=∃ i:Nat,m=L+1-i∧i≤L+1∧s=⟨[(6,I i),(5,.bl 0 0 (L+1)),(0,I L),(1,I c)],[(0,⟨3,1,gq (kr L c) i⟩)],1⟩
theorem xz (L:Nat)(c:Int)(hL:L≤8)(h1 : -1≤c)(h2:c≤1):af Tryz.prog 148 [I L,I c] (az (kr L c)):=by
 refine af.aK ai Tryz.func148 rfl OV (by simp[Tryz.ntmps148]) (aD _) fun C hC O0=>?_;rw[Tryz.ntmps148] at hC;have wL:=cC ((L:Int)+1) yA yA;have bd:0≤(L:Int)+1∧8*((L:Int)+1)≤281474976710656∧(L:Int)+1≤9223372036854775807:=by omega
 apply aq;simp[hC];apply aq;simp[hC,wL,bd];apply aO;simp[hC];apply T.block;refine T.aH (J148 L c) (n:=L+1) ?_ ?_
 ·refine ae.trim [6,5,0,1] [0] 1 QJ yA ⟨0,by omega,by omega,?_⟩;rw[gV,gE];simp
 ·rintro n s ⟨i,rfl,hi,rfl⟩;have PO:(gq (kr L c) i).length=L+1:=by rw[jo (by rw[gE];exact hi),gE]
  have R1:=fb (kr L c) i;by_cases OX:i<L+1
  ·have Xh:(i:Int)≤(L:Int):=by omega
   have wi:=cC ((i:Int)+1) yA yA;have wc:=cC ((i:Int)+c) yA yA;have P8:=Hq c OX;apply aO;simp[hC,Xh];refine fB ?_;simp;apply ed;apply aq;simp[hC,wc];by_cases h0:0≤(i:Int)+c
   ·obtain⟨e,he⟩:∃ e:Nat,(i:Int)+c=e:=⟨((i:Int)+c).toNat,by omega⟩;rw[he] at P8;simp only[he];by_cases XC:(e:Int)≤(L:Int)
    ·have VJ:=Ln (d:=e) yA;rw[if_pos ⟨by omega,XC⟩,Int.toNat_natCast] at P8;apply aq;simp[hC,XC];refine fE ?_;simp;have b0:¬ ((e:Int)<0):=by omega
     have hiI:(i:Int)<(L:Int)+1:=by omega
     have Qq:i≤L:=by omega
     apply aV;simp[hC,b0,VJ,Qq,PO,hiI];apply aV;simp[hC,wi];refine⟨L+1-(i+1),by omega,ae.trim [6,5,0,1] [0] 1 WD yA ⟨i+1,rfl,by omega,?_⟩⟩;rw[← jn P8];simp
    ·rw[if_neg yA] at P8;apply aq;simp[hC,XC];refine gw ?_;simp;apply aV;simp[hC,wi];refine⟨L+1-(i+1),by omega,ae.trim [6,5,0,1] [0] 1 ZY yA ⟨i+1,rfl,by omega,?_⟩⟩;rw[oO P8];simp
   ·rw[if_neg yA] at P8;apply aq;simp[hC,h0];refine gw ?_;simp;apply aV;simp[hC,wi];refine⟨L+1-(i+1),by omega,ae.trim [6,5,0,1] [0] 1 ZY yA ⟨i+1,rfl,by omega,?_⟩⟩;rw[oO P8];simp
  ·have O6:i=L+1:=by omega
   subst O6;have Q2:=jq (kr L c);rw[gE] at Q2;have tF:=aC (kr L c);have Qe:¬ ((L:Int)+1≤(L:Int)):=by omega
   rw[Q2] at PO ⊢;apply aO;simp[hC,Qe];refine a7 ?_;simp;apply T.exit;simp;apply aq;simp[hC];apply T.ret;refine ae.le (Le.dp (o:=0) rfl tF) ?_;apply ae.here;have Pd:List.take (L+1) ((kr L c).map fun n:Nat=>I n)=(kr L c).map fun n:Nat=>I n:=List.take_of_length_le (by rw[List.length_map,gE];omega);simp[Tryz.results148,az,gE,Pd]
def J318 (L:Nat)(c:Int)(m:Nat)(s:St):Prop:=∃ i:Nat,m=L+1-i∧i≤L+1∧s=⟨[(12,I i),(11,I ((L:Int)+1)),(5,.bl 0 0 (L+1)),(0,I L),(1,I c)],[(0,⟨3,1,gq (kr L c) i⟩)],1⟩
theorem pH (L:Nat)(c:Int)(hL:L≤8)(h1 : -1≤c)(h2:c≤1):af Tryz.prog 318 [I L,I c] (az (kr L c)):=by
 refine af.aK ai Tryz.func318 rfl OV (by simp[Tryz.ntmps318]) (aD _) fun C hC O0=>?_;rw[Tryz.ntmps318] at hC;have wL:=cC ((L:Int)+1) yA yA;have bd:0≤(L:Int)+1∧8*((L:Int)+1)≤281474976710656∧(L:Int)+1≤9223372036854775807:=by omega
 apply aq;simp[hC];apply aq;simp[hC,wL,bd];apply aO;simp[hC];apply T.block;refine T.aH (J318 L c) (n:=L+1) ?_ ?_
 ·refine ae.trim [12,11,5,0,1] [0] 1 QJ yA ⟨0,by omega,by omega,?_⟩;rw[gV,gE];simp
 ·rintro n s ⟨i,rfl,hi,rfl⟩;have PO:(gq (kr L c) i).length=L+1:=by rw[jo (by rw[gE];exact hi),gE]
  have R1:=fb (kr L c) i;by_cases OX:i<L+1
  ·have hiI:(i:Int)<(L:Int)+1:=by omega
   have Qq:i≤L:=by omega
   have wi:=cC ((i:Int)+1) yA yA;have wc:=cC ((i:Int)+c) yA yA;have P8:=Hq c OX;apply aq;simp[hC,hiI];refine T.seq (T.cond (b:=true) rfl (T.skip ?_));simp;apply ed;apply aq;simp[hC];by_cases h0:0≤(i:Int)+c
   ·obtain⟨e,he⟩:∃ e:Nat,(i:Int)+c=e:=⟨((i:Int)+c).toNat,by omega⟩;rw[he] at P8 wc;by_cases XC:(e:Int)≤(L:Int)
    ·have VJ:=Ln (d:=e) yA;have b0:¬ ((e:Int)<0):=by omega
     rw[if_pos ⟨by omega,XC⟩,Int.toNat_natCast] at P8;apply aq;simp[hC,he,wc,XC];refine fE ?_;simp;apply aV;simp[hC,he,wc,b0,VJ,Qq,PO,hiI];apply aV;simp[hC,wi];refine⟨L+1-(i+1),by omega,ae.trim [12,11,5,0,1] [0] 1 WD yA ⟨i+1,rfl,by omega,?_⟩⟩;rw[← jn P8];simp
    ·rw[if_neg yA] at P8;apply aq;simp[hC,he,wc,XC];refine gw ?_;simp;apply aV;simp[hC,wi];refine⟨L+1-(i+1),by omega,ae.trim [12,11,5,0,1] [0] 1 ZY yA ⟨i+1,rfl,by omega,?_⟩⟩;rw[oO P8];simp
   ·rw[if_neg yA] at P8;apply aq;simp[hC,wc,h0];refine gw ?_;simp;apply aV;simp[hC,wi];refine⟨L+1-(i+1),by omega,ae.trim [12,11,5,0,1] [0] 1 ZY yA ⟨i+1,rfl,by omega,?_⟩⟩;rw[oO P8];simp
  ·have O6:i=L+1:=by omega
   subst O6;have Q2:=jq (kr L c);rw[gE] at Q2;have tF:=aC (kr L c);rw[Q2] at PO ⊢;apply aq;simp[hC];refine T.seq (T.cond (b:=false) rfl (T.exit ?_));simp;apply aq;simp[hC];apply T.ret;refine ae.le (Le.dp (o:=0) rfl tF) ?_;apply ae.here;have Pd:List.take (L+1) ((kr L c).map fun n:Nat=>I n)=(kr L c).map fun n:Nat=>I n:=List.take_of_length_le (by rw[List.length_map,gE];omega);simp[Tryz.results318,az,gE,Pd]
theorem gF (a b:List Nat):(nr a b).length=a.length:=by simp[nr]
theorem Ja {a b:List Nat}{i x:Nat}(h:a[i]? = some x):(nr a b)[i]? = some (uF b x):=by simp[nr,h]
def J150 (a b:List Nat)(m:Nat)(s:St):Prop:=∃ i:Nat,m=a.length-i∧i≤a.length∧s=⟨[(6,I i),(5,.bl 0 0 a.length),(0,az a),(1,az b)],[(0,⟨3,1,gq (nr a b) i⟩)],1⟩
theorem HG (a b:List Nat)(la:a.length≤9)(lb:b.length≤9)(ha:∀ s∈a,s<2 ^ 63)(hb:∀ s∈b,s<2 ^ 63):af Tryz.prog 150 [az a,az b] (az (nr a b)):=by
 refine af.aK ai Tryz.func150 rfl OV (by simp[Tryz.ntmps150]) (aD _) fun C hC O0=>?_;rw[Tryz.ntmps150] at hC;have ta:=aC a;have tb:=aC b;have bd:8*(a.length:Int)≤281474976710656∧(a.length:Int)≤9223372036854775807:=by omega
 simp only[az];apply aq;simp[hC];apply aq;simp[hC,bd];apply aO;simp[hC];apply T.block;refine T.aH (J150 a b) (n:=a.length) ?_ ?_
 ·refine ae.trim [6,5,0,1] [0] 1 QJ yA ⟨0,by omega,by omega,?_⟩;rw[gV,gF];simp[az]
 ·rintro n s ⟨i,rfl,hi,rfl⟩;have PO:(gq (nr a b) i).length=a.length:=by rw[jo (by rw[gF];exact hi),gF]
  have R1:=fb (nr a b) i;simp only[az];by_cases OX:i<a.length
  ·obtain⟨x,hx⟩:∃ x,a[i]? = some x:=⟨_,List.getElem?_eq_getElem OX⟩;have OZ:=cZ hx;have P8:=Ja (b:=b) hx;have wi:=cC ((i:Int)+1) yA yA;have PJ:=rX b x lb hb (ha x (List.mem_of_getElem? hx));have O3:trees [az b,I x]=true:=by simp only[trees,aD,tree,Bool.and_self]
   simp only[az] at PJ O3;apply aO;simp[hC,OX];refine fB ?_;simp;apply ed;apply aV;simp[hC,OX,OZ];refine dz O3 PJ ?_;have R9:i+1≤a.length:=OX;simp[hC,OX,R9,PO];apply aV;simp[hC,wi];refine⟨a.length-(i+1),by omega,ae.trim [6,5,0,1] [0] 1 WD yA ⟨i+1,rfl,by omega,?_⟩⟩;rw[← jn P8];simp[az]
  ·have O6:i=a.length:=by omega
   subst O6;have Q2:=jq (nr a b);rw[gF] at Q2;have tF:=aC (nr a b);rw[Q2] at PO ⊢;apply aO;simp[hC];refine a7 ?_;simp;apply T.exit;simp;apply aq;simp[hC];apply T.ret;refine ae.le (Le.dp (o:=0) rfl tF) ?_;apply ae.here;have Pd:List.take a.length ((nr a b).map fun n:Nat=>I n)=(nr a b).map fun n:Nat=>I n:=List.take_of_length_le (by rw[List.length_map,gF];omega);simp[Tryz.results150,gF,Pd]
def J323 (a b:List Nat)(m:Nat)(s:St):Prop:=∃ i:Nat,m=a.length-i∧i≤a.length∧s=⟨[(13,I i),(12,I a.length),(11,az a),(5,.bl 0 0 a.length),(1,az b)],[(0,⟨3,1,gq (nr a b) i⟩)],1⟩
theorem HR (a b:List Nat)(la:a.length≤9)(lb:b.length≤9)(ha:∀ s∈a,s<2 ^ 63)(hb:∀ s∈b,s<2 ^ 63):af Tryz.prog 323 [az a,az b] (az (nr a b)):=by
 refine af.aK ai Tryz.func323 rfl OV (by simp[Tryz.ntmps323]) (aD _) fun C hC O0=>?_;rw[Tryz.ntmps323] at hC;have ta:=aC a;have tb:=aC b;have bd:8*(a.length:Int)≤281474976710656∧(a.length:Int)≤9223372036854775807:=by omega
 simp only[az];apply aq;simp[hC];apply aq;simp[hC,bd];apply aO;simp[hC];apply T.block;refine T.aH (J323 a b) (n:=a.length) ?_ ?_
 ·refine ae.trim [13,12,11,5,1] [0] 1 QJ yA ⟨0,by omega,by omega,?_⟩;rw[gV,gF];simp[az]
 ·rintro n s ⟨i,rfl,hi,rfl⟩;have PO:(gq (nr a b) i).length=a.length:=by rw[jo (by rw[gF];exact hi),gF]
  have R1:=fb (nr a b) i;simp only[az];by_cases OX:i<a.length
  ·obtain⟨x,hx⟩:∃ x,a[i]? = some x:=⟨_,List.getElem?_eq_getElem OX⟩;have OZ:=cZ hx;have P8:=Ja (b:=b) hx;have wi:=cC ((i:Int)+1) yA yA;have PJ:=r9 b x lb hb (ha x (List.mem_of_getElem? hx));have O3:trees [az b,I x]=true:=by simp only[trees,aD,tree,Bool.and_self]
   have R9:i+1≤a.length:=OX;simp only[az] at PJ O3;apply aq;simp[hC,OX];refine T.seq (T.cond (b:=true) rfl (T.skip ?_));simp;apply ed;apply aq;simp[hC,OX,OZ];apply aV;simp[hC];refine dz O3 PJ ?_;simp[hC,OX,R9,PO];apply aV;simp[hC,wi];refine⟨a.length-(i+1),by omega,ae.trim [13,12,11,5,1] [0] 1 WD yA ⟨i+1,rfl,by omega,?_⟩⟩;rw[← jn P8];simp[az]
  ·have O6:i=a.length:=by omega
   subst O6;have Q2:=jq (nr a b);rw[gF] at Q2;have tF:=aC (nr a b);rw[Q2] at PO ⊢;apply aq;simp[hC];refine T.seq (T.cond (b:=false) rfl (T.exit ?_));simp;apply aq;simp[hC];apply T.ret;refine ae.le (Le.dp (o:=0) rfl tF) ?_;apply ae.here;have Pd:List.take a.length ((nr a b).map fun n:Nat=>I n)=(nr a b).map fun n:Nat=>I n:=List.take_of_length_le (by rw[List.length_map,gF];omega);simp[Tryz.results323,gF,Pd]
theorem Bf (L:Nat)(hL:L≤8):af Tryz.prog 278 [I L] (az (kr L 0)):=by
 have h:=pH L 0 hL yA yA;have O3:trees [I L,I 0]=true:=rfl;refine af.aK ai Tryz.func278 rfl OV (by simp[Tryz.ntmps278]) (aD _) fun C hC O0=>?_;rw[Tryz.ntmps278] at hC;apply aq;simp[hC];apply aq;simp[hC];refine dz O3 h ?_;simp[hC];apply T.ret;apply ae.here;simp[Tryz.results278]
theorem up_ok (L:Nat)(hL:L≤8):af Tryz.prog 276 [I L] (az (kr L 1)):=by
 have h:=pH L 1 hL yA yA;have O3:trees [I L,I 1]=true:=rfl;refine af.aK ai Tryz.func276 rfl OV (by simp[Tryz.ntmps276]) (aD _) fun C hC O0=>?_;rw[Tryz.ntmps276] at hC;apply aq;simp[hC];apply aq;simp[hC];refine dz O3 h ?_;simp[hC];apply T.ret;apply ae.here;simp[Tryz.results276]
theorem KW (L:Nat)(hL:L≤8):af Tryz.prog 277 [I L] (az (kr L (-1))):=by
 have h:=pH L (-1) hL yA yA;have O3:trees [I L,I (-1)]=true:=rfl;refine af.aK ai Tryz.func277 rfl OV (by simp[Tryz.ntmps277]) (aD _) fun C hC O0=>?_;rw[Tryz.ntmps277] at hC;apply aq;simp[hC];apply aq;simp[hC];refine dz O3 h ?_;simp[hC];apply T.ret;apply ae.here;simp[Tryz.results277]
theorem eG {a b:List Nat}(h:b.length=a.length):(iU a b).length=a.length:=by simp[iU,h]
theorem Ca {a b:List Nat}{i x y:Nat}(h1:a[i]? = some x)(h2:b[i]? = some y):(iU a b)[i]? = some (x ||| y):=by simp[iU,List.getElem?_zipWith,h1,h2]
def J151 (a b:List Nat)(m:Nat)(s:St):Prop:=∃ i:Nat,m=a.length-i∧i≤a.length∧s=⟨[(6,I i),(5,.bl 0 0 a.length),(0,az a),(1,az b)],[(0,⟨3,1,gq (iU a b) i⟩)],1⟩
theorem DJ (a b:List Nat)(la:a.length≤1000)(lb:b.length=a.length)(ha:∀ s∈a,s<2 ^ 63)(hb:∀ s∈b,s<2 ^ 63):af Tryz.prog 151 [az a,az b] (az (iU a b)):=by
 refine af.aK ai Tryz.func151 rfl OV (by simp[Tryz.ntmps151]) (aD _) fun C hC O0=>?_;rw[Tryz.ntmps151] at hC;have ta:=aC a;have tb:=aC b;have bd:8*(a.length:Int)≤281474976710656∧(a.length:Int)≤9223372036854775807:=by omega
 simp only[az];apply aq;simp[hC];apply aq;simp[hC,bd];apply aO;simp[hC];apply T.block;refine T.aH (J151 a b) (n:=a.length) ?_ ?_
 ·refine ae.trim [6,5,0,1] [0] 1 QJ yA ⟨0,by omega,by omega,?_⟩;rw[gV,eG lb];simp[az]
 ·rintro n s ⟨i,rfl,hi,rfl⟩;have PO:(gq (iU a b) i).length=a.length:=by rw[jo (by rw[eG lb];exact hi),eG lb]
  have R1:=fb (iU a b) i;simp only[az];by_cases OX:i<a.length
  ·obtain⟨x,hx⟩:∃ x,a[i]? = some x:=⟨_,List.getElem?_eq_getElem OX⟩;have Ry:i<b.length:=by omega
   obtain⟨y,hy⟩:∃ y,b[i]? = some y:=⟨_,List.getElem?_eq_getElem Ry⟩;have OZ:=cZ hx;have PY:=cZ hy;have P8:=Ca hx hy;have wi:=cC ((i:Int)+1) yA yA;have Tw:=CB (ha x (List.mem_of_getElem? hx)) (hb y (List.mem_of_getElem? hy));have R9:i+1≤a.length:=OX;apply aO;simp[hC,OX];refine fB ?_;simp;apply ed;refine T.rx ai follows [0,1,2,3,4,5,6,7,8,9,10,11,12] [] OV ?_;simp[hC,OX,Ry,OZ,PY,Tw,R9,PO];apply aV;simp[hC,wi];refine⟨a.length-(i+1),by omega,ae.trim [6,5,0,1] [0] 1 WD yA ⟨i+1,rfl,by omega,?_⟩⟩;rw[← jn P8];simp[az]
  ·have O6:i=a.length:=by omega
   subst O6;have Q2:=jq (iU a b);rw[eG lb] at Q2;have tF:=aC (iU a b);rw[Q2] at PO ⊢;apply aO;simp[hC];refine a7 ?_;simp;apply T.exit;simp;apply aq;simp[hC];apply T.ret;refine ae.le (Le.dp (o:=0) rfl tF) ?_;apply ae.here;have Pd:List.take a.length ((iU a b).map fun n:Nat=>I n)=(iU a b).map fun n:Nat=>I n:=List.take_of_length_le (by rw[List.length_map,eG lb];omega);simp[Tryz.results151,eG lb,Pd]
def J233 (a b:List Nat)(m:Nat)(s:St):Prop:=∃ i:Nat,m=a.length-i∧i≤a.length∧s=⟨[(12,I i),(11,I a.length),(5,.bl 0 0 a.length),(0,az a),(1,az b)],[(0,⟨3,1,gq (iU a b) i⟩)],1⟩
theorem Kh (a b:List Nat)(la:a.length≤1000)(lb:b.length=a.length)(ha:∀ s∈a,s<2 ^ 63)(hb:∀ s∈b,s<2 ^ 63):af Tryz.prog 233 [az a,az b] (az (iU a b)):=by
 refine af.aK ai Tryz.func233 rfl OV (by simp[Tryz.ntmps233]) (aD _) fun C hC O0=>?_;rw[Tryz.ntmps233] at hC;have ta:=aC a;have tb:=aC b;have bd:8*(a.length:Int)≤281474976710656∧(a.length:Int)≤9223372036854775807:=by omega
 simp only[az];apply aq;simp[hC];apply aq;simp[hC,bd];apply aO;simp[hC];apply T.block;refine T.aH (J233 a b) (n:=a.length) ?_ ?_
 ·refine ae.trim [12,11,5,0,1] [0] 1 QJ yA ⟨0,by omega,by omega,?_⟩;rw[gV,eG lb];simp[az]
 ·rintro n s ⟨i,rfl,hi,rfl⟩;have PO:(gq (iU a b) i).length=a.length:=by rw[jo (by rw[eG lb];exact hi),eG lb]
  have R1:=fb (iU a b) i;simp only[az];by_cases OX:i<a.length
  ·obtain⟨x,hx⟩:∃ x,a[i]? = some x:=⟨_,List.getElem?_eq_getElem OX⟩;have Ry:i<b.length:=by omega
   obtain⟨y,hy⟩:∃ y,b[i]? = some y:=⟨_,List.getElem?_eq_getElem Ry⟩;have OZ:=cZ hx;have PY:=cZ hy;have P8:=Ca hx hy;have wi:=cC ((i:Int)+1) yA yA;have Tw:=CB (ha x (List.mem_of_getElem? hx)) (hb y (List.mem_of_getElem? hy));have R9:i+1≤a.length:=OX;apply aq;simp[hC,OX];refine T.seq (T.cond (b:=true) rfl (T.skip ?_));simp;apply ed;apply aq;simp[hC];refine T.rx ai follows [0,1,2,3,4,5,6,7,8,9,10,11,12] [] OV ?_;simp[hC,OX,Ry,OZ,PY,Tw,R9,PO];apply aV;simp[hC,wi];refine⟨a.length-(i+1),by omega,ae.trim [12,11,5,0,1] [0] 1 WD yA ⟨i+1,rfl,by omega,?_⟩⟩;rw[← jn P8];simp[az]
  ·have O6:i=a.length:=by omega
   subst O6;have Q2:=jq (iU a b);rw[eG lb] at Q2;have tF:=aC (iU a b);rw[Q2] at PO ⊢;apply aq;simp[hC];refine T.seq (T.cond (b:=false) rfl (T.exit ?_));simp;apply aq;simp[hC];apply T.ret;refine ae.le (Le.dp (o:=0) rfl tF) ?_;apply ae.here;have Pd:List.take a.length ((iU a b).map fun n:Nat=>I n)=(iU a b).map fun n:Nat=>I n:=List.take_of_length_le (by rw[List.length_map,eG lb];omega);simp[Tryz.results233,eG lb,Pd]
theorem Ea {a b:List Nat}:rv a b=true↔∀ (j x y:Nat),a[j]? = some x→b[j]? = some y→x ||| y=y:=by
 unfold rv;rw[List.all_eq_true];constructor
 ·intro h j x y hx hy;have:=h (decide (x ||| y=y)) (List.mem_iff_getElem?.2 ⟨j,by rw[List.getElem?_zipWith,hx,hy]⟩)
  simpa using this
 ·intro h z hz;obtain⟨j,hj⟩:=List.mem_iff_getElem?.1 hz;rw[List.getElem?_zipWith] at hj
  cases hx:a[j]? with
  | none=>rw[hx] at hj;simp at hj
  | some x=>
   cases hy:b[j]? with
   | none=>rw[hx,hy] at hj;simp at hj
   | some y=>
    rw[hx,hy] at hj;simp only[Option.some.injEq] at hj;rw[← hj]
    simpa using h j x y hx hy
def J324 (a b:List Nat)(m:Nat)(s:St):Prop:=∃ i:Nat,m=a.length-i∧i≤a.length∧(∀ (j x y:Nat),j<i→a[j]? = some x→b[j]? = some y→x ||| y=y)∧s=⟨[(8,I i),(7,I a.length),(0,az a),(1,az b)],[],0⟩
theorem Cu (a b:List Nat)(la:a.length≤1000)(lb:b.length=a.length)(ha:∀ s∈a,s<2 ^ 63)(hb:∀ s∈b,s<2 ^ 63):af Tryz.prog 324 [az a,az b] (.bool (rv a b)):=by
 refine af.aK ai Tryz.func324 rfl OV (by simp[Tryz.ntmps324]) rfl fun C hC O0=>?_;rw[Tryz.ntmps324] at hC;have ta:=aC a;have tb:=aC b;simp only[az];apply aq;simp[hC];apply aO;simp[hC];apply T.block;refine T.aH (J324 a b) (n:=a.length) ?_ ?_
 ·refine ae.trim [8,7,0,1] [] 0 QJ yA ⟨0,by omega,by omega,fun j x y h=>by omega,?_⟩;simp[az]
 ·rintro n s ⟨i,rfl,hi,Pt,rfl⟩;simp only[az];by_cases OX:i<a.length
  ·obtain⟨x,hx⟩:∃ x,a[i]? = some x:=⟨_,List.getElem?_eq_getElem OX⟩;have Ry:i<b.length:=by omega
   obtain⟨y,hy⟩:∃ y,b[i]? = some y:=⟨_,List.getElem?_eq_getElem Ry⟩;have OZ:=cZ hx;have PY:=cZ hy;have wi:=cC ((i:Int)+1) yA yA;apply aq;simp[hC,OX];refine T.seq (T.cond (b:=true) rfl (T.skip ?_));simp;apply ed;apply aq;simp[hC];refine T.seq (T.rx ai follows [0,1,2,3,4,5,6,7,8,9] [] OV ?_);have T2:=qY (ha x (List.mem_of_getElem? hx)) (hb y (List.mem_of_getElem? hy));have Pf:=I0 (x:=x) (y:=y);simp[hC,OX,Ry,OZ,PY,T2];by_cases QL:x ||| y=y
   ·have VM:(((xd x y:Nat):Int) != 0)=false:=by rw[Pf];simp[QL]
    refine T.cond (b:=false) (by simp only[ev,assoc,VM];rfl) (T.skip ?_);simp;apply aV;simp[hC,wi];refine⟨a.length-(i+1),by omega,ae.trim [8,7,0,1] [] 0 QJ yA ⟨i+1,rfl,by omega,fun j p q hj hp hq=>?_,?_⟩⟩
    ·by_cases hji:j=i
     ·subst hji;rw[hx] at hp;cases hp;rw[hy] at hq;cases hq;exact QL
     ·exact Pt j p q yA hp hq
    ·simp[az]
   ·have VM:(((xd x y:Nat):Int) != 0)=true:=by rw[Pf];simp[QL]
    have Pj:rv a b=false:=by
     cases Qz:rv a b with
     | false=>rfl
     | true=>exact (QL (Ea.1 Qz i x y hx hy)).elim
    refine T.cond (b:=true) (by simp only[ev,assoc,VM];rfl) ?_;simp;apply aq;simp[hC];apply T.ret;apply ae.here;rw[Pj];simp[Tryz.results324]
  ·have O6:i=a.length:=by omega
   subst O6;have Pj:rv a b=true:=Ea.2 fun j x y hx hy=>Pt j x y (List.getElem?_eq_some_iff.1 hx).1 hx hy;apply aq;simp[hC];refine T.seq (T.cond (b:=false) rfl (T.exit ?_));simp;apply aq;simp[hC];apply T.ret;apply ae.here;rw[Pj];simp[Tryz.results324]
end Go.Proofs.YtnecpnjdonibmaaGreat
