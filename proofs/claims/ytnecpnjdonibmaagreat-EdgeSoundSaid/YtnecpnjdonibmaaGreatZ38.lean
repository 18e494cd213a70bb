/- has, With. -/
import Derived.Test.YtnecpnjdonibmaaGreatZ37
namespace Go.Proofs.YtnecpnjdonibmaaGreat
open Go.Can Go.aP
def J94 (l:List Nat)(x:Nat)(m:Nat)(s:St):Prop:=∃ i:Nat,m=l.length-i∧i≤l.length∧(x∉l.take i)∧s=⟨[(5,I i),(0,aA l),(1,I x)],[],0⟩
theorem Jq (l:List Nat)(x:Nat)(hl:l.length≤100000):ae Tryz.prog 205 [aA l,I x] (.bool (decide (x∈l))):=by
 refine ae.aM ah Tryz.func205 rfl PH (by simp[Tryz.ntmps205]) rfl fun C hC PN=>?_;rw[Tryz.ntmps205] at hC;simp only[aA];apply aj;simp[hC];apply aU;simp[hC];apply T.block;refine T.aJ (J94 l x) (n:=l.length) ?_ ?_
 ·refine aa.trim [5,0,1] [] 0 Rt yA ⟨0,by omega,by omega,by simp,?_⟩;simp[aA]
 ·rintro n s ⟨i,rfl,hi,hx,rfl⟩;simp only[aA];by_cases PJ:i<l.length
  ·obtain⟨a,ha⟩:∃ a,l[i]? = some a:=⟨l[i],List.getElem?_eq_getElem PJ⟩;have PL:=dk ha;have wi:=cE ((i:Int)+1) yA yA;have PY:l.take (i+1)=l.take i++[a]:=by rw[List.take_add_one,ha];rfl
   apply aU;simp[hC,PJ];refine gQ ?_;simp;apply dZ;by_cases hax:a=x
   ·have hd:decide (x∈l)=true:=by simp only[decide_eq_true_eq];exact hax ▸ List.mem_of_getElem? ha
    subst hax;apply aj;simp[hC,PJ,PL];refine fx ?_;simp;apply aj;simp[hC];apply T.ret;apply aa.here;rw[hd];simp[Tryz.results205]
   ·have P3:((a:Int) == (x:Int))=false:=by
     rw[beq_eq_false_iff_ne];omega
    apply aj;simp[hC,PJ,PL,P3];refine gO ?_;simp;apply aW;simp[hC,wi];refine⟨l.length-(i+1),by omega,aa.trim [5,0,1] [] 0 Rt yA ⟨i+1,rfl,by omega,?_,?_⟩⟩
    ·rw[PY,List.mem_append,List.mem_singleton,not_or];exact⟨hx,fun h=>hax h.symm⟩
    ·simp[aA]
  ·have PS:i=l.length:=by omega
   subst PS;rw[List.take_length] at hx;have hd:decide (x∈l)=false:=by simp[hx]
   apply aU;simp[hC];refine bh ?_;simp;apply T.exit;simp;apply aj;simp[hC];apply T.ret;apply aa.here;rw[hd];simp[Tryz.results205]
theorem yQ:∀ (l:List Nat) (x i:Nat),i<cz l x→∃ a,l[i]? = some a∧a<x
 | [],x,i,h=>by simp[cz] at h
 | b::r,x,i,h=>by
  simp only[cz,List.takeWhile_cons] at h;split at h
  ·rename_i hb
   cases i with
   | zero=>exact⟨b,rfl,by simpa using hb⟩
   | succ i=>
    obtain⟨a,h1,h2⟩:=yQ r x i (by simp only[cz];simpa using h);exact⟨a,by simpa using h1,h2⟩
  ·simp at h
theorem vt:∀ (l:List Nat) (x:Nat),cz l x≤l.length∧∀ a,l[cz l x]? = some a→¬ a<x
 | [],x=>⟨by simp[cz],fun a h=>by simp[cz] at h⟩
 | b::r,x=>by
  obtain⟨h1,h2⟩:=vt r x;simp only[cz,List.takeWhile_cons] at h1 h2 ⊢;split
  ·exact⟨by simpa using h1,fun a h=>h2 a Sr⟩
  ·rename_i hb;refine⟨by simp,fun a h=>?_⟩;simp only[List.length_nil,List.getElem?_cons_zero,Option.some.injEq] at h;subst h
   simpa using hb
def J61 (l:List Nat)(x:Nat)(m:Nat)(s:St):Prop:=∃ i:Nat,m=cz l x-i∧i≤cz l x∧s=⟨[(5,I i),(0,aA l),(1,I x)],[],0⟩
theorem Gw (l:List Nat)(x:Nat)(hl:l.length≤100000):ae Tryz.prog 139 [aA l,I x] (aA (gz l x)):=by
 have hhas:=Jq l x hl;have tl:=aC l;obtain⟨VC,UX⟩:=vt l x;refine ae.aM ah Tryz.func139 rfl PH (by simp[Tryz.ntmps139]) (aD _) fun C hC PN=>?_;rw[Tryz.ntmps139] at hC;apply aj;simp[hC];apply aU;simp[hC];have PU:trees [aA l,I x]=true:=by simp only[trees,aD,tree,Bool.and_self]
 refine dQ PU hhas ?_;simp;by_cases hm:x∈l
 ·have hw:gz l x=l:=if_pos hm;rw[hw];refine T.cond (b:=true) (by simp[ev,assoc,hm]) ?_;simp;apply aj;simp[hC];apply T.ret;apply aa.here;simp[Tryz.results139]
 ·have hw:gz l x=l.take (cz l x)++x::l.drop (cz l x):=if_neg hm;rw[hw];refine T.cond (b:=false) (by simp[ev,assoc,hm]) (T.skip ?_);simp;apply aj;simp[hC];apply dZ;refine T.aJ (J61 l x) (n:=cz l x) ?_ ?_
  ·refine aa.trim [5,0,1] [] 0 (by simp[-List.all_eq_true,a6 0 _ (aD l)]) yA ⟨0,by omega,by omega,?_⟩;simp
  ·rintro n s ⟨i,rfl,hi,rfl⟩;simp only[aA];by_cases PJ:i<cz l x
   ·obtain⟨a,ha,hax⟩:=yQ l x i PJ;have PL:=dk ha;have TK:i<l.length:=(List.getElem?_eq_some_iff.1 ha).1;have wi:=cE ((i:Int)+1) yA yA;have hax':(a:Int)<(x:Int):=by omega
    apply aU;simp[hC,TK,PL,hax'];refine gQ ?_;simp;apply T.block;apply aW;simp[hC,wi];refine⟨cz l x-(i+1),by omega,aa.trim [5,0,1] [] 0 Rt yA ⟨i+1,rfl,by omega,?_⟩⟩;simp[aA]
   ·have PS:i=cz l x:=by omega
    subst PS;apply T.seq;refine T.cut (fun s=>s=⟨[(21,.bool false),(5,I (cz l x)),(0,aA l),(1,I x)],[],0⟩) ?_ ?_
    ·cases Q0:l[cz l x]? with
     | none=>
      have TK:¬ cz l x<l.length:=by
       rw[List.getElem?_eq_none_iff] at Q0;omega
      apply aW;simp[hC,TK];refine aa.trim [21,5,0,1] [] 0 Rt yA ?_;simp[aA]
     | some a=>
      have TK:=(List.getElem?_eq_some_iff.1 Q0).1;have PL:=dk Q0;have SE:¬ (a:Int)<(x:Int):=by have:=UX a Q0;omega
      apply aW;simp[hC,TK,PL,SE];refine aa.trim [21,5,0,1] [] 0 Rt yA ?_;simp[aA]
    rintro s rfl;refine bh ?_;simp;apply T.exit;simp[aA];have S8:cz l x*8≤140737488355328:=by omega
    have Re:(cz l x+1)*8≤140737488355328:=by omega
    have hb3:(l.length+1)*8≤140737488355328:=by omega
    have hb4:(cz l x+1+(l.length-cz l x))*8≤140737488355328:=by omega
    apply T.seq;refine T.rx ah follows [0,1,2,3,4,5,6,7,8,9,10,11,12] [(0,3),(0,6),(0,10),(3,6),(4,6),(4,10),(6,10),(7,10)] PH ?_;simp[hC,VC,S8,Re,hb4,aX];apply T.ret;have ZU:List.take (l.length-cz l x) (List.drop (cz l x) (l.map fun n:Nat=>I n))=(l.drop (cz l x)).map fun n:Nat=>I n:=by
     rw[← List.map_drop,List.take_of_length_le zX]
    have Qs:List.take (cz l x) (l.map fun n:Nat=>I n)++I x::((l.drop (cz l x)).map fun n:Nat=>I n)=(l.take (cz l x)++x::l.drop (cz l x)).map fun n:Nat=>I n:=by simp
    have hlen:cz l x+1+(l.length-cz l x)=(l.take (cz l x)++x::l.drop (cz l x)).length:=by simp;omega
    have tN:=aC (l.take (cz l x)++x::l.drop (cz l x));simp only[ZU];rw[Qs];have PY:List.take (l.take (cz l x)++x::l.drop (cz l x)).length ((l.take (cz l x)++x::l.drop (cz l x)).map fun n:Nat=>I n)=(l.take (cz l x)++x::l.drop (cz l x)).map fun n:Nat=>I n:=List.take_of_length_le zX;rw[hlen];generalize hL:(l.take (cz l x)++x::l.drop (cz l x))=L at tN PY;refine aa.le (Le.trim [4] [15] 16 (by simp[-List.all_eq_true,af tN]) yA) ?_;simp;refine aa.le (Le.dz (o:=15) rfl tN) ?_;simp[PY];apply aa.here;simp;exact⟨by rw[← hL];simp,by rw[← hL];simp;omega⟩
end Go.Proofs.YtnecpnjdonibmaaGreat
namespace Go.aP
open Go.Can
theorem Nu {x:Nat}(h:x<2 ^ 63):IntKind.i64.wrap (x:Int)=x:=IntWalk.i64_in _ ⟨by omega,by omega⟩
theorem yy (x:Nat):BitVec.ofInt IntKind.i64.bits (x:Int)=BitVec.ofNat 64 x:=BitVec.ofInt_natCast 64 x
theorem and_i64 {x y:Nat}(hx:x<2 ^ 63)(hy:y<2 ^ 63):IntKind.i64.wrap ((BitVec.ofInt IntKind.i64.bits (x:Int) &&& BitVec.ofInt IntKind.i64.bits (y:Int)).toNat:Int)=((x &&& y:Nat):Int):=by
 rw[yy,yy];have h1:(BitVec.ofNat 64 x &&& BitVec.ofNat 64 y).toNat=x &&& y:=by
  rw[BitVec.toNat_and,BitVec.toNat_ofNat,BitVec.toNat_ofNat,Nat.mod_eq_of_lt yA,Nat.mod_eq_of_lt yA]
 refine Eq.trans (congrArg (fun n:Nat=>IntKind.i64.wrap (n:Int)) h1) (Nu ?_);exact Nat.and_lt_two_pow x hy
def vm (a b:Nat):Nat:=a ^^^ (a &&& b)
theorem sw (a b e:Nat):(vm a b).testBit e=(a.testBit e && !b.testBit e):=by
 rw[vm,Nat.testBit_xor,Nat.testBit_and];cases a.testBit e<;>cases b.testBit e<;>rfl
theorem H3 {a b:Nat}(h:a<2 ^ 63):vm a b<2 ^ 63:=Nat.xor_lt_two_pow h (Nat.lt_of_le_of_lt Nat.and_le_left h)
theorem Nk {x y:Nat}(hx:x<2 ^ 63)(_hy:y<2 ^ 63):IntKind.i64.wrap ((BitVec.ofInt IntKind.i64.bits (x:Int) &&& ~~~BitVec.ofInt IntKind.i64.bits (y:Int)).toNat:Int)=((vm x y:Nat):Int):=by
 rw[yy,yy];have h1:(BitVec.ofNat 64 x &&& ~~~BitVec.ofNat 64 y).toNat=vm x y:=by
  refine Nat.eq_of_testBit_eq fun e=>?_;rw[sw];by_cases he:e<64
  ·rw[BitVec.testBit_toNat,BitVec.getLsbD_and,BitVec.getLsbD_not,BitVec.getLsbD_ofNat,BitVec.getLsbD_ofNat];simp[he]
  ·have h2:x.testBit e=false:=Nat.testBit_lt_two_pow (Nat.lt_of_lt_of_le hx (Nat.pow_le_pow_right yA yA));rw[h2];exact Nat.testBit_lt_two_pow (Nat.lt_of_lt_of_le (BitVec.isLt _) (Nat.pow_le_pow_right yA yA))
 exact Eq.trans (congrArg (fun n:Nat=>IntKind.i64.wrap (n:Int)) h1) (Nu (H3 hx))
theorem Ae (a b:Nat):vm a b=0↔a ||| b=b:=by
 constructor
 ·intro h;refine Nat.eq_of_testBit_eq fun e=>?_;have h1:=sw a b e;rw[h,Nat.zero_testBit] at h1;rw[Nat.testBit_or];cases ha:a.testBit e<;>cases hb:b.testBit e<;>simp_all
 ·intro h;refine Nat.eq_of_testBit_eq fun e=>?_;have h1:=congrArg (fun n:Nat=>n.testBit e) h;simp only[Nat.testBit_or] at h1;rw[sw,Nat.zero_testBit];cases ha:a.testBit e<;>cases hb:b.testBit e<;>simp_all
theorem Dp (a:Nat):vm a 1=0↔a≤1:=by
 rw[Ae];constructor
 ·intro h;rw[← h];exact Nat.left_le_or
 ·intro h;have:a=0∨a=1:=by omega
  rcases this with rfl | rfl<;>rfl
theorem shr_i64 (x d:Nat)(hd:d≤64):Int.fdiv (x:Int) (2 ^ (min ((d:Int)).toNat IntKind.i64.bits))=((x >>> d:Nat):Int):=by
 have h1:min ((d:Int)).toNat IntKind.i64.bits=d:=by
  show min ((d:Int)).toNat 64=d;omega
 rw[h1,Nat.shiftRight_eq_div_pow,Int.fdiv_eq_ediv_of_nonneg _ (Int.le_of_lt (Int.pow_pos yA))];norm_cast
theorem KB (x d:Nat):(x >>> d) &&& 1=if x.testBit d=true then 1 else 0:=by
 rw[Nat.and_one_is_mod,Nat.testBit_eq_decide_div_mod_eq,Nat.shiftRight_eq_div_pow];by_cases h:x / 2 ^ d % 2=1
 ·simp[h]
 ·have:x / 2 ^ d % 2=0:=by omega
  simp[this]
theorem Jj {d:Nat}(hd:d≤62):IntKind.i64.wrap (1*2 ^ (min ((d:Int)).toNat IntKind.i64.bits))=((2 ^ d:Nat):Int):=by
 have h1:min ((d:Int)).toNat IntKind.i64.bits=d:=by
  show min ((d:Int)).toNat 64=d;omega
 rw[h1];have h2:(2:Nat) ^ d<2 ^ 63:=Nat.pow_lt_pow_right yA yA;have h3:(1*2 ^ d:Int)=((2 ^ d:Nat):Int):=by push_cast;omega
 rw[h3,Nu h2]
theorem Ez {x:Nat}(h:x<2 ^ 63):x % 2 ^ IntKind.i64.bits=x:=by
 show x % 2 ^ 64=x;omega
theorem Lm {x y:Nat}(hx:x<2 ^ 63)(hy:y<2 ^ 63):IntKind.i64.wrap ((x % 2 ^ IntKind.i64.bits &&& y % 2 ^ IntKind.i64.bits:Nat):Int)=((x &&& y:Nat):Int):=by
 rw[Ez hx,Ez hy,Nu (Nat.and_lt_two_pow x hy)]
theorem Ep {x y:Nat}(hx:x<2 ^ 63)(hy:y<2 ^ 63):IntKind.i64.wrap ((x % 2 ^ IntKind.i64.bits ||| y % 2 ^ IntKind.i64.bits:Nat):Int)=((x ||| y:Nat):Int):=by
 rw[Ez hx,Ez hy,Nu (Nat.or_lt_two_pow hx hy)]
theorem shr_s (x:Nat){d:Nat}(hd:d≤64):Int.fdiv (x:Int) (2 ^ (min d IntKind.i64.bits))=((x >>> d:Nat):Int):=by
 have h1:min d IntKind.i64.bits=d:=by
  show min d 64=d;omega
 rw[h1,Nat.shiftRight_eq_div_pow,Int.fdiv_eq_ediv_of_nonneg _ (Int.le_of_lt (Int.pow_pos yA))];norm_cast
theorem Lh {x d:Nat}(hx:x<2 ^ 63)(hd:d≤64):∃ y z:Nat,Int.fdiv (x:Int) (2 ^ (min d IntKind.i64.bits))=(y:Int)∧IntKind.i64.wrap ((y % 2 ^ IntKind.i64.bits &&& 1 % 2 ^ IntKind.i64.bits:Nat):Int)=(z:Int)∧((z:Int) == 1)=x.testBit d:=by
 refine⟨x >>> d,_,shr_s x hd,Lm (y:=1) (Nat.lt_of_le_of_lt (Nat.shiftRight_le x d) hx) yA,?_⟩;rw[KB];cases x.testBit d<;>rfl
theorem KM {d:Nat}(hd:d≤62):IntKind.i64.wrap (2 ^ (min d IntKind.i64.bits))=((2 ^ d:Nat):Int):=by
 have h:=Jj hd;rw[Int.one_mul] at h
 simpa using h
theorem AE {x y:Nat}(hx:x<2 ^ 63)(hy:y<2 ^ 63):(x &&& (2 ^ 64-1-y))=vm x y:=by
 have h1:(BitVec.ofNat 64 x &&& ~~~BitVec.ofNat 64 y).toNat=vm x y:=by
  refine Nat.eq_of_testBit_eq fun e=>?_;rw[sw];by_cases he:e<64
  ·rw[BitVec.testBit_toNat,BitVec.getLsbD_and,BitVec.getLsbD_not,BitVec.getLsbD_ofNat,BitVec.getLsbD_ofNat];simp[he]
  ·have h2:x.testBit e=false:=Nat.testBit_lt_two_pow (Nat.lt_of_lt_of_le hx (Nat.pow_le_pow_right yA yA));rw[h2];exact Nat.testBit_lt_two_pow (Nat.lt_of_lt_of_le (BitVec.isLt _) (Nat.pow_le_pow_right yA yA))
 rw[BitVec.toNat_and,BitVec.toNat_not,BitVec.toNat_ofNat,BitVec.toNat_ofNat,Nat.mod_eq_of_lt yA,Nat.mod_eq_of_lt yA] at h1;exact h1
theorem pQ {x y:Nat}(hx:x<2 ^ 63)(hy:y<2 ^ 63):IntKind.i64.wrap ((x % 2 ^ IntKind.i64.bits &&& 2 ^ IntKind.i64.bits-1-y % 2 ^ IntKind.i64.bits:Nat):Int)=((vm x y:Nat):Int):=by
 rw[Ez hx,Ez hy];exact (congrArg (fun n:Nat=>IntKind.i64.wrap (n:Int)) (AE hx hy)).trans (Nu (H3 hx))
theorem H0 {x y:Nat}:(((vm x y:Nat):Int) != 0)=!decide (x ||| y=y):=by
 have h:=Ae x y;by_cases hd:x ||| y=y
 ·rw[h.2 hd];simp[hd]
 ·have:vm x y≠0:=fun e=>hd (h.1 e);simp[hd,this]
end Go.aP
namespace Go.Proofs.YtnecpnjdonibmaaGreat
open Go.Can Go.aP
theorem LX (x d:Nat)(hx:x<2 ^ 63)(hd:d≤60):ae Tryz.prog 20 [I x,I d] (.bool (decide (d≤8) && x.testBit d)):=by
 refine ae.aM ah Tryz.func20 rfl PH (by simp[Tryz.ntmps20]) rfl fun C hC PN=>?_;rw[Tryz.ntmps20] at hC;obtain⟨y,z,b1,b2,b3⟩:=Lh hx (d:=d) yA;have b0:¬ ((d:Int)<0):=by omega
 apply aj;simp[hC];by_cases h8:d≤8
 ·have h8':(d:Int)≤8:=by omega
  apply aj;simp[hC,h8',b0,b1,b2,b3];apply T.ret;apply aa.here;simp[Tryz.results20,h8]
 ·have h8':¬ (d:Int)≤8:=by omega
  apply aj;simp[hC,h8'];apply T.ret;apply aa.here;simp[Tryz.results20,h8]
def J80 (r:List Nat)(x:Nat)(m:Nat)(s:St):Prop:=∃ i a:Nat,m=r.length-i∧i≤r.length∧a<2 ^ 63∧a ||| B7 (r.drop i) x i=wT r x∧s=⟨[(6,I i),(5,I a),(0,aA r),(1,I x)],[],0⟩
theorem AD {r:List Nat}{i s:Nat}(h:r[i]? = some s)(x:Nat):B7 (r.drop i) x i=(if x.testBit i=true then s else 0) ||| B7 (r.drop (i+1)) x (i+1):=by
 have hl:=(List.getElem?_eq_some_iff.1 h).1;rw[List.drop_eq_getElem_cons hl];have:=(List.getElem?_eq_some_iff.1 h).2;rw[this,B7]
theorem Eb (r:List Nat)(x:Nat)(hl:r.length≤9)(hr:∀ s∈r,s<2 ^ 63)(hx:x<2 ^ 63):ae Tryz.prog 80 [aA r,I x] (I (wT r x)):=by
 have tr:=aC r;refine ae.aM ah Tryz.func80 rfl PH (by simp[Tryz.ntmps80]) rfl fun C hC PN=>?_;rw[Tryz.ntmps80] at hC;apply aj;simp[hC];apply aj;simp[hC];apply aU;simp[hC];apply T.block;refine T.aJ (J80 r x) (n:=r.length) ?_ ?_
 ·refine aa.trim [6,5,0,1] [] 0 (by simp[-List.all_eq_true,a6 0 _ (aD r)]) yA ⟨0,0,by omega,by omega,by omega,by simp[wT],?_⟩;simp
 ·rintro n s ⟨i,a,rfl,hi,ha,RA,rfl⟩;simp only[aA];by_cases PJ:i<r.length
  ·obtain⟨b,hb⟩:∃ b,r[i]? = some b:=⟨_,List.getElem?_eq_getElem PJ⟩;have PL:=dk hb;have Qf:=hr b (List.mem_of_getElem? hb);have P4:=LX x i hx yA;have wi:=cE ((i:Int)+1) yA yA;have Qa:=AD hb x;have h8:i≤8:=by omega
   have Um:=Ep (x:=a) (y:=b) ha Qf;have PU:trees [I x,I i]=true:=rfl;apply aU;simp[hC,PJ];refine gQ ?_;simp;apply dZ;apply aj;simp[hC];refine dQ PU P4 ?_;simp[h8]
   cases VT:x.testBit i with
   | true=>
    refine T.cond (b:=true) RN ?_;simp;apply aW;simp[hC,PJ,PL,Um];apply aW;simp[hC,wi];refine⟨r.length-(i+1),by omega,aa.trim [6,5,0,1] [] 0 Rt yA ⟨i+1,a ||| b,rfl,by omega,Nat.or_lt_two_pow ha Qf,?_,?_⟩⟩
    ·rw[← RA,Qa,VT,if_pos rfl,Nat.or_assoc]
    ·simp[aA]
   | false=>
    refine T.cond (b:=false) RN (T.skip ?_);simp;apply aW;simp[hC,wi];refine⟨r.length-(i+1),by omega,aa.trim [6,5,0,1] [] 0 Rt yA ⟨i+1,a,rfl,by omega,ha,?_,?_⟩⟩
    ·rw[← RA,Qa,VT];simp
    ·simp[aA]
  ·have PS:i=r.length:=by omega
   subst PS;rw[List.drop_length,B7,Nat.or_zero] at RA;apply aU;simp[hC];refine bh ?_;simp;apply T.exit;simp;apply aj;simp[hC];apply T.ret;apply aa.here;rw[RA];simp[Tryz.results80]
def J179 (r:List Nat)(x:Nat)(m:Nat)(s:St):Prop:=∃ i a:Nat,m=r.length-i∧i≤r.length∧a<2 ^ 63∧a ||| B7 (r.drop i) x i=wT r x∧s=⟨[(10,I i),(9,I r.length),(8,aA r),(5,I a),(1,I x)],[],0⟩
theorem D0 (r:List Nat)(x:Nat)(hl:r.length≤9)(hr:∀ s∈r,s<2 ^ 63)(hx:x<2 ^ 63):ae Tryz.prog 179 [aA r,I x] (I (wT r x)):=by
 have tr:=aC r;refine ae.aM ah Tryz.func179 rfl PH (by simp[Tryz.ntmps179]) rfl fun C hC PN=>?_;rw[Tryz.ntmps179] at hC;apply aj;simp[hC];apply aj;simp[hC];simp only[aA];apply aU;simp[hC];apply T.block;refine T.aJ (J179 r x) (n:=r.length) ?_ ?_
 ·refine aa.trim [10,9,8,5,1] [] 0 Rt yA ⟨0,0,by omega,by omega,by omega,by simp[wT],?_⟩;simp[aA]
 ·rintro n s ⟨i,a,rfl,hi,ha,RA,rfl⟩;simp only[aA];by_cases PJ:i<r.length
  ·obtain⟨b,hb⟩:∃ b,r[i]? = some b:=⟨_,List.getElem?_eq_getElem PJ⟩;have PL:=dk hb;have Qf:=hr b (List.mem_of_getElem? hb);have wi:=cE ((i:Int)+1) yA yA;have Qa:=AD hb x;have Um:=Ep (x:=a) (y:=b) ha Qf;obtain⟨y,z,b1,b2,b3⟩:=Lh hx (d:=i) yA;have b0:¬ ((i:Int)<0):=by omega
   apply aj;simp[hC,PJ];refine T.seq (T.cond (b:=true) rfl (T.skip ?_));simp;apply dZ;apply aj;simp[hC,PJ,PL];apply aj;simp[hC,b0,b1,b2,b3]
   cases VT:x.testBit i with
   | true=>
    refine T.cond (b:=true) RN ?_;simp;apply aW;simp[hC,Um];apply aW;simp[hC,wi];refine⟨r.length-(i+1),by omega,aa.trim [10,9,8,5,1] [] 0 Rt yA ⟨i+1,a ||| b,rfl,by omega,Nat.or_lt_two_pow ha Qf,?_,?_⟩⟩
    ·rw[← RA,Qa,VT,if_pos rfl,Nat.or_assoc]
    ·simp[aA]
   | false=>
    refine T.cond (b:=false) RN (T.skip ?_);simp;apply aW;simp[hC,wi];refine⟨r.length-(i+1),by omega,aa.trim [10,9,8,5,1] [] 0 Rt yA ⟨i+1,a,rfl,by omega,ha,?_,?_⟩⟩
    ·rw[← RA,Qa,VT];simp
    ·simp[aA]
  ·have PS:i=r.length:=by omega
   subst PS;rw[List.drop_length,B7,Nat.or_zero] at RA;apply aj;simp[hC];refine T.seq (T.cond (b:=false) rfl (T.exit ?_));simp;apply aj;simp[hC];apply T.ret;apply aa.here;rw[RA];simp[Tryz.results179]
theorem qh (r:List Nat)(x:Nat)(hl:r.length≤9)(hr:∀ s∈r,s<2 ^ 63)(hx:x<2 ^ 63):ae Tryz.prog 113 [aA r,I x] (I (wT r x)):=by
 have h:=D0 r x hl hr hx;have PU:trees [aA r,I x]=true:=by simp only[trees,aD,tree,Bool.and_self]
 refine ae.aM ah Tryz.func113 rfl PH (by simp[Tryz.ntmps113]) rfl fun C hC PN=>?_;rw[Tryz.ntmps113] at hC;apply aj;simp[hC];apply aj;simp[hC];refine dQ PU h ?_;simp[hC];apply T.ret;apply aa.here;simp[Tryz.results113]
theorem Gu {L i:Nat}(c:Int)(h:i<L+1):(lp L c)[i]? = some (if 0≤(i:Int)+c∧(i:Int)+c≤L then 2 ^ ((i:Int)+c).toNat else 0):=by
 simp[lp,List.getElem?_range h]
theorem fQ (L:Nat)(c:Int):(lp L c).length=L+1:=by simp[lp]
def J148 (L:Nat)(c:Int)(m:Nat)(s:St):Prop:=∃ i:Nat,m=L+1-i∧i≤L+1∧s=⟨[(6,I i),(5,.bj 0 0 (L+1)),(0,I L),(1,I c)],[(0,⟨3,1,fD (lp L c) i⟩)],1⟩
theorem NB (L:Nat)(c:Int)(hL:L≤8)(h1 : -1≤c)(h2:c≤1):ae Tryz.prog 148 [I L,I c] (aA (lp L c)):=by
 refine ae.aM ah Tryz.func148 rfl PH (by simp[Tryz.ntmps148]) (aD _) fun C hC PN=>?_;rw[Tryz.ntmps148] at hC;have wL:=cE ((L:Int)+1) yA yA;have bd:0≤(L:Int)+1∧8*((L:Int)+1)≤281474976710656∧(L:Int)+1≤9223372036854775807:=by omega
 apply aj;simp[hC];apply aj;simp[hC,wL,bd];apply aU;simp[hC];apply T.block;refine T.aJ (J148 L c) (n:=L+1) ?_ ?_
 ·refine aa.trim [6,5,0,1] [0] 1 Rt yA ⟨0,by omega,by omega,?_⟩;rw[gq,fQ];simp
 ·rintro n s ⟨i,rfl,hi,rfl⟩;have Qv:(fD (lp L c) i).length=L+1:=by rw[iM (by rw[fQ];exact hi),fQ]
  have SL:=ey (lp L c) i;by_cases PJ:i<L+1
  ·have X6:(i:Int)≤(L:Int):=by omega
   have wi:=cE ((i:Int)+1) yA yA;have wc:=cE ((i:Int)+c) yA yA;have QO:=Gu c PJ;apply aU;simp[hC,X6];refine gQ ?_;simp;apply dZ;apply aj;simp[hC,wc];by_cases h0:0≤(i:Int)+c
   ·obtain⟨e,he⟩:∃ e:Nat,(i:Int)+c=e:=⟨((i:Int)+c).toNat,by omega⟩;rw[he] at QO;simp only[he];by_cases Yn:(e:Int)≤(L:Int)
    ·have Ws:=KM (d:=e) yA;rw[if_pos ⟨by omega,Yn⟩,Int.toNat_natCast] at QO;apply aj;simp[hC,Yn];refine fx ?_;simp;have b0:¬ ((e:Int)<0):=by omega
     have hiI:(i:Int)<(L:Int)+1:=by omega
     have QW:i≤L:=by omega
     apply aW;simp[hC,b0,Ws,QW,Qv,hiI];apply aW;simp[hC,wi];refine⟨L+1-(i+1),by omega,aa.trim [6,5,0,1] [0] 1 Xp yA ⟨i+1,rfl,by omega,?_⟩⟩;rw[← iL QO];simp
    ·rw[if_neg yA] at QO;apply aj;simp[hC,Yn];refine gO ?_;simp;apply aW;simp[hC,wi];refine⟨L+1-(i+1),by omega,aa.trim [6,5,0,1] [0] 1 yBz yA ⟨i+1,rfl,by omega,?_⟩⟩;rw[nj QO];simp
   ·rw[if_neg yA] at QO;apply aj;simp[hC,h0];refine gO ?_;simp;apply aW;simp[hC,wi];refine⟨L+1-(i+1),by omega,aa.trim [6,5,0,1] [0] 1 yBz yA ⟨i+1,rfl,by omega,?_⟩⟩;rw[nj QO];simp
  ·have PS:i=L+1:=by omega
   subst PS;have RC:=iN (lp L c);rw[fQ] at RC;have tF:=aC (lp L c);have QU:¬ ((L:Int)+1≤(L:Int)):=by omega
   rw[RC] at Qv ⊢;apply aU;simp[hC,QU];refine bh ?_;simp;apply T.exit;simp;apply aj;simp[hC];apply T.ret;refine aa.le (Le.dz (o:=0) rfl tF) ?_;apply aa.here;have PY:List.take (L+1) ((lp L c).map fun n:Nat=>I n)=(lp L c).map fun n:Nat=>I n:=List.take_of_length_le (by rw[List.length_map,fQ];omega);simp[Tryz.results148,aA,fQ,PY]
def J318 (L:Nat)(c:Int)(m:Nat)(s:St):Prop:=∃ i:Nat,m=L+1-i∧i≤L+1∧s=⟨[(12,I i),(11,I ((L:Int)+1)),(5,.bj 0 0 (L+1)),(0,I L),(1,I c)],[(0,⟨3,1,fD (lp L c) i⟩)],1⟩
theorem oe (L:Nat)(c:Int)(hL:L≤8)(h1 : -1≤c)(h2:c≤1):ae Tryz.prog 318 [I L,I c] (aA (lp L c)):=by
 refine ae.aM ah Tryz.func318 rfl PH (by simp[Tryz.ntmps318]) (aD _) fun C hC PN=>?_;rw[Tryz.ntmps318] at hC;have wL:=cE ((L:Int)+1) yA yA;have bd:0≤(L:Int)+1∧8*((L:Int)+1)≤281474976710656∧(L:Int)+1≤9223372036854775807:=by omega
 apply aj;simp[hC];apply aj;simp[hC,wL,bd];apply aU;simp[hC];apply T.block;refine T.aJ (J318 L c) (n:=L+1) ?_ ?_
 ·refine aa.trim [12,11,5,0,1] [0] 1 Rt yA ⟨0,by omega,by omega,?_⟩;rw[gq,fQ];simp
 ·rintro n s ⟨i,rfl,hi,rfl⟩;have Qv:(fD (lp L c) i).length=L+1:=by rw[iM (by rw[fQ];exact hi),fQ]
  have SL:=ey (lp L c) i;by_cases PJ:i<L+1
  ·have hiI:(i:Int)<(L:Int)+1:=by omega
   have QW:i≤L:=by omega
   have wi:=cE ((i:Int)+1) yA yA;have wc:=cE ((i:Int)+c) yA yA;have QO:=Gu c PJ;apply aj;simp[hC,hiI];refine T.seq (T.cond (b:=true) rfl (T.skip ?_));simp;apply dZ;apply aj;simp[hC];by_cases h0:0≤(i:Int)+c
   ·obtain⟨e,he⟩:∃ e:Nat,(i:Int)+c=e:=⟨((i:Int)+c).toNat,by omega⟩;rw[he] at QO wc;by_cases Yn:(e:Int)≤(L:Int)
    ·have Ws:=KM (d:=e) yA;have b0:¬ ((e:Int)<0):=by omega
     rw[if_pos ⟨by omega,Yn⟩,Int.toNat_natCast] at QO;apply aj;simp[hC,he,wc,Yn];refine fx ?_;simp;apply aW;simp[hC,he,wc,b0,Ws,QW,Qv,hiI];apply aW;simp[hC,wi];refine⟨L+1-(i+1),by omega,aa.trim [12,11,5,0,1] [0] 1 Xp yA ⟨i+1,rfl,by omega,?_⟩⟩;rw[← iL QO];simp
    ·rw[if_neg yA] at QO;apply aj;simp[hC,he,wc,Yn];refine gO ?_;simp;apply aW;simp[hC,wi];refine⟨L+1-(i+1),by omega,aa.trim [12,11,5,0,1] [0] 1 yBz yA ⟨i+1,rfl,by omega,?_⟩⟩;rw[nj QO];simp
   ·rw[if_neg yA] at QO;apply aj;simp[hC,wc,h0];refine gO ?_;simp;apply aW;simp[hC,wi];refine⟨L+1-(i+1),by omega,aa.trim [12,11,5,0,1] [0] 1 yBz yA ⟨i+1,rfl,by omega,?_⟩⟩;rw[nj QO];simp
  ·have PS:i=L+1:=by omega
   subst PS;have RC:=iN (lp L c);rw[fQ] at RC;have tF:=aC (lp L c);rw[RC] at Qv ⊢;apply aj;simp[hC];refine T.seq (T.cond (b:=false) rfl (T.exit ?_));simp;apply aj;simp[hC];apply T.ret;refine aa.le (Le.dz (o:=0) rfl tF) ?_;apply aa.here;have PY:List.take (L+1) ((lp L c).map fun n:Nat=>I n)=(lp L c).map fun n:Nat=>I n:=List.take_of_length_le (by rw[List.length_map,fQ];omega);simp[Tryz.results318,aA,fQ,PY]
theorem fS (a b:List Nat):(nK a b).length=a.length:=by simp[nK]
theorem Ib {a b:List Nat}{i x:Nat}(h:a[i]? = some x):(nK a b)[i]? = some (wT b x):=by simp[nK,h]
def J150 (a b:List Nat)(m:Nat)(s:St):Prop:=∃ i:Nat,m=a.length-i∧i≤a.length∧s=⟨[(6,I i),(5,.bj 0 0 a.length),(0,aA a),(1,aA b)],[(0,⟨3,1,fD (nK a b) i⟩)],1⟩
theorem Pk (a b:List Nat)(la:a.length≤9)(lb:b.length≤9)(ha:∀ s∈a,s<2 ^ 63)(hb:∀ s∈b,s<2 ^ 63):ae Tryz.prog 150 [aA a,aA b] (aA (nK a b)):=by
 refine ae.aM ah Tryz.func150 rfl PH (by simp[Tryz.ntmps150]) (aD _) fun C hC PN=>?_;rw[Tryz.ntmps150] at hC;have ta:=aC a;have tb:=aC b;have bd:8*(a.length:Int)≤281474976710656∧(a.length:Int)≤9223372036854775807:=by omega
 simp only[aA];apply aj;simp[hC];apply aj;simp[hC,bd];apply aU;simp[hC];apply T.block;refine T.aJ (J150 a b) (n:=a.length) ?_ ?_
 ·refine aa.trim [6,5,0,1] [0] 1 Rt yA ⟨0,by omega,by omega,?_⟩;rw[gq,fS];simp[aA]
 ·rintro n s ⟨i,rfl,hi,rfl⟩;have Qv:(fD (nK a b) i).length=a.length:=by rw[iM (by rw[fS];exact hi),fS]
  have SL:=ey (nK a b) i;simp only[aA];by_cases PJ:i<a.length
  ·obtain⟨x,hx⟩:∃ x,a[i]? = some x:=⟨_,List.getElem?_eq_getElem PJ⟩;have PL:=dk hx;have QO:=Ib (b:=b) hx;have wi:=cE ((i:Int)+1) yA yA;have RA:=Eb b x lb hb (ha x (List.mem_of_getElem? hx));have PU:trees [aA b,I x]=true:=by simp only[trees,aD,tree,Bool.and_self]
   simp only[aA] at RA PU;apply aU;simp[hC,PJ];refine gQ ?_;simp;apply dZ;apply aW;simp[hC,PJ,PL];refine dQ PU RA ?_;have SR:i+1≤a.length:=PJ;simp[hC,PJ,SR,Qv];apply aW;simp[hC,wi];refine⟨a.length-(i+1),by omega,aa.trim [6,5,0,1] [0] 1 Xp yA ⟨i+1,rfl,by omega,?_⟩⟩;rw[← iL QO];simp[aA]
  ·have PS:i=a.length:=by omega
   subst PS;have RC:=iN (nK a b);rw[fS] at RC;have tF:=aC (nK a b);rw[RC] at Qv ⊢;apply aU;simp[hC];refine bh ?_;simp;apply T.exit;simp;apply aj;simp[hC];apply T.ret;refine aa.le (Le.dz (o:=0) rfl tF) ?_;apply aa.here;have PY:List.take a.length ((nK a b).map fun n:Nat=>I n)=(nK a b).map fun n:Nat=>I n:=List.take_of_length_le (by rw[List.length_map,fS];omega);simp[Tryz.results150,fS,PY]
def J323 (a b:List Nat)(m:Nat)(s:St):Prop:=∃ i:Nat,m=a.length-i∧i≤a.length∧s=⟨[(13,I i),(12,I a.length),(11,aA a),(5,.bj 0 0 a.length),(1,aA b)],[(0,⟨3,1,fD (nK a b) i⟩)],1⟩
theorem GV (a b:List Nat)(la:a.length≤9)(lb:b.length≤9)(ha:∀ s∈a,s<2 ^ 63)(hb:∀ s∈b,s<2 ^ 63):ae Tryz.prog 323 [aA a,aA b] (aA (nK a b)):=by
 refine ae.aM ah Tryz.func323 rfl PH (by simp[Tryz.ntmps323]) (aD _) fun C hC PN=>?_;rw[Tryz.ntmps323] at hC;have ta:=aC a;have tb:=aC b;have bd:8*(a.length:Int)≤281474976710656∧(a.length:Int)≤9223372036854775807:=by omega
 simp only[aA];apply aj;simp[hC];apply aj;simp[hC,bd];apply aU;simp[hC];apply T.block;refine T.aJ (J323 a b) (n:=a.length) ?_ ?_
 ·refine aa.trim [13,12,11,5,1] [0] 1 Rt yA ⟨0,by omega,by omega,?_⟩;rw[gq,fS];simp[aA]
 ·rintro n s ⟨i,rfl,hi,rfl⟩;have Qv:(fD (nK a b) i).length=a.length:=by rw[iM (by rw[fS];exact hi),fS]
  have SL:=ey (nK a b) i;simp only[aA];by_cases PJ:i<a.length
  ·obtain⟨x,hx⟩:∃ x,a[i]? = some x:=⟨_,List.getElem?_eq_getElem PJ⟩;have PL:=dk hx;have QO:=Ib (b:=b) hx;have wi:=cE ((i:Int)+1) yA yA;have RA:=qh b x lb hb (ha x (List.mem_of_getElem? hx));have PU:trees [aA b,I x]=true:=by simp only[trees,aD,tree,Bool.and_self]
   have SR:i+1≤a.length:=PJ;simp only[aA] at RA PU;apply aj;simp[hC,PJ];refine T.seq (T.cond (b:=true) rfl (T.skip ?_));simp;apply dZ;apply aj;simp[hC,PJ,PL];apply aW;simp[hC];refine dQ PU RA ?_;simp[hC,PJ,SR,Qv];apply aW;simp[hC,wi];refine⟨a.length-(i+1),by omega,aa.trim [13,12,11,5,1] [0] 1 Xp yA ⟨i+1,rfl,by omega,?_⟩⟩;rw[← iL QO];simp[aA]
  ·have PS:i=a.length:=by omega
   subst PS;have RC:=iN (nK a b);rw[fS] at RC;have tF:=aC (nK a b);rw[RC] at Qv ⊢;apply aj;simp[hC];refine T.seq (T.cond (b:=false) rfl (T.exit ?_));simp;apply aj;simp[hC];apply T.ret;refine aa.le (Le.dz (o:=0) rfl tF) ?_;apply aa.here;have PY:List.take a.length ((nK a b).map fun n:Nat=>I n)=(nK a b).map fun n:Nat=>I n:=List.take_of_length_le (by rw[List.length_map,fS];omega);simp[Tryz.results323,fS,PY]
theorem zV (L:Nat)(hL:L≤8):ae Tryz.prog 278 [I L] (aA (lp L 0)):=by
 have h:=oe L 0 hL yA yA;have PU:trees [I L,I 0]=true:=rfl;refine ae.aM ah Tryz.func278 rfl PH (by simp[Tryz.ntmps278]) (aD _) fun C hC PN=>?_;rw[Tryz.ntmps278] at hC;apply aj;simp[hC];apply aj;simp[hC];refine dQ PU h ?_;simp[hC];apply T.ret;apply aa.here;simp[Tryz.results278]
theorem up_ok (L:Nat)(hL:L≤8):ae Tryz.prog 276 [I L] (aA (lp L 1)):=by
 have h:=oe L 1 hL yA yA;have PU:trees [I L,I 1]=true:=rfl;refine ae.aM ah Tryz.func276 rfl PH (by simp[Tryz.ntmps276]) (aD _) fun C hC PN=>?_;rw[Tryz.ntmps276] at hC;apply aj;simp[hC];apply aj;simp[hC];refine dQ PU h ?_;simp[hC];apply T.ret;apply aa.here;simp[Tryz.results276]
theorem Ke (L:Nat)(hL:L≤8):ae Tryz.prog 277 [I L] (aA (lp L (-1))):=by
 have h:=oe L (-1) hL yA yA;have PU:trees [I L,I (-1)]=true:=rfl;refine ae.aM ah Tryz.func277 rfl PH (by simp[Tryz.ntmps277]) (aD _) fun C hC PN=>?_;rw[Tryz.ntmps277] at hC;apply aj;simp[hC];apply aj;simp[hC];refine dQ PU h ?_;simp[hC];apply T.ret;apply aa.here;simp[Tryz.results277]
theorem dT {a b:List Nat}(h:b.length=a.length):(jK a b).length=a.length:=by simp[jK,h]
theorem Ba {a b:List Nat}{i x y:Nat}(h1:a[i]? = some x)(h2:b[i]? = some y):(jK a b)[i]? = some (x ||| y):=by simp[jK,List.getElem?_zipWith,h1,h2]
def J151 (a b:List Nat)(m:Nat)(s:St):Prop:=∃ i:Nat,m=a.length-i∧i≤a.length∧s=⟨[(6,I i),(5,.bj 0 0 a.length),(0,aA a),(1,aA b)],[(0,⟨3,1,fD (jK a b) i⟩)],1⟩
theorem O6 (a b:List Nat)(la:a.length≤1000)(lb:b.length=a.length)(ha:∀ s∈a,s<2 ^ 63)(hb:∀ s∈b,s<2 ^ 63):ae Tryz.prog 151 [aA a,aA b] (aA (jK a b)):=by
 refine ae.aM ah Tryz.func151 rfl PH (by simp[Tryz.ntmps151]) (aD _) fun C hC PN=>?_;rw[Tryz.ntmps151] at hC;have ta:=aC a;have tb:=aC b;have bd:8*(a.length:Int)≤281474976710656∧(a.length:Int)≤9223372036854775807:=by omega
 simp only[aA];apply aj;simp[hC];apply aj;simp[hC,bd];apply aU;simp[hC];apply T.block;refine T.aJ (J151 a b) (n:=a.length) ?_ ?_
 ·refine aa.trim [6,5,0,1] [0] 1 Rt yA ⟨0,by omega,by omega,?_⟩;rw[gq,dT lb];simp[aA]
 ·rintro n s ⟨i,rfl,hi,rfl⟩;have Qv:(fD (jK a b) i).length=a.length:=by rw[iM (by rw[dT lb];exact hi),dT lb]
  have SL:=ey (jK a b) i;simp only[aA];by_cases PJ:i<a.length
  ·obtain⟨x,hx⟩:∃ x,a[i]? = some x:=⟨_,List.getElem?_eq_getElem PJ⟩;have Sl:i<b.length:=by omega
   obtain⟨y,hy⟩:∃ y,b[i]? = some y:=⟨_,List.getElem?_eq_getElem Sl⟩;have PL:=dk hx;have QI:=dk hy;have QO:=Ba hx hy;have wi:=cE ((i:Int)+1) yA yA;have Um:=Ep (ha x (List.mem_of_getElem? hx)) (hb y (List.mem_of_getElem? hy));have SR:i+1≤a.length:=PJ;apply aU;simp[hC,PJ];refine gQ ?_;simp;apply dZ;refine T.rx ah follows [0,1,2,3,4,5,6,7,8,9,10,11,12] [] PH ?_;simp[hC,PJ,Sl,PL,QI,Um,SR,Qv];apply aW;simp[hC,wi];refine⟨a.length-(i+1),by omega,aa.trim [6,5,0,1] [0] 1 Xp yA ⟨i+1,rfl,by omega,?_⟩⟩;rw[← iL QO];simp[aA]
  ·have PS:i=a.length:=by omega
   subst PS;have RC:=iN (jK a b);rw[dT lb] at RC;have tF:=aC (jK a b);rw[RC] at Qv ⊢;apply aU;simp[hC];refine bh ?_;simp;apply T.exit;simp;apply aj;simp[hC];apply T.ret;refine aa.le (Le.dz (o:=0) rfl tF) ?_;apply aa.here;have PY:List.take a.length ((jK a b).map fun n:Nat=>I n)=(jK a b).map fun n:Nat=>I n:=List.take_of_length_le (by rw[List.length_map,dT lb];omega);simp[Tryz.results151,dT lb,PY]
def J233 (a b:List Nat)(m:Nat)(s:St):Prop:=∃ i:Nat,m=a.length-i∧i≤a.length∧s=⟨[(12,I i),(11,I a.length),(5,.bj 0 0 a.length),(0,aA a),(1,aA b)],[(0,⟨3,1,fD (jK a b) i⟩)],1⟩
theorem Jx (a b:List Nat)(la:a.length≤1000)(lb:b.length=a.length)(ha:∀ s∈a,s<2 ^ 63)(hb:∀ s∈b,s<2 ^ 63):ae Tryz.prog 233 [aA a,aA b] (aA (jK a b)):=by
 refine ae.aM ah Tryz.func233 rfl PH (by simp[Tryz.ntmps233]) (aD _) fun C hC PN=>?_;rw[Tryz.ntmps233] at hC;have ta:=aC a;have tb:=aC b;have bd:8*(a.length:Int)≤281474976710656∧(a.length:Int)≤9223372036854775807:=by omega
 simp only[aA];apply aj;simp[hC];apply aj;simp[hC,bd];apply aU;simp[hC];apply T.block;refine T.aJ (J233 a b) (n:=a.length) ?_ ?_
 ·refine aa.trim [12,11,5,0,1] [0] 1 Rt yA ⟨0,by omega,by omega,?_⟩;rw[gq,dT lb];simp[aA]
 ·rintro n s ⟨i,rfl,hi,rfl⟩;have Qv:(fD (jK a b) i).length=a.length:=by rw[iM (by rw[dT lb];exact hi),dT lb]
  have SL:=ey (jK a b) i;simp only[aA];by_cases PJ:i<a.length
  ·obtain⟨x,hx⟩:∃ x,a[i]? = some x:=⟨_,List.getElem?_eq_getElem PJ⟩;have Sl:i<b.length:=by omega
   obtain⟨y,hy⟩:∃ y,b[i]? = some y:=⟨_,List.getElem?_eq_getElem Sl⟩;have PL:=dk hx;have QI:=dk hy;have QO:=Ba hx hy;have wi:=cE ((i:Int)+1) yA yA;have Um:=Ep (ha x (List.mem_of_getElem? hx)) (hb y (List.mem_of_getElem? hy));have SR:i+1≤a.length:=PJ;apply aj;simp[hC,PJ];refine T.seq (T.cond (b:=true) rfl (T.skip ?_));simp;apply dZ;apply aj;simp[hC];refine T.rx ah follows [0,1,2,3,4,5,6,7,8,9,10,11,12] [] PH ?_;simp[hC,PJ,Sl,PL,QI,Um,SR,Qv];apply aW;simp[hC,wi];refine⟨a.length-(i+1),by omega,aa.trim [12,11,5,0,1] [0] 1 Xp yA ⟨i+1,rfl,by omega,?_⟩⟩;rw[← iL QO];simp[aA]
  ·have PS:i=a.length:=by omega
   subst PS;have RC:=iN (jK a b);rw[dT lb] at RC;have tF:=aC (jK a b);rw[RC] at Qv ⊢;apply aj;simp[hC];refine T.seq (T.cond (b:=false) rfl (T.exit ?_));simp;apply aj;simp[hC];apply T.ret;refine aa.le (Le.dz (o:=0) rfl tF) ?_;apply aa.here;have PY:List.take a.length ((jK a b).map fun n:Nat=>I n)=(jK a b).map fun n:Nat=>I n:=List.take_of_length_le (by rw[List.length_map,dT lb];omega);simp[Tryz.results233,dT lb,PY]
theorem Dd {a b:List Nat}:uX a b=true↔∀ (j x y:Nat),a[j]? = some x→b[j]? = some y→x ||| y=y:=by
 unfold uX;rw[List.all_eq_true];constructor
 ·intro h j x y hx hy;have:=h (decide (x ||| y=y)) (List.mem_iff_getElem?.2 ⟨j,by rw[List.getElem?_zipWith,hx,hy]⟩)
  simpa using this
 ·intro h z hz;obtain⟨j,hj⟩:=List.mem_iff_getElem?.1 hz;rw[List.getElem?_zipWith] at hj
  cases hx:a[j]? with
  | none=>rw[hx] at hj;simp at hj
  | some x=>
   cases hy:b[j]? with
   | none=>rw[hx,hy] at hj;simp at hj
   | some y=>
    rw[hx,hy] at hj;simp only[Option.some.injEq] at hj;rw[← hj]
    simpa using h j x y hx hy
def J324 (a b:List Nat)(m:Nat)(s:St):Prop:=∃ i:Nat,m=a.length-i∧i≤a.length∧(∀ (j x y:Nat),j<i→a[j]? = some x→b[j]? = some y→x ||| y=y)∧s=⟨[(8,I i),(7,I a.length),(0,aA a),(1,aA b)],[],0⟩
theorem Br (a b:List Nat)(la:a.length≤1000)(lb:b.length=a.length)(ha:∀ s∈a,s<2 ^ 63)(hb:∀ s∈b,s<2 ^ 63):ae Tryz.prog 324 [aA a,aA b] (.bool (uX a b)):=by
 refine ae.aM ah Tryz.func324 rfl PH (by simp[Tryz.ntmps324]) rfl fun C hC PN=>?_;rw[Tryz.ntmps324] at hC;have ta:=aC a;have tb:=aC b;simp only[aA];apply aj;simp[hC];apply aU;simp[hC];apply T.block;refine T.aJ (J324 a b) (n:=a.length) ?_ ?_
 ·refine aa.trim [8,7,0,1] [] 0 Rt yA ⟨0,by omega,by omega,fun j x y h=>by omega,?_⟩;simp[aA]
 ·rintro n s ⟨i,rfl,hi,Qs,rfl⟩;simp only[aA];by_cases PJ:i<a.length
  ·obtain⟨x,hx⟩:∃ x,a[i]? = some x:=⟨_,List.getElem?_eq_getElem PJ⟩;have Sl:i<b.length:=by omega
   obtain⟨y,hy⟩:∃ y,b[i]? = some y:=⟨_,List.getElem?_eq_getElem Sl⟩;have PL:=dk hx;have QI:=dk hy;have wi:=cE ((i:Int)+1) yA yA;apply aj;simp[hC,PJ];refine T.seq (T.cond (b:=true) rfl (T.skip ?_));simp;apply dZ;apply aj;simp[hC];refine T.seq (T.rx ah follows [0,1,2,3,4,5,6,7,8,9] [] PH ?_);have TP:=pQ (ha x (List.mem_of_getElem? hx)) (hb y (List.mem_of_getElem? hy));have P3:=H0 (x:=x) (y:=y);simp[hC,PJ,Sl,PL,QI,TP];by_cases Rn:x ||| y=y
   ·have Wy:(((vm x y:Nat):Int) != 0)=false:=by rw[P3];simp[Rn]
    refine T.cond (b:=false) (by simp only[ev,assoc,Wy];rfl) (T.skip ?_);simp;apply aW;simp[hC,wi];refine⟨a.length-(i+1),by omega,aa.trim [8,7,0,1] [] 0 Rt yA ⟨i+1,rfl,by omega,fun j p q hj hp hq=>?_,?_⟩⟩
    ·by_cases hji:j=i
     ·subst hji;rw[hx] at hp;cases hp;rw[hy] at hq;cases hq;exact Rn
     ·exact Qs j p q yA hp hq
    ·simp[aA]
   ·have Wy:(((vm x y:Nat):Int) != 0)=true:=by rw[P3];simp[Rn]
    have P4:uX a b=false:=by
     cases Re:uX a b with
     | false=>rfl
     | true=>exact (Rn (Dd.1 Re i x y hx hy)).elim
    refine T.cond (b:=true) (by simp only[ev,assoc,Wy];rfl) ?_;simp;apply aj;simp[hC];apply T.ret;apply aa.here;rw[P4];simp[Tryz.results324]
  ·have PS:i=a.length:=by omega
   subst PS;have P4:uX a b=true:=Dd.2 fun j x y hx hy=>Qs j x y (List.getElem?_eq_some_iff.1 hx).1 hx hy;apply aj;simp[hC];refine T.seq (T.cond (b:=false) rfl (T.exit ?_));simp;apply aj;simp[hC];apply T.ret;apply aa.here;rw[P4];simp[Tryz.results324]
end Go.Proofs.YtnecpnjdonibmaaGreat
