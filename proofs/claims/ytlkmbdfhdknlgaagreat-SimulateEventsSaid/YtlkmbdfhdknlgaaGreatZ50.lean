/- The values of a state stay -/
import Derived.Test.YtlkmbdfhdknlgaaGreatZ49
namespace Go.Proofs.YtlkmbdfhdknlgaaGreat
open Go.Can Go.aJ List
theorem N9:ot 0:=by unfold ot;omega
theorem PU {u:Un}(hu:fV u):Fm (oS u):=by
 refine⟨λ n hn=>?_,λ l hl f hf n hn=>?_⟩
 ·have:=hu.gi n hn;unfold ot;omega
 ·simp only[oS,mem_singleton] at hl;subst hl;rw[mem_singleton] at hf;subst hf;rw[eq_of_mem_replicate hn];exact N9
theorem jO {s:Sy}(hr:Fm s){t:Nat}{L:List Fr}{gs:List Int}{tb:List Ho}{fa:Nat}(hg:∀ n∈gs,ot n)(hL:∀ f∈L,∀ n∈f.aV,ot n):Fm { gs:=gs,tb:=tb,ts:=s.ts.set t L,fault:=fa }:=by
 refine⟨hg,λ l hl=>?_⟩;rcases mem_or_eq_of_mem_set hl with h | h
 ·exact hr.vs l h
 ·subst h;exact hL
theorem C7 {gs ls:List Int}(hg:∀ n∈gs,ot n)(hl:∀ n∈ls,ot n):∀ es:List Ex,(∀ e∈es,vf gs.length ls.length e)->∀ n∈(db gs ls es).1,ot n
 | [],_,n,h=>by simp[db] at h
 | e::r,he,n,h=>by
  rw[db] at h;split at h
  ·rcases mem_cons.1 h with rfl | h
   ·exact uw hg hl (he e mem_cons_self)
   ·exact C7 hg hl r (λ x hx=>he x (mem_cons_of_mem _ hx)) n h
  ·simp at h
theorem Mc {u:Un}(hu:fV u){k:Nat}{s:Sy}(hs:ov u k s)(hr:Fm s)(t:Int):Fm (fT u s t).1:=by
 have same:∀ tb fa,Fm { gs:=s.gs,tb:=tb,ts:=s.ts,fault:=fa }:=λ _ _=>⟨hr.gs,hr.vs⟩;unfold fT;split
 ·exact hr
 ·rename_i f hf;split
  ·exact hr
  ·rename_i i hi;obtain⟨n,l0,rfl,hl,_,hd⟩:=ld hf;obtain⟨q,hq,gZ,Wd,R7⟩:=(hs.gA hl).2.1.q;simp only[jJ,hf,hq] at hi;rw[Int.toNat_natCast,hd];have TV:=(hu.pc q (mem_of_getElem? hq)).2 i (mem_of_getElem? hi);rw[<- hs.gs,<- Wd,<- R7] at TV;have hlv:=hr.vs _ (mem_of_getElem? hl);have h0:∀ g∈l0,∀ n∈g.aV,ot n:=λ g hg=>hlv g (by simp[hg]);have h1:∀ n∈f.aV,ot n:=hlv f xr;have hL:∀ pc,∀ g∈l0++[{ f with pc:=pc }],∀ n∈g.aV,ot n:=λ pc g hg=>by
    rcases mem_append.1 hg with h | h
    ·exact h0 g h
    ·rw[mem_singleton] at h;subst h;exact h1
   cases i with
   | set k' gl e=>
    have hv:=uw hr.gs h1 TV.2;simp only[fk,N4];split
    ·split
     ·refine jO hr (λ n hn=>?_) (hL _);rcases mem_or_eq_of_mem_set hn with h | h
      ·exact hr.gs n h
      ·subst h;exact hv
     ·refine jO hr hr.gs λ g hg n hn=>?_;rcases mem_append.1 hg with h | h
      ·exact h0 g h n hn
      ·rw[mem_singleton] at h;subst h;rcases mem_or_eq_of_mem_set hn with h | h
       ·exact h1 n h
       ·subst h;exact hv
    ·exact same _ _
   | branch g e=>
    simp only[fk,OG];split
    ·exact jO hr hr.gs (hL _)
    ·exact same _ _
   | jump g=>exact jO hr hr.gs (hL _)
   | ret=>exact jO hr hr.gs h0
   | lock un p=>
    simp only[fk];split
    ·simp only[N1];split
     ·split
      ·exact jO hr hr.gs (hL _)
      ·exact same _ _
     ·exact same _ _
    ·simp only[Of];split
     ·split
      ·exact jO hr hr.gs (hL _)
      ·exact hr
     ·exact same _ _
   | call go tg es ps=>
    obtain⟨c1,c2,c3⟩:=TV;have he:=C7 hr.gs h1 es c2;have ha:(mV u s n f tg (uj u tg) es ps).2=0->∀ m∈(mV u s n f tg (uj u tg) es ps).1.aV,ot m:=λ _ m hm=>by
     unfold mV at hm;split at hm
     ·split at hm
      ·rcases mem_append.1 hm with h | h
       ·exact he m h
       ·rw[eq_of_mem_replicate h];exact N9
      ·exact he m hm
     ·exact he m hm
    simp only[fk];split
    ·simp only[Oq];split
     ·rename_i h;split
      ·exact same _ _
      ·refine⟨hr.gs,λ l S8=>?_⟩;rcases mem_append.1 S8 with h2 | h2
       ·exact (jO (tb:=s.tb) (fa:=0) hr hr.gs (hL (f.pc+1))).vs l h2
       ·rw[mem_singleton] at h2;subst h2;intro g hg;rw[mem_singleton] at hg;subst hg;exact ha h
     ·exact same _ _
    ·simp only[OF];split
     ·rename_i h;refine jO hr hr.gs λ g hg m hm=>?_;rcases mem_append.1 hg with h2 | h2
      ·exact h0 g h2 m hm
      ·rcases mem_cons.1 h2 with h2 | h2
       ·subst h2;exact h1 m hm
       ·rw[mem_singleton] at h2;subst h2;exact ha h m hm
     ·exact same _ _
def kM (f:List Nat)(i:Nat):List CV:=(f.take i).map (λ n:Nat=>I n)++replicate (f.length-i) (I 0)
theorem xE {f:List Nat}{i:Nat}(h:i<=f.length):(kM f i).length=f.length:=by simp[kM];omega
theorem uv (f:List Nat):kM f 0=replicate f.length (I 0):=by simp[kM]
theorem xF (f:List Nat):kM f f.length=f.map λ n:Nat=>I n:=by simp[kM]
theorem px (n:Nat):trees (replicate n (I 0))=true:=by
 induction n with
 | zero=>rfl
 | succ n ih=>rw[replicate_succ];simpa only[trees,tree,Bool.true_and] using ih
theorem qI (f:List Nat)(i:Nat):trees (kM f i)=true:=by rw[kM,bg,aK,px];rfl
theorem xD {f:List Nat}{i v:Nat}(h:f[i]? = some v):take i (kM f i)++I v::drop (i+1) (kM f i)=kM f (i+1):=by
 have hl:=(List.getElem?_eq_some_iff.1 h).1;have hA:((f.take i).map (λ n:Nat=>I n)).length=i:=by rw[length_map,length_take];omega
 have hr:replicate (f.length-i) (I 0)=I 0::replicate (f.length-(i+1)) (I 0):=by
  rw[show f.length-i=(f.length-(i+1))+1 by omega,replicate_succ]
 rw[kM,kM,hr,take_left' hA];have hd:drop (i+1) ((f.take i).map (λ n:Nat=>I n)++I 0::replicate (f.length-(i+1)) (I 0))=replicate (f.length-(i+1)) (I 0):=by
  rw[<- drop_drop,drop_left' hA];rfl
 rw[hd,take_add_one,h];simp
theorem zB {f:List Nat}{i:Nat}(h:f[i]? = some 0):kM f i=kM f (i+1):=by
 have hl:=(List.getElem?_eq_some_iff.1 h).1;rw[kM,kM,show f.length-i=(f.length-(i+1))+1 by omega,replicate_succ,take_add_one,h];simp
theorem BM {l:List CV}(h:trees l=true)(i:Nat):trees (take i l)=true/\trees (drop i l)=true:=by
 have:=bg (take i l) (drop i l);rw[take_append_drop,h] at this
 simpa using this.symm
end Go.Proofs.YtlkmbdfhdknlgaaGreat
namespace Go.aJ
open Go.Can List
def DO (u:Un)(x:Is)(L:Nat)(t:List (List Nat)):Nat->List Nat
 | 0=>vg L
 | k+1=>if (ay u x)[k]?.map vn=some true then oz (DO u x L t k) (t.getD k []) else DO u x L t k
theorem AS {u:Un}{x:Is}{L n:Nat}{t:List (List Nat)}(ht:vz L n t):∀ k,k<=n->sW L (DO u x L t k)
 | 0,_=>DS L
 | k+1,hk=>by
  have ih:=AS (u:=u) (x:=x) ht k yA;unfold DO;split
  ·obtain⟨r,hr,hw⟩:=ht.get (p:=k) yA;rw[getD_eq_getElem?_getD,hr];exact D1 ih hw
  ·exact ih
theorem Jp {z:In}:vn z=true↔z=.ret:=by cases z<;>simp[vn]
theorem Gt {u:Un}{x:Is}{L n:Nat}{t:List (List Nat)}(ht:vz L n t){d e:Nat}:∀ k,k<=n->(bH (DO u x L t k) d e=true↔∃ pc,pc<k/\(ay u x)[pc]? = some .ret/\fW t pc d e=true)
 | 0,_=>by simp[DO,zV]
 | k+1,hk=>by
  have ih:=Gt (u:=u) (x:=x) (d:=d) (e:=e) ht k yA;have hw:=AS (u:=u) (x:=x) ht k yA;obtain⟨r,hr,hwr⟩:=ht.get (p:=k) yA;have hg:t.getD k []=r:=by rw[getD_eq_getElem?_getD,hr];rfl
  have YY:fW t k d e=bH r d e:=mU hr d e;unfold DO;split
  ·rename_i VJ;have hz:(ay u x)[k]? = some .ret:=by
    cases hc:(ay u x)[k]? with
    | none=>rw[hc] at VJ;cases VJ
    | some z=>
     rw[hc] at VJ;simp only[Option.map_some,Option.some.injEq] at VJ;rw[Jp.1 VJ]
   rw[hg,z6 (by rw[hw.len,hwr.len]),Bool.or_eq_true,ih];constructor
   ·rintro (⟨pc,h1,h2,h3⟩ | h)
    ·exact⟨pc,by omega,h2,h3⟩
    ·exact⟨k,by omega,hz,by rw[YY];exact h⟩
   ·rintro⟨pc,h1,h2,h3⟩;by_cases hp:pc=k
    ·subst hp;rw[YY] at h3;exact .inr h3
    ·exact .inl ⟨pc,by omega,h2,h3⟩
  ·rename_i VJ;rw[ih];constructor
   ·rintro⟨pc,h1,h2,h3⟩;exact⟨pc,by omega,h2,h3⟩
   ·rintro⟨pc,h1,h2,h3⟩;by_cases hp:pc=k
    ·subst hp;rw[h2] at VJ;exact (VJ rfl).elim
    ·exact⟨pc,by omega,h2,h3⟩
theorem Nl {u:Un}{c:Cl}{m L i:Nat}{x:Is}(hx:c.is[i]? = some x)(sm:List (List Nat)):DO u x L (ru L (ay u x).length (Ri u c m L (BV sm) i)) (ay u x).length=exR u c m L sm i:=by
 have hw:=jN L (ay u x).length (Ri u c m L (BV sm) i);refine FO (AS hw _ (Nat.le_refl _)) λ d e hd he=>?_;rw[Gt hw _ (Nat.le_refl _)];constructor
 ·rintro⟨pc,h1,h2,h3⟩;exact⟨pc,x,hx,h2,(rh h1 hd he).1 h3⟩
 ·rintro⟨pc,y,h1,h2,h3⟩;rw[hx] at h1;cases h1;have hl:=(List.getElem?_eq_some_iff.1 h2).1;exact⟨pc,hl,h2,(rh hl hd he).2 h3⟩
section
variable {u:Un}{c:Cl}{m L:Nat}
theorem Da (H:LG u c L){i d:Nat}:bH (qL u c m L) i d=true↔qu u c m L i d:=by
 unfold bH qL;rw[getD_eq_getElem?_getD,getElem?_map];by_cases hi:i<c.is.length
 ·rw[getElem?_eq_getElem ZD];simp only[getElem_range,Option.map_some,Option.getD_some];by_cases hd:d<=L
  ·exact pK hd
  ·constructor
   ·intro h;exact (hd (Ff (oT L _) h)).elim
   ·intro h;exact (hd (KV H h).2).elim
 ·rw[getElem?_eq_none ZD];constructor
  ·intro h;simp at h
  ·intro h;exact (hi (KV H h).1).elim
theorem ap_be (H:LG u c L){i pc:Nat}{x:Is}(h:pc<(ay u x).length):DQ ((fw u c m L i x).getD pc []) ((qL u c m L).getD i 0)=kE L (Be u c m L i pc):=
 Ga (Lu h) λ e _=>by
  rw[Bp h];exact⟨λ⟨d,h1,h2⟩=>⟨d,(Da H).1 h1,h2⟩,λ⟨d,h1,h2⟩=>⟨d,(Da H).2 h1,h2⟩⟩
noncomputable def x6 (u:Un) (c:Cl) (m L i:Nat) (x:Is):List Nat:=(range (ay u x).length).map λ pc=>kE L (Be u c m L i pc)
noncomputable def Dx (u:Un) (c:Cl) (m L:Nat):List (List Nat):=(range c.is.length).map λ i=>match c.is[i]? with
 | some x=>x6 u c m L i x
 | none=>[]
theorem GQ {i:Nat}{x:Is}(hx:c.is[i]? = some x):(Dx u c m L)[i]? = some (x6 u c m L i x):=by
 have hl:=(List.getElem?_eq_some_iff.1 hx).1;rw[Dx,getElem?_map,getElem?_eq_getElem ZC];simp only[getElem_range,Option.map_some,hx]
theorem GR {i pc:Nat}{x:Is}(h:pc<(ay u x).length):(x6 u c m L i x)[pc]? = some (kE L (Be u c m L i pc)):=by
 rw[x6,getElem?_map,getElem?_eq_getElem TK];simp
end
theorem w63 {x:Nat}(h:x<2 ^ 63):IntKind.i64.wrap (x:Int)=x:=IntWalk.i64_in _ ⟨by omega,by omega⟩
theorem NQ (x d:Nat):(x >>> d) &&& 1=if x.testBit d=true then 1 else 0:=by
 rw[Nat.and_one_is_mod,Nat.testBit_eq_decide_div_mod_eq,Nat.shiftRight_eq_div_pow];by_cases h:x / 2 ^ d % 2=1
 ·simp[h]
 ·have:x / 2 ^ d % 2=0:=by omega
  simp[this]
theorem Mi {d:Nat}(hd:d<=62):IntKind.i64.wrap (1*2 ^ (min ((d:Int)).toNat IntKind.i64.bits))=((2 ^ d:Nat):Int):=by
 have h1:min ((d:Int)).toNat IntKind.i64.bits=d:=by
  show min ((d:Int)).toNat 64=d;omega
 rw[h1];have h2:(2:Nat) ^ d<2 ^ 63:=Nat.pow_lt_pow_right yA yA;have h3:(1*2 ^ d:Int)=((2 ^ d:Nat):Int):=by push_cast;omega
 rw[h3,w63 h2]
theorem MY {x:Nat}(h:x<2 ^ 63):x % 2 ^ IntKind.i64.bits=x:=by
 show x % 2 ^ 64=x;omega
theorem and_s {x y:Nat}(hx:x<2 ^ 63)(hy:y<2 ^ 63):IntKind.i64.wrap ((x % 2 ^ IntKind.i64.bits &&& y % 2 ^ IntKind.i64.bits:Nat):Int)=((x &&& y:Nat):Int):=by
 rw[MY hx,MY hy,w63 (Nat.and_lt_two_pow x hy)]
theorem PI {x y:Nat}(hx:x<2 ^ 63)(hy:y<2 ^ 63):IntKind.i64.wrap ((x % 2 ^ IntKind.i64.bits ||| y % 2 ^ IntKind.i64.bits:Nat):Int)=((x ||| y:Nat):Int):=by
 rw[MY hx,MY hy,w63 (Nat.or_lt_two_pow hx hy)]
theorem shr_s (x:Nat){d:Nat}(hd:d<=64):Int.fdiv (x:Int) (2 ^ (min d IntKind.i64.bits))=((x >>> d:Nat):Int):=by
 have h1:min d IntKind.i64.bits=d:=by
  show min d 64=d;omega
 rw[h1,Nat.shiftRight_eq_div_pow,Int.fdiv_eq_ediv_of_nonneg _ (Int.le_of_lt (Int.pow_pos yA))];norm_cast
theorem bit_s {x d:Nat}(hx:x<2 ^ 63)(hd:d<=64):∃ y z:Nat,Int.fdiv (x:Int) (2 ^ (min d IntKind.i64.bits))=(y:Int)/\IntKind.i64.wrap ((y % 2 ^ IntKind.i64.bits &&& 1 % 2 ^ IntKind.i64.bits:Nat):Int)=(z:Int)/\((z:Int) == 1)=x.testBit d:=by
 refine⟨x >>> d,_,shr_s x hd,and_s (y:=1) (Nat.lt_of_le_of_lt (Nat.shiftRight_le x d) hx) yA,?_⟩;rw[NQ];cases x.testBit d<;>rfl
theorem shl_s {d:Nat}(hd:d<=62):IntKind.i64.wrap (2 ^ (min d IntKind.i64.bits))=((2 ^ d:Nat):Int):=by
 have h:=Mi hd;rw[Int.one_mul] at h
 simpa using h
end Go.aJ
namespace Go.Proofs.YtlkmbdfhdknlgaaGreat
open Go.Can Go.aJ List Tryz
theorem Jm (x d:Nat)(hx:x<2 ^ 63)(hd:d<=60):ae prog 12 [I x,I d] (.bool (decide (d<=8) && x.testBit d)):=by
 refine ae.aE ah Tryz.func12 rfl Ix (by simp[Tryz.ntmps12]) rfl λ C hC RR=>?_;rw[Tryz.ntmps12] at hC;obtain⟨y,z,b1,b2,b3⟩:=bit_s hx (d:=d) yA;have b0:¬ ((d:Int)<0):=by omega
 apply aq;simp[hC];by_cases h8:d<=8
 ·have h8':(d:Int)<=8:=by omega
  apply aq;simp[hC,h8',b0,b1,b2,b3];apply T.ret;apply aa.here;simp[Tryz.results12,h8]
 ·have h8':¬ (d:Int)<=8:=by omega
  apply aq;simp[hC,h8'];apply T.ret;apply aa.here;simp[Tryz.results12,h8]
def J80 (r:List Nat)(x:Nat)(m:Nat)(s:St):Prop:=∃ i a:Nat,m=r.length-i/\i<=r.length/\a<2 ^ 63/\a ||| Ij (r.drop i) x i=DQ r x/\s=⟨[(6,I i),(5,I a),(0,aB r),(1,I x)],[],0⟩
theorem Lv {r:List Nat}{i s:Nat}(h:r[i]? = some s)(x:Nat):Ij (r.drop i) x i=(if x.testBit i=true then s else 0) ||| Ij (r.drop (i+1)) x (i+1):=by
 have hl:=(List.getElem?_eq_some_iff.1 h).1;rw[drop_eq_getElem_cons hl];have:=(List.getElem?_eq_some_iff.1 h).2;rw[this,Ij]
theorem uc (r:List Nat)(x:Nat)(hl:r.length<=9)(hr:∀ s∈r,s<2 ^ 63)(hx:x<2 ^ 63):ae prog 40 [aB r,I x] (I (DQ r x)):=by
 have tr:=aK r;refine ae.aE ah Tryz.func40 rfl Ix (by simp[Tryz.ntmps40]) rfl λ C hC RR=>?_;rw[Tryz.ntmps40] at hC;apply aq;simp[hC];apply aq;simp[hC];apply aW;simp[hC];apply T.block;refine T.aH (J80 r x) (n:=r.length) ?_ ?_
 ·refine aa.trim [6,5,0,1] [] 0 (by simp[-all_eq_true,bP 0 _ (aM r)]) yA ⟨0,0,by omega,by omega,by omega,by simp[DQ],?_⟩;simp
 ·rintro n s ⟨i,a,rfl,hi,ha,Vu,rfl⟩;simp only[aB];by_cases Og:i<r.length
  ·obtain⟨b,hb⟩:∃ b,r[i]? = some b:=⟨_,getElem?_eq_getElem Og⟩;have Qd:=gX hb;have TO:=hr b (mem_of_getElem? hb);have R4:=Jm x i hx yA;have wi:=cF ((i:Int)+1) yA yA;have RW:=Lv hb x;have h8:i<=8:=by omega
   have Zk:=PI (x:=a) (y:=b) ha TO;have RQ:trees [I x,I i]=true:=rfl;apply aW;simp[hC,Og];refine gw ?_;simp;apply eN;apply aq;simp[hC];refine cX RQ R4 ?_;simp[h8]
   cases hbit:x.testBit i with
   | true=>
    refine T.cond (b:=true) Ta ?_;simp;apply aN;simp[hC,Og,Qd,Zk];apply aN;simp[hC,wi];refine⟨r.length-(i+1),by omega,aa.trim [6,5,0,1] [] 0 U2 yA ⟨i+1,a ||| b,rfl,by omega,Nat.or_lt_two_pow ha TO,?_,?_⟩⟩
    ·rw[<- Vu,RW,hbit,if_pos rfl,Nat.or_assoc]
    ·simp[aB]
   | false=>
    refine T.cond (b:=false) Ta (T.skip ?_);simp;apply aN;simp[hC,wi];refine⟨r.length-(i+1),by omega,aa.trim [6,5,0,1] [] 0 U2 yA ⟨i+1,a,rfl,by omega,ha,?_,?_⟩⟩
    ·rw[<- Vu,RW,hbit];simp
    ·simp[aB]
  ·have RU:i=r.length:=by omega
   subst RU;rw[drop_length,Ij,Nat.or_zero] at Vu;apply aW;simp[hC];refine a9 ?_;simp;apply T.exit;simp;apply aq;simp[hC];apply T.ret;apply aa.here;rw[Vu];simp[Tryz.results40]
theorem Pc {L i:Nat}(c:Int)(h:i<L+1):(vk L c)[i]? = some (if 0<=(i:Int)+c/\(i:Int)+c<=L then 2 ^ ((i:Int)+c).toNat else 0):=by
 simp[vk,getElem?_range h]
theorem pD (L:Nat)(c:Int):(vk L c).length=L+1:=by simp[vk]
def J148 (L:Nat)(c:Int)(m:Nat)(s:St):Prop:=∃ i:Nat,m=L+1-i/\i<=L+1/\s=⟨[(6,I i),(5,.bb 0 0 (L+1)),(0,I L),(1,I c)],[(0,⟨3,1,kM (vk L c) i⟩)],1⟩
theorem yW (L:Nat)(c:Int)(hL:L<=8)(h1 : -1<=c)(h2:c<=1):ae prog 83 [I L,I c] (aB (vk L c)):=by
 refine ae.aE ah Tryz.func83 rfl Ix (by simp[Tryz.ntmps83]) (aM _) λ C hC RR=>?_;rw[Tryz.ntmps83] at hC;have wL:=cF ((L:Int)+1) yA yA;have bd:0<=(L:Int)+1/\8*((L:Int)+1)<=281474976710656/\(L:Int)+1<=9223372036854775807:=by omega
 apply aq;simp[hC];apply aq;simp[hC,wL,bd];apply aW;simp[hC];apply T.block;refine T.aH (J148 L c) (n:=L+1) ?_ ?_
 ·refine aa.trim [6,5,0,1] [0] 1 U2 yA ⟨0,by omega,by omega,?_⟩;rw[uv,pD];simp
 ·rintro n s ⟨i,rfl,hi,rfl⟩;have SK:(kM (vk L c) i).length=L+1:=by rw[xE (by rw[pD];exact hi),pD]
  have Y4:=qI (vk L c) i;by_cases Og:i<L+1
  ·have hil':(i:Int)<=(L:Int):=by omega
   have wi:=cF ((i:Int)+1) yA yA;have wc:=cF ((i:Int)+c) yA yA;have TJ:=Pc c Og;apply aW;simp[hC,hil'];refine gw ?_;simp;apply eN;apply aq;simp[hC,wc];by_cases h0:0<=(i:Int)+c
   ·obtain⟨e,he⟩:∃ e:Nat,(i:Int)+c=e:=⟨((i:Int)+c).toNat,by omega⟩;rw[he] at TJ;simp only[he];by_cases hL2:(e:Int)<=(L:Int)
    ·have ZX:=shl_s (d:=e) yA;rw[if_pos ⟨by omega,hL2⟩,Int.toNat_natCast] at TJ;apply aq;simp[hC,hL2];refine dy ?_;simp;have b0:¬ ((e:Int)<0):=by omega
     have hiI:(i:Int)<(L:Int)+1:=by omega
     have UA:i<=L:=by omega
     apply aN;simp[hC,b0,ZX,UA,SK,hiI];apply aN;simp[hC,wi];refine⟨L+1-(i+1),by omega,aa.trim [6,5,0,1] [0] 1 yBt yA ⟨i+1,rfl,by omega,?_⟩⟩;rw[<- xD TJ];simp
    ·rw[if_neg yA] at TJ;apply aq;simp[hC,hL2];refine fX ?_;simp;apply aN;simp[hC,wi];refine⟨L+1-(i+1),by omega,aa.trim [6,5,0,1] [0] 1 yCy yA ⟨i+1,rfl,by omega,?_⟩⟩;rw[zB TJ];simp
   ·rw[if_neg yA] at TJ;apply aq;simp[hC,h0];refine fX ?_;simp;apply aN;simp[hC,wi];refine⟨L+1-(i+1),by omega,aa.trim [6,5,0,1] [0] 1 yCy yA ⟨i+1,rfl,by omega,?_⟩⟩;rw[zB TJ];simp
  ·have RU:i=L+1:=by omega
   subst RU;have WO:=xF (vk L c);rw[pD] at WO;have tF:=aK (vk L c);have U8:¬ ((L:Int)+1<=(L:Int)):=by omega
   rw[WO] at SK |-;apply aW;simp[hC,U8];refine a9 ?_;simp;apply T.exit;simp;apply aq;simp[hC];apply T.ret;refine aa.le (Le.dn (o:=0) rfl tF) ?_;apply aa.here;have R3:take (L+1) ((vk L c).map λ n:Nat=>I n)=(vk L c).map λ n:Nat=>I n:=take_of_length_le (by rw[length_map,pD];omega);simp[Tryz.results83,aB,pD,R3]
theorem pT (a b:List Nat):(xQ a b).length=a.length:=by simp[xQ]
theorem Qu {a b:List Nat}{i x:Nat}(h:a[i]? = some x):(xQ a b)[i]? = some (DQ b x):=by simp[xQ,h]
def J150 (a b:List Nat)(m:Nat)(s:St):Prop:=∃ i:Nat,m=a.length-i/\i<=a.length/\s=⟨[(6,I i),(5,.bb 0 0 a.length),(0,aB a),(1,aB b)],[(0,⟨3,1,kM (xQ a b) i⟩)],1⟩
theorem Jw (a b:List Nat)(la:a.length<=9)(lb:b.length<=9)(ha:∀ s∈a,s<2 ^ 63)(hb:∀ s∈b,s<2 ^ 63):ae prog 85 [aB a,aB b] (aB (xQ a b)):=by
 refine ae.aE ah Tryz.func85 rfl Ix (by simp[Tryz.ntmps85]) (aM _) λ C hC RR=>?_;rw[Tryz.ntmps85] at hC;have ta:=aK a;have tb:=aK b;have bd:8*(a.length:Int)<=281474976710656/\(a.length:Int)<=9223372036854775807:=by omega
 simp only[aB];apply aq;simp[hC];apply aq;simp[hC,bd];apply aW;simp[hC];apply T.block;refine T.aH (J150 a b) (n:=a.length) ?_ ?_
 ·refine aa.trim [6,5,0,1] [0] 1 U2 yA ⟨0,by omega,by omega,?_⟩;rw[uv,pT];simp[aB]
 ·rintro n s ⟨i,rfl,hi,rfl⟩;have SK:(kM (xQ a b) i).length=a.length:=by rw[xE (by rw[pT];exact hi),pT]
  have Y4:=qI (xQ a b) i;simp only[aB];by_cases Og:i<a.length
  ·obtain⟨x,hx⟩:∃ x,a[i]? = some x:=⟨_,getElem?_eq_getElem Og⟩;have Qd:=gX hx;have TJ:=Qu (b:=b) hx;have wi:=cF ((i:Int)+1) yA yA;have Vu:=uc b x lb hb (ha x (mem_of_getElem? hx));have RQ:trees [aB b,I x]=true:=by simp only[trees,aM,tree,Bool.and_self]
   simp only[aB] at Vu RQ;apply aW;simp[hC,Og];refine gw ?_;simp;apply eN;apply aN;simp[hC,Og,Qd];refine cX RQ Vu ?_;have hil1:i+1<=a.length:=Og;simp[hC,Og,hil1,SK];apply aN;simp[hC,wi];refine⟨a.length-(i+1),by omega,aa.trim [6,5,0,1] [0] 1 yBt yA ⟨i+1,rfl,by omega,?_⟩⟩;rw[<- xD TJ];simp[aB]
  ·have RU:i=a.length:=by omega
   subst RU;have WO:=xF (xQ a b);rw[pT] at WO;have tF:=aK (xQ a b);rw[WO] at SK |-;apply aW;simp[hC];refine a9 ?_;simp;apply T.exit;simp;apply aq;simp[hC];apply T.ret;refine aa.le (Le.dn (o:=0) rfl tF) ?_;apply aa.here;have R3:take a.length ((xQ a b).map λ n:Nat=>I n)=(xQ a b).map λ n:Nat=>I n:=take_of_length_le (by rw[length_map,pT];omega);simp[Tryz.results85,pT,R3]
theorem pw {a b:List Nat}(h:b.length=a.length):(oz a b).length=a.length:=by simp[oz,h]
theorem O5 {a b:List Nat}{i x y:Nat}(h1:a[i]? = some x)(h2:b[i]? = some y):(oz a b)[i]? = some (x ||| y):=by simp[oz,getElem?_zipWith,h1,h2]
def J151 (a b:List Nat)(m:Nat)(s:St):Prop:=∃ i:Nat,m=a.length-i/\i<=a.length/\s=⟨[(6,I i),(5,.bb 0 0 a.length),(0,aB a),(1,aB b)],[(0,⟨3,1,kM (oz a b) i⟩)],1⟩
theorem FM (a b:List Nat)(la:a.length<=1000)(lb:b.length=a.length)(ha:∀ s∈a,s<2 ^ 63)(hb:∀ s∈b,s<2 ^ 63):ae prog 87 [aB a,aB b] (aB (oz a b)):=by
 refine ae.aE ah Tryz.func87 rfl Ix (by simp[Tryz.ntmps87]) (aM _) λ C hC RR=>?_;rw[Tryz.ntmps87] at hC;have ta:=aK a;have tb:=aK b;have bd:8*(a.length:Int)<=281474976710656/\(a.length:Int)<=9223372036854775807:=by omega
 simp only[aB];apply aq;simp[hC];apply aq;simp[hC,bd];apply aW;simp[hC];apply T.block;refine T.aH (J151 a b) (n:=a.length) ?_ ?_
 ·refine aa.trim [6,5,0,1] [0] 1 U2 yA ⟨0,by omega,by omega,?_⟩;rw[uv,pw lb];simp[aB]
 ·rintro n s ⟨i,rfl,hi,rfl⟩;have SK:(kM (oz a b) i).length=a.length:=by rw[xE (by rw[pw lb];exact hi),pw lb]
  have Y4:=qI (oz a b) i;simp only[aB];by_cases Og:i<a.length
  ·obtain⟨x,hx⟩:∃ x,a[i]? = some x:=⟨_,getElem?_eq_getElem Og⟩;have hilb:i<b.length:=by omega
   obtain⟨y,hy⟩:∃ y,b[i]? = some y:=⟨_,getElem?_eq_getElem hilb⟩;have Qd:=gX hx;have Tt:=gX hy;have TJ:=O5 hx hy;have wi:=cF ((i:Int)+1) yA yA;have Zk:=PI (ha x (mem_of_getElem? hx)) (hb y (mem_of_getElem? hy));have hil1:i+1<=a.length:=Og;apply aW;simp[hC,Og];refine gw ?_;simp;apply eN;refine T.rx ah follows [0,1,2,3,4,5,6,7,8,9,10,11,12] [] Ix ?_;simp[hC,Og,hilb,Qd,Tt,Zk,hil1,SK];apply aN;simp[hC,wi];refine⟨a.length-(i+1),by omega,aa.trim [6,5,0,1] [0] 1 yBt yA ⟨i+1,rfl,by omega,?_⟩⟩;rw[<- xD TJ];simp[aB]
  ·have RU:i=a.length:=by omega
   subst RU;have WO:=xF (oz a b);rw[pw lb] at WO;have tF:=aK (oz a b);rw[WO] at SK |-;apply aW;simp[hC];refine a9 ?_;simp;apply T.exit;simp;apply aq;simp[hC];apply T.ret;refine aa.le (Le.dn (o:=0) rfl tF) ?_;apply aa.here;have R3:take a.length ((oz a b).map λ n:Nat=>I n)=(oz a b).map λ n:Nat=>I n:=take_of_length_le (by rw[length_map,pw lb];omega);simp[Tryz.results87,pw lb,R3]
set_option maxHeartbeats 2000000 in
theorem Eh {u:Un}(hu:fV u){x:Is}(hx:sX u x){k:Nat}{z:In}(hz:(ay u x)[k]? = some z)(m:Nat):ae prog 120 [cg u,.agg (dV x),I k,I m] (I (eT x m z)):=by
 obtain⟨pq,Tw,RZ,Wz,TV⟩:=xP hu hx hz;rw[RZ] at hz;have SR:=(List.getElem?_eq_some_iff.1 Tw).1;have R8:=(List.getElem?_eq_some_iff.1 hz).1;have Qd:=b9 (f:=mW) (n:=5) iC Tw 4 yA;have Ud:=aI (f:=cW) (n:=12) gB hz;have V5:=xw z;have ZK:=fK z;have R6:=bj u;simp only[cR,ints] at R6;obtain⟨xc,UT,WU⟩:=oW z;obtain⟨c1,c2,c3,c4,c5,c6,c7,c8,c9,c10,c11,rfl⟩:=Kf WU;rw[UT] at Ud V5 ZK;simp only[all_cons,all_nil,Bool.and_true,Bool.and_eq_true] at V5;obtain⟨_,o1,o2,o3,o4,o5,o6,o7,o8,o9,o10,o11⟩:=V5;refine ae.aE ah Tryz.func120 rfl Ix (by simp[Tryz.ntmps120]) rfl λ C hC RR=>?_;rw[Tryz.ntmps120] at hC;simp only[cg,cR,dV,ints];apply aq;simp[hC];apply aq;simp[hC,SR,Qd,mW,R8,Ud];apply eN;by_cases WG:∃ un p,z=.lock un p
 ·obtain⟨un,p,rfl⟩:=WG;have hp:gW p=[c7,c8,c9]:=by
   have h:=congrArg (λ l=>(l.drop 7).take 3) UT
   simpa [cW,bf,gW] using h
  have T0:vW u.ms u.gs.length pq.locals pq.bp p:=TV;have hq:p.param=true->p.index<x.bp.length:=λ h=>by
   rw[Wz];rcases T0 with h6 | h6
   ·exact h6.2.1
   ·rw[h] at h6;cases h6.1
  have UW:=yX x p hq;rw[hp] at UW;have h2:trees [c7,c8,c9]=true:=by rw[<- hp];exact cY p
  have tp:trees [.agg (dV x),.agg [c7,c8,c9]]=true:=by
   rw[show trees [.agg (dV x),.agg [c7,c8,c9]]=(trees (dV x) && (trees [c7,c8,c9] && true)) from rfl,ca,h2];rfl
  simp only[dV] at UW tp
  cases un with
  | false=>
   have R5:qX (.lock false p)=4:=rfl;rw[R5];apply aq;simp[hC];refine TL.cM RT rfl rfl rfl rfl (bU.of rfl tp UW) (TL.go' ah ?_);by_cases SS:iV x p=m
   ·have hc:eT x m (.lock false p)=1:=by simp[eT,SS]
    rw[hc];simp[hC,SS];refine dy ?_;simp;apply aq;simp[hC];apply T.ret;apply aa.here;simp[Tryz.results120]
   ·have hc:eT x m (.lock false p)=0:=by simp[eT,SS]
    have Xe:¬ ((iV x p:Int)=(m:Int)):=by omega
    rw[hc];simp[hC];refine T.cond (b:=false) (by simp[ev,assoc,SS]) ?_;simp;apply aq;simp[hC];refine fX ?_;simp;apply aq;simp[hC];apply T.ret;apply aa.here;simp[Tryz.results120]
  | true=>
   have R5:qX (.lock true p)=5:=rfl;rw[R5];apply aq;simp[hC];refine a9 ?_;simp;apply aq;simp[hC];refine TL.cM RT rfl rfl rfl rfl (bU.of rfl tp UW) (TL.go' ah ?_);by_cases SS:iV x p=m
   ·have hc:eT x m (.lock true p)=-1:=by simp[eT,SS]
    rw[hc];simp[hC,SS];refine dy ?_;simp;apply aq;simp[hC];apply T.ret;apply aa.here;simp[Tryz.results120]
   ·have hc:eT x m (.lock true p)=0:=by simp[eT,SS]
    rw[hc];simp[hC];refine T.cond (b:=false) (by simp[ev,assoc,SS]) (T.skip ?_);simp;apply aq;simp[hC];apply T.ret;apply aa.here;simp[Tryz.results120]
 ·have Tn:(((qX z:Int) == 4)=false/\((qX z:Int) == 5)=false)/\eT x m z=0:=by
   cases z with
   | lock un p=>exact (WG ⟨un,p,rfl⟩).elim
   | call g t l ps=>cases g<;>exact⟨⟨rfl,rfl⟩,rfl⟩
   | _=>exact⟨⟨rfl,rfl⟩,rfl⟩
  obtain⟨⟨h4,h5⟩,hc⟩:=Tn;rw[hc];apply aq;simp[hC,h4];refine a9 ?_;simp;apply aq;simp[hC,h5];refine fX ?_;simp;apply aq;simp[hC];apply T.ret;apply aa.here;simp[Tryz.results120]
theorem GK (x:Is)(m:Nat)(z:In) : -1<=eT x m z/\eT x m z<=1:=by
 unfold eT;split
 ·split
  ·split<;>omega
  ·omega
 ·omega
theorem lI (x:Mx):aF x<=8:=by unfold aF;split<;>omega
theorem AI (x:Mx):(cH x).length=3:=rfl
theorem Mn {u:Un}(hu:fV u){x:Is}(hx:sX u x){k:Nat}{z:In}(hz:(ay u x)[k]? = some z){m:Nat}{xm:Mx}(hm:u.ms[m]? = some xm):ae prog 84 [cg u,.agg (dV x),I k,I m] (aB (vk (aF xm) (eT x m z))):=by
 have WL:=Eh hu hx hz m;have Ul:=vI xm;have ZX:=yW (aF xm) (eT x m z) (lI xm) (GK x m z).1 (GK x m z).2;have Tb:=(List.getElem?_eq_some_iff.1 hm).1;have T1:=aI (f:=cH) (n:=3) AI hm;have R6:=bj u;have ti:=ca x;have t1:trees [.agg (cH xm)]=true:=rfl;have t2:trees [cg u,.agg (dV x),I k,I m]=true:=by simp only[trees,tree,cg,R6,ti,Bool.and_self]
 have t3:trees [I (aF xm),I (eT x m z)]=true:=rfl;refine ae.aE ah Tryz.func84 rfl Ix (by simp[Tryz.ntmps84]) (aM _) λ C hC RR=>?_;rw[Tryz.ntmps84] at hC;simp only[cg,cR,dV,ints] at WL t2 |-;apply aq;simp[hC];refine T.seq (T.rx ah follows [0,1,2,3,4,6,7,8,9,5,10,11,12] [(6,5),(7,5)] Ix ?_);simp[hC,Tb,T1,cH];simp only[cH] at Ul t1;refine RX.call rfl rfl rfl rfl rfl t1 Ul ?_;simp;refine RX.call rfl rfl rfl rfl rfl t2 WL ?_;simp;refine RX.call rfl rfl rfl rfl rfl t3 ZX ?_;simp;apply T.ret;apply aa.here;simp[Tryz.results84]
theorem IL (g p:Nat):gF [p] g=if g=p then [g] else [min g p,max g p]:=by
 unfold gF cJ;by_cases h:g=p
 ·simp[h]
 ·rw[if_neg h];by_cases h2:p<g
  ·simp[h,h2];omega
  ·simp[h,h2];omega
theorem Jl {u:Un}(hu:fV u){x:Is}(hx:sX u x){k:Nat}{z:In}(hz:(ay u x)[k]? = some z)(hk:k<=1000000):ae prog 86 [cg u,.agg (dV x),I k] (aB (gG z k)):=by
 obtain⟨pq,Tw,RZ,Wz,TV⟩:=xP hu hx hz;rw[RZ] at hz;have SR:=(List.getElem?_eq_some_iff.1 Tw).1;have R8:=(List.getElem?_eq_some_iff.1 hz).1;have Qd:=b9 (f:=mW) (n:=5) iC Tw 4 yA;have Ud:=aI (f:=cW) (n:=12) gB hz;have V5:=xw z;have ZK:=fK z;have R6:=bj u;have wk:=cF ((k:Int)+1) yA yA;simp only[cR,ints] at R6;obtain⟨xc,UT,WU⟩:=oW z;obtain⟨c1,c2,c3,c4,c5,c6,c7,c8,c9,c10,c11,rfl⟩:=Kf WU;rw[UT] at Ud V5 ZK;simp only[all_cons,all_nil,Bool.and_true,Bool.and_eq_true] at V5;obtain⟨_,o1,o2,o3,o4,o5,o6,o7,o8,o9,o10,o11⟩:=V5;refine ae.aE ah Tryz.func86 rfl Ix (by simp[Tryz.ntmps86]) (aM _) λ C hC RR=>?_;rw[Tryz.ntmps86] at hC;simp only[cg,cR,dV,ints];apply aq;simp[hC];apply aq;simp[hC,SR,Qd,mW,R8,Ud];apply aW;simp[hC];apply T.block
 cases z with
 | ret=>
  have R5:qX In.ret=8:=rfl;rw[R5];apply aq;simp[hC];refine dy ?_;simp;apply aq;simp[hC];apply T.ret;simp;refine aa.le (Le.trim [6] [] 0 xr yA) ?_;simp;refine aa.le (Le.nz [6] []) ?_;apply aa.here;simp[gG,aB]
 | jump g=>
  have R5:qX (In.jump g)=7:=rfl;have V0:c1=I g:=by
   have h:=congrArg (λ l=>l.drop 1) UT;simp[cW] at h;exact h.1.symm
  subst V0;rw[R5];apply aq;simp[hC];refine a9 ?_;simp;apply aq;simp[hC];refine dy ?_;simp;apply aq;simp[hC];apply T.ret;simp;refine aa.le (Le.trim [6] [3] 4 xr yA) ?_;simp;refine aa.le (Le.dn (o:=3) rfl rfl) ?_;apply aa.here;simp[gG,aB]
 | branch g e=>
  have R5:qX (In.branch g e)=6:=rfl;have V0:c1=I g:=by
   have h:=congrArg (λ l=>l.drop 1) UT;simp[cW] at h;exact h.1.symm
  subst V0;have hw:=BZ [k+1] g xr;have Te:gG (In.branch g e) k=gF [k+1] g:=by rw[IL];rfl
  have RQ:trees [aB [k+1],I g]=true:=rfl;rw[Te,R5];apply aq;simp[hC];refine a9 ?_;simp;apply aq;simp[hC];refine a9 ?_;simp;apply aq;simp[hC];refine dy ?_;simp;apply aq;simp[hC,wk];refine TL.le (Le.dn (o:=3) rfl rfl) ?_;simp;refine cX RQ hw ?_;simp[hC];apply T.ret;simp;refine aa.le (Le.trim [6] [] 0 (by simp[aB]) yA) ?_;simp;apply aa.here;simp
 | set t gl e=>
  rw[show qX (In.set t gl e)=1 from rfl];apply aq;simp[hC];refine a9 ?_;simp;apply aq;simp[hC];refine a9 ?_;simp;apply aq;simp[hC];refine fX ?_;simp;apply aq;simp[hC,wk];apply T.ret;refine aa.le (Le.trim [6] [3] 4 xr yA) ?_;simp;refine aa.le (Le.dn (o:=3) rfl rfl) ?_;apply aa.here;simp[gG,aB]
 | call g t l ps=>
  cases g with
  | true=>
   rw[show qX (In.call true t l ps)=3 from rfl];apply aq;simp[hC];refine a9 ?_;simp;apply aq;simp[hC];refine a9 ?_;simp;apply aq;simp[hC];refine fX ?_;simp;apply aq;simp[hC,wk];apply T.ret;refine aa.le (Le.trim [6] [3] 4 xr yA) ?_;simp;refine aa.le (Le.dn (o:=3) rfl rfl) ?_;apply aa.here;simp[gG,aB]
  | false=>
   rw[show qX (In.call false t l ps)=2 from rfl];apply aq;simp[hC];refine a9 ?_;simp;apply aq;simp[hC];refine a9 ?_;simp;apply aq;simp[hC];refine fX ?_;simp;apply aq;simp[hC,wk];apply T.ret;refine aa.le (Le.trim [6] [3] 4 xr yA) ?_;simp;refine aa.le (Le.dn (o:=3) rfl rfl) ?_;apply aa.here;simp[gG,aB]
 | lock un p=>
  cases un with
  | true=>
   rw[show qX (In.lock true p)=5 from rfl];apply aq;simp[hC];refine a9 ?_;simp;apply aq;simp[hC];refine a9 ?_;simp;apply aq;simp[hC];refine fX ?_;simp;apply aq;simp[hC,wk];apply T.ret;refine aa.le (Le.trim [6] [3] 4 xr yA) ?_;simp;refine aa.le (Le.dn (o:=3) rfl rfl) ?_;apply aa.here;simp[gG,aB]
  | false=>
   rw[show qX (In.lock false p)=4 from rfl];apply aq;simp[hC];refine a9 ?_;simp;apply aq;simp[hC];refine a9 ?_;simp;apply aq;simp[hC];refine fX ?_;simp;apply aq;simp[hC,wk];apply T.ret;refine aa.le (Le.trim [6] [3] 4 xr yA) ?_;simp;refine aa.le (Le.dn (o:=3) rfl rfl) ?_;apply aa.here;simp[gG,aB]
end Go.Proofs.YtlkmbdfhdknlgaaGreat
