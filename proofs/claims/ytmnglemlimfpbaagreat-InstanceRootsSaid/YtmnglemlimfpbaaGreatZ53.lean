/- The sanity check of the laws of instances is always true. | The law InstanceClose. | Arguments as the contracts read them. No function of the program is mentioned here. | The law InstanceRoots. | The law InstanceClosed. -/
import Derived.Test.YtmnglemlimfpbaaGreatZ48
import Derived.Test.YtmnglemlimfpbaaGreatZ49
import Derived.Test.YtmnglemlimfpbaaGreatZ52
import Derived.Test.YtmnglemlimfpbaaGreatZ07
import Derived.Test.YtmnglemlimfpbaaGreatRows
import Derived.ProofKit
import Derived.Deep.Matrix
import Derived.Deep.Fields
import Derived.Test.YtmnglemlimfpbaaGreatZ14
namespace Go.Proofs.YtmnglemlimfpbaaGreat
open Go.Can Go.bg
def yY:Un:=⟨[],[⟨⟨#[97]⟩,false,0⟩,⟨⟨#[98]⟩,false,0⟩],[⟨⟨#[109,97,105,110]⟩,0,0,0,[.call false 1 [] [⟨false,0,none⟩],.call true 1 [] [⟨false,1,none⟩],.ret]⟩,⟨⟨#[102]⟩,0,1,0,[.lock false ⟨true,0,none⟩,.ret]⟩],0⟩
theorem Fe:ox yY:=by
 refine⟨by decide,by decide,by decide,(fun g hg=>by cases hg),?_,rfl,?_,?_,?_⟩
 ·intro m hm
  simp only[yY,List.mem_cons,List.not_mem_nil,or_false] at hm
  rcases hm with rfl | rfl<;>simp
 ·intro q hq
  simp only[yY,List.getElem?_cons_zero,Option.some.injEq] at hq
  subst hq
  simp
 ·intro q hq
  simp only[yY,List.mem_cons,List.not_mem_nil,or_false] at hq
  rcases hq with rfl | rfl<;>simp
 ·intro q hq
  simp only[yY,List.mem_cons,List.not_mem_nil,or_false] at hq
  rcases hq with rfl | rfl
  ·refine⟨⟨[.call false 1 [] [⟨false,0,none⟩],.call true 1 [] [⟨false,1,none⟩]],rfl⟩,fun i hi=>?_⟩
   simp only[List.mem_cons,List.not_mem_nil,or_false] at hi
   rcases hi with rfl | rfl | rfl
   ·exact⟨rfl,(fun e he=>by cases he),fun p hp=>by rw[List.mem_singleton.1 hp];exact .inr ⟨rfl,_,rfl,.inl ⟨rfl,rfl⟩⟩⟩
   ·exact⟨rfl,(fun e he=>by cases he),fun p hp=>by rw[List.mem_singleton.1 hp];exact .inr ⟨rfl,_,rfl,.inl ⟨rfl,rfl⟩⟩⟩
   ·trivial
  ·refine⟨⟨[.lock false ⟨true,0,none⟩],rfl⟩,fun i hi=>?_⟩
   simp only[List.mem_cons,List.not_mem_nil,or_false] at hi
   rcases hi with rfl | rfl
   ·exact .inl ⟨rfl,by decide,rfl⟩
   ·trivial
theorem GR:ah Tryz.prog 52 CT (gq yY):=by
 have h:=HE.lU
 have e:lU CP=gq yY:=by rfl
 rwa [e] at h
theorem Fc:gE yY=⟨[⟨0,[]⟩,⟨1,[0]⟩,⟨1,[1]⟩],[[1,2,-1],[-1,-1],[-1,-1]],[0,2]⟩:=by kernel_rfl
theorem yM:ah Tryz.prog 24 [] (.bool true):=by
 have hcl:=mT yY Fe
 obtain⟨hI,hpos⟩:=kR Fe
 have hsi:=u0 yY Fe (gE yY) hI
 have hs7:dv yY (gE yY).is=7:=by rw[Fc];rfl
 rw[hs7] at hsi
 rw[Fc] at hcl hsi
 have hfi:=sJ [⟨0,[]⟩,⟨1,[0]⟩,⟨1,[1]⟩] (by simp) (by
  intro x hx
  simp only[List.mem_cons,List.not_mem_nil,or_false] at hx
  rcases hx with rfl | rfl | rfl<;>simp[nw]) (.ax ([[1,2,-1],[-1,-1],[-1,-1]].map ints) 3) (aZ [0,2]) rfl (aN _) 1 [1] (by decide) (by simp[nw])
 have hfr:gN [⟨0,[]⟩,⟨1,[0]⟩,⟨1,[1]⟩] 1 [1] 0=2:=by decide
 rw[hfr] at hfi
 have hsm:=e9 [0,2] [0,2] (by simp)
 rw[decide_eq_true rfl] at hsm
 have huni:=GR
 have tun:=dD yY
 have tisA:=ay aO [⟨0,[]⟩,⟨1,[0]⟩,⟨1,[1]⟩]
 have tcsA:=eg [[1,2,-1],[-1,-1],[-1,-1]]
 have huL:∃ a b c d,de yY=[a,b,c,d]:=⟨_,_,_,_,rfl⟩
 obtain⟨ua,ub,uc,ud,huL⟩:=huL
 rw[huL] at tun
 have tun2:=tun
 simp only[trees,Bool.and_true,Bool.and_eq_true] at tun2
 obtain⟨ta,tb,tc,td⟩:=tun2
 have targ1:trees [gq yY]=true:=by simp only[trees,tree,gq,huL,ta,tb,tc,td,Bool.and_self]
 refine ah.bl aa Tryz.func24 rfl (by kernel_rfl) (by simp[Tryz.ntmps24]) rfl fun C hC hC0=>?_
 rw[Tryz.ntmps24] at hC
 refine T.seq (T.go' aa ?_)
 simp[hC]
 refine T.seq (T.go' aa ?_)
 simp
 refine TL.call (by simp[hC]) rfl rfl (aI.of rfl rfl huni) (TL.go' aa ?_)
 simp only[gq,huL] at hcl hsi targ1 ⊢
 simp[hC]
 refine T.seq (T.go' aa ?_)
 simp[hC]
 refine TL.call (by simp[hC]) rfl rfl (aI.of rfl targ1 hcl) (TL.go' aa ?_)
 simp[hC,mv,iL]
 refine T.seq (T.go' aa ?_)
 simp[hC]
 refine TL.le (Le.eM (o:=2) rfl rfl) ?_
 simp[aZ,fK _ _ _ _ ta,fK _ _ _ _ tb,fK _ _ _ _ tc,fK _ _ _ _ td]
 refine TL.bT (by simp[hC]) rfl rfl rfl rfl (aI.of rfl rfl hsm) (TL.go' aa ?_)
 simp[hC]
 refine TL.le (Le.eM (o:=3) rfl rfl) ?_
 simp[fK _ _ _ _ ta,fK _ _ _ _ tb,fK _ _ _ _ tc,fK _ _ _ _ td]
 have targ2:trees [.agg [ua,ub,uc,ud],mv ⟨[⟨0,[]⟩,⟨1,[0]⟩,⟨1,[1]⟩],[[1,2,-1],[-1,-1],[-1,-1]],[0,2]⟩]=true:=by
  simp only[trees,tree,mv,iL,ta,tb,tc,td,aN,Bool.and_self]
 refine TL.bT (by simp[hC]) rfl rfl rfl rfl (aI.of rfl rfl hfi) (TL.go' aa ?_)
 simp[hC]
 refine TL.bT (by simp[hC]) rfl rfl rfl rfl (aI.of rfl targ2 hsi) (TL.go' aa ?_)
 simp[hC]
 refine T.ret ?_
 refine ae.here ?_
 simp[Tryz.results24]
end Go.Proofs.YtmnglemlimfpbaaGreat
namespace Go.bg
open Go.Can
theorem Br (l:List Nat)(n:Nat):(dM l n).length≤l.length+1:=by
 unfold dM
 split
 ·omega
 ·simp;omega
theorem zj (x:Is):∀ (c:List In) (l:List Is) (r:List Nat),(fM x c l r).2.2.length≤r.length+c.length
 | [],_,_=>by simp[fM]
 | i::c,l,r=>by
  cases h:eT x i with
  | none=>
   have:=zj x c l r
   simp only[fM,h,List.length_cons]
   omega
  | some y=>
   have:=zj x c (cK l y) (if gx i=true then dM r (cM (cK l y) y) else r)
   have h2:(if gx i=true then dM r (cM (cK l y) y) else r).length≤r.length+1:=by
    split
    ·exact Br _ _
    ·omega
   simp only[fM,h,List.length_cons]
   omega
theorem Bi {u:Un}(hu:ox u):∀ (f i:Nat) (l:List Is) (cs:List (List Int)) (r:List Nat),(km u f i l cs r).roots.length≤r.length+145*f
 | 0,_,_,_,_=>by simp[km]
 | f+1,i,l,cs,r=>by
  simp only[km]
  split
  ·simp
  ·rename_i x _
   have h1:=Bi hu f (i+1) (fM x (aM u x) l r).1 (cs++[(fM x (aM u x) l r).2.1]) (fM x (aM u x) l r).2.2
   have h2:=zj x (aM u x) l r
   have h3:=kQ hu x
   omega
theorem Bh {u:Un}(hu:ox u):(gE u).roots.length≤14501:=Bi hu 100 0 _ _ _
end Go.bg
namespace Go.Proofs.YtmnglemlimfpbaaGreat
open Go.Can Go.bg
theorem c5_ok (l:List Int)(hl:l.length≤9223372036854775807):ah Tryz.prog 5 [ints l] (.bool true):=by
 have hun:=oz l hl
 have huv:=kG l
 generalize iT (ss l)=u at hun huv
 obtain⟨hI,hpos⟩:=kR huv
 have hlen:=dG huv hI.nd hI.v
 have hcl:=mT u huv
 have hci:=wK huv
 have hsa:=u0 u huv (gE u) hI
 have hsb:=BH u huv (gE u) hI
 have hrl:=Bh huv
 generalize gE u=c at hun hI hpos hlen hcl hci hsa hsb hrl
 have hsame:=FX c (by omega) (by have:=hci.len;omega) (fun d hd=>by
  obtain⟨j,hj⟩:=List.getElem?_of_mem hd
  have hjl:j<c.is.length:=by have:=(List.getElem?_eq_some_iff.1 hj).1;have:=hci.len;omega
  obtain⟨x,hx⟩:∃ x,c.is[j]? = some x:=⟨_,List.getElem?_eq_getElem hjl⟩
  have h2:=hci.row j x hjl hx
  rw[hj,Option.some.injEq] at h2
  have:=kQ huv x
  rw[h2]
  simp only[j0,List.length_map]
  omega) (by omega) (fun x hx=>by have:=oV huv (hI.v x hx);omega)
 have tun:=dD u
 have tis:=ay aO c.is
 have tcs:=eg c.calls
 have trs:=aN c.roots
 generalize ss l=p at hun
 have tl:trees [ints l]=true:=by simp[ints,trees,tree]
 have ta1:trees [gq u]=true:=by simp only[trees,tree,gq,tun,Bool.and_self]
 have ta2:trees [mv c,mv c]=true:=by simp only[trees,tree,mv,iL,trs,Bool.and_self]
 have ta3:trees [gq u,mv c]=true:=by simp only[trees,tree,gq,tun,mv,iL,trs,Bool.and_self]
 simp only[gq,de,ints] at hcl ta1 hsa hsb ta3
 simp only[mv,iL] at hcl hsa hsb hsame ta2 ta3
 refine ah.bl aa Tryz.func5 rfl (by kernel_rfl) (by simp[Tryz.ntmps5]) rfl fun C hC hC0=>?_
 rw[Tryz.ntmps5] at hC
 refine T.seq (T.go' aa ?_)
 simp[hC]
 refine T.seq (T.go' aa ?_)
 simp[hC]
 refine TL.call (by simp[hC]) rfl rfl (aI.of rfl tl hun) (TL.go' aa ?_)
 simp only[qX,dq,gq,de,mv,iL,ints]
 simp[hC]
 refine T.seq (T.go' aa ?_)
 simp[hC]
 refine TL.call (by simp[hC]) rfl rfl (aI.of rfl ta1 hcl) (TL.go' aa ?_)
 simp[hC]
 refine T.seq (T.rx aa follows [0,1,2,3,4,5,6,7,8,9,11,12,10,13,14,15,16,17,18,19] [(11,10),(12,10)] (by kernel_rfl) ?_)
 simp[hC]
 refine RX.call rfl rfl rfl rfl rfl ta2 hsame ?_
 simp
 refine RX.call rfl rfl rfl rfl rfl ta3 hsa ?_
 simp
 refine RX.call rfl rfl rfl rfl rfl ta3 hsb ?_
 simp
 refine RX.call rfl rfl rfl rfl rfl rfl yM ?_
 simp
 refine T.ret ?_
 refine ae.here ?_
 simp[Tryz.results5]
end Go.Proofs.YtmnglemlimfpbaaGreat
namespace Go.Can
open Go.ChangeShapes Go.WideShapes Go.ChangeAt Go.RowKit
section
variable {P:Program}{H:Type}{enc:TypeId×Value→H}{w:World}
theorem zB {F:Nat→Prop}(hF:∀ b,¬ F b):∀ (cs:List CV) (ad:Addr),cs.all one=true→(∀ i c,cs[i]? = some c→∃ u,w.cell? (ad.add i)=some u∧bM w F c u)→eX w F cs ad
 | [],_,_,_=>by simp[eX]
 | c::cs,ad,h1,h=>by
  simp only[List.all_cons,Bool.and_eq_true] at h1
  obtain⟨u,k1,k2⟩:=h 0 c rfl
  rw[add_zero] at k1
  simp only[eX]
  refine⟨⟨u,k1,hF _,k2⟩,h1.1,zB hF cs _ h1.2 fun i d hi=>?_⟩
  obtain⟨v,m1,m2⟩:=h (i+1) d (by simpa using hi)
  refine⟨v,?_,m2⟩
  rw[add_add,Nat.add_comm];exact m1
theorem Ay {α:Type}(f:α→CV)(h:∀ x,one (f x)=true)(l:List α):(l.map f).all one=true:=by
 rw[List.all_eq_true];intro x hx;obtain⟨y,_,rfl⟩:=List.mem_map.1 hx;exact h y
theorem yS {F:Nat→Prop}(cs:List CV)(h:cs=[]):bM w F (.ax cs 0) (.slice none 0 0):=by
 subst h
 simp only[bM]
 exact⟨none,0,rfl,Nat.le_refl _,Nat.zero_le _,.inl ⟨trivial,by simp⟩⟩
theorem fJ {F:Nat→Prop}(hF:∀ b,¬ F b){t e:TypeId}{r:Reach}{b0:Nat}{v:Value}{d:DataW H}{ps:List MemPlace}(ht:P.underlying t=some (.slice e))(he:P.underlying e=some (.int .i64))(hc:P.cellsOf e=1)
  (hval:Value.okWide P w r b0 t v) (h:DataW.Trod enc P w 0 (fun _=>true) true t v d ps):∃ l:List Int,bM w F (ints l) v∧l.length≤9223372036854775807:=by
 obtain⟨a,n,cap,rfl⟩:=okWide_slice ht hval
 obtain⟨fuel,hf⟩:=h
 rcases open_ints ht he hc hf with ⟨hcs,_⟩ | ⟨a',len,cap',zs,hcs,_,hl,hm,hz,_,hcell,_⟩
 ·simp[Value.cells] at hcs
  obtain⟨rfl,rfl,rfl⟩:=hcs
  exact⟨[],yS _ rfl,by simp⟩
 ·simp[Value.cells] at hcs
  obtain⟨rfl,rfl,rfl⟩:=hcs
  simp only[if_true] at hz
  have hlen:(zs.take n).length=n:=by simp;omega
  refine⟨zs.take n,?_,by rw[hlen];simp only[maxLen] at hm;omega⟩
  unfold ints
  rw[hlen]
  simp only[bM]
  refine⟨_,cap,rfl,hl,hm,.inr ⟨a',rfl,zB hF _ _ (Ay _ (fun _=>rfl) _) fun i c hi=>?_⟩⟩
  rw[List.getElem?_map] at hi
  obtain⟨z,hz1,rfl⟩:=Option.map_eq_some_iff.1 hi
  rw[List.getElem?_take] at hz1
  split at hz1
  ·rename_i hin
   have hlt:i<zs.length:=by omega
   refine⟨_,hcell i hlt,?_⟩
   have:zs.getD i 0=z:=by simp[List.getD,hz1]
   rw[this]
   simp[bM]
  ·cases hz1
theorem ah.calls {f:FuncId}{args:List CV}{b:Bool}(h:ah P f args (.bool b)){vs:List Value}(hv:bx w (fun _=>False) args vs):Calls P f vs.toArray w fun e w'=>e=.returned (.bool b)∧Below w.heap.size w w':=
 (h.2 (fun _=>False) vs w (fun _ hb=>hb.elim) hv).mono fun e w' ⟨v,h1,h2,h3⟩=>by
  simp only[bM] at h3
  subst h3
  exact⟨h1,h2⟩
end
end Go.Can
/- Arguments as the contracts read them: a slice of structs of four integers. No function of the program is mentioned here. -/
namespace Go.bg
open Go.Can
def fU:Nat→(Nat→Bool)→Bool
 | 0,_=>false
 | k+1,f=>fU k f || f k
theorem mF (f:Nat→Bool):∀ k,fU k f=true↔∃ j,j<k∧f j=true
 | 0=>by simp[fU]
 | k+1=>by
  rw[fU,Bool.or_eq_true,mF f k]
  constructor
  ·rintro (⟨j,h1,h2⟩ | h)
   ·exact⟨j,by omega,h2⟩
   ·exact⟨k,by omega,h⟩
  ·rintro⟨j,h1,h2⟩
   by_cases e:j=k
   ·subst e;exact .inr h2
   ·exact .inl ⟨j,by omega,h2⟩
def FD (r:List Nat)(n:Nat)(j:Nat):Bool:=((r.getD j 0:Nat):Int) == (n:Int)
def EE (c:List In)(d:List Int)(n:Nat)(q:Nat):Bool:=tZ (c.getD q .ret) == 3 && d.getD q 0 == (n:Int)
def FE (u:Un)(l:List Is)(cs:List (List Int))(n:Nat)(j:Nat):Bool:=match l[j]? with
 | some x=>fU (aM u x).length (EE (aM u x) (cs.getD j []) n)
 | none=>false
theorem opI_3 {i:In}(h:(tZ i == 3)=true):gx i=true:=by
 cases i with
 | call g t l ps=>cases g<;>first | rfl | simp[tZ] at h
 | lock u _=>cases u<;>simp[tZ] at h
 | _=>simp[tZ] at h
theorem Ix {i:In}(h:gx i=true):(tZ i == 3)=true:=by
 cases i with
 | call g t l ps=>cases g<;>first | rfl | simp[gx] at h
 | _=>simp[gx] at h
theorem Ec {i:In}(h:gx i=true)(x:Is):∃ y,eT x i=some y:=by
 cases i with
 | call g t l ps=>exact⟨_,rfl⟩
 | _=>simp[gx] at h
theorem BI {u:Un}{l:List Is}{cs:List (List Int)}{r:List Nat}(h:CI u l.length l cs r)(n:Nat) :
  fU r.length (FD r n)=(decide (n=0) || fU l.length (FE u l cs n)):=by
 rw[Bool.eq_iff_iff,Bool.or_eq_true,mF,mF,decide_eq_true_eq]
 have h1:(∃ j,j<r.length∧FD r n j=true)↔n∈r:=by
  constructor
  ·rintro⟨j,hj,hf⟩
   simp only[FD,List.getD_eq_getElem?_getD,List.getElem?_eq_getElem hj,Option.getD_some,beq_iff_eq] at hf
   have:r[j]=n:=by omega
   exact this ▸ List.getElem_mem hj
  ·intro hm
   obtain⟨j,hj,e⟩:=List.mem_iff_getElem.1 hm
   exact⟨j,hj,by simp[FD,List.getD_eq_getElem?_getD,hj,e]⟩
 rw[h1,h.root]
 constructor
 ·rintro (h2 | ⟨j,x,hj,hx,c,hc,hg,y,hy,e⟩)
  ·exact .inl h2
  ·obtain⟨q,hq,hqe⟩:=List.mem_iff_getElem.1 hc
   have hq2:(aM u x)[q]? = some c:=by rw[List.getElem?_eq_getElem hq,hqe]
   refine .inr ⟨j,hj,?_⟩
   simp only[FE,hx]
   rw[mF]
   refine⟨q,hq,?_⟩
   have hrow:=h.row j x hj hx
   have hk:(j0 l x (aM u x))[q]? = some ((cM l y:Nat):Int):=by
    rw[j0,List.getElem?_map,hq2]
    simp[hy]
   simp only[EE,List.getD_eq_getElem?_getD,hq2,hrow,Option.getD_some,hk,Ix hg,Bool.true_and,beq_iff_eq,e]
 ·rintro (h2 | ⟨j,hj,hf⟩)
  ·exact .inl h2
  ·right
   obtain⟨x,hx⟩:∃ x,l[j]? = some x:=⟨_,List.getElem?_eq_getElem hj⟩
   simp only[FE,hx] at hf
   rw[mF] at hf
   obtain⟨q,hq,hf⟩:=hf
   have hrow:=h.row j x hj hx
   obtain⟨c,hc⟩:∃ c,(aM u x)[q]? = some c:=⟨_,List.getElem?_eq_getElem hq⟩
   simp only[EE,List.getD_eq_getElem?_getD,hc,hrow,Option.getD_some,Bool.and_eq_true] at hf
   have hg:=opI_3 hf.1
   obtain⟨y,hy⟩:=Ec hg x
   have hk:(j0 l x (aM u x))[q]? = some ((cM l y:Nat):Int):=by
    rw[j0,List.getElem?_map,hc]
    simp[hy]
   rw[hk] at hf
   simp only[Option.getD_some,beq_iff_eq] at hf
   exact⟨j,x,hj,hx,c,List.mem_of_getElem? hc,hg,y,hy,by omega⟩
end Go.bg
namespace Go.Proofs.YtmnglemlimfpbaaGreat
open Go.Can Go.bg
def H9 (u:Un)(c:Cl):List (Nat×Ob):=[(0,⟨30,0,de u⟩),(1,⟨34,0,iL c⟩)]
def J9a (u:Un)(c:Cl)(n:Nat)(m:Nat)(s:St):Prop:=∃ i:Nat,m=c.roots.length-i∧i≤c.roots.length∧
 s=⟨[(13,I i),(12,.bool (decide (n=0))),(11,.bool (fU i (FD c.roots n))),(10,I n),(8,.aq 1 0),(6,.aq 0 0)],H9 u c,2⟩
def J9b (u:Un)(c:Cl)(n:Nat)(m:Nat)(s:St):Prop:=∃ i:Nat,m=c.is.length-i∧i≤c.is.length∧
 s=⟨[(14,I i),(12,.bool ((decide (n=0)) || fU i (FE u c.is c.calls n))),(11,.bool (fU c.roots.length (FD c.roots n))),(10,I n),(8,.aq 1 0),(6,.aq 0 0)],H9 u c,2⟩
def J9c (u:Un)(c:Cl)(n:Nat)(i:Nat)(cd:List In)(d:List Int)(m:Nat)(s:St):Prop:=∃ q:Nat,m=cd.length-q∧q≤cd.length∧
 s=⟨[(16,I q),(15,.ax (cd.flatMap dt) cd.length),(14,I i),(12,.bool (((decide (n=0)) || fU i (FE u c.is c.calls n)) || fU q (EE cd d n))),(11,.bool (fU c.roots.length (FD c.roots n))),(10,I n),(8,.aq 1 0),(6,.aq 0 0)],H9 u c,2⟩
theorem zI {l:List Int}{i:Nat}{n:Int}(h:l[i]? = some n):(l.map qP).drop i=qP n::(l.drop (i+1)).map qP:=by
 obtain⟨h1,h2⟩:=List.getElem?_eq_some_iff.1 h
 rw[← List.map_drop,List.drop_eq_getElem_cons h1,h2,List.map_cons]
theorem c9_ok (l:List Int)(hl:l.length≤9223372036854775807)(x:Int):ah Tryz.prog 9 [ints l,I x] (.bool true):=by
 have hun:=oz l hl
 have huv:=kG l
 generalize iT (ss l)=u at hun huv
 obtain⟨hI,hpos⟩:=kR huv
 have hlen:=dG huv hI.nd hI.v
 have hcl:=mT u huv
 have hci:=wK huv
 have hrl:=Bh huv
 generalize gE u=c at hun hI hpos hlen hcl hci hrl
 obtain⟨n,hn,hnl⟩:∃ i:Nat,x % (c.is.length:Int)=i∧i<c.is.length:=by
  have h1:=Int.emod_nonneg x (show (c.is.length:Int)≠0 by omega)
  have h2:=Int.emod_lt_of_pos x (show (0:Int)<c.is.length by omega)
  exact⟨(x % c.is.length).toNat,by omega,by omega⟩
 have hlaw:=BI hci n
 have hw:=kA x c.is.length (by omega) (by omega)
 rw[hn] at hw
 have hcl2:=hci.len
 have tun:=dD u
 have tis:=ay aO c.is
 have tcs:=eg c.calls
 have trs:=aN c.roots
 generalize ss l=p at hun
 have tl:trees [ints l]=true:=by simp[ints,trees,tree]
 have ta1:trees [gq u]=true:=by simp only[trees,tree,gq,tun,Bool.and_self]
 have tun2:=tun
 simp only[gq,de,ints] at hcl ta1 tun2
 simp only[mv,iL] at hcl
 refine ah.bl aa Tryz.func9 rfl (by kernel_rfl) (by simp[Tryz.ntmps9]) rfl fun C hC hC0=>?_
 rw[Tryz.ntmps9] at hC
 refine T.seq (T.go' aa ?_)
 simp[hC]
 refine T.seq (T.go' aa ?_)
 simp[hC]
 refine TL.call (by simp[hC]) rfl rfl (aI.of rfl tl hun) (TL.go' aa ?_)
 simp only[qX,dq,gq,de,mv,iL,ints]
 simp[hC]
 refine T.seq (T.go' aa ?_)
 simp[hC]
 refine TL.call (by simp[hC]) rfl rfl (aI.of rfl ta1 hcl) (TL.go' aa ?_)
 simp[hC]
 have hne:((c.is.length:Int) == 0)=false:=by rw[beq_eq_false_iff_ne];omega
 have hcn:((c.calls.length:Int) != (c.is.length:Int))=false:=by rw[hcl2];simp
 refine T.seq (T.seq (T.go' aa ?_))
 simp[hC,hne,hcn]
 refine T.cond (b:=false) rfl (T.skip ?_)
 simp
 refine T.seq (T.go' aa ?_)
 simp[hC]
 refine TL.call (by simp[hC]) rfl rfl (aI.of rfl rfl hw) (TL.go' aa ?_)
 simp[hC]
 refine T.seq (T.go' aa ?_)
 simp[hC]
 refine T.seq (T.seq (T.go' aa ?_))
 simp[hC]
 refine T.block ?_
 refine T.aS (J9a u c n) (n:=c.roots.length) ?_ ?_
 ·simp only[aZ]
  refine ae.le (Le.norm [13,12,11,10,8,6] [(1,0),(3,1)] 0 2 (by first | rfl | decide) (by simp[assoc]) (by simp[ca,lN,ky,tree,assoc,-List.all_eq_true,-List.all_flatMap]) (by omega)) ?_
  simp[cW,bD,bJ,dr,fx,assoc]
  refine ae.here ⟨0,by omega,by omega,?_⟩
  simp[H9,de,ints,iL,fU,aZ]
 ·rintro m s ⟨i,rfl,hi,rfl⟩
  simp only[H9,de,ints,iL]
  by_cases hir:i<c.roots.length
  ·obtain⟨k,hk⟩:∃ k,c.roots[i]? = some k:=⟨_,List.getElem?_eq_getElem hir⟩
   have hkd:=pX hk
   have wi:=db ((i:Int)+1) (by omega) (by omega)
   have hfr:FD c.roots n i=((k:Int) == (n:Int)):=by simp[FD,List.getD_eq_getElem?_getD,hk]
   simp only[aZ]
   refine T.seq (T.seq (T.go' aa ?_))
   simp[hC,hir]
   refine T.cond (b:=true) rfl (T.skip ?_)
   simp
   refine T.seq (T.block ?_)
   cases hb:fU i (FD c.roots n) with
   | true=>
    refine T.go' aa ?_
    simp[hC]
    refine T.go' aa ?_
    simp[hC,wi]
    refine⟨c.roots.length-(i+1),by omega,ae.trim [13,12,11,10,8,6] [0,1] 2 (by simp[-List.all_eq_true,-List.all_flatMap,af tun2]) (by omega) ⟨i+1,rfl,by omega,?_⟩⟩
    simp[H9,de,ints,iL,fU,hb,aZ]
   | false=>
    refine T.go' aa ?_
    simp[hC,hir,hkd]
    refine T.go' aa ?_
    simp[hC,wi]
    refine⟨c.roots.length-(i+1),by omega,ae.trim [13,12,11,10,8,6] [0,1] 2 (by simp[-List.all_eq_true,-List.all_flatMap,af tun2]) (by omega) ⟨i+1,rfl,by omega,?_⟩⟩
    simp[H9,de,ints,iL,fU,hb,hfr,aZ]
  ·have hie:i=c.roots.length:=by omega
   subst hie
   refine T.seq (T.seq (T.go' aa ?_))
   simp[hC,aZ]
   refine T.cond (b:=false) rfl ?_
   simp
   refine T.exit ?_
   simp
   refine T.seq (T.seq (T.go' aa ?_))
   simp[hC]
   refine T.block ?_
   refine T.aS (J9b u c n) (n:=c.is.length) ?_ ?_
   ·refine ae.trim [14,12,11,10,8,6] [0,1] 2 (by simp[-List.all_eq_true,-List.all_flatMap,af tun2]) (by omega) ⟨0,by omega,by omega,?_⟩
    simp[H9,de,ints,iL,fU,aZ]
   ·rintro m s ⟨i,rfl,hi,rfl⟩
    simp only[H9,de,ints,iL]
    by_cases hil:i<c.is.length
    ·obtain⟨y,hy⟩:∃ y,c.is[i]? = some y:=⟨_,List.getElem?_eq_getElem hil⟩
     obtain⟨⟨pq,hpq,hll⟩,hlm⟩:=hI.v y (List.mem_of_getElem? hy)
     have hcode:aM u y=pq.code:=by simp only[aM,hpq]
     have hpl:=(List.getElem?_eq_some_iff.1 hpq).1
     have hdr:=bG (f:=kX) (n:=5) eU hpq 4 (by omega)
     have hdi:=aV (f:=cg) (n:=2) dh hy
     have wi:=db ((i:Int)+1) (by omega) (by omega)
     have hrow:=hci.row i y hil hy
     rw[hcode] at hrow
     have hdl:(j0 c.is y pq.code).length=pq.code.length:=by simp[j0]
     have hfi:FE u c.is c.calls n i=fU pq.code.length (EE pq.code (j0 c.is y pq.code) n):=by
      simp only[FE,hy,hcode,List.getD_eq_getElem?_getD,hrow,Option.getD_some]
     generalize j0 c.is y pq.code=d at hrow hdl hfi
     have hil2:i<c.calls.length:=by omega
     have hdd:(c.calls.map ints).drop i=.ax (d.map qP) d.length::(c.calls.drop (i+1)).map ints:=zo hrow
     have hcl5:=(huv.pr pq (List.mem_of_getElem? hpq)).2.2.2.2
     have tco:=aP pq.code
     refine T.seq (T.seq (T.go' aa ?_))
     simp[hC,hil]
     refine T.cond (b:=true) rfl (T.skip ?_)
     simp
     refine T.seq (T.block ?_)
     refine T.seq (T.rx aa follows [0,1,2,3,4,5,6,7,8,9,10,11] [] (by kernel_rfl) ?_)
     simp[hC,hil,hdi,cg,hpl,hdr,kX]
     refine T.seq (T.go' aa ?_)
     simp[hC]
     refine T.block ?_
     refine T.aS (J9c u c n i pq.code d) (n:=pq.code.length) ?_ ?_
     ·refine ae.trim [16,15,14,12,11,10,8,6] [0,1] 2 (by simp[-List.all_eq_true,-List.all_flatMap,af tun2,aB 2 _ trs]) (by omega) ⟨0,by omega,by omega,?_⟩
      simp[H9,de,ints,iL,fU,aZ]
     ·rintro m s ⟨q,rfl,hq,rfl⟩
      simp only[H9,de,ints,iL]
      by_cases hqc:q<pq.code.length
      ·obtain⟨ins,hins⟩:∃ ins,pq.code[q]? = some ins:=⟨_,List.getElem?_eq_getElem hqc⟩
       have hqd:q<d.length:=by omega
       obtain⟨k,hk⟩:∃ k,d[q]? = some k:=⟨_,List.getElem?_eq_getElem hqd⟩
       have hfg:EE pq.code d n q=(tZ ins == 3 && k == (n:Int)):=by simp[EE,List.getD_eq_getElem?_getD,hins,hk]
       have wq:=db ((q:Int)+1) (by omega) (by omega)
       have hdc:=aV (f:=dt) (n:=12) gz hins
       obtain⟨zc,hzc,hzl⟩:=p6 ins
       rw[hzc] at hdc
       have hdk:=zI hk
       refine T.seq (T.seq (T.go' aa ?_))
       simp[hC,hqc,hil2,hdd,hdl]
       refine T.cond (b:=true) rfl (T.skip ?_)
       simp
       refine T.seq (T.block ?_)
       have fz:∀ b:Bool,b=((decide (n=0) || fU i (FE u c.is c.calls n)) || fU (q+1) (EE pq.code d n))→b=(decide (n=0) || fU i (FE u c.is c.calls n) || (fU q (EE pq.code d n) || EE pq.code d n q)):=fun b h=>by rw[h,fU]
       cases hb:(decide (n=0) || fU i (FE u c.is c.calls n) || fU q (EE pq.code d n)) with
       | true=>
        refine T.go' aa ?_
        simp[hC]
        refine T.go' aa ?_
        simp[hC,wq]
        refine⟨pq.code.length-(q+1),by omega,ae.trim [16,15,14,12,11,10,8,6] [0,1] 2 (by simp[-List.all_eq_true,-List.all_flatMap,af tun2,aB 2 _ trs]) (by omega) ⟨q+1,rfl,by omega,?_⟩⟩
        rw[fU,← Bool.or_assoc,hb]
        simp[H9,de,ints,iL,aZ]
       | false=>
        cases ho:tZ ins == 3 with
        | false=>
         refine T.go' aa ?_
         simp[hC,hqc,hdc,ho]
         refine T.go' aa ?_
         simp[hC,wq]
         refine⟨pq.code.length-(q+1),by omega,ae.trim [16,15,14,12,11,10,8,6] [0,1] 2 (by simp[-List.all_eq_true,-List.all_flatMap,af tun2,aB 2 _ trs]) (by omega) ⟨q+1,rfl,by omega,?_⟩⟩
         rw[fU,← Bool.or_assoc,hb,hfg,ho]
         simp[H9,de,ints,iL,aZ]
        | true=>
         refine T.go' aa ?_
         simp[hC,hqc,hdc,ho,hil2,hdd,hqd,hdk]
         refine T.go' aa ?_
         simp[hC,wq]
         refine⟨pq.code.length-(q+1),by omega,ae.trim [16,15,14,12,11,10,8,6] [0,1] 2 (by simp[-List.all_eq_true,-List.all_flatMap,af tun2,aB 2 _ trs]) (by omega) ⟨q+1,rfl,by omega,?_⟩⟩
         rw[fU,← Bool.or_assoc,hb,hfg,ho]
         simp[H9,de,ints,iL,aZ]
      ·have hqe:q=pq.code.length:=by omega
       subst hqe
       refine T.seq (T.seq (T.go' aa ?_))
       simp[hC]
       refine T.cond (b:=false) rfl ?_
       simp
       refine T.exit ?_
       simp
       refine T.go' aa ?_
       simp[hC,wi]
       refine⟨c.is.length-(i+1),by omega,ae.trim [14,12,11,10,8,6] [0,1] 2 (by simp[-List.all_eq_true,-List.all_flatMap,af tun2,aB 2 _ trs]) (by omega) ⟨i+1,rfl,by omega,?_⟩⟩
       rw[fU,← Bool.or_assoc,hfi]
       simp[H9,de,ints,iL,aZ]
    ·have hie:i=c.is.length:=by omega
     subst hie
     refine T.seq (T.seq (T.go' aa ?_))
     simp[hC]
     refine T.cond (b:=false) rfl ?_
     simp
     refine T.exit ?_
     simp
     rw[← hlaw]
     refine T.seq (T.go' aa ?_)
     simp[hC]
     refine TL.bT (by simp[hC]) rfl rfl rfl rfl (aI.of rfl rfl yM) (TL.go' aa ?_)
     simp[hC]
     refine T.ret ?_
     refine ae.here ?_
     simp[Tryz.results9]
end Go.Proofs.YtmnglemlimfpbaaGreat
namespace Go.bg
open Go.Can
structure FI (u:Un)(l:List Is)(i q:Nat)(fd:List Bool):Prop where
 len:fd.length=l.length
 z:fd[0]? = some true
 done:∀ j x,j<i→l[j]? = some x→∀ c∈aM u x,∀ y,eT x c=some y→fd[cM l y]? = some true
 cur:∀ x,l[i]? = some x→∀ k c y,k<q→(aM u x)[k]? = some c→eT x c=some y→fd[cM l y]? = some true
theorem rQ {fd:List Bool}{k j:Nat}(h:fd[j]? = some true):(fd.set k true)[j]? = some true:=by
 rw[List.getElem?_set]
 have hj:=(List.getElem?_eq_some_iff.1 h).1
 split
 ·rename_i e
  subst e
  simp[hj]
 ·exact h
theorem FI.none {u:Un}{l:List Is}{i q:Nat}{fd:List Bool}(h:FI u l i q fd){x:Is}(hx:l[i]? = some x){c:In}(hc:(aM u x)[q]? = some c)(hn:eT x c=none):FI u l i (q+1) fd:=
 ⟨h.len,h.z,h.done,fun x' hx' k c' y hk hc' hy=>by
  rw[hx] at hx'
  cases hx'
  by_cases e:k=q
  ·subst e
   rw[hc] at hc'
   cases hc'
   rw[hn] at hy
   cases hy
  ·exact h.cur x hx k c' y (by omega) hc' hy⟩
theorem FI.set {u:Un}{l:List Is}{i q:Nat}{fd:List Bool}(h:FI u l i q fd){x:Is}(hx:l[i]? = some x){c:In}(hc:(aM u x)[q]? = some c){y:Is}(hy:eT x c=some y)(hm:y∈l):FI u l i (q+1) (fd.set (cM l y) true):=
 ⟨by simp[h.len],rQ h.z,fun j x' hj hx' c' hc' y' hy'=>rQ (h.done j x' hj hx' c' hc' y' hy'),fun x' hx' k c' y' hk hc' hy'=>by
  rw[hx] at hx'
  cases hx'
  by_cases e:k=q
  ·subst e
   rw[hc] at hc'
   cases hc'
   rw[hy] at hy'
   cases hy'
   rw[List.getElem?_set,if_pos rfl,if_pos (by rw[h.len];exact wg hm)]
  ·exact rQ (h.cur x hx k c' y' (by omega) hc' hy')⟩
theorem FI.next {u:Un}{l:List Is}{i:Nat}{fd:List Bool}{x:Is}(hx:l[i]? = some x)(h:FI u l i (aM u x).length fd):FI u l (i+1) 0 fd:=
 ⟨h.len,h.z,fun j x' hj hx' c hc y hy=>by
  by_cases e:j=i
  ·subst e
   rw[hx] at hx'
   cases hx'
   obtain⟨k,hk,e2⟩:=List.mem_iff_getElem.1 hc
   exact h.cur x hx k c y hk (by rw[List.getElem?_eq_getElem hk,e2]) hy
  ·exact h.done j x' (by omega) hx' c hc y hy,fun x' _ k c y hk=>by omega⟩
theorem FI.here {u:Un}{l:List Is}{cs:List (List Int)}{r:List Nat}(hc:CI u l.length l cs r){i:Nat}{fd:List Bool}(h:FI u l i 0 fd)(hi:i<l.length):fd[i]? = some true:=by
 by_cases e:i=0
 ·subst e;exact h.z
 ·obtain⟨y,hy⟩:∃ y,l[i]? = some y:=⟨_,List.getElem?_eq_getElem hi⟩
  obtain⟨j,x,_,hj,hx,c,hcc,hcy⟩:=hc.up i y (by omega) hy
  have:=h.done j x hj hx c hcc y hcy
  rwa [AK hc.nd hy] at this
end Go.bg
namespace Go.Proofs.YtmnglemlimfpbaaGreat
open Go.Can Go.bg
def wz (fd:List Bool):Ob:=⟨4,1,fd.map CV.bool⟩
def J7a (u:Un)(c:Cl)(m:Nat)(s:St):Prop:=∃ i fd,m=c.is.length-i∧i≤c.is.length∧FI u c.is i 0 fd∧
 s=⟨[(9,I (i:Nat)),(8,.bw 2 0 c.is.length),(6,.aq 1 0),(4,.aq 0 0)],H9 u c++[(2,wz fd)],3⟩
def J7b (u:Un)(c:Cl)(i:Nat)(n:Nat)(m:Nat)(s:St):Prop:=∃ q fd,m=n-q∧q≤n∧FI u c.is i q fd∧
 s=⟨[(11,I (q:Nat)),(9,I i),(8,.bw 2 0 c.is.length),(6,.aq 1 0),(4,.aq 0 0)],H9 u c++[(2,wz fd)],3⟩
theorem rE (l:List Bool):trees (l.map CV.bool)=true:=by
 induction l with
 | nil=>rfl
 | cons a r ih=>rw[List.map_cons,trees,ih];rfl
set_option maxHeartbeats 4000000 in
set_option maxRecDepth 100000 in
theorem c7_ok (l:List Int)(hl:l.length≤9223372036854775807):ah Tryz.prog 7 [ints l] (.bool true):=by
 have hun:=oz l hl
 have huv:=kG l
 generalize iT (ss l)=u at hun huv
 obtain⟨hI,hpos⟩:=kR huv
 have hlen:=dG huv hI.nd hI.v
 have hcl:=mT u huv
 have hci:=wK huv
 generalize gE u=c at hun hI hpos hlen hcl hci
 have hcl2:=hci.len
 have tun:=dD u
 have tis:=ay aO c.is
 have tcs:=eg c.calls
 have trs:=aN c.roots
 have hiv:∀ z∈c.is,z.aE.length≤6∧nw z.proc=true∧∀ n∈z.aE,nw (n:Int)=true:=fun z hz=>by
  have h1:=hI.v z hz
  have h2:=oV huv h1
  obtain⟨⟨q,hq,_⟩,hm⟩:=h1
  have h3:=(List.getElem?_eq_some_iff.1 hq).1
  have h4:=huv.np
  have h5:=huv.nm
  have hin:∀ n:Nat,n<10→nw (n:Int)=true:=fun n hn=>by simp only[nw,Bool.and_eq_true,decide_eq_true_eq];omega
  exact⟨by omega,hin _ (by omega),fun n hn=>hin _ (by have:=hm n hn;omega)⟩
 have hfi:=fun p ls hp hls=>sJ c.is (by omega) hiv (.ax (c.calls.map ints) c.calls.length) (aZ c.roots) rfl trs p ls hp hls
 generalize ss l=p at hun
 have tl:trees [ints l]=true:=by simp[ints,trees,tree]
 have ta1:trees [gq u]=true:=by simp only[trees,tree,gq,tun,Bool.and_self]
 have tun2:=tun
 simp only[gq,de,ints] at hcl ta1 tun2
 simp only[mv,iL] at hcl
 refine ah.bl aa Tryz.func7 rfl (by kernel_rfl) (by simp[Tryz.ntmps7]) rfl fun C hC hC0=>?_
 rw[Tryz.ntmps7] at hC
 refine T.seq (T.go' aa ?_)
 simp[hC]
 refine T.seq (T.go' aa ?_)
 simp[hC]
 refine TL.call (by simp[hC]) rfl rfl (aI.of rfl tl hun) (TL.go' aa ?_)
 simp only[qX,dq,gq,de,mv,iL,ints]
 simp[hC]
 refine T.seq (T.go' aa ?_)
 simp[hC]
 refine TL.call (by simp[hC]) rfl rfl (aI.of rfl ta1 hcl) (TL.go' aa ?_)
 simp[hC]
 have hne:((c.is.length:Int) == 0)=false:=by rw[beq_eq_false_iff_ne];omega
 have hcn:((c.calls.length:Int) != (c.is.length:Int))=false:=by rw[hcl2];simp
 refine T.seq (T.seq (T.go' aa ?_))
 simp[hC,hne,hcn]
 refine T.cond (b:=false) rfl (T.skip ?_)
 simp
 have bd1:(c.is.length:Int)≤281474976710656:=by omega
 have bd2:(c.is.length:Int)≤9223372036854775807:=by omega
 simp only[aZ]
 refine T.le (Le.norm [6,4] [(1,0),(3,1)] 0 2 (by first | rfl | decide) (by simp[assoc]) (by simp[ca,lN,ky,tree,assoc,-List.all_eq_true,-List.all_flatMap]) (by omega)) ?_
 simp[cW,bD,bJ,dr,fx,assoc]
 refine T.seq (T.go' aa ?_)
 simp[hC,bd1,bd2]
 have hpos1:1≤c.is.length:=hpos
 refine T.seq (T.go' aa ?_)
 simp[hC,hpos,hpos1]
 refine T.seq (T.seq (T.go' aa ?_))
 simp[hC]
 refine T.block ?_
 refine T.aS (J7a u c) (n:=c.is.length) ?_ ?_
 ·refine ae.trim [9,8,6,4] [0,1,2] 3 (by simp[-List.all_eq_true,-List.all_flatMap,af tun2]) (by omega) ⟨0,true::List.replicate (c.is.length-1) false,by omega,by omega,⟨by simp;omega,rfl,(fun j x hj=>by omega),fun x hx k c' y hk=>by omega⟩,?_⟩
  simp[H9,de,ints,iL,aZ,wz]
 ·rintro m s ⟨i,fd,rfl,hi,hF,rfl⟩
  simp only[H9,de,ints,iL,wz]
  have tfb:trees (fd.map CV.bool)=true:=rE fd
  by_cases hil:i<c.is.length
  ·obtain⟨y,hy⟩:∃ y,c.is[i]? = some y:=⟨_,List.getElem?_eq_getElem hil⟩
   have hyv:=hI.v y (List.mem_of_getElem? hy)
   obtain⟨⟨pq,hpq,hll⟩,hlm⟩:=id hyv
   have hcode:aM u y=pq.code:=by simp only[aM,hpq]
   have hpl:=(List.getElem?_eq_some_iff.1 hpq).1
   have hdr:=bG (f:=kX) (n:=5) eU hpq 4 (by omega)
   have hdr2:=bG (f:=kX) (n:=5) eU hpq 2 (by omega)
   have hdi:=aV (f:=cg) (n:=2) dh hy
   have wi:=db ((i:Int)+1) (by omega) (by omega)
   have hrow:=hci.row i y hil hy
   have hmem:=hci.mem i y hil hy
   rw[hcode] at hrow hmem
   have hdl:(j0 c.is y pq.code).length=pq.code.length:=by simp[j0]
   have hdk:∀ q ins,pq.code[q]? = some ins→(j0 c.is y pq.code)[q]? = some (match eT y ins with
    | none=>-1
    | some z=>(cM c.is z:Int)):=fun q ins h=>by rw[j0,List.getElem?_map,h];rfl
   generalize j0 c.is y pq.code=d at hrow hdl hdk
   have hil2:i<c.calls.length:=by omega
   have hdd:(c.calls.map ints).drop i=.ax (d.map qP) d.length::(c.calls.drop (i+1)).map ints:=zo hrow
   have hcl5:=(huv.pr pq (List.mem_of_getElem? hpq)).2.2.2.2
   have tco:=aP pq.code
   have hhere:=hF.here hci hil
   have hfl:=hF.len
   refine T.seq (T.seq (T.go' aa ?_))
   simp[hC,hil]
   refine T.cond (b:=true) rfl (T.skip ?_)
   simp
   refine T.seq (T.block ?_)
   refine T.seq (T.go' aa ?_)
   simp[hC,hil,hdi,cg]
   refine T.seq (T.seq (T.Hn aa follows [] [0,1,2,3,4,5,6,7,8,9,10,11,12,13,14,15,16,17,18,19,20,21,22,23,24,25,26,27,28,29,30,31,32,33,34,35,36,37,38,39,40,41,42,43,44,45,46,47] [] (by kernel_rfl) ?_))
   have hnn:¬ ((y.proc:Int)<0):=by omega
   have hng:¬ (u.ps.length≤y.proc):=by omega
   have hdl2:((d.length:Int) != (pq.code.length:Int))=false:=by rw[hdl];simp
   have hll2:((y.aE.length:Int) != (pq.aE:Int))=false:=by rw[hll];simp
   simp[hC,hil,hhere,hdi,cg,hpl,hdr,hdr2,kX,hnn,hng,hil2,hdd,hdl2,hll2,aZ]
   refine T.cond (b:=false) rfl (T.skip ?_)
   simp
   have hfx:=fun p ls hp hls=>hfi p ls hp hls
   simp only[aZ] at hfx
   refine T.le (Le.trim [9,8,6,4] [0,1,2] 3 (by simp[-List.all_eq_true,-List.all_flatMap,af tun2,af tfb]) (by omega)) ?_
   simp
   refine T.seq (T.go' aa ?_)
   simp[hC]
   refine T.block ?_
   refine T.aS (J7b u c i pq.code.length) (n:=pq.code.length) ?_ ?_
   ·refine ae.trim [11,9,8,6,4] [0,1,2] 3 (by simp[-List.all_eq_true,-List.all_flatMap,af tun2,af tfb]) (by omega) ⟨0,fd,by omega,by omega,hF,?_⟩
    simp[H9,de,ints,iL,aZ,wz]
   ·clear hhere hF hfl
    rintro m s ⟨q,fd,rfl,hq,hF,rfl⟩
    simp only[H9,de,ints,iL,wz]
    have tfb:trees (fd.map CV.bool)=true:=rE fd
    have hfl:=hF.len
    by_cases hqc:q<pq.code.length
    ·obtain⟨ins,hins⟩:∃ ins,pq.code[q]? = some ins:=⟨_,List.getElem?_eq_getElem hqc⟩
     have hqd:q<d.length:=by omega
     have hcalP:fS u y q=eT y ins:=by simp[fS,hcode,hins,show ¬ (q:Int)<0 by omega]
     have hcal:=qe u huv y hyv q
     rw[hcalP] at hcal
     have hk:=hdk q ins hins
     have wq:=db ((q:Int)+1) (by omega) (by omega)
     have targ:trees [gq u,.agg (cg y),I q]=true:=by
      simp only[gq,de,ints,trees,tree,aO,Bool.and_self]
     simp only[gq,de,cg,ints] at hcal targ
     have hinc:(aM u y)[q]? = some ins:=by rw[hcode];exact hins
     refine T.seq (T.seq (T.go' aa ?_))
     simp[hC,hil2,hdd,hdl,hqc]
     refine T.cond (b:=true) (by simp[ev,assoc]) (T.skip ?_)
     simp
     refine T.seq (T.block ?_)
     refine T.seq (T.rx aa follows [0,1,2,3,4,5,6,11,7,8,9,10,12,13] [(0,11),(2,11),(5,11),(11,7)] (by kernel_rfl) ?_)
     simp[hC,hil,hdi,cg]
     refine RX.call rfl rfl rfl rfl rfl targ hcal ?_
     cases hce:eT y ins with
     | none=>
      rw[hce] at hk
      have hdq:=zI hk
      simp[jH]
      refine T.seq (T.go' aa ?_)
      simp[hC,hil2,hdd,hqd,hdq]
      refine T.le (Le.trim [14,13,12,11,9,8,6,4] [14,0,1,2] 17 (by simp[-List.all_eq_true,-List.all_flatMap,af tun2,aB 17 _ trs,af tfb]) (by omega)) ?_
      simp
      refine T.seq (T.seq (T.go' aa ?_))
      simp[hC]
      refine T.cond (b:=false) rfl (T.skip ?_)
      simp
      refine T.seq (T.go' aa ?_)
      simp[hC]
      refine T.cond (b:=false) rfl (T.skip ?_)
      simp
      refine T.go' aa ?_
      simp[hC,wq]
      refine⟨pq.code.length-(q+1),by omega,ae.trim [11,9,8,6,4] [0,1,2] 3 (by simp[-List.all_eq_true,-List.all_flatMap,af tun2,aB 3 _ trs,af tfb]) (by omega) ⟨q+1,fd,rfl,by omega,hF.none hy hinc hce,?_⟩⟩
      simp[H9,de,ints,iL,aZ,wz]
     | some z=>
      rw[hce] at hk
      have hdq:=zI hk
      simp[jH,cg]
      refine T.seq (T.go' aa ?_)
      simp[hC,hil2,hdd,hqd,hdq]
      have hzm:=hmem ins (List.mem_of_getElem? hins) z hce
      have hzv:=hiv z hzm
      have hzl:=wg hzm
      have hfz:=hfx z.proc (z.aE.map fun n:Nat=>(n:Int)) hzv.2.1 (fun n hn=>by
       obtain⟨m,hm,rfl⟩:=List.mem_map.1 hn
       exact hzv.2.2 m hm)
      have hfe:gN c.is z.proc (z.aE.map fun n:Nat=>(n:Int)) 0=((cM c.is z:Nat):Int):=by
       have:=oZ z c.is 0
       rw[if_pos hzm] at this
       simpa using this
      have hFs:=hF.set hy hinc hce hzm
      rw[← en,hfe] at hfz
      generalize cM c.is z=k at hzl hfz hFs
      have hkn:¬ ((k:Nat):Int)<0:=by omega
      have hkg:¬ (c.is.length≤k):=by omega
      have targz:trees [.agg [.ax (c.is.flatMap cg) c.is.length,.ax (c.calls.map ints) c.calls.length,.ax (c.roots.map fun n:Nat=>I n) c.roots.length],.agg [I z.proc,aZ z.aE]]=true:=by
       simp only[trees,tree,aN,Bool.and_self]
      refine T.le (Le.trim [14,13,12,11,9,8,6,4] [14,0,1,2] 17 (by simp[-List.all_eq_true,-List.all_flatMap,af tun2,aB 17 _ trs,aB 17 _ (aN z.aE),af tfb]) (by omega)) ?_
      simp
      simp only[aZ] at hfz targz ⊢
      refine T.seq (T.seq (T.go' aa ?_))
      simp[hC]
      refine TL.bT (by simp[hC]) rfl rfl rfl rfl (aI.of rfl targz hfz) (TL.go' aa ?_)
      simp[hC,hkg]
      refine T.cond (b:=false) rfl (T.skip ?_)
      simp
      refine T.seq (T.go' aa ?_)
      simp[hC]
      refine T.cond (b:=true) rfl ?_
      simp
      have hkf:k+1≤fd.length:=by omega
      have hset:List.take k (fd.map CV.bool)++CV.bool true::List.drop (k+1) (fd.map CV.bool)=(fd.set k true).map CV.bool:=by
       rw[List.map_set,List.set_eq_take_append_cons_drop,if_pos (by simp;omega)]
      have tfs:trees ((fd.map CV.bool).set k (.bool true))=true:=by rw[← List.map_set];exact rE _
      refine T.go' aa ?_
      simp[hC,hzl,hkf,hset]
      refine T.go' aa ?_
      simp[hC,wq]
      refine⟨pq.code.length-(q+1),by omega,ae.trim [11,9,8,6,4] [0,1,2] 3 (by simp[-List.all_eq_true,-List.all_flatMap,af tun2,af tfs]) (by omega) ⟨q+1,fd.set k true,rfl,by omega,hFs,?_⟩⟩
      simp[H9,de,ints,iL,aZ,wz]
    ·have hqe:q=pq.code.length:=by omega
     subst hqe
     refine T.seq (T.seq (T.go' aa ?_))
     simp[hC,hil2,hdd,hdl]
     refine T.cond (b:=false) (by simp[ev,assoc]) ?_
     simp
     refine T.exit ?_
     simp
     refine T.go' aa ?_
     simp[hC,wi]
     refine⟨c.is.length-(i+1),by omega,ae.trim [9,8,6,4] [0,1,2] 3 (by simp[-List.all_eq_true,-List.all_flatMap,af tun2,aB 3 _ trs,af tfb]) (by omega) ⟨i+1,fd,rfl,by omega,FI.next hy (by rw[hcode];exact hF),?_⟩⟩
     simp[H9,de,ints,iL,aZ,wz]
  ·refine T.seq (T.seq (T.go' aa ?_))
   simp[hC,hil]
   refine T.cond (b:=false) (by simp[ev,assoc]) ?_
   simp
   refine T.exit ?_
   simp
   refine T.seq (T.go' aa ?_)
   simp
   refine TL.call (by simp[hC]) rfl rfl (aI.of rfl rfl yM) (TL.go' aa ?_)
   simp[hC]
   refine T.ret ?_
   refine ae.here ?_
   simp[Tryz.results7]
end Go.Proofs.YtmnglemlimfpbaaGreat
