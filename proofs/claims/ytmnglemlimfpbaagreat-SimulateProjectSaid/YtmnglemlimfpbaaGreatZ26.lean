/- writer.ref. -/
import Derived.Test.YtmnglemlimfpbaaGreatZ25
namespace Go.Proofs.YtmnglemlimfpbaaGreat
open Go.Can Go.aX
def k7:List CV:=[.str ⟨#[]⟩,.ah]
def gD (nm:ByteArray)(ps:List Pm)(bc:List CV)(bn:Nat):List CV:=[.str nm,.av (ps.flatMap ld) ps.length,.av bc bn]
section
variable (L:List Int)(vars:List ByteArray)(gs:List Gl)(ms:List Mx)(nf left:Nat)(ar:Bool)(i:Nat)(nm:ByteArray)(ps:List Pm)(bc:List CV)(bn:Nat)
def J86 (m:Nat)(s:St):Prop:=∃ k:Nat,m=ms.length-k∧k≤ms.length∧
 s=⟨[(8,I k),(7,.bx 6 0 k),(6,.aw 5 0),(4,.aw 4 0),(0,.aw 1 0),(2,.bx 3 0 vars.length)],[(0,aA L i),(1,bt gs ms nf left ar),(3,bb vars),(4,⟨137,0,gD nm ps bc bn⟩),(5,⟨185,0,k7⟩),(6,bb ((ms.take k).map (·.name)))],7⟩
def K86 (m:Nat)(s:St):Prop:=∃ k:Nat,m=ps.length-k∧k≤ps.length∧
 s=⟨[(10,I k),(9,I ms.length),(7,.bx 6 0 (bS ms (ps.take k)).length),(6,.aw 5 0),(4,.aw 4 0),(0,.aw 1 0),(2,.bx 3 0 vars.length)],[(0,aA L i),(1,bt gs ms nf left ar),(3,bb vars),(4,⟨137,0,gD nm ps bc bn⟩),(5,⟨185,0,k7⟩),(6,bb (bS ms (ps.take k)))],7⟩
end
theorem sP (L:List Int)(hL:L.length≤1000)(vars:List ByteArray)(hv:vars.length≤1000)(gs:List Gl)(ms:List Mx)(hm:0<ms.length)(hm2:ms.length≤100)(hsz:∀ m∈ms,m.size≤1000)(nf left:Nat)(ar:Bool)(i:Nat)(hi:i≤L.length)
  (nm:ByteArray) (ps:List Pm) (hp:ps.length≤100) (bc:List CV) (bn:Nat) :
  Body Tryz.prog aq 86 [.aw 1 0,.agg (gD nm ps bc bn),.bx 3 0 vars.length] [(0,aA L i),(1,bt gs ms nf left ar),(3,bb vars)] 4 (kk (.agg (kZ (ju L ar ms ps vars i).1)) [(0,aA L (ju L ar ms ps vars i).2),(1,bt gs ms nf left ar),(3,bb vars)] 4):=by
 generalize hres:ju L ar ms ps vars i=res
 refine Body.j5 Tryz.func86 rfl yAb (by simp[Tryz.ntmps86]) fun C hC hC0=>?_
 rw[Tryz.ntmps86] at hC
 apply au
 simp[hC,gD]
 apply au
 simp[hC]
 apply aJ
 simp[hC]
 apply T.block
 refine T.aL (J86 L vars gs ms nf left ar i nm ps bc bn) (n:=ms.length) ?_ ?_
 ·refine aa.le (Le.own 7 9 1 rfl) (aa.trim [8,7,6,4,0,2] [0,1,3,4,5,6] 7 (by simp[aA,bt]) yA ⟨0,rfl,Nat.zero_le _,?_⟩)
  simp[bb,k7,gD]
 ·rintro n s ⟨k,rfl,hk,rfl⟩
  have hNl:((ms.take k).map (·.name)).length=k:=by simp;omega
  generalize hN:(ms.take k).map (·.name)=N at hNl
  apply aJ
  simp[hC,bt]
  refine T.bg rfl (fun h=>?_) (fun h=>?_)
  ·have hkl:k<ms.length:=by simpa using h
   obtain⟨m,hmk⟩:∃ m,ms[k]? = some m:=⟨ms[k],List.getElem?_eq_getElem hkl⟩
   have hd:=aE (f:=cq) (n:=3) (fun _=>rfl) hmk
   have wi:=ct ((k:Int)+1) yA yA
   have hb:(k+1)*16≤140737488355328:=by omega
   have htk:ms.take (k+1)=ms.take k++[m]:=by rw[List.take_add_one,hmk];rfl
   have hN':(ms.take (k+1)).map (·.name)=N++[m.name]:=by rw[htk,List.map_append,hN];rfl
   apply T.skip
   simp
   refine T.seq (T.block (T.go' ag ?_))
   simp[hC,hkl,hd,cq,bb,hb,hNl]
   apply aO
   simp[hC,wi]
   refine⟨ms.length-(k+1),by omega,aa.le (Le.trim [8,7,6,4,0,2] [0,1,3,4,5,8] 9 (by simp[aA,gD,k7]) yA) ?_⟩
   simp
   refine aa.le (Le.oP 8 6 rfl rfl yA yAa (by simp ) (by simp[aA,ints,gD,k7])) ?_
   simp[aA,ints,gD,k7]
   refine aa.trim [8,7,6,4,0,2] [0,1,3,4,5,6] 7 yAa yA ⟨k+1,rfl,hkl,?_⟩
   simp only[hN']
   simp[bb,k7,gD,bt,aA,ints]
  ·have hkl:k=ms.length:=by
    have:¬ k<ms.length:=by simpa using h
    omega
   subst hkl
   rw[List.take_length] at hN
   apply T.exit
   simp
   refine T.le (Le.trim [7,6,4,0,2] [0,1,3,4,5,6] 7 (by simp[aA,gD,k7,bb]) yA) ?_
   simp
   apply au
   simp[hC,bb]
   apply aJ
   simp[hC]
   apply T.block
   refine T.aL (K86 L vars gs ms nf left ar i nm ps bc bn) (n:=ps.length) ?_ ?_
   ·refine aa.trim [10,9,7,6,4,0,2] [0,1,3,4,5,6] 7 (by simp[aA,gD,k7]) yA ⟨0,rfl,Nat.zero_le _,?_⟩
    simp[bb,k7,gD,bS,← hN,bt]
   ·rintro n s ⟨j,rfl,hj,rfl⟩
    have hNl2:(bS ms (ps.take j)).length≤300:=by
     have:∀ l:List Pm,(l.flatMap ER).length≤l.length*2:=by
      intro l
      induction l with
      | nil=>simp
      | cons a r ih=>
       simp only[List.flatMap_cons,List.length_append,List.length_cons]
       have:(ER a).length≤2:=by unfold ER;split<;>simp
       omega
     have h1:=this (ps.take j)
     simp only[bS,List.length_append,List.length_map]
     simp only[List.length_take] at h1
     omega
    generalize hN2:bS ms (ps.take j)=N2 at hNl2
    apply aJ
    simp[hC,gD]
    refine T.bg rfl (fun h=>?_) (fun h=>?_)
    ·have hjl:j<ps.length:=by simpa using h
     obtain⟨p,hpj⟩:∃ p,ps[j]? = some p:=⟨ps[j],List.getElem?_eq_getElem hjl⟩
     have hd:=aE (f:=ld) (n:=2) (fun _=>rfl) hpj
     have hd1:=cB (f:=ld) (n:=2) (fun _=>rfl) hpj 1 yA
     have wi:=ct ((j:Int)+1) yA yA
     have htk:ps.take (j+1)=ps.take j++[p]:=by rw[List.take_add_one,hpj];rfl
     have hN3:bS ms (ps.take (j+1))=N2++ER p:=by rw[htk,← hN2];simp[bS]
     apply T.skip
     simp
     refine T.seq (T.block (au ?_))
     simp[hC,hjl,hd1,ld]
     refine T.cond (b:=p.mutex) rfl ?_
     cases hpm:p.mutex with
     | true=>
      have hn2:ER p=[p.name,p.name]:=by simp[ER,hpm]
      have hb:(N2.length+2)*16≤140737488355328:=by omega
      simp
      refine T.rx ag follows [0,1,2,3,4,5,6,7,8,9,10,11,12,13,14,15] [] yAb ?_
      simp[hC,hjl,hd,ld,bb,hb]
      apply aO
      simp[hC,wi]
      refine⟨ps.length-(j+1),by omega,aa.le (Le.trim [10,9,7,6,4,0,2] [0,1,3,4,5,23] 24 (by simp[aA,k7,bt]) yA) ?_⟩
      simp
      refine aa.le (Le.oP 23 6 rfl rfl yA yAa (by simp ) (by simp[aA,ints,k7,bt])) ?_
      simp[aA,ints,k7,bt]
      refine aa.trim [10,9,7,6,4,0,2] [0,1,3,4,5,6] 7 yAa yA ⟨j+1,rfl,hjl,?_⟩
      simp only[hN3,hn2]
      simp[bb,k7,gD,bt,aA,ints]
     | false=>
      have hn2:ER p=[]:=by simp[ER,hpm]
      simp
      apply T.skip
      simp
      apply aO
      simp[hC,wi]
      refine⟨ps.length-(j+1),by omega,aa.trim [10,9,7,6,4,0,2] [0,1,3,4,5,6] 7 (by simp[aA,k7,bt,bb]) yA ⟨j+1,rfl,hjl,?_⟩⟩
      simp only[hN3,hn2]
      simp[bb,k7,gD,bt,aA,ints]
    ·have hjl:j=ps.length:=by
      have:¬ j<ps.length:=by simpa using h
      omega
     subst hjl
     rw[List.take_length] at hN2
     apply T.exit
     simp
     refine T.le (Le.trim [9,7,6,4,0,2] [0,1,3,4,5,6] 7 (by simp[aA,k7,bb,bt]) yA) ?_
     simp
     have hN0:0<N2.length:=by rw[← hN2];simp[bS];omega
     apply au
     simp[hC,bt]
     refine TL.cO ag [0] 1 (cz L i N2.length hi hL hN0 yA) yAc rfl rfl rfl rfl yAa yAi yAj rfl (TL.go' ag ?_)
     simp[hC]
     have hi1:=ba L N2.length hi
     have hlt:=dk L i hN0
     have hre:res=if (cb L i N2.length).1<ms.length∧0<kY ms (cb L i N2.length).1 then
       (⟨N2.getD (cb L i N2.length).1 eS,some (oT L ar vars (kY ms (cb L i N2.length).1) (cb L i N2.length).2).1⟩,(oT L ar vars (kY ms (cb L i N2.length).1) (cb L i N2.length).2).2)
       else (⟨N2.getD (cb L i N2.length).1 eS,none⟩,(cb L i N2.length).2):=by rw[← hN2,← hres];rfl
     generalize cb L i N2.length=k at hi1 hlt hre
     have hdr:=jg hlt
     apply au
     simp[hC,bb,hlt,hdr]
     have hgd:N2.getD k.1 eS=N2[k.1]:=by simp[List.getD,hlt]
     rw[hgd] at hre
     refine T.le (Le.trim [12,11,9,6,0,2] [0,1,3,5,7] 8 (by simp[aA,k7]) yA) ?_
     simp
     refine T.seq (T.seq ?_)
     by_cases hkm:k.1<ms.length
     ·obtain⟨m,hmk⟩:∃ m,ms[k.1]? = some m:=⟨ms[k.1],List.getElem?_eq_getElem hkm⟩
      have hd:=cB (f:=cq) (n:=3) (fun _=>rfl) hmk 2 yA
      have hsa:kY ms k.1=m.size:=by simp[kY,hmk]
      have hms:=hsz m (List.mem_of_getElem? hmk)
      have hd0:=cB (f:=cq) (n:=3) (fun _=>rfl) hmk 0 yA
      rw[hsa] at hre
      apply aO
      simp[hC,hkm,hd,cq]
      refine T.bg rfl (fun h=>?_) (fun h=>?_)
      ·have hs0:0<m.size:=by simpa using h
       rw[if_pos ⟨hkm,hs0⟩] at hre
       apply aO
       simp[hC,hkm,hd,cq]
       refine TL.cO ag [0,1,3] 4 (Dw L hL vars hv gs ms nf left m.size hs0 hms ar k.2 hi1) yAc rfl rfl rfl rfl yAa rfl (by first | rfl | simp[aA,ints,bt]) rfl (TL.go' ag ?_)
       simp[hC,bk,aI]
       apply au
       simp[hC,k7]
       apply T.ret
       refine aa.le (Le.trim [6] [0,1,3,5,8] 9 (by simp[aA,bt,-List.all_eq_true,gv]) yA) ?_
       simp
       refine aa.le (Le.cG (o:=8) rfl (aN _)) ?_
       simp
       refine aa.le (Le.cG (o:=5) rfl rfl) ?_
       simp
       refine aa.trim [6] [0,1,3] 4 (by simp[aA,bt]) yA ⟨_,?_,rfl,?_,rfl⟩
       ·simp[hre,kZ,mZ]
       ·simp[hre,bt,bb]
      ·have hs0:¬ 0<m.size:=by simpa using h
       rw[if_neg fun h=>hs0 h.2] at hre
       apply T.skip
       simp
       apply au
       simp[hC,k7]
       apply T.ret
       refine aa.le (Le.trim [6] [0,1,3,5] 8 yCe yA) ?_
       simp
       refine aa.le (Le.nz [] [5]) ?_
       simp
       refine aa.le (Le.cG (o:=5) rfl yBd) ?_
       simp
       refine aa.trim [6] [0,1,3] 4 yAx yA ⟨_,?_,rfl,?_,rfl⟩
       ·simp[hre,kZ,mZ]
       ·simp[hre]
     ·rw[if_neg fun h=>hkm h.1] at hre
      apply aO
      simp[hC,hkm]
      refine e9 ?_
      simp
      apply au
      simp[hC,k7]
      apply T.ret
      refine aa.le (Le.trim [6] [0,1,3,5] 8 yCe yA) ?_
      simp
      refine aa.le (Le.nz [] [5]) ?_
      simp
      refine aa.le (Le.cG (o:=5) rfl yBd) ?_
      simp
      refine aa.trim [6] [0,1,3] 4 yAx yA ⟨_,?_,rfl,?_,rfl⟩
      ·simp[hre,kZ,mZ]
      ·simp[hre]
theorem tu (x:Ar):(oX x).length=7:=by cases x<;>simp[oX,kZ,k8,bk]
theorem pO (L:List Int)(ar:Bool)(ms:List Mx)(ps:List Pm)(vars:List ByteArray)(p:Pm):∀ (l:List Pm) (i:Nat),dg L ar ms ps vars (l++[p]) i=((dg L ar ms ps vars l i).1++(dg L ar ms ps vars [p] (dg L ar ms ps vars l i).2).1,(dg L ar ms ps vars [p] (dg L ar ms ps vars l i).2).2)
 | [],i=>by simp[dg]
 | q::r,i=>by
  rw[List.cons_append,dg,dg]
  split
  ·rw[pO L ar ms ps vars p r];simp
  ·rw[pO L ar ms ps vars p r];simp
theorem rM (L:List Int)(ar:Bool)(ms:List Mx)(ps:List Pm)(vars:List ByteArray):∀ (l:List Pm) (i:Nat),(dg L ar ms ps vars l i).1.length=l.length
 | [],i=>rfl
 | q::r,i=>by
  rw[dg]
  split<;>simp[rM L ar ms ps vars r]
@[simp] theorem KL (l:List Ar):(l.flatMap oX).map nz=l.flatMap oX:=by
 induction l with
 | nil=>rfl
 | cons a r ih=>
  rw[List.flatMap_cons,List.map_append,ih]
  congr 1
  rcases a with ⟨_,_ | _⟩ | e<;>simp[oX,kZ,k8,mZ,aZ]
@[simp] theorem nz_opC (e:Option Ex):nz (mZ e)=mZ e:=by cases e<;>rfl
@[simp] theorem tree_opC (e:Option Ex):tree (mZ e)=true:=by cases e<;>rfl
@[simp] theorem Ku (n:Nat)(e:Option Ex):a8 n (mZ e)=true:=by cases e<;>rfl
@[simp] theorem L9 (n:Nat)(e:Option Ex):aF n (mZ e)=true:=by cases e<;>rfl
@[simp] theorem ok1_opC (o q:Nat)(e:Option Ex):m8 o q (mZ e)=true:=by cases e<;>rfl
@[simp] theorem ren1_opC (o q:Nat)(e:Option Ex):dj o q (mZ e)=mZ e:=by cases e<;>rfl
@[simp] theorem frzV_opC (o:Nat)(cs:List CV)(n:Nat)(e:Option Ex):cL o cs n (mZ e)=mZ e:=by cases e<;>rfl
theorem yp (o q:Nat)(e:Ex):(aZ e).all (m8 o q)=true:=bh (aN e) o q
@[simp] theorem ren1_exC (o q:Nat)(e:Ex):(aZ e).map (dj o q)=aZ e:=aY (aN e) o q
theorem DA (l:List Ar):trees (l.flatMap oX)=true:=by
 induction l with
 | nil=>rfl
 | cons a r ih=>
  rw[List.flatMap_cons,aC,ih,Bool.and_true]
  rcases a with ⟨_,_ | _⟩ | e<;>simp only[oX,kZ,k8,mZ,List.cons_append,List.nil_append,trees,tree,aN,Bool.and_self]
section
variable (L:List Int)(vars:List ByteArray)(gs:List Gl)(ms:List Mx)(nf left:Nat)(ar:Bool)(i:Nat)(nm:ByteArray)(ps:List Pm)(bc:List CV)(bn:Nat)(nm':ByteArray)(ps':List Pm)(bc':List CV)(bn':Nat)
def J88 (m:Nat)(s:St):Prop:=∃ k:Nat,m=ps'.length-k∧k≤ps'.length∧
 s=⟨[(10,I k),(9,.bx 6 0 k),(6,.aw 5 0),(5,.aw 4 0),(0,.aw 1 0),(3,.bx 3 0 vars.length)],[(0,aA L (dg L ar ms ps vars (ps'.take k) i).2),(1,bt gs ms nf left ar),(3,bb vars),(4,⟨137,0,gD nm ps bc bn⟩),(5,⟨137,0,gD nm' ps' bc' bn'⟩),(6,⟨227,7,(dg L ar ms ps vars (ps'.take k) i).1.flatMap oX⟩)],7⟩
end
theorem E3 (L:List Int)(hL:L.length≤1000)(vars:List ByteArray)(hv:vars.length≤1000)(gs:List Gl)(ms:List Mx)(hm:0<ms.length)(hm2:ms.length≤100)(hsz:∀ m∈ms,m.size≤1000)(nf left:Nat)(ar:Bool)(i:Nat)(hi:i≤L.length)
  (nm:ByteArray) (ps:List Pm) (hp:ps.length≤100) (bc:List CV) (bn:Nat) (nm':ByteArray) (ps':List Pm) (hp':ps'.length≤100) (bc':List CV) (bn':Nat) :
  Body Tryz.prog aq 88 [.aw 1 0,.agg (gD nm ps bc bn),.agg (gD nm' ps' bc' bn'),.bx 3 0 vars.length] [(0,aA L i),(1,bt gs ms nf left ar),(3,bb vars)] 4
   (kk (.av ((dg L ar ms ps vars ps' i).1.flatMap oX) ps'.length) [(0,aA L (dg L ar ms ps vars ps' i).2),(1,bt gs ms nf left ar),(3,bb vars)] 4):=by
 refine Body.j5 Tryz.func88 rfl yAb (by simp[Tryz.ntmps88]) fun C hC hC0=>?_
 rw[Tryz.ntmps88] at hC
 apply au
 simp[hC,gD]
 apply au
 simp[hC]
 apply aJ
 simp[hC]
 apply T.block
 refine T.aL (J88 L vars gs ms nf left ar i nm ps bc bn nm' ps' bc' bn') (n:=ps'.length) ?_ ?_
 ·refine aa.le (Le.own 9 227 7 rfl) (aa.trim [10,9,6,5,0,3] [0,1,3,4,5,6] 7 (by simp[aA,bt]) yA ⟨0,rfl,Nat.zero_le _,?_⟩)
  simp[dg,gD]
 ·rintro n s ⟨k,rfl,hk,rfl⟩
  have hAl:(dg L ar ms ps vars (ps'.take k) i).1.length=k:=by rw[rM];simp;omega
  have hi1:(dg L ar ms ps vars (ps'.take k) i).2≤L.length:=qG _ _ _ _ _ _ hi
  have hfl:=aD (f:=oX) (n:=7) tu (dg L ar ms ps vars (ps'.take k) i).1
  rw[hAl] at hfl
  have hst:=DA (dg L ar ms ps vars (ps'.take k) i).1
  generalize hA:dg L ar ms ps vars (ps'.take k) i=A at hAl hi1 hfl hst
  have hnz:=KL A.1
  generalize hX:A.1.flatMap oX=X at hfl hst hnz
  have hl8:=aj hst 9
  have hok:=bh hst 8 6
  have hrn:=aY hst 8 6
  have hl6:=aj hst 7
  apply aJ
  simp[hC,gD]
  refine T.bg rfl (fun h=>?_) (fun h=>?_)
  ·have hkl:k<ps'.length:=by simpa using h
   obtain⟨p,hpk⟩:∃ p,ps'[k]? = some p:=⟨ps'[k],List.getElem?_eq_getElem hkl⟩
   have hd1:=cB (f:=ld) (n:=2) (fun _=>rfl) hpk 1 yA
   have wi:=ct ((k:Int)+1) yA yA
   have htk:ps'.take (k+1)=ps'.take k++[p]:=by rw[List.take_add_one,hpk];rfl
   have hA1:dg L ar ms ps vars (ps'.take (k+1)) i=(A.1++(dg L ar ms ps vars [p] A.2).1,(dg L ar ms ps vars [p] A.2).2):=by rw[htk,pO,hA]
   have hb:(k+1)*104≤140737488355328:=by omega
   apply T.skip
   simp
   refine T.seq (T.block (au ?_))
   simp[hC,hkl,hd1,ld]
   refine T.cond (b:=p.mutex) rfl ?_
   cases hpm:p.mutex with
   | true=>
    have hre:dg L ar ms ps vars [p] A.2=([.uJ (ju L ar ms ps vars A.2).1],(ju L ar ms ps vars A.2).2):=by simp[dg,hpm]
    rw[hre] at hA1
    simp
    apply aO
    simp[hC]
    refine TL.cO ag [0,1,3] 4 (sP L hL vars hv gs ms hm hm2 hsz nf left ar A.2 hi1 nm ps hp bc bn) yAc rfl rfl rfl rfl yAa rfl (by first | rfl | simp[aA,ints,bt]) rfl (TL.go' ag ?_)
    simp[hC,kZ,aI,hfl,hb]
    apply aO
    simp[hC,wi]
    refine⟨ps'.length-(k+1),by omega,aa.le (Le.trim [10,9,6,5,0,3] [0,1,3,4,5,8] 9 (by simp[aA,bt,-List.all_eq_true,hl8]) yA) ?_⟩
    simp
    refine aa.le (Le.nz [] [8]) ?_
    simp[hnz]
    refine aa.le (Le.oP 8 6 rfl rfl yA yAa (by simp ) (by simp[aA,ints,bt,-List.all_eq_true,hok])) ?_
    simp[aA,ints,bt,hrn]
    refine aa.trim [10,9,6,5,0,3] [0,1,3,4,5,6] 7 (by simp[-List.all_eq_true,hl6]) yA ⟨k+1,rfl,hkl,?_⟩
    simp only[hA1]
    simp[gD,bt,aA,ints,oX,kZ,aZ,eS,hX]
   | false=>
    have hre:dg L ar ms ps vars [p] A.2=([.exp (dq L ar vars A.2).1],(dq L ar vars A.2).2):=by simp[dg,hpm]
    rw[hre] at hA1
    simp
    apply aO
    simp[hC]
    refine TL.cO ag [0,1,3] 4 (nr L hL vars hv gs ms nf left ar A.2 hi1) yAc rfl rfl rfl rfl yAa rfl (by first | rfl | simp[aA,ints,bt]) rfl (TL.go' ag ?_)
    simp[hC,bk,aI,hfl,hb]
    apply aO
    simp[hC,wi]
    refine⟨ps'.length-(k+1),by omega,aa.le (Le.trim [10,9,6,5,0,3] [0,1,3,4,5,8] 9 (by simp[aA,bt,-List.all_eq_true,hl8,gv]) yA) ?_⟩
    simp
    refine aa.le (Le.nz [] [8]) ?_
    simp[hnz]
    refine aa.le (Le.oP 8 6 rfl rfl yA yAa (by simp ) (by simp[aA,ints,bt,-List.all_eq_true,hok,yp])) ?_
    simp[aA,ints,bt,hrn]
    refine aa.trim [10,9,6,5,0,3] [0,1,3,4,5,6] 7 (by simp[-List.all_eq_true,hl6,gv]) yA ⟨k+1,rfl,hkl,?_⟩
    simp only[hA1]
    simp[gD,bt,aA,ints,oX,k8,eS,hX]
  ·have hkl:k=ps'.length:=by
    have:¬ k<ps'.length:=by simpa using h
    omega
   subst hkl
   rw[List.take_length] at hA
   rw[hA]
   apply T.exit
   simp
   apply au
   simp[hC]
   apply T.ret
   refine aa.le (Le.trim [8] [0,1,3,6] 7 (by simp[aA,bt,-List.all_eq_true,hl6]) yA) ?_
   simp
   refine aa.le (Le.cG (o:=6) rfl hst) ?_
   have hxt:X.take (ps'.length*7)=X:=List.take_of_length_le yA
   simp[hxt]
   refine aa.trim [8] [0,1,3] 4 (by simp[aA,bt]) yA ⟨_,?_,rfl,?_,rfl⟩
   ·simp[hX]
   ·simp[bt]
end Go.Proofs.YtmnglemlimfpbaaGreat
