/- writer.expr, writer.index. | writer.ref. | writer.args. -/
import Derived.Test.YtmnglemlimfpbaaGreatZ19
import Derived.Test.YtmnglemlimfpbaaGreatZ18
namespace Go.Proofs.YtmnglemlimfpbaaGreat
open Go.Can Go.bg
def bp (gs:List Gl)(ms:List Mx)(nf left:Nat)(ar:Bool):Ob:=⟨129,0,[.aq 0 0,.ax (gs.flatMap ny) gs.length,.ax (ms.flatMap js) ms.length,.bw 2 0 nf,I left,.bool ar]⟩
@[simp] theorem wrOb_frz (gs:List Gl)(ms:List Mx)(nf left:Nat)(ar:Bool)(o:Nat)(h:o≠0)(h2:o≠2)(cs:List CV)(n:Nat):(⟨(bp gs ms nf left ar).elem,(bp gs ms nf left ar).sz,(bp gs ms nf left ar).cells.map (cm o cs n)⟩:Ob)=bp gs ms nf left ar:=by
 have h':¬ 0=o:=fun e=>h e.symm
 have h2':¬ 2=o:=fun e=>h2 e.symm
 simp[bp,h',h2']
@[simp] theorem Jj (ρ:Nat→Nat)(h0:ρ 0=0)(h2:ρ 2=2)(gs:List Gl)(ms:List Mx)(nf left:Nat)(ar:Bool):bD ρ (bp gs ms nf left ar)=bp gs ms nf left ar:=by
 simp only[bD,bp,bJ,dr,h0,h2]
@[simp] theorem Jh (L:List Int)(i n:Nat):(au L i).cells.all (aG n)=true:=rfl
@[simp] theorem Jf (L:List Int)(i n:Nat):aC n (au L i).cells=true:=rfl
@[simp] theorem CY (gs:List Gl)(ms:List Mx)(nf left:Nat)(ar:Bool)(n:Nat)(h:2<n):(bp gs ms nf left ar).cells.all (aG n)=true:=by
 have h':0<n:=by omega
 simp[bp,h,h']
@[simp] theorem wrOb_lts (gs:List Gl)(ms:List Mx)(nf left:Nat)(ar:Bool)(n:Nat)(h:2<n):aC n (bp gs ms nf left ar).cells=true:=by rw[aD];exact CY gs ms nf left ar n h
theorem ak (r:Rf):trees (j3 r)=true:=by
 rcases r with ⟨_,_ | _⟩<;>rfl
theorem lV (L:List Int)(hL:L.length≤1000)(vars:List ByteArray)(hv:vars.length≤1000)(gs:List Gl)(ms:List Mx)(nf left:Nat)(ar:Bool)(i:Nat)(hi:i≤L.length) :
  Body Tryz.prog aj 87 [.aq 1 0,.bw 3 0 vars.length] [(0,au L i),(1,bp gs ms nf left ar),(3,ba vars)] 4 (iR (.agg (bB (da L ar vars i).1)) [(0,au L (da L ar vars i).2),(1,bp gs ms nf left ar),(3,ba vars)] 4):=by
 refine Body.iN Tryz.func87 rfl (by kernel_rfl) (by simp[Tryz.ntmps87]) fun C hC hC0=>?_
 rw[Tryz.ntmps87] at hC
 refine T.seq (T.go' aa ?_)
 simp[hC]
 cases ar with
 | false=>
  refine T.seq (T.seq (T.go' aa ?_))
  simp[hC,bp]
  refine T.cond (b:=true) rfl ?_
  simp
  refine T.seq (T.go' aa ?_)
  simp[hC]
  refine TL.cr aa [0,3] 4 (rP L hL vars hv 0 i (by omega) hi) (by simp[hC]) rfl rfl rfl rfl (by simp) (by first | rfl | simp[aC,aG,aD,aT,-List.all_eq_true]) (by first | rfl | simp[au,ints]) rfl (TL.go' aa ?_)
  simp[bA]
  refine T.ret ?_
  refine ae.le (Le.trim [4] [0,1,3,4] 5 (by simp[au,-List.all_eq_true,aT]) (by omega)) ?_
  simp
  refine ae.le (Le.nz [] [4]) ?_
  simp
  refine ae.le (Le.eM (o:=4) rfl (by first | rfl | exact ag _)) ?_
  simp
  refine ae.trim [4] [0,1,3] 4 (by simp[au]) (by omega) ⟨_,?_,rfl,?_,rfl⟩
  ·simp[da,oC,bA]
  ·simp[da]
 | true=>
  refine T.seq (T.seq (T.go' aa ?_))
  simp[hC,bp]
  refine T.cond (b:=false) rfl (T.skip ?_)
  simp
  have hlt:=cX L i (show 0<2 by omega)
  have w1:=db (1+((bS L i 2).1:Int)) (by omega) (by omega)
  refine T.seq ?_
  refine T.rx aa follows [0,1,2,3,4,5,6,7,8,9,10,11,12] [(3,9)] (by kernel_rfl) ?_
  simp[hC]
  refine RX.cr [0] [0] 1 (cc L i 2 hi hL (by omega) (by omega)) rfl (by simp) rfl rfl rfl rfl (by simp) (by first | rfl | simp[aC,aG,aD,aT,-List.all_eq_true]) (by first | rfl | simp[au,ints]) rfl rfl rfl (by simp) ?_
  simp[w1]
  refine RX.cr [0,3] [0] 4 (rP L hL vars hv (1+(bS L i 2).1) _ (by omega) (a8 _ _ hi)) rfl (by simp) rfl rfl rfl rfl (by simp) (by first | rfl | simp[aC,aG,aD,aT,-List.all_eq_true]) (by first | rfl | simp[au,ints]) rfl rfl rfl (by simp) ?_
  simp[bA]
  refine T.ret ?_
  refine ae.le (Le.trim [4] [0,1,3,4] 18 (by simp[au,-List.all_eq_true,aT]) (by omega)) ?_
  simp
  refine ae.le (Le.nz [] [4]) ?_
  simp
  refine ae.le (Le.eM (o:=4) rfl (by first | rfl | exact ag _)) ?_
  simp
  refine ae.trim [4] [0,1,3] 4 (by simp[au]) (by omega) ⟨_,?_,rfl,?_,rfl⟩
  ·simp[da,oC,bA]
  ·simp[da]
theorem Bt (L:List Int)(hL:L.length≤1000)(vars:List ByteArray)(hv:vars.length≤1000)(gs:List Gl)(ms:List Mx)(nf left size:Nat)(hs:0<size)(hs2:size≤1000)(ar:Bool)(i:Nat)(hi:i≤L.length) :
  Body Tryz.prog aj 122 [.aq 1 0,.bw 3 0 vars.length,I size] [(0,au L i),(1,bp gs ms nf left ar),(3,ba vars)] 4 (iR (.agg (bB (nc L ar vars size i).1)) [(0,au L (nc L ar vars size i).2),(1,bp gs ms nf left ar),(3,ba vars)] 4):=by
 refine Body.iN Tryz.func122 rfl (by kernel_rfl) (by simp[Tryz.ntmps122]) fun C hC hC0=>?_
 rw[Tryz.ntmps122] at hC
 refine T.seq (T.go' aa ?_)
 simp[hC]
 have hi3:=a8 L 3 hi
 cases ar with
 | false=>
  refine T.seq (T.seq (T.go' aa ?_))
  simp[hC,bp]
  refine T.cond (b:=false) rfl (T.skip ?_)
  simp
  refine T.seq (T.go' aa ?_)
  simp[hC]
  refine TL.cr aa [0] 1 (cc L i size hi hL hs (by omega)) (by simp[hC]) rfl rfl rfl rfl (by simp) (by first | rfl | simp[aC,aG,aD,aT,-List.all_eq_true]) (by first | rfl | simp[au,ints]) rfl (TL.go' aa ?_)
  simp[hC]
  refine T.ret ?_
  refine ae.le (Le.trim [6] [0,1,3,4] 5 (by simp[au,-List.all_eq_true]) (by omega)) ?_
  simp
  refine ae.le (Le.nz [] [4]) ?_
  simp
  refine ae.le (Le.eM (o:=4) rfl (by first | rfl | exact ag _)) ?_
  simp
  refine ae.trim [6] [0,1,3] 4 (by simp[au]) (by omega) ⟨_,?_,rfl,?_,rfl⟩
  ·simp[nc,bB,eS]
  ·simp[nc]
 | true=>
  refine T.seq (T.seq (T.go' aa ?_))
  simp[hC,bp]
  refine TL.cr aa [0] 1 (cc L i 3 hi hL (by omega) (by omega)) (by simp[hC]) rfl rfl rfl rfl (by simp) (by first | rfl | simp[aC,aG,aD,aT,-List.all_eq_true]) (by first | rfl | simp[au,ints]) rfl (TL.go' aa ?_)
  simp[hC]
  refine T.bf rfl (fun h=>?_) (fun h=>?_)
  ·have h1:(bS L i 3).1=1:=by simpa using h
   refine T.seq (T.go' aa ?_)
   simp[hC]
   refine TL.cr aa [0,3] 4 (rP L hL vars hv 1 _ (by omega) hi3) (by simp[hC]) rfl rfl rfl rfl (by simp) (by first | rfl | simp[aC,aG,aD,aT,-List.all_eq_true]) (by first | rfl | simp[au,ints]) rfl (TL.go' aa ?_)
   simp[bA]
   refine T.ret ?_
   refine ae.le (Le.trim [6] [0,1,3,4] 5 (by simp[au,-List.all_eq_true,aT]) (by omega)) ?_
   simp
   refine ae.le (Le.nz [] [4]) ?_
   simp
   refine ae.le (Le.eM (o:=4) rfl (by first | rfl | exact ag _)) ?_
   simp
   refine ae.trim [6] [0,1,3] 4 (by simp[au]) (by omega) ⟨_,?_,rfl,?_,rfl⟩
   ·simp[nc,h1,oC,bA]
   ·simp[nc,h1]
  ·have h1:¬ (bS L i 3).1=1:=by simpa using h
   refine T.skip ?_
   simp
   refine T.seq (T.go' aa ?_)
   simp[hC]
   refine TL.cr aa [0] 1 (cc L _ size hi3 hL hs (by omega)) (by simp[hC]) rfl rfl rfl rfl (by simp) (by first | rfl | simp[aC,aG,aD,aT,-List.all_eq_true]) (by first | rfl | simp[au,ints]) rfl (TL.go' aa ?_)
   simp[hC]
   refine T.ret ?_
   refine ae.le (Le.trim [6] [0,1,3,4] 5 (by simp[au,-List.all_eq_true]) (by omega)) ?_
   simp
   refine ae.le (Le.nz [] [4]) ?_
   simp
   refine ae.le (Le.eM (o:=4) rfl (by first | rfl | exact ag _)) ?_
   simp
   refine ae.trim [6] [0,1,3] 4 (by simp[au]) (by omega) ⟨_,?_,rfl,?_,rfl⟩
   ·simp[nc,bB,eS,h1]
   ·simp[nc,h1]
end Go.Proofs.YtmnglemlimfpbaaGreat
namespace Go.Proofs.YtmnglemlimfpbaaGreat
open Go.Can Go.bg
def j4:List CV:=[.str ⟨#[]⟩,.ai]
def eV (nm:ByteArray)(ps:List Pm)(bc:List CV)(bn:Nat):List CV:=[.str nm,.ax (ps.flatMap jL) ps.length,.ax bc bn]
section
variable (L:List Int)(vars:List ByteArray)(gs:List Gl)(ms:List Mx)(nf left:Nat)(ar:Bool)(i:Nat)(nm:ByteArray)(ps:List Pm)(bc:List CV)(bn:Nat)
def J86 (m:Nat)(s:St):Prop:=∃ k:Nat,m=ms.length-k∧k≤ms.length∧
 s=⟨[(8,I k),(7,.bw 6 0 k),(6,.aq 5 0),(4,.aq 4 0),(0,.aq 1 0),(2,.bw 3 0 vars.length)],[(0,au L i),(1,bp gs ms nf left ar),(3,ba vars),(4,⟨137,0,eV nm ps bc bn⟩),(5,⟨185,0,j4⟩),(6,ba ((ms.take k).map (·.name)))],7⟩
def K86 (m:Nat)(s:St):Prop:=∃ k:Nat,m=ps.length-k∧k≤ps.length∧
 s=⟨[(10,I k),(9,I ms.length),(7,.bw 6 0 (bN ms (ps.take k)).length),(6,.aq 5 0),(4,.aq 4 0),(0,.aq 1 0),(2,.bw 3 0 vars.length)],[(0,au L i),(1,bp gs ms nf left ar),(3,ba vars),(4,⟨137,0,eV nm ps bc bn⟩),(5,⟨185,0,j4⟩),(6,ba (bN ms (ps.take k)))],7⟩
end
theorem qQ (L:List Int)(hL:L.length≤1000)(vars:List ByteArray)(hv:vars.length≤1000)(gs:List Gl)(ms:List Mx)(hm:0<ms.length)(hm2:ms.length≤100)(hsz:∀ m∈ms,m.size≤1000)(nf left:Nat)(ar:Bool)(i:Nat)(hi:i≤L.length)
  (nm:ByteArray) (ps:List Pm) (hp:ps.length≤100) (bc:List CV) (bn:Nat) :
  Body Tryz.prog aj 86 [.aq 1 0,.agg (eV nm ps bc bn),.bw 3 0 vars.length] [(0,au L i),(1,bp gs ms nf left ar),(3,ba vars)] 4 (iR (.agg (j3 (iM L ar ms ps vars i).1)) [(0,au L (iM L ar ms ps vars i).2),(1,bp gs ms nf left ar),(3,ba vars)] 4):=by
 generalize hres:iM L ar ms ps vars i=res
 refine Body.iN Tryz.func86 rfl (by kernel_rfl) (by simp[Tryz.ntmps86]) fun C hC hC0=>?_
 rw[Tryz.ntmps86] at hC
 refine T.seq (T.go' aa ?_)
 simp[hC,eV]
 refine T.seq (T.go' aa ?_)
 simp[hC]
 refine T.seq (T.seq (T.go' aa ?_))
 simp[hC]
 refine T.block ?_
 refine T.aS (J86 L vars gs ms nf left ar i nm ps bc bn) (n:=ms.length) ?_ ?_
 ·refine ae.le (Le.own 7 9 1 rfl) (ae.trim [8,7,6,4,0,2] [0,1,3,4,5,6] 7 (by simp[au,bp]) (by omega) ⟨0,rfl,Nat.zero_le _,?_⟩)
  simp[ba,j4,eV]
 ·rintro n s ⟨k,rfl,hk,rfl⟩
  have hNl:((ms.take k).map (·.name)).length=k:=by simp;omega
  generalize hN:(ms.take k).map (·.name)=N at hNl
  refine T.seq (T.seq (T.go' aa ?_))
  simp[hC,bp]
  refine T.bf rfl (fun h=>?_) (fun h=>?_)
  ·have hkl:k<ms.length:=by simpa using h
   obtain⟨m,hmk⟩:∃ m,ms[k]? = some m:=⟨ms[k],List.getElem?_eq_getElem hkl⟩
   have hd:=aV (f:=js) (n:=3) (fun _=>rfl) hmk
   have wi:=db ((k:Int)+1) (by omega) (by omega)
   have hb:(k+1)*16≤140737488355328:=by omega
   have htk:ms.take (k+1)=ms.take k++[m]:=by rw[List.take_add_one,hmk];rfl
   have hN':(ms.take (k+1)).map (·.name)=N++[m.name]:=by rw[htk,List.map_append,hN];rfl
   refine T.skip ?_
   simp
   refine T.seq (T.block (T.go' aa ?_))
   simp[hC,hkl,hd,js,ba,hb,hNl]
   refine T.go' aa ?_
   simp[hC,wi]
   refine⟨ms.length-(k+1),by omega,ae.le (Le.trim [8,7,6,4,0,2] [0,1,3,4,5,8] 9 (by simp[au,eV,j4]) (by omega)) ?_⟩
   simp
   refine ae.le (Le.na 8 6 rfl rfl (by omega) (by simp) (by simp ) (by simp[au,ints,eV,j4])) ?_
   simp[au,ints,eV,j4]
   refine ae.trim [8,7,6,4,0,2] [0,1,3,4,5,6] 7 (by simp) (by omega) ⟨k+1,rfl,hkl,?_⟩
   simp only[hN']
   simp[ba,j4,eV,bp,au,ints]
  ·have hkl:k=ms.length:=by
    have:¬ k<ms.length:=by simpa using h
    omega
   subst hkl
   rw[List.take_length] at hN
   refine T.exit ?_
   simp
   refine T.le (Le.trim [7,6,4,0,2] [0,1,3,4,5,6] 7 (by simp[au,eV,j4,ba]) (by omega)) ?_
   simp
   refine T.seq (T.go' aa ?_)
   simp[hC,ba]
   refine T.seq (T.seq (T.go' aa ?_))
   simp[hC]
   refine T.block ?_
   refine T.aS (K86 L vars gs ms nf left ar i nm ps bc bn) (n:=ps.length) ?_ ?_
   ·refine ae.trim [10,9,7,6,4,0,2] [0,1,3,4,5,6] 7 (by simp[au,eV,j4]) (by omega) ⟨0,rfl,Nat.zero_le _,?_⟩
    simp[ba,j4,eV,bN,← hN,bp]
   ·rintro n s ⟨j,rfl,hj,rfl⟩
    have hNl2:(bN ms (ps.take j)).length≤300:=by
     have:∀ l:List Pm,(l.flatMap CF).length≤l.length*2:=by
      intro l
      induction l with
      | nil=>simp
      | cons a r ih=>
       simp only[List.flatMap_cons,List.length_append,List.length_cons]
       have:(CF a).length≤2:=by unfold CF;split<;>simp
       omega
     have h1:=this (ps.take j)
     simp only[bN,List.length_append,List.length_map]
     simp only[List.length_take] at h1
     omega
    generalize hN2:bN ms (ps.take j)=N2 at hNl2
    refine T.seq (T.seq (T.go' aa ?_))
    simp[hC,eV]
    refine T.bf rfl (fun h=>?_) (fun h=>?_)
    ·have hjl:j<ps.length:=by simpa using h
     obtain⟨p,hpj⟩:∃ p,ps[j]? = some p:=⟨ps[j],List.getElem?_eq_getElem hjl⟩
     have hd:=aV (f:=jL) (n:=2) (fun _=>rfl) hpj
     have hd1:=bG (f:=jL) (n:=2) (fun _=>rfl) hpj 1 (by omega)
     have wi:=db ((j:Int)+1) (by omega) (by omega)
     have htk:ps.take (j+1)=ps.take j++[p]:=by rw[List.take_add_one,hpj];rfl
     have hN3:bN ms (ps.take (j+1))=N2++CF p:=by rw[htk,← hN2];simp[bN]
     refine T.skip ?_
     simp
     refine T.seq (T.block (T.seq (T.go' aa ?_)))
     simp[hC,hjl,hd1,jL]
     refine T.cond (b:=p.mutex) rfl ?_
     cases hpm:p.mutex with
     | true=>
      have hn2:CF p=[p.name,p.name]:=by simp[CF,hpm]
      have hb:(N2.length+2)*16≤140737488355328:=by omega
      simp
      refine T.rx aa follows [0,1,2,3,4,5,6,7,8,9,10,11,12,13,14,15] [] (by kernel_rfl) ?_
      simp[hC,hjl,hd,jL,ba,hb]
      refine T.go' aa ?_
      simp[hC,wi]
      refine⟨ps.length-(j+1),by omega,ae.le (Le.trim [10,9,7,6,4,0,2] [0,1,3,4,5,23] 24 (by simp[au,j4,bp]) (by omega)) ?_⟩
      simp
      refine ae.le (Le.na 23 6 rfl rfl (by omega) (by simp) (by simp ) (by simp[au,ints,j4,bp])) ?_
      simp[au,ints,j4,bp]
      refine ae.trim [10,9,7,6,4,0,2] [0,1,3,4,5,6] 7 (by simp) (by omega) ⟨j+1,rfl,hjl,?_⟩
      simp only[hN3,hn2]
      simp[ba,j4,eV,bp,au,ints]
     | false=>
      have hn2:CF p=[]:=by simp[CF,hpm]
      simp
      refine T.skip ?_
      simp
      refine T.go' aa ?_
      simp[hC,wi]
      refine⟨ps.length-(j+1),by omega,ae.trim [10,9,7,6,4,0,2] [0,1,3,4,5,6] 7 (by simp[au,j4,bp,ba]) (by omega) ⟨j+1,rfl,hjl,?_⟩⟩
      simp only[hN3,hn2]
      simp[ba,j4,eV,bp,au,ints]
    ·have hjl:j=ps.length:=by
      have:¬ j<ps.length:=by simpa using h
      omega
     subst hjl
     rw[List.take_length] at hN2
     refine T.exit ?_
     simp
     refine T.le (Le.trim [9,7,6,4,0,2] [0,1,3,4,5,6] 7 (by simp[au,j4,ba,bp]) (by omega)) ?_
     simp
     have hN0:0<N2.length:=by rw[← hN2];simp[bN];omega
     refine T.seq (T.go' aa ?_)
     simp[hC,bp]
     refine TL.cr aa [0] 1 (cc L i N2.length hi hL hN0 (by omega)) (by simp[hC]) rfl rfl rfl rfl (by simp) (by first | rfl | simp[aC,aG,aD,aT,-List.all_eq_true]) (by first | rfl | simp[au,ints]) rfl (TL.go' aa ?_)
     simp[hC]
     have hi1:=a8 L N2.length hi
     have hlt:=cX L i hN0
     have hre:res=if (bS L i N2.length).1<ms.length∧0<jZ ms (bS L i N2.length).1 then
       (⟨N2.getD (bS L i N2.length).1 eS,some (nc L ar vars (jZ ms (bS L i N2.length).1) (bS L i N2.length).2).1⟩,(nc L ar vars (jZ ms (bS L i N2.length).1) (bS L i N2.length).2).2)
       else (⟨N2.getD (bS L i N2.length).1 eS,none⟩,(bS L i N2.length).2):=by rw[← hN2,← hres];rfl
     generalize bS L i N2.length=k at hi1 hlt hre
     have hdr:=iw hlt
     refine T.seq (T.go' aa ?_)
     simp[hC,ba,hlt,hdr]
     have hgd:N2.getD k.1 eS=N2[k.1]:=by simp[List.getD,hlt]
     rw[hgd] at hre
     refine T.le (Le.trim [12,11,9,6,0,2] [0,1,3,5,7] 8 (by simp[au,j4]) (by omega)) ?_
     simp
     refine T.seq (T.seq ?_)
     by_cases hkm:k.1<ms.length
     ·obtain⟨m,hmk⟩:∃ m,ms[k.1]? = some m:=⟨ms[k.1],List.getElem?_eq_getElem hkm⟩
      have hd:=bG (f:=js) (n:=3) (fun _=>rfl) hmk 2 (by omega)
      have hsa:jZ ms k.1=m.size:=by simp[jZ,hmk]
      have hms:=hsz m (List.mem_of_getElem? hmk)
      have hd0:=bG (f:=js) (n:=3) (fun _=>rfl) hmk 0 (by omega)
      rw[hsa] at hre
      refine T.go' aa ?_
      simp[hC,hkm,hd,js]
      refine T.bf rfl (fun h=>?_) (fun h=>?_)
      ·have hs0:0<m.size:=by simpa using h
       rw[if_pos ⟨hkm,hs0⟩] at hre
       refine T.go' aa ?_
       simp[hC,hkm,hd,js]
       refine TL.cr aa [0,1,3] 4 (Bt L hL vars hv gs ms nf left m.size hs0 hms ar k.2 hi1) (by simp[hC]) rfl rfl rfl rfl (by simp) rfl (by first | rfl | simp[au,ints,bp]) rfl (TL.go' aa ?_)
       simp[hC,bA,aX]
       refine T.seq (T.go' aa ?_)
       simp[hC,j4]
       refine T.ret ?_
       refine ae.le (Le.trim [6] [0,1,3,5,8] 9 (by simp[au,bp,-List.all_eq_true,aT]) (by omega)) ?_
       simp
       refine ae.le (Le.eM (o:=8) rfl (ag _)) ?_
       simp
       refine ae.le (Le.eM (o:=5) rfl rfl) ?_
       simp
       refine ae.trim [6] [0,1,3] 4 (by simp[au,bp]) (by omega) ⟨_,?_,rfl,?_,rfl⟩
       ·simp[hre,j3,nu]
       ·simp[hre,bp,ba]
      ·have hs0:¬ 0<m.size:=by simpa using h
       rw[if_neg fun h=>hs0 h.2] at hre
       refine T.skip ?_
       simp
       refine T.seq (T.go' aa ?_)
       simp[hC,j4]
       refine T.ret ?_
       refine ae.le (Le.trim [6] [0,1,3,5] 8 (by simp[au,-List.all_eq_true]) (by omega)) ?_
       simp
       refine ae.le (Le.nz [] [5]) ?_
       simp
       refine ae.le (Le.eM (o:=5) rfl (by first | rfl | exact ag _)) ?_
       simp
       refine ae.trim [6] [0,1,3] 4 (by simp[au]) (by omega) ⟨_,?_,rfl,?_,rfl⟩
       ·simp[hre,j3,nu]
       ·simp[hre]
     ·rw[if_neg fun h=>hkm h.1] at hre
      refine T.go' aa ?_
      simp[hC,hkm]
      refine T.cond (b:=false) rfl (T.skip ?_)
      simp
      refine T.seq (T.go' aa ?_)
      simp[hC,j4]
      refine T.ret ?_
      refine ae.le (Le.trim [6] [0,1,3,5] 8 (by simp[au,-List.all_eq_true]) (by omega)) ?_
      simp
      refine ae.le (Le.nz [] [5]) ?_
      simp
      refine ae.le (Le.eM (o:=5) rfl (by first | rfl | exact ag _)) ?_
      simp
      refine ae.trim [6] [0,1,3] 4 (by simp[au]) (by omega) ⟨_,?_,rfl,?_,rfl⟩
      ·simp[hre,j3,nu]
      ·simp[hre]
end Go.Proofs.YtmnglemlimfpbaaGreat
namespace Go.Proofs.YtmnglemlimfpbaaGreat
open Go.Can Go.bg
theorem rA (x:Ar):(ni x).length=7:=by cases x<;>simp[ni,j3,j5,bA]
theorem od (L:List Int)(ar:Bool)(ms:List Mx)(ps:List Pm)(vars:List ByteArray)(p:Pm):∀ (l:List Pm) (i:Nat),cU L ar ms ps vars (l++[p]) i=((cU L ar ms ps vars l i).1++(cU L ar ms ps vars [p] (cU L ar ms ps vars l i).2).1,(cU L ar ms ps vars [p] (cU L ar ms ps vars l i).2).2)
 | [],i=>by simp[cU]
 | q::r,i=>by
  rw[List.cons_append,cU,cU]
  split
  ·rw[od L ar ms ps vars p r];simp
  ·rw[od L ar ms ps vars p r];simp
theorem qg (L:List Int)(ar:Bool)(ms:List Mx)(ps:List Pm)(vars:List ByteArray):∀ (l:List Pm) (i:Nat),(cU L ar ms ps vars l i).1.length=l.length
 | [],i=>rfl
 | q::r,i=>by
  rw[cU]
  split<;>simp[qg L ar ms ps vars r]
@[simp] theorem Io (l:List Ar):(l.flatMap ni).map nz=l.flatMap ni:=by
 induction l with
 | nil=>rfl
 | cons a r ih=>
  rw[List.flatMap_cons,List.map_append,ih]
  congr 1
  rcases a with ⟨_,_ | _⟩ | e<;>simp[ni,j3,j5,nu,bB]
@[simp] theorem nz_opC (e:Option Ex):nz (nu e)=nu e:=by cases e<;>rfl
@[simp] theorem tree_opC (e:Option Ex):tree (nu e)=true:=by cases e<;>rfl
@[simp] theorem H6 (n:Nat)(e:Option Ex):aG n (nu e)=true:=by cases e<;>rfl
@[simp] theorem JF (n:Nat)(e:Option Ex):aL n (nu e)=true:=by cases e<;>rfl
@[simp] theorem ok1_opC (o q:Nat)(e:Option Ex):lL o q (nu e)=true:=by cases e<;>rfl
@[simp] theorem ren1_opC (o q:Nat)(e:Option Ex):cH o q (nu e)=nu e:=by cases e<;>rfl
@[simp] theorem frzV_opC (o:Nat)(cs:List CV)(n:Nat)(e:Option Ex):cm o cs n (nu e)=nu e:=by cases e<;>rfl
theorem qY (o q:Nat)(e:Ex):(bB e).all (lL o q)=true:=a6 (ag e) o q
@[simp] theorem ren1_exC (o q:Nat)(e:Ex):(bB e).map (cH o q)=bB e:=aY (ag e) o q
theorem Bw (l:List Ar):trees (l.flatMap ni)=true:=by
 induction l with
 | nil=>rfl
 | cons a r ih=>
  rw[List.flatMap_cons,bh,ih,Bool.and_true]
  rcases a with ⟨_,_ | _⟩ | e<;>simp only[ni,j3,j5,nu,List.cons_append,List.nil_append,trees,tree,ag,Bool.and_self]
section
variable (L:List Int)(vars:List ByteArray)(gs:List Gl)(ms:List Mx)(nf left:Nat)(ar:Bool)(i:Nat)(nm:ByteArray)(ps:List Pm)(bc:List CV)(bn:Nat)(nm':ByteArray)(ps':List Pm)(bc':List CV)(bn':Nat)
def J88 (m:Nat)(s:St):Prop:=∃ k:Nat,m=ps'.length-k∧k≤ps'.length∧
 s=⟨[(10,I k),(9,.bw 6 0 k),(6,.aq 5 0),(5,.aq 4 0),(0,.aq 1 0),(3,.bw 3 0 vars.length)],[(0,au L (cU L ar ms ps vars (ps'.take k) i).2),(1,bp gs ms nf left ar),(3,ba vars),(4,⟨137,0,eV nm ps bc bn⟩),(5,⟨137,0,eV nm' ps' bc' bn'⟩),(6,⟨227,7,(cU L ar ms ps vars (ps'.take k) i).1.flatMap ni⟩)],7⟩
end
theorem CZ (L:List Int)(hL:L.length≤1000)(vars:List ByteArray)(hv:vars.length≤1000)(gs:List Gl)(ms:List Mx)(hm:0<ms.length)(hm2:ms.length≤100)(hsz:∀ m∈ms,m.size≤1000)(nf left:Nat)(ar:Bool)(i:Nat)(hi:i≤L.length)
  (nm:ByteArray) (ps:List Pm) (hp:ps.length≤100) (bc:List CV) (bn:Nat) (nm':ByteArray) (ps':List Pm) (hp':ps'.length≤100) (bc':List CV) (bn':Nat) :
  Body Tryz.prog aj 88 [.aq 1 0,.agg (eV nm ps bc bn),.agg (eV nm' ps' bc' bn'),.bw 3 0 vars.length] [(0,au L i),(1,bp gs ms nf left ar),(3,ba vars)] 4
   (iR (.ax ((cU L ar ms ps vars ps' i).1.flatMap ni) ps'.length) [(0,au L (cU L ar ms ps vars ps' i).2),(1,bp gs ms nf left ar),(3,ba vars)] 4):=by
 refine Body.iN Tryz.func88 rfl (by kernel_rfl) (by simp[Tryz.ntmps88]) fun C hC hC0=>?_
 rw[Tryz.ntmps88] at hC
 refine T.seq (T.go' aa ?_)
 simp[hC,eV]
 refine T.seq (T.go' aa ?_)
 simp[hC]
 refine T.seq (T.seq (T.go' aa ?_))
 simp[hC]
 refine T.block ?_
 refine T.aS (J88 L vars gs ms nf left ar i nm ps bc bn nm' ps' bc' bn') (n:=ps'.length) ?_ ?_
 ·refine ae.le (Le.own 9 227 7 rfl) (ae.trim [10,9,6,5,0,3] [0,1,3,4,5,6] 7 (by simp[au,bp]) (by omega) ⟨0,rfl,Nat.zero_le _,?_⟩)
  simp[cU,eV]
 ·rintro n s ⟨k,rfl,hk,rfl⟩
  have hAl:(cU L ar ms ps vars (ps'.take k) i).1.length=k:=by rw[qg];simp;omega
  have hi1:(cU L ar ms ps vars (ps'.take k) i).2≤L.length:=pw _ _ _ _ _ _ hi
  have hfl:=bu (f:=ni) (n:=7) rA (cU L ar ms ps vars (ps'.take k) i).1
  rw[hAl] at hfl
  have hst:=Bw (cU L ar ms ps vars (ps'.take k) i).1
  generalize hA:cU L ar ms ps vars (ps'.take k) i=A at hAl hi1 hfl hst
  have hnz:=Io A.1
  generalize hX:A.1.flatMap ni=X at hfl hst hnz
  have hl8:=af hst 9
  have hok:=a6 hst 8 6
  have hrn:=aY hst 8 6
  have hl6:=af hst 7
  refine T.seq (T.seq (T.go' aa ?_))
  simp[hC,eV]
  refine T.bf rfl (fun h=>?_) (fun h=>?_)
  ·have hkl:k<ps'.length:=by simpa using h
   obtain⟨p,hpk⟩:∃ p,ps'[k]? = some p:=⟨ps'[k],List.getElem?_eq_getElem hkl⟩
   have hd1:=bG (f:=jL) (n:=2) (fun _=>rfl) hpk 1 (by omega)
   have wi:=db ((k:Int)+1) (by omega) (by omega)
   have htk:ps'.take (k+1)=ps'.take k++[p]:=by rw[List.take_add_one,hpk];rfl
   have hA1:cU L ar ms ps vars (ps'.take (k+1)) i=(A.1++(cU L ar ms ps vars [p] A.2).1,(cU L ar ms ps vars [p] A.2).2):=by rw[htk,od,hA]
   have hb:(k+1)*104≤140737488355328:=by omega
   refine T.skip ?_
   simp
   refine T.seq (T.block (T.seq (T.go' aa ?_)))
   simp[hC,hkl,hd1,jL]
   refine T.cond (b:=p.mutex) rfl ?_
   cases hpm:p.mutex with
   | true=>
    have hre:cU L ar ms ps vars [p] A.2=([.sr (iM L ar ms ps vars A.2).1],(iM L ar ms ps vars A.2).2):=by simp[cU,hpm]
    rw[hre] at hA1
    simp
    refine T.go' aa ?_
    simp[hC]
    refine TL.cr aa [0,1,3] 4 (qQ L hL vars hv gs ms hm hm2 hsz nf left ar A.2 hi1 nm ps hp bc bn) (by simp[hC]) rfl rfl rfl rfl (by simp) rfl (by first | rfl | simp[au,ints,bp]) rfl (TL.go' aa ?_)
    simp[hC,j3,aX,hfl,hb]
    refine T.go' aa ?_
    simp[hC,wi]
    refine⟨ps'.length-(k+1),by omega,ae.le (Le.trim [10,9,6,5,0,3] [0,1,3,4,5,8] 9 (by simp[au,bp,-List.all_eq_true,hl8]) (by omega)) ?_⟩
    simp
    refine ae.le (Le.nz [] [8]) ?_
    simp[hnz]
    refine ae.le (Le.na 8 6 rfl rfl (by omega) (by simp) (by simp ) (by simp[au,ints,bp,-List.all_eq_true,hok])) ?_
    simp[au,ints,bp,hrn]
    refine ae.trim [10,9,6,5,0,3] [0,1,3,4,5,6] 7 (by simp[-List.all_eq_true,hl6]) (by omega) ⟨k+1,rfl,hkl,?_⟩
    simp only[hA1]
    simp[eV,bp,au,ints,ni,j3,bB,eS,hX]
   | false=>
    have hre:cU L ar ms ps vars [p] A.2=([.exp (da L ar vars A.2).1],(da L ar vars A.2).2):=by simp[cU,hpm]
    rw[hre] at hA1
    simp
    refine T.go' aa ?_
    simp[hC]
    refine TL.cr aa [0,1,3] 4 (lV L hL vars hv gs ms nf left ar A.2 hi1) (by simp[hC]) rfl rfl rfl rfl (by simp) rfl (by first | rfl | simp[au,ints,bp]) rfl (TL.go' aa ?_)
    simp[hC,bA,aX,hfl,hb]
    refine T.go' aa ?_
    simp[hC,wi]
    refine⟨ps'.length-(k+1),by omega,ae.le (Le.trim [10,9,6,5,0,3] [0,1,3,4,5,8] 9 (by simp[au,bp,-List.all_eq_true,hl8,aT]) (by omega)) ?_⟩
    simp
    refine ae.le (Le.nz [] [8]) ?_
    simp[hnz]
    refine ae.le (Le.na 8 6 rfl rfl (by omega) (by simp) (by simp ) (by simp[au,ints,bp,-List.all_eq_true,hok,qY])) ?_
    simp[au,ints,bp,hrn]
    refine ae.trim [10,9,6,5,0,3] [0,1,3,4,5,6] 7 (by simp[-List.all_eq_true,hl6,aT]) (by omega) ⟨k+1,rfl,hkl,?_⟩
    simp only[hA1]
    simp[eV,bp,au,ints,ni,j5,eS,hX]
  ·have hkl:k=ps'.length:=by
    have:¬ k<ps'.length:=by simpa using h
    omega
   subst hkl
   rw[List.take_length] at hA
   rw[hA]
   refine T.exit ?_
   simp
   refine T.seq (T.go' aa ?_)
   simp[hC]
   refine T.ret ?_
   refine ae.le (Le.trim [8] [0,1,3,6] 7 (by simp[au,bp,-List.all_eq_true,hl6]) (by omega)) ?_
   simp
   refine ae.le (Le.eM (o:=6) rfl hst) ?_
   have hxt:X.take (ps'.length*7)=X:=List.take_of_length_le (by omega)
   simp[hxt]
   refine ae.trim [8] [0,1,3] 4 (by simp[au,bp]) (by omega) ⟨_,?_,rfl,?_,rfl⟩
   ·simp[hX]
   ·simp[bp]
end Go.Proofs.YtmnglemlimfpbaaGreat
