/- writer.expr, writer.index. -/
import Derived.Test.YtnecpnjdonibmaaGreatZ21
namespace Go.Proofs.YtnecpnjdonibmaaGreat
open Go.Can Go.aP
def bq (gs:List Gl)(ms:List Mx)(nf left:Nat)(ar:Bool):Ob:=⟨185,0,[.av 0 0,.az (gs.flatMap nW) gs.length,.az (ms.flatMap eL) ms.length,.bj 2 0 nf,I left,.bool ar]⟩
@[simp] theorem wrOb_frz (gs:List Gl)(ms:List Mx)(nf left:Nat)(ar:Bool)(o:Nat)(h:o≠0)(h2:o≠2)(cs:List CV)(n:Nat):(⟨(bq gs ms nf left ar).elem,(bq gs ms nf left ar).sz,(bq gs ms nf left ar).cells.map (cB o cs n)⟩:Ob)=bq gs ms nf left ar:=by
 have h':¬ 0=o:=fun e=>h e.symm;have Te:¬ 2=o:=fun e=>h2 e.symm;simp[bq,h',Te]
@[simp] theorem NC (ρ:Nat→Nat)(h0:ρ 0=0)(h2:ρ 2=2)(gs:List Gl)(ms:List Mx)(nf left:Nat)(ar:Bool):ct ρ (bq gs ms nf left ar)=bq gs ms nf left ar:=by
 simp only[ct,bq,cq,dR,h0,h2]
@[simp] theorem Nz (L:List Int)(i n:Nat):(aG L i).cells.all (a7 n)=true:=rfl
@[simp] theorem Nx (L:List Int)(i n:Nat):aS n (aG L i).cells=true:=rfl
@[simp] theorem FW (gs:List Gl)(ms:List Mx)(nf left:Nat)(ar:Bool)(n:Nat)(h:2<n):(bq gs ms nf left ar).cells.all (a7 n)=true:=by
 have h':0<n:=by omega
 simp[bq,h,h']
@[simp] theorem wrOb_lts (gs:List Gl)(ms:List Mx)(nf left:Nat)(ar:Bool)(n:Nat)(h:2<n):aS n (bq gs ms nf left ar).cells=true:=by rw[cr];exact FW gs ms nf left ar n h
theorem vA (r:Rf):trees (j9 r)=true:=by
 rcases r with ⟨_,_ | _⟩<;>rfl
theorem mb (L:List Int)(hL:L.length≤1000)(vars:List ByteArray)(hv:vars.length≤1000)(gs:List Gl)(ms:List Mx)(nf left:Nat)(ar:Bool)(i:Nat)(hi:i≤L.length) :
  Body Tryz.prog au 198 [.av 1 0,.bj 3 0 vars.length] [(0,aG L i),(1,bq gs ms nf left ar),(3,ba vars)] 4 (iy (.agg (bK (dc L ar vars i).1)) [(0,aG L (dc L ar vars i).2),(1,bq gs ms nf left ar),(3,ba vars)] 4):=by
 refine Body.iV Tryz.func198 rfl PH (by simp[Tryz.ntmps198]) fun C hC PN=>?_;rw[Tryz.ntmps198] at hC;apply aj;simp[hC]
 cases ar with
 | false=>
  apply aU;simp[hC,bq];refine fx ?_;simp;apply aj;simp[hC];refine TL.cD ah [0,3] 4 (sY L hL vars hv 0 i yA hi) PV rfl rfl rfl rfl zX QS QR rfl (TL.go' ah ?_);simp[bJ];apply T.ret;refine aa.le (Le.trim [4] [0,1,3,4] 5 YS yA) ?_;simp;refine aa.le (Le.nz [] [4]) ?_;simp;refine aa.le (Le.dz (o:=4) rfl U8) ?_;simp;refine aa.trim [4] [0,1,3] 4 TF yA ⟨_,?_,rfl,?_,rfl⟩
  ·simp[dc,oP,bJ]
  ·simp[dc]
 | true=>
  apply aU;simp[hC,bq];refine gO ?_;simp;have PQ:=da L i (show 0<2 by omega);have w1:=cE (1+((bZ L i 2).1:Int)) yA yA;apply T.seq;refine T.rx ah follows [0,1,2,3,4,5,6,7,8,9,10,11,12] [(3,9)] PH ?_;simp[hC];refine RX.cD [0] [0] 1 (cu L i 2 hi hL yA yA) rfl zX rfl rfl rfl rfl zX QS QR rfl rfl rfl zX ?_;simp[w1];refine RX.cD [0,3] [0] 4 (sY L hL vars hv (1+(bZ L i 2).1) _ yA (a8 _ _ hi)) rfl zX rfl rfl rfl rfl zX QS QR rfl rfl rfl zX ?_;simp[bJ];apply T.ret;refine aa.le (Le.trim [4] [0,1,3,4] 18 YS yA) ?_;simp;refine aa.le (Le.nz [] [4]) ?_;simp;refine aa.le (Le.dz (o:=4) rfl U8) ?_;simp;refine aa.trim [4] [0,1,3] 4 TF yA ⟨_,?_,rfl,?_,rfl⟩
  ·simp[dc,oP,bJ]
  ·simp[dc]
theorem DL (L:List Int)(hL:L.length≤1000)(vars:List ByteArray)(hv:vars.length≤1000)(gs:List Gl)(ms:List Mx)(nf left size:Nat)(hs:0<size)(XG:size≤1000)(ar:Bool)(i:Nat)(hi:i≤L.length) :
  Body Tryz.prog au 255 [.av 1 0,.bj 3 0 vars.length,I size] [(0,aG L i),(1,bq gs ms nf left ar),(3,ba vars)] 4 (iy (.agg (bK (nH L ar vars size i).1)) [(0,aG L (nH L ar vars size i).2),(1,bq gs ms nf left ar),(3,ba vars)] 4):=by
 refine Body.iV Tryz.func255 rfl PH (by simp[Tryz.ntmps255]) fun C hC PN=>?_;rw[Tryz.ntmps255] at hC;apply aj;simp[hC];have TA:=a8 L 3 hi
 cases ar with
 | false=>
  apply aU;simp[hC,bq];refine gO ?_;simp;apply aj;simp[hC];refine TL.cD ah [0] 1 (cu L i size hi hL hs yA) PV rfl rfl rfl rfl zX QS QR rfl (TL.go' ah ?_);simp[hC];apply T.ret;refine aa.le (Le.trim [6] [0,1,3,4] 5 yC yA) ?_;simp;refine aa.le (Le.nz [] [4]) ?_;simp;refine aa.le (Le.dz (o:=4) rfl U8) ?_;simp;refine aa.trim [6] [0,1,3] 4 TF yA ⟨_,?_,rfl,?_,rfl⟩
  ·simp[nH,bK,eS]
  ·simp[nH]
 | true=>
  apply aU;simp[hC,bq];refine TL.cD ah [0] 1 (cu L i 3 hi hL yA yA) PV rfl rfl rfl rfl zX QS QR rfl (TL.go' ah ?_);simp[hC];refine T.bb rfl (fun h=>?_) (fun h=>?_)
  ·have h1:(bZ L i 3).1=1:=by simpa using h
   apply aj;simp[hC];refine TL.cD ah [0,3] 4 (sY L hL vars hv 1 _ yA TA) PV rfl rfl rfl rfl zX QS QR rfl (TL.go' ah ?_);simp[bJ];apply T.ret;refine aa.le (Le.trim [6] [0,1,3,4] 5 YS yA) ?_;simp;refine aa.le (Le.nz [] [4]) ?_;simp;refine aa.le (Le.dz (o:=4) rfl U8) ?_;simp;refine aa.trim [6] [0,1,3] 4 TF yA ⟨_,?_,rfl,?_,rfl⟩
   ·simp[nH,h1,oP,bJ]
   ·simp[nH,h1]
  ·have h1:¬ (bZ L i 3).1=1:=by simpa using h
   apply T.skip;simp;apply aj;simp[hC];refine TL.cD ah [0] 1 (cu L _ size TA hL hs yA) PV rfl rfl rfl rfl zX QS QR rfl (TL.go' ah ?_);simp[hC];apply T.ret;refine aa.le (Le.trim [6] [0,1,3,4] 5 yC yA) ?_;simp;refine aa.le (Le.nz [] [4]) ?_;simp;refine aa.le (Le.dz (o:=4) rfl U8) ?_;simp;refine aa.trim [6] [0,1,3] 4 TF yA ⟨_,?_,rfl,?_,rfl⟩
   ·simp[nH,bK,eS,h1]
   ·simp[nH,h1]
def ka:List CV:=[.str ⟨#[]⟩,.ai]
def fW (nm:ByteArray)(ps:List Pm)(bc:List CV)(bn:Nat):List CV:=[.str nm,.az (ps.flatMap kj) ps.length,.az bc bn]
section
variable (L:List Int)(vars:List ByteArray)(gs:List Gl)(ms:List Mx)(nf left:Nat)(ar:Bool)(i:Nat)(nm:ByteArray)(ps:List Pm)(bc:List CV)(bn:Nat)
def J86 (m:Nat)(s:St):Prop:=∃ k:Nat,m=ms.length-k∧k≤ms.length∧
 s=⟨[(8,I k),(7,.bj 6 0 k),(6,.av 5 0),(4,.av 4 0),(0,.av 1 0),(2,.bj 3 0 vars.length)],[(0,aG L i),(1,bq gs ms nf left ar),(3,ba vars),(4,⟨192,0,fW nm ps bc bn⟩),(5,⟨262,0,ka⟩),(6,ba ((ms.take k).map (·.name)))],7⟩
def K86 (m:Nat)(s:St):Prop:=∃ k:Nat,m=ps.length-k∧k≤ps.length∧
 s=⟨[(10,I k),(9,I ms.length),(7,.bj 6 0 (bQ ms (ps.take k)).length),(6,.av 5 0),(4,.av 4 0),(0,.av 1 0),(2,.bj 3 0 vars.length)],[(0,aG L i),(1,bq gs ms nf left ar),(3,ba vars),(4,⟨192,0,fW nm ps bc bn⟩),(5,⟨262,0,ka⟩),(6,ba (bQ ms (ps.take k)))],7⟩
end
theorem rP (L:List Int)(hL:L.length≤1000)(vars:List ByteArray)(hv:vars.length≤1000)(gs:List Gl)(ms:List Mx)(hm:0<ms.length)(V8:ms.length≤100)(PZ:∀ m∈ms,m.size≤1000)(nf left:Nat)(ar:Bool)(i:Nat)(hi:i≤L.length)
  (nm:ByteArray) (ps:List Pm) (hp:ps.length≤100) (bc:List CV) (bn:Nat) :
  Body Tryz.prog au 197 [.av 1 0,.agg (fW nm ps bc bn),.bj 3 0 vars.length] [(0,aG L i),(1,bq gs ms nf left ar),(3,ba vars)] 4 (iy (.agg (j9 (iU L ar ms ps vars i).1)) [(0,aG L (iU L ar ms ps vars i).2),(1,bq gs ms nf left ar),(3,ba vars)] 4):=by
 generalize Q3:iU L ar ms ps vars i=res;refine Body.iV Tryz.func197 rfl PH (by simp[Tryz.ntmps197]) fun C hC PN=>?_;rw[Tryz.ntmps197] at hC;apply aj;simp[hC,fW];apply aj;simp[hC];apply aU;simp[hC];apply T.block;refine T.aJ (J86 L vars gs ms nf left ar i nm ps bc bn) (n:=ms.length) ?_ ?_
 ·refine aa.le (Le.own 7 9 1 rfl) (aa.trim [8,7,6,4,0,2] [0,1,3,4,5,6] 7 (by simp[aG,bq]) yA ⟨0,rfl,Nat.zero_le _,?_⟩);simp[ba,ka,fW]
 ·rintro n s ⟨k,rfl,hk,rfl⟩;have Xl:((ms.take k).map (·.name)).length=k:=by simp;omega
  generalize hN:(ms.take k).map (·.name)=N at Xl;apply aU;simp[hC,bq];refine T.bb rfl (fun h=>?_) (fun h=>?_)
  ·have Qh:k<ms.length:=by simpa using h
   obtain⟨m,XT⟩:∃ m,ms[k]? = some m:=⟨ms[k],List.getElem?_eq_getElem Qh⟩;have hd:=aO (f:=eL) (n:=3) (fun _=>rfl) XT;have wi:=cE ((k:Int)+1) yA yA;have hb:(k+1)*16≤140737488355328:=by omega
   have PY:ms.take (k+1)=ms.take k++[m]:=by rw[List.take_add_one,XT];rfl
   have hN':(ms.take (k+1)).map (·.name)=N++[m.name]:=by rw[PY,List.map_append,hN];rfl
   apply T.skip;simp;refine T.seq (T.block (T.go' ah ?_));simp[hC,Qh,hd,eL,ba,hb,Xl];apply aW;simp[hC,wi];refine⟨ms.length-(k+1),by omega,aa.le (Le.trim [8,7,6,4,0,2] [0,1,3,4,5,8] 9 (by simp[aG,fW,ka]) yA) ?_⟩;simp;refine aa.le (Le.nB 8 6 rfl rfl yA zX (by simp ) (by simp[aG,ints,fW,ka])) ?_;simp[aG,ints,fW,ka];refine aa.trim [8,7,6,4,0,2] [0,1,3,4,5,6] 7 zX yA ⟨k+1,rfl,Qh,?_⟩;simp only[hN'];simp[ba,ka,fW,bq,aG,ints]
  ·have Qh:k=ms.length:=by
    have:¬ k<ms.length:=by simpa using h
    omega
   subst Qh;rw[List.take_length] at hN;apply T.exit;simp;refine T.le (Le.trim [7,6,4,0,2] [0,1,3,4,5,6] 7 (by simp[aG,fW,ka,ba]) yA) ?_;simp;apply aj;simp[hC,ba];apply aU;simp[hC];apply T.block;refine T.aJ (K86 L vars gs ms nf left ar i nm ps bc bn) (n:=ps.length) ?_ ?_
   ·refine aa.trim [10,9,7,6,4,0,2] [0,1,3,4,5,6] 7 (by simp[aG,fW,ka]) yA ⟨0,rfl,Nat.zero_le _,?_⟩;simp[ba,ka,fW,bQ,← hN,bq]
   ·rintro n s ⟨j,rfl,hj,rfl⟩;have hNl2:(bQ ms (ps.take j)).length≤300:=by
     have:∀ l:List Pm,(l.flatMap Fw).length≤l.length*2:=by
      intro l
      induction l with
      | nil=>simp
      | cons a r ih=>
       simp only[List.flatMap_cons,List.length_append,List.length_cons];have:(Fw a).length≤2:=by unfold Fw;split<;>simp
       omega
     have h1:=this (ps.take j);simp only[bQ,List.length_append,List.length_map];simp only[List.length_take] at h1;omega
    generalize hN2:bQ ms (ps.take j)=N2 at hNl2;apply aU;simp[hC,fW];refine T.bb rfl (fun h=>?_) (fun h=>?_)
    ·have P7:j<ps.length:=by simpa using h
     obtain⟨p,hpj⟩:∃ p,ps[j]? = some p:=⟨ps[j],List.getElem?_eq_getElem P7⟩;have hd:=aO (f:=kj) (n:=2) (fun _=>rfl) hpj;have SH:=bS (f:=kj) (n:=2) (fun _=>rfl) hpj 1 yA;have wi:=cE ((j:Int)+1) yA yA;have PY:ps.take (j+1)=ps.take j++[p]:=by rw[List.take_add_one,hpj];rfl
     have YN:bQ ms (ps.take (j+1))=N2++Fw p:=by rw[PY,← hN2];simp[bQ]
     apply T.skip;simp;refine T.seq (T.block (aj ?_));simp[hC,P7,SH,kj];refine T.cond (b:=p.mutex) rfl ?_
     cases Ww:p.mutex with
     | true=>
      have SP:Fw p=[p.name,p.name]:=by simp[Fw,Ww]
      have hb:(N2.length+2)*16≤140737488355328:=by omega
      simp;refine T.rx ah follows [0,1,2,3,4,5,6,7,8,9,10,11,12,13,14,15] [] PH ?_;simp[hC,P7,hd,kj,ba,hb];apply aW;simp[hC,wi];refine⟨ps.length-(j+1),by omega,aa.le (Le.trim [10,9,7,6,4,0,2] [0,1,3,4,5,23] 24 (by simp[aG,ka,bq]) yA) ?_⟩;simp;refine aa.le (Le.nB 23 6 rfl rfl yA zX (by simp ) (by simp[aG,ints,ka,bq])) ?_;simp[aG,ints,ka,bq];refine aa.trim [10,9,7,6,4,0,2] [0,1,3,4,5,6] 7 zX yA ⟨j+1,rfl,P7,?_⟩;simp only[YN,SP];simp[ba,ka,fW,bq,aG,ints]
     | false=>
      have SP:Fw p=[]:=by simp[Fw,Ww]
      simp;apply T.skip;simp;apply aW;simp[hC,wi];refine⟨ps.length-(j+1),by omega,aa.trim [10,9,7,6,4,0,2] [0,1,3,4,5,6] 7 (by simp[aG,ka,bq,ba]) yA ⟨j+1,rfl,P7,?_⟩⟩;simp only[YN,SP];simp[ba,ka,fW,bq,aG,ints]
    ·have P7:j=ps.length:=by
      have:¬ j<ps.length:=by simpa using h
      omega
     subst P7;rw[List.take_length] at hN2;apply T.exit;simp;refine T.le (Le.trim [9,7,6,4,0,2] [0,1,3,4,5,6] 7 (by simp[aG,ka,ba,bq]) yA) ?_;simp;have hN0:0<N2.length:=by rw[← hN2];simp[bQ];omega
     apply aj;simp[hC,bq];refine TL.cD ah [0] 1 (cu L i N2.length hi hL hN0 yA) PV rfl rfl rfl rfl zX QS QR rfl (TL.go' ah ?_);simp[hC];have Qm:=a8 L N2.length hi;have PQ:=da L i hN0;have QD:res=if (bZ L i N2.length).1<ms.length∧0<j8 ms (bZ L i N2.length).1 then
       (⟨N2.getD (bZ L i N2.length).1 eS,some (nH L ar vars (j8 ms (bZ L i N2.length).1) (bZ L i N2.length).2).1⟩,(nH L ar vars (j8 ms (bZ L i N2.length).1) (bZ L i N2.length).2).2)
       else (⟨N2.getD (bZ L i N2.length).1 eS,none⟩,(bZ L i N2.length).2):=by rw[← hN2,← Q3];rfl
     generalize bZ L i N2.length=k at Qm PQ QD;have PL:=iG PQ;apply aj;simp[hC,ba,PQ,PL];have SS:N2.getD k.1 eS=N2[k.1]:=by simp[List.getD,PQ]
     rw[SS] at QD;refine T.le (Le.trim [12,11,9,6,0,2] [0,1,3,5,7] 8 (by simp[aG,ka]) yA) ?_;simp;refine T.seq (T.seq ?_);by_cases Tz:k.1<ms.length
     ·obtain⟨m,XT⟩:∃ m,ms[k.1]? = some m:=⟨ms[k.1],List.getElem?_eq_getElem Tz⟩;have hd:=bS (f:=eL) (n:=3) (fun _=>rfl) XT 2 yA;have hsa:j8 ms k.1=m.size:=by simp[j8,XT]
      have QZ:=PZ m (List.mem_of_getElem? XT);have hd0:=bS (f:=eL) (n:=3) (fun _=>rfl) XT 0 yA;rw[hsa] at QD;apply aW;simp[hC,Tz,hd,eL];refine T.bb rfl (fun h=>?_) (fun h=>?_)
      ·have Wt:0<m.size:=by simpa using h
       rw[if_pos ⟨Tz,Wt⟩] at QD;apply aW;simp[hC,Tz,hd,eL];refine TL.cD ah [0,1,3] 4 (DL L hL vars hv gs ms nf left m.size Wt QZ ar k.2 Qm) PV rfl rfl rfl rfl zX rfl (by first | rfl | simp[aG,ints,bq]) rfl (TL.go' ah ?_);simp[hC,bJ,aX];apply aj;simp[hC,ka];apply T.ret;refine aa.le (Le.trim [6] [0,1,3,5,8] 9 (by simp[aG,bq,-List.all_eq_true,fT]) yA) ?_;simp;refine aa.le (Le.dz (o:=8) rfl (bA _)) ?_;simp;refine aa.le (Le.dz (o:=5) rfl rfl) ?_;simp;refine aa.trim [6] [0,1,3] 4 (by simp[aG,bq]) yA ⟨_,?_,rfl,?_,rfl⟩
       ·simp[QD,j9,nV]
       ·simp[QD,bq,ba]
      ·have Wt:¬ 0<m.size:=by simpa using h
       rw[if_neg fun h=>Wt h.2] at QD;apply T.skip;simp;apply aj;simp[hC,ka];apply T.ret;refine aa.le (Le.trim [6] [0,1,3,5] 8 yC yA) ?_;simp;refine aa.le (Le.nz [] [5]) ?_;simp;refine aa.le (Le.dz (o:=5) rfl U8) ?_;simp;refine aa.trim [6] [0,1,3] 4 TF yA ⟨_,?_,rfl,?_,rfl⟩
       ·simp[QD,j9,nV]
       ·simp[QD]
     ·rw[if_neg fun h=>Tz h.1] at QD;apply aW;simp[hC,Tz];refine gO ?_;simp;apply aj;simp[hC,ka];apply T.ret;refine aa.le (Le.trim [6] [0,1,3,5] 8 yC yA) ?_;simp;refine aa.le (Le.nz [] [5]) ?_;simp;refine aa.le (Le.dz (o:=5) rfl U8) ?_;simp;refine aa.trim [6] [0,1,3] 4 TF yA ⟨_,?_,rfl,?_,rfl⟩
      ·simp[QD,j9,nV]
      ·simp[QD]
theorem sH (x:Ar):(nN x).length=7:=by cases x<;>simp[nN,j9,ke,bJ]
theorem oG (L:List Int)(ar:Bool)(ms:List Mx)(ps:List Pm)(vars:List ByteArray)(p:Pm):∀ (l:List Pm) (i:Nat),cV L ar ms ps vars (l++[p]) i=((cV L ar ms ps vars l i).1++(cV L ar ms ps vars [p] (cV L ar ms ps vars l i).2).1,(cV L ar ms ps vars [p] (cV L ar ms ps vars l i).2).2)
 | [],i=>by simp[cV]
 | q::r,i=>by
  rw[List.cons_append,cV,cV];split
  ·rw[oG L ar ms ps vars p r];simp
  ·rw[oG L ar ms ps vars p r];simp
theorem qC (L:List Int)(ar:Bool)(ms:List Mx)(ps:List Pm)(vars:List ByteArray):∀ (l:List Pm) (i:Nat),(cV L ar ms ps vars l i).1.length=l.length
 | [],i=>rfl
 | q::r,i=>by
  rw[cV];split<;>simp[qC L ar ms ps vars r]
@[simp] theorem Mt (l:List Ar):(l.flatMap nN).map nz=l.flatMap nN:=by
 induction l with
 | nil=>rfl
 | cons a r ih=>
  rw[List.flatMap_cons,List.map_append,ih];congr 1;rcases a with ⟨_,_ | _⟩ | e<;>simp[nN,j9,ke,nV,bK]
@[simp] theorem nz_opC (e:Option Ex):nz (nV e)=nV e:=by cases e<;>rfl
@[simp] theorem tree_opC (e:Option Ex):tree (nV e)=true:=by cases e<;>rfl
@[simp] theorem Ma (n:Nat)(e:Option Ex):a7 n (nV e)=true:=by cases e<;>rfl
@[simp] theorem N3 (n:Nat)(e:Option Ex):aK n (nV e)=true:=by cases e<;>rfl
@[simp] theorem ok1_opC (o q:Nat)(e:Option Ex):lY o q (nV e)=true:=by cases e<;>rfl
@[simp] theorem ren1_opC (o q:Nat)(e:Option Ex):cZ o q (nV e)=nV e:=by cases e<;>rfl
@[simp] theorem frzV_opC (o:Nat)(cs:List CV)(n:Nat)(e:Option Ex):cB o cs n (nV e)=nV e:=by cases e<;>rfl
theorem xR (o q:Nat)(e:Ex):(bK e).all (lY o q)=true:=bf (bA e) o q
@[simp] theorem ren1_exC (o q:Nat)(e:Ex):(bK e).map (cZ o q)=bK e:=aV (bA e) o q
theorem DO (l:List Ar):trees (l.flatMap nN)=true:=by
 induction l with
 | nil=>rfl
 | cons a r ih=>
  rw[List.flatMap_cons,bF,ih,Bool.and_true];rcases a with ⟨_,_ | _⟩ | e<;>simp only[nN,j9,ke,nV,List.cons_append,List.nil_append,trees,tree,bA,Bool.and_self]
section
variable (L:List Int)(vars:List ByteArray)(gs:List Gl)(ms:List Mx)(nf left:Nat)(ar:Bool)(i:Nat)(nm:ByteArray)(ps:List Pm)(bc:List CV)(bn:Nat)(nm':ByteArray)(Rv:List Pm)(bc':List CV)(bn':Nat)
def J88 (m:Nat)(s:St):Prop:=∃ k:Nat,m=Rv.length-k∧k≤Rv.length∧
 s=⟨[(10,I k),(9,.bj 6 0 k),(6,.av 5 0),(5,.av 4 0),(0,.av 1 0),(3,.bj 3 0 vars.length)],[(0,aG L (cV L ar ms ps vars (Rv.take k) i).2),(1,bq gs ms nf left ar),(3,ba vars),(4,⟨192,0,fW nm ps bc bn⟩),(5,⟨192,0,fW nm' Rv bc' bn'⟩),(6,⟨323,7,(cV L ar ms ps vars (Rv.take k) i).1.flatMap nN⟩)],7⟩
end
theorem FX (L:List Int)(hL:L.length≤1000)(vars:List ByteArray)(hv:vars.length≤1000)(gs:List Gl)(ms:List Mx)(hm:0<ms.length)(V8:ms.length≤100)(PZ:∀ m∈ms,m.size≤1000)(nf left:Nat)(ar:Bool)(i:Nat)(hi:i≤L.length)
  (nm:ByteArray) (ps:List Pm) (hp:ps.length≤100) (bc:List CV) (bn:Nat) (nm':ByteArray) (Rv:List Pm) (T5:Rv.length≤100) (bc':List CV) (bn':Nat) :
  Body Tryz.prog au 199 [.av 1 0,.agg (fW nm ps bc bn),.agg (fW nm' Rv bc' bn'),.bj 3 0 vars.length] [(0,aG L i),(1,bq gs ms nf left ar),(3,ba vars)] 4
   (iy (.az ((cV L ar ms ps vars Rv i).1.flatMap nN) Rv.length) [(0,aG L (cV L ar ms ps vars Rv i).2),(1,bq gs ms nf left ar),(3,ba vars)] 4):=by
 refine Body.iV Tryz.func199 rfl PH (by simp[Tryz.ntmps199]) fun C hC PN=>?_;rw[Tryz.ntmps199] at hC;apply aj;simp[hC,fW];apply aj;simp[hC];apply aU;simp[hC];apply T.block;refine T.aJ (J88 L vars gs ms nf left ar i nm ps bc bn nm' Rv bc' bn') (n:=Rv.length) ?_ ?_
 ·refine aa.le (Le.own 9 323 7 rfl) (aa.trim [10,9,6,5,0,3] [0,1,3,4,5,6] 7 (by simp[aG,bq]) yA ⟨0,rfl,Nat.zero_le _,?_⟩);simp[cV,fW]
 ·rintro n s ⟨k,rfl,hk,rfl⟩;have hAl:(cV L ar ms ps vars (Rv.take k) i).1.length=k:=by rw[qC];simp;omega
  have Qm:(cV L ar ms ps vars (Rv.take k) i).2≤L.length:=pO _ _ _ _ _ _ hi;have Qv:=bk (f:=nN) (n:=7) sH (cV L ar ms ps vars (Rv.take k) i).1;rw[hAl] at Qv;have Qa:=DO (cV L ar ms ps vars (Rv.take k) i).1;generalize hA:cV L ar ms ps vars (Rv.take k) i=A at hAl Qm Qv Qa;have hnz:=Mt A.1;generalize hX:A.1.flatMap nN=X at Qv Qa hnz;have hl8:=af Qa 9;have P9:=bf Qa 8 6;have Sx:=aV Qa 8 6;have hl6:=af Qa 7;apply aU;simp[hC,fW];refine T.bb rfl (fun h=>?_) (fun h=>?_)
  ·have Qh:k<Rv.length:=by simpa using h
   obtain⟨p,Si⟩:∃ p,Rv[k]? = some p:=⟨Rv[k],List.getElem?_eq_getElem Qh⟩;have SH:=bS (f:=kj) (n:=2) (fun _=>rfl) Si 1 yA;have wi:=cE ((k:Int)+1) yA yA;have PY:Rv.take (k+1)=Rv.take k++[p]:=by rw[List.take_add_one,Si];rfl
   have hA1:cV L ar ms ps vars (Rv.take (k+1)) i=(A.1++(cV L ar ms ps vars [p] A.2).1,(cV L ar ms ps vars [p] A.2).2):=by rw[PY,oG,hA]
   have hb:(k+1)*104≤140737488355328:=by omega
   apply T.skip;simp;refine T.seq (T.block (aj ?_));simp[hC,Qh,SH,kj];refine T.cond (b:=p.mutex) rfl ?_
   cases Ww:p.mutex with
   | true=>
    have QD:cV L ar ms ps vars [p] A.2=([.ua (iU L ar ms ps vars A.2).1],(iU L ar ms ps vars A.2).2):=by simp[cV,Ww]
    rw[QD] at hA1;simp;apply aW;simp[hC];refine TL.cD ah [0,1,3] 4 (rP L hL vars hv gs ms hm V8 PZ nf left ar A.2 Qm nm ps hp bc bn) PV rfl rfl rfl rfl zX rfl (by first | rfl | simp[aG,ints,bq]) rfl (TL.go' ah ?_);simp[hC,j9,aX,Qv,hb];apply aW;simp[hC,wi];refine⟨Rv.length-(k+1),by omega,aa.le (Le.trim [10,9,6,5,0,3] [0,1,3,4,5,8] 9 (by simp[aG,bq,-List.all_eq_true,hl8]) yA) ?_⟩;simp;refine aa.le (Le.nz [] [8]) ?_;simp[hnz];refine aa.le (Le.nB 8 6 rfl rfl yA zX (by simp ) (by simp[aG,ints,bq,-List.all_eq_true,P9])) ?_;simp[aG,ints,bq,Sx];refine aa.trim [10,9,6,5,0,3] [0,1,3,4,5,6] 7 (by simp[-List.all_eq_true,hl6]) yA ⟨k+1,rfl,Qh,?_⟩;simp only[hA1];simp[fW,bq,aG,ints,nN,j9,bK,eS,hX]
   | false=>
    have QD:cV L ar ms ps vars [p] A.2=([.exp (dc L ar vars A.2).1],(dc L ar vars A.2).2):=by simp[cV,Ww]
    rw[QD] at hA1;simp;apply aW;simp[hC];refine TL.cD ah [0,1,3] 4 (mb L hL vars hv gs ms nf left ar A.2 Qm) PV rfl rfl rfl rfl zX rfl (by first | rfl | simp[aG,ints,bq]) rfl (TL.go' ah ?_);simp[hC,bJ,aX,Qv,hb];apply aW;simp[hC,wi];refine⟨Rv.length-(k+1),by omega,aa.le (Le.trim [10,9,6,5,0,3] [0,1,3,4,5,8] 9 (by simp[aG,bq,-List.all_eq_true,hl8,fT]) yA) ?_⟩;simp;refine aa.le (Le.nz [] [8]) ?_;simp[hnz];refine aa.le (Le.nB 8 6 rfl rfl yA zX (by simp ) (by simp[aG,ints,bq,-List.all_eq_true,P9,xR])) ?_;simp[aG,ints,bq,Sx];refine aa.trim [10,9,6,5,0,3] [0,1,3,4,5,6] 7 (by simp[-List.all_eq_true,hl6,fT]) yA ⟨k+1,rfl,Qh,?_⟩;simp only[hA1];simp[fW,bq,aG,ints,nN,ke,eS,hX]
  ·have Qh:k=Rv.length:=by
    have:¬ k<Rv.length:=by simpa using h
    omega
   subst Qh;rw[List.take_length] at hA;rw[hA];apply T.exit;simp;apply aj;simp[hC];apply T.ret;refine aa.le (Le.trim [8] [0,1,3,6] 7 (by simp[aG,bq,-List.all_eq_true,hl6]) yA) ?_;simp;refine aa.le (Le.dz (o:=6) rfl Qa) ?_;have Y8:X.take (Rv.length*7)=X:=List.take_of_length_le yA;simp[Y8];refine aa.trim [8] [0,1,3] 4 (by simp[aG,bq]) yA ⟨_,?_,rfl,?_,rfl⟩
   ·simp[hX]
   ·simp[bq]
end Go.Proofs.YtnecpnjdonibmaaGreat
