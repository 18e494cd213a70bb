/- writer.expr, writer.index. -/
import Derived.Test.YtnecpnjdonibmaaGreatZ23
namespace Go.Proofs.YtnecpnjdonibmaaGreat
open Go.Can Go.aP
def bp (gs:List Gl)(ms:List Mx)(nf left:Nat)(ar:Bool):Ob:=⟨185,0,[.ax 0 0,.aA (gs.flatMap px) gs.length,.aA (ms.flatMap eJ) ms.length,.bl 2 0 nf,I left,.bool ar]⟩
@[simp] theorem wrOb_frz (gs:List Gl)(ms:List Mx)(nf left:Nat)(ar:Bool)(o:Nat)(h:o≠0)(h2:o≠2)(cs:List CV)(n:Nat):(⟨(bp gs ms nf left ar).elem,(bp gs ms nf left ar).sz,(bp gs ms nf left ar).cells.map (cH o cs n)⟩:Ob)=bp gs ms nf left ar:=by
 have h':¬ 0=o:=fun e=>h e.symm;have So:¬ 2=o:=fun e=>h2 e.symm;simp[bp,h',So]
@[simp] theorem N5 (ρ:Nat→Nat)(h0:ρ 0=0)(h2:ρ 2=2)(gs:List Gl)(ms:List Mx)(nf left:Nat)(ar:Bool):cc ρ (bp gs ms nf left ar)=bp gs ms nf left ar:=by
 simp only[cc,bp,ca,dR,h0,h2]
@[simp] theorem N3 (L:List Int)(i n:Nat):(aI L i).cells.all (a9 n)=true:=rfl
@[simp] theorem N0 (L:List Int)(i n:Nat):aX n (aI L i).cells=true:=rfl
@[simp] theorem GS (gs:List Gl)(ms:List Mx)(nf left:Nat)(ar:Bool)(n:Nat)(h:2<n):(bp gs ms nf left ar).cells.all (a9 n)=true:=by
 have h':0<n:=by omega
 simp[bp,h,h']
@[simp] theorem wrOb_lts (gs:List Gl)(ms:List Mx)(nf left:Nat)(ar:Bool)(n:Nat)(h:2<n):aX n (bp gs ms nf left ar).cells=true:=by rw[cB];exact GS gs ms nf left ar n h
theorem xj (r:Rf):trees (kY r)=true:=by
 rcases r with ⟨_,_ | _⟩<;>rfl
theorem ny (L:List Int)(hL:L.length≤1000)(vars:List ByteArray)(hv:vars.length≤1000)(gs:List Gl)(ms:List Mx)(nf left:Nat)(ar:Bool)(i:Nat)(hi:i≤L.length) :
  Body Tryz.prog ak 198 [.ax 1 0,.bl 3 0 vars.length] [(0,aI L i),(1,bp gs ms nf left ar),(3,bg vars)] 4 (jb (.agg (bR (dq L ar vars i).1)) [(0,aI L (dq L ar vars i).2),(1,bp gs ms nf left ar),(3,bg vars)] 4):=by
 refine Body.jA Tryz.func198 rfl OV (by simp[Tryz.ntmps198]) fun C hC O0=>?_;rw[Tryz.ntmps198] at hC;apply aq;simp[hC]
 cases ar with
 | false=>
  apply aO;simp[hC,bp];refine fE ?_;simp;apply aq;simp[hC];refine TL.cK ai [0,3] 4 (uV L hL vars hv 0 i yA hi) O5 rfl rfl rfl rfl OU Qc Qb rfl (TL.go' ai ?_);simp[bP];apply T.ret;refine ae.le (Le.trim [4] [0,1,3,4] 5 Yc yA) ?_;simp;refine ae.le (Le.nz [] [4]) ?_;simp;refine ae.le (Le.dp (o:=4) rfl Uq) ?_;simp;refine ae.trim [4] [0,1,3] 4 SN yA ⟨_,?_,rfl,?_,rfl⟩
  ·simp[dq,qf,bP]
  ·simp[dq]
 | true=>
  apply aO;simp[hC,bp];refine gw ?_;simp;have O1:=dm L i (show 0<2 by omega);have w1:=cC (1+((cd L i 2).1:Int)) yA yA;apply T.seq;refine T.rx ai follows [0,1,2,3,4,5,6,7,8,9,10,11,12] [(3,9)] OV ?_;simp[hC];refine RX.cK [0] [0] 1 (cE L i 2 hi hL yA yA) rfl OU rfl rfl rfl rfl OU Qc Qb rfl rfl rfl OU ?_;simp[w1];refine RX.cK [0,3] [0] 4 (uV L hL vars hv (1+(cd L i 2).1) _ yA (ba _ _ hi)) rfl OU rfl rfl rfl rfl OU Qc Qb rfl rfl rfl OU ?_;simp[bP];apply T.ret;refine ae.le (Le.trim [4] [0,1,3,4] 18 Yc yA) ?_;simp;refine ae.le (Le.nz [] [4]) ?_;simp;refine ae.le (Le.dp (o:=4) rfl Uq) ?_;simp;refine ae.trim [4] [0,1,3] 4 SN yA ⟨_,?_,rfl,?_,rfl⟩
  ·simp[dq,qf,bP]
  ·simp[dq]
theorem EX (L:List Int)(hL:L.length≤1000)(vars:List ByteArray)(hv:vars.length≤1000)(gs:List Gl)(ms:List Mx)(nf left size:Nat)(hs:0<size)(Wi:size≤1000)(ar:Bool)(i:Nat)(hi:i≤L.length) :
  Body Tryz.prog ak 255 [.ax 1 0,.bl 3 0 vars.length,I size] [(0,aI L i),(1,bp gs ms nf left ar),(3,bg vars)] 4 (jb (.agg (bR (pa L ar vars size i).1)) [(0,aI L (pa L ar vars size i).2),(1,bp gs ms nf left ar),(3,bg vars)] 4):=by
 refine Body.jA Tryz.func255 rfl OV (by simp[Tryz.ntmps255]) fun C hC O0=>?_;rw[Tryz.ntmps255] at hC;apply aq;simp[hC];have SH:=ba L 3 hi
 cases ar with
 | false=>
  apply aO;simp[hC,bp];refine gw ?_;simp;apply aq;simp[hC];refine TL.cK ai [0] 1 (cE L i size hi hL hs yA) O5 rfl rfl rfl rfl OU Qc Qb rfl (TL.go' ai ?_);simp[hC];apply T.ret;refine ae.le (Le.trim [6] [0,1,3,4] 5 ZX yA) ?_;simp;refine ae.le (Le.nz [] [4]) ?_;simp;refine ae.le (Le.dp (o:=4) rfl Uq) ?_;simp;refine ae.trim [6] [0,1,3] 4 SN yA ⟨_,?_,rfl,?_,rfl⟩
  ·simp[pa,bR,eS]
  ·simp[pa]
 | true=>
  apply aO;simp[hC,bp];refine TL.cK ai [0] 1 (cE L i 3 hi hL yA yA) O5 rfl rfl rfl rfl OU Qc Qb rfl (TL.go' ai ?_);simp[hC];refine T.bh rfl (fun h=>?_) (fun h=>?_)
  ·have h1:(cd L i 3).1=1:=by simpa using h
   apply aq;simp[hC];refine TL.cK ai [0,3] 4 (uV L hL vars hv 1 _ yA SH) O5 rfl rfl rfl rfl OU Qc Qb rfl (TL.go' ai ?_);simp[bP];apply T.ret;refine ae.le (Le.trim [6] [0,1,3,4] 5 Yc yA) ?_;simp;refine ae.le (Le.nz [] [4]) ?_;simp;refine ae.le (Le.dp (o:=4) rfl Uq) ?_;simp;refine ae.trim [6] [0,1,3] 4 SN yA ⟨_,?_,rfl,?_,rfl⟩
   ·simp[pa,h1,qf,bP]
   ·simp[pa,h1]
  ·have h1:¬ (cd L i 3).1=1:=by simpa using h
   apply T.skip;simp;apply aq;simp[hC];refine TL.cK ai [0] 1 (cE L _ size SH hL hs yA) O5 rfl rfl rfl rfl OU Qc Qb rfl (TL.go' ai ?_);simp[hC];apply T.ret;refine ae.le (Le.trim [6] [0,1,3,4] 5 ZX yA) ?_;simp;refine ae.le (Le.nz [] [4]) ?_;simp;refine ae.le (Le.dp (o:=4) rfl Uq) ?_;simp;refine ae.trim [6] [0,1,3] 4 SN yA ⟨_,?_,rfl,?_,rfl⟩
   ·simp[pa,bR,eS,h1]
   ·simp[pa,h1]
def kZ:List CV:=[.str ⟨#[]⟩,.aa]
def gK (nm:ByteArray)(ps:List Pm)(bc:List CV)(bn:Nat):List CV:=[.str nm,.aA (ps.flatMap lh) ps.length,.aA bc bn]
section
variable (L:List Int)(vars:List ByteArray)(gs:List Gl)(ms:List Mx)(nf left:Nat)(ar:Bool)(i:Nat)(nm:ByteArray)(ps:List Pm)(bc:List CV)(bn:Nat)
def J86 (m:Nat)(s:St):Prop:=∃ k:Nat,m=ms.length-k∧k≤ms.length∧
 s=⟨[(8,I k),(7,.bl 6 0 k),(6,.ax 5 0),(4,.ax 4 0),(0,.ax 1 0),(2,.bl 3 0 vars.length)],[(0,aI L i),(1,bp gs ms nf left ar),(3,bg vars),(4,⟨192,0,gK nm ps bc bn⟩),(5,⟨262,0,kZ⟩),(6,bg ((ms.take k).map (·.name)))],7⟩
def K86 (m:Nat)(s:St):Prop:=∃ k:Nat,m=ps.length-k∧k≤ps.length∧
 s=⟨[(10,I k),(9,I ms.length),(7,.bl 6 0 (bX ms (ps.take k)).length),(6,.ax 5 0),(4,.ax 4 0),(0,.ax 1 0),(2,.bl 3 0 vars.length)],[(0,aI L i),(1,bp gs ms nf left ar),(3,bg vars),(4,⟨192,0,gK nm ps bc bn⟩),(5,⟨262,0,kZ⟩),(6,bg (bX ms (ps.take k)))],7⟩
end
theorem tU (L:List Int)(hL:L.length≤1000)(vars:List ByteArray)(hv:vars.length≤1000)(gs:List Gl)(ms:List Mx)(hm:0<ms.length)(Ue:ms.length≤100)(O9:∀ m∈ms,m.size≤1000)(nf left:Nat)(ar:Bool)(i:Nat)(hi:i≤L.length)
  (nm:ByteArray) (ps:List Pm) (hp:ps.length≤100) (bc:List CV) (bn:Nat) :
  Body Tryz.prog ak 197 [.ax 1 0,.agg (gK nm ps bc bn),.bl 3 0 vars.length] [(0,aI L i),(1,bp gs ms nf left ar),(3,bg vars)] 4 (jb (.agg (kY (jz L ar ms ps vars i).1)) [(0,aI L (jz L ar ms ps vars i).2),(1,bp gs ms nf left ar),(3,bg vars)] 4):=by
 generalize P0:jz L ar ms ps vars i=res;refine Body.jA Tryz.func197 rfl OV (by simp[Tryz.ntmps197]) fun C hC O0=>?_;rw[Tryz.ntmps197] at hC;apply aq;simp[hC,gK];apply aq;simp[hC];apply aO;simp[hC];apply T.block;refine T.aH (J86 L vars gs ms nf left ar i nm ps bc bn) (n:=ms.length) ?_ ?_
 ·refine ae.le (Le.own 7 9 1 rfl) (ae.trim [8,7,6,4,0,2] [0,1,3,4,5,6] 7 (by simp[aI,bp]) yA ⟨0,rfl,Nat.zero_le _,?_⟩);simp[bg,kZ,gK]
 ·rintro n s ⟨k,rfl,hk,rfl⟩;have Ww:((ms.take k).map (·.name)).length=k:=by simp;omega
  generalize hN:(ms.take k).map (·.name)=N at Ww;apply aO;simp[hC,bp];refine T.bh rfl (fun h=>?_) (fun h=>?_)
  ·have PD:k<ms.length:=by simpa using h
   obtain⟨m,W8⟩:∃ m,ms[k]? = some m:=⟨ms[k],List.getElem?_eq_getElem PD⟩;have hd:=aN (f:=eJ) (n:=3) (fun _=>rfl) W8;have wi:=cC ((k:Int)+1) yA yA;have hb:(k+1)*16≤140737488355328:=by omega
   have Pd:ms.take (k+1)=ms.take k++[m]:=by rw[List.take_add_one,W8];rfl
   have hN':(ms.take (k+1)).map (·.name)=N++[m.name]:=by rw[Pd,List.map_append,hN];rfl
   apply T.skip;simp;refine T.seq (T.block (T.go' ai ?_));simp[hC,PD,hd,eJ,bg,hb,Ww];apply aV;simp[hC,wi];refine⟨ms.length-(k+1),by omega,ae.le (Le.trim [8,7,6,4,0,2] [0,1,3,4,5,8] 9 (by simp[aI,gK,kZ]) yA) ?_⟩;simp;refine ae.le (Le.oX 8 6 rfl rfl yA OU (by simp ) (by simp[aI,ints,gK,kZ])) ?_;simp[aI,ints,gK,kZ];refine ae.trim [8,7,6,4,0,2] [0,1,3,4,5,6] 7 OU yA ⟨k+1,rfl,PD,?_⟩;simp only[hN'];simp[bg,kZ,gK,bp,aI,ints]
  ·have PD:k=ms.length:=by
    have:¬ k<ms.length:=by simpa using h
    omega
   subst PD;rw[List.take_length] at hN;apply T.exit;simp;refine T.le (Le.trim [7,6,4,0,2] [0,1,3,4,5,6] 7 (by simp[aI,gK,kZ,bg]) yA) ?_;simp;apply aq;simp[hC,bg];apply aO;simp[hC];apply T.block;refine T.aH (K86 L vars gs ms nf left ar i nm ps bc bn) (n:=ps.length) ?_ ?_
   ·refine ae.trim [10,9,7,6,4,0,2] [0,1,3,4,5,6] 7 (by simp[aI,gK,kZ]) yA ⟨0,rfl,Nat.zero_le _,?_⟩;simp[bg,kZ,gK,bX,← hN,bp]
   ·rintro n s ⟨j,rfl,hj,rfl⟩;have hNl2:(bX ms (ps.take j)).length≤300:=by
     have:∀ l:List Pm,(l.flatMap Gt).length≤l.length*2:=by
      intro l
      induction l with
      | nil=>simp
      | cons a r ih=>
       simp only[List.flatMap_cons,List.length_append,List.length_cons];have:(Gt a).length≤2:=by unfold Gt;split<;>simp
       omega
     have h1:=this (ps.take j);simp only[bX,List.length_append,List.length_map];simp only[List.length_take] at h1;omega
    generalize hN2:bX ms (ps.take j)=N2 at hNl2;apply aO;simp[hC,gK];refine T.bh rfl (fun h=>?_) (fun h=>?_)
    ·have Pn:j<ps.length:=by simpa using h
     obtain⟨p,hpj⟩:∃ p,ps[j]? = some p:=⟨ps[j],List.getElem?_eq_getElem Pn⟩;have hd:=aN (f:=lh) (n:=2) (fun _=>rfl) hpj;have RZ:=bQ (f:=lh) (n:=2) (fun _=>rfl) hpj 1 yA;have wi:=cC ((j:Int)+1) yA yA;have Pd:ps.take (j+1)=ps.take j++[p]:=by rw[List.take_add_one,hpj];rfl
     have X6:bX ms (ps.take (j+1))=N2++Gt p:=by rw[Pd,← hN2];simp[bX]
     apply T.skip;simp;refine T.seq (T.block (aq ?_));simp[hC,Pn,RZ,lh];refine T.cond (b:=p.mutex) rfl ?_
     cases YT:p.mutex with
     | true=>
      have R6:Gt p=[p.name,p.name]:=by simp[Gt,YT]
      have hb:(N2.length+2)*16≤140737488355328:=by omega
      simp;refine T.rx ai follows [0,1,2,3,4,5,6,7,8,9,10,11,12,13,14,15] [] OV ?_;simp[hC,Pn,hd,lh,bg,hb];apply aV;simp[hC,wi];refine⟨ps.length-(j+1),by omega,ae.le (Le.trim [10,9,7,6,4,0,2] [0,1,3,4,5,23] 24 (by simp[aI,kZ,bp]) yA) ?_⟩;simp;refine ae.le (Le.oX 23 6 rfl rfl yA OU (by simp ) (by simp[aI,ints,kZ,bp])) ?_;simp[aI,ints,kZ,bp];refine ae.trim [10,9,7,6,4,0,2] [0,1,3,4,5,6] 7 OU yA ⟨j+1,rfl,Pn,?_⟩;simp only[X6,R6];simp[bg,kZ,gK,bp,aI,ints]
     | false=>
      have R6:Gt p=[]:=by simp[Gt,YT]
      simp;apply T.skip;simp;apply aV;simp[hC,wi];refine⟨ps.length-(j+1),by omega,ae.trim [10,9,7,6,4,0,2] [0,1,3,4,5,6] 7 (by simp[aI,kZ,bp,bg]) yA ⟨j+1,rfl,Pn,?_⟩⟩;simp only[X6,R6];simp[bg,kZ,gK,bp,aI,ints]
    ·have Pn:j=ps.length:=by
      have:¬ j<ps.length:=by simpa using h
      omega
     subst Pn;rw[List.take_length] at hN2;apply T.exit;simp;refine T.le (Le.trim [9,7,6,4,0,2] [0,1,3,4,5,6] 7 (by simp[aI,kZ,bg,bp]) yA) ?_;simp;have X7:0<N2.length:=by rw[← hN2];simp[bX];omega
     apply aq;simp[hC,bp];refine TL.cK ai [0] 1 (cE L i N2.length hi hL X7 yA) O5 rfl rfl rfl rfl OU Qc Qb rfl (TL.go' ai ?_);simp[hC];have PI:=ba L N2.length hi;have O1:=dm L i X7;have Rt:res=if (cd L i N2.length).1<ms.length∧0<kX ms (cd L i N2.length).1 then
       (⟨N2.getD (cd L i N2.length).1 eS,some (pa L ar vars (kX ms (cd L i N2.length).1) (cd L i N2.length).2).1⟩,(pa L ar vars (kX ms (cd L i N2.length).1) (cd L i N2.length).2).2)
       else (⟨N2.getD (cd L i N2.length).1 eS,none⟩,(cd L i N2.length).2):=by rw[← hN2,← P0];rfl
     generalize cd L i N2.length=k at PI O1 Rt;have OZ:=ji O1;apply aq;simp[hC,bg,O1,OZ];have SV:N2.getD k.1 eS=N2[k.1]:=by simp[List.getD,O1]
     rw[SV] at Rt;refine T.le (Le.trim [12,11,9,6,0,2] [0,1,3,5,7] 8 (by simp[aI,kZ]) yA) ?_;simp;refine T.seq (T.seq ?_);by_cases SG:k.1<ms.length
     ·obtain⟨m,W8⟩:∃ m,ms[k.1]? = some m:=⟨ms[k.1],List.getElem?_eq_getElem SG⟩;have hd:=bQ (f:=eJ) (n:=3) (fun _=>rfl) W8 2 yA;have hsa:kX ms k.1=m.size:=by simp[kX,W8]
      have Qx:=O9 m (List.mem_of_getElem? W8);have hd0:=bQ (f:=eJ) (n:=3) (fun _=>rfl) W8 0 yA;rw[hsa] at Rt;apply aV;simp[hC,SG,hd,eJ];refine T.bh rfl (fun h=>?_) (fun h=>?_)
      ·have R5:0<m.size:=by simpa using h
       rw[if_pos ⟨SG,R5⟩] at Rt;apply aV;simp[hC,SG,hd,eJ];refine TL.cK ai [0,1,3] 4 (EX L hL vars hv gs ms nf left m.size R5 Qx ar k.2 PI) O5 rfl rfl rfl rfl OU rfl (by first | rfl | simp[aI,ints,bp]) rfl (TL.go' ai ?_);simp[hC,bP,bb];apply aq;simp[hC,kZ];apply T.ret;refine ae.le (Le.trim [6] [0,1,3,5,8] 9 (by simp[aI,bp,-List.all_eq_true,gG]) yA) ?_;simp;refine ae.le (Le.dp (o:=8) rfl (bz _)) ?_;simp;refine ae.le (Le.dp (o:=5) rfl rfl) ?_;simp;refine ae.trim [6] [0,1,3] 4 (by simp[aI,bp]) yA ⟨_,?_,rfl,?_,rfl⟩
       ·simp[Rt,kY,pv]
       ·simp[Rt,bp,bg]
      ·have R5:¬ 0<m.size:=by simpa using h
       rw[if_neg fun h=>R5 h.2] at Rt;apply T.skip;simp;apply aq;simp[hC,kZ];apply T.ret;refine ae.le (Le.trim [6] [0,1,3,5] 8 ZX yA) ?_;simp;refine ae.le (Le.nz [] [5]) ?_;simp;refine ae.le (Le.dp (o:=5) rfl Uq) ?_;simp;refine ae.trim [6] [0,1,3] 4 SN yA ⟨_,?_,rfl,?_,rfl⟩
       ·simp[Rt,kY,pv]
       ·simp[Rt]
     ·rw[if_neg fun h=>SG h.1] at Rt;apply aV;simp[hC,SG];refine gw ?_;simp;apply aq;simp[hC,kZ];apply T.ret;refine ae.le (Le.trim [6] [0,1,3,5] 8 ZX yA) ?_;simp;refine ae.le (Le.nz [] [5]) ?_;simp;refine ae.le (Le.dp (o:=5) rfl Uq) ?_;simp;refine ae.trim [6] [0,1,3] 4 SN yA ⟨_,?_,rfl,?_,rfl⟩
      ·simp[Rt,kY,pv]
      ·simp[Rt]
theorem uE (x:Ar):(pe x).length=7:=by cases x<;>simp[pe,kY,k8,bP]
theorem p6 (L:List Int)(ar:Bool)(ms:List Mx)(ps:List Pm)(vars:List ByteArray)(p:Pm):∀ (l:List Pm) (i:Nat),de L ar ms ps vars (l++[p]) i=((de L ar ms ps vars l i).1++(de L ar ms ps vars [p] (de L ar ms ps vars l i).2).1,(de L ar ms ps vars [p] (de L ar ms ps vars l i).2).2)
 | [],i=>by simp[de]
 | q::r,i=>by
  rw[List.cons_append,de,de];split
  ·rw[p6 L ar ms ps vars p r];simp
  ·rw[p6 L ar ms ps vars p r];simp
theorem sG (L:List Int)(ar:Bool)(ms:List Mx)(ps:List Pm)(vars:List ByteArray):∀ (l:List Pm) (i:Nat),(de L ar ms ps vars l i).1.length=l.length
 | [],i=>rfl
 | q::r,i=>by
  rw[de];split<;>simp[sG L ar ms ps vars r]
@[simp] theorem M3 (l:List Ar):(l.flatMap pe).map nz=l.flatMap pe:=by
 induction l with
 | nil=>rfl
 | cons a r ih=>
  rw[List.flatMap_cons,List.map_append,ih];congr 1;rcases a with ⟨_,_ | _⟩ | e<;>simp[pe,kY,k8,pv,bR]
@[simp] theorem nz_opC (e:Option Ex):nz (pv e)=pv e:=by cases e<;>rfl
@[simp] theorem tree_opC (e:Option Ex):tree (pv e)=true:=by cases e<;>rfl
@[simp] theorem MJ (n:Nat)(e:Option Ex):a9 n (pv e)=true:=by cases e<;>rfl
@[simp] theorem Ou (n:Nat)(e:Option Ex):aL n (pv e)=true:=by cases e<;>rfl
@[simp] theorem ok1_opC (o q:Nat)(e:Option Ex):nc o q (pv e)=true:=by cases e<;>rfl
@[simp] theorem ren1_opC (o q:Nat)(e:Option Ex):dk o q (pv e)=pv e:=by cases e<;>rfl
@[simp] theorem frzV_opC (o:Nat)(cs:List CV)(n:Nat)(e:Option Ex):cH o cs n (pv e)=pv e:=by cases e<;>rfl
theorem zj (o q:Nat)(e:Ex):(bR e).all (nc o q)=true:=bj (bz e) o q
@[simp] theorem ren1_exC (o q:Nat)(e:Ex):(bR e).map (dk o q)=bR e:=aZ (bz e) o q
theorem E1 (l:List Ar):trees (l.flatMap pe)=true:=by
 induction l with
 | nil=>rfl
 | cons a r ih=>
  rw[List.flatMap_cons,bC,ih,Bool.and_true];rcases a with ⟨_,_ | _⟩ | e<;>simp only[pe,kY,k8,pv,List.cons_append,List.nil_append,trees,tree,bz,Bool.and_self]
section
variable (L:List Int)(vars:List ByteArray)(gs:List Gl)(ms:List Mx)(nf left:Nat)(ar:Bool)(i:Nat)(nm:ByteArray)(ps:List Pm)(bc:List CV)(bn:Nat)(nm':ByteArray)(QK:List Pm)(bc':List CV)(bn':Nat)
def J88 (m:Nat)(s:St):Prop:=∃ k:Nat,m=QK.length-k∧k≤QK.length∧
 s=⟨[(10,I k),(9,.bl 6 0 k),(6,.ax 5 0),(5,.ax 4 0),(0,.ax 1 0),(3,.bl 3 0 vars.length)],[(0,aI L (de L ar ms ps vars (QK.take k) i).2),(1,bp gs ms nf left ar),(3,bg vars),(4,⟨192,0,gK nm ps bc bn⟩),(5,⟨192,0,gK nm' QK bc' bn'⟩),(6,⟨323,7,(de L ar ms ps vars (QK.take k) i).1.flatMap pe⟩)],7⟩
end
theorem GV (L:List Int)(hL:L.length≤1000)(vars:List ByteArray)(hv:vars.length≤1000)(gs:List Gl)(ms:List Mx)(hm:0<ms.length)(Ue:ms.length≤100)(O9:∀ m∈ms,m.size≤1000)(nf left:Nat)(ar:Bool)(i:Nat)(hi:i≤L.length)
  (nm:ByteArray) (ps:List Pm) (hp:ps.length≤100) (bc:List CV) (bn:Nat) (nm':ByteArray) (QK:List Pm) (Td:QK.length≤100) (bc':List CV) (bn':Nat) :
  Body Tryz.prog ak 199 [.ax 1 0,.agg (gK nm ps bc bn),.agg (gK nm' QK bc' bn'),.bl 3 0 vars.length] [(0,aI L i),(1,bp gs ms nf left ar),(3,bg vars)] 4
   (jb (.aA ((de L ar ms ps vars QK i).1.flatMap pe) QK.length) [(0,aI L (de L ar ms ps vars QK i).2),(1,bp gs ms nf left ar),(3,bg vars)] 4):=by
 refine Body.jA Tryz.func199 rfl OV (by simp[Tryz.ntmps199]) fun C hC O0=>?_;rw[Tryz.ntmps199] at hC;apply aq;simp[hC,gK];apply aq;simp[hC];apply aO;simp[hC];apply T.block;refine T.aH (J88 L vars gs ms nf left ar i nm ps bc bn nm' QK bc' bn') (n:=QK.length) ?_ ?_
 ·refine ae.le (Le.own 9 323 7 rfl) (ae.trim [10,9,6,5,0,3] [0,1,3,4,5,6] 7 (by simp[aI,bp]) yA ⟨0,rfl,Nat.zero_le _,?_⟩);simp[de,gK]
 ·rintro n s ⟨k,rfl,hk,rfl⟩;have ZS:(de L ar ms ps vars (QK.take k) i).1.length=k:=by rw[sG];simp;omega
  have PI:(de L ar ms ps vars (QK.take k) i).2≤L.length:=qW _ _ _ _ _ _ hi;have PO:=bM (f:=pe) (n:=7) uE (de L ar ms ps vars (QK.take k) i).1;rw[ZS] at PO;have Pw:=E1 (de L ar ms ps vars (QK.take k) i).1;generalize hA:de L ar ms ps vars (QK.take k) i=A at ZS PI PO Pw;have hnz:=M3 A.1;generalize hX:A.1.flatMap pe=X at PO Pw hnz;have hl8:=ah Pw 9;have Pe:=bj Pw 8 6;have RK:=aZ Pw 8 6;have hl6:=ah Pw 7;apply aO;simp[hC,gK];refine T.bh rfl (fun h=>?_) (fun h=>?_)
  ·have PD:k<QK.length:=by simpa using h
   obtain⟨p,Rw⟩:∃ p,QK[k]? = some p:=⟨QK[k],List.getElem?_eq_getElem PD⟩;have RZ:=bQ (f:=lh) (n:=2) (fun _=>rfl) Rw 1 yA;have wi:=cC ((k:Int)+1) yA yA;have Pd:QK.take (k+1)=QK.take k++[p]:=by rw[List.take_add_one,Rw];rfl
   have hA1:de L ar ms ps vars (QK.take (k+1)) i=(A.1++(de L ar ms ps vars [p] A.2).1,(de L ar ms ps vars [p] A.2).2):=by rw[Pd,p6,hA]
   have hb:(k+1)*104≤140737488355328:=by omega
   apply T.skip;simp;refine T.seq (T.block (aq ?_));simp[hC,PD,RZ,lh];refine T.cond (b:=p.mutex) rfl ?_
   cases YT:p.mutex with
   | true=>
    have Rt:de L ar ms ps vars [p] A.2=([.vm (jz L ar ms ps vars A.2).1],(jz L ar ms ps vars A.2).2):=by simp[de,YT]
    rw[Rt] at hA1;simp;apply aV;simp[hC];refine TL.cK ai [0,1,3] 4 (tU L hL vars hv gs ms hm Ue O9 nf left ar A.2 PI nm ps hp bc bn) O5 rfl rfl rfl rfl OU rfl (by first | rfl | simp[aI,ints,bp]) rfl (TL.go' ai ?_);simp[hC,kY,bb,PO,hb];apply aV;simp[hC,wi];refine⟨QK.length-(k+1),by omega,ae.le (Le.trim [10,9,6,5,0,3] [0,1,3,4,5,8] 9 (by simp[aI,bp,-List.all_eq_true,hl8]) yA) ?_⟩;simp;refine ae.le (Le.nz [] [8]) ?_;simp[hnz];refine ae.le (Le.oX 8 6 rfl rfl yA OU (by simp ) (by simp[aI,ints,bp,-List.all_eq_true,Pe])) ?_;simp[aI,ints,bp,RK];refine ae.trim [10,9,6,5,0,3] [0,1,3,4,5,6] 7 (by simp[-List.all_eq_true,hl6]) yA ⟨k+1,rfl,PD,?_⟩;simp only[hA1];simp[gK,bp,aI,ints,pe,kY,bR,eS,hX]
   | false=>
    have Rt:de L ar ms ps vars [p] A.2=([.exp (dq L ar vars A.2).1],(dq L ar vars A.2).2):=by simp[de,YT]
    rw[Rt] at hA1;simp;apply aV;simp[hC];refine TL.cK ai [0,1,3] 4 (ny L hL vars hv gs ms nf left ar A.2 PI) O5 rfl rfl rfl rfl OU rfl (by first | rfl | simp[aI,ints,bp]) rfl (TL.go' ai ?_);simp[hC,bP,bb,PO,hb];apply aV;simp[hC,wi];refine⟨QK.length-(k+1),by omega,ae.le (Le.trim [10,9,6,5,0,3] [0,1,3,4,5,8] 9 (by simp[aI,bp,-List.all_eq_true,hl8,gG]) yA) ?_⟩;simp;refine ae.le (Le.nz [] [8]) ?_;simp[hnz];refine ae.le (Le.oX 8 6 rfl rfl yA OU (by simp ) (by simp[aI,ints,bp,-List.all_eq_true,Pe,zj])) ?_;simp[aI,ints,bp,RK];refine ae.trim [10,9,6,5,0,3] [0,1,3,4,5,6] 7 (by simp[-List.all_eq_true,hl6,gG]) yA ⟨k+1,rfl,PD,?_⟩;simp only[hA1];simp[gK,bp,aI,ints,pe,k8,eS,hX]
  ·have PD:k=QK.length:=by
    have:¬ k<QK.length:=by simpa using h
    omega
   subst PD;rw[List.take_length] at hA;rw[hA];apply T.exit;simp;apply aq;simp[hC];apply T.ret;refine ae.le (Le.trim [8] [0,1,3,6] 7 (by simp[aI,bp,-List.all_eq_true,hl6]) yA) ?_;simp;refine ae.le (Le.dp (o:=6) rfl Pw) ?_;have Yu:X.take (QK.length*7)=X:=List.take_of_length_le yA;simp[Yu];refine ae.trim [8] [0,1,3] 4 (by simp[aI,bp]) yA ⟨_,?_,rfl,?_,rfl⟩
   ·simp[hX]
   ·simp[bp]
end Go.Proofs.YtnecpnjdonibmaaGreat
