/- writer.ref. -/
import Derived.Test.YtkkdkhbhamhfgaaGreatDoorZ22
namespace Go.Proofs.YtkkdkhbhamhfgaaGreatDoor
open Go.Can Go.aT
def jx:List CV:=[.str ⟨#[]⟩,.ag]
def fy (nm:ByteArray)(ps:List Pm)(bc:List CV)(bn:Nat):List CV:=[.str nm,.au (ps.flatMap jB) ps.length,.au bc bn]
section
variable (L:List Int)(vars:List ByteArray)(gs:List Gl)(ms:List Mx)(nf left:Nat)(ar:Bool)(i:Nat)(nm:ByteArray)(ps:List Pm)(bc:List CV)(bn:Nat)
def J86 (m:Nat)(s:St):Prop:=∃ k:Nat,m=ms.length-k∧k≤ms.length∧
 s=⟨[(8,I k),(7,.bw 6 0 k),(6,.ai 5 0),(4,.ai 4 0),(0,.ai 1 0),(2,.bw 3 0 vars.length)],[(0,ax L i),(1,ba gs ms nf left ar),(3,aW vars),(4,⟨109,0,fy nm ps bc bn⟩),(5,⟨167,0,jx⟩),(6,aW ((ms.take k).map (·.name)))],7⟩
def K86 (m:Nat)(s:St):Prop:=∃ k:Nat,m=ps.length-k∧k≤ps.length∧
 s=⟨[(10,I k),(9,I ms.length),(7,.bw 6 0 (bH ms (ps.take k)).length),(6,.ai 5 0),(4,.ai 4 0),(0,.ai 1 0),(2,.bw 3 0 vars.length)],[(0,ax L i),(1,ba gs ms nf left ar),(3,aW vars),(4,⟨109,0,fy nm ps bc bn⟩),(5,⟨167,0,jx⟩),(6,aW (bH ms (ps.take k)))],7⟩
end
theorem qf (L:List Int)(hL:L.length≤1000)(vars:List ByteArray)(hv:vars.length≤1000)(gs:List Gl)(ms:List Mx)(hm:0<ms.length)(Ok:ms.length≤100)(JX:∀ m∈ms,m.size≤1000)(nf left:Nat)(ar:Bool)(i:Nat)(hi:i≤L.length)
  (nm:ByteArray) (ps:List Pm) (hp:ps.length≤100) (bc:List CV) (bn:Nat) :
  Body Tryz.prog ak 78 [.ai 1 0,.agg (fy nm ps bc bn),.bw 3 0 vars.length] [(0,ax L i),(1,ba gs ms nf left ar),(3,aW vars)] 4 (jQ (.agg (jw (g7 L ar ms ps vars i).1)) [(0,ax L (g7 L ar ms ps vars i).2),(1,ba gs ms nf left ar),(3,aW vars)] 4):=by
 generalize KO:g7 L ar ms ps vars i=res;refine Body.je Tryz.func78 rfl JN (by simp[Tryz.ntmps78]) fun C hC JR=>?_;rw[Tryz.ntmps78] at hC;apply ah;simp[hC,fy];apply ah;simp[hC];apply aL;simp[hC];apply T.block;refine T.aI (J86 L vars gs ms nf left ar i nm ps bc bn) (n:=ms.length) ?_ ?_
 ·refine aa.le (Le.own 7 9 1 rfl) (aa.trim [8,7,6,4,0,2] [0,1,3,4,5,6] 7 (by simp[ax,ba]) yA ⟨0,rfl,Nat.zero_le _,?_⟩);simp[aW,jx,fy]
 ·rintro n s ⟨k,rfl,hk,rfl⟩;have Qg:((ms.take k).map (·.name)).length=k:=by simp;omega
  generalize hN:(ms.take k).map (·.name)=N at Qg;apply aL;simp[hC,ba];refine T.aX rfl (fun h=>?_) (fun h=>?_)
  ·have J9:k<ms.length:=by simpa using h
   obtain⟨m,QH⟩:∃ m,ms[k]? = some m:=⟨ms[k],List.getElem?_eq_getElem J9⟩;have hd:=az (f:=eQ) (n:=3) (fun _=>rfl) QH;have wi:=cm ((k:Int)+1) yA yA;have hb:(k+1)*16≤140737488355328:=by omega
   have Kd:ms.take (k+1)=ms.take k++[m]:=by rw[List.take_add_one,QH];rfl
   have ZC:(ms.take (k+1)).map (·.name)=N++[m.name]:=by rw[Kd,List.map_append,hN];rfl
   apply T.skip;simp;refine T.seq (T.block (T.go' af ?_));simp[hC,J9,hd,eQ,aW,hb,Qg];apply a8;simp[hC,wi];refine⟨ms.length-(k+1),by omega,aa.le (Le.trim [8,7,6,4,0,2] [0,1,3,4,5,8] 9 (by simp[ax,fy,jx]) yA) ?_⟩;simp;refine aa.le (Le.mq 8 6 rfl rfl yA JM (by simp ) (by simp[ax,ints,fy,jx])) ?_;simp[ax,ints,fy,jx];refine aa.trim [8,7,6,4,0,2] [0,1,3,4,5,6] 7 JM yA ⟨k+1,rfl,J9,?_⟩;simp only[ZC];simp[aW,jx,fy,ba,ax,ints]
  ·have J9:k=ms.length:=by
    have:¬ k<ms.length:=by simpa using h
    omega
   subst J9;rw[List.take_length] at hN;apply T.exit;simp;refine T.le (Le.trim [7,6,4,0,2] [0,1,3,4,5,6] 7 (by simp[ax,fy,jx,aW]) yA) ?_;simp;apply ah;simp[hC,aW];apply aL;simp[hC];apply T.block;refine T.aI (K86 L vars gs ms nf left ar i nm ps bc bn) (n:=ps.length) ?_ ?_
   ·refine aa.trim [10,9,7,6,4,0,2] [0,1,3,4,5,6] 7 (by simp[ax,fy,jx]) yA ⟨0,rfl,Nat.zero_le _,?_⟩;simp[aW,jx,fy,bH,← hN,ba]
   ·rintro n s ⟨j,rfl,hj,rfl⟩;have Wn:(bH ms (ps.take j)).length≤300:=by
     have:∀ l:List Pm,(l.flatMap BT).length≤l.length*2:=by
      intro l
      induction l with
      | nil=>simp
      | cons a r ih=>
       simp only[List.flatMap_cons,List.length_append,List.length_cons];have:(BT a).length≤2:=by unfold BT;split<;>simp
       omega
     have h1:=this (ps.take j);simp only[bH,List.length_append,List.length_map];simp only[List.length_take] at h1;omega
    generalize Ue:bH ms (ps.take j)=N2 at Wn;apply aL;simp[hC,fy];refine T.aX rfl (fun h=>?_) (fun h=>?_)
    ·have KZ:j<ps.length:=by simpa using h
     obtain⟨p,U7⟩:∃ p,ps[j]? = some p:=⟨ps[j],List.getElem?_eq_getElem KZ⟩;have hd:=az (f:=jB) (n:=2) (fun _=>rfl) U7;have Mo:=bb (f:=jB) (n:=2) (fun _=>rfl) U7 1 yA;have wi:=cm ((j:Int)+1) yA yA;have Kd:ps.take (j+1)=ps.take j++[p]:=by rw[List.take_add_one,U7];rfl
     have RB:bH ms (ps.take (j+1))=N2++BT p:=by rw[Kd,← Ue];simp[bH]
     apply T.skip;simp;refine T.seq (T.block (ah ?_));simp[hC,KZ,Mo,jB];refine T.cond (b:=p.mutex) rfl ?_
     cases PG:p.mutex with
     | true=>
      have Mt:BT p=[p.name,p.name]:=by simp[BT,PG]
      have hb:(N2.length+2)*16≤140737488355328:=by omega
      simp;refine T.rx af follows [0,1,2,3,4,5,6,7,8,9,10,11,12,13,14,15] [] JN ?_;simp[hC,KZ,hd,jB,aW,hb];apply a8;simp[hC,wi];refine⟨ps.length-(j+1),by omega,aa.le (Le.trim [10,9,7,6,4,0,2] [0,1,3,4,5,23] 24 (by simp[ax,jx,ba]) yA) ?_⟩;simp;refine aa.le (Le.mq 23 6 rfl rfl yA JM (by simp ) (by simp[ax,ints,jx,ba])) ?_;simp[ax,ints,jx,ba];refine aa.trim [10,9,7,6,4,0,2] [0,1,3,4,5,6] 7 JM yA ⟨j+1,rfl,KZ,?_⟩;simp only[RB,Mt];simp[aW,jx,fy,ba,ax,ints]
     | false=>
      have Mt:BT p=[]:=by simp[BT,PG]
      simp;apply T.skip;simp;apply a8;simp[hC,wi];refine⟨ps.length-(j+1),by omega,aa.trim [10,9,7,6,4,0,2] [0,1,3,4,5,6] 7 (by simp[ax,jx,ba,aW]) yA ⟨j+1,rfl,KZ,?_⟩⟩;simp only[RB,Mt];simp[aW,jx,fy,ba,ax,ints]
    ·have KZ:j=ps.length:=by
      have:¬ j<ps.length:=by simpa using h
      omega
     subst KZ;rw[List.take_length] at Ue;apply T.exit;simp;refine T.le (Le.trim [9,7,6,4,0,2] [0,1,3,4,5,6] 7 (by simp[ax,jx,aW,ba]) yA) ?_;simp;have Tr:0<N2.length:=by rw[← Ue];simp[bH];omega
     apply ah;simp[hC,ba];refine TL.cd af [0] 1 (bX L i N2.length hi hL Tr yA) JT rfl rfl rfl rfl JM KD KC rfl (TL.go' af ?_);simp[hC];have Ki:=aV L N2.length hi;have JS:=cI L i Tr;have LQ:res=if (bO L i N2.length).1<ms.length∧0<jv ms (bO L i N2.length).1 then
       (⟨N2.getD (bO L i N2.length).1 eS,some (mv L ar vars (jv ms (bO L i N2.length).1) (bO L i N2.length).2).1⟩,(mv L ar vars (jv ms (bO L i N2.length).1) (bO L i N2.length).2).2)
       else (⟨N2.getD (bO L i N2.length).1 eS,none⟩,(bO L i N2.length).2):=by rw[← Ue,← KO];rfl
     generalize bO L i N2.length=k at Ki JS LQ;have JQ:=gS JS;apply ah;simp[hC,aW,JS,JQ];have LX:N2.getD k.1 eS=N2[k.1]:=by simp[List.getD,JS]
     rw[LX] at LQ;refine T.le (Le.trim [12,11,9,6,0,2] [0,1,3,5,7] 8 (by simp[ax,jx]) yA) ?_;simp;refine T.seq (T.seq ?_);by_cases QM:k.1<ms.length
     ·obtain⟨m,QH⟩:∃ m,ms[k.1]? = some m:=⟨ms[k.1],List.getElem?_eq_getElem QM⟩;have hd:=bb (f:=eQ) (n:=3) (fun _=>rfl) QH 2 yA;have Yy:jv ms k.1=m.size:=by simp[jv,QH]
      have KL:=JX m (List.mem_of_getElem? QH);have S0:=bb (f:=eQ) (n:=3) (fun _=>rfl) QH 0 yA;rw[Yy] at LQ;apply a8;simp[hC,QM,hd,eQ];refine T.aX rfl (fun h=>?_) (fun h=>?_)
      ·have PE:0<m.size:=by simpa using h
       rw[if_pos ⟨QM,PE⟩] at LQ;apply a8;simp[hC,QM,hd,eQ];refine TL.cd af [0,1,3] 4 (AD L hL vars hv gs ms nf left m.size PE KL ar k.2 Ki) JT rfl rfl rfl rfl JM rfl (by first | rfl | simp[ax,ints,ba]) rfl (TL.go' af ?_);simp[hC,bA,aS];apply ah;simp[hC,jx];apply T.ret;refine aa.le (Le.trim [6] [0,1,3,5,8] 9 (by simp[ax,ba,-List.all_eq_true,gL]) yA) ?_;simp;refine aa.le (Le.dC (o:=8) rfl (bj _)) ?_;simp;refine aa.le (Le.dC (o:=5) rfl rfl) ?_;simp;refine aa.trim [6] [0,1,3] 4 (by simp[ax,ba]) yA ⟨_,?_,rfl,?_,rfl⟩
       ·simp[LQ,jw,mK]
       ·simp[LQ,ba,aW]
      ·have PE:¬ 0<m.size:=by simpa using h
       rw[if_neg fun h=>PE h.2] at LQ;apply T.skip;simp;apply ah;simp[hC,jx];apply T.ret;refine aa.le (Le.trim [6] [0,1,3,5] 8 Tu yA) ?_;simp;refine aa.le (Le.nz [] [5]) ?_;simp;refine aa.le (Le.dC (o:=5) rfl Ow) ?_;simp;refine aa.trim [6] [0,1,3] 4 Nb yA ⟨_,?_,rfl,?_,rfl⟩
       ·simp[LQ,jw,mK]
       ·simp[LQ]
     ·rw[if_neg fun h=>QM h.1] at LQ;apply a8;simp[hC,QM];refine dg ?_;simp;apply ah;simp[hC,jx];apply T.ret;refine aa.le (Le.trim [6] [0,1,3,5] 8 Tu yA) ?_;simp;refine aa.le (Le.nz [] [5]) ?_;simp;refine aa.le (Le.dC (o:=5) rfl Ow) ?_;simp;refine aa.trim [6] [0,1,3] 4 Nb yA ⟨_,?_,rfl,?_,rfl⟩
      ·simp[LQ,jw,mK]
      ·simp[LQ]
theorem qC (x:Ar):(mC x).length=7:=by cases x<;>simp[mC,jw,jy,bA]
theorem nB (L:List Int)(ar:Bool)(ms:List Mx)(ps:List Pm)(vars:List ByteArray)(p:Pm):∀ (l:List Pm) (i:Nat),cE L ar ms ps vars (l++[p]) i=((cE L ar ms ps vars l i).1++(cE L ar ms ps vars [p] (cE L ar ms ps vars l i).2).1,(cE L ar ms ps vars [p] (cE L ar ms ps vars l i).2).2)
 | [],i=>by simp[cE]
 | q::r,i=>by
  rw[List.cons_append,cE,cE];split
  ·rw[nB L ar ms ps vars p r];simp
  ·rw[nB L ar ms ps vars p r];simp
theorem pC (L:List Int)(ar:Bool)(ms:List Mx)(ps:List Pm)(vars:List ByteArray):∀ (l:List Pm) (i:Nat),(cE L ar ms ps vars l i).1.length=l.length
 | [],i=>rfl
 | q::r,i=>by
  rw[cE];split<;>simp[pC L ar ms ps vars r]
@[simp] theorem HQ (l:List Ar):(l.flatMap mC).map nz=l.flatMap mC:=by
 induction l with
 | nil=>rfl
 | cons a r ih=>
  rw[List.flatMap_cons,List.map_append,ih];congr 1;rcases a with ⟨_,_ | _⟩ | e<;>simp[mC,jw,jy,mK,bC]
@[simp] theorem nz_opC (e:Option Ex):nz (mK e)=mK e:=by cases e<;>rfl
@[simp] theorem tree_opC (e:Option Ex):tree (mK e)=true:=by cases e<;>rfl
@[simp] theorem HC (n:Nat)(e:Option Ex):aZ n (mK e)=true:=by cases e<;>rfl
@[simp] theorem Jk (n:Nat)(e:Option Ex):aA n (mK e)=true:=by cases e<;>rfl
@[simp] theorem ok1_opC (o q:Nat)(e:Option Ex):kX o q (mK e)=true:=by cases e<;>rfl
@[simp] theorem ren1_opC (o q:Nat)(e:Option Ex):cH o q (mK e)=mK e:=by cases e<;>rfl
@[simp] theorem frzV_opC (o:Nat)(cs:List CV)(n:Nat)(e:Option Ex):bZ o cs n (mK e)=mK e:=by cases e<;>rfl
theorem uW (o q:Nat)(e:Ex):(bC e).all (kX o q)=true:=aY (bj e) o q
@[simp] theorem ren1_exC (o q:Nat)(e:Ex):(bC e).map (cH o q)=bC e:=aM (bj e) o q
theorem AG (l:List Ar):trees (l.flatMap mC)=true:=by
 induction l with
 | nil=>rfl
 | cons a r ih=>
  rw[List.flatMap_cons,bu,ih,Bool.and_true];rcases a with ⟨_,_ | _⟩ | e<;>simp only[mC,jw,jy,mK,List.cons_append,List.nil_append,trees,tree,bj,Bool.and_self]
section
variable (L:List Int)(vars:List ByteArray)(gs:List Gl)(ms:List Mx)(nf left:Nat)(ar:Bool)(i:Nat)(nm:ByteArray)(ps:List Pm)(bc:List CV)(bn:Nat)(TG:ByteArray)(K6:List Pm)(Uj:List CV)(Ui:Nat)
def J88 (m:Nat)(s:St):Prop:=∃ k:Nat,m=K6.length-k∧k≤K6.length∧
 s=⟨[(10,I k),(9,.bw 6 0 k),(6,.ai 5 0),(5,.ai 4 0),(0,.ai 1 0),(3,.bw 3 0 vars.length)],[(0,ax L (cE L ar ms ps vars (K6.take k) i).2),(1,ba gs ms nf left ar),(3,aW vars),(4,⟨109,0,fy nm ps bc bn⟩),(5,⟨109,0,fy TG K6 Uj Ui⟩),(6,⟨195,7,(cE L ar ms ps vars (K6.take k) i).1.flatMap mC⟩)],7⟩
end
theorem Cd (L:List Int)(hL:L.length≤1000)(vars:List ByteArray)(hv:vars.length≤1000)(gs:List Gl)(ms:List Mx)(hm:0<ms.length)(Ok:ms.length≤100)(JX:∀ m∈ms,m.size≤1000)(nf left:Nat)(ar:Bool)(i:Nat)(hi:i≤L.length)
  (nm:ByteArray) (ps:List Pm) (hp:ps.length≤100) (bc:List CV) (bn:Nat) (TG:ByteArray) (K6:List Pm) (Ns:K6.length≤100) (Uj:List CV) (Ui:Nat) :
  Body Tryz.prog ak 80 [.ai 1 0,.agg (fy nm ps bc bn),.agg (fy TG K6 Uj Ui),.bw 3 0 vars.length] [(0,ax L i),(1,ba gs ms nf left ar),(3,aW vars)] 4
   (jQ (.au ((cE L ar ms ps vars K6 i).1.flatMap mC) K6.length) [(0,ax L (cE L ar ms ps vars K6 i).2),(1,ba gs ms nf left ar),(3,aW vars)] 4):=by
 refine Body.je Tryz.func80 rfl JN (by simp[Tryz.ntmps80]) fun C hC JR=>?_;rw[Tryz.ntmps80] at hC;apply ah;simp[hC,fy];apply ah;simp[hC];apply aL;simp[hC];apply T.block;refine T.aI (J88 L vars gs ms nf left ar i nm ps bc bn TG K6 Uj Ui) (n:=K6.length) ?_ ?_
 ·refine aa.le (Le.own 9 195 7 rfl) (aa.trim [10,9,6,5,0,3] [0,1,3,4,5,6] 7 (by simp[ax,ba]) yA ⟨0,rfl,Nat.zero_le _,?_⟩);simp[cE,fy]
 ·rintro n s ⟨k,rfl,hk,rfl⟩;have XG:(cE L ar ms ps vars (K6.take k) i).1.length=k:=by rw[pC];simp;omega
  have Ki:(cE L ar ms ps vars (K6.take k) i).2≤L.length:=oI _ _ _ _ _ _ hi;have Lz:=aQ (f:=mC) (n:=7) qC (cE L ar ms ps vars (K6.take k) i).1;rw[XG] at Lz;have Ke:=AG (cE L ar ms ps vars (K6.take k) i).1;generalize hA:cE L ar ms ps vars (K6.take k) i=A at XG Ki Lz Ke;have Vd:=HQ A.1;generalize hX:A.1.flatMap mC=X at Lz Ke Vd;have Xi:=aj Ke 9;have J4:=aY Ke 8 6;have Lq:=aM Ke 8 6;have Vy:=aj Ke 7;apply aL;simp[hC,fy];refine T.aX rfl (fun h=>?_) (fun h=>?_)
  ·have J9:k<K6.length:=by simpa using h
   obtain⟨p,OM⟩:∃ p,K6[k]? = some p:=⟨K6[k],List.getElem?_eq_getElem J9⟩;have Mo:=bb (f:=jB) (n:=2) (fun _=>rfl) OM 1 yA;have wi:=cm ((k:Int)+1) yA yA;have Kd:K6.take (k+1)=K6.take k++[p]:=by rw[List.take_add_one,OM];rfl
   have Ug:cE L ar ms ps vars (K6.take (k+1)) i=(A.1++(cE L ar ms ps vars [p] A.2).1,(cE L ar ms ps vars [p] A.2).2):=by rw[Kd,nB,hA]
   have hb:(k+1)*104≤140737488355328:=by omega
   apply T.skip;simp;refine T.seq (T.block (ah ?_));simp[hC,J9,Mo,jB];refine T.cond (b:=p.mutex) rfl ?_
   cases PG:p.mutex with
   | true=>
    have LQ:cE L ar ms ps vars [p] A.2=([.ru (g7 L ar ms ps vars A.2).1],(g7 L ar ms ps vars A.2).2):=by simp[cE,PG]
    rw[LQ] at Ug;simp;apply a8;simp[hC];refine TL.cd af [0,1,3] 4 (qf L hL vars hv gs ms hm Ok JX nf left ar A.2 Ki nm ps hp bc bn) JT rfl rfl rfl rfl JM rfl (by first | rfl | simp[ax,ints,ba]) rfl (TL.go' af ?_);simp[hC,jw,aS,Lz,hb];apply a8;simp[hC,wi];refine⟨K6.length-(k+1),by omega,aa.le (Le.trim [10,9,6,5,0,3] [0,1,3,4,5,8] 9 (by simp[ax,ba,-List.all_eq_true,Xi]) yA) ?_⟩;simp;refine aa.le (Le.nz [] [8]) ?_;simp[Vd];refine aa.le (Le.mq 8 6 rfl rfl yA JM (by simp ) (by simp[ax,ints,ba,-List.all_eq_true,J4])) ?_;simp[ax,ints,ba,Lq];refine aa.trim [10,9,6,5,0,3] [0,1,3,4,5,6] 7 (by simp[-List.all_eq_true,Vy]) yA ⟨k+1,rfl,J9,?_⟩;simp only[Ug];simp[fy,ba,ax,ints,mC,jw,bC,eS,hX]
   | false=>
    have LQ:cE L ar ms ps vars [p] A.2=([.exp (cL L ar vars A.2).1],(cL L ar vars A.2).2):=by simp[cE,PG]
    rw[LQ] at Ug;simp;apply a8;simp[hC];refine TL.cd af [0,1,3] 4 (lg L hL vars hv gs ms nf left ar A.2 Ki) JT rfl rfl rfl rfl JM rfl (by first | rfl | simp[ax,ints,ba]) rfl (TL.go' af ?_);simp[hC,bA,aS,Lz,hb];apply a8;simp[hC,wi];refine⟨K6.length-(k+1),by omega,aa.le (Le.trim [10,9,6,5,0,3] [0,1,3,4,5,8] 9 (by simp[ax,ba,-List.all_eq_true,Xi,gL]) yA) ?_⟩;simp;refine aa.le (Le.nz [] [8]) ?_;simp[Vd];refine aa.le (Le.mq 8 6 rfl rfl yA JM (by simp ) (by simp[ax,ints,ba,-List.all_eq_true,J4,uW])) ?_;simp[ax,ints,ba,Lq];refine aa.trim [10,9,6,5,0,3] [0,1,3,4,5,6] 7 (by simp[-List.all_eq_true,Vy,gL]) yA ⟨k+1,rfl,J9,?_⟩;simp only[Ug];simp[fy,ba,ax,ints,mC,jy,eS,hX]
  ·have J9:k=K6.length:=by
    have:¬ k<K6.length:=by simpa using h
    omega
   subst J9;rw[List.take_length] at hA;rw[hA];apply T.exit;simp;apply ah;simp[hC];apply T.ret;refine aa.le (Le.trim [8] [0,1,3,6] 7 (by simp[ax,ba,-List.all_eq_true,Vy]) yA) ?_;simp;refine aa.le (Le.dC (o:=6) rfl Ke) ?_;have R1:X.take (K6.length*7)=X:=List.take_of_length_le yA;simp[R1];refine aa.trim [8] [0,1,3] 4 (by simp[ax,ba]) yA ⟨_,?_,rfl,?_,rfl⟩
   ·simp[hX]
   ·simp[ba]
end Go.Proofs.YtkkdkhbhamhfgaaGreatDoor
