/- writer.ref. -/
import Derived.Test.YtlkmbdfhdknlgaaGreatDoorZ22
namespace Go.Proofs.YtlkmbdfhdknlgaaGreatDoor
open Go.Can Go.aT
def jx:List CV:=[.str ⟨#[]⟩,.ag]
def fy (nm:ByteArray)(ps:List Pm)(bc:List CV)(bn:Nat):List CV:=[.str nm,.au (ps.flatMap jB) ps.length,.au bc bn]
section
variable (L:List Int)(vars:List ByteArray)(gs:List Gl)(ms:List Mx)(nf left:Nat)(ar:Bool)(i:Nat)(nm:ByteArray)(ps:List Pm)(bc:List CV)(bn:Nat)
def J86 (m:Nat)(s:St):Prop:=∃ k:Nat,m=ms.length-k∧k≤ms.length∧
 s=⟨[(8,I k),(7,.bw 6 0 k),(6,.ai 5 0),(4,.ai 4 0),(0,.ai 1 0),(2,.bw 3 0 vars.length)],[(0,ax L i),(1,ba gs ms nf left ar),(3,aW vars),(4,⟨109,0,fy nm ps bc bn⟩),(5,⟨167,0,jx⟩),(6,aW ((ms.take k).map (·.name)))],7⟩
def K86 (m:Nat)(s:St):Prop:=∃ k:Nat,m=ps.length-k∧k≤ps.length∧
 s=⟨[(10,I k),(9,I ms.length),(7,.bw 6 0 (bH ms (ps.take k)).length),(6,.ai 5 0),(4,.ai 4 0),(0,.ai 1 0),(2,.bw 3 0 vars.length)],[(0,ax L i),(1,ba gs ms nf left ar),(3,aW vars),(4,⟨109,0,fy nm ps bc bn⟩),(5,⟨167,0,jx⟩),(6,aW (bH ms (ps.take k)))],7⟩
end
theorem qf (L:List Int)(hL:L.length≤1000)(vars:List ByteArray)(hv:vars.length≤1000)(gs:List Gl)(ms:List Mx)(hm:0<ms.length)(PY:ms.length≤100)(CX:∀ m∈ms,m.size≤1000)(nf left:Nat)(ar:Bool)(i:Nat)(hi:i≤L.length)
  (nm:ByteArray) (ps:List Pm) (hp:ps.length≤100) (bc:List CV) (bn:Nat) :
  Body Tryz.prog ak 78 [.ai 1 0,.agg (fy nm ps bc bn),.bw 3 0 vars.length] [(0,ax L i),(1,ba gs ms nf left ar),(3,aW vars)] 4 (jQ (.agg (jw (g7 L ar ms ps vars i).1)) [(0,ax L (g7 L ar ms ps vars i).2),(1,ba gs ms nf left ar),(3,aW vars)] 4):=by
 generalize K7:g7 L ar ms ps vars i=res;refine Body.je Tryz.func78 rfl lz (by simp[Tryz.ntmps78]) fun C hC xJ=>?_;rw[Tryz.ntmps78] at hC;apply ah;simp[hC,fy];apply ah;simp[hC];apply aL;simp[hC];apply T.block;refine T.aI (J86 L vars gs ms nf left ar i nm ps bc bn) (n:=ms.length) ?_ ?_
 ·refine aa.le (Le.own 7 9 1 rfl) (aa.trim [8,7,6,4,0,2] [0,1,3,4,5,6] 7 (by simp[ax,ba]) yA ⟨0,rfl,Nat.zero_le _,?_⟩);simp[aW,jx,fy]
 ·rintro n s ⟨k,rfl,hk,rfl⟩;have QO:((ms.take k).map (·.name)).length=k:=by simp;omega
  generalize hN:(ms.take k).map (·.name)=N at QO;apply aL;simp[hC,ba];refine T.aX rfl (fun h=>?_) (fun h=>?_)
  ·have Ke:k<ms.length:=by simpa using h
   obtain⟨m,Rd⟩:∃ m,ms[k]? = some m:=⟨ms[k],List.getElem?_eq_getElem Ke⟩;have hd:=az (f:=eQ) (n:=3) (fun _=>rfl) Rd;have wi:=cm ((k:Int)+1) yA yA;have hb:(k+1)*16≤140737488355328:=by omega
   have Kk:ms.take (k+1)=ms.take k++[m]:=by rw[List.take_add_one,Rd];rfl
   have hN':(ms.take (k+1)).map (·.name)=N++[m.name]:=by rw[Kk,List.map_append,hN];rfl
   apply T.skip;simp;refine T.seq (T.block (T.go' af ?_));simp[hC,Ke,hd,eQ,aW,hb,QO];apply a8;simp[hC,wi];refine⟨ms.length-(k+1),by omega,aa.le (Le.trim [8,7,6,4,0,2] [0,1,3,4,5,8] 9 (by simp[ax,fy,jx]) yA) ?_⟩;simp;refine aa.le (Le.mq 8 6 rfl rfl yA j5 (by simp ) (by simp[ax,ints,fy,jx])) ?_;simp[ax,ints,fy,jx];refine aa.trim [8,7,6,4,0,2] [0,1,3,4,5,6] 7 j5 yA ⟨k+1,rfl,Ke,?_⟩;simp only[hN'];simp[aW,jx,fy,ba,ax,ints]
  ·have Ke:k=ms.length:=by
    have:¬ k<ms.length:=by simpa using h
    omega
   subst Ke;rw[List.take_length] at hN;apply T.exit;simp;refine T.le (Le.trim [7,6,4,0,2] [0,1,3,4,5,6] 7 (by simp[ax,fy,jx,aW]) yA) ?_;simp;apply ah;simp[hC,aW];apply aL;simp[hC];apply T.block;refine T.aI (K86 L vars gs ms nf left ar i nm ps bc bn) (n:=ps.length) ?_ ?_
   ·refine aa.trim [10,9,7,6,4,0,2] [0,1,3,4,5,6] 7 (by simp[ax,fy,jx]) yA ⟨0,rfl,Nat.zero_le _,?_⟩;simp[aW,jx,fy,bH,← hN,ba]
   ·rintro n s ⟨j,rfl,hj,rfl⟩;have W6:(bH ms (ps.take j)).length≤300:=by
     have:∀ l:List Pm,(l.flatMap BT).length≤l.length*2:=by
      intro l
      induction l with
      | nil=>simp
      | cons a r ih=>
       simp only[List.flatMap_cons,List.length_append,List.length_cons];have:(BT a).length≤2:=by unfold BT;split<;>simp
       omega
     have h1:=this (ps.take j);simp only[bH,List.length_append,List.length_map];simp only[List.length_take] at h1;omega
    generalize UR:bH ms (ps.take j)=N2 at W6;apply aL;simp[hC,fy];refine T.aX rfl (fun h=>?_) (fun h=>?_)
    ·have KT:j<ps.length:=by simpa using h
     obtain⟨p,VO⟩:∃ p,ps[j]? = some p:=⟨ps[j],List.getElem?_eq_getElem KT⟩;have hd:=az (f:=jB) (n:=2) (fun _=>rfl) VO;have Mr:=bb (f:=jB) (n:=2) (fun _=>rfl) VO 1 yA;have wi:=cm ((j:Int)+1) yA yA;have Kk:ps.take (j+1)=ps.take j++[p]:=by rw[List.take_add_one,VO];rfl
     have Sg:bH ms (ps.take (j+1))=N2++BT p:=by rw[Kk,← UR];simp[bH]
     apply T.skip;simp;refine T.seq (T.block (ah ?_));simp[hC,KT,Mr,jB];refine T.cond (b:=p.mutex) rfl ?_
     cases Qg:p.mutex with
     | true=>
      have Mp:BT p=[p.name,p.name]:=by simp[BT,Qg]
      have hb:(N2.length+2)*16≤140737488355328:=by omega
      simp;refine T.rx af follows [0,1,2,3,4,5,6,7,8,9,10,11,12,13,14,15] [] lz ?_;simp[hC,KT,hd,jB,aW,hb];apply a8;simp[hC,wi];refine⟨ps.length-(j+1),by omega,aa.le (Le.trim [10,9,7,6,4,0,2] [0,1,3,4,5,23] 24 (by simp[ax,jx,ba]) yA) ?_⟩;simp;refine aa.le (Le.mq 23 6 rfl rfl yA j5 (by simp ) (by simp[ax,ints,jx,ba])) ?_;simp[ax,ints,jx,ba];refine aa.trim [10,9,7,6,4,0,2] [0,1,3,4,5,6] 7 j5 yA ⟨j+1,rfl,KT,?_⟩;simp only[Sg,Mp];simp[aW,jx,fy,ba,ax,ints]
     | false=>
      have Mp:BT p=[]:=by simp[BT,Qg]
      simp;apply T.skip;simp;apply a8;simp[hC,wi];refine⟨ps.length-(j+1),by omega,aa.trim [10,9,7,6,4,0,2] [0,1,3,4,5,6] 7 (by simp[ax,jx,ba,aW]) yA ⟨j+1,rfl,KT,?_⟩⟩;simp only[Sg,Mp];simp[aW,jx,fy,ba,ax,ints]
    ·have KT:j=ps.length:=by
      have:¬ j<ps.length:=by simpa using h
      omega
     subst KT;rw[List.take_length] at UR;apply T.exit;simp;refine T.le (Le.trim [9,7,6,4,0,2] [0,1,3,4,5,6] 7 (by simp[ax,jx,aW,ba]) yA) ?_;simp;have Uc:0<N2.length:=by rw[← UR];simp[bH];omega
     apply ah;simp[hC,ba];refine TL.cd af [0] 1 (bX L i N2.length hi hL Uc yA) yI rfl rfl rfl rfl j5 Ku Kt rfl (TL.go' af ?_);simp[hC];have Kp:=aV L N2.length hi;have yN:=cI L i Uc;have Me:res=if (bO L i N2.length).1<ms.length∧0<jv ms (bO L i N2.length).1 then
       (⟨N2.getD (bO L i N2.length).1 eS,some (mv L ar vars (jv ms (bO L i N2.length).1) (bO L i N2.length).2).1⟩,(mv L ar vars (jv ms (bO L i N2.length).1) (bO L i N2.length).2).2)
       else (⟨N2.getD (bO L i N2.length).1 eS,none⟩,(bO L i N2.length).2):=by rw[← UR,← K7];rfl
     generalize bO L i N2.length=k at Kp yN Me;have oy:=gS yN;apply ah;simp[hC,aW,yN,oy];have L6:N2.getD k.1 eS=N2[k.1]:=by simp[List.getD,yN]
     rw[L6] at Me;refine T.le (Le.trim [12,11,9,6,0,2] [0,1,3,5,7] 8 (by simp[ax,jx]) yA) ?_;simp;refine T.seq (T.seq ?_);by_cases Rl:k.1<ms.length
     ·obtain⟨m,Rd⟩:∃ m,ms[k.1]? = some m:=⟨ms[k.1],List.getElem?_eq_getElem Rl⟩;have hd:=bb (f:=eQ) (n:=3) (fun _=>rfl) Rd 2 yA;have Zi:jv ms k.1=m.size:=by simp[jv,Rd]
      have K3:=CX m (List.mem_of_getElem? Rd);have TQ:=bb (f:=eQ) (n:=3) (fun _=>rfl) Rd 0 yA;rw[Zi] at Me;apply a8;simp[hC,Rl,hd,eQ];refine T.aX rfl (fun h=>?_) (fun h=>?_)
      ·have Qe:0<m.size:=by simpa using h
       rw[if_pos ⟨Rl,Qe⟩] at Me;apply a8;simp[hC,Rl,hd,eQ];refine TL.cd af [0,1,3] 4 (AD L hL vars hv gs ms nf left m.size Qe K3 ar k.2 Kp) yI rfl rfl rfl rfl j5 rfl (by first | rfl | simp[ax,ints,ba]) rfl (TL.go' af ?_);simp[hC,bA,aS];apply ah;simp[hC,jx];apply T.ret;refine aa.le (Le.trim [6] [0,1,3,5,8] 9 (by simp[ax,ba,-List.all_eq_true,gL]) yA) ?_;simp;refine aa.le (Le.dC (o:=8) rfl (bj _)) ?_;simp;refine aa.le (Le.dC (o:=5) rfl rfl) ?_;simp;refine aa.trim [6] [0,1,3] 4 (by simp[ax,ba]) yA ⟨_,?_,rfl,?_,rfl⟩
       ·simp[Me,jw,mK]
       ·simp[Me,ba,aW]
      ·have Qe:¬ 0<m.size:=by simpa using h
       rw[if_neg fun h=>Qe h.2] at Me;apply T.skip;simp;apply ah;simp[hC,jx];apply T.ret;refine aa.le (Le.trim [6] [0,1,3,5] 8 Uf yA) ?_;simp;refine aa.le (Le.nz [] [5]) ?_;simp;refine aa.le (Le.dC (o:=5) rfl O3) ?_;simp;refine aa.trim [6] [0,1,3] 4 NJ yA ⟨_,?_,rfl,?_,rfl⟩
       ·simp[Me,jw,mK]
       ·simp[Me]
     ·rw[if_neg fun h=>Rl h.1] at Me;apply a8;simp[hC,Rl];refine dg ?_;simp;apply ah;simp[hC,jx];apply T.ret;refine aa.le (Le.trim [6] [0,1,3,5] 8 Uf yA) ?_;simp;refine aa.le (Le.nz [] [5]) ?_;simp;refine aa.le (Le.dC (o:=5) rfl O3) ?_;simp;refine aa.trim [6] [0,1,3] 4 NJ yA ⟨_,?_,rfl,?_,rfl⟩
      ·simp[Me,jw,mK]
      ·simp[Me]
theorem qC (x:Ar):(mC x).length=7:=by cases x<;>simp[mC,jw,jy,bA]
theorem nB (L:List Int)(ar:Bool)(ms:List Mx)(ps:List Pm)(vars:List ByteArray)(p:Pm):∀ (l:List Pm) (i:Nat),cE L ar ms ps vars (l++[p]) i=((cE L ar ms ps vars l i).1++(cE L ar ms ps vars [p] (cE L ar ms ps vars l i).2).1,(cE L ar ms ps vars [p] (cE L ar ms ps vars l i).2).2)
 | [],i=>by simp[cE]
 | q::r,i=>by
  rw[List.cons_append,cE,cE];split
  ·rw[nB L ar ms ps vars p r];simp
  ·rw[nB L ar ms ps vars p r];simp
theorem pC (L:List Int)(ar:Bool)(ms:List Mx)(ps:List Pm)(vars:List ByteArray):∀ (l:List Pm) (i:Nat),(cE L ar ms ps vars l i).1.length=l.length
 | [],i=>rfl
 | q::r,i=>by
  rw[cE];split<;>simp[pC L ar ms ps vars r]
@[simp] theorem HQ (l:List Ar):(l.flatMap mC).map nz=l.flatMap mC:=by
 induction l with
 | nil=>rfl
 | cons a r ih=>
  rw[List.flatMap_cons,List.map_append,ih];congr 1;rcases a with ⟨_,_ | _⟩ | e<;>simp[mC,jw,jy,mK,bC]
@[simp] theorem nz_opC (e:Option Ex):nz (mK e)=mK e:=by cases e<;>rfl
@[simp] theorem tree_opC (e:Option Ex):tree (mK e)=true:=by cases e<;>rfl
@[simp] theorem HC (n:Nat)(e:Option Ex):aZ n (mK e)=true:=by cases e<;>rfl
@[simp] theorem Jk (n:Nat)(e:Option Ex):aA n (mK e)=true:=by cases e<;>rfl
@[simp] theorem ok1_opC (o q:Nat)(e:Option Ex):kX o q (mK e)=true:=by cases e<;>rfl
@[simp] theorem ren1_opC (o q:Nat)(e:Option Ex):cH o q (mK e)=mK e:=by cases e<;>rfl
@[simp] theorem frzV_opC (o:Nat)(cs:List CV)(n:Nat)(e:Option Ex):bZ o cs n (mK e)=mK e:=by cases e<;>rfl
theorem uW (o q:Nat)(e:Ex):(bC e).all (kX o q)=true:=aY (bj e) o q
@[simp] theorem ren1_exC (o q:Nat)(e:Ex):(bC e).map (cH o q)=bC e:=aM (bj e) o q
theorem AG (l:List Ar):trees (l.flatMap mC)=true:=by
 induction l with
 | nil=>rfl
 | cons a r ih=>
  rw[List.flatMap_cons,bu,ih,Bool.and_true];rcases a with ⟨_,_ | _⟩ | e<;>simp only[mC,jw,jy,mK,List.cons_append,List.nil_append,trees,tree,bj,Bool.and_self]
section
variable (L:List Int)(vars:List ByteArray)(gs:List Gl)(ms:List Mx)(nf left:Nat)(ar:Bool)(i:Nat)(nm:ByteArray)(ps:List Pm)(bc:List CV)(bn:Nat)(Uq:ByteArray)(Lo:List Pm)(UW:List CV)(UU:Nat)
def J88 (m:Nat)(s:St):Prop:=∃ k:Nat,m=Lo.length-k∧k≤Lo.length∧
 s=⟨[(10,I k),(9,.bw 6 0 k),(6,.ai 5 0),(5,.ai 4 0),(0,.ai 1 0),(3,.bw 3 0 vars.length)],[(0,ax L (cE L ar ms ps vars (Lo.take k) i).2),(1,ba gs ms nf left ar),(3,aW vars),(4,⟨109,0,fy nm ps bc bn⟩),(5,⟨109,0,fy Uq Lo UW UU⟩),(6,⟨195,7,(cE L ar ms ps vars (Lo.take k) i).1.flatMap mC⟩)],7⟩
end
theorem Cd (L:List Int)(hL:L.length≤1000)(vars:List ByteArray)(hv:vars.length≤1000)(gs:List Gl)(ms:List Mx)(hm:0<ms.length)(PY:ms.length≤100)(CX:∀ m∈ms,m.size≤1000)(nf left:Nat)(ar:Bool)(i:Nat)(hi:i≤L.length)
  (nm:ByteArray) (ps:List Pm) (hp:ps.length≤100) (bc:List CV) (bn:Nat) (Uq:ByteArray) (Lo:List Pm) (N3:Lo.length≤100) (UW:List CV) (UU:Nat) :
  Body Tryz.prog ak 80 [.ai 1 0,.agg (fy nm ps bc bn),.agg (fy Uq Lo UW UU),.bw 3 0 vars.length] [(0,ax L i),(1,ba gs ms nf left ar),(3,aW vars)] 4
   (jQ (.au ((cE L ar ms ps vars Lo i).1.flatMap mC) Lo.length) [(0,ax L (cE L ar ms ps vars Lo i).2),(1,ba gs ms nf left ar),(3,aW vars)] 4):=by
 refine Body.je Tryz.func80 rfl lz (by simp[Tryz.ntmps80]) fun C hC xJ=>?_;rw[Tryz.ntmps80] at hC;apply ah;simp[hC,fy];apply ah;simp[hC];apply aL;simp[hC];apply T.block;refine T.aI (J88 L vars gs ms nf left ar i nm ps bc bn Uq Lo UW UU) (n:=Lo.length) ?_ ?_
 ·refine aa.le (Le.own 9 195 7 rfl) (aa.trim [10,9,6,5,0,3] [0,1,3,4,5,6] 7 (by simp[ax,ba]) yA ⟨0,rfl,Nat.zero_le _,?_⟩);simp[cE,fy]
 ·rintro n s ⟨k,rfl,hk,rfl⟩;have P4:(cE L ar ms ps vars (Lo.take k) i).1.length=k:=by rw[pC];simp;omega
  have Kp:(cE L ar ms ps vars (Lo.take k) i).2≤L.length:=oI _ _ _ _ _ _ hi;have Ld:=aQ (f:=mC) (n:=7) qC (cE L ar ms ps vars (Lo.take k) i).1;rw[P4] at Ld;have Km:=AG (cE L ar ms ps vars (Lo.take k) i).1;generalize hA:cE L ar ms ps vars (Lo.take k) i=A at P4 Kp Ld Km;have VU:=HQ A.1;generalize hX:A.1.flatMap mC=X at Ld Km VU;have Ya:=aj Km 9;have Kb:=aY Km 8 6;have LK:=aM Km 8 6;have We:=aj Km 7;apply aL;simp[hC,fy];refine T.aX rfl (fun h=>?_) (fun h=>?_)
  ·have Ke:k<Lo.length:=by simpa using h
   obtain⟨p,Pk⟩:∃ p,Lo[k]? = some p:=⟨Lo[k],List.getElem?_eq_getElem Ke⟩;have Mr:=bb (f:=jB) (n:=2) (fun _=>rfl) Pk 1 yA;have wi:=cm ((k:Int)+1) yA yA;have Kk:Lo.take (k+1)=Lo.take k++[p]:=by rw[List.take_add_one,Pk];rfl
   have Qv:cE L ar ms ps vars (Lo.take (k+1)) i=(A.1++(cE L ar ms ps vars [p] A.2).1,(cE L ar ms ps vars [p] A.2).2):=by rw[Kk,nB,hA]
   have hb:(k+1)*104≤140737488355328:=by omega
   apply T.skip;simp;refine T.seq (T.block (ah ?_));simp[hC,Ke,Mr,jB];refine T.cond (b:=p.mutex) rfl ?_
   cases Qg:p.mutex with
   | true=>
    have Me:cE L ar ms ps vars [p] A.2=([.ru (g7 L ar ms ps vars A.2).1],(g7 L ar ms ps vars A.2).2):=by simp[cE,Qg]
    rw[Me] at Qv;simp;apply a8;simp[hC];refine TL.cd af [0,1,3] 4 (qf L hL vars hv gs ms hm PY CX nf left ar A.2 Kp nm ps hp bc bn) yI rfl rfl rfl rfl j5 rfl (by first | rfl | simp[ax,ints,ba]) rfl (TL.go' af ?_);simp[hC,jw,aS,Ld,hb];apply a8;simp[hC,wi];refine⟨Lo.length-(k+1),by omega,aa.le (Le.trim [10,9,6,5,0,3] [0,1,3,4,5,8] 9 (by simp[ax,ba,-List.all_eq_true,Ya]) yA) ?_⟩;simp;refine aa.le (Le.nz [] [8]) ?_;simp[VU];refine aa.le (Le.mq 8 6 rfl rfl yA j5 (by simp ) (by simp[ax,ints,ba,-List.all_eq_true,Kb])) ?_;simp[ax,ints,ba,LK];refine aa.trim [10,9,6,5,0,3] [0,1,3,4,5,6] 7 (by simp[-List.all_eq_true,We]) yA ⟨k+1,rfl,Ke,?_⟩;simp only[Qv];simp[fy,ba,ax,ints,mC,jw,bC,eS,hX]
   | false=>
    have Me:cE L ar ms ps vars [p] A.2=([.exp (cL L ar vars A.2).1],(cL L ar vars A.2).2):=by simp[cE,Qg]
    rw[Me] at Qv;simp;apply a8;simp[hC];refine TL.cd af [0,1,3] 4 (lg L hL vars hv gs ms nf left ar A.2 Kp) yI rfl rfl rfl rfl j5 rfl (by first | rfl | simp[ax,ints,ba]) rfl (TL.go' af ?_);simp[hC,bA,aS,Ld,hb];apply a8;simp[hC,wi];refine⟨Lo.length-(k+1),by omega,aa.le (Le.trim [10,9,6,5,0,3] [0,1,3,4,5,8] 9 (by simp[ax,ba,-List.all_eq_true,Ya,gL]) yA) ?_⟩;simp;refine aa.le (Le.nz [] [8]) ?_;simp[VU];refine aa.le (Le.mq 8 6 rfl rfl yA j5 (by simp ) (by simp[ax,ints,ba,-List.all_eq_true,Kb,uW])) ?_;simp[ax,ints,ba,LK];refine aa.trim [10,9,6,5,0,3] [0,1,3,4,5,6] 7 (by simp[-List.all_eq_true,We,gL]) yA ⟨k+1,rfl,Ke,?_⟩;simp only[Qv];simp[fy,ba,ax,ints,mC,jy,eS,hX]
  ·have Ke:k=Lo.length:=by
    have:¬ k<Lo.length:=by simpa using h
    omega
   subst Ke;rw[List.take_length] at hA;rw[hA];apply T.exit;simp;apply ah;simp[hC];apply T.ret;refine aa.le (Le.trim [8] [0,1,3,6] 7 (by simp[ax,ba,-List.all_eq_true,We]) yA) ?_;simp;refine aa.le (Le.dC (o:=6) rfl Km) ?_;have SH:X.take (Lo.length*7)=X:=List.take_of_length_le yA;simp[SH];refine aa.trim [8] [0,1,3] 4 (by simp[ax,ba]) yA ⟨_,?_,rfl,?_,rfl⟩
   ·simp[hX]
   ·simp[ba]
end Go.Proofs.YtlkmbdfhdknlgaaGreatDoor
