/- Made certificates: a rule. -/
import Derived.Test.YtlkmbdfhdknlgaaGreatDoorZ44
namespace Go.Proofs.YtlkmbdfhdknlgaaGreatDoor
open Go.Can Go.aT
def J7 (c:Cl)(ii pc:Nat):Int:=(c.calls.getD ii []).getD pc (-1)
def JO (L:List Int)(c:Cl)(l:List Ru)(ii pc:Nat)(z:In)(i:Nat):Int×Nat:=if km z=true then JZ L l (J7 c ii pc) i else (-1,i)
def JN (u:Un)(c:Cl)(L:List Int)(l:List Ru)(ii:Nat)(dU:Bool)(y:Is):Nat→Nat→List It→Nat→(Ru×Bool)×Nat
 | 0,_,Kh,i=>((⟨ii,dU,Kh⟩,dU),i)
 | n+1,pc,Kh,i=>match (aC u y)[pc]? with
  | none=>((⟨ii,dU,Kh⟩,dU),i)
  | some z=>
   if km z=true∧(JO L c l ii pc z i).1<0 then ((⟨ii,dU,Kh⟩,dU),(JO L c l ii pc z i).2) else
   if dU=true then
    if (bO L (JO L c l ii pc z i).2 8).1=1∨uK z=true then
     if uK z=true then
      if (bO L (bO L (JO L c l ii pc z i).2 8).2 2).1=1 then ((⟨ii,false,Kh++[⟨pc,(JO L c l ii pc z i).1⟩]⟩,true),(bO L (bO L (JO L c l ii pc z i).2 8).2 2).2)
      else ((⟨ii,true,Kh⟩,true),(bO L (bO L (JO L c l ii pc z i).2 8).2 2).2)
     else ((⟨ii,true,Kh⟩,true),(bO L (JO L c l ii pc z i).2 8).2)
    else JN u c L l ii dU y n ((qp z pc).getD (bO L (bO L (JO L c l ii pc z i).2 8).2 (qp z pc).length).1 0) (Kh++[⟨pc,(JO L c l ii pc z i).1⟩]) (bO L (bO L (JO L c l ii pc z i).2 8).2 (qp z pc).length).2
   else if uK z=true then ((⟨ii,false,Kh++[⟨pc,(JO L c l ii pc z i).1⟩]⟩,true),(JO L c l ii pc z i).2)
   else JN u c L l ii dU y n ((qp z pc).getD (bO L (JO L c l ii pc z i).2 (qp z pc).length).1 0) (Kh++[⟨pc,(JO L c l ii pc z i).1⟩]) (bO L (JO L c l ii pc z i).2 (qp z pc).length).2
def JM (l:List It):Ob:=⟨77,2,l.flatMap kY⟩
def J5 (u:Un)(L:List Int)(l:List Ru)(ii:Nat)(dU:Bool)(Kh:List It)(i:Nat):List (Nat×Ob):=[(6,JM Kh),(5,⟨55,0,[I ii,.bool dU,.bw 6 0 Kh.length]⟩),(4,⟨55,0,[I 0,.bool false,.ag]⟩),(3,⟨34,0,fe (av u)⟩),(2,⟨30,0,dj u⟩),(1,ec l),(0,ax L i)]
def J211 (u:Un)(L:List Int)(l:List Ru)(ii:Nat)(dU:Bool)(y:Is)(OO:(Ru×Bool)×Nat)(m:Nat)(s:St):Prop:=∃ (n pc i:Nat) (Kh:List It),m=20-n∧n≤20∧Kh.length=n∧i≤L.length∧pc<(aC u y).length∧OO=JN u (av u) L l ii dU y (20-n) pc Kh i∧
 s=⟨[(17,I n),(16,I pc),(15,.au ((aC u y).flatMap cK) (aC u y).length),(14,.ai 5 0),(12,.ai 4 0),(8,.ai 3 0),(7,.ai 2 0),(0,.ai 0 0),(3,.bw 1 0 l.length),(4,I ii),(5,.bool dU)],J5 u L l ii dU Kh i,7⟩
set_option maxRecDepth 100000 in
set_option maxHeartbeats 4000000 in
theorem JW {u:Un}(hu:jP u)(L:List Int)(i0:Nat)(Nf:i0≤L.length)(hL:L.length≤1000)(l:List Ru)(hl:l.length≤1000){ii:Nat}{y:Is}(hy:(av u).is[ii]? = some y)(dU:Bool) :
  Body Tryz.prog ak 23 [.ai 0 0,dt u,ja (av u),.bw 1 0 l.length,I ii,.bool dU] [(0,ax L i0),(1,ec l)] 2 (jQ (.db [.agg (cZ (JN u (av u) L l ii dU y 20 0 [] i0).1.1),.bool (JN u (av u) L l ii dU y 20 0 [] i0).1.2]) [(0,ax L (JN u (av u) L l ii dU y 20 0 [] i0).2),(1,ec l)] 2):=by
 have KE:=du l;have Kd:=bB u;have KN:=cM (av u);have Nm:=rS hu hy;obtain⟨pq,K2,J9⟩:=Aj Nm;have LX:=(List.getElem?_eq_some_iff.1 K2).1;have NY:=(List.getElem?_eq_some_iff.1 hy).1;have MF:=az (f:=cP) (n:=2) dV hy;have oy:=bb (f:=kR) (n:=5) ig K2 4 yA;have Z3:=JS hu Nm;have De:=gX hu y;have Sv:=aP (av u).roots;obtain⟨OO,SM⟩:∃ OO,JN u (av u) L l ii dU y 20 0 [] i0=OO:=⟨_,rfl⟩;rw[SM];refine Body.je Tryz.func23 rfl lz (by simp[Tryz.ntmps23]) fun C hC xJ=>?_;rw[Tryz.ntmps23] at hC;simp only[dj,fe,ints] at Kd KN;simp only[dt,ja,dj,fe,ints];have rU:=fun ρ=>aF ρ _ Kd;have rR:=fun ρ=>aF ρ _ KE;have rC:=fun ρ=>aF ρ _ KN;apply ah;simp[hC];apply ah;simp[hC];apply T.seq;refine T.rx af follows [0,1,2,3,4,5,6,7,8,9,10,11,12] [] lz ?_;simp[hC,NY,MF,cP,LX,oy,kR];apply aL;simp[hC];apply T.block;refine T.aI (J211 u L l ii dU y OO) (n:=20) ?_ ?_
 ·refine aa.le (Le.nZ 5 2 77 2 rfl rfl) ?_;simp;refine aa.le (Le.trim [17,16,15,14,12,8,7,0,3,4,5] [19,5,4,3,2,1,0] 20 (by simp[ec,ax,ints,-List.all_eq_true,-List.all_flatMap,aj KE,aj Kd,aj KN]) yA) ?_;simp;refine aa.le (Le.norm [17,16,15,14,12,8,7,0,3,4,5] [(19,6),(5,5),(4,4),(3,3),(2,2),(1,1),(0,0)] 2 7 Lb La (by simp[e8,yf,sI,tree,assoc,-List.all_eq_true,-List.all_flatMap,aK Kd,aK KN,aK KE,ec,ax,ints]) yA) ?_;simp[dP,cr,cg,en,gA,assoc,qT,rR,ec,ax,ints];refine aa.here ⟨0,0,i0,[],rfl,by omega,rfl,Nf,Z3,SM.symm,?_⟩;simp[J5,dj,fe,ints,J9,JM,ax,ec]
 ·rintro m s ⟨n,pc,i,Kh,rfl,hn,Kz,hi,kp,hD,rfl⟩;simp only[J5,dj,fe,ints];have Lf:=wc Kh;have Kk:List.take (Kh.length*2) (Kh.flatMap kY)=Kh.flatMap kY:=List.take_of_length_le (by rw[aQ iq];omega);have fin:∀ (a:Bool) (Kh:List It) (b:Bool) (j:Nat),j≤L.length→OO=((⟨ii,a,Kh⟩,b),j)→∀ E H N,aa C (fun s=>s=⟨[(12,.ai 4 0),(13,.bool b)],[(6,JM Kh),(4,⟨55,0,[I ii,.bool a,.bw 6 0 Kh.length]⟩),(1,ec l),(0,ax L j)],7⟩) ⟨E,H,N⟩→aa C (fun s'=>∃ r,bf ak Tryz.f23 s'=some r∧jQ (.db [.agg (cZ OO.1.1),.bool OO.1.2]) [(0,ax L OO.2),(1,ec l)] 2 r s') ⟨E,H,N⟩:=by
   intro a Kh b j hj ht E H N ⟨s',hs,hle⟩;subst hs;have Lf:=wc Kh;have Kk:List.take (Kh.length*2) (Kh.flatMap kY)=Kh.flatMap kY:=List.take_of_length_le (by rw[aQ iq];omega);refine aa.le hle ?_;refine aa.le (Le.dC (o:=6) rfl Lf) ?_;simp[JM,ax,ints,bZ,Kk];refine aa.le (Le.dC (o:=4) rfl (by simp only[trees,tree,Bool.and_self])) ?_;simp;refine aa.trim [12,13] [0,1] 2 LR yA ⟨_,rfl,?_⟩;simp[jQ,ht,cZ,eU]
  by_cases ZD:n<20
  ·obtain⟨z,hz⟩:∃ z,(aC u y)[pc]? = some z:=⟨_,List.getElem?_eq_getElem kp⟩;have Oi:=(List.getElem?_eq_some_iff.1 hz).1;have KJ:=az (f:=cK) (n:=12) eV hz;obtain⟨xc,Lp,LM⟩:=jG z;rw[Lp] at KJ;have MR:=CY z;have KX:=zL z;have wn:=cm ((n:Int)+1) yA yA;have Tn:(n:Int)<20:=by omega
   rw[show 20-n=(20-(n+1))+1 by omega,JN,hz] at hD;simp only at hD;obtain⟨ci,P3⟩:∃ ci,JO L (av u) l ii pc z i=ci:=⟨_,rfl⟩;rw[P3] at hD;apply aL;simp[hC,Tn];refine gF ?_;simp;apply fw;apply ah;simp[hC];refine T.cut (fun s=>¬ (km z=true∧ci.1<0)∧ci.2≤L.length∧s=⟨[(18,.ai 7 0),(17,I n),(16,I pc),(15,.au ((aC u y).flatMap cK) (aC u y).length),(14,.ai 5 0),(12,.ai 4 0),(8,.ai 3 0),(7,.ai 2 0),(0,.ai 0 0),(3,.bw 1 0 l.length),(4,I ii),(5,.bool dU)],[(7,⟨77,0,[I pc,I ci.1]⟩),(6,JM Kh),(5,⟨55,0,[I ii,.bool dU,.bw 6 0 Kh.length]⟩),(4,⟨55,0,[I 0,.bool false,.ag]⟩),(3,⟨34,0,[.au ((av u).is.flatMap cP) (av u).is.length,.au ((av u).calls.map ints) (av u).calls.length,aN (av u).roots]⟩),(2,⟨30,0,[.au (u.gs.map fun n=>I n) u.gs.length,.au (u.ms.flatMap eQ) u.ms.length,.au (u.ps.flatMap kR) u.ps.length,I u.main]⟩),(1,ec l),(0,ax L ci.2)],8⟩) ?_ ?_
   ·cases hc:km z with
    | false=>
     have K9:ci=(-1,i):=by rw[← P3,JO,if_neg (by simp[hc])]
     rw[hc] at MR;apply ah;simp[hC,Oi,KJ,MR];refine dg ?_;simp;refine aa.trim [18,17,16,15,14,12,8,7,0,3,4,5] [7,6,5,4,3,2,1,0] 8 (by simp[ec,ax,ints,JM,-List.all_eq_true,-List.all_flatMap,aj KE,aj Kd,aj KN,aj (wc _)]) yA ?_;simp[K9,hi,ax,ints]
    | true=>
     obtain⟨row,KL,Kl,X3⟩:=xj hu hy hz hc;have Mr:=uS ints KL;have NF:=uS um Kl;have Ma:=(List.getElem?_eq_some_iff.1 KL).1;have KR:=(List.getElem?_eq_some_iff.1 Kl).1;have LI:J7 (av u) ii pc=sH (av u) ii pc:=by rw[J7,List.getD_eq_getElem?_getD,List.getD_eq_getElem?_getD,KL,Option.getD_some,Kl,Option.getD_some]
     have K9:ci=JZ L l (sH (av u) ii pc) i:=by rw[← P3,JO,if_pos hc,LI]
     have NG:ci.2≤L.length:=by rw[K9];exact aV L _ hi
     rw[hc] at MR;apply ah;simp[hC,Oi,KJ,MR];refine cz ?_;simp;apply ah;simp[hC,Mr,Ma,NF,KR,ints];refine TL.cd af [0,1] 2 (J2 L i hi hL l hl (sH (av u) ii pc)) yI rfl rfl rfl rfl j5 Ku Kt rfl (TL.go' af ?_);simp[hC];rw[← K9];by_cases MU:ci.1<0
     ·rw[if_pos ⟨hc,MU⟩] at hD;apply ah;simp[hC,MU];refine T.cond (b:=true) (by first | rfl | simp[ev,assoc,MU]) ?_;simp;apply ah;simp[hC];apply T.ret;refine fin dU Kh dU ci.2 NG hD _ _ _ ?_;refine aa.trim [12,13] [6,4,1,0] 7 (by simp[ec,ax,ints,JM,-List.all_eq_true,-List.all_flatMap,aj KE,aj (wc _)]) yA ?_;simp[ec,ax,ints,JM]
     ·have Pq:0≤ci.1:=by omega
      apply ah;simp[hC,MU];refine T.cond (b:=false) (by first | rfl | simp[ev,assoc,MU]) (T.skip ?_);simp;refine aa.trim [18,17,16,15,14,12,8,7,0,3,4,5] [7,6,5,4,3,2,1,0] 8 (by simp[ec,ax,ints,JM,-List.all_eq_true,-List.all_flatMap,aj KE,aj Kd,aj KN,aj (wc _)]) yA ?_;simp[Pq,NG,ax,ints]
   rintro s ⟨KD,NG,rfl⟩;rw[if_neg KD] at hD;have Ki:(JM Kh).cells.length=Kh.length*2:=aQ (f:=kY) (n:=2) iq Kh;have PR:(Kh.length+1)*16≤140737488355328:=by omega
   have CX:(JM Kh).sz=2:=rfl;have CW:(JM Kh).elem=77:=rfl;have K4:trees ((JM Kh).cells++[I (pc:Int),I ci.1])=true:=by rw[bu,show trees (JM Kh).cells=true from Lf];rfl
   have rN:=fun ρ=>aF ρ _ K4;have On:(JM Kh).cells++[I (pc:Int),I ci.1]=(JM (Kh++[⟨pc,ci.1⟩])).cells:=by simp[JM,kY]
   refine T.cut (fun s=>∃ i3,i3≤L.length∧OO=(if uK z=true then ((⟨ii,dU,Kh++[⟨pc,ci.1⟩]⟩,true),i3) else JN u (av u) L l ii dU y (20-(n+1)) ((qp z pc).getD (bO L i3 (qp z pc).length).1 0) (Kh++[⟨pc,ci.1⟩]) (bO L i3 (qp z pc).length).2)∧s=⟨[(18,.ai 7 0),(17,I n),(16,I pc),(15,.au ((aC u y).flatMap cK) (aC u y).length),(14,.ai 5 0),(12,.ai 4 0),(8,.ai 3 0),(7,.ai 2 0),(0,.ai 0 0),(3,.bw 1 0 l.length),(4,I ii),(5,.bool dU)],[(7,⟨77,0,[I pc,I ci.1]⟩),(6,JM Kh),(5,⟨55,0,[I ii,.bool dU,.bw 6 0 Kh.length]⟩),(4,⟨55,0,[I 0,.bool false,.ag]⟩),(3,⟨34,0,[.au ((av u).is.flatMap cP) (av u).is.length,.au ((av u).calls.map ints) (av u).calls.length,aN (av u).roots]⟩),(2,⟨30,0,[.au (u.gs.map fun n=>I n) u.gs.length,.au (u.ms.flatMap eQ) u.ms.length,.au (u.ps.flatMap kR) u.ps.length,I u.main]⟩),(1,ec l),(0,ax L i3)],8⟩) ?_ ?_
   ·cases dU with
    | false=>
     apply ah;simp[hC];refine dg ?_;simp;refine aa.trim [18,17,16,15,14,12,8,7,0,3,4,5] [7,6,5,4,3,2,1,0] 8 (by simp[ec,ax,ints,JM,-List.all_eq_true,-List.all_flatMap,aj KE,aj Kd,aj KN,aj (wc _)]) yA ⟨ci.2,NG,by simpa using hD,?_⟩;simp[ec,ax,ints]
    | true=>
     rw[if_pos rfl] at hD;obtain⟨a,ha⟩:∃ a,bO L ci.2 8=a:=⟨_,rfl⟩;have Ms:a.2≤L.length:=by rw[← ha];exact aV L _ NG
     rw[ha] at hD;apply ah;simp[hC];by_cases PK:a.1=1
     ·rw[if_pos (Or.inl PK)] at hD;refine TL.cd af [0] 1 (bX L ci.2 8 NG hL yA yA) yI rfl rfl rfl rfl j5 Ku Kt rfl (TL.go' af ?_);simp[hC,ha,PK]
      cases hR:uK z with
      | false=>
       rw[hR,if_neg j5] at hD;refine cz ?_;simp;apply aL;simp[hC,Oi,KJ,KX,hR];refine dg ?_;simp;apply ah;simp[hC];apply T.ret;refine fin true Kh true a.2 Ms hD _ _ _ ?_;refine aa.trim [12,13] [6,4,1,0] 7 (by simp[ec,ax,ints,JM,-List.all_eq_true,-List.all_flatMap,aj KE,aj (wc _)]) yA ?_;simp[ec,ax,ints,JM]
      | true=>
       rw[hR,if_pos rfl] at hD;obtain⟨b,hb⟩:∃ b,bO L a.2 2=b:=⟨_,rfl⟩;have K0:b.2≤L.length:=by rw[← hb];exact aV L _ Ms
       rw[hb] at hD;refine cz ?_;simp;apply aL;simp[hC,Oi,KJ,KX,hR];by_cases K1:b.1=1
       ·rw[if_pos K1] at hD;refine TL.cd af [0] 1 (bX L a.2 2 Ms hL yA yA) yI rfl rfl rfl rfl j5 Ku Kt rfl (TL.go' af ?_);simp[hC,hb,K1];refine cz ?_;simp;apply ah;simp[hC];apply a8;simp[hC,Ki,CX,CW,PR,aS];apply ah;simp[hC];apply T.ret;refine fin false _ true b.2 K0 hD _ _ _ ?_;refine aa.le (Le.norm [12,13] [(9,6),(4,4),(1,1),(0,0)] 2 7 Lb La (by simp[e8,yf,sI,tree,assoc,-List.all_eq_true,-List.all_flatMap,aK K4,aK KE,ec,ax,ints]) yA) ?_;simp[dP,cr,cg,en,gA,assoc,rN,rR,ec,ax,ints];apply aa.here;simp[JM,kY]
       ·rw[if_neg K1] at hD;refine TL.cd af [0] 1 (bX L a.2 2 Ms hL yA yA) yI rfl rfl rfl rfl j5 Ku Kt rfl (TL.go' af ?_);simp[hC,hb,K1];refine dg ?_;simp;apply ah;simp[hC];apply T.ret;refine fin true Kh true b.2 K0 hD _ _ _ ?_;refine aa.trim [12,13] [6,4,1,0] 7 (by simp[ec,ax,ints,JM,-List.all_eq_true,-List.all_flatMap,aj KE,aj (wc _)]) yA ?_;simp[ec,ax,ints,JM]
     ·cases hR:uK z with
      | false=>
       rw[if_neg (by simp[PK,hR])] at hD;refine TL.cd af [0] 1 (bX L ci.2 8 NG hL yA yA) yI rfl rfl rfl rfl j5 Ku Kt rfl (TL.go' af ?_);simp[hC,Oi,KJ,KX,ha,PK,hR];refine dg ?_;simp;refine aa.trim [18,17,16,15,14,12,8,7,0,3,4,5] [7,6,5,4,3,2,1,0] 8 (by simp[ec,ax,ints,JM,-List.all_eq_true,-List.all_flatMap,aj KE,aj Kd,aj KN,aj (wc _)]) yA ⟨a.2,Ms,by rw[hD];simp,?_⟩;simp[ec,ax,ints]
      | true=>
       rw[hR,if_pos (Or.inr rfl),if_pos rfl] at hD;refine TL.cd af [0] 1 (bX L ci.2 8 NG hL yA yA) yI rfl rfl rfl rfl j5 Ku Kt rfl (TL.go' af ?_);simp[hC,Oi,KJ,KX,ha,PK,hR];obtain⟨b,hb⟩:∃ b,bO L a.2 2=b:=⟨_,rfl⟩;have K0:b.2≤L.length:=by rw[← hb];exact aV L _ Ms
       rw[hb] at hD;refine cz ?_;simp;apply aL;simp[hC,Oi,KJ,KX,hR];by_cases K1:b.1=1
       ·rw[if_pos K1] at hD;refine TL.cd af [0] 1 (bX L a.2 2 Ms hL yA yA) yI rfl rfl rfl rfl j5 Ku Kt rfl (TL.go' af ?_);simp[hC,hb,K1];refine cz ?_;simp;apply ah;simp[hC];apply a8;simp[hC,Ki,CX,CW,PR,aS];apply ah;simp[hC];apply T.ret;refine fin false _ true b.2 K0 hD _ _ _ ?_;refine aa.le (Le.norm [12,13] [(9,6),(4,4),(1,1),(0,0)] 2 7 Lb La (by simp[e8,yf,sI,tree,assoc,-List.all_eq_true,-List.all_flatMap,aK K4,aK KE,ec,ax,ints]) yA) ?_;simp[dP,cr,cg,en,gA,assoc,rN,rR,ec,ax,ints];apply aa.here;simp[JM,kY]
       ·rw[if_neg K1] at hD;refine TL.cd af [0] 1 (bX L a.2 2 Ms hL yA yA) yI rfl rfl rfl rfl j5 Ku Kt rfl (TL.go' af ?_);simp[hC,hb,K1];refine dg ?_;simp;apply ah;simp[hC];apply T.ret;refine fin true Kh true b.2 K0 hD _ _ _ ?_;refine aa.trim [12,13] [6,4,1,0] 7 (by simp[ec,ax,ints,JM,-List.all_eq_true,-List.all_flatMap,aj KE,aj (wc _)]) yA ?_;simp[ec,ax,ints,JM]
   rintro s ⟨i3,Mq,hD,rfl⟩;apply ah;simp[hC,Ki,CX,CW,PR,aS]
   cases hR:uK z with
   | true=>
    rw[hR,if_pos rfl] at hD;apply aL;simp[hC,Oi,KJ,KX,hR];refine cz ?_;simp;apply ah;simp[hC];apply T.ret;refine fin dU _ true i3 Mq hD _ _ _ ?_;refine aa.le (Le.norm [12,13] [(9,6),(4,4),(1,1),(0,0)] 2 7 Lb La (by simp[e8,yf,sI,tree,assoc,-List.all_eq_true,-List.all_flatMap,aK K4,aK KE,ec,ax,ints]) yA) ?_;simp[dP,cr,cg,en,gA,assoc,rN,rR,ec,ax,ints];apply aa.here;simp[JM,kY]
   | false=>
    rw[hR,if_neg j5] at hD;have NA:0<(qp z pc).length:=by
     cases z with
     | ret=>simp[uK] at hR
     | branch g e=>
      simp only[qp];split<;>simp
     | _=>simp[qp]
    have Mp:=qo z pc;obtain⟨b,hb⟩:∃ b,bO L i3 (qp z pc).length=b:=⟨_,rfl⟩;have K0:b.2≤L.length:=by rw[← hb];exact aV L _ Mq
    have K1:b.1<(qp z pc).length:=by rw[← hb];exact cI L i3 NA
    rw[hb] at hD;obtain⟨g,hg⟩:∃ g,(qp z pc)[b.1]? = some g:=⟨_,List.getElem?_eq_getElem K1⟩;have NR:=J0 hu Nm hz (List.mem_of_getElem? hg);have L6:(qp z pc).getD b.1 0=g:=by rw[List.getD_eq_getElem?_getD,hg];rfl
    rw[L6] at hD;have WL:=mY hg;have KB:=wu hu Nm hz yA;have ti:=bL y;have Nl:trees [dt u,.agg (cP y),I (pc:Int)]=true:=by simp only[trees,tree,dt,bB,ti,Bool.and_self]
    simp only[dt,dj,cP,ints] at KB Nl;apply aL;simp[hC,Oi,KJ,KX,hR];refine dg ?_;simp;apply T.seq;refine T.rx af follows [0,1,2,3,4,5,6,7,8] [] lz ?_;simp[hC,NY,MF,cP];refine RX.call rfl j5 rfl rfl rfl Nl KB ?_;simp;apply a8;simp[hC,aN];refine TL.cd af [0] 1 (bX L i3 (qp z pc).length Mq hL NA yA) yI rfl rfl rfl rfl j5 Ku Kt rfl (TL.go' af ?_);simp[hC,hb,K1,WL];apply a8;simp[hC,wn];refine⟨20-(n+1),by omega,?_⟩;refine aa.le (Le.norm [17,16,15,14,12,8,7,0,3,4,5] [(9,6),(5,5),(4,4),(3,3),(2,2),(1,1),(0,0)] 2 7 Lb La (by simp[e8,yf,sI,tree,assoc,-List.all_eq_true,-List.all_flatMap,aK K4,aK Kd,aK KE,ec,ax,ints]) yA) ?_;simp[dP,cr,cg,en,gA,assoc,rN,rR,ec,ax,ints];refine aa.here ⟨n+1,g,b.2,Kh++[⟨pc,ci.1⟩],by omega,by omega,by simp[Kz],K0,NR,hD,?_⟩;simp[J5,dj,fe,ints,J9,JM,ax,kY,aN,ec]
  ·have Mp:n=20:=by omega
   subst Mp;rw[Nat.sub_self,JN] at hD;apply aL;simp[hC];refine aU ?_;simp;apply T.exit;simp;apply ah;simp[hC];apply T.ret;refine fin dU Kh dU i hi hD _ _ _ ?_;refine aa.trim [12,13] [6,4,1,0] 7 (by simp[ec,ax,ints,JM,-List.all_eq_true,-List.all_flatMap,aj KE,aj (wc _)]) yA ?_;simp[ec,ax,ints,JM]
def RuK (u:Un)(y:Is)(r:Ru):Prop:=∀ it∈r.items,∃ (p:Nat) (z:In),it.pc=p∧(aC u y)[p]? = some z∧(r.dU=true→uK z=false)
theorem JU {u:Un}{c:Cl}{L:List Int}{l:List Ru}{ii:Nat}{dU:Bool}{y:Is}(hl:l.length≤1000):∀ (n pc:Nat) (Kh:List It) (i:Nat),i≤L.length→(∀ it∈Kh,∃ (p:Nat) (z:In),it.pc=p∧(aC u y)[p]? = some z∧uK z=false) →
  (JN u c L l ii dU y n pc Kh i).1.1.inst=ii∧(JN u c L l ii dU y n pc Kh i).1.1.items.length≤Kh.length+n∧(JN u c L l ii dU y n pc Kh i).2≤L.length∧RuK u y (JN u c L l ii dU y n pc Kh i).1.1
 | 0,pc,Kh,i,hi,h=>⟨rfl,by simp[JN],hi,fun it hm=>by
  obtain⟨p,z,h1,h2,h3⟩:=h it hm;exact⟨p,z,h1,h2,fun _=>h3⟩⟩
 | n+1,pc,Kh,i,hi,h=>by
  have hk:∀ b:Bool,RuK u y ⟨ii,b,Kh⟩:=fun b it hm=>by
   obtain⟨p,z,h1,h2,h3⟩:=h it hm;exact⟨p,z,h1,h2,fun _=>h3⟩
  rw[JN]
  cases hz:(aC u y)[pc]? with
  | none=>exact⟨rfl,by simp only;omega,hi,hk dU⟩
  | some z=>
   simp only;have P3:(JO L c l ii pc z i).2≤L.length:=by
    unfold JO;split
    ·exact aV L _ hi
    ·exact hi
   generalize JO L c l ii pc z i=ci at *;have h8:=aV L 8 P3;have Yv:=aV L 2 h8;have MX:RuK u y ⟨ii,false,Kh++[⟨pc,ci.1⟩]⟩:=fun it hm=>by
    rcases List.mem_append.1 hm with hm | hm
    ·obtain⟨p,z,h1,h2,h3⟩:=h it hm;exact⟨p,z,h1,h2,fun _=>h3⟩
    ·rw[List.mem_singleton.1 hm];exact⟨pc,z,rfl,hz,fun h=>by cases h⟩
   have Q3:uK z=false→∀ p i',i'≤L.length→(JN u c L l ii dU y n p (Kh++[⟨pc,ci.1⟩]) i').1.1.inst=ii∧(JN u c L l ii dU y n p (Kh++[⟨pc,ci.1⟩]) i').1.1.items.length≤Kh.length+(n+1)∧(JN u c L l ii dU y n p (Kh++[⟨pc,ci.1⟩]) i').2≤L.length∧RuK u y (JN u c L l ii dU y n p (Kh++[⟨pc,ci.1⟩]) i').1.1:=fun hr p i' Oo=>by
    obtain⟨k1,k2,k3,k4⟩:=JU (dU:=dU) (ii:=ii) (c:=c) hl n p (Kh++[⟨pc,ci.1⟩]) i' Oo (fun it hm=>by
     rcases List.mem_append.1 hm with hm | hm
     ·exact h it hm
     ·rw[List.mem_singleton.1 hm];exact⟨pc,z,rfl,hz,hr⟩)
    exact⟨k1,by simp only[List.length_append,List.length_singleton] at k2;omega,k3,k4⟩
   split
   ·exact⟨rfl,by simp only;omega,P3,hk dU⟩
   split
   ·split
    ·split
     ·split
      ·exact⟨rfl,by simp only[List.length_append,List.length_singleton];omega,Yv,MX⟩
      ·exact⟨rfl,by simp only;omega,Yv,hk true⟩
     ·exact⟨rfl,by simp only;omega,h8,hk true⟩
    ·rename_i KD
     exact Q3 (by cases hr:uK z with
      | false=>rfl
      | true=>exact (KD (.inr hr)).elim) _ _ (aV L _ h8)
   ·split
    ·exact⟨rfl,by simp only[List.length_append,List.length_singleton];omega,P3,MX⟩
    ·rename_i KD;exact Q3 (by simpa using KD) _ _ (aV L _ P3)
def J8 (n k:Nat)(x:Ce):Prop:=x.rules.length≤n∧(∀ r∈x.rules,r.items.length≤k)∧IM x
def JR (u:Un)(L:List Int)(m:Nat)(out:List Ru)(i:Nat):List (Nat×Ob):=[(5,⟨39,0,[I m,I 0,I 0,I 0,.bw 1 0 out.length]⟩),(4,⟨34,0,fe (av u)⟩),(3,⟨30,0,dj u⟩),(2,⟨39,0,[I 0,I 0,I 0,I 0,.ag]⟩),(1,ec out),(0,ax L i)]
def J212 (u:Un)(L:List Int)(m n:Nat)(s:St):Prop:=∃ (out:List Ru) (i:Nat),out.length+n≤5∧(∀ r∈out,r.items.length≤20)∧i≤L.length∧
 s=⟨[(11,I n),(10,.ai 5 0),(9,.ai 0 0),(8,.ai 2 0),(5,.ai 4 0),(4,.ai 3 0)],JR u L m out i,6⟩
set_option maxRecDepth 100000 in
set_option maxHeartbeats 4000000 in
theorem J6 {u:Un}(hu:jP u)(l:List Int)(hl:l.length≤9223372036854775807)(m:Nat)(_hm:m≤1000):kU Tryz.prog 7 [dt u,ja (av u),ints l,I m] (fun r=>∃ x:Ce,r=oD x∧J8 6 20 x):=by
 have Kd:=bB u;have KN:=cM (av u);have Sv:=aP (av u).roots;refine kU.je af Tryz.func7 rfl lz (by simp[Tryz.ntmps7]) fun C hC xJ=>?_;rw[Tryz.ntmps7] at hC;simp only[dj,fe,ints] at Kd KN;have rU:=fun ρ=>aF ρ _ Kd;have rC:=fun ρ=>aF ρ _ KN;have RB:=Ik l 200 hl;have PT:trees [ints l,I 200]=true:=by simp only[ints,trees,tree,Bool.and_self]
 have hL:(l.take 200).length≤1000:=by simp;omega
 generalize l.take 200=L at RB hL;simp only[dt,ja,dj,fe,ints] at RB PT ⊢;have rL:=fun ρ=>aF ρ _ (iK L);apply ah;simp[hC];apply ah;simp[hC];refine dk PT RB ?_;simp[hC];apply ah;simp[hC];refine T.le (Le.nZ 4 4 55 3 rfl rfl) ?_;simp;refine T.le (Le.trim [10,9,8,5,4] [5,4,3,2,1,0] 6 Qw yA) ?_;simp;refine T.le (Le.norm [10,9,8,5,4] [(5,1),(4,5),(3,0),(2,2),(1,4),(0,3)] 0 6 Lb La (by simp[e8,yf,sI,tree,assoc,-List.all_eq_true,-List.all_flatMap,aK Kd,aK KN]) yA) ?_;simp[dP,cr,cg,en,gA,assoc,qT];obtain⟨a,ha⟩:∃ a,bO L 0 5=a:=⟨_,rfl⟩;have PK:a.1<5:=by rw[← ha];exact cI L 0 yA
 have Ms:a.2≤L.length:=by rw[← ha];exact aV L 5 (Nat.zero_le _)
 have w1:=cm (1+(a.1:Int)) yA yA;apply aL;simp[hC];refine TL.cd af [0] 1 (bX L 0 5 (Nat.zero_le _) hL yA yA) yI rfl rfl rfl rfl j5 Ku Kt rfl (TL.go' af ?_);simp[hC,ha,w1];apply T.block;refine T.aI (J212 u L m) (n:=1+a.1) ?_ ?_
 ·refine aa.trim [11,10,9,8,5,4] [5,4,3,2,1,0] 6 (by simp[ax,ints,-List.all_eq_true,-List.all_flatMap,aj Kd,aj KN]) yA ⟨[],a.2,by simp;omega,by simp,Ms,?_⟩;simp[JR,ax,ints,ec,dj,fe,Int.add_comm]
 ·rintro n s ⟨out,i,hn,LO,hi,rfl⟩;simp only[JR,dj,fe,ints];have MD:out.length≤1000:=by omega
  have SZ:0<(av u).roots.length:=List.length_pos_of_mem (((F4 hu).root 0).2 (.inl rfl));have Zk:=An hu;obtain⟨Z4,Qq⟩:=vn hu;have O4:=du out;have rO:=fun ρ=>aF ρ _ O4;have wn:=cm ((n:Int)-1) yA yA;by_cases ML:n=0
  ·subst ML;apply aL;simp[hC];refine aU ?_;simp;apply T.exit;simp;apply T.seq;refine T.rx af follows [0,1,2,3,4,5,6,7,8,9,10,18,11,12,13,14,15,16,17,19,20] [(1,18),(1,11),(2,18),(2,11),(4,18),(4,11),(6,18),(6,11),(9,18),(18,11),(18,13),(18,14)] lz ?_;simp[hC,ax,ints,aN];obtain⟨a,ha⟩:∃ a,bO L i (av u).roots.length=a:=⟨_,rfl⟩;have PK:a.1<(av u).roots.length:=by rw[← ha];exact cI L i SZ
   have Ms:a.2≤L.length:=by rw[← ha];exact aV L _ hi
   obtain⟨q,hq⟩:∃ q,(av u).roots[a.1]? = some q:=⟨_,List.getElem?_eq_getElem PK⟩;have Nc:=(J3 hu (Nat.le_refl 8)).root q (List.mem_of_getElem? hq);have M3:=mY hq;obtain⟨y,hy⟩:∃ y,(av u).is[q]? = some y:=⟨_,List.getElem?_eq_getElem Nc⟩;obtain⟨k1,k2,k3,k4⟩:=JU (u:=u) (c:=av u) (L:=L) (l:=out) (ii:=q) (dU:=true) (y:=y) MD 20 0 [] a.2 Ms j5;have Lr:=JW hu L a.2 Ms hL out MD hy true;generalize JN u (av u) L out q true y 20 0 [] a.2=R at k1 k2 k3 k4 Lr;obtain⟨⟨r,b⟩,j⟩:=R;simp only[dt,ja,dj,fe,ints,aN] at k1 k2 k3 k4 Lr;refine RX.cd [0] [0] 1 (bX L i (av u).roots.length hi hL SZ yA) rfl j5 rfl rfl rfl rfl j5 Ku Kt rfl rfl rfl j5 ?_;simp[ha,PK,M3];refine RX.cd [0,1] [0] 2 (Lr) rfl j5 rfl rfl rfl rfl j5 Ku Kt rfl rfl rfl j5 ?_;simp[cZ,eU];have Ki:(ec out).cells.length=out.length*3:=aQ (f:=cZ) (n:=3) (fun _=>rfl) out;have PR:(out.length+1)*40≤140737488355328:=by omega
   have CX:(ec out).sz=3:=rfl;have CW:(ec out).elem=55:=rfl;refine T.cut (fun s=>∃ r':Ru,RuK u y r'∧(r'.inst=q∨(r'.inst=0∧r'.items=[]))∧r'.items.length≤20∧s=⟨[(14,.ai 6 0),(10,.ai 5 0),(9,.ai 0 0),(8,.ai 2 0),(5,.ai 4 0),(4,.ai 3 0)],(6,⟨55,0,cZ r'⟩)::JR u L m out j,7⟩) ?_ ?_
   ·apply ah;simp[hC]
    cases b with
    | true=>
     refine dg ?_;simp;refine aa.le (Le.norm [14,10,9,8,5,4] [(24,6),(5,5),(4,4),(3,3),(2,2),(1,1),(0,0)] 2 7 Lb La (by simp[e8,yf,sI,tree,assoc,-List.all_eq_true,-List.all_flatMap,aK Kd,aK O4,ax,ints,ec]) yA) ?_;simp[dP,cr,cg,en,gA,assoc,rO,ax,ints,ec];refine aa.here ⟨r,k4,.inl k1,by simpa using k2,?_⟩;simp[JR,dj,fe,ints,aN,ax,ec,cZ,eU]
    | false=>
     refine cz ?_;simp;apply a8;simp[hC];refine aa.le (Le.nz [] [24]) ?_;simp;refine aa.le (Le.norm [14,10,9,8,5,4] [(24,6),(5,5),(4,4),(3,3),(2,2),(1,1),(0,0)] 2 7 Lb La (by simp[e8,yf,sI,tree,assoc,-List.all_eq_true,-List.all_flatMap,aK Kd,aK O4,ax,ints,ec]) yA) ?_;simp[dP,cr,cg,en,gA,assoc,rO,ax,ints,ec];refine aa.here ⟨⟨0,true,[]⟩,fun it h=>by simp at h,.inr ⟨rfl,rfl⟩,by simp,?_⟩;simp[JR,dj,fe,ints,aN,ax,ec,cZ,eU]
   rintro s ⟨r',k5,k7,k6,rfl⟩;simp only[JR,dj,fe,ints,aN,cZ,eU];apply ah;simp[hC,Ki,CX,CW,PR,aS];apply ah;simp[hC];refine T.cut (fun s=>∃ p:Int,i64 p∧s=⟨[(10,.ai 5 0),(8,.ai 2 0)],[(5,⟨39,0,[I m,I r'.inst,I p,I 0,.bw 1 0 (out.length+1)]⟩),(2,⟨39,0,[I 0,I 0,I 0,I 0,.ag]⟩),(1,ec (out++[r']))],6⟩) ?_ ?_
   ·have K4:∀ b,trees ((ec out).cells++[I r'.inst,.bool b,.au (r'.items.flatMap kY) r'.items.length])=true:=fun b=>by
     rw[bu,show trees (ec out).cells=true from O4];simp[trees,tree]
    have rN:=fun ρ b=>aF ρ _ (K4 b);apply ah;simp[hC];by_cases Nf:0<r'.items.length
    ·cases Fm:r'.dU with
     | true=>
      have Kz:r'.inst=(q:Int):=k7.resolve_right (fun h=>by rw[h.2] at Nf;exact absurd Nf j5);obtain⟨k,hk⟩:∃ k,r'.items.length=k+1:=⟨_,(Nat.succ_pred_eq_of_pos Nf).symm⟩;obtain⟨it,Fl⟩:∃ it,r'.items[k]? = some it:=⟨_,List.getElem?_eq_getElem yA⟩;obtain⟨p,z,hp,hz,SD⟩:=k5 it (List.mem_of_getElem? Fl);have SD:=SD Fm;have Nm:=rS hu hy;have MF:=az (f:=cP) (n:=2) dV hy;have ND:=az (f:=kY) (n:=2) iq Fl;have NY:=(List.getElem?_eq_some_iff.1 hy).1;have LX:=(List.getElem?_eq_some_iff.1 hz).1;have De:=gX hu y;have KB:=wu hu Nm hz yA;have ti:=bL y;have Nl:trees [dt u,.agg (cP y),I (p:Int)]=true:=by simp only[trees,tree,dt,bB,ti,Bool.and_self]
      obtain⟨g,gs,P1⟩:∃ g gs,qp z p=g::gs:=by
       cases z with
       | ret=>simp[uK] at SD
       | branch g e=>
        simp only[qp];split<;>simp
       | _=>simp[qp]
      have NR:=J0 hu Nm hz (q:=g) (by rw[P1];simp);rw[P1] at KB;simp only[dt,dj,cP,ints,aN] at KB Nl;have wk:=cm (k:Int) yA yA;apply ah;simp[hC,Nf];refine cz ?_;simp;have N6:(k:Int)<k+1:=by omega
      refine T.rx af follows [0,1,2,3,4,5,6,7,8,9,10,11,12,13,14,15,16,17,18] [] lz ?_;simp[hC,NY,MF,cP,Kz,hk,ND,kY,wk,hp,N6,aN];refine RX.call rfl j5 rfl rfl rfl Nl KB ?_;simp;have tq:trees ((ec out).cells++[I (q:Int),.bool true,.au (r'.items.flatMap kY) (k+1)])=true:=by
       have:=K4 true;rwa [Kz,hk] at this
      have rq:=fun ρ=>aF ρ _ tq;have U7:trees (ec out).cells=true:=O4;refine aa.le (Le.norm [10,8] [(5,5),(2,2),(8,1)] 0 6 Lb La (by simp[e8,yf,sI,tree,assoc,-List.all_eq_true,-List.all_flatMap,aK U7]) yA) ?_;simp[dP,cr,cg,en,gA,assoc,rq];refine aa.here ⟨g,by constructor<;>omega,?_⟩;simp[ec,cZ,eU,Fm,Kz,hk]
     | false=>
      apply ah;simp[hC,Nf];refine aU ?_;simp;apply ah;simp[hC];refine cz ?_;simp;apply a8;simp[hC];refine aa.le (Le.norm [10,8] [(5,5),(2,2),(8,1)] 0 6 Lb La (by simp[e8,yf,sI,tree,assoc,-List.all_eq_true,-List.all_flatMap,aK (K4 false)]) yA) ?_;simp[dP,cr,cg,en,gA,assoc,rN];refine aa.here ⟨-1,by constructor<;>omega,?_⟩;simp[ec,cZ,eU,Fm]
    ·cases Fm:r'.dU with
     | true=>
      apply ah;simp[hC,Nf];refine aU ?_;simp;apply ah;simp[hC];refine dg ?_;simp;refine aa.le (Le.norm [10,8] [(5,5),(2,2),(8,1)] 0 6 Lb La (by simp[e8,yf,sI,tree,assoc,-List.all_eq_true,-List.all_flatMap,aK (K4 true)]) yA) ?_;simp[dP,cr,cg,en,gA,assoc,rN];refine aa.here ⟨0,by constructor<;>omega,?_⟩;simp[ec,cZ,eU,Fm]
     | false=>
      apply ah;simp[hC,Nf];refine aU ?_;simp;apply ah;simp[hC];refine cz ?_;simp;apply a8;simp[hC];refine aa.le (Le.norm [10,8] [(5,5),(2,2),(8,1)] 0 6 Lb La (by simp[e8,yf,sI,tree,assoc,-List.all_eq_true,-List.all_flatMap,aK (K4 false)]) yA) ?_;simp[dP,cr,cg,en,gA,assoc,rN];refine aa.here ⟨-1,by constructor<;>omega,?_⟩;simp[ec,cZ,eU,Fm]
   rintro s ⟨p,hp,rfl⟩;apply ah;simp[hC];apply T.ret;have QT:trees (out.flatMap cZ++cZ r')=true:=by rw[bu,show trees (out.flatMap cZ)=true from O4,Ck];rfl
   have Kk:List.take ((out.length+1)*3) (out.flatMap cZ++cZ r')=out.flatMap cZ++cZ r':=List.take_of_length_le (by rw[List.length_append,aQ (f:=cZ) (n:=3) (fun _=>rfl)];simp[cZ];omega);refine aa.le (Le.dC (o:=1) rfl (by simpa [ec] using QT)) ?_;simp[ec,bZ,Kk];refine aa.trim [8] [2] 3 LR yA ⟨_,rfl,?_,⟨m,r'.inst,p,0,out++[r']⟩,?_,?_,?_,?_⟩
   ·simp only[List.drop_zero,List.take,tree,trees,Bool.and_self]
   ·simp[oD,qz,ct]
   ·simp;omega
   ·intro x hx;rcases List.mem_append.1 hx with hx | hx
    ·exact LO x hx
    ·rw[List.mem_singleton.1 hx];exact k6
   ·refine⟨?_,hp⟩;rcases k7 with h | ⟨h,_⟩<;>simp only[h]<;>constructor<;>omega
  ·have KG:0<n:=by omega
   have QM:((n-1:Nat):Int)=(n:Int)-1:=by omega
   apply aL;simp[hC,KG];refine T.cond (b:=true) (by first | rfl | simp[ev,assoc,KG]) (T.skip ?_);simp;apply fw;apply T.seq;refine T.rx af follows [0,1,2,3,4,5,6,7,8,14,9,10,11,12,13,15,16] [(1,14),(1,9),(2,14),(2,9),(4,14),(4,9),(7,14),(14,9),(14,10)] lz ?_;simp[hC,ax,ints,aN];obtain⟨a,ha⟩:∃ a,bO L i (av u).is.length=a:=⟨_,rfl⟩;have PK:a.1<(av u).is.length:=by rw[← ha];exact cI L i Qq
   have Ms:a.2≤L.length:=by rw[← ha];exact aV L _ hi
   obtain⟨y,hy⟩:∃ y,(av u).is[a.1]? = some y:=⟨_,List.getElem?_eq_getElem PK⟩;obtain⟨k1,k2,k3,k4⟩:=JU (u:=u) (c:=av u) (L:=L) (l:=out) (ii:=a.1) (dU:=false) (y:=y) MD 20 0 [] a.2 Ms j5;have Lr:=JW hu L a.2 Ms hL out MD hy false;generalize JN u (av u) L out a.1 false y 20 0 [] a.2=R at k1 k2 k3 k4 Lr;obtain⟨⟨r,b⟩,j⟩:=R;simp only[dt,ja,dj,fe,ints,aN] at k1 k2 k3 k4 Lr;refine RX.cd [0] [0] 1 (bX L i (av u).is.length hi hL Qq yA) rfl j5 rfl rfl rfl rfl j5 Ku Kt rfl rfl rfl j5 ?_;simp[ha];refine RX.cd [0,1] [0] 2 (Lr) rfl j5 rfl rfl rfl rfl j5 Ku Kt rfl rfl rfl j5 ?_;simp[cZ,eU];have Ki:(ec out).cells.length=out.length*3:=aQ (f:=cZ) (n:=3) (fun _=>rfl) out;have PR:(out.length+1)*40≤140737488355328:=by omega
   have CX:(ec out).sz=3:=rfl;have CW:(ec out).elem=55:=rfl;apply ah;simp[hC]
   cases b with
   | false=>
    refine dg ?_;simp;apply a8;simp[hC,wn];refine⟨n-1,by omega,?_⟩;refine aa.trim [11,10,9,8,5,4] [5,4,3,2,1,0] 6 (by simp[ax,ints,ec,-List.all_eq_true,-List.all_flatMap,aj O4,aj Kd]) yA ⟨out,j,by omega,LO,k3,?_⟩;simp[JR,dj,fe,ints,aN,ax,ec,QM]
   | true=>
    refine cz ?_;simp;apply a8;simp[hC,Ki,CX,CW,PR,aS];apply a8;simp[hC,wn];have QT:trees ((ec out).cells++[I r.inst,.bool r.dU,.au (r.items.flatMap kY) r.items.length])=true:=by
     simp[ec,cZ,eU]
    have rN:=fun ρ=>aF ρ _ QT;refine⟨n-1,by omega,?_⟩;refine aa.le (Le.norm [11,10,9,8,5,4] [(5,5),(4,4),(3,3),(2,2),(24,1),(0,0)] 0 6 Lb La (by simp[e8,yf,sI,tree,assoc,-List.all_eq_true,-List.all_flatMap,aK Kd,aK (show trees (ec out).cells=true from O4),ax,ints]) yA) ?_;simp[dP,cr,cg,en,gA,assoc,rN,ax,ints];refine aa.here ⟨out++[r],j,by simp;omega,?_,k3,?_⟩
    ·intro x hx;rcases List.mem_append.1 hx with hx | hx
     ·exact LO x hx
     ·rw[List.mem_singleton.1 hx]
      simpa using k2
    ·simp[JR,dj,fe,ints,aN,ax,ec,QM,cZ,eU]
end Go.Proofs.YtlkmbdfhdknlgaaGreatDoor
