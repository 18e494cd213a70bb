/- Made certificates: a rule. -/
import Derived.Test.YtlkmbdfhdknlgaaGreatDoorZ42
namespace Go.Proofs.YtlkmbdfhdknlgaaGreatDoor
open Go.Can Go.aN
def ML (c:Cl)(ii pc:Nat):Int:=(c.calls.getD ii []).getD pc (-1)
def kj (L:List Int)(c:Cl)(l:List Ru)(ii pc:Nat)(z:In)(i:Nat):Int×Nat:=if cN z=true then Fp L l (ML c ii pc) i else (-1,i)
def ke (u:Un)(c:Cl)(L:List Int)(l:List Ru)(ii:Nat)(ct:Bool)(y:Is):Nat→Nat→List It→Nat→(Ru×Bool)×Nat
 | 0,_,OE,i=>((⟨ii,ct,OE⟩,ct),i)
 | n+1,pc,OE,i=>match (au u y)[pc]? with
  | none=>((⟨ii,ct,OE⟩,ct),i)
  | some z=>
   if cN z=true∧(kj L c l ii pc z i).1<0 then ((⟨ii,ct,OE⟩,ct),(kj L c l ii pc z i).2) else
   if ct=true then
    if (bN L (kj L c l ii pc z i).2 8).1=1∨gM z=true then
     if gM z=true then
      if (bN L (bN L (kj L c l ii pc z i).2 8).2 2).1=1 then ((⟨ii,false,OE++[⟨pc,(kj L c l ii pc z i).1⟩]⟩,true),(bN L (bN L (kj L c l ii pc z i).2 8).2 2).2)
      else ((⟨ii,true,OE⟩,true),(bN L (bN L (kj L c l ii pc z i).2 8).2 2).2)
     else ((⟨ii,true,OE⟩,true),(bN L (kj L c l ii pc z i).2 8).2)
    else ke u c L l ii ct y n ((dJ z pc).getD (bN L (bN L (kj L c l ii pc z i).2 8).2 (dJ z pc).length).1 0) (OE++[⟨pc,(kj L c l ii pc z i).1⟩]) (bN L (bN L (kj L c l ii pc z i).2 8).2 (dJ z pc).length).2
   else if gM z=true then ((⟨ii,false,OE++[⟨pc,(kj L c l ii pc z i).1⟩]⟩,true),(kj L c l ii pc z i).2)
   else ke u c L l ii ct y n ((dJ z pc).getD (bN L (kj L c l ii pc z i).2 (dJ z pc).length).1 0) (OE++[⟨pc,(kj L c l ii pc z i).1⟩]) (bN L (kj L c l ii pc z i).2 (dJ z pc).length).2
def eV (l:List It):Ob:=⟨77,2,l.flatMap eX⟩
def JX (u:Un)(L:List Int)(l:List Ru)(ii:Nat)(ct:Bool)(OE:List It)(i:Nat):List (Nat×Ob):=[(6,eV OE),(5,⟨55,0,[I ii,.bool ct,.bp 6 0 OE.length]⟩),(4,⟨55,0,[I 0,.bool false,.aj]⟩),(3,⟨34,0,cD (ak u)⟩),(2,⟨30,0,bX u⟩),(1,cw l),(0,aA L i)]
def J211 (u:Un)(L:List Int)(l:List Ru)(ii:Nat)(ct:Bool)(y:Is)(TA:(Ru×Bool)×Nat)(m:Nat)(s:St):Prop:=∃ (n pc i:Nat) (OE:List It),m=20-n∧n≤20∧OE.length=n∧i≤L.length∧pc<(au u y).length∧TA=ke u (ak u) L l ii ct y (20-n) pc OE i∧
 s=⟨[(17,I n),(16,I pc),(15,.az ((au u y).flatMap cU) (au u y).length),(14,.aq 5 0),(12,.aq 4 0),(8,.aq 3 0),(7,.aq 2 0),(0,.aq 0 0),(3,.bp 1 0 l.length),(4,I ii),(5,.bool ct)],JX u L l ii ct OE i,7⟩
set_option maxRecDepth 100000 in
set_option maxHeartbeats 4000000 in
theorem C9 {u:Un}(hu:im u)(L:List Int)(i0:Nat)(RL:i0≤L.length)(hL:L.length≤1000)(l:List Ru)(hl:l.length≤1000){ii:Nat}{y:Is}(hy:(ak u).is[ii]? = some y)(ct:Bool) :
  Body Tryz.prog av 23 [.aq 0 0,cK u,eP (ak u),.bp 1 0 l.length,I ii,.bool ct] [(0,aA L i0),(1,cw l)] 2 (jA (.dI [.agg (cj (ke u (ak u) L l ii ct y 20 0 [] i0).1.1),.bool (ke u (ak u) L l ii ct y 20 0 [] i0).1.2]) [(0,aA L (ke u (ak u) L l ii ct y 20 0 [] i0).2),(1,cw l)] 2):=by
 have Rj:=cQ l;have Oj:=aP u;have Ox:=bL (ak u);have Sw:=kH hu hy;obtain⟨pq,OT,N9⟩:=kG Sw;have Po:=(List.getElem?_eq_some_iff.1 OT).1;have Sv:=(List.getElem?_eq_some_iff.1 hy).1;have Qz:=aD (f:=cC) (n:=2) dM hy;have N7:=a8 (f:=jS) (n:=5) fQ OT 4 yA;have XL:=qJ hu Sw;have Og:=eK hu y;have X8:=aE (ak u).roots;obtain⟨TA,Yt⟩:∃ TA,ke u (ak u) L l ii ct y 20 0 [] i0=TA:=⟨_,rfl⟩;rw[Yt];refine Body.iV Tryz.func23 rfl N4 (by simp[Tryz.ntmps23]) fun C hC N8=>?_;rw[Tryz.ntmps23] at hC;simp only[bX,cD,ints] at Oj Ox;simp only[cK,eP,bX,cD,ints];have rU:=fun ρ=>ay ρ _ Oj;have rR:=fun ρ=>ay ρ _ Rj;have rC:=fun ρ=>ay ρ _ Ox;apply ai;simp[hC];apply ai;simp[hC];apply T.seq;refine T.rx af follows [0,1,2,3,4,5,6,7,8,9,10,11,12] [] N4 ?_;simp[hC,Sv,Qz,cC,Po,N7,jS];apply aL;simp[hC];apply T.block;refine T.aI (J211 u L l ii ct y TA) (n:=20) ?_ ?_
 ·refine aa.le (Le.oL 5 2 77 2 rfl rfl) ?_;simp;refine aa.le (Le.trim [17,16,15,14,12,8,7,0,3,4,5] [19,5,4,3,2,1,0] 20 (by simp[cw,aA,ints,-List.all_eq_true,-List.all_flatMap,ah Rj,ah Oj,ah Ox]) yA) ?_;simp;refine aa.le (Le.norm [17,16,15,14,12,8,7,0,3,4,5] [(19,6),(5,5),(4,4),(3,3),(2,2),(1,1),(0,0)] 2 7 Pn Pk (by simp[cX,qx,ox,tree,assoc,-List.all_eq_true,-List.all_flatMap,aC Oj,aC Ox,aC Rj,cw,aA,ints]) yA) ?_;simp[cT,cc,bV,dT,fc,assoc,fy,rR,cw,aA,ints];refine aa.here ⟨0,0,i0,[],rfl,by omega,rfl,RL,XL,Yt.symm,?_⟩;simp[JX,bX,cD,ints,N9,eV,aA,cw]
 ·rintro m s ⟨n,pc,i,OE,rfl,hn,Oo,hi,ji,hD,rfl⟩;simp only[JX,bX,cD,ints];have PG:=fN OE;have On:List.take (OE.length*2) (OE.flatMap eX)=OE.flatMap eX:=List.take_of_length_le (by rw[aM dq];omega);have fin:∀ (a:Bool) (OE:List It) (b:Bool) (j:Nat),j≤L.length→TA=((⟨ii,a,OE⟩,b),j)→∀ E H N,aa C (fun s=>s=⟨[(12,.aq 4 0),(13,.bool b)],[(6,eV OE),(4,⟨55,0,[I ii,.bool a,.bp 6 0 OE.length]⟩),(1,cw l),(0,aA L j)],7⟩) ⟨E,H,N⟩→aa C (fun s'=>∃ r,bm av Tryz.f23 s'=some r∧jA (.dI [.agg (cj TA.1.1),.bool TA.1.2]) [(0,aA L TA.2),(1,cw l)] 2 r s') ⟨E,H,N⟩:=by
   intro a OE b j hj ht E H N ⟨s',hs,hle⟩;subst hs;have PG:=fN OE;have On:List.take (OE.length*2) (OE.flatMap eX)=OE.flatMap eX:=List.take_of_length_le (by rw[aM dq];omega);refine aa.le hle ?_;refine aa.le (Le.cV (o:=6) rfl PG) ?_;simp[eV,aA,ints,bQ,On];refine aa.le (Le.cV (o:=4) rfl (by simp only[trees,tree,Bool.and_self])) ?_;simp;refine aa.trim [12,13] [0,1] 2 Qt yA ⟨_,rfl,?_⟩;simp[jA,ht,cj,di]
  by_cases hn20:n<20
  ·obtain⟨z,hz⟩:∃ z,(au u y)[pc]? = some z:=⟨_,List.getElem?_eq_getElem ji⟩;have SV:=(List.getElem?_eq_some_iff.1 hz).1;have OQ:=aD (f:=cU) (n:=12) eg hz;obtain⟨xc,Pt,PH⟩:=gT z;rw[Pt] at OQ;have Qj:=qp z;have Pu:=tM z;have wn:=cf ((n:Int)+1) yA yA;have Y6:(n:Int)<20:=by omega
   rw[show 20-n=(20-(n+1))+1 by omega,ke,hz] at hD;simp only at hD;obtain⟨ci,UZ⟩:∃ ci,kj L (ak u) l ii pc z i=ci:=⟨_,rfl⟩;rw[UZ] at hD;apply aL;simp[hC,Y6];refine fh ?_;simp;apply eG;apply ai;simp[hC];refine T.cut (fun s=>¬ (cN z=true∧ci.1<0)∧ci.2≤L.length∧s=⟨[(18,.aq 7 0),(17,I n),(16,I pc),(15,.az ((au u y).flatMap cU) (au u y).length),(14,.aq 5 0),(12,.aq 4 0),(8,.aq 3 0),(7,.aq 2 0),(0,.aq 0 0),(3,.bp 1 0 l.length),(4,I ii),(5,.bool ct)],[(7,⟨77,0,[I pc,I ci.1]⟩),(6,eV OE),(5,⟨55,0,[I ii,.bool ct,.bp 6 0 OE.length]⟩),(4,⟨55,0,[I 0,.bool false,.aj]⟩),(3,⟨34,0,[.az ((ak u).is.flatMap cC) (ak u).is.length,.az ((ak u).calls.map ints) (ak u).calls.length,aB (ak u).roots]⟩),(2,⟨30,0,[.az (u.gs.map fun n=>I n) u.gs.length,.az (u.ms.flatMap eM) u.ms.length,.az (u.ps.flatMap jS) u.ps.length,I u.main]⟩),(1,cw l),(0,aA L ci.2)],8⟩) ?_ ?_
   ·cases hc:cN z with
    | false=>
     have PD:ci=(-1,i):=by rw[← UZ,kj,if_neg (by simp[hc])]
     rw[hc] at Qj;apply ai;simp[hC,SV,OQ,Qj];refine dv ?_;simp;refine aa.trim [18,17,16,15,14,12,8,7,0,3,4,5] [7,6,5,4,3,2,1,0] 8 Z0 yA ?_;simp[PD,hi,aA,ints]
    | true=>
     obtain⟨row,OX,OF,Vj⟩:=ny hu hy hz hc;have PZ:=fe ints OX;have QS:=fe vL OF;have Qe:=(List.getElem?_eq_some_iff.1 OX).1;have O7:=(List.getElem?_eq_some_iff.1 OF).1;have Qb:ML (ak u) ii pc=dn (ak u) ii pc:=by rw[ML,List.getD_eq_getElem?_getD,List.getD_eq_getElem?_getD,OX,Option.getD_some,OF,Option.getD_some]
     have PD:ci=Fp L l (dn (ak u) ii pc) i:=by rw[← UZ,kj,if_pos hc,Qb]
     have Sd:ci.2≤L.length:=by rw[PD];exact aV L _ hi
     rw[hc] at Qj;apply ai;simp[hC,SV,OQ,Qj];refine cB ?_;simp;apply ai;simp[hC,PZ,Qe,QS,O7,ints];refine TL.bS af [0,1] 2 (Il L i hi hL l hl (dn (ak u) ii pc)) Oc rfl rfl rfl rfl N3 OP OO rfl (TL.go' af ?_);simp[hC];rw[← PD];by_cases Rw:ci.1<0
     ·rw[if_pos ⟨hc,Rw⟩] at hD;apply ai;simp[hC,Rw];refine T.cond (b:=true) (by first | rfl | simp[ev,assoc,Rw]) ?_;simp;apply ai;simp[hC];apply T.ret;refine fin ct OE ct ci.2 Sd hD _ _ _ ?_;refine aa.trim [12,13] [6,4,1,0] 7 X5 yA ?_;simp[cw,aA,ints,eV]
     ·have Ul:0≤ci.1:=by omega
      apply ai;simp[hC,Rw];refine T.cond (b:=false) (by first | rfl | simp[ev,assoc,Rw]) (T.skip ?_);simp;refine aa.trim [18,17,16,15,14,12,8,7,0,3,4,5] [7,6,5,4,3,2,1,0] 8 Z0 yA ?_;simp[Ul,Sd,aA,ints]
   rintro s ⟨OY,Sd,rfl⟩;rw[if_neg OY] at hD;have Ou:(eV OE).cells.length=OE.length*2:=aM (f:=eX) (n:=2) dq OE;have RI:(OE.length+1)*16≤140737488355328:=by omega
   have Oh:(eV OE).sz=2:=rfl;have Oe:(eV OE).elem=77:=rfl;have P3:trees ((eV OE).cells++[I (pc:Int),I ci.1])=true:=by rw[aZ,show trees (eV OE).cells=true from PG];rfl
   have rN:=fun ρ=>ay ρ _ P3;have S7:(eV OE).cells++[I (pc:Int),I ci.1]=(eV (OE++[⟨pc,ci.1⟩])).cells:=by simp[eV,eX]
   refine T.cut (fun s=>∃ i3,i3≤L.length∧TA=(if gM z=true then ((⟨ii,ct,OE++[⟨pc,ci.1⟩]⟩,true),i3) else ke u (ak u) L l ii ct y (20-(n+1)) ((dJ z pc).getD (bN L i3 (dJ z pc).length).1 0) (OE++[⟨pc,ci.1⟩]) (bN L i3 (dJ z pc).length).2)∧s=⟨[(18,.aq 7 0),(17,I n),(16,I pc),(15,.az ((au u y).flatMap cU) (au u y).length),(14,.aq 5 0),(12,.aq 4 0),(8,.aq 3 0),(7,.aq 2 0),(0,.aq 0 0),(3,.bp 1 0 l.length),(4,I ii),(5,.bool ct)],[(7,⟨77,0,[I pc,I ci.1]⟩),(6,eV OE),(5,⟨55,0,[I ii,.bool ct,.bp 6 0 OE.length]⟩),(4,⟨55,0,[I 0,.bool false,.aj]⟩),(3,⟨34,0,[.az ((ak u).is.flatMap cC) (ak u).is.length,.az ((ak u).calls.map ints) (ak u).calls.length,aB (ak u).roots]⟩),(2,⟨30,0,[.az (u.gs.map fun n=>I n) u.gs.length,.az (u.ms.flatMap eM) u.ms.length,.az (u.ps.flatMap jS) u.ps.length,I u.main]⟩),(1,cw l),(0,aA L i3)],8⟩) ?_ ?_
   ·cases ct with
    | false=>
     apply ai;simp[hC];refine dv ?_;simp;refine aa.trim [18,17,16,15,14,12,8,7,0,3,4,5] [7,6,5,4,3,2,1,0] 8 Z0 yA ⟨ci.2,Sd,by simpa using hD,?_⟩;simp[cw,aA,ints]
    | true=>
     rw[if_pos rfl] at hD;obtain⟨a,ha⟩:∃ a,bN L ci.2 8=a:=⟨_,rfl⟩;have Q3:a.2≤L.length:=by rw[← ha];exact aV L _ Sd
     rw[ha] at hD;apply ai;simp[hC];by_cases UG:a.1=1
     ·rw[if_pos (Or.inl UG)] at hD;refine TL.bS af [0] 1 (bF L ci.2 8 Sd hL yA yA) Oc rfl rfl rfl rfl N3 OP OO rfl (TL.go' af ?_);simp[hC,ha,UG]
      cases hR:gM z with
      | false=>
       rw[hR,if_neg N3] at hD;refine cB ?_;simp;apply aL;simp[hC,SV,OQ,Pu,hR];refine dv ?_;simp;apply ai;simp[hC];apply T.ret;refine fin true OE true a.2 Q3 hD _ _ _ ?_;refine aa.trim [12,13] [6,4,1,0] 7 X5 yA ?_;simp[cw,aA,ints,eV]
      | true=>
       rw[hR,if_pos rfl] at hD;obtain⟨b,hb⟩:∃ b,bN L a.2 2=b:=⟨_,rfl⟩;have O2:b.2≤L.length:=by rw[← hb];exact aV L _ Q3
       rw[hb] at hD;refine cB ?_;simp;apply aL;simp[hC,SV,OQ,Pu,hR];by_cases Pq:b.1=1
       ·rw[if_pos Pq] at hD;refine TL.bS af [0] 1 (bF L a.2 2 Q3 hL yA yA) Oc rfl rfl rfl rfl N3 OP OO rfl (TL.go' af ?_);simp[hC,hb,Pq];refine cB ?_;simp;apply ai;simp[hC];apply aY;simp[hC,Ou,Oh,Oe,RI,aS];apply ai;simp[hC];apply T.ret;refine fin false _ true b.2 O2 hD _ _ _ ?_;refine aa.le (Le.norm [12,13] [(9,6),(4,4),(1,1),(0,0)] 2 7 Pn Pk yCk yA) ?_;simp[cT,cc,bV,dT,fc,assoc,rN,rR,cw,aA,ints];apply aa.here;simp[eV,eX]
       ·rw[if_neg Pq] at hD;refine TL.bS af [0] 1 (bF L a.2 2 Q3 hL yA yA) Oc rfl rfl rfl rfl N3 OP OO rfl (TL.go' af ?_);simp[hC,hb,Pq];refine dv ?_;simp;apply ai;simp[hC];apply T.ret;refine fin true OE true b.2 O2 hD _ _ _ ?_;refine aa.trim [12,13] [6,4,1,0] 7 X5 yA ?_;simp[cw,aA,ints,eV]
     ·cases hR:gM z with
      | false=>
       rw[if_neg (by simp[UG,hR])] at hD;refine TL.bS af [0] 1 (bF L ci.2 8 Sd hL yA yA) Oc rfl rfl rfl rfl N3 OP OO rfl (TL.go' af ?_);simp[hC,SV,OQ,Pu,ha,UG,hR];refine dv ?_;simp;refine aa.trim [18,17,16,15,14,12,8,7,0,3,4,5] [7,6,5,4,3,2,1,0] 8 Z0 yA ⟨a.2,Q3,by rw[hD];simp,?_⟩;simp[cw,aA,ints]
      | true=>
       rw[hR,if_pos (Or.inr rfl),if_pos rfl] at hD;refine TL.bS af [0] 1 (bF L ci.2 8 Sd hL yA yA) Oc rfl rfl rfl rfl N3 OP OO rfl (TL.go' af ?_);simp[hC,SV,OQ,Pu,ha,UG,hR];obtain⟨b,hb⟩:∃ b,bN L a.2 2=b:=⟨_,rfl⟩;have O2:b.2≤L.length:=by rw[← hb];exact aV L _ Q3
       rw[hb] at hD;refine cB ?_;simp;apply aL;simp[hC,SV,OQ,Pu,hR];by_cases Pq:b.1=1
       ·rw[if_pos Pq] at hD;refine TL.bS af [0] 1 (bF L a.2 2 Q3 hL yA yA) Oc rfl rfl rfl rfl N3 OP OO rfl (TL.go' af ?_);simp[hC,hb,Pq];refine cB ?_;simp;apply ai;simp[hC];apply aY;simp[hC,Ou,Oh,Oe,RI,aS];apply ai;simp[hC];apply T.ret;refine fin false _ true b.2 O2 hD _ _ _ ?_;refine aa.le (Le.norm [12,13] [(9,6),(4,4),(1,1),(0,0)] 2 7 Pn Pk yCk yA) ?_;simp[cT,cc,bV,dT,fc,assoc,rN,rR,cw,aA,ints];apply aa.here;simp[eV,eX]
       ·rw[if_neg Pq] at hD;refine TL.bS af [0] 1 (bF L a.2 2 Q3 hL yA yA) Oc rfl rfl rfl rfl N3 OP OO rfl (TL.go' af ?_);simp[hC,hb,Pq];refine dv ?_;simp;apply ai;simp[hC];apply T.ret;refine fin true OE true b.2 O2 hD _ _ _ ?_;refine aa.trim [12,13] [6,4,1,0] 7 X5 yA ?_;simp[cw,aA,ints,eV]
   rintro s ⟨i3,Rg,hD,rfl⟩;apply ai;simp[hC,Ou,Oh,Oe,RI,aS]
   cases hR:gM z with
   | true=>
    rw[hR,if_pos rfl] at hD;apply aL;simp[hC,SV,OQ,Pu,hR];refine cB ?_;simp;apply ai;simp[hC];apply T.ret;refine fin ct _ true i3 Rg hD _ _ _ ?_;refine aa.le (Le.norm [12,13] [(9,6),(4,4),(1,1),(0,0)] 2 7 Pn Pk yCk yA) ?_;simp[cT,cc,bV,dT,fc,assoc,rN,rR,cw,aA,ints];apply aa.here;simp[eV,eX]
   | false=>
    rw[hR,if_neg N3] at hD;have Rb:0<(dJ z pc).length:=by
     cases z with
     | ret=>simp[gM] at hR
     | branch g e=>
      simp only[dJ];split<;>simp
     | _=>simp[dJ]
    have Q2:=tO z pc;obtain⟨b,hb⟩:∃ b,bN L i3 (dJ z pc).length=b:=⟨_,rfl⟩;have O2:b.2≤L.length:=by rw[← hb];exact aV L _ Rg
    have Pq:b.1<(dJ z pc).length:=by rw[← hb];exact cH L i3 Rb
    rw[hb] at hD;obtain⟨g,hg⟩:∃ g,(dJ z pc)[b.1]? = some g:=⟨_,List.getElem?_eq_getElem Pq⟩;have Sk:=rQ hu Sw hz (List.mem_of_getElem? hg);have Qy:(dJ z pc).getD b.1 0=g:=by rw[List.getD_eq_getElem?_getD,hg];rfl
    rw[Qy] at hD;have hdg:=fA hg;have OV:=qj hu Sw hz yA;have ti:=bD y;have Ss:trees [cK u,.agg (cC y),I (pc:Int)]=true:=by simp only[trees,tree,cK,aP,ti,Bool.and_self]
    simp only[cK,bX,cC,ints] at OV Ss;apply aL;simp[hC,SV,OQ,Pu,hR];refine dv ?_;simp;apply T.seq;refine T.rx af follows [0,1,2,3,4,5,6,7,8] [] N4 ?_;simp[hC,Sv,Qz,cC];refine RX.call rfl N3 rfl rfl rfl Ss OV ?_;simp;apply aY;simp[hC,aB];refine TL.bS af [0] 1 (bF L i3 (dJ z pc).length Rg hL Rb yA) Oc rfl rfl rfl rfl N3 OP OO rfl (TL.go' af ?_);simp[hC,hb,Pq,hdg];apply aY;simp[hC,wn];refine⟨20-(n+1),by omega,?_⟩;refine aa.le (Le.norm [17,16,15,14,12,8,7,0,3,4,5] [(9,6),(5,5),(4,4),(3,3),(2,2),(1,1),(0,0)] 2 7 Pn Pk (by simp[cX,qx,ox,tree,assoc,-List.all_eq_true,-List.all_flatMap,aC P3,aC Oj,aC Rj,cw,aA,ints]) yA) ?_;simp[cT,cc,bV,dT,fc,assoc,rN,rR,cw,aA,ints];refine aa.here ⟨n+1,g,b.2,OE++[⟨pc,ci.1⟩],by omega,by omega,by simp[Oo],O2,Sk,hD,?_⟩;simp[JX,bX,cD,ints,N9,eV,aA,eX,aB,cw]
  ·have Q2:n=20:=by omega
   subst Q2;rw[Nat.sub_self,ke] at hD;apply aL;simp[hC];refine aX ?_;simp;apply T.exit;simp;apply ai;simp[hC];apply T.ret;refine fin ct OE ct i hi hD _ _ _ ?_;refine aa.trim [12,13] [6,4,1,0] 7 X5 yA ?_;simp[cw,aA,ints,eV]
def RuK (u:Un)(y:Is)(r:Ru):Prop:=∀ it∈r.items,∃ (p:Nat) (z:In),it.pc=p∧(au u y)[p]? = some z∧(r.ct=true→gM z=false)
theorem B4 {u:Un}{c:Cl}{L:List Int}{l:List Ru}{ii:Nat}{ct:Bool}{y:Is}(hl:l.length≤1000):∀ (n pc:Nat) (OE:List It) (i:Nat),i≤L.length→(∀ it∈OE,∃ (p:Nat) (z:In),it.pc=p∧(au u y)[p]? = some z∧gM z=false) →
  (ke u c L l ii ct y n pc OE i).1.1.inst=ii∧(ke u c L l ii ct y n pc OE i).1.1.items.length≤OE.length+n∧(ke u c L l ii ct y n pc OE i).2≤L.length∧RuK u y (ke u c L l ii ct y n pc OE i).1.1
 | 0,pc,OE,i,hi,h=>⟨rfl,by simp[ke],hi,fun it hm=>by
  obtain⟨p,z,h1,h2,h3⟩:=h it hm;exact⟨p,z,h1,h2,fun _=>h3⟩⟩
 | n+1,pc,OE,i,hi,h=>by
  have hk:∀ b:Bool,RuK u y ⟨ii,b,OE⟩:=fun b it hm=>by
   obtain⟨p,z,h1,h2,h3⟩:=h it hm;exact⟨p,z,h1,h2,fun _=>h3⟩
  rw[ke]
  cases hz:(au u y)[pc]? with
  | none=>exact⟨rfl,by simp only;omega,hi,hk ct⟩
  | some z=>
   simp only;have UZ:(kj L c l ii pc z i).2≤L.length:=by
    unfold kj;split
    ·exact aV L _ hi
    ·exact hi
   generalize kj L c l ii pc z i=ci at *;have h8:=aV L 8 UZ;have h82:=aV L 2 h8;have Ry:RuK u y ⟨ii,false,OE++[⟨pc,ci.1⟩]⟩:=fun it hm=>by
    rcases List.mem_append.1 hm with hm | hm
    ·obtain⟨p,z,h1,h2,h3⟩:=h it hm;exact⟨p,z,h1,h2,fun _=>h3⟩
    ·rw[List.mem_singleton.1 hm];exact⟨pc,z,rfl,hz,fun h=>by cases h⟩
   have Wu:gM z=false→∀ p i',i'≤L.length→(ke u c L l ii ct y n p (OE++[⟨pc,ci.1⟩]) i').1.1.inst=ii∧(ke u c L l ii ct y n p (OE++[⟨pc,ci.1⟩]) i').1.1.items.length≤OE.length+(n+1)∧(ke u c L l ii ct y n p (OE++[⟨pc,ci.1⟩]) i').2≤L.length∧RuK u y (ke u c L l ii ct y n p (OE++[⟨pc,ci.1⟩]) i').1.1:=fun hr p i' S8=>by
    obtain⟨k1,k2,k3,k4⟩:=B4 (ct:=ct) (ii:=ii) (c:=c) hl n p (OE++[⟨pc,ci.1⟩]) i' S8 (fun it hm=>by
     rcases List.mem_append.1 hm with hm | hm
     ·exact h it hm
     ·rw[List.mem_singleton.1 hm];exact⟨pc,z,rfl,hz,hr⟩)
    exact⟨k1,by simp only[List.length_append,List.length_singleton] at k2;omega,k3,k4⟩
   split
   ·exact⟨rfl,by simp only;omega,UZ,hk ct⟩
   split
   ·split
    ·split
     ·split
      ·exact⟨rfl,by simp only[List.length_append,List.length_singleton];omega,h82,Ry⟩
      ·exact⟨rfl,by simp only;omega,h82,hk true⟩
     ·exact⟨rfl,by simp only;omega,h8,hk true⟩
    ·rename_i OY
     exact Wu (by cases hr:gM z with
      | false=>rfl
      | true=>exact (OY (.inr hr)).elim) _ _ (aV L _ h8)
   ·split
    ·exact⟨rfl,by simp only[List.length_append,List.length_singleton];omega,UZ,Ry⟩
    ·rename_i OY;exact Wu (by simpa using OY) _ _ (aV L _ UZ)
def CeK (n k:Nat)(x:Ce):Prop:=x.rules.length≤n∧(∀ r∈x.rules,r.items.length≤k)∧MX x
def yJ (u:Un)(L:List Int)(m:Nat)(out:List Ru)(i:Nat):List (Nat×Ob):=[(5,⟨39,0,[I m,I 0,I 0,I 0,.bp 1 0 out.length]⟩),(4,⟨34,0,cD (ak u)⟩),(3,⟨30,0,bX u⟩),(2,⟨39,0,[I 0,I 0,I 0,I 0,.aj]⟩),(1,cw out),(0,aA L i)]
def J212 (u:Un)(L:List Int)(m n:Nat)(s:St):Prop:=∃ (out:List Ru) (i:Nat),out.length+n≤5∧(∀ r∈out,r.items.length≤20)∧i≤L.length∧
 s=⟨[(11,I n),(10,.aq 5 0),(9,.aq 0 0),(8,.aq 2 0),(5,.aq 4 0),(4,.aq 3 0)],yJ u L m out i,6⟩
set_option maxRecDepth 100000 in
set_option maxHeartbeats 4000000 in
theorem Kc {u:Un}(hu:im u)(l:List Int)(hl:l.length≤9223372036854775807)(m:Nat)(_hm:m≤1000):jk Tryz.prog 7 [cK u,eP (ak u),ints l,I m] (fun r=>∃ x:Ce,r=pX x∧CeK 6 20 x):=by
 have Oj:=aP u;have Ox:=bL (ak u);have X8:=aE (ak u).roots;refine jk.iV af Tryz.func7 rfl N4 (by simp[Tryz.ntmps7]) fun C hC N8=>?_;rw[Tryz.ntmps7] at hC;simp only[bX,cD,ints] at Oj Ox;have rU:=fun ρ=>ay ρ _ Oj;have rC:=fun ρ=>ay ρ _ Ox;have W5:=H7 l 200 hl;have UM:trees [ints l,I 200]=true:=by simp only[ints,trees,tree,Bool.and_self]
 have hL:(l.take 200).length≤1000:=by simp;omega
 generalize l.take 200=L at W5 hL;simp only[cK,eP,bX,cD,ints] at W5 UM ⊢;have rL:=fun ρ=>ay ρ _ (iQ L);apply ai;simp[hC];apply ai;simp[hC];refine dc UM W5 ?_;simp[hC];apply ai;simp[hC];refine T.le (Le.oL 4 4 55 3 rfl rfl) ?_;simp;refine T.le (Le.trim [10,9,8,5,4] [5,4,3,2,1,0] 6 Xp yA) ?_;simp;refine T.le (Le.norm [10,9,8,5,4] [(5,1),(4,5),(3,0),(2,2),(1,4),(0,3)] 0 6 Pn Pk (by simp[cX,qx,ox,tree,assoc,-List.all_eq_true,-List.all_flatMap,aC Oj,aC Ox]) yA) ?_;simp[cT,cc,bV,dT,fc,assoc,fy];obtain⟨a,ha⟩:∃ a,bN L 0 5=a:=⟨_,rfl⟩;have UG:a.1<5:=by rw[← ha];exact cH L 0 yA
 have Q3:a.2≤L.length:=by rw[← ha];exact aV L 5 (Nat.zero_le _)
 have w1:=cf (1+(a.1:Int)) yA yA;apply aL;simp[hC];refine TL.bS af [0] 1 (bF L 0 5 (Nat.zero_le _) hL yA yA) Oc rfl rfl rfl rfl N3 OP OO rfl (TL.go' af ?_);simp[hC,ha,w1];apply T.block;refine T.aI (J212 u L m) (n:=1+a.1) ?_ ?_
 ·refine aa.trim [11,10,9,8,5,4] [5,4,3,2,1,0] 6 (by simp[aA,ints,-List.all_eq_true,-List.all_flatMap,ah Oj,ah Ox]) yA ⟨[],a.2,by simp;omega,by simp,Q3,?_⟩;simp[yJ,aA,ints,cw,bX,cD,Int.add_comm]
 ·rintro n s ⟨out,i,hn,QQ,hi,rfl⟩;simp only[yJ,bX,cD,ints];have Re:out.length≤1000:=by omega
  have YH:0<(ak u).roots.length:=List.length_pos_of_mem (((y0 hu).root 0).2 (.inl rfl));have hrtl:=yZ hu;obtain⟨hcl1,Vt⟩:=ju hu;have UL:=cQ out;have rO:=fun ρ=>ay ρ _ UL;have wn:=cf ((n:Int)-1) yA yA;by_cases Rl:n=0
  ·subst Rl;apply aL;simp[hC];refine aX ?_;simp;apply T.exit;simp;apply T.seq;refine T.rx af follows [0,1,2,3,4,5,6,7,8,9,10,18,11,12,13,14,15,16,17,19,20] [(1,18),(1,11),(2,18),(2,11),(4,18),(4,11),(6,18),(6,11),(9,18),(18,11),(18,13),(18,14)] N4 ?_;simp[hC,aA,ints,aB];obtain⟨a,ha⟩:∃ a,bN L i (ak u).roots.length=a:=⟨_,rfl⟩;have UG:a.1<(ak u).roots.length:=by rw[← ha];exact cH L i YH
   have Q3:a.2≤L.length:=by rw[← ha];exact aV L _ hi
   obtain⟨q,hq⟩:∃ q,(ak u).roots[a.1]? = some q:=⟨_,List.getElem?_eq_getElem UG⟩;have P6:=(tt hu (Nat.le_refl 8)).root q (List.mem_of_getElem? hq);have RB:=fA hq;obtain⟨y,hy⟩:∃ y,(ak u).is[q]? = some y:=⟨_,List.getElem?_eq_getElem P6⟩;obtain⟨k1,k2,k3,k4⟩:=B4 (u:=u) (c:=ak u) (L:=L) (l:=out) (ii:=q) (ct:=true) (y:=y) Re 20 0 [] a.2 Q3 N3;have Pd:=C9 hu L a.2 Q3 hL out Re hy true;generalize ke u (ak u) L out q true y 20 0 [] a.2=R at k1 k2 k3 k4 Pd;obtain⟨⟨r,b⟩,j⟩:=R;simp only[cK,eP,bX,cD,ints,aB] at k1 k2 k3 k4 Pd;refine RX.bS [0] [0] 1 (bF L i (ak u).roots.length hi hL YH yA) rfl N3 rfl rfl rfl rfl N3 OP OO rfl rfl rfl N3 ?_;simp[ha,UG,RB];refine RX.bS [0,1] [0] 2 (Pd) rfl N3 rfl rfl rfl rfl N3 OP OO rfl rfl rfl N3 ?_;simp[cj,di];have Ou:(cw out).cells.length=out.length*3:=aM (f:=cj) (n:=3) (fun _=>rfl) out;have RI:(out.length+1)*40≤140737488355328:=by omega
   have Oh:(cw out).sz=3:=rfl;have Oe:(cw out).elem=55:=rfl;refine T.cut (fun s=>∃ r':Ru,RuK u y r'∧(r'.inst=q∨(r'.inst=0∧r'.items=[]))∧r'.items.length≤20∧s=⟨[(14,.aq 6 0),(10,.aq 5 0),(9,.aq 0 0),(8,.aq 2 0),(5,.aq 4 0),(4,.aq 3 0)],(6,⟨55,0,cj r'⟩)::yJ u L m out j,7⟩) ?_ ?_
   ·apply ai;simp[hC]
    cases b with
    | true=>
     refine dv ?_;simp;refine aa.le (Le.norm [14,10,9,8,5,4] [(24,6),(5,5),(4,4),(3,3),(2,2),(1,1),(0,0)] 2 7 Pn Pk yCu yA) ?_;simp[cT,cc,bV,dT,fc,assoc,rO,aA,ints,cw];refine aa.here ⟨r,k4,.inl k1,by simpa using k2,?_⟩;simp[yJ,bX,cD,ints,aB,aA,cw,cj,di]
    | false=>
     refine cB ?_;simp;apply aY;simp[hC];refine aa.le (Le.nz [] [24]) ?_;simp;refine aa.le (Le.norm [14,10,9,8,5,4] [(24,6),(5,5),(4,4),(3,3),(2,2),(1,1),(0,0)] 2 7 Pn Pk yCu yA) ?_;simp[cT,cc,bV,dT,fc,assoc,rO,aA,ints,cw];refine aa.here ⟨⟨0,true,[]⟩,fun it h=>by simp at h,.inr ⟨rfl,rfl⟩,by simp,?_⟩;simp[yJ,bX,cD,ints,aB,aA,cw,cj,di]
   rintro s ⟨r',k5,k7,k6,rfl⟩;simp only[yJ,bX,cD,ints,aB,cj,di];apply ai;simp[hC,Ou,Oh,Oe,RI,aS];apply ai;simp[hC];refine T.cut (fun s=>∃ p:Int,i64 p∧s=⟨[(10,.aq 5 0),(8,.aq 2 0)],[(5,⟨39,0,[I m,I r'.inst,I p,I 0,.bp 1 0 (out.length+1)]⟩),(2,⟨39,0,[I 0,I 0,I 0,I 0,.aj]⟩),(1,cw (out++[r']))],6⟩) ?_ ?_
   ·have P3:∀ b,trees ((cw out).cells++[I r'.inst,.bool b,.az (r'.items.flatMap eX) r'.items.length])=true:=fun b=>by
     rw[aZ,show trees (cw out).cells=true from UL];simp[trees,tree]
    have rN:=fun ρ b=>ay ρ _ (P3 b);apply ai;simp[hC];by_cases RL:0<r'.items.length
    ·cases Ol:r'.ct with
     | true=>
      have Oo:r'.inst=(q:Int):=k7.resolve_right (fun h=>by rw[h.2] at RL;exact absurd RL N3);obtain⟨k,hk⟩:∃ k,r'.items.length=k+1:=⟨_,(Nat.succ_pred_eq_of_pos RL).symm⟩;obtain⟨it,Oq⟩:∃ it,r'.items[k]? = some it:=⟨_,List.getElem?_eq_getElem yA⟩;obtain⟨p,z,hp,hz,Yi⟩:=k5 it (List.mem_of_getElem? Oq);have Yi:=Yi Ol;have Sw:=kH hu hy;have Qz:=aD (f:=cC) (n:=2) dM hy;have Sl:=aD (f:=eX) (n:=2) dq Oq;have Sv:=(List.getElem?_eq_some_iff.1 hy).1;have Po:=(List.getElem?_eq_some_iff.1 hz).1;have Og:=eK hu y;have OV:=qj hu Sw hz yA;have ti:=bD y;have Ss:trees [cK u,.agg (cC y),I (p:Int)]=true:=by simp only[trees,tree,cK,aP,ti,Bool.and_self]
      obtain⟨g,gs,UT⟩:∃ g gs,dJ z p=g::gs:=by
       cases z with
       | ret=>simp[gM] at Yi
       | branch g e=>
        simp only[dJ];split<;>simp
       | _=>simp[dJ]
      have Sk:=rQ hu Sw hz (q:=g) (by rw[UT];simp);rw[UT] at OV;simp only[cK,bX,cC,ints,aB] at OV Ss;have wk:=cf (k:Int) yA yA;apply ai;simp[hC,RL];refine cB ?_;simp;have SK:(k:Int)<k+1:=by omega
      refine T.rx af follows [0,1,2,3,4,5,6,7,8,9,10,11,12,13,14,15,16,17,18] [] N4 ?_;simp[hC,Sv,Qz,cC,Oo,hk,Sl,eX,wk,hp,SK,aB];refine RX.call rfl N3 rfl rfl rfl Ss OV ?_;simp;have tq:trees ((cw out).cells++[I (q:Int),.bool true,.az (r'.items.flatMap eX) (k+1)])=true:=by
       have:=P3 true;rwa [Oo,hk] at this
      have rq:=fun ρ=>ay ρ _ tq;have tro2:trees (cw out).cells=true:=UL;refine aa.le (Le.norm [10,8] [(5,5),(2,2),(8,1)] 0 6 Pn Pk (by simp[cX,qx,ox,tree,assoc,-List.all_eq_true,-List.all_flatMap,aC tro2]) yA) ?_;simp[cT,cc,bV,dT,fc,assoc,rq];refine aa.here ⟨g,by constructor<;>omega,?_⟩;simp[cw,cj,di,Ol,Oo,hk]
     | false=>
      apply ai;simp[hC,RL];refine aX ?_;simp;apply ai;simp[hC];refine cB ?_;simp;apply aY;simp[hC];refine aa.le (Le.norm [10,8] [(5,5),(2,2),(8,1)] 0 6 Pn Pk yDb yA) ?_;simp[cT,cc,bV,dT,fc,assoc,rN];refine aa.here ⟨-1,by constructor<;>omega,?_⟩;simp[cw,cj,di,Ol]
    ·cases Ol:r'.ct with
     | true=>
      apply ai;simp[hC,RL];refine aX ?_;simp;apply ai;simp[hC];refine dv ?_;simp;refine aa.le (Le.norm [10,8] [(5,5),(2,2),(8,1)] 0 6 Pn Pk (by simp[cX,qx,ox,tree,assoc,-List.all_eq_true,-List.all_flatMap,aC (P3 true)]) yA) ?_;simp[cT,cc,bV,dT,fc,assoc,rN];refine aa.here ⟨0,by constructor<;>omega,?_⟩;simp[cw,cj,di,Ol]
     | false=>
      apply ai;simp[hC,RL];refine aX ?_;simp;apply ai;simp[hC];refine cB ?_;simp;apply aY;simp[hC];refine aa.le (Le.norm [10,8] [(5,5),(2,2),(8,1)] 0 6 Pn Pk yDb yA) ?_;simp[cT,cc,bV,dT,fc,assoc,rN];refine aa.here ⟨-1,by constructor<;>omega,?_⟩;simp[cw,cj,di,Ol]
   rintro s ⟨p,hp,rfl⟩;apply ai;simp[hC];apply T.ret;have We:trees (out.flatMap cj++cj r')=true:=by rw[aZ,show trees (out.flatMap cj)=true from UL,zx];rfl
   have On:List.take ((out.length+1)*3) (out.flatMap cj++cj r')=out.flatMap cj++cj r':=List.take_of_length_le (by rw[List.length_append,aM (f:=cj) (n:=3) (fun _=>rfl)];simp[cj];omega);refine aa.le (Le.cV (o:=1) rfl (by simpa [cw] using We)) ?_;simp[cw,bQ,On];refine aa.trim [8] [2] 3 Qt yA ⟨_,rfl,?_,⟨m,r'.inst,p,0,out++[r']⟩,?_,?_,?_,?_⟩
   ·simp only[List.drop_zero,List.take,tree,trees,Bool.and_self]
   ·simp[pX,qL,df]
   ·simp;omega
   ·intro x hx;rcases List.mem_append.1 hx with hx | hx
    ·exact QQ x hx
    ·rw[List.mem_singleton.1 hx];exact k6
   ·refine⟨?_,hp⟩;rcases k7 with h | ⟨h,_⟩<;>simp only[h]<;>constructor<;>omega
  ·have PF:0<n:=by omega
   have V4:((n-1:Nat):Int)=(n:Int)-1:=by omega
   apply aL;simp[hC,PF];refine T.cond (b:=true) (by first | rfl | simp[ev,assoc,PF]) (T.skip ?_);simp;apply eG;apply T.seq;refine T.rx af follows [0,1,2,3,4,5,6,7,8,14,9,10,11,12,13,15,16] [(1,14),(1,9),(2,14),(2,9),(4,14),(4,9),(7,14),(14,9),(14,10)] N4 ?_;simp[hC,aA,ints,aB];obtain⟨a,ha⟩:∃ a,bN L i (ak u).is.length=a:=⟨_,rfl⟩;have UG:a.1<(ak u).is.length:=by rw[← ha];exact cH L i Vt
   have Q3:a.2≤L.length:=by rw[← ha];exact aV L _ hi
   obtain⟨y,hy⟩:∃ y,(ak u).is[a.1]? = some y:=⟨_,List.getElem?_eq_getElem UG⟩;obtain⟨k1,k2,k3,k4⟩:=B4 (u:=u) (c:=ak u) (L:=L) (l:=out) (ii:=a.1) (ct:=false) (y:=y) Re 20 0 [] a.2 Q3 N3;have Pd:=C9 hu L a.2 Q3 hL out Re hy false;generalize ke u (ak u) L out a.1 false y 20 0 [] a.2=R at k1 k2 k3 k4 Pd;obtain⟨⟨r,b⟩,j⟩:=R;simp only[cK,eP,bX,cD,ints,aB] at k1 k2 k3 k4 Pd;refine RX.bS [0] [0] 1 (bF L i (ak u).is.length hi hL Vt yA) rfl N3 rfl rfl rfl rfl N3 OP OO rfl rfl rfl N3 ?_;simp[ha];refine RX.bS [0,1] [0] 2 (Pd) rfl N3 rfl rfl rfl rfl N3 OP OO rfl rfl rfl N3 ?_;simp[cj,di];have Ou:(cw out).cells.length=out.length*3:=aM (f:=cj) (n:=3) (fun _=>rfl) out;have RI:(out.length+1)*40≤140737488355328:=by omega
   have Oh:(cw out).sz=3:=rfl;have Oe:(cw out).elem=55:=rfl;apply ai;simp[hC]
   cases b with
   | false=>
    refine dv ?_;simp;apply aY;simp[hC,wn];refine⟨n-1,by omega,?_⟩;refine aa.trim [11,10,9,8,5,4] [5,4,3,2,1,0] 6 (by simp[aA,ints,cw,-List.all_eq_true,-List.all_flatMap,ah UL,ah Oj]) yA ⟨out,j,by omega,QQ,k3,?_⟩;simp[yJ,bX,cD,ints,aB,aA,cw,V4]
   | true=>
    refine cB ?_;simp;apply aY;simp[hC,Ou,Oh,Oe,RI,aS];apply aY;simp[hC,wn];have We:trees ((cw out).cells++[I r.inst,.bool r.ct,.az (r.items.flatMap eX) r.items.length])=true:=by
     simp[cw,cj,di]
    have rN:=fun ρ=>ay ρ _ We;refine⟨n-1,by omega,?_⟩;refine aa.le (Le.norm [11,10,9,8,5,4] [(5,5),(4,4),(3,3),(2,2),(24,1),(0,0)] 0 6 Pn Pk (by simp[cX,qx,ox,tree,assoc,-List.all_eq_true,-List.all_flatMap,aC Oj,aC (show trees (cw out).cells=true from UL),aA,ints]) yA) ?_;simp[cT,cc,bV,dT,fc,assoc,rN,aA,ints];refine aa.here ⟨out++[r],j,by simp;omega,?_,k3,?_⟩
    ·intro x hx;rcases List.mem_append.1 hx with hx | hx
     ·exact QQ x hx
     ·rw[List.mem_singleton.1 hx]
      simpa using k2
    ·simp[yJ,bX,cD,ints,aB,aA,cw,V4,cj,di]
end Go.Proofs.YtlkmbdfhdknlgaaGreatDoor
