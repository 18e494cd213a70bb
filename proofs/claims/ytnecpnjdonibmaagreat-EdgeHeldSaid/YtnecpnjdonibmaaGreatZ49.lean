/- The mutexes that are held before an instruction: Held of the -/
import Derived.Test.YtnecpnjdonibmaaGreatZ44
import Derived.Test.YtnecpnjdonibmaaGreatZ48
namespace Go.Proofs.YtnecpnjdonibmaaGreat
open Go.Can Go.aP
open Classical in
/-- The depths before an instruction. -/
noncomputable def vE (u:Un) (i pc m:Nat):Nat:=match u.ms[m]? with
 | some xm=>jE (ay xm) (Be u (aj u) m (ay xm) i pc)
 | none=>0
theorem GX {u:Un}{i pc m:Nat}{xm:Mx}(hm:u.ms[m]? = some xm):vE u i pc m=jE (ay xm) (Be u (aj u) m (ay xm) i pc):=by simp only[vE,hm]
def qx (v:Nat):Bool:=decide (0<v) && decide (v % 2=0)
noncomputable def iI (u:Un) (i pc k:Nat):List Nat:=(List.range k).filter fun m=>decide (1<vE u i pc m)
noncomputable def nh (u:Un) (i pc k:Nat):List Nat:=(List.range k).filter fun m=>qx (vE u i pc m)
theorem xW (u:Un)(i pc k:Nat):iI u i pc (k+1)=if 1<vE u i pc k then iI u i pc k++[k] else iI u i pc k:=by
 unfold iI;rw[List.range_succ,List.filter_append];by_cases h:1<vE u i pc k<;>simp[h]
theorem xR (u:Un)(i pc k:Nat):nh u i pc (k+1)=if qx (vE u i pc k)=true then nh u i pc k++[k] else nh u i pc k:=by
 unfold nh;rw[List.range_succ,List.filter_append];by_cases h:qx (vE u i pc k)=true<;>simp[h]
theorem vr (u:Un)(i pc k:Nat):(iI u i pc k).length≤k:=by
 have:=List.length_filter_le (fun m=>decide (1<vE u i pc m)) (List.range k);rwa [List.length_range] at this
theorem vl (u:Un)(i pc k:Nat):(nh u i pc k).length≤k:=by
 have:=List.length_filter_le (fun m=>qx (vE u i pc m)) (List.range k);rwa [List.length_range] at this
theorem dec_i (a b:Nat):decide ((a:Int)<(b:Int))=decide (a<b):=by
 by_cases h:a<b
 ·simp[h]
 ·simp[h]
theorem M7 (v:Nat):af Tryz.prog 104 [I v] (.bool (decide (1<v))):=by
 refine af.aK ai Tryz.func104 rfl OV (by simp[Tryz.ntmps104]) rfl fun C hC O0=>?_;rw[Tryz.ntmps104] at hC;have h:=dec_i 1 v;apply aq;simp[hC];apply aq;simp[hC];apply T.ret;apply ae.here;simp[Tryz.results104];omega
theorem KD (v:Nat)(hv:v<2 ^ 63):af Tryz.prog 108 [I v] (.bool (qx v)):=by
 have T2:=Jy hv (show 1<2 ^ 63 by decide);refine af.aK ai Tryz.func108 rfl OV (by simp[Tryz.ntmps108]) rfl fun C hC O0=>?_;rw[Tryz.ntmps108] at hC;apply aq;simp[hC];by_cases h0:0<v
 ·have hz:((v:Int) % 2 == 0)=decide (v % 2=0):=by
   by_cases h:v % 2=0
   ·have:(v:Int) % 2=0:=by omega
    simp[h,this]
   ·have:¬ (v:Int) % 2=0:=by omega
    simp[h,this]
  have hm:qx v=decide (v % 2=0):=by simp[qx,h0]
  apply aq;simp[hC,h0,T2,hz];apply T.ret;apply ae.here;simp[Tryz.results108,hm]
 ·have hv0:v=0:=by omega
  subst hv0;apply aq;simp[hC];apply T.ret;apply ae.here;simp[Tryz.results108,qx]
def kz (_u:Un)(i pc:Nat)(A B:List Nat):List (Nat×CV):=[(11,.bl 3 0 B.length),(10,.bl 2 0 A.length),(5,.ax 1 0),(4,.ax 0 0),(3,I pc),(2,I i)]
def ky (u:Un)(A B:List Nat):List (Nat×Ob):=(3,a8 B)::(2,a8 A)::dY u
def J38 (u:Un)(i pc:Nat)(n:Nat)(k:Nat)(s:St):Prop:=∃ m:Nat,k=n-m∧m≤n∧s=⟨(12,I m)::kz u i pc (iI u i pc m) (nh u i pc m),ky u (iI u i pc m) (nh u i pc m),4⟩
set_option maxHeartbeats 1000000 in
theorem Hy {u:Un}(hu:iy u){i pc:Nat}{x:Is}(hx:(aj u).is[i]? = some x)(mV:pc<(au u x).length):af Tryz.prog 38 [df u,eQ (aj u),I i,I pc] (.dS [az (iI u i pc u.ms.length),az (nh u i pc u.ms.length)]):=by
 have U9:=fun (m:Nat) (xm:Mx) (hm:u.ms[m]? = some xm)=>Ct hu hm;have OX:=(List.getElem?_eq_some_iff.1 hx).1;have P2:=hu.nm;have Pa:=aT u;have Ph:=bJ (aj u);have WH:=aC (aj u).roots;have rRo:=fun ρ=>av ρ _ WH;have PF:∀ m:Nat,trees [df u,eQ (aj u),I m]=true:=fun m=>by simp only[trees,tree,df,eQ,aT,bJ,Bool.and_self]
 refine af.aK ai Tryz.func38 rfl OV (by simp[Tryz.ntmps38]) (by simp only[tree,trees,aD,Bool.and_self]) fun C hC O0=>?_;rw[Tryz.ntmps38] at hC;simp only[df,eQ,bY,cN,ints,aF] at Pa Ph PF U9 ⊢;apply aq;simp[hC];apply aq;simp[hC];apply aO;simp[hC];apply T.block;refine T.aH (J38 u i pc u.ms.length) (n:=u.ms.length) ?_ ?_
 ·refine ae.le (Le.own 10 3 1 rfl) ?_;simp[St.own];refine ae.le (Le.own 11 3 1 rfl) ?_;simp[St.own];refine ae.trim [12,11,10,5,4,3,2] [3,2,1,0] 4 V9 yA ⟨0,by omega,by omega,?_⟩;simp[kz,ky,dY,bY,cN,ints,a8,iI,nh]
 ·rintro k s ⟨m,rfl,hm,rfl⟩;simp only[kz,ky,dY,bY,cN,ints,a8];have ZS:=vr u i pc m;have hBl:=vl u i pc m;by_cases P3:m<u.ms.length
  ·obtain⟨xm,Wd⟩:∃ xm,u.ms[m]? = some xm:=⟨_,List.getElem?_eq_getElem P3⟩;have hb:=U9 m xm Wd;have V4:=qS (u:=u) (m:=m) (L:=ay xm) hx;have P4:=oq u (aj u) m (ay xm);have TC:=ou u (aj u) m (ay xm) i x;have RA:=qT (u:=u) (c:=aj u) (m:=m) (L:=ay xm) (i:=i) mV;have hv:=GX (i:=i) (pc:=pc) Wd;have TM:vE u i pc m<2 ^ 63:=by rw[hv];exact qz (dD xm) (jk _ _)
   rw[← hv] at RA;have Uc:=xW u i pc m;have UF:=xR u i pc m;generalize wa u (aj u) m (ay xm)=t at *;generalize wg u (aj u) m (ay xm) i x=br at *;generalize vE u i pc m=v at *;have VX:=dX az V4;have Zz:=cZ RA;have UJ:pc<br.length:=by omega
   have PK:i<t.length:=by omega
   have wm:=cC ((m:Int)+1) yA yA;have hmay:=M7 v;have Y7:=KD v TM;have t3:trees [I v]=true:=rfl;generalize iI u i pc m=A at *;generalize nh u i pc m=B at *;have tA:=aC A;have tB:=aC B;have bA:(A.length+1)*8≤140737488355328:=by omega
   have bB:(B.length+1)*8≤140737488355328:=by omega
   have ZT:(A.map fun n:Nat=>I n)++[I m]=(A++[m]).map fun n:Nat=>I n:=by simp
   have hB5:(B.map fun n:Nat=>I n)++[I m]=(B++[m]).map fun n:Nat=>I n:=by simp
   have Vg:=aC (A++[m]);have XO:=aC (B++[m]);rw[← ZT] at Vg;rw[← hB5] at XO;have rA:=fun ρ=>av ρ _ tA;have rB:=fun ρ=>av ρ _ tB;have WK:=fun ρ=>av ρ _ Vg;have rB5:=fun ρ=>av ρ _ XO;have rU:=fun ρ=>av ρ _ Pa;have rC:=fun ρ=>av ρ _ Ph;apply aO;simp[hC,P3];refine fB ?_;simp;apply ed;apply aq;simp[hC];refine dz (PF m) hb ?_;simp[hC,PK,VX,az,Zz,UJ];refine T.cut (fun s=>s=⟨(13,I v)::(12,I m)::kz u i pc (iI u i pc (m+1)) B,ky u (iI u i pc (m+1)) B,4⟩) ?_ ?_
   ·apply aq;simp[hC];refine dz t3 hmay ?_;simp;by_cases h1:1<v
    ·rw[if_pos h1] at Uc;rw[Uc];refine T.cond (b:=true) (by simp[ev,assoc,h1]) ?_;simp;apply aV;simp[hC,bA];refine ae.le (Le.norm [13,12,11,10,5,4,3,2] [(3,3),(5,2),(1,1),(0,0)] 0 4 Ql Qk yCs yA) ?_;simp[dj,cc,ca,dR,fF,assoc,rB,WK];apply ae.here;simp[kz,ky,dY,bY,cN,ints,a8,az]
    ·rw[if_neg h1] at Uc;rw[Uc];refine T.cond (b:=false) (by simp[ev,assoc,h1]) (T.skip ?_);simp;refine ae.le (Le.norm [13,12,11,10,5,4,3,2] [(3,3),(2,2),(1,1),(0,0)] 0 4 Ql Qk yCt yA) ?_;simp[dj,cc,ca,dR,fF,assoc,rA,rB];apply ae.here;simp[kz,ky,dY,bY,cN,ints,a8,az]
   ·rintro s rfl;generalize ZU:iI u i pc (m+1)=A2 at *;clear ZT Vg WK tA rA;have tA:=aC A2;have Vg:=tA;have rA:=fun ρ=>av ρ _ tA;have WK:=rA;simp only[kz,ky,dY,bY,cN,ints,a8];apply aq;simp[hC];refine dz t3 Y7 ?_;simp
    cases h1:qx v with
    | true=>
     rw[if_pos h1] at UF;refine T.cond (b:=true) RD ?_;simp;apply aV;simp[hC,bB];apply aV;simp[hC,wm];refine⟨u.ms.length-(m+1),by omega,?_⟩;refine ae.le (Le.norm [12,11,10,5,4,3,2] [(5,3),(2,2),(1,1),(0,0)] 0 4 Ql Qk yCq yA) ?_;simp[dj,cc,ca,dR,fF,assoc,rA,rB5,g8];refine ae.here ⟨m+1,rfl,by omega,?_⟩;rw[UF,ZU];simp[kz,ky,dY,bY,cN,ints,a8,az]
    | false=>
     rw[if_neg (by rw[h1];simp)] at UF;refine T.cond (b:=false) RD (T.skip ?_);simp;apply aV;simp[hC,wm];refine⟨u.ms.length-(m+1),by omega,?_⟩;refine ae.le (Le.norm [12,11,10,5,4,3,2] [(3,3),(2,2),(1,1),(0,0)] 0 4 Ql Qk yCr yA) ?_;simp[dj,cc,ca,dR,fF,assoc,rA,rB,g8];refine ae.here ⟨m+1,rfl,by omega,?_⟩;rw[UF,ZU];simp[kz,ky,dY,bY,cN,ints,a8,az]
  ·have Xa:m=u.ms.length:=by omega
   subst Xa;generalize iI u i pc u.ms.length=A at *;generalize nh u i pc u.ms.length=B at *;have tA:=aC A;have tB:=aC B;apply aO;simp[hC];refine a7 ?_;simp;apply T.exit;simp;apply aq;simp[hC];apply T.ret;refine ae.le (Le.dp (o:=2) rfl tA) ?_;simp[cI tB];refine ae.le (Le.dp (o:=3) rfl tB) ?_;apply ae.here;have Ed:List.take A.length (A.map fun n:Nat=>I n)=A.map fun n:Nat=>I n:=List.take_of_length_le XJ;have htB:List.take B.length (B.map fun n:Nat=>I n)=B.map fun n:Nat=>I n:=List.take_of_length_le XJ;simp[az,Ed,htB]
theorem KX (v:Nat):(((xd v 1:Nat):Int) != 0)=decide (1<v):=by
 have h1:=Ev v;by_cases h2:v≤1
 ·rw[h1.2 h2];simp;omega
 ·have h3:xd v 1≠0:=fun h=>h2 (h1.1 h);have h4:1<v:=by omega
  simp[h3,h4]
def J37 (u:Un)(i pc:Nat)(n:Nat)(k:Nat)(s:St):Prop:=∃ m:Nat,k=n-m∧m≤n∧s=⟨(17,I m)::(16,I n)::kz u i pc (iI u i pc m) (nh u i pc m),ky u (iI u i pc m) (nh u i pc m),4⟩
set_option maxHeartbeats 1000000 in
theorem HP {u:Un}(hu:iy u){i pc:Nat}{x:Is}(hx:(aj u).is[i]? = some x)(mV:pc<(au u x).length):af Tryz.prog 37 [df u,eQ (aj u),I i,I pc] (.dS [az (iI u i pc u.ms.length),az (nh u i pc u.ms.length)]):=by
 have U9:=fun (m:Nat) (xm:Mx) (hm:u.ms[m]? = some xm)=>vf hu hm;have OX:=(List.getElem?_eq_some_iff.1 hx).1;have P2:=hu.nm;have Pa:=aT u;have Ph:=bJ (aj u);have WH:=aC (aj u).roots;have rRo:=fun ρ=>av ρ _ WH;have PF:∀ m:Nat,trees [df u,eQ (aj u),I m]=true:=fun m=>by simp only[trees,tree,df,eQ,aT,bJ,Bool.and_self]
 refine af.aK ai Tryz.func37 rfl OV (by simp[Tryz.ntmps37]) (by simp only[tree,trees,aD,Bool.and_self]) fun C hC O0=>?_;rw[Tryz.ntmps37] at hC;simp only[df,eQ,bY,cN,ints,aF] at Pa Ph PF U9 ⊢;apply aq;simp[hC];apply aq;simp[hC];apply aO;simp[hC];apply T.block;refine T.aH (J37 u i pc u.ms.length) (n:=u.ms.length) ?_ ?_
 ·refine ae.le (Le.own 10 3 1 rfl) ?_;simp[St.own];refine ae.le (Le.own 11 3 1 rfl) ?_;simp[St.own];refine ae.trim [17,16,11,10,5,4,3,2] [3,2,1,0] 4 V9 yA ⟨0,by omega,by omega,?_⟩;simp[kz,ky,dY,bY,cN,ints,a8,iI,nh]
 ·rintro k s ⟨m,rfl,hm,rfl⟩;simp only[kz,ky,dY,bY,cN,ints,a8];have ZS:=vr u i pc m;have hBl:=vl u i pc m;by_cases P3:m<u.ms.length
  ·obtain⟨xm,Wd⟩:∃ xm,u.ms[m]? = some xm:=⟨_,List.getElem?_eq_getElem P3⟩;have hb:=U9 m xm Wd;have V4:=qS (u:=u) (m:=m) (L:=ay xm) hx;have P4:=oq u (aj u) m (ay xm);have TC:=ou u (aj u) m (ay xm) i x;have RA:=qT (u:=u) (c:=aj u) (m:=m) (L:=ay xm) (i:=i) mV;have hv:=GX (i:=i) (pc:=pc) Wd;have TM:vE u i pc m<2 ^ 63:=by rw[hv];exact qz (dD xm) (jk _ _)
   rw[← hv] at RA;have Uc:=xW u i pc m;have UF:=xR u i pc m;generalize wa u (aj u) m (ay xm)=t at *;generalize wg u (aj u) m (ay xm) i x=br at *;generalize vE u i pc m=v at *;have VX:=dX az V4;have Zz:=cZ RA;have UJ:pc<br.length:=by omega
   have PK:i<t.length:=by omega
   have wm:=cC ((m:Int)+1) yA yA;have T2:=qY TM (show 1<2 ^ 63 by decide);have Pq:=KX v;have ZJ:=Jy TM (show 1<2 ^ 63 by decide);generalize iI u i pc m=A at *;generalize nh u i pc m=B at *;have tA:=aC A;have tB:=aC B;have bA:(A.length+1)*8≤140737488355328:=by omega
   have bB:(B.length+1)*8≤140737488355328:=by omega
   have ZT:(A.map fun n:Nat=>I n)++[I m]=(A++[m]).map fun n:Nat=>I n:=by simp
   have hB5:(B.map fun n:Nat=>I n)++[I m]=(B++[m]).map fun n:Nat=>I n:=by simp
   have Vg:=aC (A++[m]);have XO:=aC (B++[m]);rw[← ZT] at Vg;rw[← hB5] at XO;have rA:=fun ρ=>av ρ _ tA;have rB:=fun ρ=>av ρ _ tB;have WK:=fun ρ=>av ρ _ Vg;have rB5:=fun ρ=>av ρ _ XO;have rU:=fun ρ=>av ρ _ Pa;have rC:=fun ρ=>av ρ _ Ph;apply aq;simp[hC,P3];refine T.seq (T.cond (b:=true) rfl (T.skip ?_));simp;apply ed;apply aq;simp[hC];apply aq;simp[hC];refine dz (PF m) hb ?_;simp[hC,PK,VX,az,Zz,UJ];refine T.cut (fun s=>s=⟨(13,I v)::(12,I m)::(17,I m)::(16,I u.ms.length)::kz u i pc (iI u i pc (m+1)) B,ky u (iI u i pc (m+1)) B,4⟩) ?_ ?_
   ·apply aq;simp[hC,T2,Pq];by_cases h1:1<v
    ·rw[if_pos h1] at Uc;rw[Uc];refine T.cond (b:=true) (by simp[ev,assoc,h1]) ?_;simp;apply aV;simp[hC,bA];refine ae.le (Le.norm [13,12,17,16,11,10,5,4,3,2] [(3,3),(5,2),(1,1),(0,0)] 0 4 Ql Qk yCs yA) ?_;simp[dj,cc,ca,dR,fF,assoc,rB,WK];apply ae.here;simp[kz,ky,dY,bY,cN,ints,a8,az]
    ·rw[if_neg h1] at Uc;rw[Uc];refine T.cond (b:=false) (by simp[ev,assoc,h1]) (T.skip ?_);simp;refine ae.le (Le.norm [13,12,17,16,11,10,5,4,3,2] [(3,3),(2,2),(1,1),(0,0)] 0 4 Ql Qk yCt yA) ?_;simp[dj,cc,ca,dR,fF,assoc,rA,rB];apply ae.here;simp[kz,ky,dY,bY,cN,ints,a8,az]
   ·rintro s rfl;generalize ZU:iI u i pc (m+1)=A2 at *;clear ZT Vg WK tA rA;have tA:=aC A2;have Vg:=tA;have rA:=fun ρ=>av ρ _ tA;have WK:=rA;simp only[kz,ky,dY,bY,cN,ints,a8];have hz:((v:Int) % 2 == 0)=decide (v % 2=0):=by
     by_cases h:v % 2=0
     ·have:(v:Int) % 2=0:=by omega
      simp[h,this]
     ·have:¬ (v:Int) % 2=0:=by omega
      simp[h,this]
    refine T.cut (fun s=>s=⟨(43,.bool (qx v))::(13,I v)::(12,I m)::(17,I m)::(16,I u.ms.length)::kz u i pc A2 B,ky u A2 B,4⟩) ?_ ?_
    ·by_cases h0:v=0
     ·subst h0;apply aV;simp[hC];refine ae.trim [43,13,12,17,16,11,10,5,4,3,2] [3,2,1,0] 4 (by simp[-List.all_eq_true,ah Pa,ah Ph,ah tA,ah tB]) yA ?_;simp[kz,ky,dY,bY,cN,ints,a8,qx]
     ·have h0p:0<v:=by omega
      have Ue:qx v=decide (v % 2=0):=by simp[qx,h0p]
      have ZV:((v:Int) != 0)=true:=by simp[h0]
      apply aV;simp[hC,ZV,ZJ,hz];refine ae.trim [43,13,12,17,16,11,10,5,4,3,2] [3,2,1,0] 4 (by simp[-List.all_eq_true,ah Pa,ah Ph,ah tA,ah tB]) yA ?_;simp[kz,ky,dY,bY,cN,ints,a8,Ue]
    rintro s rfl;simp only[kz,ky,dY,bY,cN,ints,a8]
    cases h1:qx v with
    | true=>
     rw[if_pos h1] at UF;refine T.cond (b:=true) RD ?_;simp;apply aV;simp[hC,bB];apply aV;simp[hC,wm];refine⟨u.ms.length-(m+1),by omega,?_⟩;refine ae.le (Le.norm [17,16,11,10,5,4,3,2] [(5,3),(2,2),(1,1),(0,0)] 0 4 Ql Qk yCq yA) ?_;simp[dj,cc,ca,dR,fF,assoc,rA,rB5,g8];refine ae.here ⟨m+1,rfl,by omega,?_⟩;rw[UF,ZU];simp[kz,ky,dY,bY,cN,ints,a8,az]
    | false=>
     rw[if_neg (by rw[h1];simp)] at UF;refine T.cond (b:=false) RD (T.skip ?_);simp;apply aV;simp[hC,wm];refine⟨u.ms.length-(m+1),by omega,?_⟩;refine ae.le (Le.norm [17,16,11,10,5,4,3,2] [(3,3),(2,2),(1,1),(0,0)] 0 4 Ql Qk yCr yA) ?_;simp[dj,cc,ca,dR,fF,assoc,rA,rB,g8];refine ae.here ⟨m+1,rfl,by omega,?_⟩;rw[UF,ZU];simp[kz,ky,dY,bY,cN,ints,a8,az]
  ·have Xa:m=u.ms.length:=by omega
   subst Xa;generalize iI u i pc u.ms.length=A at *;generalize nh u i pc u.ms.length=B at *;have tA:=aC A;have tB:=aC B;apply aq;simp[hC];refine T.seq (T.cond (b:=false) rfl (T.exit ?_));simp;apply aq;simp[hC];apply T.ret;refine ae.le (Le.dp (o:=2) rfl tA) ?_;simp[cI tB];refine ae.le (Le.dp (o:=3) rfl tB) ?_;apply ae.here;have Ed:List.take A.length (A.map fun n:Nat=>I n)=A.map fun n:Nat=>I n:=List.take_of_length_le XJ;have htB:List.take B.length (B.map fun n:Nat=>I n)=B.map fun n:Nat=>I n:=List.take_of_length_le XJ;simp[az,Ed,htB]
theorem KG {u:Un}{i pc n j m:Nat}(h:(iI u i pc n)[j]? = some m):m<n∧1<vE u i pc m:=by
 have hm:=List.mem_of_getElem? h;simp only[iI,List.mem_filter,List.mem_range,decide_eq_true_eq] at hm;exact hm
def J7 (u:Un)(i pc:Nat)(A B:List Nat)(k:Nat)(s:St):Prop:=∃ j:Nat,k=A.length-j∧j≤A.length∧s=⟨[(16,I j),(15,az B),(14,az A),(13,az B),(12,az A),(11,I pc),(10,I i),(9,.ax 2 0),(8,.ax 1 0)],[(2,⟨34,0,cN (aj u)⟩),(1,⟨30,0,bY u⟩)],3⟩
set_option maxRecDepth 100000 in
set_option maxHeartbeats 4000000 in
theorem CO (aw:af Tryz.prog 35 [] (.bool true))(l:List Int)(hl:l.length≤9223372036854775807)(x y:Int):af Tryz.prog 7 [ints l,I x,I y] (.bool true):=by
 have Tq:=JS l hl;have Vl:=AU l;generalize lH (D2 l)=u at Tq Vl;obtain⟨O7,VZ⟩:=ja Vl;obtain⟨i,hi⟩:∃ i:Nat,x % ((aj u).is.length:Int)=(i:Int):=⟨(x % ((aj u).is.length:Int)).toNat,by have:=Int.emod_nonneg x (show ((aj u).is.length:Int)≠0 by omega);omega⟩;have OX:i<(aj u).is.length:=by have:=Int.emod_lt_of_pos x (show (0:Int)<((aj u).is.length:Int) by omega);omega
 obtain⟨is,Wn⟩:∃ is,(aj u).is[i]? = some is:=⟨_,List.getElem?_eq_getElem OX⟩;have hv:=s7 Vl Wn;have Rh:=vT Vl hv;have Vv:=fo Vl is;obtain⟨pc,mV⟩:∃ pc:Nat,y % ((au u is).length:Int)=(pc:Int):=⟨(y % ((au u is).length:Int)).toNat,by have:=Int.emod_nonneg y (show ((au u is).length:Int)≠0 by omega);omega⟩;have PR:pc<(au u is).length:=by have:=Int.emod_lt_of_pos y (show (0:Int)<((au u is).length:Int) by omega);omega
 have hsi:=J3 u Vl (aj u).is yA (.aA ((aj u).calls.map ints) (aj u).calls.length) (az (aj u).roots) x y i hi is Wn hv;rw[mV] at hsi;have hph:=HP Vl Wn PR;have hrh:=Hy Vl Wn PR;have hmy:=fun (m:Nat) (xm:Mx) (hm:u.ms[m]? = some xm)=>Kk Vl hm Wn PR;have hve:=fun (m:Nat) (xm:Mx) (hm:u.ms[m]? = some xm)=>GX (u:=u) (i:=i) (pc:=pc) hm;have P8:=fun (j m:Nat) (h:(iI u i pc u.ms.length)[j]? = some m)=>KG h;have ZS:=vr u i pc u.ms.length;have hBl:=vl u i pc u.ms.length;have P2:=Vl.nm;have Pa:=aT u;have Ph:=bJ (aj u);have t1:trees [ints l]=true:=by simp only[ints,trees,tree,Bool.and_self]
 have t2:trees [df u,eQ (aj u),I x,I y]=true:=by simp only[trees,tree,df,eQ,aT,bJ,Bool.and_self]
 have t3:trees [df u,eQ (aj u),I i,I pc]=true:=by simp only[trees,tree,df,eQ,aT,bJ,Bool.and_self]
 have t4:∀ m:Nat,trees [df u,eQ (aj u),I m,I i,I pc]=true:=fun m=>by simp only[trees,tree,df,eQ,aT,bJ,Bool.and_self]
 refine af.aK ai Tryz.func7 rfl OV (by simp[Tryz.ntmps7]) rfl fun C hC O0=>?_;rw[Tryz.ntmps7] at hC;generalize iI u i pc u.ms.length=A at *;generalize nh u i pc u.ms.length=B at *;have tA:=aC A;have tB:=aC B;have Uc:=kF A A yA;have UF:=kF B B yA;have tAA:trees [az A,az A]=true:=by simp only[trees,aD,Bool.and_self]
 have tBB:trees [az B,az B]=true:=by simp only[trees,aD,Bool.and_self]
 simp only[df,eQ,bY,cN] at hsi hph hrh hmy t2 t3 t4 Pa Ph;apply aq;simp[hC];apply aq;simp[hC];refine dz t1 Tq ?_;simp[hC,xJ,eH,df,bY,eQ,cN];apply aq;simp[hC];refine dz t2 hsi ?_;simp[hC];apply aq;simp[hC];refine dz t3 hph ?_;simp[hC];apply aq;simp[hC];refine dz t3 hrh ?_;simp[hC];apply aO;simp[hC];apply T.block;refine T.aH (J7 u i pc A B) (n:=A.length) ?_ ?_
 ·refine ae.trim [16,15,14,13,12,11,10,9,8] [2,1] 3 XL yA ⟨0,by omega,by omega,?_⟩;simp[bY,cN]
 ·rintro k s ⟨j,rfl,hj,rfl⟩;simp only[bY,cN,ints];by_cases Pn:j<A.length
  ·obtain⟨m,hm⟩:∃ m,A[j]? = some m:=⟨_,List.getElem?_eq_getElem Pn⟩;obtain⟨P3,hmv⟩:=P8 j m hm;obtain⟨xm,Wd⟩:∃ xm,u.ms[m]? = some xm:=⟨_,List.getElem?_eq_getElem P3⟩;have Q8:=hmy m xm Wd;rw[← hve m xm Wd,decide_eq_true hmv] at Q8;have hdm:=cZ hm;have wj:=cC ((j:Int)+1) yA yA;have hml2:(m:Int)<(u.ms.length:Int):=by omega
   have hml3:¬ (u.ms.length:Int)≤(m:Int):=by omega
   have RR:¬ (m:Int)<0:=by omega
   have hml4:¬ u.ms.length≤m:=by omega
   have hnA:az A=CV.aA (A.map fun n:Nat=>I n) A.length:=rfl;simp only[hnA];apply aO;simp[hC,Pn];refine fB ?_;simp;apply ed;refine T.seq (T.rx ai follows [0,1,2,3,4,5,6,7,8,9,10,11,12,13,14,15,16,17,18,19,20,21,22,23,24,25,26] [] OV ?_);simp[hC,Pn,hdm,hml3,RR];refine RX.call rfl rfl rfl rfl rfl (t4 m) Q8 ?_;simp;refine T.cond (b:=false) RD (T.skip ?_);simp;apply aV;simp[hC,wj];refine⟨A.length-(j+1),by omega,ae.trim [16,15,14,13,12,11,10,9,8] [2,1] 3 (by simp[-List.all_eq_true,ah Ph,aW _ _ (aD _)]) yA ⟨j+1,rfl,by omega,?_⟩⟩;simp[bY,cN,ints,hnA]
  ·have Qh:j=A.length:=by omega
   subst Qh;have hnA:az A=CV.aA (A.map fun n:Nat=>I n) A.length:=rfl;simp only[hnA] at Uc tAA ⊢;apply aO;simp[hC];refine a7 ?_;simp;apply T.exit;simp;apply aq;simp[hC];refine dz tAA Uc ?_;simp[hC];refine TL.cm O5 rfl rfl rfl rfl (bN.of rfl tBB UF) (TL.go' ai ?_);simp[hC];refine TL.cm O5 rfl rfl rfl rfl (bN.of rfl rfl aw) (TL.go' ai ?_);simp[hC];apply T.ret;apply ae.here;simp[Tryz.results7]
theorem KP (l:List Int)(x y:Int)(hl:l.length≤9223372036854775807):af Tryz.prog 7 [ints l,I x,I y] (.bool true):=CO Me l hl x y
end Go.Proofs.YtnecpnjdonibmaaGreat
