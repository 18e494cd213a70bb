/- ends and Replay of the reference. -/
import Derived.Test.YtlkmbdfhdknlgaaGreatDoorZ39
namespace Go.Proofs.YtlkmbdfhdknlgaaGreatDoor
open Go.Can Go.aT
theorem GI (l:List Nat)(x:Int):oP l x=(decide (0≤x) && decide (x.toNat∈l)):=by
 rw[Bool.eq_iff_iff,va];simp
theorem GJ (x:Int):oP [0] x=decide (x=0):=by
 rw[Bool.eq_iff_iff,va];simp;omega
def pw (r:Ru)(inst pc:Int)(ws:List Nat):Bool:=r.dU && decide (r.inst=inst) && oP ws pc
theorem xA {u:Un}{c:Cl}{l:List Ru}{inst pc:Int}{f k:Nat}{r:Ru}(hr:l[k]? = some r)(h:r.items=[]):kD u c l inst pc (f+1) k=pw r inst pc [0]:=by
 simp[kD,hr,h,pw,GJ]
theorem Ab {u:Un}{c:Cl}{l:List Ru}{inst pc:Int}{f k:Nat}{r q:Ru}{it:It}{rn:Nat}(hr:l[k]? = some r)(h:r.items.getLast? = some it)(hn:it.o0=rn)(hq:l[rn]? = some q)(ho:q.dU=true):kD u c l inst pc (f+1) k=kD u c l inst pc f rn:=by
 simp[kD,hr,h,hn,hq,ho]
theorem Aa {u:Un}{c:Cl}{l:List Ru}{inst pc:Int}{f k:Nat}{r:Ru}{it:It}{z:In}(hr:l[k]? = some r)(h:r.items.getLast? = some it)(hn:¬ (0≤it.o0∧(l[it.o0.toNat]?).any (·.dU)=true))(hz:fS u (Du c r.inst) it.pc=some z):kD u c l inst pc (f+1) k=pw r inst pc (qp z it.pc.toNat):=by
 rw[kD,hr];simp only[h];rw[if_neg hn,hz,pw,GI]
set_option maxRecDepth 100000 in
set_option maxHeartbeats 4000000 in
theorem yM {u:Un}(hu:jP u)(l:List Ru)(_hl:l.length≤1000)(hR:∀ k r,l[k]? = some r→cO u (av u) l k r=true)(hB:∀ r∈l,r.items.length≤1000)(inst pc:Int)(f k:Nat)(ZJ:k<f+1)(Ke:k<l.length)
  (ih:∀ k,k<f→k<l.length→ae Tryz.prog 35 [dt u,ja (av u),ct l,I k,I inst,I pc] (.bool (kD u (av u) l inst pc f k))):ae Tryz.prog 35 [dt u,ja (av u),ct l,I k,I inst,I pc] (.bool (kD u (av u) l inst pc (f+1) k)):=by
 have Kd:=bB u;have KN:=cM (av u);have KE:=du l;obtain⟨r,hr⟩:∃ r,l[k]? = some r:=⟨_,List.getElem?_eq_getElem Ke⟩;have oy:=az (f:=cZ) (n:=3) cj hr;have R5:=hB r (List.mem_of_getElem? hr);obtain⟨ii,y,KC,hy,QU,LO⟩:=lY (hR k r hr);have Kq:=od _ _ LO;have Nm:=rS hu hy;have NY:=(List.getElem?_eq_some_iff.1 hy).1;have MF:=az (f:=cP) (n:=2) dV hy;refine ae.aD af Tryz.func35 rfl lz (by simp[Tryz.ntmps35]) rfl fun C hC xJ=>?_;rw[Tryz.ntmps35] at hC;simp only[dj,fe,ints] at Kd KN;simp only[dt,ja,dj,fe,ints,ct] at ih ⊢;apply ah;simp[hC];apply ah;simp[hC,Ke,oy,cZ,eU,KC];apply ah;simp[hC];refine T.le (Le.dC (o:=3) rfl rfl) ?_;simp[mc];refine T.cut (fun s=>∃ ws:List Nat,ws.length≤2∧kD u (av u) l inst pc (f+1) k=pw r inst pc ws∧s=⟨[(14,aN ws),(13,.ai 2 0),(4,I inst),(5,I pc)],[(2,⟨55,0,[I ii,.bool r.dU,.au (r.items.flatMap kY) r.items.length]⟩)],3⟩) ?_ ?_
 ·by_cases h0:r.items.length=0
  ·have L4:=List.eq_nil_of_length_eq_zero h0;apply ah;simp[hC,h0];apply ah;simp[hC];refine dg ?_;simp;refine aa.trim [14,13,4,5] [2] 3 LR yA ⟨[0],by simp,xA hr L4,?_⟩;simp[aN]
  ·obtain⟨it,Fl⟩:∃ it,r.items[r.items.length-1]? = some it:=⟨_,List.getElem?_eq_getElem yA⟩;have OV:r.items.getLast? = some it:=by rw[List.getLast?_eq_getElem?,Fl]
   obtain⟨z,Pa,Nw,hz,Lc⟩:=Kq it (List.mem_of_getElem? Fl);have ND:=az (f:=kY) (n:=2) iq Fl;have OC:=gX hu y;have Qh:=(List.getElem?_eq_some_iff.1 hz).1;have Nv:(0:Int)<r.items.length:=by omega
   obtain⟨n1,KG⟩:∃ n1,r.items.length=n1+1:=⟨r.items.length-1,by omega⟩;have wn:IntKind.i64.wrap ((n1:Int)+1-1)=n1:=by rw[Int.add_sub_cancel];exact cm _ yA yA
   have Na:IntKind.i64.wrap (n1:Int)=n1:=cm _ yA yA;rw[KG,Nat.add_sub_cancel] at ND;have MC:n1<r.items.length:=by omega
   have Ky:(n1:Int)<n1+1:=by omega
   apply ah;simp[hC,KG];apply ah;simp[hC];refine T.cond (b:=true) (by first | rfl | (simp[ev,assoc];omega)) ?_;simp;apply ah;simp[hC,Ky,ND,kY,Na];obtain⟨p,rl⟩:=it;obtain⟨pn,rfl⟩:∃ pn:Nat,p=pn:=⟨p.toNat,by simp only at Nw;omega⟩;simp only[Int.toNat_natCast] at hz Pa Lc Qh;refine T.cut (fun s=>¬ (0≤rl∧(l[rl.toNat]?).any (·.dU)=true)∧s=⟨[(16,.ai 4 0),(14,aN [0]),(13,.ai 2 0),(7,.ai 1 0),(6,.ai 0 0),(4,I inst),(5,I pc)],[(4,⟨77,0,[I pn,I rl]⟩),(2,⟨55,0,[I ii,.bool r.dU,.au (r.items.flatMap kY) (n1+1)]⟩),(1,⟨34,0,[.au ((av u).is.flatMap cP) (av u).is.length,.au ((av u).calls.map ints) (av u).calls.length,aN (av u).roots]⟩),(0,⟨30,0,[.au (u.gs.map fun n=>I n) u.gs.length,.au (u.ms.flatMap eQ) u.ms.length,.au (u.ps.flatMap kR) u.ps.length,I u.main]⟩)],5⟩) ?_ ?_
   ·rcases Lc with rfl | Lc
    ·apply ah;simp[hC];refine dg ?_;simp;refine aa.trim [16,14,13,7,6,4,5] [4,2,1,0] 5 Qw yA ?_;simp[aN]
    ·obtain⟨rn,rfl⟩:∃ rn:Nat,rl=rn:=⟨rl.toNat,by omega⟩;obtain⟨q,hq⟩:∃ q,l[rn]? = some q:=⟨_,List.getElem?_eq_getElem yA⟩;have LK:=(List.getElem?_eq_some_iff.1 hq).1;have LP:=bb (f:=cZ) (n:=3) cj hq 1 yA;have MK:(0:Int)≤rn:=by omega
     cases ho:q.dU with
     | true=>
      have ZM:=ih rn yA LK;have XD:trees [dt u,ja (av u),ct l,I (rn:Int),I inst,I pc]=true:=by simp only[trees,tree,dt,ja,bB,cM,iC,Bool.and_self]
      simp only[dt,ja,dj,fe,ints,ct] at XD;apply ah;simp[hC,LK,LP,cZ,ho];refine cz ?_;simp;apply ah;simp[hC];refine dk XD ZM ?_;simp[hC];apply T.ret;apply aa.here;simp[Tryz.results35,Ab hr OV rfl hq ho]
     | false=>
      apply ah;simp[hC,LK,LP,cZ,ho];refine dg ?_;simp;refine aa.trim [16,14,13,7,6,4,5] [4,2,1,0] 5 Qw yA ?_;simp[aN,(List.getElem?_eq_some_iff.1 hq).2,ho]
   ·rintro s ⟨KD,rfl⟩;have KB:=wu hu Nm hz yA;have ti:=bL y;have Nl:trees [dt u,.agg (cP y),I (pn:Int)]=true:=by simp only[trees,tree,dt,bB,ti,Bool.and_self]
    have ME:=Aa (u:=u) (c:=av u) (inst:=inst) (pc:=pc) (f:=f) hr OV KD (by rw[QU];exact Pa);simp only[dt,dj,cP,ints] at KB Nl;refine T.rx af follows [0,1,2,3,4,5,6,7,8,9,10] [] lz ?_;simp[hC,NY,MF,cP];refine RX.call rfl j5 rfl rfl rfl Nl KB ?_;simp;refine aa.trim [14,13,4,5] [2] 3 (by simp[-List.all_eq_true,-List.all_flatMap,bq _ _ (aP _)]) yA ⟨qp z pn,qo z pn,by simpa using ME,?_⟩;simp
 ·rintro s ⟨ws,QV,hv,rfl⟩;have LF:=qV ws pc yA;have Sr:trees [aN ws,I pc]=true:=by simp only[trees,aP,Bool.true_and];rfl
  rw[hv]
  cases ho:r.dU with
  | false=>
   apply ah;simp[hC];apply T.ret;apply aa.here;simp[Tryz.results35,pw,ho]
  | true=>
   by_cases hi:r.inst=inst
   ·have KK:(ii:Int)=inst:=by omega
    subst KK;apply ah;simp[hC];refine TL.bG yI rfl rfl rfl rfl (bm.of rfl Sr LF) (TL.go' af ?_);simp[hC];apply T.ret;apply aa.here;simp[Tryz.results35,pw,ho,hi]
   ·have KK:((ii:Int) == inst)=false:=by rw[beq_eq_false_iff_ne];omega
    apply ah;simp[hC,KK];apply T.ret;apply aa.here;simp[Tryz.results35,pw,ho,hi]
theorem wx {u:Un}(hu:jP u)(l:List Ru)(hl:l.length≤1000)(hR:∀ k r,l[k]? = some r→cO u (av u) l k r=true)(hB:∀ r∈l,r.items.length≤1000)(inst pc:Int):∀ f k,k<f→k<l.length→ae Tryz.prog 35 [dt u,ja (av u),ct l,I k,I inst,I pc] (.bool (kD u (av u) l inst pc f k))
 | 0,_,h,_=>absurd h (Nat.not_lt_zero _)
 | f+1,k,h,h2=>yM hu l hl hR hB inst pc f k h h2 (wx hu l hl hR hB inst pc f)
theorem tZ {u:Un}{c:Cl}{l:List Ru}{m:Nat}:∀ (rest:List Ru) (out:List Et),rest=l.drop out.length→(fX u c l m rest out).2.2=0→(fX u c l m rest out).2.1=out.length+rest.length∧(fX u c l m rest out).1.length=out.length+rest.length∧∀ k r,out.length≤k→l[k]? = some r→cO u c l k r=true
 | [],out,hr,_=>by
  refine⟨by simp[fX],by simp[fX],fun k r hk h=>?_⟩;have h1:=(List.getElem?_eq_some_iff.1 h).1;have h2:=List.drop_eq_nil_iff.1 hr.symm;omega
 | a::t,out,hr,h=>by
  rw[fX] at h ⊢;split at h
  ·rename_i X2;have ht:t=l.drop (out++[Bv u c m out a]).length:=by
    rw[List.length_append,List.length_singleton,← List.drop_drop,← hr];rfl
   obtain⟨h1,h2,h3⟩:=tZ t _ ht h;rw[if_pos X2];refine⟨by rw[h1];simp;omega,by rw[h2];simp;omega,fun k r hk MX=>?_⟩;by_cases he:out.length=k
   ·subst he;have:l[out.length]? = some a:=by rw[← List.head?_drop,← hr];rfl
    rw[this] at MX;cases MX;exact X2
   ·exact h3 k r Lv MX
  ·cases h
def oF (u:Un)(x:Ce)(r:Ru):Bool:=if x.pc=-1 then r.dU || decide (r.inst≠x.inst) else !kD u (av u) x.rules x.inst x.pc x.rules.length (x.rules.length-1)
def Iz (u:Un)(m:Int):Nat:=match u.ms[m.toNat]? with
 | some xm=>kk xm
 | none=>0
def qJ (u:Un)(x:Ce):Bool:=!nk ((dM u x).1.getD (x.rules.length-1) sO) 0 (Iz u x.lock) || decide (((dM u x).1.getD (x.rules.length-1) sO).gm≠x.depth)
def jZ (u:Un)(x:Ce):Nat×Int:=
 if (dM u x).2.2≠0 then (dM u x).2 else match x.rules.getLast? with
  | none=>(0,10)
  | some r=>if oP (av u).roots r.inst=false then (x.rules.length,10) else if oF u x r=true then (x.rules.length,10) else if qJ u x=true then (x.rules.length,12) else (x.rules.length,0)
theorem xB {u:Un}{x:Ce}(h:(dM u x).2.2=0):(∃ m xm,x.lock=(m:Nat)∧u.ms[m]? = some xm∧dM u x=fX u (av u) x.rules m x.rules []∧Iz u x.lock=kk xm)∧(dM u x).2.1=x.rules.length∧(dM u x).1.length=x.rules.length∧∀ k r,x.rules[k]? = some r→cO u (av u) x.rules k r=true:=by
 unfold dM at h ⊢;split at h
 ·cases h
 ·rename_i hb;rw[if_neg hb];obtain⟨m,hm⟩:∃ m:Nat,x.lock=m:=⟨x.lock.toNat,by omega⟩;obtain⟨xm,hx⟩:∃ xm,u.ms[m]? = some xm:=⟨_,List.getElem?_eq_getElem yA⟩;obtain⟨h1,h2,h3⟩:=tZ _ _ j5 h;refine⟨⟨m,xm,hm,hx,by rw[hm,Int.toNat_natCast],by simp[Iz,hm,hx]⟩,by simpa using h1,by simpa using h2,fun k r hk=>h3 k r j5 hk⟩
set_option maxRecDepth 100000 in
set_option maxHeartbeats 4000000 in
theorem yJ {u:Un}(hu:jP u)(x:Ce)(hb:IN x):ae Tryz.prog 11 [dt u,ja (av u),oD x] (.db [I (jZ u x).1,I (jZ u x).2]):=by
 have Kd:=bB u;have KN:=cM (av u);have KE:=du x.rules;have N9:=wz hu x hb;have OP:trees [dt u,ja (av u),oD x]=true:=by simp only[trees,tree,dt,ja,oD,bB,cM,iB,Bool.and_self]
 have PW:=An hu;obtain⟨K1,K0⟩:=hb;refine ae.aD af Tryz.func11 rfl lz (by simp[Tryz.ntmps11]) rfl fun C hC xJ=>?_;rw[Tryz.ntmps11] at hC;simp only[dj,fe,ints] at Kd KN;simp only[dt,ja,dj,fe,ints,oD,qz,ct] at N9 OP ⊢;apply ah;simp[hC];apply ah;simp[hC];refine dk OP N9 ?_;simp[hC];apply aL;simp[hC];by_cases he:(dM u x).2.2=0
 case neg=>
  have PD:((dM u x).2.2 != 0)=true:=by simpa using he
  have hv:jZ u x=(dM u x).2:=by rw[jZ,if_pos he]
  refine T.cond (b:=true) (by simp[ev,assoc,PD]) ?_;simp;apply ah;simp[hC];apply T.ret;apply aa.here;simp[Tryz.results11,hv]
 have PD:((dM u x).2.2 != 0)=false:=by simpa using he
 obtain⟨⟨m,xm,hm,SJ,hEq,WR⟩,hn,Ki,hR⟩:=xB he;refine T.cond (b:=false) (by simp[ev,assoc,PD]) (T.skip ?_);simp;have MV:=(List.getElem?_eq_some_iff.1 SJ).1;have WH:=az (f:=eQ) (n:=3) C9 SJ;have PI:=Ff xm;have O7:trees [.agg (eQ xm)]=true:=rfl;have Km:qJ u x=(!nk ((dM u x).1.getD (x.rules.length-1) sO) 0 (kk xm) || decide (((dM u x).1.getD (x.rules.length-1) sO).gm≠x.depth)):=by rw[qJ,WR]
 rw[hn];obtain⟨es,Rv⟩:∃ es,(dM u x).1=es:=⟨_,rfl⟩;rw[Rv] at Ki Km ⊢;by_cases h0:x.rules.length=0
 ·have L4:=List.eq_nil_of_length_eq_zero h0;have hv:jZ u x=(0,10):=by rw[jZ,if_neg (by simp[he]),L4];rfl
  refine T.seq (T.seq ?_);refine T.rx af follows [0,1,2,3,4,5,6,7,8,9,10,11,12,13,14] [] lz ?_;simp[hC,h0];refine cz ?_;simp;apply ah;simp[hC];apply T.ret;apply aa.here;simp[Tryz.results11,hv]
 obtain⟨n1,KG⟩:∃ n1,x.rules.length=n1+1:=⟨x.rules.length-1,by omega⟩;obtain⟨r,hr⟩:∃ r,x.rules[n1]? = some r:=⟨_,List.getElem?_eq_getElem yA⟩;have OV:x.rules.getLast? = some r:=by rw[List.getLast?_eq_getElem?,KG,Nat.add_sub_cancel,hr]
 have hv:jZ u x=if oP (av u).roots r.inst=false then (x.rules.length,10) else if oF u x r=true then (x.rules.length,10) else if qJ u x=true then (x.rules.length,12) else (x.rules.length,0):=by rw[jZ,if_neg (by simp[he]),OV]
 obtain⟨e,Qm⟩:∃ e,es[n1]? = some e:=⟨_,List.getElem?_eq_getElem yA⟩;have L6:es.getD (x.rules.length-1) sO=e:=by rw[KG,Nat.add_sub_cancel,List.getD_eq_getElem?_getD,Qm];rfl
 rw[L6] at Km;have oy:=az (f:=cZ) (n:=3) cj hr;have UJ:=az (f:=dD) (n:=3) fW Qm;have OJ:=bb (f:=dD) (n:=3) fW Qm 2 yA;have MC:n1<x.rules.length:=by omega
 have Ky:(n1:Int)<n1+1:=by omega
 have MB:((n1:Int)+1 == 0)=false:=by rw[beq_eq_false_iff_ne];omega
 have Na:IntKind.i64.wrap (n1:Int)=n1:=cm _ yA yA;have LF:=qV (av u).roots r.inst yA;have NL:trees [aN (av u).roots,I r.inst]=true:=by simp only[trees,aP,Bool.true_and];rfl
 refine T.seq (T.seq ?_);refine T.rx af follows [0,1,2,3,4,5,6,7,8,9,10,11,12,13,14] [] lz ?_;simp[hC,KG,Ky,MB,oy,cZ,eU,Na];refine RX.call rfl j5 rfl rfl rfl NL LF ?_
 cases Py:oP (av u).roots r.inst with
 | false=>
  rw[if_pos Py] at hv;simp;refine cz ?_;simp;apply ah;simp[hC];apply T.ret;apply aa.here;simp[Tryz.results11,hv,KG]
 | true=>
  rw[if_neg (by simp[Py])] at hv;simp;refine dg ?_;simp;apply ah;simp[hC,Ky,oy,cZ,eU,Na];apply T.seq;refine T.cut (fun s=>s=⟨[(78,.bool (oF u x r)),(9,I (n1+1)),(8,jJ es),(5,.ai 2 0),(4,.ai 1 0),(3,.ai 0 0)],[(2,⟨39,0,[I x.lock,I x.inst,I x.pc,I x.depth,.au (x.rules.flatMap cZ) (n1+1)]⟩),(1,⟨34,0,[.au ((av u).is.flatMap cP) (av u).is.length,.au ((av u).calls.map ints) (av u).calls.length,aN (av u).roots]⟩),(0,⟨30,0,[.au (u.gs.map fun n=>I n) u.gs.length,.au (u.ms.flatMap eQ) u.ms.length,.au (u.ps.flatMap kR) u.ps.length,I u.main]⟩)],3⟩) ?_ ?_
  ·by_cases kp:x.pc=-1
   ·have MG:oF u x r=(r.dU || decide (r.inst≠x.inst)):=by rw[oF,if_pos kp]
    have h1:(x.pc == -1)=true:=by simpa using kp
    have h2:(x.pc != -1)=false:=by simpa using kp
    cases ho:r.dU with
    | true=>
     apply a8;simp[hC,h1];refine aa.trim [78,9,8,5,4,3] [2,1,0] 3 RT yA ?_;simp[MG,ho]
    | false=>
     by_cases KC:r.inst=x.inst
     ·have h3:(r.inst != x.inst)=false:=by simpa using KC
      apply a8;simp[hC,h1,h2,h3];refine aa.trim [78,9,8,5,4,3] [2,1,0] 3 RT yA ?_;simp[MG,ho,KC]
     ·have h3:(r.inst != x.inst)=true:=by simpa using KC
      apply a8;simp[hC,h1,h3];refine aa.trim [78,9,8,5,4,3] [2,1,0] 3 RT yA ?_;simp[MG,ho,KC]
   ·have MG:oF u x r=!kD u (av u) x.rules x.inst x.pc (n1+1) n1:=by rw[oF,if_neg kp,KG,Nat.add_sub_cancel]
    have h1:(x.pc == -1)=false:=by simpa using kp
    have h2:(x.pc != -1)=true:=by simpa using kp
    have PC:=wx hu x.rules K1 hR K0 x.inst x.pc (n1+1) n1 yA MC;have Sz:trees [dt u,ja (av u),ct x.rules,I (n1:Int),I x.inst,I x.pc]=true:=by simp only[trees,tree,dt,ja,bB,cM,iC,Bool.and_self]
    simp only[dt,ja,dj,fe,ints,ct,KG] at PC Sz;apply a8;simp[hC,h1,h2,Na];refine TL.bG yI rfl rfl rfl rfl (bm.of rfl Sz PC) (TL.go' af ?_);simp[hC];refine aa.trim [78,9,8,5,4,3] [2,1,0] 3 RT yA ?_;simp[MG]
  rintro s rfl
  cases MG:oF u x r with
  | true=>
   rw[if_pos MG] at hv;refine cz ?_;simp;apply ah;simp[hC];apply T.ret;apply aa.here;simp[Tryz.results11,hv,KG]
  | false=>
   rw[if_neg (by simp[MG])] at hv;refine dg ?_;simp;have QJ:=CF e (kk xm) (At xm);have Sx:trees [.agg (dD e),I 0,I (kk xm:Int)]=true:=rfl;have N8:es.length=n1+1:=by omega
   simp only[eQ] at PI O7;simp only[dD] at QJ Sx;refine T.seq (T.seq ?_);refine T.rx af follows [0,1,2,3,4,5,6,7,8,9,10,11,12,13,14,15,16,17,18,19,20,21,22,23,24] [(4,11)] lz ?_;simp[hC,Na,jJ,N8,Ky,UJ,dD,hm,MV,WH,eQ];refine RX.call rfl j5 rfl rfl rfl O7 PI ?_;simp;refine RX.call rfl j5 rfl rfl rfl Sx QJ ?_
   cases Rp:nk e 0 (kk xm) with
   | false=>
    rw[if_pos (by rw[Km,Rp];rfl)] at hv;simp;refine cz ?_;simp;apply ah;simp[hC];apply T.ret;apply aa.here;simp[Tryz.results11,hv,KG]
   | true=>
    by_cases LC:e.gm=x.depth
    ·have h3:(e.gm != x.depth)=false:=by simpa using LC
     rw[if_neg (by rw[Km,Rp];simp[LC])] at hv;simp[Na,Ky,OJ,dD,h3];refine dg ?_;simp;apply ah;simp[hC];apply T.ret;apply aa.here;simp[Tryz.results11,hv,KG]
    ·have h3:(e.gm != x.depth)=true:=by simpa using LC
     rw[if_pos (by rw[Km,Rp];simp[LC])] at hv;simp[Na,Ky,OJ,dD,h3];refine cz ?_;simp;apply ah;simp[hC];apply T.ret;apply aa.here;simp[Tryz.results11,hv,KG]
end Go.Proofs.YtlkmbdfhdknlgaaGreatDoor
