/- The law EdgeSound, from its awake. -/
import Derived.Test.YtnecpnjdonibmaaGreatZ49
import Derived.Test.YtnecpnjdonibmaaGreatZ48
namespace Go.Proofs.YtnecpnjdonibmaaGreat
open Go.Can Go.aP
theorem Ir {u:Un}(hu:ik u){i:Nat}{x:Is}(hx:(ak u).is[i]? = some x):∃ row:List Int,(ak u).calls[i]? = some row∧row.length=(aq u x).length:=
 ⟨_,(sC hu).row i x (List.getElem?_eq_some_iff.1 hx).1 hx,by rw[u5,List.length_map]⟩
theorem JX {x:Is}{z:In}{m:Nat}(h:qp x z=some m):∃ p,z=.lock false p∧ma x p=m:=by
 cases z with
 | lock un p=>cases un<;>simp[qp] at h;exact⟨p,rfl,h⟩
 | _=>simp[qp] at h
theorem Mh {u:Un}{i pc m h:Nat}{xh:Mx}(hh:u.ms[h]? = some xh)(hp:Ft u i pc m h=true):1<vE u i pc h∧(h=m→0<xh.size):=by
 simp only[Ft,hh] at hp;split at hp
 ·rename_i xh' xm h1 h2;cases h1;simp only[Bool.and_eq_true,Bool.or_eq_true,decide_eq_true_eq,Bool.not_eq_true',decide_eq_false_iff_not] at hp;exact⟨hp.1.1,fun e=>hp.1.2.resolve_left fun f=>f e⟩
 ·cases hp
set_option maxRecDepth 100000 in
set_option maxHeartbeats 4000000 in
theorem y8 (aw:ae Tryz.prog 35 [] (.bool true))(l:List Int)(y:Int)(hl:l.length≤9223372036854775807):ae Tryz.prog 8 [ints l,I y] (.bool true):=by
 have TZ:=I8 l hl;have TY:=zD l;generalize kJ (C2 l)=u at TZ TY;have RY:=El TY;have hRl:=GH TY u.ms.length;have QH:=TY.nm;have hR:∀ e∈vN u u.ms.length,ES u e:=fun e he=>sj.1 he;have PO:=bO u;have PW:=cO (ak u);have t1:trees [ints l]=true:=by simp only[ints,trees,tree,Bool.and_self]
 have t2:trees [ef u,jj (ak u)]=true:=by simp only[trees,tree,ef,jj,bO,cO,Bool.and_self]
 have tR:=aF js (vN u u.ms.length);have hmy:=fun (i pc m:Nat) (x:Is) (xm:Mx) (hm:u.ms[m]? = some xm) (hx:(ak u).is[i]? = some x) (jN:pc<(aq u x).length)=>JA TY hm hx jN;have t4:∀ i pc m:Nat,trees [ef u,jj (ak u),I m,I i,I pc]=true:=fun i pc m=>by simp only[trees,tree,ef,jj,bO,cO,Bool.and_self]
 refine ae.aM ah Tryz.func8 rfl PH (by simp[Tryz.ntmps8]) rfl fun C hC PN=>?_;rw[Tryz.ntmps8] at hC;simp only[HY] at RY;generalize vN u u.ms.length=R at *;simp only[ef,jj,dh,fp] at RY t2 PO PW hmy t4;apply aj;simp[hC];apply aj;simp[hC];refine dQ t1 TZ ?_;simp[hC,vS,dU,ef,dh,jj,fp];apply aj;simp[hC];refine dQ t2 RY ?_;simp[hC];apply aU;simp[hC];by_cases h0:R=[]
 ·subst h0;refine T.cond (b:=true) RN ?_;simp;apply aj;simp;refine dQ rfl aw ?_;simp[hC];apply T.ret;apply aa.here;simp[Tryz.results8]
 have h1:0<R.length:=List.length_pos_iff.2 h0;obtain⟨k,hk⟩:∃ k:Nat,y % (R.length:Int)=(k:Int):=⟨(y % (R.length:Int)).toNat,by have:=Int.emod_nonneg y (show (R.length:Int)≠0 by omega);omega⟩;have Qh:k<R.length:=by have:=Int.emod_lt_of_pos y (show (0:Int)<(R.length:Int) by omega);omega
 obtain⟨e,he⟩:∃ e,R[k]? = some e:=⟨_,List.getElem?_eq_getElem Qh⟩;obtain⟨x,z,hx,hz,Ty,hh,UT⟩:=hR e (List.mem_of_getElem? he);have hde:=aO (f:=yj) (n:=4) yi he;obtain⟨h,m,i,pc⟩:=e;simp only at hx hz Ty hh UT;obtain⟨p,rfl,WA⟩:=JX Ty;obtain⟨xh,Ti⟩:∃ xh,u.ms[h]? = some xh:=⟨_,List.getElem?_eq_getElem hh⟩;obtain⟨Xw,V3⟩:=Mh Ti UT;have hwi:=vr y R.length yA yA;rw[hk] at hwi;have PJ:=(List.getElem?_eq_some_iff.1 hx).1;have Qy:=(List.getElem?_eq_some_iff.1 hz).1;obtain⟨row,Wu,Uj⟩:=Ir TY hx;have ZZ:=(List.getElem?_eq_some_iff.1 Wu).1;have PL:=fA ints Wu;have TJ:pc<row.length:=by rw[Uj];exact Qy
 have hv:=uE TY hx;obtain⟨pq,Qe,PK⟩:=jZ hv;have RR:=(List.getElem?_eq_some_iff.1 Qe).1;have Qt:=hz;rw[PK] at Qt;have Qx:=(List.getElem?_eq_some_iff.1 Qt).1;have R8:=aO (f:=df) (n:=2) fk hx;have Ur:=bS (f:=nD) (n:=5) gD Qe 4 yA;have QL:=aO (f:=dd) (n:=12) fo Qt;have hdh:=bS (f:=eL) (n:=3) (fun _=>rfl) Ti 2 yA;have hm5:=hmy i pc h x xh Ti hx Qy;have hv3:=FZ (i:=i) (pc:=pc) Ti;rw[← hv3,decide_eq_true Xw] at hm5;obtain⟨_,_,_,Sc,UH⟩:=lh TY hv hz;have hq:p.param=true→p.index<x.bx.length:=fun h=>by
  rw[Sc];rcases (UH:Fl _ _ _ _ p) with h6 | h6
  ·exact h6.2.1
  ·rw[h] at h6;cases h6.1
 have QY:=vJ x p hq;rw[WA] at QY;have tp:trees [.agg (df x),.agg (l9 p)]=true:=by
  rw[show trees [.agg (df x),.agg (l9 p)]=(trees (df x) && (trees (l9 p) && true)) from rfl,bV,gW];rfl
 have Q4:=kS (.lock false p);have R9:=eE (.lock false p);obtain⟨xc,QJ,QF⟩:=ku (.lock false p);obtain⟨c1,c2,c3,c4,c5,c6,c7,c8,c9,VY,VX,rfl⟩:=wy QF;rw[QJ] at QL Q4 R9;have hp:l9 p=[c7,c8,c9]:=by
  have h:=congrArg (fun l=>(l.drop 7).take 3) QJ
  simpa [dd,bK,l9] using h
 rw[hp] at QY tp;simp only[List.all_cons,List.all_nil,Bool.and_true,Bool.and_eq_true] at Q4;obtain⟨_,o1,o2,o3,o4,o5,o6,o7,o8,o9,W2,W1⟩:=Q4;have Wd:¬ ((i:Int)<0):=by omega
 have ZD:¬ ((pc:Int)<0):=by omega
 have Qm:¬ ((ak u).is.length≤i):=by omega
 have V7:¬ (row.length≤pc):=by omega
 have Vy:((R.length:Int) == 0)=false:=by rw[beq_eq_false_iff_ne];omega
 have tw:trees [I y,I (R.length:Int)]=true:=rfl;simp only[df] at R8 QY tp;refine T.cond (b:=false) (by simp[ev,assoc,h0]) (T.skip ?_);simp;apply aj;simp[hC];refine dQ tw hwi ?_;simp[hC,Qh,hde,yj];refine T.le (Le.trim [9,7,6] [3,2,1] 4 (by simp[-List.all_eq_true,-List.all_flatMap,af PO,af PW]) yA) ?_;simp;refine T.seq (T.seq (T.rx ah follows [0,1,2,3,4,5,6,7,8,9,10,11,12,13,14,15,16,17,18,19,20,21,22,23,24,25,26,27] [] PH ?_));simp[hC,ZZ,PL,ints,Wd,ZD,Qm,V7];refine T.cond (b:=false) RN (T.skip ?_);simp;refine T.seq (T.rx ah follows [0,1,2,3,4,5,6,7,8,9,10,11,12,13,14,15,16,17] [(1,16),(3,16),(5,16),(8,16),(11,16),(13,16),(15,16)] PH ?_);simp[hC,PJ,R8,RR,Ur,nD,Qx,QL];refine T.le (Le.trim [10,9,7,6] [48,3,2,1] 50 (by simp[-List.all_eq_true,-List.all_flatMap,af PW,af R9]) yA) ?_;simp;refine T.seq (T.rx ah follows [0,1,2,3,4,5,6,7,8,9,10,11,13,14,12,15,16,17,18,19,20,21,22,23,24,25,26,27,28,29,30,31,32,33,34,35,36,37,38,39,40,41,42,43,44,45,46,47,48] [(14,12)] PH ?_);simp[hC,PJ,R8,show qj (.lock false p)=4 from rfl];refine RX.call rfl zX rfl rfl rfl tp QY ?_;simp;refine RX.call rfl zX rfl rfl rfl (t4 i pc h) hm5 ?_;by_cases hm:h=m
 ·have hs:=V3 hm;subst hm;simp[hh,hdh,eL,hs];refine RX.call rfl zX rfl rfl rfl rfl aw ?_;simp;apply T.ret;apply aa.here;simp[Tryz.results8]
 ·have P3:((h:Int) != (m:Int))=true:=by rw[bne_iff_ne];omega
  simp[P3];refine RX.call rfl zX rfl rfl rfl rfl aw ?_;simp;apply T.ret;apply aa.here;simp[Tryz.results8]
theorem Gk (l:List Int)(y:Int)(hl:l.length≤9223372036854775807):ae Tryz.prog 8 [ints l,I y] (.bool true):=y8 LB l y hl
end Go.Proofs.YtnecpnjdonibmaaGreat
