/- The program's machine: the -/
import Derived.Test.YtlkmbdfhdknlgaaGreatZ38
namespace Go.Proofs.YtlkmbdfhdknlgaaGreat
open Go.Can Go.aJ List Tryz
theorem tu {α:Type}(f:α->List CV){l:List α}{i:Nat}{x:α}(h:l[i]? = some x):(l.take i).flatMap f++f x=(l.take (i+1)).flatMap f:=by
 rw[take_add_one,h,flatMap_append];simp
def J77n (e:Ex)(n:Nat)(s:St):Prop:=∃ i:Nat,n=e.args.length-i/\i<=e.args.length/\
 s=⟨[(11,I i),(10,I e.args.length),(9,.ax (e.args.flatMap bf) e.args.length),(2,.aw 1 0),(1,.aw 0 0)],[(2,⟨85,4,(e.args.take i).flatMap bf⟩),(1,⟨85,0,[I 0,I 0,.str eS,.aj]⟩),(0,⟨85,0,[I e.op,I e.n,.str e.name,.bb 2 0 i]⟩)],3⟩
theorem Ex.Ls (e:Ex):e.args.length<=2:=by cases e<;>simp[Ex.args]
set_option maxHeartbeats 2000000 in
theorem J5 (e:Ex)(ih:∀ a∈e.args,ae prog 75 [.agg (bf a)] (.agg (bf a))):ae prog 75 [.agg (bf e)] (.agg (bf e)):=by
 have hlen:=Ex.Ls e;have tA:trees (e.args.flatMap bf)=true:=ak aL _;have Sa:tree (.agg (bf e))=true:=by simp only[tree,aL]
 refine ae.aE ah Tryz.func75 rfl Ix (by simp[Tryz.ntmps75]) Sa λ C hC RR=>?_;rw[Tryz.ntmps75] at hC;rw[bW e];apply aq;simp[hC];apply aq;simp[hC];apply aq;simp[hC];apply aW;simp[hC];apply T.block;refine T.aH (J77n e) (n:=e.args.length) ?_ ?_
 ·refine aa.le (Le.nk 0 3 85 4 rfl rfl) ?_;simp;refine aa.trim [11,10,9,2,1] [2,1,0] 3 VA yA ⟨0,by omega,by omega,?_⟩;simp[eS]
 ·rintro n s ⟨i,rfl,hi,rfl⟩;by_cases Og:i<e.args.length
  ·obtain⟨a,W6⟩:∃ a,e.args[i]? = some a:=⟨_,getElem?_eq_getElem Og⟩;have Xw:=ih a (mem_of_getElem? W6);have RQ:trees [.agg (bf a)]=true:=by simp only[trees,tree,aL,Bool.and_self]
   have Xk:=aI (f:=bf) (n:=4) bA W6;have XT:=aC bA (e.args.take i);have R3:=tu bf W6;have wi:=cF ((i:Int)+1) yA yA;obtain⟨a1,a2,a3,a4,a5,W4,tea⟩:=fQ a;rw[W4] at Xk Xw RQ R3;have tB:trees ((e.args.take i).flatMap bf)=true:=ak aL _;have tC:trees ((e.args.take (i+1)).flatMap bf)=true:=ak aL _;have Ts:(e.args.take i).length=i:=by simp;omega
   rw[Ts] at XT;have b1:(i+1)*56<=140737488355328:=by omega
   have b2:i*4+4=(i+1)*4:=by omega
   generalize (e.args.take i).flatMap bf=B at XT R3 tB;apply aq;simp[hC,Og];refine T.seq (T.cond (b:=true) rfl (T.skip ?_));simp;apply eN;apply aq;simp[hC,Og,Xk];refine T.rx ah follows [0,1,2,3,4,5,6,7] [(1,3),(1,4)] Ix ?_;simp[hC];refine RX.call rfl rfl rfl rfl rfl RQ Xw ?_;simp[XT,b1,aY];apply aN;simp[hC,wi];refine⟨e.args.length-(i+1),by omega,?_⟩;have Ye:trees (B++[I a1,I a2,.str a3,.ax a4 a5])=true:=by rw[R3];exact tC
   have Yx:=λ ρ=>af ρ _ Ye;have rA:=λ ρ=>af ρ _ tA;refine aa.le (Le.norm [11,10,9,2,1] [(12,2),(1,1),(0,0)] 0 3 Sn Sl yCj yA) ?_;simp[cm,bh,aX,cN,dZ,assoc,Yx];refine aa.here ⟨i+1,rfl,by omega,?_⟩;rw[<- R3];simp
  ·have RU:i=e.args.length:=by omega
   subst RU;apply aq;simp[hC];apply T.seq;refine T.cond (b:=false) Ta ?_;simp;apply T.exit;simp;apply aq;simp[hC];apply T.ret;have hkA:take (e.args.length*4) (e.args.flatMap bf)=e.args.flatMap bf:=take_of_length_le (by rw[aC bA];omega);refine aa.le (Le.trim [2] [1,2] 3 (by simp[-all_eq_true,-all_flatMap,-all_map,ai tA]) yA) ?_;simp;refine aa.le (Le.dn (o:=2) rfl tA) ?_;simp[hkA];apply aa.here;simp
theorem Ex.NL:∀ (e a:Ex),a∈e.args->SizeOf.sizeOf a<SizeOf.sizeOf e
 | .un _ e,a,h=>by
  simp only[Ex.args,mem_singleton] at h;subst h;simp;omega
 | .bin _ x y,a,h=>by
  simp only[Ex.args,mem_cons,not_mem_nil,or_false] at h;rcases h with rfl | rfl<;>simp<;>omega
 | .zero,a,h=>by cases h
 | .num _,a,h=>by cases h
 | .nm _,a,h=>by cases h
 | .loc _,a,h=>by cases h
 | .jk _,a,h=>by cases h
theorem xi (e:Ex):ae prog 75 [.agg (bf e)] (.agg (bf e)):=
 J5 e λ a _ha=>xi a
termination_by SizeOf.sizeOf e
decreasing_by exact Ex.NL e a _ha
def J79 (l:List Ex)(n:Nat)(s:St):Prop:=∃ i:Nat,n=l.length-i/\i<=l.length/\
 s=⟨[(8,I i),(7,I l.length),(6,.ax (l.flatMap bf) l.length),(3,.bb 0 0 i)],[(0,⟨85,4,(l.take i).flatMap bf⟩)],1⟩
set_option maxHeartbeats 2000000 in
theorem zp (l:List Ex)(hl:l.length<=1000):ae prog 77 [.ax (l.flatMap bf) l.length] (.ax (l.flatMap bf) l.length):=by
 have tA:trees (l.flatMap bf)=true:=ak aL _;have Sa:tree (.ax (l.flatMap bf) l.length)=true:=by simp only[tree]
 refine ae.aE ah Tryz.func77 rfl Ix (by simp[Tryz.ntmps77]) Sa λ C hC RR=>?_;rw[Tryz.ntmps77] at hC;apply aq;simp[hC];apply aq;simp[hC];apply aW;simp[hC];apply T.block;refine T.aH (J79 l) (n:=l.length) ?_ ?_
 ·refine aa.le (Le.own 3 85 4 rfl) ?_;simp[St.own];refine aa.trim [8,7,6,3] [0] 1 VA yA ⟨0,by omega,by omega,?_⟩;simp
 ·rintro n s ⟨i,rfl,hi,rfl⟩;by_cases Og:i<l.length
  ·obtain⟨a,W6⟩:∃ a,l[i]? = some a:=⟨_,getElem?_eq_getElem Og⟩;have Xw:=xi a;have RQ:trees [.agg (bf a)]=true:=by simp only[trees,tree,aL,Bool.and_self]
   have Xk:=aI (f:=bf) (n:=4) bA W6;have XT:=aC bA (l.take i);have R3:=tu bf W6;have wi:=cF ((i:Int)+1) yA yA;obtain⟨a1,a2,a3,a4,a5,W4,tea⟩:=fQ a;rw[W4] at Xk Xw RQ R3;have tB:trees ((l.take i).flatMap bf)=true:=ak aL _;have tC:trees ((l.take (i+1)).flatMap bf)=true:=ak aL _;have Ts:(l.take i).length=i:=by simp;omega
   rw[Ts] at XT;have b1:(i+1)*56<=140737488355328:=by omega
   have b2:i*4+4=(i+1)*4:=by omega
   generalize (l.take i).flatMap bf=B at XT R3 tB;apply aq;simp[hC,Og];refine T.seq (T.cond (b:=true) rfl (T.skip ?_));simp;apply eN;apply aq;simp[hC,Og,Xk];apply aN;simp[hC];refine cX RQ Xw ?_;simp[hC,XT,b1,aY];apply aN;simp[hC,wi];refine⟨l.length-(i+1),by omega,?_⟩;have Ye:trees (B++[I a1,I a2,.str a3,.ax a4 a5])=true:=by rw[R3];exact tC
   have Yx:=λ ρ=>af ρ _ Ye;have rA:=λ ρ=>af ρ _ tA;refine aa.le (Le.norm [8,7,6,3] [(3,0)] 0 1 Sn Sl yCj yA) ?_;simp[cm,bh,cN,dZ,assoc,Yx];refine aa.here ⟨i+1,rfl,by omega,?_⟩;rw[<- R3];simp
  ·have RU:i=l.length:=by omega
   subst RU;apply aq;simp[hC];apply T.seq;refine T.cond (b:=false) Ta ?_;simp;apply T.exit;simp;apply aq;simp[hC];apply T.ret;have hkA:take (l.length*4) (l.flatMap bf)=l.flatMap bf:=take_of_length_le (by rw[aC bA];omega);refine aa.le (Le.trim [2] [0] 1 (by simp[-all_eq_true,-all_flatMap,-all_map,ai tA]) yA) ?_;simp;refine aa.le (Le.dn (o:=0) rfl tA) ?_;simp[hkA];apply aa.here;simp
def Oa (p:Pl):List Ex:=match p.at_ with
 | some e=>[e]
 | none=>[]
theorem MH (p:Pl):oc p.at_=.ax ((Oa p).flatMap bf) (Oa p).length:=by
 unfold Oa;cases p.at_<;>simp[oc]
theorem My (p:Pl):(Oa p).length<=1:=by
 unfold Oa;cases p.at_<;>simp
theorem zm (p:Pl):ae prog 76 [.agg (gW p)] (.agg (gW p)):=by
 have hx:=zp (Oa p) (by have:=My p;omega);have RQ:trees [.ax ((Oa p).flatMap bf) (Oa p).length]=true:=by simp only[trees,tree,Bool.and_self]
 have Sa:tree (.agg (gW p))=true:=by simp only[tree,cY]
 refine ae.aE ah Tryz.func76 rfl Ix (by simp[Tryz.ntmps76]) Sa λ C hC RR=>?_;rw[Tryz.ntmps76] at hC;simp only[gW,MH];apply aq;simp[hC];apply aq;simp[hC];refine cX RQ hx ?_;simp[hC];apply aq;simp[hC];apply T.ret;apply aa.here;simp[Tryz.results76]
def tj:Option Fr->CV
 | some f=>.cQ (dY f)
 | none=>.bJ
theorem rP (s:Sy)(t:Int)(hb:s.ts.length<=1000000/\∀ l∈s.ts,l.length<=1000000):ae prog 45 [cT s,I t] (tj (eW s t)):=by
 have Sa:tree (tj (eW s t))=true:=by cases eW s t<;>rfl
 refine ae.aE ah Tryz.func45 rfl Ix (by simp[Tryz.ntmps45]) Sa λ C hC RR=>?_;rw[Tryz.ntmps45] at hC;simp only[cT,kX,ints];apply aq;simp[hC];by_cases hf:s.fault=0
 ·by_cases h0:t<0
  ·have hn:eW s t=none:=by simp[eW,h0]
   rw[hn];apply aW;simp[hC,hf,h0];refine T.cond (b:=true) Ta ?_;simp;apply aq;simp[hC];apply T.ret;apply aa.here;simp[Tryz.results45,tj]
  ·obtain⟨k,rfl⟩:∃ k:Nat,t=k:=⟨t.toNat,by omega⟩;by_cases hk:k<s.ts.length
   ·obtain⟨l,hl⟩:∃ l,s.ts[k]? = some l:=⟨_,getElem?_eq_getElem hk⟩;have Uk:=L4 hl;have UJ:¬ (s.ts.length<=k):=by omega
    have hlb:=hb.2 l (mem_of_getElem? hl);by_cases UY:l=[]
    ·have hn:eW s k=none:=by simp[eW,hl,UY]
     rw[hn];subst UY;apply aW;simp[hC,hf,h0,UJ,hk,Uk,en];refine T.cond (b:=true) Ta ?_;simp;apply aq;simp[hC];apply T.ret;apply aa.here;simp[Tryz.results45,tj]
    ·have hlp:0<l.length:=length_pos_iff.2 UY;have hlz:((l.length:Int) == 0)=false:=by rw[beq_eq_false_iff_ne];omega
     obtain⟨f,SK⟩:∃ f,l[l.length-1]? = some f:=⟨_,getElem?_eq_getElem yA⟩;have hn:eW s k=some f:=by simp[eW,hl,hf,getLast?_eq_getElem?,SK]
     rw[hn];have VZ:=aI (f:=dY) (n:=4) ef SK;rw[show l.length-1+1=l.length by omega,drop_length,flatMap_nil,append_nil] at VZ;have wl:=cF ((l.length-1:Nat):Int) yA yA;have V0:((l.length:Int)-1)=((l.length-1:Nat):Int):=by omega
     have RS:l.length-1<l.length:=by omega
     apply aW;simp[hC,hf,h0,UJ,hk,Uk,en,hlz];refine T.cond (b:=false) Ta (T.skip ?_);simp;apply aq;simp[hC,hk,Uk,en];apply aq;simp[hC,V0,wl,RS,VZ,dY];apply T.ret;apply aa.here;simp[Tryz.results45,tj,dY]
   ·have hn:eW s k=none:=by simp[eW,getElem?_eq_none (Nat.le_of_not_lt hk)]
    have UJ:s.ts.length<=k:=by omega
    rw[hn];apply aW;simp[hC,hf,h0,UJ];refine T.cond (b:=true) Ta ?_;simp;apply aq;simp[hC];apply T.ret;apply aa.here;simp[Tryz.results45,tj]
 ·have hn:eW s t=none:=by simp[eW,hf]
  rw[hn];have SE:((s.fault:Int) != 0)=true:=by rw[bne_iff_ne];omega
  apply aW;simp[hC,SE];refine T.cond (b:=true) Ta ?_;simp;apply aq;simp[hC];apply T.ret;apply aa.here;simp[Tryz.results45,tj]
def iT:In->Nat
 | .set t _ _=>t
 | .call _ t _ _=>t
 | .branch t _=>t
 | .jump t=>t
 | _=>0
def iG:In->Bool
 | .set _ g _=>g
 | _=>false
def inE:In->Ex
 | .set _ _ e=>e
 | .branch _ e=>e
 | _=>.zero
def iP:In->Pl
 | .lock _ p=>p
 | _=>⟨false,0,none⟩
def iL:In->List Ex
 | .call _ _ l _=>l
 | _=>[]
def iQ:In->List Pl
 | .call _ _ _ l=>l
 | _=>[]
theorem HR (z:In):cW z=[I (qX z),I (iT z),.bool (iG z)]++bf (inE z)++gW (iP z)++[.ax ((iL z).flatMap bf) (iL z).length,.ax ((iQ z).flatMap gW) (iQ z).length]:=by
 cases z<;>simp[cW,qX,iT,iG,inE,iP,iL,iQ,nZ,gW,oc]
def J44 (l:List Pl)(o t:Int)(g:Bool)(a1 a2:Int)(a3:ByteArray)(a4:List CV)(a5:Nat)(p1:Bool)(p2:Int)(p3:List CV)(p4:Nat)(L:List CV)(Ln:Nat)(n:Nat)(s:St):Prop:=∃ i:Nat,n=l.length-i/\i<=l.length/\
 s=⟨[(51,I i),(50,I l.length),(49,.ax (l.flatMap gW) l.length),(9,.aw 18 0),(7,.bool false),(6,.aw 2 0)],[(19,⟨87,3,(l.take i).flatMap gW⟩),(18,⟨90,0,[I o,I t,.bool g,I a1,I a2,.str a3,.ax a4 a5,.bool p1,I p2,.ax p3 p4,.ax L Ln,.bb 19 0 i]⟩),(2,⟨90,0,[I 0,I 0,.bool false,I 0,I 0,.str eS,.aj,.bool false,I 0,.aj,.aj,.aj]⟩)],20⟩
set_option maxHeartbeats 2000000 in
theorem y8 (u:Un)(s:Sy)(t:Int)(hb:s.ts.length<=1000000/\∀ l∈s.ts,l.length<=1000000)(hf:FrsV u s)(hz:∀ z,jJ u s t=some z->(iL z).length<=1000/\(iQ z).length<=1000):ae prog 33 [cg u,cT s,I t] (mD (jJ u s t)):=by
 have VF:=rP s t hb;have Sa:tree (mD (jJ u s t))=true:=by
  cases jJ u s t with
  | none=>rfl
  | some i=>simp only[mD,tree,trees,fK,Bool.and_self]
 have R6:=bj u;simp only[cR,ints] at R6;have S7:trees [cT s,I t]=true:=by simp only[trees,tree,cT,kX,ints,Bool.and_self]
 refine ae.aE ah Tryz.func33 rfl Ix (by simp[Tryz.ntmps33]) Sa λ C hC RR=>?_;rw[Tryz.ntmps33] at hC;simp only[cT,kX,cg,cR,ints] at VF S7 |-;apply aq;simp[hC];apply aq;simp[hC];refine cX S7 VF ?_
 cases V4:eW s t with
 | none=>
  have hn:jJ u s t=none:=by simp[jJ,V4]
  rw[hn];simp[hC,tj];apply aW;simp[hC];refine dy ?_;simp;apply aq;simp[hC];apply T.ret;refine aa.le (Le.trim [6,7] [2] 3 xr yA) ?_;simp;refine aa.le (Le.nz [] [2]) ?_;apply aa.here;simp[mD,eS]
 | some f=>
  obtain⟨l,Ts,S8⟩:=wx V4;obtain⟨q,hq,gZ⟩:=hf l Ts f S8;obtain⟨z,hzi⟩:∃ z,q.code[f.pc]? = some z:=⟨_,getElem?_eq_getElem gZ⟩;have hn:jJ u s t=some z:=by simp[jJ,V4,hq,hzi]
  obtain⟨VC,Ti⟩:=hz z hn;rw[hn];have SR:=(List.getElem?_eq_some_iff.1 hq).1;have Qd:=b9 (f:=mW) (n:=5) iC hq 4 yA;have Ud:=aI (f:=cW) (n:=12) gB hzi;have YP:=HR z;have Wc:=xi (inE z);have hxp:=zm (iP z);have Wz:=zp (iL z) VC;have te:trees [.agg (bf (inE z))]=true:=by simp only[trees,tree,aL,Bool.and_self]
  have tp:trees [.agg (gW (iP z))]=true:=by simp only[trees,tree,cY,Bool.and_self]
  have tl:trees [.ax ((iL z).flatMap bf) (iL z).length]=true:=by simp only[trees,tree,Bool.and_self]
  obtain⟨a1,a2,a3,a4,a5,W4,tea⟩:=fQ (inE z);obtain⟨p1,p2,p3,p4,XM,tpc⟩:=oL (iP z);rw[W4,XM] at YP;rw[W4] at Wc te;rw[XM] at hxp tp;simp only[cons_append,nil_append] at YP;rw[YP] at Ud;simp[hC,tj,dY];apply aW;simp[hC];refine fX ?_;simp;refine T.seq (T.rx ah follows [0,1,2,3,4,5,6,7,8,9,10,11,12,13,14,15,16] [(1,15),(5,15),(8,15),(12,15),(14,15)] Ix ?_);simp[hC,SR,Qd,mW,gZ,Ud];refine T.seq (T.rx ah follows [0,1,3,4,6,7,2,9,5,8,10,11,12,13,14] [(4,2),(7,2),(7,5)] Ix ?_);simp[hC];refine RX.call rfl rfl rfl rfl rfl te Wc ?_;simp;refine RX.call rfl rfl rfl rfl rfl tp hxp ?_;simp;refine RX.call rfl rfl rfl rfl rfl tl Wz ?_;simp;have tL:trees ((iL z).flatMap bf)=true:=ak aL _;have tQ:trees ((iQ z).flatMap gW)=true:=ak cY _;apply aq;simp[hC];apply aq;simp[hC];apply aW;simp[hC];apply T.block;refine T.le (Le.trim [51,50,49,9,7,6] [18,2] 19 VA yA) ?_;simp;refine T.aH (J44 (iQ z) (qX z) (iT z) (iG z) a1 a2 a3 a4 a5 p1 p2 p3 p4 ((iL z).flatMap bf) (iL z).length) (n:=(iQ z).length) ?_ ?_
  ·refine aa.le (Le.nk 18 11 87 3 rfl rfl) ?_;simp;refine aa.here ⟨0,by omega,by omega,?_⟩;simp[eS]
  ·rintro n s ⟨i,rfl,hi,rfl⟩;by_cases Og:i<(iQ z).length
   ·obtain⟨a,W6⟩:∃ a,(iQ z)[i]? = some a:=⟨_,getElem?_eq_getElem Og⟩;have Xw:=zm a;have RQ:trees [.agg (gW a)]=true:=by simp only[trees,tree,cY,Bool.and_self]
    have Xk:=aI (f:=gW) (n:=3) lj W6;have XT:=aC lj ((iQ z).take i);have R3:=tu gW W6;have wi:=cF ((i:Int)+1) yA yA;obtain⟨c1,c2,c3,c4,Se,tca⟩:=oL a;rw[Se] at Xk Xw RQ R3;have tB:trees (((iQ z).take i).flatMap gW)=true:=ak cY _;have tC:trees (((iQ z).take (i+1)).flatMap gW)=true:=ak cY _;have Ts:((iQ z).take i).length=i:=by simp;omega
    rw[Ts] at XT;have b1:(i+1)*40<=140737488355328:=by omega
    have b2:i*3+3=(i+1)*3:=by omega
    generalize ((iQ z).take i).flatMap gW=B at XT R3 tB;apply aq;simp[hC,Og];refine T.seq (T.cond (b:=true) rfl (T.skip ?_));simp;apply eN;apply aq;simp[hC,Og,Xk];refine T.rx ah follows [0,1,2,3,4,5,6,7] [(1,3),(1,4)] Ix ?_;simp[hC];refine RX.call rfl rfl rfl rfl rfl RQ Xw ?_;simp[XT,b1,aY];apply aN;simp[hC,wi];refine⟨(iQ z).length-(i+1),by omega,?_⟩;have Ye:trees (B++[.bool c1,I c2,.ax c3 c4])=true:=by rw[R3];exact tC
    have Yx:=λ ρ=>af ρ _ Ye;have rL:=λ ρ=>af ρ _ tL;have rQ:=λ ρ=>af ρ _ tQ;have r4:=λ ρ=>af ρ _ tea;have r5:=λ ρ=>af ρ _ tpc;refine aa.le (Le.norm [51,50,49,9,7,6] [(29,19),(18,18),(2,2)] 0 20 Sn Sl yCj yA) ?_;simp[cm,bh,aX,cN,dZ,assoc,Yx];refine aa.here ⟨i+1,rfl,by omega,?_⟩;rw[<- R3];simp
   ·have RU:i=(iQ z).length:=by omega
    subst RU;apply aq;simp[hC];apply T.seq;refine T.cond (b:=false) Ta ?_;simp;apply T.exit;simp;apply aq;simp[hC];apply T.ret;have hkA:take ((iQ z).length*3) ((iQ z).flatMap gW)=(iQ z).flatMap gW:=take_of_length_le (by rw[aC lj];omega);refine aa.le (Le.trim [6,7] [2,19] 20 (by simp[-all_eq_true,-all_flatMap,-all_map,ai tQ]) yA) ?_;simp;refine aa.le (Le.dn (o:=19) rfl tQ) ?_;simp[hkA];apply aa.here;simp[mD,YP]
def xH (un:Bool)(d c:Nat):Nat:=if un=true then (if d=0 then 2 else 0) else if c<=d then (if c=1 then 3 else 4) else 0
def sw (u:Un)(s:Sy)(t:Int):Nat×Nat:=match eW s t,jJ u s t with
 | some f,some (.lock un p)=>match u.ms[iV (gg u.ms f) p]? with
  | some x=>if xH un (ch u.ms s.tb (iV (gg u.ms f) p) t.toNat) (aF x)=0 then (0,0) else (xH un (ch u.ms s.tb (iV (gg u.ms f) p) t.toNat) (aF x),iV (gg u.ms f) p)
  | none=>(0,0)
 | _,_=>(0,0)
theorem Gv {u:Un}{s:Sy}{t:Int}(h:∀ un p,jJ u s t≠some (.lock un p)):sw u s t=(0,0):=by
 unfold sw;split
 ·rename_i un p _ h2;exact (h un p h2).elim
 ·rfl
theorem MF {z:In}(h:∀ un p,z≠.lock un p):((qX z == 4)=false)/\((qX z == 5)=false):=by
 cases z with
 | lock un p=>exact (h un p rfl).elim
 | call g t l ps=>cases g<;>exact⟨rfl,rfl⟩
 | _=>exact⟨rfl,rfl⟩
theorem Fb (x:Mx):(x.size=0/\x.re=false/\aF x=1)\/(¬ (x.size=0/\x.re=false)/\aF x=8):=by
 unfold aF;split
 ·rename_i h;exact .inl ⟨h.1,h.2,rfl⟩
 ·rename_i h;exact .inr ⟨h,rfl⟩
theorem EH {u:Un}(hu:fV u){k:Nat}{s:Sy}(hs:ov u k s){t:Int}{un:Bool}{p:Pl}(hi:jJ u s t=some (.lock un p)):∃ (n:Nat) (l0:List Fr) (f:Fr) (q:Pr) (xm:Mx),t=n/\eW s t=some f/\s.ts[n]? = some (l0++[f])/\LD u f/\u.ps[f.proc]? = some q/\
  (p.param=true->p.index<(gg u.ms f).bp.length)/\iV (gg u.ms f) p<u.ms.length/\u.ms[iV (gg u.ms f) p]? = some xm/\(az u).is[ez (az u).is (gg u.ms f)]? = some (gg u.ms f)/\∃ d:Nat,fz u s n 0=some (d,(l0++[f]).map (pJ u)):=by
 cases ht:eW s t with
 | none=>simp[jJ,ht] at hi
 | some f=>
  obtain⟨n,l0,rfl,hl,SL,_⟩:=ld ht;obtain⟨o1,o2,_,_⟩:=hs.gA hl;obtain⟨q,hq,gZ,Wd,R7⟩:=o2.q;simp only[jJ,ht,hq] at hi;have TV:=(hu.pc q (mem_of_getElem? hq)).2 _ (mem_of_getElem? hi);have T0:vW u.ms u.gs.length q.locals q.bp p:=TV;have YO:(gg u.ms f).bp.length=q.bp:=by simp[gg,R7]
  have hm:=JY ((xS hu).1.v _ o2.ic).m YO T0;obtain⟨x0,ZN⟩:∃ x,u.ms[0]? = some x:=⟨_,getElem?_eq_getElem (by have:=hu.nm;omega)⟩;refine⟨n,l0,f,q,_,rfl,rfl,hl,o2,hq,λ h=>?_,hm,getElem?_eq_getElem hm,AQ o2.ic,min (ch u.ms s.tb 0 n) (aF x0),by simp[fz,hl,ZN]⟩;rw[YO];rcases T0 with h6 | h6
  ·exact h6.2.1
  ·rw[h] at h6;cases h6.1
end Go.Proofs.YtlkmbdfhdknlgaaGreat
namespace Go.aJ
open Go.Can List
theorem lu (p:Nat->Prop):∀ n:Nat,∃ x,x<2 ^ n/\∀ e,e<n->(x.testBit e=true↔p e)
 | 0=>⟨0,by simp,λ e h=>by omega⟩
 | n+1=>by
  obtain⟨x,hx,hb⟩:=lu p n;by_cases h:p n
  ·refine⟨2 ^ n+x,by rw[Nat.pow_succ];omega,λ e he=>?_⟩;by_cases h2:e=n
   ·subst h2;rw[Nat.testBit_two_pow_add_eq,Nat.testBit_lt_two_pow hx];simp[h]
   ·rw[Nat.testBit_two_pow_add_gt yA];exact hb e yA
  ·refine⟨x,by rw[Nat.pow_succ];omega,λ e he=>?_⟩;by_cases h2:e=n
   ·subst h2;rw[Nat.testBit_lt_two_pow hx];simp[h]
   ·exact hb e yA
noncomputable def kE (L:Nat) (p:Nat->Prop):Nat:=Classical.choose (lu p (L+1))
theorem oT (L:Nat)(p:Nat->Prop):kE L p<2 ^ (L+1):=(Classical.choose_spec (lu p (L+1))).1
theorem pK {L:Nat}{p:Nat->Prop}{e:Nat}(h:e<=L):((kE L p).testBit e=true↔p e):=(Classical.choose_spec (lu p (L+1))).2 e yA
theorem Ff {L x e:Nat}(hx:x<2 ^ (L+1))(h:x.testBit e=true):e<=L:=by
 by_cases h2:e<=L
 ·exact h2
 ·have h3:x<2 ^ e:=Nat.lt_of_lt_of_le hx (Nat.pow_le_pow_right yA yA);rw[Nat.testBit_lt_two_pow h3] at h;cases h
theorem Ga {L x:Nat}{p:Nat->Prop}(hx:x<2 ^ (L+1))(h:∀ e,e<=L->(x.testBit e=true↔p e)):x=kE L p:=by
 refine Nat.eq_of_testBit_eq λ i=>?_;by_cases hi:i<=L
 ·have h1:=h i hi;have h2:=pK (p:=p) hi;cases hb:x.testBit i<;>cases hc:(kE L p).testBit i<;>simp_all
 ·have h3:∀ y,y<2 ^ (L+1)->y.testBit i=false:=λ y hy=>Nat.testBit_lt_two_pow (Nat.lt_of_lt_of_le hy (Nat.pow_le_pow_right yA yA));rw[h3 x hx,h3 _ (oT L p)]
def bH (r:List Nat)(d e:Nat):Bool:=(r.getD d 0).testBit e
def fW (t:List (List Nat))(p d e:Nat):Bool:=bH (t.getD p []) d e
structure sW (L:Nat)(r:List Nat):Prop where
 len:r.length=L+1
 lt:∀ s∈r,s<2 ^ (L+1)
theorem pX {L:Nat}{r:List Nat}(h:sW L r){d e:Nat}(hb:bH r d e=true):d<=L/\e<=L:=by
 unfold bH at hb;rw[getD_eq_getElem?_getD] at hb
 cases hx:r[d]? with
 | none=>rw[hx] at hb;simp at hb
 | some s=>
  rw[hx] at hb;have h1:=(List.getElem?_eq_some_iff.1 hx).1;have h2:=h.len;exact⟨by omega,Ff (h.lt s (mem_of_getElem? hx)) hb⟩
theorem Fx {L:Nat}{a b:List Nat}(ha:sW L a)(hb:sW L b)(h:∀ d e,d<=L->e<=L->bH a d e=bH b d e):a=b:=by
 refine ext_getElem? λ d=>?_;by_cases hd:d<=L
 ·obtain⟨x,hx⟩:∃ x,a[d]? = some x:=⟨_,getElem?_eq_getElem (by have:=ha.len;omega)⟩;obtain⟨y,hy⟩:∃ y,b[d]? = some y:=⟨_,getElem?_eq_getElem (by have:=hb.len;omega)⟩;rw[hx,hy];congr 1;refine Nat.eq_of_testBit_eq λ e=>?_;by_cases he:e<=L
  ·have:=h d e hd he
   simpa [bH,getD_eq_getElem?_getD,hx,hy] using this
  ·have h3:∀ z,z<2 ^ (L+1)->z.testBit e=false:=λ z hz=>Nat.testBit_lt_two_pow (Nat.lt_of_lt_of_le hz (Nat.pow_le_pow_right yA yA));rw[h3 x (ha.lt x (mem_of_getElem? hx)),h3 y (hb.lt y (mem_of_getElem? hy))]
 ·rw[getElem?_eq_none (by have:=ha.len;omega),getElem?_eq_none (by have:=hb.len;omega)]
def Ij:List Nat->Nat->Nat->Nat
 | [],_,_=>0
 | s::r,x,d=>(if x.testBit d=true then s else 0) ||| Ij r x (d+1)
def DQ (r:List Nat)(x:Nat):Nat:=Ij r x 0
theorem GW:∀ (r:List Nat) (x d e:Nat),(Ij r x d).testBit e=true↔∃ k,x.testBit (d+k)=true/\bH r k e=true
 | [],x,d,e=>by simp[Ij,bH]
 | s::r,x,d,e=>by
  rw[Ij,Nat.testBit_or,Bool.or_eq_true,GW r x (d+1) e];constructor
  ·rintro (h | ⟨k,h1,h2⟩)
   ·split at h
    ·rename_i hx;exact⟨0,hx,by simpa [bH] using h⟩
    ·simp at h
   ·exact⟨k+1,by rw[show d+(k+1)=d+1+k by omega];exact h1,by simpa [bH] using h2⟩
  ·rintro⟨k,h1,h2⟩
   cases k with
   | zero=>
    left;rw[Nat.add_zero] at h1;rw[if_pos h1]
    simpa [bH] using h2
   | succ k=>exact .inr ⟨k,by rw[show d+1+k=d+(k+1) by omega];exact h1,by simpa [bH] using h2⟩
theorem GV (r:List Nat)(x e:Nat):(DQ r x).testBit e=true↔∃ k,x.testBit k=true/\bH r k e=true:=by
 rw[DQ,GW];simp
theorem Bq {L:Nat}:∀ (r:List Nat) (x d:Nat),(∀ s∈r,s<2 ^ (L+1))->Ij r x d<2 ^ (L+1)
 | [],_,_,_=>by simp[Ij];exact Nat.two_pow_pos _
 | s::r,x,d,h=>by
  rw[Ij];refine Nat.or_lt_two_pow ?_ (Bq r x (d+1) λ y hy=>h y (mem_cons_of_mem _ hy));split
  ·exact h s mem_cons_self
  ·exact Nat.two_pow_pos _
def xQ (a b:List Nat):List Nat:=a.map (DQ b)
def oz (a b:List Nat):List Nat:=zipWith (· ||| ·) a b
def CS (a b:List Nat):Bool:=(zipWith (λ x y=>decide (x ||| y=y)) a b).all id
def vk (L:Nat)(c:Int):List Nat:=(range (L+1)).map λ d:Nat=>if 0<=(d:Int)+c/\(d:Int)+c<=L then 2 ^ ((d:Int)+c).toNat else 0
theorem E7 {L:Nat}{a b:List Nat}(ha:sW L a)(hb:sW L b):sW L (xQ a b):=by
 refine⟨by simp[xQ,ha.len],λ s hs=>?_⟩;simp only[xQ,mem_map] at hs;obtain⟨x,_,rfl⟩:=hs;exact Bq b x 0 hb.lt
theorem Bf (a b:List Nat)(d e:Nat):bH (xQ a b) d e=true↔∃ k,bH a d k=true/\bH b k e=true:=by
 unfold bH xQ;rw[getD_eq_getElem?_getD,getElem?_map]
 cases hx:a[d]? with
 | none=>simp[getD_eq_getElem?_getD,hx]
 | some x=>
  simp only[Option.map_some,Option.getD_some];rw[GV];simp[getD_eq_getElem?_getD,hx,bH]
theorem D1 {L:Nat}{a b:List Nat}(ha:sW L a)(hb:sW L b):sW L (oz a b):=by
 refine⟨by simp[oz,ha.len,hb.len],λ s hs=>?_⟩;simp only[oz] at hs;obtain⟨i,hi⟩:=mem_iff_getElem?.1 hs;rw[getElem?_zipWith] at hi
 cases hx:a[i]? with
 | none=>rw[hx] at hi;simp at hi
 | some x=>
  cases hy:b[i]? with
  | none=>rw[hx,hy] at hi;simp at hi
  | some y=>
   rw[hx,hy] at hi;simp at hi;subst hi;exact Nat.or_lt_two_pow (ha.lt x (mem_of_getElem? hx)) (hb.lt y (mem_of_getElem? hy))
theorem z6 {a b:List Nat}(h:a.length=b.length)(d e:Nat):bH (oz a b) d e=(bH a d e || bH b d e):=by
 unfold bH oz;rw[getD_eq_getElem?_getD,getElem?_zipWith,getD_eq_getElem?_getD,getD_eq_getElem?_getD];by_cases hd:d<a.length
 ·rw[getElem?_eq_getElem hd,getElem?_eq_getElem yA];simp[Nat.testBit_or]
 ·rw[getElem?_eq_none yA,getElem?_eq_none yA];simp
theorem or_self_iff (x y:Nat):x ||| y=y↔∀ e,x.testBit e=true->y.testBit e=true:=by
 constructor
 ·intro h e he;rw[<- h,Nat.testBit_or,he];rfl
 ·intro h;refine Nat.eq_of_testBit_eq λ e=>?_;rw[Nat.testBit_or];have:=h e;cases hx:x.testBit e<;>cases hy:y.testBit e<;>simp_all
theorem vM {a b:List Nat}(h:a.length=b.length):CS a b=true↔∀ d e,bH a d e=true->bH b d e=true:=by
 unfold CS;rw[all_eq_true];constructor
 ·intro h1 d e hb;unfold bH at hb |-;rw[getD_eq_getElem?_getD] at hb |-;by_cases hd:d<a.length
  ·rw[getElem?_eq_getElem hd] at hb;rw[getElem?_eq_getElem yA];simp only[Option.getD_some] at hb |-;have h2:=h1 (decide (a[d] ||| b[d]'yA=b[d]'yA)) (mem_iff_getElem?.2 ⟨d,by rw[getElem?_zipWith,getElem?_eq_getElem hd,getElem?_eq_getElem yA]⟩);simp only[id,decide_eq_true_eq] at h2;exact (or_self_iff _ _).1 h2 e hb
  ·rw[getElem?_eq_none yA] at hb;simp at hb
 ·intro h1 z hz;obtain⟨d,hd⟩:=mem_iff_getElem?.1 hz;rw[getElem?_zipWith] at hd
  cases hx:a[d]? with
  | none=>rw[hx] at hd;simp at hd
  | some x=>
   cases hy:b[d]? with
   | none=>rw[hx,hy] at hd;simp at hd
   | some y=>
    rw[hx,hy] at hd;simp at hd;subst hd;simp only[id,decide_eq_true_eq];refine (or_self_iff x y).2 λ e he=>?_;have h2:=h1 d e;simp only[bH,getD_eq_getElem?_getD,hx,hy,Option.getD_some] at h2;exact h2 he
theorem Jh (L:Nat)(c:Int):sW L (vk L c):=by
 refine⟨by simp[vk],λ s hs=>?_⟩;simp only[vk,mem_map] at hs;obtain⟨d,_,rfl⟩:=hs;split
 ·exact Nat.pow_lt_pow_right yA yA
 ·exact Nat.two_pow_pos _
theorem vF (L:Nat)(c:Int)(d e:Nat):bH (vk L c) d e=true↔d<=L/\e<=L/\(e:Int)=d+c:=by
 unfold bH vk;rw[getD_eq_getElem?_getD,getElem?_map];by_cases hd:d<L+1
 ·rw[getElem?_eq_getElem (by simpa using hd)];simp only[getElem_range,Option.map_some,Option.getD_some];split
  ·rename_i h;rw[Nat.testBit_two_pow,decide_eq_true_eq];omega
  ·rename_i h;simp;omega
 ·rw[getElem?_eq_none (by simpa using hd)];simp;omega
def vg (L:Nat):List Nat:=replicate (L+1) 0
theorem DS (L:Nat):sW L (vg L):=⟨by simp[vg],λ s hs=>by rw[eq_of_mem_replicate hs];exact Nat.two_pow_pos _⟩
theorem zV (L d e:Nat):bH (vg L) d e=false:=by
 unfold bH vg;rw[getD_eq_getElem?_getD,getElem?_replicate];split<;>simp
def bits (x:Nat):Nat:=(range 9).countP λ e=>x.testBit e
def dw (r:List Nat):Nat:=(r.map bits).sum
theorem NJ (x:Nat):bits x<=9:=by
 have:=countP_le_length (p:=λ e=>x.testBit e) (l:=range 9)
 simpa [bits] using this
theorem nJ {α:Type}{p q:α->Bool}:∀ l:List α,(∀ x∈l,p x=true->q x=true)->l.countP p<=l.countP q
 | [],_=>by simp
 | a::l,h=>by
  have h1:=nJ l λ x hx=>h x (mem_cons_of_mem _ hx);have h2:=h a mem_cons_self;rw[countP_cons,countP_cons];cases ha:p a<;>cases hb:q a<;>simp_all<;>omega
theorem xO {α:Type}{p q:α->Bool}:∀ l:List α,(∀ x∈l,p x=true->q x=true)->(∃ x∈l,p x=false/\q x=true)->l.countP p<l.countP q
 | [],_,h=>by obtain⟨x,hx,_⟩:=h;cases hx
 | a::l,h,h'=>by
  have h0:=nJ l λ x hx=>h x (mem_cons_of_mem _ hx);have h2:=h a mem_cons_self;rw[countP_cons,countP_cons];obtain⟨x,hx,hp,hq⟩:=h';rcases mem_cons.1 hx with rfl | hx
  ·simp[hp,hq];omega
  ·have h1:=xO l (λ x hx=>h x (mem_cons_of_mem _ hx)) ⟨x,hx,hp,hq⟩;cases ha:p a<;>cases hb:q a<;>simp_all<;>omega
theorem zM {x y:Nat}(h:∀ e,x.testBit e=true->y.testBit e=true):bits x<=bits y:=nJ _ λ e _=>h e
theorem GP {x y:Nat}(h:∀ e,x.testBit e=true->y.testBit e=true){e:Nat}(he:e<=8)(h1:x.testBit e=false)(h2:y.testBit e=true):bits x<bits y:=
 xO _ (λ e _=>h e) ⟨e,mem_range.2 yA,h1,h2⟩
theorem x5:∀ r:List Nat,dw r<=9*r.length
 | []=>by simp[dw]
 | x::r=>by
  have h1:=NJ x;have h2:=x5 r;simp only[dw,map_cons,sum_cons,length_cons] at h2 |-;omega
theorem qR:∀ (a b:List Nat),a.length=b.length->(∀ d e,bH a d e=true->bH b d e=true)->dw a<=dw b
 | [],b,_,_=>by simp[dw]
 | x::a,[],h,_=>by simp at h
 | x::a,y::b,h,hb=>by
  have h1:=qR a b TK λ d e hd=>by simpa [bH] using hb (d+1) e (by simpa [bH] using hd)
  have h2:=zM (x:=x) (y:=y) λ e he=>by simpa [bH] using hb 0 e (by simpa [bH] using he)
  simp only[dw,map_cons,sum_cons] at h1 |-;omega
theorem xZ:∀ (a b:List Nat),a.length=b.length->(∀ d e,bH a d e=true->bH b d e=true)->(∃ d e,e<=8/\bH a d e=false/\bH b d e=true)->dw a<dw b
 | [],b,h,_,h'=>by
  obtain⟨d,e,_,_,h2⟩:=h';have:b=[]:=length_eq_zero_iff.1 h.symm;subst this;simp[bH] at h2
 | x::a,[],h,_,_=>by simp at h
 | x::a,y::b,h,hb,h'=>by
  have h1:=qR a b TK λ d e hd=>by simpa [bH] using hb (d+1) e (by simpa [bH] using hd)
  have h2:=zM (x:=x) (y:=y) λ e he=>by simpa [bH] using hb 0 e (by simpa [bH] using he)
  simp only[dw,map_cons,sum_cons] at h1 |-;obtain⟨d,e,he,h3,h4⟩:=h'
  cases d with
  | zero=>
   have:=GP (x:=x) (y:=y) (λ e he=>by simpa [bH] using hb 0 e (by simpa [bH] using he)) he (by simpa [bH] using h3) (by simpa [bH] using h4);omega
  | succ d=>
   have:=xZ a b TK (λ d e hd=>by simpa [bH] using hb (d+1) e (by simpa [bH] using hd)) ⟨d,e,he,by simpa [bH] using h3,by simpa [bH] using h4⟩;simp only[dw] at this;omega
def e9 (t:List (List Nat)):Nat:=(t.map dw).sum
theorem zN:∀ (t:List (List Nat)) (i:Nat) (a b:List Nat),t[i]? = some a->e9 (t.set i b)+dw a=e9 t+dw b
 | [],i,a,b,h=>by simp at h
 | x::t,0,a,b,h=>by
  simp at h;subst h;simp[e9];omega
 | x::t,i+1,a,b,h=>by
  have:=zN t i a b TK;simp only[e9,set_cons_succ,map_cons,sum_cons] at this |-;omega
theorem xY {L:Nat}:∀ t:List (List Nat),(∀ r∈t,sW L r)->e9 t<=(9*(L+1))*t.length
 | [],_=>by simp[e9]
 | r::t,h=>by
  have h1:=x5 r;rw[(h r mem_cons_self).len] at h1;have h2:=xY t λ x hx=>h x (mem_cons_of_mem _ hx);simp only[e9,map_cons,sum_cons,length_cons,Nat.mul_add] at h2 |-;omega
def eT (x:Is)(m:Nat):In->Int
 | .lock un p=>if iV x p=m then (if un=true then -1 else 1) else 0
 | _=>0
def gG (z:In)(pc:Nat):List Nat:=match z with
 | .ret=>[]
 | .jump g=>[g]
 | .branch g _=>if g=pc+1 then [g] else [min g (pc+1),max g (pc+1)]
 | _=>[pc+1]
def eI:In->Bool
 | .call g _ _ _=>!g
 | _=>false
def vn:In->Bool
 | .ret=>true
 | _=>false
def er (c:Cl)(i pc:Nat):Nat:=((c.calls.getD i []).getD pc (-1)).toNat
section
variable (u:Un)(c:Cl)(m L:Nat)
inductive Ri (S:Nat->Nat->Nat->Prop)(i:Nat):Nat->Nat->Nat->Prop
 | base {d:Nat} (h:d<=L):Ri S i 0 d d
 | step {pc d e e' q:Nat} {x:Is} {z:In} (h:Ri S i pc d e) (hx:c.is[i]? = some x) (hz:(ay u x)[pc]? = some z) (hc:eI z=false) (he:(e':Int)=e+eT x m z) (hl:e'<=L) (hq:q∈gG z pc):Ri S i q d e'
 | call {pc d e e':Nat} {x:Is} {z:In} (h:Ri S i pc d e) (hx:c.is[i]? = some x) (hz:(ay u x)[pc]? = some z) (hc:eI z=true) (hs:S (er c i pc) e e') (hl:e'<=L):Ri S i (pc+1) d e'
def LF (S:Nat->Nat->Nat->Prop)(i d e:Nat):Prop:=∃ (pc:Nat) (x:Is),c.is[i]? = some x/\(ay u x)[pc]? = some .ret/\Ri u c m L S i pc d e
inductive Rr:Nat->Nat->Nat->Nat->Prop
 | base {i d:Nat} (h:d<=L):Rr i 0 d d
 | step {i pc d e e' q:Nat} {x:Is} {z:In} (h:Rr i pc d e) (hx:c.is[i]? = some x) (hz:(ay u x)[pc]? = some z) (hc:eI z=false) (he:(e':Int)=e+eT x m z) (hl:e'<=L) (hq:q∈gG z pc):Rr i q d e'
 | call {i pc d e e' pk:Nat} {x y:Is} {z:In} (h:Rr i pc d e) (hx:c.is[i]? = some x) (hz:(ay u x)[pc]? = some z) (hc:eI z=true) (hk:Rr (er c i pc) pk e e') (hy:c.is[er c i pc]? = some y) (hr:(ay u y)[pk]? = some .ret) (hl:e'<=L):Rr i (pc+1) d e'
def uJ (i d e:Nat):Prop:=∃ (pc:Nat) (x:Is),c.is[i]? = some x/\(ay u x)[pc]? = some .ret/\Rr u c m L i pc d e
inductive qu:Nat->Nat->Prop
 | root {r:Nat} (h:r∈c.roots):qu r 0
 | call {i d e pc:Nat} {x:Is} {z:In} (h:qu i d) (hr:Rr u c m L i pc d e) (hx:c.is[i]? = some x) (hz:(ay u x)[pc]? = some z) (hc:eI z=true):qu (er c i pc) e
def Be (i pc e:Nat):Prop:=∃ d,qu u c m L i d/\Rr u c m L i pc d e
end
section
variable {u:Un}{c:Cl}{m L:Nat}
theorem Ri.mono {S S':Nat->Nat->Nat->Prop}(hS:∀ i d e,S i d e->S' i d e){i pc d e:Nat}(h:Ri u c m L S i pc d e):Ri u c m L S' i pc d e:=by
 induction h with
 | base h=>exact .base h
 | step _ hx hz hc he hl hq ih=>exact .step ih hx hz hc he hl hq
 | call _ hx hz hc hs hl ih=>exact .call ih hx hz hc (hS _ _ _ hs) hl
theorem Ri.le {S:Nat->Nat->Nat->Prop}{i pc d e:Nat}(h:Ri u c m L S i pc d e):d<=L/\e<=L:=by
 induction h with
 | base h=>exact⟨h,h⟩
 | step _ _ _ _ _ hl _ ih=>exact⟨ih.1,hl⟩
 | call _ _ _ _ _ hl ih=>exact⟨ih.1,hl⟩
theorem Rr.ri {i pc d e:Nat}(h:Rr u c m L i pc d e):Ri u c m L (uJ u c m L) i pc d e:=by
 induction h with
 | base h=>exact .base h
 | step _ hx hz hc he hl hq ih=>exact .step ih hx hz hc he hl hq
 | call _ hx hz hc hk hy hr hl ih _=>exact .call ih hx hz hc ⟨_,_,hy,hr,hk⟩ hl
theorem Ri.rr {i pc d e:Nat}(h:Ri u c m L (uJ u c m L) i pc d e):Rr u c m L i pc d e:=by
 induction h with
 | base h=>exact .base h
 | step _ hx hz hc he hl hq ih=>exact .step ih hx hz hc he hl hq
 | call _ hx hz hc hs hl ih=>
  obtain⟨pk,y,hy,hr,hk⟩:=hs;exact .call ih hx hz hc hk hy hr hl
theorem Pk {i pc d e:Nat}:Ri u c m L (uJ u c m L) i pc d e↔Rr u c m L i pc d e:=⟨Ri.rr,Rr.ri⟩
theorem LF.mono {S S':Nat->Nat->Nat->Prop}(hS:∀ i d e,S i d e->S' i d e){i d e:Nat}:LF u c m L S i d e->LF u c m L S' i d e:=λ⟨pc,x,h1,h2,h3⟩=>⟨pc,x,h1,h2,h3.mono hS⟩
theorem Gu {i d e:Nat}:LF u c m L (uJ u c m L) i d e↔uJ u c m L i d e:=⟨λ⟨pc,x,h1,h2,h3⟩=>⟨pc,x,h1,h2,h3.rr⟩,λ⟨pc,x,h1,h2,h3⟩=>⟨pc,x,h1,h2,h3.ri⟩⟩
theorem Rr.least {S:Nat->Nat->Nat->Prop}(hS:∀ i d e,LF u c m L S i d e->S i d e){i pc d e:Nat}(h:Rr u c m L i pc d e):Ri u c m L S i pc d e:=by
 induction h with
 | base h=>exact .base h
 | step _ hx hz hc he hl hq ih=>exact .step ih hx hz hc he hl hq
 | call _ hx hz hc _ hy hr hl ih ih2=>exact .call ih hx hz hc (hS _ _ _ ⟨_,_,hy,hr,ih2⟩) hl
theorem uJ.least {S:Nat->Nat->Nat->Prop}(hS:∀ i d e,LF u c m L S i d e->S i d e){i d e:Nat}(h:uJ u c m L i d e):S i d e:=by
 obtain⟨pc,x,h1,h2,h3⟩:=h;exact hS _ _ _ ⟨pc,x,h1,h2,h3.least hS⟩
end
noncomputable def vo (L:Nat) (p:Nat->Nat->Prop):List Nat:=(range (L+1)).map λ d=>kE L (p d)
theorem pG (L:Nat)(p:Nat->Nat->Prop):sW L (vo L p):=⟨by simp[vo],λ s hs=>by
 simp only[vo,mem_map] at hs;obtain⟨d,_,rfl⟩:=hs;exact oT L _⟩
theorem kz {L:Nat}{p:Nat->Nat->Prop}{d e:Nat}(hd:d<=L)(he:e<=L):(bH (vo L p) d e=true↔p d e):=by
 unfold bH vo;rw[getD_eq_getElem?_getD,getElem?_map,getElem?_eq_getElem SO];simp only[getElem_range,Option.map_some,Option.getD_some];exact pK he
theorem FO {L:Nat}{p:Nat->Nat->Prop}{r:List Nat}(hr:sW L r)(h:∀ d e,d<=L->e<=L->(bH r d e=true↔p d e)):r=vo L p:=
 Fx hr (pG L p) λ d e hd he=>by
  have h1:=h d e hd he;have h2:=kz (p:=p) hd he;cases hb:bH r d e<;>cases hc:bH (vo L p) d e<;>simp_all
structure vz (L n:Nat)(t:List (List Nat)):Prop where
 len:t.length=n
 row:∀ r∈t,sW L r
theorem mU {t:List (List Nat)}{p:Nat}{r:List Nat}(h:t[p]? = some r)(d e:Nat):fW t p d e=bH r d e:=by
 simp[fW,getD_eq_getElem?_getD,h]
theorem zP {t:List (List Nat)}{p:Nat}(h:t.length<=p)(d e:Nat):fW t p d e=false:=by
 simp[fW,getD_eq_getElem?_getD,getElem?_eq_none h,bH]
theorem vz.get {L n:Nat}{t:List (List Nat)}(h:vz L n t){p:Nat}(hp:p<n):∃ r,t[p]? = some r/\sW L r:=by
 have:=h.len;refine⟨_,getElem?_eq_getElem yA,h.row _ (getElem_mem _)⟩
theorem vz.lt {L n:Nat}{t:List (List Nat)}(h:vz L n t){p d e:Nat}(hb:fW t p d e=true):p<n/\d<=L/\e<=L:=by
 by_cases hp:p<n
 ·obtain⟨r,hr,hw⟩:=h.get hp;rw[mU hr] at hb;exact⟨hp,pX hw hb⟩
 ·rw[zP (by have:=h.len;omega)] at hb;cases hb
theorem vz.set {L n:Nat}{t:List (List Nat)}(h:vz L n t){p:Nat}{r:List Nat}(hr:sW L r):vz L n (t.set p r):=⟨by rw[length_set];exact h.len,λ x hx=>by
 rcases mem_or_eq_of_mem_set hx with hx | rfl
 ·exact h.row x hx
 ·exact hr⟩
theorem sK {t:List (List Nat)}{p q d e:Nat}{r:List Nat}(hp:p<t.length):fW (t.set p r) q d e=if q=p then bH r d e else fW t q d e:=by
 unfold fW;rw[getD_eq_getElem?_getD,getD_eq_getElem?_getD,getElem?_set];by_cases h:p=q
 ·subst h;simp[hp]
 ·rw[if_neg h,if_neg (λ e=>h e.symm)]
noncomputable def ru (L n:Nat) (p:Nat->Nat->Nat->Prop):List (List Nat):=(range n).map λ i=>vo L (p i)
theorem jN (L n:Nat)(p:Nat->Nat->Nat->Prop):vz L n (ru L n p):=⟨by simp[ru],λ r hr=>by
 simp only[ru,mem_map] at hr;obtain⟨i,_,rfl⟩:=hr;exact pG L _⟩
theorem z8 {L n:Nat}(p:Nat->Nat->Nat->Prop){i:Nat}(h:i<n):(ru L n p)[i]? = some (vo L (p i)):=by
 rw[ru,getElem?_map,getElem?_eq_getElem TK];simp
theorem rh {L n:Nat}{p:Nat->Nat->Nat->Prop}{i d e:Nat}(hi:i<n)(hd:d<=L)(he:e<=L):(fW (ru L n p) i d e=true↔p i d e):=by
 rw[mU (z8 p hi)];exact kz hd he
theorem FD {L n:Nat}{p:Nat->Nat->Nat->Prop}{t:List (List Nat)}(ht:vz L n t)(h:∀ i d e,i<n->d<=L->e<=L->(fW t i d e=true↔p i d e)):t=ru L n p:=by
 refine ext_getElem? λ i=>?_;by_cases hi:i<n
 ·obtain⟨r,hr,hw⟩:=ht.get hi;rw[hr,z8 p hi];congr 1;refine FO hw λ d e hd he=>?_;have:=h i d e hi hd he;rwa [mU hr] at this
 ·rw[getElem?_eq_none (by have:=ht.len;omega),getElem?_eq_none (by have:=(jN L n p).len;omega)]
end Go.aJ
