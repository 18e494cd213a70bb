/- find, variable, expr. -/
import Derived.Test.YtlkmbdfhdknlgaaGreatDoorZ31
namespace Go.Proofs.YtlkmbdfhdknlgaaGreatDoor
open Go.Can Go.aT
theorem jm (x:En):(gq x).length=3:=rfl
def J59 (E:List En)(s:ByteArray)(n:Nat)(st:St):Prop:=∃ i:Nat,n=E.length-i∧i≤E.length∧gI E s=gI (E.drop i) s∧st=⟨[(6,I i),(5,.bool false),(4,.ai 0 0),(0,.au (E.flatMap gq) E.length),(1,.str s)],[(0,⟨118,0,[.str ⟨#[]⟩,I 0,I 0]⟩)],1⟩
def oq:Option En→CV
 | some x=>.db [.agg (gq x),.bool true]
 | none=>.db [.agg [.str ⟨#[]⟩,I 0,I 0],.bool false]
theorem AH (R:Option En):tree (oq R)=true:=by cases R<;>rfl
theorem ot (E:List En)(s:ByteArray)(hl:E.length≤100000):ae Tryz.prog 48 [.au (E.flatMap gq) E.length,.str s] (oq (gI E s)):=by
 have Ld:=fun (i:Nat) (x:En) (h:E[i]? = some x)=>az (f:=gq) (n:=3) jm (m:=E) h;refine ae.aD af Tryz.func48 rfl lz (by simp[Tryz.ntmps48]) (AH _) fun C hC xJ=>?_;rw[Tryz.ntmps48] at hC;apply ah;simp[hC];apply aL;simp[hC];apply T.block;refine T.aI (J59 E s) (n:=E.length) ?_ ?_
 ·refine aa.here ⟨0,by omega,by omega,rfl,?_⟩;simp
 ·rintro n st ⟨i,rfl,hi,hf,rfl⟩;by_cases nr:i<E.length
  ·obtain⟨a,KH⟩:∃ a,E[i]? = some a:=⟨E[i],List.getElem?_eq_getElem nr⟩;have oy:=Ld i a KH;have wi:=cm ((i:Int)+1) yA yA;have hd:E.drop i=a::E.drop (i+1):=by
    rw[List.drop_eq_getElem_cons nr,(List.getElem?_eq_some_iff.1 KH).2]
   rw[hd,gI] at hf;apply aL;simp[hC,nr];refine gF ?_;simp;apply fw;apply ah;simp[hC,nr,oy,gq,gx];by_cases hn:a.name=s
   ·rw[if_pos hn] at hf;simp only[hn,decide_true];refine cz ?_;simp;apply ah;simp[hC,nr,oy,gq];apply T.ret;apply aa.here;simp[Tryz.results48,hf,oq,gq]
   ·rw[if_neg hn] at hf;simp only[hn,decide_false];refine dg ?_;simp;apply a8;simp[hC,wi];refine⟨E.length-(i+1),by omega,?_⟩;refine aa.trim [6,5,4,0,1] [0] 1 j5 yA ⟨i+1,rfl,by omega,hf,?_⟩;simp
  ·have CW:i=E.length:=by omega
   rw[CW,List.drop_length,gI] at hf;apply aL;simp[hC,nr];refine aU ?_;simp;apply T.exit;simp;apply ah;simp[hC];apply T.ret;apply aa.here;simp[Tryz.results48,hf,oq]
def mo (p:Pg)(E:List En)(k st cl sl:Nat):List CV:=[.au (p.gs.flatMap mL) p.gs.length,.au (p.ms.flatMap eQ) p.ms.length,.au (p.fs.flatMap ed) p.fs.length,.au (E.flatMap gq) E.length,I k,I st,I 0,I 0,.bw 1 0 cl,.bw 2 0 sl]
def cG (p:Pg)(E:List En)(k st cl sl:Nat):Ob:=⟨178,0,mo p E k st cl sl⟩
theorem pG (p:Pg)(E:List En)(k st cl sl:Nat)(hl:E.length≤100000)(s:ByteArray)(x:En)(hx:gI E s=some x)(hk:x.kind=1∨x.kind=4)(n:Int) :
  Body Tryz.prog ak 112 [.ai 0 0,.str s,I n] [(0,cG p E k st cl sl)] 3 (jQ (.agg (gq x)) [(0,cG p E k st cl sl)] 3):=by
 have hf:=ot E s hl;rw[hx] at hf;refine Body.je Tryz.func112 rfl lz (by simp[Tryz.ntmps112]) fun C hC xJ=>?_;rw[Tryz.ntmps112] at hC;apply ah;simp[hC];apply ah;simp[hC,cG,mo];refine dk zK (hf) ?_;simp[hC,oq,gq];obtain⟨nm,kd,nn⟩:=x;simp only at hk ⊢;rcases hk with rfl | rfl
 ·apply fw;apply ah;simp[hC];refine aU ?_;simp;apply ah;simp[hC];refine dg ?_;simp;apply ah;simp[hC];apply T.ret;refine aa.le (Le.trim [6] [0,3] 4 Nk yA) ?_;simp;refine aa.le (Le.nz [] [3]) ?_;simp;refine aa.le (Le.dC (o:=3) rfl O3) ?_;simp;refine aa.trim [6] [0] 3 j5 yA ⟨_,?_,rfl,?_,rfl⟩
  ·simp
  ·simp
 ·apply fw;apply ah;simp[hC];refine aU ?_;simp;apply ah;simp[hC];refine dg ?_;simp;apply ah;simp[hC];apply T.ret;refine aa.le (Le.trim [6] [0,3] 4 Nk yA) ?_;simp;refine aa.le (Le.nz [] [3]) ?_;simp;refine aa.le (Le.dC (o:=3) rfl O3) ?_;simp;refine aa.trim [6] [0] 3 j5 yA ⟨_,?_,rfl,?_,rfl⟩
  ·simp
  ·simp
def jH (l:List Ex):Ob:=⟨131,4,l.flatMap bC⟩
def J131 (p:Pg)(E:List En)(k st cl sl:Nat)(e:Ex)(n:Int)(m:Nat)(s:St):Prop:=∃ i:Nat,m=e.args.length-i∧i≤e.args.length∧
 s=⟨[(9,I i),(8,.ai 5 0),(6,.ai 4 0),(4,.ai 3 0),(0,.ai 0 0),(2,I n)],[(0,cG p E k st cl sl),(3,⟨131,0,bC e⟩),(4,⟨131,0,[I 0,I 0,.str ⟨#[]⟩,.ag]⟩),(5,⟨131,0,[I e.op,I e.n,.str ⟨#[]⟩,.bw 6 0 i]⟩),(6,jH ((e.args.take i).map (df E)))],7⟩
set_option maxHeartbeats 4000000 in
theorem kB (p:Pg)(E:List En)(k st cl sl:Nat)(n:Int)(e e':Ex)(Fm:(e.op == 2)=false)(h1:e'.op=e.op)(h2:e'.n=e.n)(h3:e'.name=eS)(h4:e'.args=e.args.map (df E))(T2:e.args.length≤2)
  (ha:∀ x∈e.args,Body Tryz.prog ak 111 [.ai 0 0,.agg (bC x),I n] [(0,cG p E k st cl sl)] 3 (jQ (.agg (bC (df E x))) [(0,cG p E k st cl sl)] 3)) :
  Body Tryz.prog ak 111 [.ai 0 0,.agg (bC e),I n] [(0,cG p E k st cl sl)] 3 (jQ (.agg (bC e')) [(0,cG p E k st cl sl)] 3):=by
 have Ld:=fun (i:Nat) (x:Ex) (h:e.args[i]? = some x)=>az (f:=bC) (n:=4) bA (m:=e.args) h;refine Body.je Tryz.func111 rfl lz (by simp[Tryz.ntmps111]) fun C hC xJ=>?_;rw[Tryz.ntmps111] at hC;rw[bJ e];apply ah;simp[hC];apply aL;simp[hC,Fm];refine dg ?_;simp;apply ah;simp[hC];apply aL;simp[hC];apply T.block;refine T.aI (J131 p E k st cl sl e n) (n:=e.args.length) ?_ ?_
 ·refine aa.le (Le.nZ 5 3 131 4 rfl rfl) ?_;simp;refine aa.trim [9,8,6,4,0,2] [0,3,4,5,6] 7 (by simp[cG,mo]) yA ⟨0,by omega,by omega,?_⟩;rw[bJ e];simp[jH]
 ·rintro m s ⟨i,rfl,hi,rfl⟩;by_cases nr:i<e.args.length
  ·obtain⟨a,KH⟩:∃ a,e.args[i]? = some a:=⟨e.args[i],List.getElem?_eq_getElem nr⟩;have oy:=Ld i a KH;have hb:=ha a (List.mem_of_getElem? KH);have wi:=cm ((i:Int)+1) yA yA;rw[bJ e];apply aL;simp[hC,nr];refine gF ?_;simp;apply fw;refine T.rx af follows [0,1,2,3,4,5,6,7,8,9,10,11,12,13] [(1,9),(1,10)] lz ?_;simp[hC,nr,oy];have Kk:List.take (i+1) (List.map (df E) e.args)=List.take i (List.map (df E) e.args)++[df E a]:=by
    rw[List.take_add_one,List.getElem?_map,KH];rfl
   have QO:(List.take i (List.map (df E) e.args)).length=i:=by simp;omega
   generalize hN:List.take i (List.map (df E) e.args)=N at Kk QO;have PB:=aQ (f:=bC) (n:=4) bA N;rw[QO] at PB;have MG:(i+1)*56≤140737488355328:=by omega
   have WX:(i+1)*64≤140737488355328:=by omega
   refine RX.cd [0] [] 3 (hb) rfl j5 rfl rfl rfl rfl j5 Ku Kt rfl rfl rfl j5 ?_;simp[jH,bA,PB,MG,aS,-List.length_flatMap];apply a8;simp[hC,wi];refine⟨e.args.length-(i+1),by omega,?_⟩;have Sg:(N++[df E a]).flatMap bC=N.flatMap bC++bC (df E a):=by simp
   have LN:trees (N.flatMap bC++bC (df E a))=true:=by rw[← Sg];exact aE bj _
   refine aa.le (Le.trim [9,8,6,4,0,2] [0,3,4,5,21] 22 Xt yA) ?_;simp;refine aa.le (Le.mq 21 6 rfl rfl yA j5 j5 Xu) ?_;simp only[cG,mo];simp[aM (aE bj N)];have QX:(e.args.take (i+1)).map (df E)=N++[df E a]:=by rw[List.map_take];exact Kk
   refine aa.trim [9,8,6,4,0,2] [0,3,4,5,6] 7 Xo yA ⟨i+1,rfl,by omega,?_⟩;rw[QX,bJ e];simp[jH,cG,mo]
  ·have CW:i=e.args.length:=by omega
   rw[bJ e];apply aL;simp[hC,nr];refine aU ?_;simp;apply T.exit;simp;apply ah;simp[hC];apply T.ret;subst CW;have Kk:List.take e.args.length (List.map (df E) e.args)=e'.args:=by rw[h4];exact List.take_of_length_le j5
   have NZ:((e'.args.flatMap bC).take (e.args.length*4))=e'.args.flatMap bC:=List.take_of_length_le (by rw[aQ (f:=bC) (n:=4) bA,h4];simp);refine aa.le (Le.trim [6] [0,4,6] 7 Xs yA) ?_;simp;refine aa.le (Le.dC (o:=6) rfl (aE bj _)) ?_;simp[jH,Kk,NZ];refine aa.le (Le.dC (o:=4) rfl (by simp[trees,tree])) ?_;simp[cG,mo];refine aa.trim [6] [0] 3 j5 yA ⟨_,?_,rfl,?_,rfl⟩
   ·simp[bJ e',h1,h2,h3,h4,eS]
   ·simp
theorem iT (p:Pg){g:Nat}{ms:List Mx}{fs:List (ByteArray×List Pm)}{ps:List Pm}{V:List ByteArray}(E:List En)(k st cl sl:Nat)(hE:EW g ms fs ps V E k)(hl:E.length≤100000)(n:Int):∀ (d:Nat) (e:Ex),eO V d e →
  Body Tryz.prog ak 111 [.ai 0 0,.agg (bC e),I n] [(0,cG p E k st cl sl)] 3 (jQ (.agg (bC (df E e))) [(0,cG p E k st cl sl)] 3):=by
 have Om:∀ s∈V,Body Tryz.prog ak 111 [.ai 0 0,.agg (bC (.nm s)),I n] [(0,cG p E k st cl sl)] 3 (jQ (.agg (bC (df E (.nm s)))) [(0,cG p E k st cl sl)] 3):=by
  intro s hs;obtain⟨c,j,h1,h2⟩:=hE.v s hs;have hv:=pG p E k st cl sl hl s _ h1 (by simp only;omega) n;simp only[df,fU h1];refine Body.je Tryz.func111 rfl lz (by simp[Tryz.ntmps111]) fun C hC xJ=>?_;rw[Tryz.ntmps111] at hC;simp only[cG,mo] at hv ⊢;apply ah;simp[hC,bC];apply aL;simp[hC];refine cz ?_;simp;apply ah;simp[hC];refine TL.cd af [0] 3 (hv) yI rfl rfl rfl rfl j5 Ku Kt rfl (TL.go' af ?_);simp[hC,gq];rcases h2 with ⟨rfl,h2⟩ | ⟨rfl,h2⟩
  ·apply aL;simp[hC];refine cz ?_;simp;apply ah;simp[hC];apply T.ret;refine aa.le (Le.trim [6] [0,4] 5 Nk yA) ?_;simp;refine aa.le (Le.nz [] [4]) ?_;simp;refine aa.le (Le.dC (o:=4) rfl O3) ?_;simp;refine aa.trim [6] [0] 3 j5 yA ⟨_,?_,rfl,?_,rfl⟩
   ·simp[bC,eS]
   ·simp
  ·apply aL;simp[hC];refine dg ?_;simp;apply ah;simp[hC];apply T.ret;refine aa.le (Le.trim [6] [0,4] 5 Nk yA) ?_;simp;refine aa.le (Le.nz [] [4]) ?_;simp;refine aa.le (Le.dC (o:=4) rfl O3) ?_;simp;refine aa.trim [6] [0] 3 j5 yA ⟨_,?_,rfl,?_,rfl⟩
   ·simp[bC,eS]
   ·simp
 intro d
 induction d with
 | zero=>
  intro e hw
  match e,hw with
  | .nm s,hw=>exact Om s (by simpa [eO] using hw)
  | .num c,hw=>exact kB p E k st cl sl n (.num c) (.num c) rfl rfl rfl rfl rfl M9 M9
 | succ d ih=>
  intro e hw
  match e,hw with
  | .nm s,hw=>exact Om s (by simpa [eO] using hw)
  | .num c,hw=>exact kB p E k st cl sl n (.num c) (.num c) rfl rfl rfl rfl rfl M9 M9
  | .un o x,hw=>
   simp only[eO] at hw;refine kB p E k st cl sl n (.un o x) (.un o (df E x)) (by simp[Ex.op];omega) rfl rfl rfl rfl M9 fun y hy=>?_;simp only[Ex.args,List.mem_singleton] at hy;subst hy;exact ih _ hw.2
  | .bin o x y,hw=>
   simp only[eO] at hw;refine kB p E k st cl sl n (.bin o x y) (.bin o (df E x) (df E y)) (by simp[Ex.op];omega) rfl rfl rfl rfl M9 fun z hz=>?_;simp only[Ex.args,List.mem_cons,List.not_mem_nil,or_false] at hz;rcases hz with rfl | rfl
   ·exact ih _ hw.2.1
   ·exact ih _ hw.2.2
def tA (o:Option Ex):List Ex:=match o with
 | none=>[]
 | some e=>[e]
theorem lB (o:Option Ex):mK o=.au ((tA o).flatMap bC) (tA o).length:=by cases o<;>simp[mK,tA]
def J134 (p:Pg)(E:List En)(k st cl sl:Nat)(nm:ByteArray)(il:List Ex)(b:Bool)(j:Nat)(n:Int)(m:Nat)(s:St):Prop:=∃ i:Nat,m=il.length-i∧i≤il.length∧
 s=⟨[(11,I i),(9,.ai 18 0),(6,.ai 4 0),(4,.ai 3 0),(0,.ai 0 0),(2,I n)],[(0,cG p E k st cl sl),(3,⟨167,0,[.str nm,.au (il.flatMap bC) il.length]⟩),(4,⟨133,0,[.bool false,I 0,.ag]⟩),(18,⟨133,0,[.bool b,I j,.bw 19 0 i]⟩),(19,jH ((il.take i).map (df E)))],20⟩
set_option maxHeartbeats 4000000 in
theorem zZ (p:Pg){g:Nat}{fs:List (ByteArray×List Pm)}{ps:List Pm}{V:List ByteArray}(E:List En)(k st cl sl:Nat)(hE:EW g p.ms fs ps V E k)(hl:E.length≤100000)(_hm:p.ms.length≤1000)(n:Int)(r:Rf)(hr:BX p.ms ps V r) :
  Body Tryz.prog ak 114 [.ai 0 0,.agg (jw r),I n] [(0,cG p E k st cl sl)] 3 (jQ (.agg (mU (uJ E r))) [(0,cG p E k st cl sl)] 3):=by
 obtain⟨c,j,hf,PH,he⟩:∃ c j,gI E r.name=some ⟨r.name,c,j⟩∧((c=2∧∃ m,p.ms[j]? = some m∧((0:Int)<m.size↔0<(tA r.index).length))∨(c=5∧(tA r.index).length=0))∧∀ e∈tA r.index,eO V 1 e:=by
  rcases hr with ⟨m,h1,h2,h3⟩ | ⟨q,h1,h2,h3,h4⟩
  ·obtain⟨j,h4,h5⟩:=hE.m m h1;rw[← h2] at h4;refine⟨2,j,h4,.inl ⟨rfl,m,h5,?_⟩,fun e he=>?_⟩
   ·rcases h3 with ⟨h6,h7⟩ | ⟨e,h6,h7,_⟩
    ·simp[h6,tA,h7]
    ·simp[h6,tA,h7]
   ·rcases h3 with ⟨h6,h7⟩ | ⟨e',h6,h7,h8⟩
    ·simp[h6,tA] at he
    ·simp only[h6,tA,List.mem_singleton] at he;subst he;exact h8
  ·obtain⟨j,h5,h6⟩:=hE.p q h1 h2;rw[← h3] at h5;exact⟨5,j,h5,.inr ⟨rfl,by simp[h4,tA]⟩,fun e he=>by simp[h4,tA] at he⟩
 have M0:=ot E r.name hl;rw[hf] at M0;have K7:mU (uJ E r)=[.bool (decide (c=5)),I j,.au (((tA r.index).map (df E)).flatMap bC) ((tA r.index).map (df E)).length]:=by
  simp only[uJ,mU,fU hf,lB];cases r.index<;>simp[tA]
 have Ld:=fun (i:Nat) (x:Ex) (h:(tA r.index)[i]? = some x)=>az (f:=bC) (n:=4) bA (m:=tA r.index) h;have N7:(tA r.index).length≤1:=by cases r.index<;>simp[tA]
 rw[K7];simp only[jw,lB];generalize tA r.index=il at PH he Ld N7;generalize r.name=nm at hf M0;clear K7 hr;refine Body.je Tryz.func114 rfl lz (by simp[Tryz.ntmps114]) fun C hC xJ=>?_;rw[Tryz.ntmps114] at hC;apply ah;simp[hC];apply T.seq;refine T.rx af follows [0,1,2,3,4,5,10,6,7,8,9,11,12] [(3,10),(5,10),(10,6)] lz ?_;simp[hC,cG,mo];refine RX.call rfl j5 rfl rfl rfl zK (M0) ?_;simp[oq,gq];have Z5:((c:Int) == 5)=decide (c=5):=by rcases PH with ⟨rfl,_⟩ | ⟨rfl,_⟩<;>rfl
 apply ah;simp[hC,Z5];refine T.cut (fun s=>s=⟨[(9,.ai 18 0),(6,.ai 4 0),(4,.ai 3 0),(0,.ai 0 0),(2,I n)],[(0,cG p E k st cl sl),(3,⟨167,0,[.str nm,.au (il.flatMap bC) il.length]⟩),(4,⟨133,0,[.bool false,I 0,.ag]⟩),(18,⟨133,0,[.bool (decide (c=5)),I j,.ag]⟩)],19⟩) ?_ ?_
 ·rcases PH with ⟨rfl,m,X6,ZN⟩ | ⟨rfl,N4⟩
  ·have ZE:=bb (f:=eQ) (n:=3) (fun _=>rfl) X6 2 yA;have KT:=(List.getElem?_eq_some_iff.1 X6).1;apply T.block;apply ah;simp[hC];refine aU ?_;simp;apply ah;simp[hC];refine aU ?_;simp;apply T.seq;refine T.rx af follows [0,1,2,3,4,5,6,7,8,9,10,11,12,13,14,15,16] [] lz ?_;simp[hC,KT,ZE,eQ];by_cases hz:0<il.length
   ·have KP:0<m.size:=by omega
    apply ah;simp[hC,hz,KP];refine dg ?_;simp;refine aa.trim [9,6,4,0,2] [0,3,4,18] 19 j5 yA ?_;simp[cG,mo]
   ·have KP:¬ 0<m.size:=by omega
    apply ah;simp[hC,hz,KP];refine dg ?_;simp;refine aa.trim [9,6,4,0,2] [0,3,4,18] 19 j5 yA ?_;simp[cG,mo]
  ·apply T.block;apply ah;simp[hC];refine aU ?_;simp;apply ah;simp[hC];refine aU ?_;simp;apply T.seq;refine T.rx af follows [0,1,2,3,4,5,6,7,8,9,10,11,12,13,14,15,16] [] lz ?_;simp[hC];apply ah;simp[hC,N4];refine dg ?_;simp;refine aa.trim [9,6,4,0,2] [0,3,4,18] 19 j5 yA ?_;simp[cG,mo]
 rintro s rfl;apply aL;simp[hC];apply T.block;refine T.aI (J134 p E k st cl sl nm il (decide (c=5)) j n) (n:=il.length) ?_ ?_
 ·refine aa.le (Le.nZ 18 2 131 4 rfl rfl) ?_;simp;refine aa.trim [11,9,6,4,0,2] [0,3,4,18,19] 20 (by simp[cG,mo]) yA ⟨0,by omega,by omega,?_⟩;simp[jH]
 ·rintro m s ⟨i,rfl,hi,rfl⟩;by_cases nr:i<il.length
  ·obtain⟨a,KH⟩:∃ a,il[i]? = some a:=⟨il[i],List.getElem?_eq_getElem nr⟩;have oy:=Ld i a KH;have hb:=iT p E k st cl sl hE hl n 1 a (he a (List.mem_of_getElem? KH));have wi:=cm ((i:Int)+1) yA yA;apply aL;simp[hC,nr];refine gF ?_;simp;apply fw;refine T.rx af follows [0,1,2,3,4,5,6,7,8,9,10,11,12,13] [(1,9),(1,10)] lz ?_;simp[hC,nr,oy];have Kk:List.take (i+1) (List.map (df E) il)=List.take i (List.map (df E) il)++[df E a]:=by
    rw[List.take_add_one,List.getElem?_map,KH];rfl
   have QO:(List.take i (List.map (df E) il)).length=i:=by simp;omega
   generalize hN:List.take i (List.map (df E) il)=N at Kk QO;have PB:=aQ (f:=bC) (n:=4) bA N;rw[QO] at PB;have MG:(i+1)*56≤140737488355328:=by omega
   have WX:(i+1)*64≤140737488355328:=by omega
   refine RX.cd [0] [] 3 (hb) rfl j5 rfl rfl rfl rfl j5 Ku Kt rfl rfl rfl j5 ?_;simp[jH,bA,PB,MG,aS,-List.length_flatMap];apply a8;simp[hC,wi];refine⟨il.length-(i+1),by omega,?_⟩;have Sg:(N++[df E a]).flatMap bC=N.flatMap bC++bC (df E a):=by simp
   have LN:trees (N.flatMap bC++bC (df E a))=true:=by rw[← Sg];exact aE bj _
   refine aa.le (Le.trim [11,9,6,4,0,2] [0,3,4,18,34] 35 Xt yA) ?_;simp;refine aa.le (Le.mq 34 19 rfl rfl yA j5 j5 Xu) ?_;simp only[cG,mo];simp[aM (aE bj N)];have QX:(il.take (i+1)).map (df E)=N++[df E a]:=by rw[List.map_take];exact Kk
   refine aa.trim [11,9,6,4,0,2] [0,3,4,18,19] 20 Xo yA ⟨i+1,rfl,by omega,?_⟩;rw[QX];simp[jH,cG,mo]
  ·have CW:i=il.length:=by omega
   apply aL;simp[hC,nr];refine aU ?_;simp;apply T.exit;simp;apply ah;simp[hC];apply T.ret;subst CW;have Kk:List.take il.length (List.map (df E) il)=il.map (df E):=List.take_of_length_le j5;have NZ:(((il.map (df E)).flatMap bC).take (il.length*4))=(il.map (df E)).flatMap bC:=List.take_of_length_le (by rw[aQ (f:=bC) (n:=4) bA];simp);refine aa.le (Le.trim [6] [0,4,19] 20 Xs yA) ?_;simp;refine aa.le (Le.dC (o:=19) rfl (aE bj _)) ?_;simp[jH,Kk,NZ];refine aa.le (Le.dC (o:=4) rfl (by simp[trees,tree])) ?_;simp[cG,mo];refine aa.trim [6] [0] 3 j5 yA ⟨_,?_,rfl,?_,rfl⟩
   ·simp
   ·simp
theorem pt (E:List En):∀ a b:List Ar,cC E (a++b)=cC E a++cC E b
 | [],b=>rfl
 | .exp e::a,b=>by simp[cC,pt E a b]
 | .ru r::a,b=>by simp[cC,pt E a b]
theorem q9 (E:List En):∀ a b:List Ar,dT E (a++b)=dT E a++dT E b
 | [],b=>rfl
 | .exp e::a,b=>by simp[dT,q9 E a b]
 | .ru r::a,b=>by simp[dT,q9 E a b]
theorem pk (E:List En):∀ a:List Ar,(cC E a).length≤a.length
 | []=>Nat.le_refl _
 | .exp e::a=>by have:=pk E a;simp[cC];omega
 | .ru r::a=>by have:=pk E a;simp[cC];omega
theorem q8 (E:List En):∀ a:List Ar,(dT E a).length≤a.length
 | []=>Nat.le_refl _
 | .exp e::a=>by have:=q8 E a;simp[dT];omega
 | .ru r::a=>by have:=q8 E a;simp[dT];omega
theorem Ew {ms:List Mx}{ps:List Pm}{V:List ByteArray}:∀ {gp:List Pm} {al:List Ar} {i:Nat} {a:Ar},gZ ms ps V gp al→al[i]? = some a→∃ q,gp[i]? = some q∧ArW ms ps V q a
 | [],[],_,_,_,h=>by simp at h
 | q::gp,b::al,0,a,hw,h=>by
  simp only[gZ] at hw;simp only[List.getElem?_cons_zero,Option.some.injEq] at h;subst h;exact⟨q,rfl,hw.1⟩
 | q::gp,b::al,i+1,a,hw,h=>by
  simp only[gZ] at hw;simp only[List.getElem?_cons_succ] at h;obtain⟨q',h1,h2⟩:=Ew hw.2 h;exact⟨q',by simpa using h1,h2⟩
 | [],_::_,_,_,hw,_=>hw.elim
 | _::_,[],_,_,hw,_=>hw.elim
theorem qn (x:Pl):(mU x).length=3:=rfl
theorem iA (x:Pl):trees (mU x)=true:=by
 rcases x with ⟨_,_,_ | e⟩
 ·rfl
 ·simp only[mU,mK,trees,tree,Bool.and_self]
def sy (l:List Pl):Ob:=⟨133,3,l.flatMap mU⟩
def yg:List CV:=[I 0,I 0,.bool false,I 0,I 0,.str ⟨#[]⟩,.ag,.bool false,I 0,.ag,.ag,.ag]
def mQ (kd:Int)(nm:ByteArray)(al:List Ar):List CV:=[I kd,.str nm,I 0,I 0,.str ⟨#[]⟩,.au [] 0,.str ⟨#[]⟩,.au [] 0,.au (al.flatMap mC) al.length,.au [] 0,.au [] 0]
def J133 (p:Pg)(E:List En)(k st cl sl:Nat)(n:Int)(kd op:Int)(nm:ByteArray)(j:Nat)(gp:List Pm)(al:List Ar)(m:Nat)(s:St):Prop:=∃ i:Nat,m=al.length-i∧i≤al.length∧
 s=⟨[(11,I i),(10,.au (gp.flatMap jB) gp.length),(7,.ai 5 0),(6,.ai 4 0),(4,.ai 3 0),(0,.ai 0 0),(2,I n)],[(0,cG p E k st cl sl),(3,⟨170,0,mQ kd nm al⟩),(4,⟨136,0,yg⟩),
  (5,⟨136,0,[I op,I j,.bool false,I 0,I 0,.str ⟨#[]⟩,.ag,.bool false,I 0,.ag,.bw 6 0 (cC E (al.take i)).length,.bw 7 0 (dT E (al.take i)).length]⟩),(6,jH (cC E (al.take i))),(7,sy (dT E (al.take i)))],8⟩
set_option maxHeartbeats 4000000 in
theorem Dn (p:Pg){g:Nat}{ps:List Pm}{V:List ByteArray}(E:List En)(k st cl sl:Nat)(hE:EW g p.ms (p.fs.map fun f=>(f.name,f.params)) ps V E k)(hl:E.length≤100000)(hm:p.ms.length≤1000)(_hfl:p.fs.length≤1000)(n:Int)(go:Bool)(nm:ByteArray)(gp:List Pm)(al:List Ar)
  (hg:(nm,gp)∈p.fs.map fun f=>(f.name,f.params)) (hw:gZ p.ms ps V gp al) (NR:gp.length≤1000) :
  Body Tryz.prog ak 113 [.ai 0 0,.agg (gk (.dm go nm al)),I n] [(0,cG p E k st cl sl)] 3 (jQ (.agg (cK (.call go (j9 E nm).n (cC E al) (dT E al)))) [(0,cG p E k st cl sl)] 3):=by
 obtain⟨j,hf,LL⟩:=hE.f _ hg;have TE:=hw.len;have M0:=ot E nm hl;rw[hf] at M0;rw[fU hf];have hs:gk (.dm go nm al)=mQ (if go=true then 4 else 3) nm al:=rfl;rw[hs];obtain⟨f,QI,OW⟩:∃ f,p.fs[j]? = some f∧f.params=gp:=by
  rw[List.getElem?_map,Option.map_eq_some_iff] at LL;obtain⟨f,h1,h2⟩:=LL;exact⟨f,h1,by injection h2⟩
 have WB:=bb (f:=ed) (n:=3) (fun _=>rfl) QI 1 yA;have KT:=(List.getElem?_eq_some_iff.1 QI).1;refine Body.je Tryz.func113 rfl lz (by simp[Tryz.ntmps113]) fun C hC xJ=>?_;rw[Tryz.ntmps113] at hC;apply ah;simp[hC];apply ah;simp[hC];simp only[cG,mo,mQ];refine T.cut (fun s=>s=⟨[(7,.ai 5 0),(6,.ai 4 0),(4,.ai 3 0),(0,.ai 0 0),(2,I n)],[(0,cG p E k st cl sl),(3,⟨170,0,mQ (if go=true then 4 else 3) nm al⟩),(4,⟨136,0,yg⟩),(5,⟨136,0,[I (if go=true then 3 else 2),I 0,.bool false,I 0,I 0,.str ⟨#[]⟩,.ag,.bool false,I 0,.ag,.ag,.ag]⟩)],6⟩) ?_ ?_
 ·cases go with
  | true=>
   apply ah;simp[hC];refine cz ?_;simp;apply a8;simp[hC];refine aa.trim [7,6,4,0,2] [0,3,4,5] 6 j5 yA ?_;simp[cG,mo,mQ,yg]
  | false=>
   apply ah;simp[hC];refine dg ?_;simp;refine aa.trim [7,6,4,0,2] [0,3,4,5] 6 j5 yA ?_;simp[cG,mo,mQ,yg]
 rintro s rfl;apply T.seq;refine T.rx af follows [0,1,2,3,4,5,10,6,7,8,9,11,12] [(3,10),(5,10),(10,6)] lz ?_;simp[hC,cG,mo,mQ,yg];refine RX.call rfl j5 rfl rfl rfl zK (M0) ?_;simp[oq,gq];apply fw;apply ah;simp[hC];refine aU ?_;simp;apply ah;simp[hC];refine dg ?_;simp;apply ah;simp[hC];apply T.seq;refine T.rx af follows [0,1,2,3,4,5,6,7,8,9,10] [] lz ?_;simp[hC,KT,WB,ed,OW];apply aL;simp[hC,TE];refine dg ?_;simp;refine T.le (Le.trim [10,7,6,4,0,2] [0,3,4,5] 6 j5 yA) ?_;simp;generalize (if go=true then (4:Int) else 3)=kd;have Fm:(if go=true then (3:Int) else 2)=(if go then 3 else 2:Int):=rfl;generalize Q9:(if go=true then (3:Int) else 2)=op;apply aL;simp[hC];apply T.block;refine T.aI (J133 p E k st cl sl n kd op nm j gp al) (n:=al.length) ?_ ?_
 ·refine aa.le (Le.nZ 5 10 131 4 rfl rfl) ?_;simp;refine aa.le (Le.nZ 5 11 133 3 rfl rfl) ?_;simp;refine aa.trim [11,10,7,6,4,0,2] [0,3,4,5,6,7] 8 j5 yA ⟨0,by omega,by omega,?_⟩;simp[jH,sy,cC,dT,cG,mo,mQ,yg,TE]
 ·rintro m s ⟨i,rfl,hi,rfl⟩;by_cases nr:i<al.length
  ·obtain⟨a,KH⟩:∃ a,al[i]? = some a:=⟨al[i],List.getElem?_eq_getElem nr⟩;obtain⟨q,ZL,UP⟩:=Ew hw KH;have oy:=az (f:=mC) (n:=7) qC KH;have M3:=bb (f:=jB) (n:=2) (fun _=>rfl) ZL 1 yA;have N7:i<gp.length:=by omega
   have wi:=cm ((i:Int)+1) yA yA;have Kk:al.take (i+1)=al.take i++[a]:=by rw[List.take_add_one,KH];rfl
   have KG:=pk E (al.take i);have Mp:=q8 E (al.take i);rw[List.length_take] at KG Mp;have hI:cC E (al.take (i+1))=cC E (al.take i)++cC E [a]:=by rw[Kk,pt]
   have hP:dT E (al.take (i+1))=dT E (al.take i)++dT E [a]:=by rw[Kk,q9]
   generalize cC E (al.take i)=NI at KG hI;generalize dT E (al.take i)=NP at Mp hP;have f1:=aQ (f:=bC) (n:=4) bA NI;have f2:=aQ (f:=mU) (n:=3) qn NP;have b1:(NI.length+1)*56≤140737488355328:=by omega
   have b2:(NP.length+1)*48≤140737488355328:=by omega
   have b3:(NP.length+1)*40≤140737488355328:=by omega
   have Za:∀ x:Pl,List.take 3 (mU x)=mU x:=fun _=>rfl;have Uu:∀ x:Ex,List.take 4 (bC x)=bC x:=fun x=>List.take_of_length_le (by rw[bA];exact Nat.le_refl _);have tE:=aE bj NI;have tP:=aE iA NP;apply aL;simp[hC,N7];refine gF ?_;simp;apply fw
   cases a with
   | ru r=>
    have hb:=zZ p E k st cl sl hE hl hm n r UP.2;have VL:q.mutex=true:=UP.1;obtain⟨rn,ri⟩:=r;obtain⟨q1,q2,hq⟩:∃ cs n,mK ri=.au cs n:=by cases ri<;>exact⟨_,_,rfl⟩
    simp only[jw,hq] at hb;simp only[mC,jw,bC,hq,List.cons_append,List.nil_append] at oy;apply ah;simp[hC,nr,oy,mQ];refine T.seq (T.seq ?_);refine T.rx af follows [0,1,2,3,4,5,6,7] [] lz ?_;simp[hC,N7,M3,jB,VL];refine dg ?_;simp;apply ah;simp[hC];refine cz ?_;simp;refine T.rx af follows [0,1,2,3,4,5,6,7,8,9,10] [(1,6),(1,7)] lz ?_;simp[hC];refine RX.cd [0] [] 3 (hb) rfl j5 rfl rfl rfl rfl j5 Ku Kt rfl rfl rfl j5 ?_;simp[sy,qn,f2,b3,Za,aS,-List.length_flatMap];apply a8;simp[hC,wi];refine⟨al.length-(i+1),by omega,?_⟩;have tQ:=iA (uJ E ⟨rn,ri⟩);refine aa.le (Le.trim [11,10,7,6,4,0,2] [0,3,4,5,6,28] 29 (by simp only[cG,mo,yg,jH];simp[-List.all_eq_true,-List.all_flatMap,aj tE,aj tP,aj tQ]) yA) ?_;simp;refine aa.le (Le.mq 28 7 rfl rfl yA j5 j5 (by simp only[cG,mo,yg,jH];simp[-List.all_eq_true,-List.all_flatMap,aY tE,aY tP,aY tQ])) ?_;simp only[cG,mo,yg,jH];simp[aM tE,aM tP,aM tQ];refine aa.trim [11,10,7,6,4,0,2] [0,3,4,5,6,7] 8 (by simp[-List.all_eq_true,-List.all_flatMap,aj tE,aj tP,aj tQ]) yA ⟨i+1,rfl,by omega,?_⟩;rw[hI,hP];simp[jH,sy,cC,dT,cG,mo,mQ,yg]
   | exp e=>
    have hb:=iT p E k st cl sl hE hl n 2 e UP.2;have VL:q.mutex=false:=UP.1;simp only[mC,bJ e,jy,List.cons_append,List.nil_append] at oy;rw[bJ e] at hb;apply ah;simp[hC,nr,oy,mQ];refine T.seq (T.seq ?_);refine T.rx af follows [0,1,2,3,4,5,6,7] [] lz ?_;simp[hC,N7,M3,jB,VL];refine dg ?_;simp;apply ah;simp[hC];refine aU ?_;simp;refine T.rx af follows [0,1,2,3,4,5,6,7,8,9,10] [(1,6),(1,7)] lz ?_;simp[hC];refine RX.cd [0] [] 3 (hb) rfl j5 rfl rfl rfl rfl j5 Ku Kt rfl rfl rfl j5 ?_;simp[jH,bA,f1,b1,Uu,aS,-List.length_flatMap];apply a8;simp[hC,wi];refine⟨al.length-(i+1),by omega,?_⟩;have tQ:=bj (df E e);refine aa.le (Le.trim [11,10,7,6,4,0,2] [0,3,4,5,28,7] 29 (by simp only[cG,mo,yg,sy];simp[-List.all_eq_true,-List.all_flatMap,aj tE,aj tP,aj tQ]) yA) ?_;simp;refine aa.le (Le.mq 28 6 rfl rfl yA j5 j5 (by simp only[cG,mo,yg,sy];simp[-List.all_eq_true,-List.all_flatMap,aY tE,aY tP,aY tQ])) ?_;simp only[cG,mo,yg,sy];simp[aM tE,aM tP,aM tQ];refine aa.trim [11,10,7,6,4,0,2] [0,3,4,5,6,7] 8 (by simp[-List.all_eq_true,-List.all_flatMap,aj tE,aj tP,aj tQ]) yA ⟨i+1,rfl,by omega,?_⟩;rw[hI,hP];simp[jH,sy,cC,dT,cG,mo,mQ,yg]
  ·have CW:i=al.length:=by omega
   have N7:¬ i<gp.length:=by omega
   apply aL;simp[hC,N7];refine aU ?_;simp;apply T.exit;simp;apply ah;simp[hC];apply T.ret;rw[CW,List.take_length];have tE:=aE bj (cC E al);have tP:=aE iA (dT E al);have x1:((cC E al).flatMap bC).take ((cC E al).length*4)=(cC E al).flatMap bC:=List.take_of_length_le (by rw[aQ (f:=bC) (n:=4) bA];exact Nat.le_refl _);have x2:((dT E al).flatMap mU).take ((dT E al).length*3)=(dT E al).flatMap mU:=List.take_of_length_le (by rw[aQ (f:=mU) (n:=3) qn];exact Nat.le_refl _);generalize cC E al=NI at tE x1;generalize dT E al=NP at tP x2;refine aa.le (Le.trim [6] [0,4,6,7] 8 (by simp only[cG,mo,jH,sy];simp[-List.all_eq_true,-List.all_flatMap,aj tE,aj tP,yg]) yA) ?_;simp;refine aa.le (Le.dC (o:=6) rfl tE) ?_;simp[jH,sy,x1,dv tP];refine aa.le (Le.dC (o:=7) rfl tP) ?_;simp[x2];refine aa.le (Le.nz [] [4]) ?_;simp[yg];refine aa.le (Le.dC (o:=4) rfl (by simp[trees,tree])) ?_;simp[cG,mo];refine aa.trim [6] [0] 3 j5 yA ⟨_,?_,rfl,?_,rfl⟩
   ·simp[cK,bC,eS,pO,Q9]
   ·simp
def eT (p:Pg)(E:List En)(k st a cl b sl:Nat):Ob:=⟨178,0,[.au (p.gs.flatMap mL) p.gs.length,.au (p.ms.flatMap eQ) p.ms.length,.au (p.fs.flatMap ed) p.fs.length,.au (E.flatMap gq) E.length,I k,I st,I 0,I 0,.bw a 0 cl,.bw b 0 sl]⟩
theorem uF (p:Pg)(E:List En)(k st cl sl:Nat):cG p E k st cl sl=eT p E k st 1 cl 2 sl:=rfl
set_option maxHeartbeats 4000000 in
theorem HD (p:Pg)(E:List En)(k st:Nat)(X:List CV)(N:Nat)(hX:X.length=N*12)(tX:trees X=true)(S:List CV)(M:Nat)(hS:S.length=M)(tS:trees S=true)(hN:N≤10000)(hM:M≤10000)
  (cs:List CV) (Kr:cs.length=12) (LS:trees cs=true) (n:Int) :
  Body Tryz.prog ak 85 [.ai 0 0,.agg cs,I n] [(0,eT p E k st 1 N 2 M),(1,⟨136,12,X⟩),(2,⟨3,1,S⟩)] 3 (jQ (I N) [(0,eT p E k st 3 (N+1) 4 (M+1)),(3,⟨136,12,X++cs⟩),(4,⟨3,1,S++[I n]⟩)] (3+2)):=by
 refine Body.je Tryz.func85 rfl lz (by simp[Tryz.ntmps85]) fun C hC xJ=>?_;rw[Tryz.ntmps85] at hC;apply ah;simp[hC];have K1:(N+1)*168≤140737488355328:=by omega
 have K0:(M+1)*8≤140737488355328:=by omega
 have Ze:List.take 12 cs=cs:=List.take_of_length_le yA;apply T.seq;refine T.rx af follows [0,1,2,3,4,5,6,7,8,9,10,11,12,13,14,15,16,17,18,19,20,21] [(5,7),(5,14),(6,14),(7,12),(7,14),(8,12),(8,14),(12,14)] lz ?_;simp[hC,eT,hX,hS,Kr,Ze,K1,K0,aS];have w1:=cm (N:Int) yA yA;apply ah;simp[hC,w1];apply T.ret;have tXc:trees (X++cs)=true:=by rw[bu,tX,LS];rfl
 have tSn:trees (S++[I n])=true:=by rw[bu,tS];rfl
 refine aa.le (Le.trim [6] [0,26,27] 28 (by simp[-List.all_eq_true,-List.all_flatMap,aj tX,aj LS,aj tS]) yA) ?_;simp;refine aa.le (Le.mq 26 3 rfl rfl yA j5 j5 (by simp[-List.all_eq_true,-List.all_flatMap,aY tX,aY LS,aY tS])) ?_;simp[aM tX,aM LS,aM tS];refine aa.le (Le.mq 27 4 rfl rfl yA j5 j5 (by simp[-List.all_eq_true,-List.all_flatMap,aY tX,aY LS,aY tS])) ?_;simp[aM tX,aM LS,aM tS];refine aa.trim [6] [0,3,4] 5 (by simp[-List.all_eq_true,-List.all_flatMap,aj tX,aj LS,aj tS]) yA ⟨_,?_,rfl,?_,rfl⟩
 ·simp
 ·simp
end Go.Proofs.YtlkmbdfhdknlgaaGreatDoor
